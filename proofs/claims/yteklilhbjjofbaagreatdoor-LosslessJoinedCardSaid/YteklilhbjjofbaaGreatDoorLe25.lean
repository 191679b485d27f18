/- A part of the proof: Ch25 X31 Cc4 Sp1 Sp2 Sp3 Sp4. -/
import Derived.Test.YteklilhbjjofbaaGreatDoorLe24
set_option linter.all false
set_option maxRecDepth 100000
set_option maxHeartbeats 1000000
namespace Go.Hx
section
section
variable {a b:Int}
def aaa {n:Int} {l:List Rw} {p m:List Fd} {mu:Bool} {i:Int} (h:¬ ckE n l p m = 0):gt n l p m mu i a b = (0,[],ckE n l p m):=if_neg h
def iq {n:Int} {l:List Rw} {p m:List Fd} {mu:Bool} {i:Int} (h:ckE n l p m = 0) (h3:go l p m mu i a b):gt n l p m mu i a b = (0,[],1):=(if_pos h).trans (if_pos h3)
def a30 {n:Int} {l:List Rw} {p m:List Fd} {mu:Bool} {i:Int} (h:ckE n l p m = 0) (h3:¬ go l p m mu i a b):gt n l p m mu i a b = c8 n l p m (mu,i.toNat,a.toNat,b.toNat):=(if_pos h).trans (if_neg h3)
def k6 (h:(if b < a then b else a) < 0):a < 0 \/ b < 0:=by split at h <;> omega
def jy {k:Int} (h:k <= (if a < b then b else a)):k <= a \/ k <= b:=by split at h <;> omega
def aj0 (h:¬ (if b < a then b else a) < 0):0 <= a /\ 0 <= b:=by split at h <;> omega
def ajp {k:Int} (h:¬ k <= (if a < b then b else a)):a < k /\ b < k:=by split at h <;> omega
def stQ (x y:St):Bool:=(x.1 == y.1) && (decide ((x.2.1:Int) = (y.2.1:Int)) && (decide ((x.2.2.1:Int) = (y.2.2.1:Int)) && decide ((x.2.2.2:Int) = (y.2.2.2:Int))))
end
end
section
open Go.Proofs
def ams (n:Int) (l:List Rw) (p m:List Fd) (i a b:Int):aa b65 48 [pT n l,pP (fdl p),pP (fdl m), .agg [.raw (.bool true), .raw (.int .i64 i), .raw (.int .i64 a), .raw (.int .i64 b)]] (af [pT (gt n l p m true i a b).1 (gt n l p m true i a b).2.1,pI (gt n l p m true i a b).2.2]):=by
 refine hpx (nt:=69) Tryz.func48 ?_;refine sx7 ?_;refine m9 0 ?_;refine m9 1 ?_;refine m9 2 ?_;refine w_8 ?_;refine qcx a9h (a2u n l p m) ?_;refine w_7 ?_;refine hcn (fun h0=>?_) (fun h0=>?_)
 · refine w_7 ?_;refine hrr ?_;have he:=aaa (n:=n) (l:=l) (p:=p) (m:=m) (mu:=true) (i:=i) (a:=a) (b:=b) b5i;exact f9 rfl rfl (by rw [he];exact ⟨CoC.agg ⟨CoP.refl _,c9,trivial⟩,CoC.refl _,trivial⟩)
 have hck:ckE n l p m = 0:=by assumption
 obtain ⟨hT,hbe,hpa⟩:=aa6 hck;refine ayy ?_;refine ab rfl rfl (fun r1=>?_) (fun r1=>?_)
 ·
  have h1:=tz1 r1;(iterate 4 refine k9 (gtf r1) ?_);refine w_2 ?_;(iterate 5 refine k9 rfl ?_);refine w_2 ?_;(iterate 6 refine k9 rfl ?_);refine w_2 ?_;(iterate 9 refine k9 rfl ?_);refine w_9 ?_;refine hrr ?_
  have hbad:go l p m true i a b:=by
   first
    | exact bdS
    | (refine (k6 (a:=a) (b:=b) ?_).elim (fun hq=>?_) (fun hq=>?_) <;> first | assumption | exact bdS)
    | (refine (jy (a:=a) (b:=b) (k:=(l.length:Int)) ?_).elim (fun hq=>?_) (fun hq=>?_) <;> first | assumption | exact bdS)
  have he:=iq hck hbad;exact f9 rfl rfl (by rw [he];exact ⟨CoC.agg ⟨CoP.refl _,c9,trivial⟩,CoC.refl _,trivial⟩)
 have h1:=tz2 r1;(iterate 4 refine qy ?_ (hg:=(gff r1)));refine w_2 ?_;refine ab rfl rfl (fun r2=>?_) (fun r2=>?_)
 ·
  have h2:=tz1 (ao r1 r2);(iterate 5 refine k9 (gtf r2) ?_);refine w_2 ?_;(iterate 6 refine k9 rfl ?_);refine w_2 ?_;(iterate 9 refine k9 rfl ?_);refine w_9 ?_;refine hrr ?_
  have hbad:go l p m true i a b:=by
   first
    | exact bdS
    | (refine (k6 (a:=a) (b:=b) ?_).elim (fun hq=>?_) (fun hq=>?_) <;> first | assumption | exact bdS)
    | (refine (jy (a:=a) (b:=b) (k:=(l.length:Int)) ?_).elim (fun hq=>?_) (fun hq=>?_) <;> first | assumption | exact bdS)
  have he:=iq hck hbad;exact f9 rfl rfl (by rw [he];exact ⟨CoC.agg ⟨CoP.refl _,c9,trivial⟩,CoC.refl _,trivial⟩)
 have h2:=tz2 (ao r1 r2);(iterate 5 refine qy ?_ (hg:=(gff r2)));refine w_2 ?_;refine ab rfl rfl (fun r3=>?_) (fun r3=>?_)
 ·
  have h3:=tz1 (ao r2 r3);(iterate 6 refine k9 (gtf r3) ?_);refine w_2 ?_;(iterate 9 refine k9 rfl ?_);refine w_9 ?_;refine hrr ?_
  have hbad:go l p m true i a b:=by
   first
    | exact bdS
    | (refine (k6 (a:=a) (b:=b) ?_).elim (fun hq=>?_) (fun hq=>?_) <;> first | assumption | exact bdS)
    | (refine (jy (a:=a) (b:=b) (k:=(l.length:Int)) ?_).elim (fun hq=>?_) (fun hq=>?_) <;> first | assumption | exact bdS)
  have he:=iq hck hbad;exact f9 rfl rfl (by rw [he];exact ⟨CoC.agg ⟨CoP.refl _,c9,trivial⟩,CoC.refl _,trivial⟩)
 have h3:=tz2 (ao r2 r3);(iterate 6 refine qy ?_ (hg:=(gff r3)));refine w_2 ?_;refine ab rfl rfl (fun r4=>?_) (fun r4=>?_)
 ·
  have h4:=tz1 (ao r3 r4);(iterate 9 refine k9 (gtf r4) ?_);refine w_9 ?_;refine hrr ?_
  have hbad:go l p m true i a b:=by
   first
    | exact bdS
    | (refine (k6 (a:=a) (b:=b) ?_).elim (fun hq=>?_) (fun hq=>?_) <;> first | assumption | exact bdS)
    | (refine (jy (a:=a) (b:=b) (k:=(l.length:Int)) ?_).elim (fun hq=>?_) (fun hq=>?_) <;> first | assumption | exact bdS)
  have he:=iq hck hbad;exact f9 rfl rfl (by rw [he];exact ⟨CoC.agg ⟨CoP.refl _,c9,trivial⟩,CoC.refl _,trivial⟩)
 have h4:=tz2 (ao r3 r4);(iterate 9 refine qy ?_ (hg:=(gff r4)));refine w_2 ?_;refine aj _ rfl (fun r5=>?_) (fun r5=>?_)
 ·
  have h5:=tz1 (ao r4 r5);refine w_6 ?_;refine hrr ?_
  have hbad:go l p m true i a b:=by
   first
    | exact bdS
    | (refine (k6 (a:=a) (b:=b) ?_).elim (fun hq=>?_) (fun hq=>?_) <;> first | assumption | exact bdS)
    | (refine (jy (a:=a) (b:=b) (k:=(l.length:Int)) ?_).elim (fun hq=>?_) (fun hq=>?_) <;> first | assumption | exact bdS)
  have he:=iq hck hbad;exact f9 rfl rfl (by rw [he];exact ⟨CoC.agg ⟨CoP.refl _,c9,trivial⟩,CoC.refl _,trivial⟩)
 have h5:=tz2 (ao r4 r5);refine w_2 ?_;obtain ⟨ha0,hb0⟩:=aj0 (a:=a) (b:=b) b5i;obtain ⟨hal,hbl⟩:=ajp (a:=a) (b:=b) (k:=(l.length:Int)) b5i
 have hnb:¬ go l p m true i a b:=by
  unfold go;rintro (h | h | h | h | h | h | ⟨h,h2⟩ | ⟨h,h2⟩) <;> first | omega | cases h
 have ha:a.toNat < l.length:=by omega
 have hb:b.toNat < l.length:=by omega
 have hi:i.toNat < m.length:=by omega
 refine w_5 ?_;refine rc rfl rfl rfl rfl rfl rfl acf (af5 n l p m i.toNat a.toNat b.toNat hT ha hb hi) (⟨CoC.refl _,CoC.refl _,CoC.refl _,CoC.agg ⟨CoP.refl _,CoP.of_eq (by rw [b4u b5h]),CoP.of_eq (by rw [b4u b5h]),CoP.of_eq (by rw [b4u b5h]),trivial⟩,trivial⟩) rfl rfl ?_;refine w_5 ?_;refine hrr ?_;have he:=a30 (n:=n) (i:=i) (a:=a) (b:=b) hck hnb;exact f9 rfl rfl (by rw [he];exact CoL.refl _)
def ala (n:Int) (l:List Rw) (p m:List Fd) (i a b:Int):aa b65 48 [pT n l,pP (fdl p),pP (fdl m), .agg [.raw (.bool false), .raw (.int .i64 i), .raw (.int .i64 a), .raw (.int .i64 b)]] (af [pT (gt n l p m false i a b).1 (gt n l p m false i a b).2.1,pI (gt n l p m false i a b).2.2]):=by
 refine hpx (nt:=69) Tryz.func48 ?_;refine sx7 ?_;refine m9 0 ?_;refine m9 1 ?_;refine m9 2 ?_;refine w_8 ?_;refine qcx a9h (a2u n l p m) ?_;refine w_7 ?_;refine hcn (fun h0=>?_) (fun h0=>?_)
 · refine w_7 ?_;refine hrr ?_;have he:=aaa (n:=n) (l:=l) (p:=p) (m:=m) (mu:=false) (i:=i) (a:=a) (b:=b) b5i;exact f9 rfl rfl (by rw [he];exact ⟨CoC.agg ⟨CoP.refl _,c9,trivial⟩,CoC.refl _,trivial⟩)
 have hck:ckE n l p m = 0:=by assumption
 obtain ⟨hT,hbe,hpa⟩:=aa6 hck;refine ali ?_;refine ab rfl rfl (fun r1=>?_) (fun r1=>?_)
 ·
  have h1:=tz1 r1;(iterate 4 refine k9 (gtf r1) ?_);refine w_2 ?_;(iterate 5 refine k9 rfl ?_);refine w_2 ?_;(iterate 6 refine k9 rfl ?_);refine w_2 ?_;(iterate 9 refine k9 rfl ?_);refine w_9 ?_;refine hrr ?_
  have hbad:go l p m false i a b:=by
   first
    | exact bdS
    | (refine (k6 (a:=a) (b:=b) ?_).elim (fun hq=>?_) (fun hq=>?_) <;> first | assumption | exact bdS)
    | (refine (jy (a:=a) (b:=b) (k:=(l.length:Int)) ?_).elim (fun hq=>?_) (fun hq=>?_) <;> first | assumption | exact bdS)
  have he:=iq hck hbad;exact f9 rfl rfl (by rw [he];exact ⟨CoC.agg ⟨CoP.refl _,c9,trivial⟩,CoC.refl _,trivial⟩)
 have h1:=tz2 r1;(iterate 4 refine qy ?_ (hg:=(gff r1)));refine w_2 ?_;refine ab rfl rfl (fun r2=>?_) (fun r2=>?_)
 ·
  have h2:=tz1 (ao r1 r2);(iterate 5 refine k9 (gtf r2) ?_);refine w_2 ?_;(iterate 6 refine k9 rfl ?_);refine w_2 ?_;(iterate 9 refine k9 rfl ?_);refine w_9 ?_;refine hrr ?_
  have hbad:go l p m false i a b:=by
   first
    | exact bdS
    | (refine (k6 (a:=a) (b:=b) ?_).elim (fun hq=>?_) (fun hq=>?_) <;> first | assumption | exact bdS)
    | (refine (jy (a:=a) (b:=b) (k:=(l.length:Int)) ?_).elim (fun hq=>?_) (fun hq=>?_) <;> first | assumption | exact bdS)
  have he:=iq hck hbad;exact f9 rfl rfl (by rw [he];exact ⟨CoC.agg ⟨CoP.refl _,c9,trivial⟩,CoC.refl _,trivial⟩)
 have h2:=tz2 (ao r1 r2);(iterate 5 refine qy ?_ (hg:=(gff r2)));refine w_2 ?_;refine ab rfl rfl (fun r3=>?_) (fun r3=>?_)
 ·
  have h3:=tz1 (ao r2 r3);(iterate 6 refine k9 (gtf r3) ?_);refine w_2 ?_;(iterate 9 refine k9 rfl ?_);refine w_9 ?_;refine hrr ?_
  have hbad:go l p m false i a b:=by
   first
    | exact bdS
    | (refine (k6 (a:=a) (b:=b) ?_).elim (fun hq=>?_) (fun hq=>?_) <;> first | assumption | exact bdS)
    | (refine (jy (a:=a) (b:=b) (k:=(l.length:Int)) ?_).elim (fun hq=>?_) (fun hq=>?_) <;> first | assumption | exact bdS)
  have he:=iq hck hbad;exact f9 rfl rfl (by rw [he];exact ⟨CoC.agg ⟨CoP.refl _,c9,trivial⟩,CoC.refl _,trivial⟩)
 have h3:=tz2 (ao r2 r3);(iterate 6 refine qy ?_ (hg:=(gff r3)));refine w_2 ?_;refine ab rfl rfl (fun r4=>?_) (fun r4=>?_)
 ·
  have h4:=tz1 (ao r3 r4);(iterate 9 refine k9 (gtf r4) ?_);refine w_9 ?_;refine hrr ?_
  have hbad:go l p m false i a b:=by
   first
    | exact bdS
    | (refine (k6 (a:=a) (b:=b) ?_).elim (fun hq=>?_) (fun hq=>?_) <;> first | assumption | exact bdS)
    | (refine (jy (a:=a) (b:=b) (k:=(l.length:Int)) ?_).elim (fun hq=>?_) (fun hq=>?_) <;> first | assumption | exact bdS)
  have he:=iq hck hbad;exact f9 rfl rfl (by rw [he];exact ⟨CoC.agg ⟨CoP.refl _,c9,trivial⟩,CoC.refl _,trivial⟩)
 have h4:=tz2 (ao r3 r4);(iterate 9 refine qy ?_ (hg:=(gff r4)));refine w_2 ?_;refine aj _ rfl (fun r5=>?_) (fun r5=>?_)
 ·
  have h5:=tz1 (ao r4 r5);refine w_6 ?_;refine hrr ?_
  have hbad:go l p m false i a b:=by
   first
    | exact bdS
    | (refine (k6 (a:=a) (b:=b) ?_).elim (fun hq=>?_) (fun hq=>?_) <;> first | assumption | exact bdS)
    | (refine (jy (a:=a) (b:=b) (k:=(l.length:Int)) ?_).elim (fun hq=>?_) (fun hq=>?_) <;> first | assumption | exact bdS)
  have he:=iq hck hbad;exact f9 rfl rfl (by rw [he];exact ⟨CoC.agg ⟨CoP.refl _,c9,trivial⟩,CoC.refl _,trivial⟩)
 have h5:=tz2 (ao r4 r5);refine w_2 ?_;obtain ⟨ha0,hb0⟩:=aj0 (a:=a) (b:=b) b5i;obtain ⟨hal,hbl⟩:=ajp (a:=a) (b:=b) (k:=(l.length:Int)) b5i
 have hnb:¬ go l p m false i a b:=by
  unfold go;rintro (h | h | h | h | h | h | ⟨h,h2⟩ | ⟨h,h2⟩) <;> first | omega | cases h
 have ha:a.toNat < l.length:=by omega
 have hb:b.toNat < l.length:=by omega
 have hi:i.toNat < p.length:=by omega
 refine w_5 ?_;refine rc rfl rfl rfl rfl rfl rfl acf (af8 n l p m i.toNat a.toNat b.toNat hT ha hb hi (b3c.1 hpa _ (d6 hi))) (⟨CoC.refl _,CoC.refl _,CoC.refl _,CoC.agg ⟨CoP.refl _,CoP.of_eq (by rw [b4u b5h]),CoP.of_eq (by rw [b4u b5h]),CoP.of_eq (by rw [b4u b5h]),trivial⟩,trivial⟩) rfl rfl ?_;refine w_5 ?_;refine hrr ?_;have he:=a30 (n:=n) (i:=i) (a:=a) (b:=b) hck hnb;exact f9 rfl rfl (by rw [he];exact CoL.refl _)
end
section
open Go.Proofs
abbrev Rcp.fs (d:Rcp) (k:Nat):List Fd:=d.f.map (Dp.fd (d.num k))
abbrev Rcp.ms (d:Rcp) (k:Nat):List Fd:=d.m.map (Dp.fd (d.num k))
abbrev Rcp.ps (d:Rcp) (k:Nat):List AS:=d.p.map (u8S (d.num k))
abbrev Rcp.t0 (d:Rcp) (k:Nat):List Rw:=au (av (d.num k) (d.ps k))
section
variable {n:Int} {p m:List Fd} {l0 l:List Rw}
end
def ae3 (n:Int) (l:List Rw) (p m:List Fd) (mu:Bool) (i a b:Int):aa b65 48 [pT n l,pP (fdl p),pP (fdl m), .agg [.raw (.bool mu), .raw (.int .i64 i), .raw (.int .i64 a), .raw (.int .i64 b)]] (af [pT (gt n l p m mu i a b).1 (gt n l p m mu i a b).2.1,pI (gt n l p m mu i a b).2.2]):=by
 cases mu with
 | false=>exact ala n l p m i a b
 | true=>exact ams n l p m i a b
def aio {n:Int} {l:List Rw} {p m:List Fd} {s:St} (hT:tok n l = true) (hb:cj n p m = 0) (h:vg l p m s):gt n l p m s.1 s.2.1 s.2.2.1 s.2.2.2 = c8 n l p m s:=by
 obtain ⟨mu,i,a,b⟩:=s;have hck:ckE n l p m = 0:=(if_pos hT).trans hb;obtain ⟨ha,hbb,h⟩:=h;have ha:a < l.length:=ha;have hbb:b < l.length:=hbb
 have hne:¬ a = b:=by
  rintro rfl
  rcases h with ⟨_,_,h⟩ | ⟨_,_,h⟩
  · rw [show f0 l (p.getD i default) a a = false from ag8] at h;cases h
  rw [show ez l (m.getD i default) a a = false from ahd ha] at h;cases h
 show gt n l p m mu (i:Int) (a:Int) (b:Int) = _;rw [a30 hck]
 · rfl
 unfold go
 rcases h with ⟨h1,h2,_⟩ | ⟨h1,h2,_⟩
 · have h1:mu = false:=h1
   subst h1;have h2:i < p.length:=h2;rintro (h | h | h | h | h | h | ⟨h,h3⟩ | ⟨h,h3⟩) <;> first | omega | cases h
 have h1:mu = true:=h1;subst h1;have h2:i < m.length:=h2;rintro (h | h | h | h | h | h | ⟨h,h3⟩ | ⟨h,h3⟩) <;> first | omega | cases h
def ahq (n:Int) (l:List Rw) (p m:List Fd) (s:St) (hT:tok n l = true) (hb:cj n p m = 0) (h:vg l p m s) (he:c8 n l p m s = (n,(c8 n l p m s).2.1,0)):aa b65 48 [pT n l,pP (fdl p),pP (fdl m),s.pc] (af [pT n (c8 n l p m s).2.1,pI 0]):=by
 have:=ae3 n l p m s.1 s.2.1 s.2.2.1 s.2.2.2;rw [aio hT hb h,he] at this;exact this
end
section
def sgn (a b:Int):Int:=if a < b then -1 else if b < a then 1 else 0
def bAt (s:ByteArray) (i:Nat):Int:=bn s i
def ey:List UInt8 -> List UInt8 -> Int
 | [],[]=>0
 | [],_ :: _=>-1
 | _ :: _,[]=>1
 | x :: xs,y :: ys=>if x = y then ey xs ys else sgn x.toNat y.toNat
abbrev bl (s:ByteArray):List UInt8:=s.data.toList
def j4 (a b:ByteArray):Int:=ey (bl a) (bl b)
def en (s:ByteArray):(bl s).length = s.size:=b3a
def a7f:∀ (i:Nat) (a b:List UInt8),i < a.length -> i < b.length -> a.getD i 0 = b.getD i 0 -> ey (a.drop i) (b.drop i) = ey (a.drop (i + 1)) (b.drop (i + 1))
 | 0,x :: xs,y :: ys,_,_,h=>by
  simp only [List.getD_cons_zero] at h;simp [ey,h]
 | i + 1,x :: xs,y :: ys,h1,h2,h=>by
  simp only [List.getD_cons_succ] at h;simpa using a7f i xs ys (by simpa using h1) (by simpa using h2) h
 | _,[],_,h1,_,_=>by simp at h1
 | _,_ :: _,[],_,h2,_=>by simp at h2
def a7t:∀ (i:Nat) (a b:List UInt8),i < a.length -> i < b.length -> a.getD i 0 ≠ b.getD i 0 -> ey (a.drop i) (b.drop i) = sgn (a.getD i 0).toNat (b.getD i 0).toNat
 | 0,x :: xs,y :: ys,_,_,h=>by
  simp only [List.getD_cons_zero] at h;simp [ey,h]
 | i + 1,x :: xs,y :: ys,h1,h2,h=>by
  simp only [List.getD_cons_succ] at h ⊢;simpa using a7t i xs ys (by simpa using h1) (by simpa using h2) h
 | _,[],_,h1,_,_=>by simp at h1
 | _,_ :: _,[],_,h2,_=>by simp at h2
def a2l:∀ (i:Nat) (a b:List UInt8),i <= a.length -> i <= b.length -> (i = a.length \/ i = b.length) -> ey (a.drop i) (b.drop i) = sgn a.length b.length
 | 0,[],[],_,_,_=>by simp [ey,sgn]
 | 0,[],_ :: _,_,_,_=>by simp [ey,sgn] <;> omega
 | 0,_ :: _,[],_,_,_=>by simp [ey,sgn] <;> omega
 | 0,_ :: _,_ :: _,_,_,h=>by simp at h
 | i + 1,x :: xs,y :: ys,h1,h2,h=>by
  have:=a2l i xs ys (by simpa using h1) (by simpa using h2) (by simpa using h);simp only [List.drop_succ_cons,this,b3r,sgn]
  repeat' split
  all_goals first | rfl | omega
 | i + 1,[],_,h1,_,_=>by simp at h1
 | i + 1,_ :: _,[],_,h2,_=>by simp at h2
def a85:∀ {a b:List UInt8},ey a b = 0 <-> a = b
 | [],[]=>by simp [ey]
 | [],_ :: _=>by simp [ey]
 | _ :: _,[]=>by simp [ey]
 | x :: xs,y :: ys=>by
  simp only [ey];by_cases h:x = y
  · simp [h,a85]
  have:¬ x.toNat = y.toNat:=fun e=>h (UInt8.toNat_inj.1 e);simp only [h,if_false,sgn,b4w,false_and,iff_false]
  repeat' split
  all_goals omega
def a5d (a b:ByteArray) (i j:Nat):bn a i = bn b j <-> (bl a).getD i 0 = (bl b).getD j 0:=by
 unfold bn;rw [Int.natCast_inj,UInt8.toNat_inj]
def a1x {a b:ByteArray}:j4 a b = 0 <-> a = b:=by
 unfold j4;rw [a85];exact ⟨fun h=>ByteArray.ext (Array.ext' h),fun h=>by rw [h]⟩
def dl (a b:Val):Int :=
 if sgn a.kind b.kind ≠ 0 then sgn a.kind b.kind else if sgn a.num b.num ≠ 0 then sgn a.num b.num else j4 a.str b.str
def jw {a b:Int}:sgn a b = 0 <-> a = b:=by
 unfold sgn
 repeat' split
 all_goals omega
def uf {a b:Val}:dl a b = 0 <-> a = b:=by
 unfold dl;cases a;cases b;simp only [Val.mk.injEq];split
 · rename_i h;rw [Ne,jw] at h
   constructor
   · intro e;rw [jw] at e;exact absurd e h
   rintro ⟨e,_⟩;exact absurd e h
 rename_i h;rw [Ne,jw,Classical.not_not] at h;split
 · rename_i h2;rw [Ne,jw] at h2
   constructor
   · intro e;rw [jw] at e;exact absurd e h2
   rintro ⟨_,e,_⟩;exact absurd e h2
 rename_i h2;rw [Ne,jw,Classical.not_not] at h2;rw [a1x];exact ⟨fun e=>⟨h,h2,e⟩,fun e=>e.2.2⟩
def br:List Val -> List Val -> Int
 | [],[]=>0
 | [],_ :: _=>-1
 | _ :: _,[]=>1
 | x :: xs,y :: ys=>if dl x y ≠ 0 then dl x y else br xs ys
def a44:∀ (i:Nat) (a b:List Val),i < a.length -> i < b.length -> dl (a.getD i default) (b.getD i default) = 0 -> br (a.drop i) (b.drop i) = br (a.drop (i + 1)) (b.drop (i + 1))
 | 0,x :: xs,y :: ys,_,_,h=>by
  simp only [List.getD_cons_zero] at h;simp [br,h]
 | i + 1,x :: xs,y :: ys,h1,h2,h=>by
  simp only [List.getD_cons_succ] at h;simpa using a44 i xs ys (by simpa using h1) (by simpa using h2) h
 | _,[],_,h1,_,_=>by simp at h1
 | _,_ :: _,[],_,h2,_=>by simp at h2
def a4p:∀ (i:Nat) (a b:List Val),i < a.length -> i < b.length -> dl (a.getD i default) (b.getD i default) ≠ 0 -> br (a.drop i) (b.drop i) = dl (a.getD i default) (b.getD i default)
 | 0,x :: xs,y :: ys,_,_,h=>by
  simp only [List.getD_cons_zero] at h;simp [br,h]
 | i + 1,x :: xs,y :: ys,h1,h2,h=>by
  simp only [List.getD_cons_succ] at h ⊢;simpa using a4p i xs ys (by simpa using h1) (by simpa using h2) h
 | _,[],_,h1,_,_=>by simp at h1
 | _,_ :: _,[],_,h2,_=>by simp at h2
def a03:∀ (i:Nat) (a b:List Val),i <= a.length -> i <= b.length -> (i = a.length \/ i = b.length) -> br (a.drop i) (b.drop i) = sgn a.length b.length
 | 0,[],[],_,_,_=>by simp [br,sgn]
 | 0,[],_ :: _,_,_,_=>by simp [br,sgn] <;> omega
 | 0,_ :: _,[],_,_,_=>by simp [br,sgn] <;> omega
 | 0,_ :: _,_ :: _,_,_,h=>by simp at h
 | i + 1,x :: xs,y :: ys,h1,h2,h=>by
  have:=a03 i xs ys (by simpa using h1) (by simpa using h2) (by simpa using h);simp only [List.drop_succ_cons,this,b3r,sgn]
  repeat' split
  all_goals first | rfl | omega
 | i + 1,[],_,h1,_,_=>by simp at h1
 | i + 1,_ :: _,[],_,h2,_=>by simp at h2
def xg:∀ {a b:List Val},br a b = 0 <-> a = b
 | [],[]=>by simp [br]
 | [],_ :: _=>by simp [br]
 | _ :: _,[]=>by simp [br]
 | x :: xs,y :: ys=>by
  simp only [br];split
  · rename_i h
    refine ⟨fun e=>absurd e h,fun e=>?_⟩;simp only [b4w] at e;exact absurd (uf.2 e.1) h
  rename_i h;rw [Ne,Classical.not_not,uf] at h;simp [h,xg]
end
section
abbrev emp:ByteArray:=⟨#[]⟩
def bp (v:Val):Bool :=
 if v.kind = 0 then decide (v.num = 0) && decide (v.str = emp)
 else if v.kind = 1 then decide (v.str = emp)
 else if v.kind = 2 then decide (v.num = 0) && decide (v.str.size <= 200)
 else decide (v.kind = 3) && decide (1 <= v.num) && decide (v.str = emp)
def Val.ok (v:Val):Prop:=v.str.size <= 68719476736
def l7 (l:List Val):Prop:=∀ j,j < l.length -> (l.getD j default).ok
def Row.ok (r:Row):Prop:=r.vals.length <= 68719476736 /\ l7 r.vals
def qe (l:List Row):Prop:=∀ j,j < l.length -> (l.getD j default).ok
def Tbl.ok (t:Tbl):Prop:=t.attrs.length <= 68719476736 /\ t.rows.length <= 68719476736 /\ qe t.rows
def b13 (d:DB):Prop:=d.length <= 68719476736 /\ ∀ j,j < d.length -> Tbl.ok (d.getD j default)
def Chg.ok (x:Chg):Prop:=x.table.ok /\ x.row.ok /\ x.value.ok
def b05 (l:List Chg):Prop:=∀ j,j < l.length -> (l.getD j default).ok
def ltr (c:Int):Bool:=(decide (97 <= c) && decide (c <= 122)) || (decide (65 <= c) && decide (c <= 90)) || decide (c = 95)
def dig (c:Int):Bool:=decide (48 <= c) && decide (c <= 57)
abbrev ags:ByteArray:=⟨#[110,117,108,108]⟩
def aca (s:ByteArray):Bool:=(List.range s.size).all fun i=>ltr (bn s i) || dig (bn s i)
def fz (s:ByteArray):Bool:=decide (s.size ≠ 0) && decide (s.size <= 24) && ltr (bn s 0) && decide (s ≠ ags) && aca s
def lq (l:List ByteArray) (s:ByteArray):Int:=idx (fun x=>decide (x = s)) l
def kj (l:List ByteArray) (i:Nat):Bool:=fz (l.getD i default) && decide (lq (l.take i) (l.getD i default) < 0)
def rz (l:List ByteArray):Bool:=(List.range l.length).all (kj l)
def d5 (n:Nat) (before:Int):List Row -> Int
 | []=>0
 | r :: rs=>if r.id <= before then 1 else if r.vals.length ≠ n then 6 else if (r.vals.all bp) = false then 1 else d5 n r.id rs
def bd (t:Tbl):Int :=
 if fz t.name = false then 1 else if 16 < t.attrs.length \/ 1000 < t.rows.length then 3 else if rz t.attrs = false then 1 else d5 t.attrs.length 0 t.rows
section
variable {i:Nat}
def ab6 {n:Nat} {l:List Row} {b:Int} (hi:i < l.length):d5 n b (l.drop i) = if (l.getD i default).id <= b then 1 else if (l.getD i default).vals.length ≠ n then 6 else if ((l.getD i default).vals.all bp) = false then 1 else d5 n (l.getD i default).id (l.drop (i + 1)):=by
 rw [b4i hi,d5];simp only [List.getD,b2h hi,b3l]
def b0s (l:List Row) (id:Int):Option Nat:=l.findIdx? fun r=>decide (r.id = id)
def xm (l:List Row) (id:Int):Int:=idx (fun r=>decide (r.id = id)) l
def uj (d:DB) (s:ByteArray):Int:=idx (fun t=>decide (t.name = s)) d
def axh (d:DB) (t:Tbl):Int:=if bd t ≠ 0 then bd t else if 0 <= uj d t.name then 5 else if 50 <= d.length then 3 else 0
def k7 {p:Nat -> Bool} {n:Nat} (hi:i < n) (h:p i = false):(List.range n).all p = false:=by
 rw [List.all_eq_false];exact ⟨i,b36.2 hi,by simp [h]⟩
def qa {p:Nat -> Bool} {n:Nat} (h:∀ j,j < n -> p j = true):(List.range n).all p = true:=by
 rw [b3c];exact fun j hj=>h j (b36.1 hj)
variable {s:ByteArray}
def ot (h:s.size = 0):fz s = false:=by simp [fz,h]
def mz (h:24 < s.size):fz s = false:=by
 have:¬ s.size <= 24:=by omega
 simp [fz,this]
def tj (h:ltr (bn s 0) = false):fz s = false:=by simp [fz,h]
def yh (hi:(i:Int) = 0) (h:ltr (bn s i) = false):fz s = false:=by
 obtain rfl:i = 0:=by omega
 exact tj h
def ast (hz:0 < i -> ltr (bn s 0) = true) (h:i = 0 -> ltr (bn s i) = true):ltr (bn s 0) = true:=by
 by_cases e:i = 0
 · subst e;exact h rfl
 exact hz b5h
def l4 (h:s = ags):fz s = false:=by simp [fz,h]
def qk (hi:i < s.size) (h1:ltr (bn s i) = false) (h2:dig (bn s i) = false):fz s = false:=by
 have:aca s = false:=k7 hi (by simp [h1,h2]);simp [fz,this]
def ajh (h0:s.size ≠ 0) (h1:s.size <= 24) (h2:ltr (bn s 0) = true) (h3:s ≠ ags) (h4:∀ j,j < s.size -> (ltr (bn s j) || dig (bn s j)) = true):fz s = true:=by
 have:aca s = true:=qa h4;simp [fz,this,h0,h1,h2,h3]
def tf:s.size = 0 <-> s = emp:=by
 constructor
 · intro h
   refine ByteArray.ext (Array.ext' ?_);have:s.data.toList.length = 0:=by rw [b3a];exact h
   exact b3z this
 rintro rfl;rfl
def afg {α:Type} {p:α -> Bool} {l:List α}:decide (0 <= idx p l) = l.any p:=by
 unfold idx
 cases h:l.findIdx? p with
 | none =>
  rw [List.findIdx?_eq_none_iff] at h;have:l.any p = false:=by rw [b3x];intro x hx;simp [h x hx]
  simp [this]
 | some i =>
  rw [b4d] at h;obtain ⟨hi,hp,_⟩:=h;have:l.any p = true:=by rw [b3g];exact ⟨_,b2q hi,hp⟩
  simp [this]
def a9m {α:Type} {p:α -> Bool} {l:List α}:idx p l < l.length:=by
 unfold idx
 cases h:l.findIdx? p with
 | none=>simp;omega
 | some i =>
  rw [b4d] at h;simp [h.1]
def amh {α:Type} [Inhabited α] {p:α -> Bool} {l:List α} (h:0 <= idx p l):(idx p l).toNat < l.length /\ p (l.getD (idx p l).toNat default) = true:=by
 unfold idx at h ⊢
 cases h2:l.findIdx? p with
 | none=>simp [h2] at h
 | some i =>
  rw [b4d] at h2;obtain ⟨hi,hp,_⟩:=h2;simp [List.getD,hi,hp]
def adi {l:List Val}:(!l.any fun v=>!bp v) = l.all bp:=by
 induction l with
 | nil=>rfl
 | cons x l ih=>simp only [List.any_cons,List.all_cons,Bool.not_or,Bool.not_not,ih]
def ofI (k:Int):Val :=
 if k = 0 then ⟨1,0,emp⟩ else if k = 1 then ⟨1,1,emp⟩ else if k = 2 then ⟨1,2,emp⟩ else if k = 3 then ⟨0,0,emp⟩ else if k = 4 then ⟨2,0,⟨#[97]⟩⟩ else if k = 5 then ⟨2,0,⟨#[98]⟩⟩
 else if k = 6 then ⟨2,0,emp⟩ else if k = 7 then ⟨3,1,emp⟩ else if k = 8 then ⟨1, -1,emp⟩ else if k = 9 then ⟨2,0,⟨#[97,98]⟩⟩ else if k = 10 then ⟨3,2,emp⟩ else ⟨1,7,emp⟩
def ofV (c:UInt8):Val:=ofI ((c.toNat:Int) % 12)
def ayn (x:Opn):ByteArray:=[⟨#[114]⟩,⟨#[115]⟩,⟨#[116]⟩,emp].getD (x.name.toNat % 4) default
def b0a (x:Opn):Row:=⟨x.id,x.vals.map ofV⟩
def jp:List ByteArray:=[⟨#[97]⟩,⟨#[98]⟩,⟨#[99]⟩,⟨#[100]⟩,⟨#[101]⟩,⟨#[102]⟩,⟨#[103]⟩,⟨#[104]⟩]
def alb (l:List UInt8) (n:Nat):List Val:=(List.range n).map fun k=>ofV (l.getD k default)
def amd (x:zz) (n:Nat):List Row:=(List.range x.rows.length).map fun (i:Nat)=>⟨1 + (i:Int) * (1 + (x.gap.toNat:Int) % 3),alb (x.rows.getD i default) n⟩
def az5 (x:zz) (n:Nat):Tbl:=⟨⟨#[114]⟩,jp.take n,amd x n⟩
def b0r (x:Opn):Tbl:={ az5 x.t (x.t.attrs.toNat % 4) with name:=ayn x }
end
end
section
abbrev T0:Tbl:=⟨emp,[],[]⟩
def au6 (r:Row):List Row -> List Row
 | []=>[r]
 | x :: xs=>if r.id < x.id then r :: x :: xs else x :: au6 r xs
def aj3 (t:Tbl) (r:Row):Int :=
 if bd t ≠ 0 then bd t else if r.vals.length ≠ t.attrs.length then 6 else if r.id <= 0 \/ r.vals.all bp = false then 1
 else if 0 <= xm t.rows r.id then 5 else if 1000 <= t.rows.length then 3 else 0
def azd (t:Tbl) (r:Row):Tbl:=if aj3 t r = 0 then { t with rows:=au6 r t.rows } else T0
def aib (t:Tbl) (id:Int):Int:=if bd t ≠ 0 then bd t else if 0 <= xm t.rows id then 0 else 4
def ayh (t:Tbl) (id:Int):Tbl:=if aib t id = 0 then { t with rows:=t.rows.eraseIdx (xm t.rows id).toNat } else T0
def aoq (t:Tbl) (id attr:Int) (v:Val):Int :=
 if bd t ≠ 0 then bd t else if ¬ 0 <= xm t.rows id then 4 else if attr < 0 \/ (t.attrs.length:Int) <= attr then 6 else if bp v = false then 1 else 0
def ayk (l:List Row) (i k:Nat) (v:Val):List Row:=l.set i { l.getD i default with vals:=(l.getD i default).vals.set k v }
def az7 (t:Tbl) (id attr:Int) (v:Val):Tbl:=if aoq t id attr v = 0 then { t with rows:=ayk t.rows (xm t.rows id).toNat attr.toNat v } else T0
def au8 (t:Tbl) (c:Chg):Int :=
 if c.kind = 2 then aj3 t c.row
 else if ¬ 0 <= xm t.rows c.row.id then 4
 else if ¬ (t.rows.getD (max (xm t.rows c.row.id) 0).toNat default).vals = c.row.vals then 16
 else if c.kind = 3 then aib t c.row.id
 else aoq t c.row.id c.attr c.value
def aym (t:Tbl) (c:Chg):Tbl:=if c.kind = 2 then azd t c.row else if c.kind = 3 then ayh t c.row.id else az7 t c.row.id c.attr c.value
def agc (d:DB) (s:ByteArray):Tbl:=d.getD (uj d s).toNat default
def a3u (d:DB) (c:Chg):Int :=
 if c.kind = 1 then (if c.name ≠ c.table.name then 1 else axh d c.table)
 else if c.kind < 1 \/ 4 < c.kind then 1
 else if uj d c.name < 0 then 4
 else au8 (agc d c.name) c
def au5 (d:DB) (c:Chg):DB :=
 if a3u d c ≠ 0 then d
 else if c.kind = 1 then d ++ [c.table]
 else d.set (uj d c.name).toNat (aym (agc d c.name) c)
def dbV (d:DB):Prop:=d.length <= 50 /\ ∀ j,j < d.length -> bd (d.getD j default) = 0
def awy (d:DB):List Chg -> Int
 | []=>0
 | c :: cs=>if a3u d c ≠ 0 then a3u d c else awy (au5 d c) cs
def ax4 (d:DB):List Chg -> DB
 | []=>d
 | c :: cs=>if a3u d c ≠ 0 then [] else ax4 (au5 d c) cs
def azi (s:Stt) (l:List Chg):Stt:=if l.length = 0 then s else ⟨s.done ++ [l],[],false,[]⟩
def b26 (s:Stt) (c:Chg):Stt:=if s.opn = true then { s with now:=s.now ++ [c] } else azi s [c]
def axo (x:Opn):Bool:=decide (x.vals.length <= 20) && decide (x.t.rows.length <= 6) && x.t.rows.all fun r=>decide (r.length <= 20)
def few (l:List Opn) (most:Int):Bool:=l.all axo && decide ((l.length:Int) <= most)
end
section
def ab5 {n:Nat} {b:Int} {x:Row} {l:List Row} (h:d5 n b (x :: l) = 0):b < x.id /\ x.vals.length = n /\ x.vals.all bp = true /\ d5 n x.id l = 0:=by
 simp only [d5] at h;split at h
 · omega
 split at h
 · omega
 split at h
 · omega
 rename_i h1 h2 h3;exact ⟨by omega,by omega,by simpa using h3,h⟩
def py {n:Nat}:∀ {l:List Row} {b:Int},d5 n b l = 0 -> ∀ x ∈ l,b < x.id /\ x.vals.length = n /\ x.vals.all bp = true
 | [],_,_,x,hx=>by cases hx
 | y :: l,b,h,x,hx=>by
  obtain ⟨h1,h2,h3,h4⟩:=ab5 h
  rcases b2s.1 hx with rfl | hx
  · exact ⟨h1,h2,h3⟩
  obtain ⟨g1,g2⟩:=py h4 x hx;exact ⟨by omega,g2⟩
abbrev ajm (l:List Row):Prop:=l.Pairwise fun a b=>a.id < b.id
def a3t {n:Nat}:∀ {l:List Row} {b:Int},(∀ x ∈ l,b < x.id /\ x.vals.length = n /\ x.vals.all bp = true) -> ajm l -> d5 n b l = 0
 | [],_,_,_=>rfl
 | y :: l,b,h,hs=>by
  obtain ⟨h1,h2,h3⟩:=h y b5k;unfold ajm at hs;rw [b3h] at hs;simp only [d5];rw [if_neg b5h,if_neg b5h,if_neg (by simp [h3])];exact a3t (fun x hx=>⟨hs.1 x hx,(h x (by simp [hx])).2⟩) hs.2
structure TOk (t:Tbl):Prop where
 nm:fz t.name = true
 na:t.attrs.length <= 16
 nr:t.rows.length <= 1000
 nms:rz t.attrs = true
 rs:d5 t.attrs.length 0 t.rows = 0
def cr {t:Tbl}:bd t = 0 <-> TOk t:=by
 constructor
 · intro h
   unfold bd at h;split at h
   · omega
   split at h
   · omega
   split at h
   · omega
   rename_i h1 h2 h3;exact ⟨by simpa using h1,by omega,by omega,by simpa using h3,h⟩
 rintro ⟨h1,h2,h3,h4,h5⟩;unfold bd;rw [if_neg (by simp [h1]),if_neg b5h,if_neg (by simp [h4]),h5]
def xn {v:Val} (h:bp v = true):v.str.size <= 200:=by
 unfold bp at h;have e0:emp.size = 0:=rfl;split at h
 · simp only [b2p,decide_eq_true_eq] at h;rw [h.2];omega
 split at h
 · simp only [decide_eq_true_eq] at h;rw [h];omega
 split at h
 · simp only [b2p,decide_eq_true_eq] at h;omega
 simp only [b2p,decide_eq_true_eq] at h;rw [h.2];omega
def apg {l:List Val} (h:l.all bp = true):l7 l:=by
 intro j hj;rw [b9 l j hj];have:=xn (b3c.1 h _ (b2q hj));unfold Val.ok;omega
theorem TOk.ok {t:Tbl} (h:TOk t):t.ok:=by
 refine ⟨by have:=h.na;omega,by have:=h.nr;omega,fun j hj=>?_⟩;rw [b9 _ j hj];obtain ⟨_,h2,h3⟩:=py h.rs _ (b2q hj);exact ⟨by have:=h.na;omega,apg h3⟩
def qe.sub {l l':List Row} (h:qe l) (hs:∀ x ∈ l',x ∈ l):qe l':=by
 intro j hj;rw [b9 _ j hj];obtain ⟨k,hk,e⟩:=b35 (hs _ (b2q hj));rw [<- e,<- b9 _ k hk];exact h k hk
def b0k (l:List Row) (k:Nat) (r:Row):List Row:=l.take k ++ r :: l.drop k
theorem TOk.width {t:Tbl} (h:TOk t) {i:Nat} (hi:i < t.rows.length):(t.rows.getD i default).vals.length = t.attrs.length:=by
 rw [b9 _ _ hi];exact (py h.rs _ (b2q hi)).2.1
def avm {d:DB} {s:ByteArray} (h:¬ uj d s < 0):(uj d s).toNat < d.length:=by
 have:=a9m (p:=fun t:Tbl=>decide (t.name = s)) (l:=d);unfold uj at *;omega
def dbV.at {d:DB} (h:dbV d) {s:ByteArray} (hs:¬ uj d s < 0):TOk (agc d s):=cr.1 (h.2 _ (avm hs))
end
end Go.Hx
