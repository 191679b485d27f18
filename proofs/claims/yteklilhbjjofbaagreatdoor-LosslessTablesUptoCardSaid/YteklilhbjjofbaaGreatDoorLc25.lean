/- A part of the proof: Ch25 X31 Cc4 Sp1 Sp2 Sp3 Sp4. -/
import Derived.Test.YteklilhbjjofbaaGreatDoorLc24
set_option linter.all false
set_option maxRecDepth 100000
set_option maxHeartbeats 1000000
namespace Go.Hx
section
section
variable {a b:Int}
def a9w {n:Int} {l:List Rw} {p m:List Fd} {mu:Bool} {i:Int} (h:¬ ckE n l p m = 0):gr n l p m mu i a b = (0,[],ckE n l p m):=if_neg h
def ir {n:Int} {l:List Rw} {p m:List Fd} {mu:Bool} {i:Int} (h:ckE n l p m = 0) (h3:gp l p m mu i a b):gr n l p m mu i a b = (0,[],1):=(if_pos h).trans (if_pos h3)
def a2e {n:Int} {l:List Rw} {p m:List Fd} {mu:Bool} {i:Int} (h:ckE n l p m = 0) (h3:¬ gp l p m mu i a b):gr n l p m mu i a b = c8 n l p m (mu,i.toNat,a.toNat,b.toNat):=(if_pos h).trans (if_neg h3)
def jy (h:(if b < a then b else a) < 0):a < 0 \/ b < 0:=by split at h <;> omega
def jx {k:Int} (h:k <= (if a < b then b else a)):k <= a \/ k <= b:=by split at h <;> omega
def ai4 (h:¬ (if b < a then b else a) < 0):0 <= a /\ 0 <= b:=by split at h <;> omega
def aiy {k:Int} (h:¬ k <= (if a < b then b else a)):a < k /\ b < k:=by split at h <;> omega
def stQ (x y:St):Bool:=(x.1 == y.1) && (decide ((x.2.1:Int) = (y.2.1:Int)) && (decide ((x.2.2.1:Int) = (y.2.2.1:Int)) && decide ((x.2.2.2:Int) = (y.2.2.2:Int))))
end
end
section
open Go.Proofs
def akz (n:Int) (l:List Rw) (p m:List Fd) (i a b:Int):a8 b6g 48 [pT n l,pP (fdl p),pP (fdl m), .agg [.raw (.bool true), .raw (.int .i64 i), .raw (.int .i64 a), .raw (.int .i64 b)]] (ab [pT (gr n l p m true i a b).1 (gr n l p m true i a b).2.1,pI (gr n l p m true i a b).2.2]):=by
 refine hpx (nt:=69) Tryz.func48 ?_;refine sx7 ?_;refine m9 0 ?_;refine m9 1 ?_;refine m9 2 ?_;refine w_8 ?_;refine qcx ab7 (a2s n l p m) ?_;refine w_7 ?_;refine hcn (fun h0=>?_) (fun h0=>?_)
 · refine w_7 ?_;refine hrr ?_;have he:=a9w (n:=n) (l:=l) (p:=p) (m:=m) (mu:=true) (i:=i) (a:=a) (b:=b) b5t;exact f9 rfl rfl (by rw [he];exact ⟨CoC.agg ⟨CoP.refl _,ce,trivial⟩,CoC.refl _,trivial⟩)
 have hck:ckE n l p m = 0:=by assumption
 obtain ⟨hT,hbe,hpa⟩:=a9e hck;refine azf ?_;refine ae rfl rfl (fun r1=>?_) (fun r1=>?_)
 ·
  have h1:=tz1 r1;(iterate 4 refine k9 (gtf r1) ?_);refine w_2 ?_;(iterate 5 refine k9 rfl ?_);refine w_2 ?_;(iterate 6 refine k9 rfl ?_);refine w_2 ?_;(iterate 9 refine k9 rfl ?_);refine w_9 ?_;refine hrr ?_
  have hbad:gp l p m true i a b:=by
   first
    | exact bdS
    | (refine (jy (a:=a) (b:=b) ?_).elim (fun hq=>?_) (fun hq=>?_) <;> first | assumption | exact bdS)
    | (refine (jx (a:=a) (b:=b) (k:=(l.length:Int)) ?_).elim (fun hq=>?_) (fun hq=>?_) <;> first | assumption | exact bdS)
  have he:=ir hck hbad;exact f9 rfl rfl (by rw [he];exact ⟨CoC.agg ⟨CoP.refl _,ce,trivial⟩,CoC.refl _,trivial⟩)
 have h1:=tz2 r1;(iterate 4 refine qy ?_ (hg:=(gff r1)));refine w_2 ?_;refine ae rfl rfl (fun r2=>?_) (fun r2=>?_)
 ·
  have h2:=tz1 (ar r1 r2);(iterate 5 refine k9 (gtf r2) ?_);refine w_2 ?_;(iterate 6 refine k9 rfl ?_);refine w_2 ?_;(iterate 9 refine k9 rfl ?_);refine w_9 ?_;refine hrr ?_
  have hbad:gp l p m true i a b:=by
   first
    | exact bdS
    | (refine (jy (a:=a) (b:=b) ?_).elim (fun hq=>?_) (fun hq=>?_) <;> first | assumption | exact bdS)
    | (refine (jx (a:=a) (b:=b) (k:=(l.length:Int)) ?_).elim (fun hq=>?_) (fun hq=>?_) <;> first | assumption | exact bdS)
  have he:=ir hck hbad;exact f9 rfl rfl (by rw [he];exact ⟨CoC.agg ⟨CoP.refl _,ce,trivial⟩,CoC.refl _,trivial⟩)
 have h2:=tz2 (ar r1 r2);(iterate 5 refine qy ?_ (hg:=(gff r2)));refine w_2 ?_;refine ae rfl rfl (fun r3=>?_) (fun r3=>?_)
 ·
  have h3:=tz1 (ar r2 r3);(iterate 6 refine k9 (gtf r3) ?_);refine w_2 ?_;(iterate 9 refine k9 rfl ?_);refine w_9 ?_;refine hrr ?_
  have hbad:gp l p m true i a b:=by
   first
    | exact bdS
    | (refine (jy (a:=a) (b:=b) ?_).elim (fun hq=>?_) (fun hq=>?_) <;> first | assumption | exact bdS)
    | (refine (jx (a:=a) (b:=b) (k:=(l.length:Int)) ?_).elim (fun hq=>?_) (fun hq=>?_) <;> first | assumption | exact bdS)
  have he:=ir hck hbad;exact f9 rfl rfl (by rw [he];exact ⟨CoC.agg ⟨CoP.refl _,ce,trivial⟩,CoC.refl _,trivial⟩)
 have h3:=tz2 (ar r2 r3);(iterate 6 refine qy ?_ (hg:=(gff r3)));refine w_2 ?_;refine ae rfl rfl (fun r4=>?_) (fun r4=>?_)
 ·
  have h4:=tz1 (ar r3 r4);(iterate 9 refine k9 (gtf r4) ?_);refine w_9 ?_;refine hrr ?_
  have hbad:gp l p m true i a b:=by
   first
    | exact bdS
    | (refine (jy (a:=a) (b:=b) ?_).elim (fun hq=>?_) (fun hq=>?_) <;> first | assumption | exact bdS)
    | (refine (jx (a:=a) (b:=b) (k:=(l.length:Int)) ?_).elim (fun hq=>?_) (fun hq=>?_) <;> first | assumption | exact bdS)
  have he:=ir hck hbad;exact f9 rfl rfl (by rw [he];exact ⟨CoC.agg ⟨CoP.refl _,ce,trivial⟩,CoC.refl _,trivial⟩)
 have h4:=tz2 (ar r3 r4);(iterate 9 refine qy ?_ (hg:=(gff r4)));refine w_2 ?_;refine am _ rfl (fun r5=>?_) (fun r5=>?_)
 ·
  have h5:=tz1 (ar r4 r5);refine w_6 ?_;refine hrr ?_
  have hbad:gp l p m true i a b:=by
   first
    | exact bdS
    | (refine (jy (a:=a) (b:=b) ?_).elim (fun hq=>?_) (fun hq=>?_) <;> first | assumption | exact bdS)
    | (refine (jx (a:=a) (b:=b) (k:=(l.length:Int)) ?_).elim (fun hq=>?_) (fun hq=>?_) <;> first | assumption | exact bdS)
  have he:=ir hck hbad;exact f9 rfl rfl (by rw [he];exact ⟨CoC.agg ⟨CoP.refl _,ce,trivial⟩,CoC.refl _,trivial⟩)
 have h5:=tz2 (ar r4 r5);refine w_2 ?_;obtain ⟨ha0,hb0⟩:=ai4 (a:=a) (b:=b) b5t;obtain ⟨hal,hbl⟩:=aiy (a:=a) (b:=b) (k:=(l.length:Int)) b5t
 have hnb:¬ gp l p m true i a b:=by
  unfold gp;rintro (h | h | h | h | h | h | ⟨h,h2⟩ | ⟨h,h2⟩) <;> first | omega | cases h
 have ha:a.toNat < l.length:=by omega
 have hb:b.toNat < l.length:=by omega
 have hi:i.toNat < m.length:=by omega
 refine w_5 ?_;refine rc rfl rfl rfl rfl rfl rfl acb (ado n l p m i.toNat a.toNat b.toNat hT ha hb hi) (⟨CoC.refl _,CoC.refl _,CoC.refl _,CoC.agg ⟨CoP.refl _,CoP.of_eq (by rw [b52 b5s]),CoP.of_eq (by rw [b52 b5s]),CoP.of_eq (by rw [b52 b5s]),trivial⟩,trivial⟩) rfl rfl ?_;refine w_5 ?_;refine hrr ?_;have he:=a2e (n:=n) (i:=i) (a:=a) (b:=b) hck hnb;exact f9 rfl rfl (by rw [he];exact CoL.refl _)
def akq (n:Int) (l:List Rw) (p m:List Fd) (i a b:Int):a8 b6g 48 [pT n l,pP (fdl p),pP (fdl m), .agg [.raw (.bool false), .raw (.int .i64 i), .raw (.int .i64 a), .raw (.int .i64 b)]] (ab [pT (gr n l p m false i a b).1 (gr n l p m false i a b).2.1,pI (gr n l p m false i a b).2.2]):=by
 refine hpx (nt:=69) Tryz.func48 ?_;refine sx7 ?_;refine m9 0 ?_;refine m9 1 ?_;refine m9 2 ?_;refine w_8 ?_;refine qcx ab7 (a2s n l p m) ?_;refine w_7 ?_;refine hcn (fun h0=>?_) (fun h0=>?_)
 · refine w_7 ?_;refine hrr ?_;have he:=a9w (n:=n) (l:=l) (p:=p) (m:=m) (mu:=false) (i:=i) (a:=a) (b:=b) b5t;exact f9 rfl rfl (by rw [he];exact ⟨CoC.agg ⟨CoP.refl _,ce,trivial⟩,CoC.refl _,trivial⟩)
 have hck:ckE n l p m = 0:=by assumption
 obtain ⟨hT,hbe,hpa⟩:=a9e hck;refine afv ?_;refine ae rfl rfl (fun r1=>?_) (fun r1=>?_)
 ·
  have h1:=tz1 r1;(iterate 4 refine k9 (gtf r1) ?_);refine w_2 ?_;(iterate 5 refine k9 rfl ?_);refine w_2 ?_;(iterate 6 refine k9 rfl ?_);refine w_2 ?_;(iterate 9 refine k9 rfl ?_);refine w_9 ?_;refine hrr ?_
  have hbad:gp l p m false i a b:=by
   first
    | exact bdS
    | (refine (jy (a:=a) (b:=b) ?_).elim (fun hq=>?_) (fun hq=>?_) <;> first | assumption | exact bdS)
    | (refine (jx (a:=a) (b:=b) (k:=(l.length:Int)) ?_).elim (fun hq=>?_) (fun hq=>?_) <;> first | assumption | exact bdS)
  have he:=ir hck hbad;exact f9 rfl rfl (by rw [he];exact ⟨CoC.agg ⟨CoP.refl _,ce,trivial⟩,CoC.refl _,trivial⟩)
 have h1:=tz2 r1;(iterate 4 refine qy ?_ (hg:=(gff r1)));refine w_2 ?_;refine ae rfl rfl (fun r2=>?_) (fun r2=>?_)
 ·
  have h2:=tz1 (ar r1 r2);(iterate 5 refine k9 (gtf r2) ?_);refine w_2 ?_;(iterate 6 refine k9 rfl ?_);refine w_2 ?_;(iterate 9 refine k9 rfl ?_);refine w_9 ?_;refine hrr ?_
  have hbad:gp l p m false i a b:=by
   first
    | exact bdS
    | (refine (jy (a:=a) (b:=b) ?_).elim (fun hq=>?_) (fun hq=>?_) <;> first | assumption | exact bdS)
    | (refine (jx (a:=a) (b:=b) (k:=(l.length:Int)) ?_).elim (fun hq=>?_) (fun hq=>?_) <;> first | assumption | exact bdS)
  have he:=ir hck hbad;exact f9 rfl rfl (by rw [he];exact ⟨CoC.agg ⟨CoP.refl _,ce,trivial⟩,CoC.refl _,trivial⟩)
 have h2:=tz2 (ar r1 r2);(iterate 5 refine qy ?_ (hg:=(gff r2)));refine w_2 ?_;refine ae rfl rfl (fun r3=>?_) (fun r3=>?_)
 ·
  have h3:=tz1 (ar r2 r3);(iterate 6 refine k9 (gtf r3) ?_);refine w_2 ?_;(iterate 9 refine k9 rfl ?_);refine w_9 ?_;refine hrr ?_
  have hbad:gp l p m false i a b:=by
   first
    | exact bdS
    | (refine (jy (a:=a) (b:=b) ?_).elim (fun hq=>?_) (fun hq=>?_) <;> first | assumption | exact bdS)
    | (refine (jx (a:=a) (b:=b) (k:=(l.length:Int)) ?_).elim (fun hq=>?_) (fun hq=>?_) <;> first | assumption | exact bdS)
  have he:=ir hck hbad;exact f9 rfl rfl (by rw [he];exact ⟨CoC.agg ⟨CoP.refl _,ce,trivial⟩,CoC.refl _,trivial⟩)
 have h3:=tz2 (ar r2 r3);(iterate 6 refine qy ?_ (hg:=(gff r3)));refine w_2 ?_;refine ae rfl rfl (fun r4=>?_) (fun r4=>?_)
 ·
  have h4:=tz1 (ar r3 r4);(iterate 9 refine k9 (gtf r4) ?_);refine w_9 ?_;refine hrr ?_
  have hbad:gp l p m false i a b:=by
   first
    | exact bdS
    | (refine (jy (a:=a) (b:=b) ?_).elim (fun hq=>?_) (fun hq=>?_) <;> first | assumption | exact bdS)
    | (refine (jx (a:=a) (b:=b) (k:=(l.length:Int)) ?_).elim (fun hq=>?_) (fun hq=>?_) <;> first | assumption | exact bdS)
  have he:=ir hck hbad;exact f9 rfl rfl (by rw [he];exact ⟨CoC.agg ⟨CoP.refl _,ce,trivial⟩,CoC.refl _,trivial⟩)
 have h4:=tz2 (ar r3 r4);(iterate 9 refine qy ?_ (hg:=(gff r4)));refine w_2 ?_;refine am _ rfl (fun r5=>?_) (fun r5=>?_)
 ·
  have h5:=tz1 (ar r4 r5);refine w_6 ?_;refine hrr ?_
  have hbad:gp l p m false i a b:=by
   first
    | exact bdS
    | (refine (jy (a:=a) (b:=b) ?_).elim (fun hq=>?_) (fun hq=>?_) <;> first | assumption | exact bdS)
    | (refine (jx (a:=a) (b:=b) (k:=(l.length:Int)) ?_).elim (fun hq=>?_) (fun hq=>?_) <;> first | assumption | exact bdS)
  have he:=ir hck hbad;exact f9 rfl rfl (by rw [he];exact ⟨CoC.agg ⟨CoP.refl _,ce,trivial⟩,CoC.refl _,trivial⟩)
 have h5:=tz2 (ar r4 r5);refine w_2 ?_;obtain ⟨ha0,hb0⟩:=ai4 (a:=a) (b:=b) b5t;obtain ⟨hal,hbl⟩:=aiy (a:=a) (b:=b) (k:=(l.length:Int)) b5t
 have hnb:¬ gp l p m false i a b:=by
  unfold gp;rintro (h | h | h | h | h | h | ⟨h,h2⟩ | ⟨h,h2⟩) <;> first | omega | cases h
 have ha:a.toNat < l.length:=by omega
 have hb:b.toNat < l.length:=by omega
 have hi:i.toNat < p.length:=by omega
 refine w_5 ?_;refine rc rfl rfl rfl rfl rfl rfl acb (af3 n l p m i.toNat a.toNat b.toNat hT ha hb hi (b3j.1 hpa _ (cu hi))) (⟨CoC.refl _,CoC.refl _,CoC.refl _,CoC.agg ⟨CoP.refl _,CoP.of_eq (by rw [b52 b5s]),CoP.of_eq (by rw [b52 b5s]),CoP.of_eq (by rw [b52 b5s]),trivial⟩,trivial⟩) rfl rfl ?_;refine w_5 ?_;refine hrr ?_;have he:=a2e (n:=n) (i:=i) (a:=a) (b:=b) hck hnb;exact f9 rfl rfl (by rw [he];exact CoL.refl _)
end
section
open Go.Proofs
abbrev Rcp.fs (d:Rcp) (k:Nat):List Fd:=d.f.map (Dp.fd (d.num k))
abbrev Rcp.ms (d:Rcp) (k:Nat):List Fd:=d.m.map (Dp.fd (d.num k))
abbrev Rcp.ps (d:Rcp) (k:Nat):List AS:=d.p.map (u8S (d.num k))
abbrev Rcp.t0 (d:Rcp) (k:Nat):List Rw:=aw (au (d.num k) (d.ps k))
section
variable {n:Int} {p m:List Fd} {l0 l:List Rw}
end
def aer (n:Int) (l:List Rw) (p m:List Fd) (mu:Bool) (i a b:Int):a8 b6g 48 [pT n l,pP (fdl p),pP (fdl m), .agg [.raw (.bool mu), .raw (.int .i64 i), .raw (.int .i64 a), .raw (.int .i64 b)]] (ab [pT (gr n l p m mu i a b).1 (gr n l p m mu i a b).2.1,pI (gr n l p m mu i a b).2.2]):=by
 cases mu with
 | false=>exact akq n l p m i a b
 | true=>exact akz n l p m i a b
def ake {n:Int} {l:List Rw} {p m:List Fd} {s:St} (hT:tok n l = true) (hb:cg n p m = 0) (h:uy l p m s):gr n l p m s.1 s.2.1 s.2.2.1 s.2.2.2 = c8 n l p m s:=by
 obtain ⟨mu,i,a,b⟩:=s;have hck:ckE n l p m = 0:=(if_pos hT).trans hb;obtain ⟨ha,hbb,h⟩:=h;have ha:a < l.length:=ha;have hbb:b < l.length:=hbb
 have hne:¬ a = b:=by
  rintro rfl
  rcases h with ⟨_,_,h⟩ | ⟨_,_,h⟩
  · rw [show eg l (p.getD i default) a a = false from age] at h;cases h
  rw [show ef l (m.getD i default) a a = false from ah2 ha] at h;cases h
 show gr n l p m mu (i:Int) (a:Int) (b:Int) = _;rw [a2e hck]
 · rfl
 unfold gp
 rcases h with ⟨h1,h2,_⟩ | ⟨h1,h2,_⟩
 · have h1:mu = false:=h1
   subst h1;have h2:i < p.length:=h2;rintro (h | h | h | h | h | h | ⟨h,h3⟩ | ⟨h,h3⟩) <;> first | omega | cases h
 have h1:mu = true:=h1;subst h1;have h2:i < m.length:=h2;rintro (h | h | h | h | h | h | ⟨h,h3⟩ | ⟨h,h3⟩) <;> first | omega | cases h
def ahy (n:Int) (l:List Rw) (p m:List Fd) (s:St) (hT:tok n l = true) (hb:cg n p m = 0) (h:uy l p m s) (he:c8 n l p m s = (n,(c8 n l p m s).2.1,0)):a8 b6g 48 [pT n l,pP (fdl p),pP (fdl m),s.pc] (ab [pT n (c8 n l p m s).2.1,pI 0]):=by
 have:=aer n l p m s.1 s.2.1 s.2.2.1 s.2.2.2;rw [ake hT hb h,he] at this;exact this
end
section
def sgn (a b:Int):Int:=if a < b then -1 else if b < a then 1 else 0
def bAt (s:ByteArray) (i:Nat):Int:=bf s i
def dz:List UInt8 -> List UInt8 -> Int
 | [],[]=>0
 | [],_ :: _=>-1
 | _ :: _,[]=>1
 | x :: xs,y :: ys=>if x = y then dz xs ys else sgn x.toNat y.toNat
abbrev bl (s:ByteArray):List UInt8:=s.data.toList
def j2 (a b:ByteArray):Int:=dz (bl a) (bl b)
def dx (s:ByteArray):(bl s).length = s.size:=b3m
def a7j:∀ (i:Nat) (a b:List UInt8),i < a.length -> i < b.length -> a.getD i 0 = b.getD i 0 -> dz (a.drop i) (b.drop i) = dz (a.drop (i + 1)) (b.drop (i + 1))
 | 0,x :: xs,y :: ys,_,_,h=>by
  simp only [List.getD_cons_zero] at h;simp [dz,h]
 | i + 1,x :: xs,y :: ys,h1,h2,h=>by
  simp only [List.getD_cons_succ] at h;simpa using a7j i xs ys (by simpa using h1) (by simpa using h2) h
 | _,[],_,h1,_,_=>by simp at h1
 | _,_ :: _,[],_,h2,_=>by simp at h2
def a7u:∀ (i:Nat) (a b:List UInt8),i < a.length -> i < b.length -> a.getD i 0 ≠ b.getD i 0 -> dz (a.drop i) (b.drop i) = sgn (a.getD i 0).toNat (b.getD i 0).toNat
 | 0,x :: xs,y :: ys,_,_,h=>by
  simp only [List.getD_cons_zero] at h;simp [dz,h]
 | i + 1,x :: xs,y :: ys,h1,h2,h=>by
  simp only [List.getD_cons_succ] at h ⊢;simpa using a7u i xs ys (by simpa using h1) (by simpa using h2) h
 | _,[],_,h1,_,_=>by simp at h1
 | _,_ :: _,[],_,h2,_=>by simp at h2
def a1x:∀ (i:Nat) (a b:List UInt8),i <= a.length -> i <= b.length -> (i = a.length \/ i = b.length) -> dz (a.drop i) (b.drop i) = sgn a.length b.length
 | 0,[],[],_,_,_=>by simp [dz,sgn]
 | 0,[],_ :: _,_,_,_=>by simp [dz,sgn] <;> omega
 | 0,_ :: _,[],_,_,_=>by simp [dz,sgn] <;> omega
 | 0,_ :: _,_ :: _,_,_,h=>by simp at h
 | i + 1,x :: xs,y :: ys,h1,h2,h=>by
  have:=a1x i xs ys (by simpa using h1) (by simpa using h2) (by simpa using h);simp only [List.drop_succ_cons,this,b41,sgn]
  repeat' split
  all_goals first | rfl | omega
 | i + 1,[],_,h1,_,_=>by simp at h1
 | i + 1,_ :: _,[],_,h2,_=>by simp at h2
def a7e:∀ {a b:List UInt8},dz a b = 0 <-> a = b
 | [],[]=>by simp [dz]
 | [],_ :: _=>by simp [dz]
 | _ :: _,[]=>by simp [dz]
 | x :: xs,y :: ys=>by
  simp only [dz];by_cases h:x = y
  · simp [h,a7e]
  have:¬ x.toNat = y.toNat:=fun e=>h (UInt8.toNat_inj.1 e);simp only [h,if_false,sgn,b56,false_and,iff_false]
  repeat' split
  all_goals omega
def a3r (a b:ByteArray) (i j:Nat):bf a i = bf b j <-> (bl a).getD i 0 = (bl b).getD j 0:=by
 unfold bf;rw [Int.natCast_inj,UInt8.toNat_inj]
def a1k {a b:ByteArray}:j2 a b = 0 <-> a = b:=by
 unfold j2;rw [a7e];exact ⟨fun h=>ByteArray.ext (Array.ext' h),fun h=>by rw [h]⟩
def dv (a b:Val):Int :=
 if sgn a.kind b.kind ≠ 0 then sgn a.kind b.kind else if sgn a.num b.num ≠ 0 then sgn a.num b.num else j2 a.str b.str
def jk {a b:Int}:sgn a b = 0 <-> a = b:=by
 unfold sgn
 repeat' split
 all_goals omega
def u6 {a b:Val}:dv a b = 0 <-> a = b:=by
 unfold dv;cases a;cases b;simp only [Val.mk.injEq];split
 · rename_i h;rw [Ne,jk] at h
   constructor
   · intro e;rw [jk] at e;exact absurd e h
   rintro ⟨e,_⟩;exact absurd e h
 rename_i h;rw [Ne,jk,Classical.not_not] at h;split
 · rename_i h2;rw [Ne,jk] at h2
   constructor
   · intro e;rw [jk] at e;exact absurd e h2
   rintro ⟨_,e,_⟩;exact absurd e h2
 rename_i h2;rw [Ne,jk,Classical.not_not] at h2;rw [a1k];exact ⟨fun e=>⟨h,h2,e⟩,fun e=>e.2.2⟩
def bw:List Val -> List Val -> Int
 | [],[]=>0
 | [],_ :: _=>-1
 | _ :: _,[]=>1
 | x :: xs,y :: ys=>if dv x y ≠ 0 then dv x y else bw xs ys
def a40:∀ (i:Nat) (a b:List Val),i < a.length -> i < b.length -> dv (a.getD i default) (b.getD i default) = 0 -> bw (a.drop i) (b.drop i) = bw (a.drop (i + 1)) (b.drop (i + 1))
 | 0,x :: xs,y :: ys,_,_,h=>by
  simp only [List.getD_cons_zero] at h;simp [bw,h]
 | i + 1,x :: xs,y :: ys,h1,h2,h=>by
  simp only [List.getD_cons_succ] at h;simpa using a40 i xs ys (by simpa using h1) (by simpa using h2) h
 | _,[],_,h1,_,_=>by simp at h1
 | _,_ :: _,[],_,h2,_=>by simp at h2
def a4i:∀ (i:Nat) (a b:List Val),i < a.length -> i < b.length -> dv (a.getD i default) (b.getD i default) ≠ 0 -> bw (a.drop i) (b.drop i) = dv (a.getD i default) (b.getD i default)
 | 0,x :: xs,y :: ys,_,_,h=>by
  simp only [List.getD_cons_zero] at h;simp [bw,h]
 | i + 1,x :: xs,y :: ys,h1,h2,h=>by
  simp only [List.getD_cons_succ] at h ⊢;simpa using a4i i xs ys (by simpa using h1) (by simpa using h2) h
 | _,[],_,h1,_,_=>by simp at h1
 | _,_ :: _,[],_,h2,_=>by simp at h2
def z6:∀ (i:Nat) (a b:List Val),i <= a.length -> i <= b.length -> (i = a.length \/ i = b.length) -> bw (a.drop i) (b.drop i) = sgn a.length b.length
 | 0,[],[],_,_,_=>by simp [bw,sgn]
 | 0,[],_ :: _,_,_,_=>by simp [bw,sgn] <;> omega
 | 0,_ :: _,[],_,_,_=>by simp [bw,sgn] <;> omega
 | 0,_ :: _,_ :: _,_,_,h=>by simp at h
 | i + 1,x :: xs,y :: ys,h1,h2,h=>by
  have:=z6 i xs ys (by simpa using h1) (by simpa using h2) (by simpa using h);simp only [List.drop_succ_cons,this,b41,sgn]
  repeat' split
  all_goals first | rfl | omega
 | i + 1,[],_,h1,_,_=>by simp at h1
 | i + 1,_ :: _,[],_,h2,_=>by simp at h2
def x9:∀ {a b:List Val},bw a b = 0 <-> a = b
 | [],[]=>by simp [bw]
 | [],_ :: _=>by simp [bw]
 | _ :: _,[]=>by simp [bw]
 | x :: xs,y :: ys=>by
  simp only [bw];split
  · rename_i h
    refine ⟨fun e=>absurd e h,fun e=>?_⟩;simp only [b56] at e;exact absurd (u6.2 e.1) h
  rename_i h;rw [Ne,Classical.not_not,u6] at h;simp [h,x9]
end
section
abbrev emp:ByteArray:=⟨#[]⟩
def be (v:Val):Bool :=
 if v.kind = 0 then decide (v.num = 0) && decide (v.str = emp)
 else if v.kind = 1 then decide (v.str = emp)
 else if v.kind = 2 then decide (v.num = 0) && decide (v.str.size <= 200)
 else decide (v.kind = 3) && decide (1 <= v.num) && decide (v.str = emp)
def Val.ok (v:Val):Prop:=v.str.size <= 68719476736
def me (l:List Val):Prop:=∀ j,j < l.length -> (l.getD j default).ok
def Row.ok (r:Row):Prop:=r.vals.length <= 68719476736 /\ me r.vals
def tg (l:List Row):Prop:=∀ j,j < l.length -> (l.getD j default).ok
def Tbl.ok (t:Tbl):Prop:=t.attrs.length <= 68719476736 /\ t.rows.length <= 68719476736 /\ tg t.rows
def azq (d:DB):Prop:=d.length <= 68719476736 /\ ∀ j,j < d.length -> Tbl.ok (d.getD j default)
def Chg.ok (x:Chg):Prop:=x.table.ok /\ x.row.ok /\ x.value.ok
def aun (l:List Chg):Prop:=∀ j,j < l.length -> (l.getD j default).ok
def ltr (c:Int):Bool:=(decide (97 <= c) && decide (c <= 122)) || (decide (65 <= c) && decide (c <= 90)) || decide (c = 95)
def dig (c:Int):Bool:=decide (48 <= c) && decide (c <= 57)
abbrev afo:ByteArray:=⟨#[110,117,108,108]⟩
def aaa (s:ByteArray):Bool:=(List.range s.size).all fun i=>ltr (bf s i) || dig (bf s i)
def fv (s:ByteArray):Bool:=decide (s.size ≠ 0) && decide (s.size <= 24) && ltr (bf s 0) && decide (s ≠ afo) && aaa s
def zn (l:List ByteArray) (s:ByteArray):Int:=idx (fun x=>decide (x = s)) l
def lg (l:List ByteArray) (i:Nat):Bool:=fv (l.getD i default) && decide (zn (l.take i) (l.getD i default) < 0)
def um (l:List ByteArray):Bool:=(List.range l.length).all (lg l)
def ct (n:Nat) (before:Int):List Row -> Int
 | []=>0
 | r :: rs=>if r.id <= before then 1 else if r.vals.length ≠ n then 6 else if (r.vals.all be) = false then 1 else ct n r.id rs
def bo (t:Tbl):Int :=
 if fv t.name = false then 1 else if 16 < t.attrs.length \/ 1000 < t.rows.length then 3 else if um t.attrs = false then 1 else ct t.attrs.length 0 t.rows
section
variable {i:Nat}
def abr {n:Nat} {l:List Row} {b:Int} (hi:i < l.length):ct n b (l.drop i) = if (l.getD i default).id <= b then 1 else if (l.getD i default).vals.length ≠ n then 6 else if ((l.getD i default).vals.all be) = false then 1 else ct n (l.getD i default).id (l.drop (i + 1)):=by
 rw [b4k hi,ct];simp only [List.getD,b2q hi,b3z]
def b0q (l:List Row) (id:Int):Option Nat:=l.findIdx? fun r=>decide (r.id = id)
def dy (l:List Row) (id:Int):Int:=idx (fun r=>decide (r.id = id)) l
def im (d:DB) (s:ByteArray):Int:=idx (fun t=>decide (t.name = s)) d
def a4c (d:DB) (t:Tbl):Int:=if bo t ≠ 0 then bo t else if 0 <= im d t.name then 5 else if 50 <= d.length then 3 else 0
def fj {p:Nat -> Bool} {n:Nat} (hi:i < n) (h:p i = false):(List.range n).all p = false:=by
 rw [List.all_eq_false];exact ⟨i,b3e.2 hi,by simp [h]⟩
def iu {p:Nat -> Bool} {n:Nat} (h:∀ j,j < n -> p j = true):(List.range n).all p = true:=by
 rw [b3j];exact fun j hj=>h j (b3e.1 hj)
variable {s:ByteArray}
def oj (h:s.size = 0):fv s = false:=by simp [fv,h]
def mt (h:24 < s.size):fv s = false:=by
 have:¬ s.size <= 24:=by omega
 simp [fv,this]
def sh (h:ltr (bf s 0) = false):fv s = false:=by simp [fv,h]
def z1 (hi:(i:Int) = 0) (h:ltr (bf s i) = false):fv s = false:=by
 obtain rfl:i = 0:=by omega
 exact sh h
def atk (hz:0 < i -> ltr (bf s 0) = true) (h:i = 0 -> ltr (bf s i) = true):ltr (bf s 0) = true:=by
 by_cases e:i = 0
 · subst e;exact h rfl
 exact hz b5s
def l3 (h:s = afo):fv s = false:=by simp [fv,h]
def qb (hi:i < s.size) (h1:ltr (bf s i) = false) (h2:dig (bf s i) = false):fv s = false:=by
 have:aaa s = false:=fj hi (by simp [h1,h2]);simp [fv,this]
def aj3 (h0:s.size ≠ 0) (h1:s.size <= 24) (h2:ltr (bf s 0) = true) (h3:s ≠ afo) (h4:∀ j,j < s.size -> (ltr (bf s j) || dig (bf s j)) = true):fv s = true:=by
 have:aaa s = true:=iu h4;simp [fv,this,h0,h1,h2,h3]
def sg:s.size = 0 <-> s = emp:=by
 constructor
 · intro h
   refine ByteArray.ext (Array.ext' ?_);have:s.data.toList.length = 0:=by rw [b3m];exact h
   exact b47 this
 rintro rfl;rfl
def ae7 {α:Type} {p:α -> Bool} {l:List α}:decide (0 <= idx p l) = l.any p:=by
 unfold idx
 cases h:l.findIdx? p with
 | none =>
  rw [List.findIdx?_eq_none_iff] at h;have:l.any p = false:=by rw [b4a];intro x hx;simp [h x hx]
  simp [this]
 | some i =>
  rw [b4y] at h;obtain ⟨hi,hp,_⟩:=h;have:l.any p = true:=by rw [b3l];exact ⟨_,b31 hi,hp⟩
  simp [this]
def ajc {α:Type} {p:α -> Bool} {l:List α}:idx p l < l.length:=by
 unfold idx
 cases h:l.findIdx? p with
 | none=>simp;omega
 | some i =>
  rw [b4y] at h;simp [h.1]
def acw {l:List Val}:(!l.any fun v=>!be v) = l.all be:=by
 induction l with
 | nil=>rfl
 | cons x l ih=>simp only [List.any_cons,List.all_cons,Bool.not_or,Bool.not_not,ih]
def ofI (k:Int):Val :=
 if k = 0 then ⟨1,0,emp⟩ else if k = 1 then ⟨1,1,emp⟩ else if k = 2 then ⟨1,2,emp⟩ else if k = 3 then ⟨0,0,emp⟩ else if k = 4 then ⟨2,0,⟨#[97]⟩⟩ else if k = 5 then ⟨2,0,⟨#[98]⟩⟩
 else if k = 6 then ⟨2,0,emp⟩ else if k = 7 then ⟨3,1,emp⟩ else if k = 8 then ⟨1, -1,emp⟩ else if k = 9 then ⟨2,0,⟨#[97,98]⟩⟩ else if k = 10 then ⟨3,2,emp⟩ else ⟨1,7,emp⟩
def ofV (c:UInt8):Val:=ofI ((c.toNat:Int) % 12)
def a5m (x:Opn):ByteArray:=[⟨#[114]⟩,⟨#[115]⟩,⟨#[116]⟩,emp].getD (x.name.toNat % 4) default
def ao4 (x:Opn):Row:=⟨x.id,x.vals.map ofV⟩
def ec:List ByteArray:=[⟨#[97]⟩,⟨#[98]⟩,⟨#[99]⟩,⟨#[100]⟩,⟨#[101]⟩,⟨#[102]⟩,⟨#[103]⟩,⟨#[104]⟩]
def ku (l:List UInt8) (n:Nat):List Val:=(List.range n).map fun k=>ofV (l.getD k default)
def iq (x:fq) (n:Nat):List Row:=(List.range x.rows.length).map fun (i:Nat)=>⟨1 + (i:Int) * (1 + (x.gap.toNat:Int) % 3),ku (x.rows.getD i default) n⟩
def aq (x:fq) (n:Nat):Tbl:=⟨⟨#[114]⟩,ec.take n,iq x n⟩
def aou (x:Opn):Tbl:={ aq x.t (x.t.attrs.toNat % 4) with name:=a5m x }
def a7w {β:Type} [Inhabited β] (f:Nat -> β) (n i:Nat) (h:i < n):((List.range n).map f).getD i default = f i:=by
 simp [List.getD,h]
end
end
section
abbrev T0:Tbl:=⟨emp,[],[]⟩
def qj (r:Row):List Row -> List Row
 | []=>[r]
 | x :: xs=>if r.id < x.id then r :: x :: xs else x :: qj r xs
def sw (t:Tbl) (r:Row):Int :=
 if bo t ≠ 0 then bo t else if r.vals.length ≠ t.attrs.length then 6 else if r.id <= 0 \/ r.vals.all be = false then 1
 else if 0 <= dy t.rows r.id then 5 else if 1000 <= t.rows.length then 3 else 0
def afl (t:Tbl) (r:Row):Tbl:=if sw t r = 0 then { t with rows:=qj r t.rows } else T0
def vt (t:Tbl) (id:Int):Int:=if bo t ≠ 0 then bo t else if 0 <= dy t.rows id then 0 else 4
def agr (t:Tbl) (id:Int):Tbl:=if vt t id = 0 then { t with rows:=t.rows.eraseIdx (dy t.rows id).toNat } else T0
def xl (t:Tbl) (id attr:Int) (v:Val):Int :=
 if bo t ≠ 0 then bo t else if ¬ 0 <= dy t.rows id then 4 else if attr < 0 \/ (t.attrs.length:Int) <= attr then 6 else if be v = false then 1 else 0
def ze (l:List Row) (i k:Nat) (v:Val):List Row:=l.set i { l.getD i default with vals:=(l.getD i default).vals.set k v }
def agx (t:Tbl) (id attr:Int) (v:Val):Tbl:=if xl t id attr v = 0 then { t with rows:=ze t.rows (dy t.rows id).toNat attr.toNat v } else T0
def a3k (t:Tbl) (c:Chg):Int :=
 if c.kind = 2 then sw t c.row
 else if ¬ 0 <= dy t.rows c.row.id then 4
 else if ¬ (t.rows.getD (max (dy t.rows c.row.id) 0).toNat default).vals = c.row.vals then 16
 else if c.kind = 3 then vt t c.row.id
 else xl t c.row.id c.attr c.value
def a2t (t:Tbl) (c:Chg):Tbl:=if c.kind = 2 then afl t c.row else if c.kind = 3 then agr t c.row.id else agx t c.row.id c.attr c.value
def pw (d:DB) (s:ByteArray):Tbl:=d.getD (im d s).toNat default
def gk (d:DB) (c:Chg):Int :=
 if c.kind = 1 then (if c.name ≠ c.table.name then 1 else a4c d c.table)
 else if c.kind < 1 \/ 4 < c.kind then 1
 else if im d c.name < 0 then 4
 else a3k (pw d c.name) c
def xh (d:DB) (c:Chg):DB :=
 if gk d c ≠ 0 then d
 else if c.kind = 1 then d ++ [c.table]
 else d.set (im d c.name).toNat (a2t (pw d c.name) c)
section
variable {c:Chg} {d:DB}
def aE2 (h:c.kind = 1) (h2:c.name = c.table.name):gk d c = a4c d c.table:=by rw [gk,if_pos h,if_neg (by simp [h2])]
def aE5 (h:2 <= c.kind /\ c.kind <= 4) (h2:¬ im d c.name < 0):gk d c = a3k (pw d c.name) c:=by rw [gk,if_neg b5s,if_neg b5s,if_neg h2]
def awo {e:Int} (h:gk d c = e) (he:e ≠ 0):xh d c = d:=by rw [xh,if_pos (by rw [h];exact he)]
def aD1 (h:gk d c = 0) (h1:c.kind = 1):xh d c = d ++ [c.table]:=by rw [xh,if_neg (by simp [h]),if_pos h1]
def aD2 {u:Tbl} (h:gk d c = 0) (h1:¬ c.kind = 1) (hu:a2t (pw d c.name) c = u):xh d c = d.set (im d c.name).toNat u:=by rw [xh,if_neg (by simp [h]),if_neg h1,hu]
def dbV (d:DB):Prop:=d.length <= 50 /\ ∀ j,j < d.length -> bo (d.getD j default) = 0
def awv (d:DB):List Chg -> Int
 | []=>0
 | c :: cs=>if gk d c ≠ 0 then gk d c else awv (xh d c) cs
def a8l (d:DB):List Chg -> DB
 | []=>d
 | c :: cs=>if gk d c ≠ 0 then [] else a8l (xh d c) cs
def ayf (s:Stt) (l:List Chg):Stt:=if l.length = 0 then s else ⟨s.done ++ [l],[],false,[]⟩
def b2e (s:Stt) (c:Chg):Stt:=if s.opn = true then { s with now:=s.now ++ [c] } else ayf s [c]
def ay8 (x:Opn):Bool:=decide (x.vals.length <= 20) && decide (x.t.rows.length <= 6) && x.t.rows.all fun r=>decide (r.length <= 20)
def few (l:List Opn) (most:Int):Bool:=l.all ay8 && decide ((l.length:Int) <= most)
end
end
section
section
variable {l:List Row}
def ym {n:Nat} {b:Int} {x:Row} (h:ct n b (x :: l) = 0):b < x.id /\ x.vals.length = n /\ x.vals.all be = true /\ ct n x.id l = 0:=by
 simp only [ct] at h;split at h
 · omega
 split at h
 · omega
 split at h
 · omega
 rename_i h1 h2 h3;exact ⟨by omega,by omega,by simpa using h3,h⟩
def gh {n:Nat}:∀ {l:List Row} {b:Int},ct n b l = 0 -> ∀ x ∈ l,b < x.id /\ x.vals.length = n /\ x.vals.all be = true
 | [],_,_,x,hx=>by cases hx
 | y :: l,b,h,x,hx=>by
  obtain ⟨h1,h2,h3,h4⟩:=ym h
  rcases b2z.1 hx with rfl | hx
  · exact ⟨h1,h2,h3⟩
  obtain ⟨g1,g2⟩:=gh h4 x hx;exact ⟨by omega,g2⟩
abbrev og (l:List Row):Prop:=l.Pairwise fun a b=>a.id < b.id
def ll {n:Nat}:∀ {l:List Row} {b:Int},ct n b l = 0 -> og l
 | [],_,_=>List.Pairwise.nil
 | y :: l,b,h=>by
  obtain ⟨h1,h2,h3,h4⟩:=ym h;exact List.Pairwise.cons (fun x hx=>(gh h4 x hx).1) (ll h4)
def od {n:Nat}:∀ {l:List Row} {b:Int},(∀ x ∈ l,b < x.id /\ x.vals.length = n /\ x.vals.all be = true) -> og l -> ct n b l = 0
 | [],_,_,_=>rfl
 | y :: l,b,h,hs=>by
  obtain ⟨h1,h2,h3⟩:=h y b5v;unfold og at hs;rw [b3q] at hs;simp only [ct];rw [if_neg b5s,if_neg b5s,if_neg (by simp [h3])];exact od (fun x hx=>⟨hs.1 x hx,(h x (by simp [hx])).2⟩) hs.2
structure TOk (t:Tbl):Prop where
 nm:fv t.name = true
 na:t.attrs.length <= 16
 nr:t.rows.length <= 1000
 nms:um t.attrs = true
 rs:ct t.attrs.length 0 t.rows = 0
variable {t:Tbl}
def la:bo t = 0 <-> TOk t:=by
 constructor
 · intro h
   unfold bo at h;split at h
   · omega
   split at h
   · omega
   split at h
   · omega
   rename_i h1 h2 h3;exact ⟨by simpa using h1,by omega,by omega,by simpa using h3,h⟩
 rintro ⟨h1,h2,h3,h4,h5⟩;unfold bo;rw [if_neg (by simp [h1]),if_neg b5s,if_neg (by simp [h4]),h5]
def xo {v:Val} (h:be v = true):v.str.size <= 200:=by
 unfold be at h;have e0:emp.size = 0:=rfl;split at h
 · simp only [b2x,decide_eq_true_eq] at h;rw [h.2];omega
 split at h
 · simp only [decide_eq_true_eq] at h;rw [h];omega
 split at h
 · simp only [b2x,decide_eq_true_eq] at h;omega
 simp only [b2x,decide_eq_true_eq] at h;rw [h.2];omega
def ar3 {l:List Val} (h:l.all be = true):me l:=by
 intro j hj;rw [ca l j hj];have:=xo (b3j.1 h _ (b31 hj));unfold Val.ok;omega
theorem TOk.ok (h:TOk t):t.ok:=by
 refine ⟨by have:=h.na;omega,by have:=h.nr;omega,fun j hj=>?_⟩;rw [ca _ j hj];obtain ⟨_,h2,h3⟩:=gh h.rs _ (b31 hj);exact ⟨by have:=h.na;omega,ar3 h3⟩
def tg.sub {l':List Row} (h:tg l) (hs:∀ x ∈ l',x ∈ l):tg l':=by
 intro j hj;rw [ca _ j hj];obtain ⟨k,hk,e⟩:=b3o (hs _ (b31 hj));rw [<- e,<- ca _ k hk];exact h k hk
def aka (h:bo t = 0):t.ok:=(la.1 h).ok
def b0s (l:List Row) (k:Nat) (r:Row):List Row:=l.take k ++ r :: l.drop k
def a97 {r:Row}:∀ {l:List Row},(qj r l).length = l.length + 1
 | []=>rfl
 | x :: l=>by
  simp only [qj];split
  · simp
  simp [a97 (l:=l)]
def as6 {r:Row} (h:sw t r = 0):afl t r = ⟨t.name,t.attrs,qj r t.rows⟩:=by rw [afl,if_pos h]
def asp {i:Int} (h:vt t i = 0):agr t i = ⟨t.name,t.attrs,t.rows.eraseIdx (dy t.rows i).toNat⟩:=by rw [agr,if_pos h]
def asj {i a:Int} {v:Val} (h:xl t i a v = 0):agx t i a v = ⟨t.name,t.attrs,ze t.rows (dy t.rows i).toNat a.toNat v⟩:=by rw [agx,if_pos h]
def an3 {r:Row} (h:sw t r = 0):bo t = 0 /\ r.vals.length = t.attrs.length /\ 0 < r.id /\ r.vals.all be = true /\ dy t.rows r.id < 0 /\ t.rows.length < 1000:=by
 unfold sw at h;split at h
 · omega
 split at h
 · omega
 split at h
 · omega
 split at h
 · omega
 split at h
 · omega
 rename_i h1 h2 h3 h4 h5;rw [not_or] at h3;exact ⟨by omega,by omega,by omega,by simpa using h3.2,by omega,by omega⟩
def alk {i k:Nat} {v:Val}:(ze l i k v).length = l.length:=by simp [ze]
def ave {id:Int} (h:0 <= dy l id):(max (dy l id) 0).toNat < l.length:=by
 have:=ajc (p:=fun r:Row=>decide (r.id = id)) (l:=l);unfold dy at *;omega
theorem TOk.width (h:TOk t) {i:Nat} (hi:i < t.rows.length):(t.rows.getD i default).vals.length = t.attrs.length:=by
 rw [ca _ _ hi];exact (gh h.rs _ (b31 hi)).2.1
def at6 {d:DB} {s:ByteArray} (h:¬ im d s < 0):(im d s).toNat < d.length:=by
 have:=ajc (p:=fun t:Tbl=>decide (t.name = s)) (l:=d);unfold im at *;omega
def dbV.at {d:DB} (h:dbV d) {s:ByteArray} (hs:¬ im d s < 0):TOk (pw d s):=la.1 (h.2 _ (at6 hs))
def ar6 {d:DB} (h:a4c d t = 0):bo t = 0 /\ im d t.name < 0 /\ d.length < 50:=by
 unfold a4c at h;split at h
 · omega
 split at h
 · omega
 split at h
 · omega
 exact ⟨by omega,by omega,by omega⟩
end
end
end Go.Hx
