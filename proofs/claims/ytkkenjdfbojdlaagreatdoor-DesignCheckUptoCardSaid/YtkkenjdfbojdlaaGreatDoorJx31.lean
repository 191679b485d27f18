/- A part of the proof: Ch25 X31 Cc4 Ds1 Rb27 Ds2 Bz1 Bz2. -/
import Derived.Lib.Join
import Derived.Test.YtkkenjdfbojdlaaGreatDoorJx30
set_option linter.all false
set_option maxRecDepth 100000
set_option maxHeartbeats 1000000
namespace Go.Hx
section
section
variable {a b:Int}
def ajm {n:Int} {l:List Rw} {p m:List Fd} {mu:Bool} {i:Int} (h:¬ ckE n l p m = 0):df n l p m mu i a b = (0,[],ckE n l p m):=if_neg h
def lz {n:Int} {l:List Rw} {p m:List Fd} {mu:Bool} {i:Int} (h:ckE n l p m = 0) (h3:gp l p m mu i a b):df n l p m mu i a b = (0,[],1):=(if_pos h).trans (if_pos h3)
def aan {n:Int} {l:List Rw} {p m:List Fd} {mu:Bool} {i:Int} (h:ckE n l p m = 0) (h3:¬ gp l p m mu i a b):df n l p m mu i a b = du n l p m (mu,i.toNat,a.toNat,b.toNat):=(if_pos h).trans (if_neg h3)
def nr (h:(if b < a then b else a) < 0):a < 0 \/ b < 0:=by split at h <;> omega
def nu {k:Int} (h:k <= (if a < b then b else a)):k <= a \/ k <= b:=by split at h <;> omega
def aw7 (h:¬ (if b < a then b else a) < 0):0 <= a /\ 0 <= b:=by split at h <;> omega
def au4 {k:Int} (h:¬ k <= (if a < b then b else a)):a < k /\ b < k:=by split at h <;> omega
def stQ (x y:St):Bool:=(x.1 == y.1) && (decide ((x.2.1:Int) = (y.2.1:Int)) && (decide ((x.2.2.1:Int) = (y.2.2.1:Int)) && decide ((x.2.2.2:Int) = (y.2.2.2:Int))))
end
end
section
open Go.Proofs
def az4 (n:Int) (l:List Rw) (p m:List Fd) (i a b:Int):a6 bo6 129 [pT n l,pP (fdl p),pP (fdl m), .agg [.raw (.bool true), .raw (.int .i64 i), .raw (.int .i64 a), .raw (.int .i64 b)]] (a7 [pT (df n l p m true i a b).1 (df n l p m true i a b).2.1,pI (df n l p m true i a b).2.2]):=by
 refine hpx (nt:=69) Tryz.func129 ?_;refine sx7 ?_;refine m9 0 ?_;refine m9 1 ?_;refine m9 2 ?_;refine w_8 ?_;refine qcx aed (aab n l p m) ?_;refine w_7 ?_;refine hcn (fun h0=>?_) (fun h0=>?_)
 · refine w_7 ?_;refine hrr ?_;have he:=ajm (n:=n) (l:=l) (p:=p) (m:=m) (mu:=true) (i:=i) (a:=a) (b:=b) bnm;exact f9 rfl rfl (by rw [he];exact ⟨CoC.agg ⟨CoP.refl _,b9,trivial⟩,CoC.refl _,trivial⟩)
 have hck:ckE n l p m = 0:=by assumption
 obtain ⟨hT,hbe,hpa⟩:=aba hck;refine bbz ?_;refine ah rfl rfl (fun r1=>?_) (fun r1=>?_)
 ·
  have h1:=tz1 r1;(iterate 4 refine k9 (gtf r1) ?_);refine rq rfl rfl rfl rfl rfl ?_ (hp:=r1);refine qy ?_;(iterate 5 refine k9 rfl ?_);refine w_2 ?_;(iterate 6 refine k9 rfl ?_);refine w_2 ?_;(iterate 9 refine k9 rfl ?_);refine w_9 ?_
  refine hrr ?_
  have hbad:gp l p m true i a b:=by
   first
    | exact bdS
    | (refine (nr (a:=a) (b:=b) ?_).elim (fun hq=>?_) (fun hq=>?_) <;> first | assumption | exact bdS)
    | (refine (nu (a:=a) (b:=b) (k:=(l.length:Int)) ?_).elim (fun hq=>?_) (fun hq=>?_) <;> first | assumption | exact bdS)
  have he:=lz hck hbad;exact f9 rfl rfl (by rw [he];exact ⟨CoC.agg ⟨CoP.refl _,b9,trivial⟩,CoC.refl _,trivial⟩)
 have h1:=tz2 r1;(iterate 4 refine qy ?_ (hg:=(gff r1)));refine w_2 ?_;refine ah rfl rfl (fun r2=>?_) (fun r2=>?_)
 ·
  have h2:=tz1 (am r1 r2);(iterate 5 refine k9 (gtf r2) ?_);refine rq rfl rfl rfl rfl rfl ?_ (hp:=r2);refine qy ?_;(iterate 6 refine k9 rfl ?_);refine w_2 ?_;(iterate 9 refine k9 rfl ?_);refine w_9 ?_;refine hrr ?_
  have hbad:gp l p m true i a b:=by
   first
    | exact bdS
    | (refine (nr (a:=a) (b:=b) ?_).elim (fun hq=>?_) (fun hq=>?_) <;> first | assumption | exact bdS)
    | (refine (nu (a:=a) (b:=b) (k:=(l.length:Int)) ?_).elim (fun hq=>?_) (fun hq=>?_) <;> first | assumption | exact bdS)
  have he:=lz hck hbad;exact f9 rfl rfl (by rw [he];exact ⟨CoC.agg ⟨CoP.refl _,b9,trivial⟩,CoC.refl _,trivial⟩)
 have h2:=tz2 (am r1 r2);(iterate 5 refine qy ?_ (hg:=(gff r2)));refine w_2 ?_;refine ah rfl rfl (fun r3=>?_) (fun r3=>?_)
 ·
  have h3:=tz1 (am r2 r3);(iterate 6 refine k9 (gtf r3) ?_);refine rq rfl rfl rfl rfl rfl ?_ (hp:=r3);refine qy ?_;(iterate 9 refine k9 rfl ?_);refine w_9 ?_;refine hrr ?_
  have hbad:gp l p m true i a b:=by
   first
    | exact bdS
    | (refine (nr (a:=a) (b:=b) ?_).elim (fun hq=>?_) (fun hq=>?_) <;> first | assumption | exact bdS)
    | (refine (nu (a:=a) (b:=b) (k:=(l.length:Int)) ?_).elim (fun hq=>?_) (fun hq=>?_) <;> first | assumption | exact bdS)
  have he:=lz hck hbad;exact f9 rfl rfl (by rw [he];exact ⟨CoC.agg ⟨CoP.refl _,b9,trivial⟩,CoC.refl _,trivial⟩)
 have h3:=tz2 (am r2 r3);(iterate 6 refine qy ?_ (hg:=(gff r3)));refine w_2 ?_;refine ah rfl rfl (fun r4=>?_) (fun r4=>?_)
 ·
  have h4:=tz1 (am r3 r4);(iterate 9 refine k9 (gtf r4) ?_);refine rq rfl rfl rfl rfl rfl ?_ (hp:=r4);refine w_8 ?_;refine hrr ?_
  have hbad:gp l p m true i a b:=by
   first
    | exact bdS
    | (refine (nr (a:=a) (b:=b) ?_).elim (fun hq=>?_) (fun hq=>?_) <;> first | assumption | exact bdS)
    | (refine (nu (a:=a) (b:=b) (k:=(l.length:Int)) ?_).elim (fun hq=>?_) (fun hq=>?_) <;> first | assumption | exact bdS)
  have he:=lz hck hbad;exact f9 rfl rfl (by rw [he];exact ⟨CoC.agg ⟨CoP.refl _,b9,trivial⟩,CoC.refl _,trivial⟩)
 have h4:=tz2 (am r3 r4);(iterate 9 refine qy ?_ (hg:=(gff r4)));refine w_2 ?_;refine ak _ rfl (fun r5=>?_) (fun r5=>?_)
 ·
  have h5:=tz1 (am r4 r5);refine w_6 ?_;refine hrr ?_
  have hbad:gp l p m true i a b:=by
   first
    | exact bdS
    | (refine (nr (a:=a) (b:=b) ?_).elim (fun hq=>?_) (fun hq=>?_) <;> first | assumption | exact bdS)
    | (refine (nu (a:=a) (b:=b) (k:=(l.length:Int)) ?_).elim (fun hq=>?_) (fun hq=>?_) <;> first | assumption | exact bdS)
  have he:=lz hck hbad;exact f9 rfl rfl (by rw [he];exact ⟨CoC.agg ⟨CoP.refl _,b9,trivial⟩,CoC.refl _,trivial⟩)
 have h5:=tz2 (am r4 r5);refine w_2 ?_;obtain ⟨ha0,hb0⟩:=aw7 (a:=a) (b:=b) bnm;obtain ⟨hal,hbl⟩:=au4 (a:=a) (b:=b) (k:=(l.length:Int)) bnm
 have hnb:¬ gp l p m true i a b:=by
  unfold gp;rintro (h | h | h | h | h | h | ⟨h,h2⟩ | ⟨h,h2⟩) <;> first | omega | cases h
 have ha:a.toNat < l.length:=by omega
 have hb:b.toNat < l.length:=by omega
 have hi:i.toNat < m.length:=by omega
 refine w_5 ?_;refine rc rfl rfl rfl rfl rfl rfl adx (aqa n l p m i.toNat a.toNat b.toNat hT ha hb hi) (⟨CoC.refl _,CoC.refl _,CoC.refl _,CoC.agg ⟨CoP.refl _,CoP.of_eq (by rw [bmn bnl]),CoP.of_eq (by rw [bmn bnl]),CoP.of_eq (by rw [bmn bnl]),trivial⟩,trivial⟩) rfl rfl ?_;refine w_5 ?_;refine hrr ?_;have he:=aan (n:=n) (i:=i) (a:=a) (b:=b) hck hnb;exact f9 rfl rfl (by rw [he];exact CoL.refl _)
def ayb (n:Int) (l:List Rw) (p m:List Fd) (i a b:Int):a6 bo6 129 [pT n l,pP (fdl p),pP (fdl m), .agg [.raw (.bool false), .raw (.int .i64 i), .raw (.int .i64 a), .raw (.int .i64 b)]] (a7 [pT (df n l p m false i a b).1 (df n l p m false i a b).2.1,pI (df n l p m false i a b).2.2]):=by
 refine hpx (nt:=69) Tryz.func129 ?_;refine sx7 ?_;refine m9 0 ?_;refine m9 1 ?_;refine m9 2 ?_;refine w_8 ?_;refine qcx aed (aab n l p m) ?_;refine w_7 ?_;refine hcn (fun h0=>?_) (fun h0=>?_)
 · refine w_7 ?_;refine hrr ?_;have he:=ajm (n:=n) (l:=l) (p:=p) (m:=m) (mu:=false) (i:=i) (a:=a) (b:=b) bnm;exact f9 rfl rfl (by rw [he];exact ⟨CoC.agg ⟨CoP.refl _,b9,trivial⟩,CoC.refl _,trivial⟩)
 have hck:ckE n l p m = 0:=by assumption
 obtain ⟨hT,hbe,hpa⟩:=aba hck;refine alj ?_;refine ah rfl rfl (fun r1=>?_) (fun r1=>?_)
 ·
  have h1:=tz1 r1;(iterate 4 refine k9 (gtf r1) ?_);refine rq rfl rfl rfl rfl rfl ?_ (hp:=r1);refine qy ?_;(iterate 5 refine k9 rfl ?_);refine w_2 ?_;(iterate 6 refine k9 rfl ?_);refine w_2 ?_;(iterate 9 refine k9 rfl ?_);refine w_9 ?_
  refine hrr ?_
  have hbad:gp l p m false i a b:=by
   first
    | exact bdS
    | (refine (nr (a:=a) (b:=b) ?_).elim (fun hq=>?_) (fun hq=>?_) <;> first | assumption | exact bdS)
    | (refine (nu (a:=a) (b:=b) (k:=(l.length:Int)) ?_).elim (fun hq=>?_) (fun hq=>?_) <;> first | assumption | exact bdS)
  have he:=lz hck hbad;exact f9 rfl rfl (by rw [he];exact ⟨CoC.agg ⟨CoP.refl _,b9,trivial⟩,CoC.refl _,trivial⟩)
 have h1:=tz2 r1;(iterate 4 refine qy ?_ (hg:=(gff r1)));refine w_2 ?_;refine ah rfl rfl (fun r2=>?_) (fun r2=>?_)
 ·
  have h2:=tz1 (am r1 r2);(iterate 5 refine k9 (gtf r2) ?_);refine rq rfl rfl rfl rfl rfl ?_ (hp:=r2);refine qy ?_;(iterate 6 refine k9 rfl ?_);refine w_2 ?_;(iterate 9 refine k9 rfl ?_);refine w_9 ?_;refine hrr ?_
  have hbad:gp l p m false i a b:=by
   first
    | exact bdS
    | (refine (nr (a:=a) (b:=b) ?_).elim (fun hq=>?_) (fun hq=>?_) <;> first | assumption | exact bdS)
    | (refine (nu (a:=a) (b:=b) (k:=(l.length:Int)) ?_).elim (fun hq=>?_) (fun hq=>?_) <;> first | assumption | exact bdS)
  have he:=lz hck hbad;exact f9 rfl rfl (by rw [he];exact ⟨CoC.agg ⟨CoP.refl _,b9,trivial⟩,CoC.refl _,trivial⟩)
 have h2:=tz2 (am r1 r2);(iterate 5 refine qy ?_ (hg:=(gff r2)));refine w_2 ?_;refine ah rfl rfl (fun r3=>?_) (fun r3=>?_)
 ·
  have h3:=tz1 (am r2 r3);(iterate 6 refine k9 (gtf r3) ?_);refine rq rfl rfl rfl rfl rfl ?_ (hp:=r3);refine qy ?_;(iterate 9 refine k9 rfl ?_);refine w_9 ?_;refine hrr ?_
  have hbad:gp l p m false i a b:=by
   first
    | exact bdS
    | (refine (nr (a:=a) (b:=b) ?_).elim (fun hq=>?_) (fun hq=>?_) <;> first | assumption | exact bdS)
    | (refine (nu (a:=a) (b:=b) (k:=(l.length:Int)) ?_).elim (fun hq=>?_) (fun hq=>?_) <;> first | assumption | exact bdS)
  have he:=lz hck hbad;exact f9 rfl rfl (by rw [he];exact ⟨CoC.agg ⟨CoP.refl _,b9,trivial⟩,CoC.refl _,trivial⟩)
 have h3:=tz2 (am r2 r3);(iterate 6 refine qy ?_ (hg:=(gff r3)));refine w_2 ?_;refine ah rfl rfl (fun r4=>?_) (fun r4=>?_)
 ·
  have h4:=tz1 (am r3 r4);(iterate 9 refine k9 (gtf r4) ?_);refine rq rfl rfl rfl rfl rfl ?_ (hp:=r4);refine w_8 ?_;refine hrr ?_
  have hbad:gp l p m false i a b:=by
   first
    | exact bdS
    | (refine (nr (a:=a) (b:=b) ?_).elim (fun hq=>?_) (fun hq=>?_) <;> first | assumption | exact bdS)
    | (refine (nu (a:=a) (b:=b) (k:=(l.length:Int)) ?_).elim (fun hq=>?_) (fun hq=>?_) <;> first | assumption | exact bdS)
  have he:=lz hck hbad;exact f9 rfl rfl (by rw [he];exact ⟨CoC.agg ⟨CoP.refl _,b9,trivial⟩,CoC.refl _,trivial⟩)
 have h4:=tz2 (am r3 r4);(iterate 9 refine qy ?_ (hg:=(gff r4)));refine w_2 ?_;refine ak _ rfl (fun r5=>?_) (fun r5=>?_)
 ·
  have h5:=tz1 (am r4 r5);refine w_6 ?_;refine hrr ?_
  have hbad:gp l p m false i a b:=by
   first
    | exact bdS
    | (refine (nr (a:=a) (b:=b) ?_).elim (fun hq=>?_) (fun hq=>?_) <;> first | assumption | exact bdS)
    | (refine (nu (a:=a) (b:=b) (k:=(l.length:Int)) ?_).elim (fun hq=>?_) (fun hq=>?_) <;> first | assumption | exact bdS)
  have he:=lz hck hbad;exact f9 rfl rfl (by rw [he];exact ⟨CoC.agg ⟨CoP.refl _,b9,trivial⟩,CoC.refl _,trivial⟩)
 have h5:=tz2 (am r4 r5);refine w_2 ?_;obtain ⟨ha0,hb0⟩:=aw7 (a:=a) (b:=b) bnm;obtain ⟨hal,hbl⟩:=au4 (a:=a) (b:=b) (k:=(l.length:Int)) bnm
 have hnb:¬ gp l p m false i a b:=by
  unfold gp;rintro (h | h | h | h | h | h | ⟨h,h2⟩ | ⟨h,h2⟩) <;> first | omega | cases h
 have ha:a.toNat < l.length:=by omega
 have hb:b.toNat < l.length:=by omega
 have hi:i.toNat < p.length:=by omega
 refine w_5 ?_;refine rc rfl rfl rfl rfl rfl rfl adx (anw n l p m i.toNat a.toNat b.toNat hT ha hb hi (bkk.1 hpa _ (dn hi))) (⟨CoC.refl _,CoC.refl _,CoC.refl _,CoC.agg ⟨CoP.refl _,CoP.of_eq (by rw [bmn bnl]),CoP.of_eq (by rw [bmn bnl]),CoP.of_eq (by rw [bmn bnl]),trivial⟩,trivial⟩) rfl rfl ?_;refine w_5 ?_;refine hrr ?_;have he:=aan (n:=n) (i:=i) (a:=a) (b:=b) hck hnb;exact f9 rfl rfl (by rw [he];exact CoL.refl _)
end
section
open Go.Proofs
abbrev Rcp.fs (d:Rcp) (k:Nat):List Fd:=d.f.map (Dp.fd (d.num k))
abbrev Rcp.ms (d:Rcp) (k:Nat):List Fd:=d.m.map (Dp.fd (d.num k))
abbrev Rcp.ps (d:Rcp) (k:Nat):List AS:=d.p.map (u8S (d.num k))
abbrev Rcp.t0 (d:Rcp) (k:Nat):List Rw:=av (bj (d.num k) (d.ps k))
section
variable {n:Int} {p m:List Fd} {l0 l:List Rw}
end
def aor (n:Int) (l:List Rw) (p m:List Fd) (mu:Bool) (i a b:Int):a6 bo6 129 [pT n l,pP (fdl p),pP (fdl m), .agg [.raw (.bool mu), .raw (.int .i64 i), .raw (.int .i64 a), .raw (.int .i64 b)]] (a7 [pT (df n l p m mu i a b).1 (df n l p m mu i a b).2.1,pI (df n l p m mu i a b).2.2]):=by
 cases mu with
 | false=>exact ayb n l p m i a b
 | true=>exact az4 n l p m i a b
def azv (n:Int) (l:List Rw) (p m:List Fd) (mu:Bool) (i a b:Int):a6 bo6 131 [pT n l,pP (fdl p),pP (fdl m), .agg [.raw (.bool mu), .raw (.int .i64 i), .raw (.int .i64 a), .raw (.int .i64 b)]] (a7 [pT (df n l p m mu i a b).1 (df n l p m mu i a b).2.1,pI (df n l p m mu i a b).2.2]):=by
 cases mu with
 | false=>exact ajf n l p m i a b
 | true=>exact aia n l p m i a b
def avu {n:Int} {l:List Rw} {p m:List Fd} {s:St} (hT:tok n l = true) (hb:be n p m = 0) (h:xg l p m s):df n l p m s.1 s.2.1 s.2.2.1 s.2.2.2 = du n l p m s:=by
 obtain ⟨mu,i,a,b⟩:=s;have hck:ckE n l p m = 0:=(if_pos hT).trans hb;obtain ⟨ha,hbb,h⟩:=h;have ha:a < l.length:=ha;have hbb:b < l.length:=hbb
 have hne:¬ a = b:=by
  rintro rfl
  rcases h with ⟨_,_,h⟩ | ⟨_,_,h⟩
  · rw [show eu l (p.getD i default) a a = false from a3p] at h;cases h
  rw [show ey l (m.getD i default) a a = false from a30 ha] at h;cases h
 show df n l p m mu (i:Int) (a:Int) (b:Int) = _;rw [aan hck]
 · rfl
 unfold gp
 rcases h with ⟨h1,h2,_⟩ | ⟨h1,h2,_⟩
 · have h1:mu = false:=h1
   subst h1;have h2:i < p.length:=h2;rintro (h | h | h | h | h | h | ⟨h,h3⟩ | ⟨h,h3⟩) <;> first | omega | cases h
 have h1:mu = true:=h1;subst h1;have h2:i < m.length:=h2;rintro (h | h | h | h | h | h | ⟨h,h3⟩ | ⟨h,h3⟩) <;> first | omega | cases h
def aw5 (n:Int) (l:List Rw) (p m:List Fd) (s:St) (hT:tok n l = true) (hb:be n p m = 0) (h:xg l p m s) (he:du n l p m s = (n,(du n l p m s).2.1,0)):a6 bo6 129 [pT n l,pP (fdl p),pP (fdl m),s.pc] (a7 [pT n (du n l p m s).2.1,pI 0]):=by
 have:=aor n l p m s.1 s.2.1 s.2.2.1 s.2.2.2;rw [avu hT hb h,he] at this;exact this
end
section
abbrev Bs:=ByteArray
def bsC:Bs -> Nat -> PV:=fun b _=>.raw (.string b)
abbrev bsl (l:List Bs):PV:=psl 1 bsC l
abbrev pS (b:Bs):PC:=.one (.raw (.string b))
abbrev vS (b:Bs):HR:=bi (.raw (.string b))
def byC:UInt8 -> Nat -> PV:=fun x _=>.raw (.int .u8 (x.toNat:Int))
abbrev byl (b:Bs):PV:=psl 1 byC b.data.toList
abbrev pU8 (x:UInt8):PC:=.one (.raw (.int .u8 (x.toNat:Int)))
def coN {α:Type} [Inhabited α] {s:Nat} {c:α -> Nat -> PV} {f:Nat -> Nat -> PV}:CoP (.sl 0 0 true f) (psl s c []):=CoP.sl rfl (.inr rfl) (fun h=>by cases h) fun i j hi _=>absurd hi (bjh i)
def alz (x:UInt8):Bool:=decide ((x.toNat:Int) <= 32) || decide ((x.toNat:Int) = 127)
def s4 (l:List Bs) (i:Nat):Bool:=decide (l.getD i default = ⟨#[]⟩) || ((l.getD i default).data.toList.any alz || (l.take i).any fun x=>decide (x = l.getD i default))
def mh (l:List Bs):Int:=if 16 < l.length then 3 else if (List.range l.length).any (s4 l) = true then 1 else 0
section
variable {l:List Bs}
def az6 {i:Nat} (h0:¬ (16:Int) < l.length) (hi:i < l.length) (h:s4 l i = true):mh l = 1:=by
 unfold mh;rw [if_neg bnl,if_pos (bke.2 ⟨i,bjs.2 hi,h⟩)]
def bgj (h0:¬ (16:Int) < l.length) (h:∀ j,j < l.length -> s4 l j = false):mh l = 0:=by
 unfold mh;rw [if_neg bnl,if_neg];rw [bmy,bl5];intro j hj;rw [h j (bjs.1 hj)];exact bmg
def bhn (h:(16:Int) < l.length):mh l = 3:=if_pos bnl
def bOf (l:List UInt8):Bs:=⟨l.toArray⟩
abbrev bL (b:Bs):List UInt8:=b.data.toList
def be1 (b:Bs):bOf (bL b) = b:=by
 cases b;simp [bOf]
def a3h (l:List Bs) (sep:Bs):Bs:=bOf (Lib.join (l.map bL) (bL sep))
def ut (l:List Bs) (s:AS):List Bs:=(aj s).map fun i=>l.getD i default
def txT (l:List Bs) (s:AS):Bs:=if (ut l s).length = 0 then ⟨#[45]⟩ else a3h (ut l s) ⟨#[44]⟩
def szB (l:List Bs):Nat:=(l.map ByteArray.size).sum
def abd (b:Bs):(bL b).length = b.size:=rfl
def aym (l:List Bs) (sep:List UInt8):(Lib.join (l.map bL) sep).length <= szB l + sep.length * l.length:=by
 cases l with
 | nil=>simp [Lib.join_nil]
 | cons x r =>
  rw [bkt,Lib.join_cons,bjj,Lib.joinTail_length]
  have:Lib.lens (r.map bL) = szB r:=by
   unfold Lib.lens szB;rw [List.map_map];rfl
  rw [this,bk0];have h2:szB (x :: r) = x.size + szB r:=by simp [szB]
  rw [h2,abd,bk5,Nat.mul_succ];omega
def ajn {s:AS} {m:Nat} (h:∀ b ∈ l,b.size <= m):szB (ut l s) <= m * 32:=by
 have key:∀ q:List Nat,szB (q.map fun i=>l.getD i default) <= m * q.length:=by
  intro q
  induction q with
  | nil=>simp [szB]
  | cons i q ih =>
   have h1:(l.getD i default).size <= m:=by
    rw [bjd]
    cases hi:l[i]? with
    | none=>exact bji _
    | some b=>exact h b (List.mem_of_getElem? hi)
   have h2:szB ((i :: q).map fun i=>l.getD i default) = (l.getD i default).size + szB (q.map fun i=>l.getD i default):=by simp [szB]
   rw [h2,bk5,Nat.mul_succ];omega
 exact bjr (key _) (Nat.mul_le_mul_left _ (n8 s))
def b7i {s:AS} {m:Nat} (h:∀ b ∈ l,b.size <= m):(txT l s).size <= m * 32 + 33:=by
 unfold txT;split
 · show 1 <= _
   omega
 show (bOf _).size <= _;have h1:=aym (ut l s) [44];have h2:=ajn (s:=s) h;have h3:(ut l s).length <= 32:=by unfold ut;rw [bk0];exact n8 s
 have h4:(bOf (Lib.join ((ut l s).map bL) (bL ⟨#[44]⟩))).size = (Lib.join ((ut l s).map bL) [44]).length:=rfl;rw [h4];simp only [bkw,Nat.one_mul] at h1;omega
end
end
section
open Go.Proofs Go.Proofs.YtkkenjdfbojdlaaGreatDoor
open Go.RowKit Go.ChangeShapes Go.WideShapes Go.ChangeAt
def rd5:Rd bo6 5 1 u8C:=(bf7 Tryz.underlying5).co (fun u=>u.toBitVec) fun a j hj=>CoP.refl _
def bga:RdB bo6 113 2 Dp.c fun _ _=>True:=by
 intro H enc w sp held fuel cs x h;obtain ⟨hl,n,hf⟩:=ayv Tryz.underlying113 h;obtain ⟨y0,e0⟩:=hf 0 bnl;obtain ⟨y1,e1⟩:=hf 1 bnl;have hc:bo6.cellsOf 5 = 1:=by kernel_rfl
 obtain ⟨a0,_,h0⟩:=jz (off:=0) (fun _ _ _ _ _=>trivial) rd5.toB (by simpa using e0);obtain ⟨a1,_,h1⟩:=jz (off:=1) (fun _ _ _ _ _=>trivial) rd5.toB (by simpa [hc] using e1);refine ⟨hl.trans bnz,(⟨a0,a1⟩:Dp),trivial,fun j hj=>?_⟩
 match j,hj with
 | 0,_=>exact h0 0 bnl
 | 1,_=>exact h1 0 bnl
def b9l:RdB bo6 22 1 (arx 2 Dp.c) fun b l=>l.length <= b :=
 (a65 (B:=fun _ _=>True) (fun _ _ _ _ _=>trivial) Tryz.underlying22 bnz bnl bga).co id (fun b a h=>h.1) fun a j hj=>CoP.refl _
def bgx:RdB bo6 23 1 (arx 1 u8C) fun b l=>l.length <= b :=
 (a65 (B:=fun _ _=>True) (fun _ _ _ _ _=>trivial) Tryz.underlying23 bnz bnl rd5.toB).co id (fun b a h=>h.1) fun a j hj=>CoP.refl _
abbrev Rcp.c (d:Rcp):Nat -> PV:=fun j=>[.raw (.int .u8 (d.n.toNat:Int)),dpl d.f,dpl d.m,psl 1 u8C d.p].getD j .any
def bhl:RdB bo6 25 4 Rcp.c fun b d=>d.f.length <= b /\ d.m.length <= b /\ d.p.length <= b:=by
 intro H enc w sp held fuel cs x h;obtain ⟨hl,n,hf⟩:=ace Tryz.underlying25 h;obtain ⟨y0,e0⟩:=hf 0 _ rfl;obtain ⟨y1,e1⟩:=hf 1 _ rfl;obtain ⟨y2,e2⟩:=hf 2 _ rfl;obtain ⟨y3,e3⟩:=hf 3 _ rfl;obtain ⟨a0,_,h0⟩:=jz (fun _ _ _ _ _=>trivial) rd5.toB e0;obtain ⟨a1,b1,h1⟩:=jz (B:=fun b (l:List Dp)=>l.length <= b) (fun _ _ _ h k=>bjr k h) b9l e1;obtain ⟨a2,b2,h2⟩:=jz (B:=fun b (l:List Dp)=>l.length <= b) (fun _ _ _ h k=>bjr k h) b9l e2;obtain ⟨a3,b3,h3⟩:=jz (B:=fun b (l:List (BitVec 8))=>l.length <= b) (fun _ _ _ h k=>bjr k h) bgx e3;refine ⟨hl.trans bnz,(⟨a0,a1,a2,a3⟩:Rcp),⟨b1,b2,b3⟩,fun j hj=>?_⟩
 match j,hj with
 | 0,_=>exact h0 0 bnl
 | 1,_=>exact h1 0 bnl
 | 2,_=>exact h2 0 bnl
 | 3,_=>exact h3 0 bnl
def beo:bo6.readableRec 25 = true /\ 25 < bo6.types.size:=⟨by kernel_rfl,of_decide_eq_true bnz⟩
end
section
section
variable {l:List Bs}
def aiq {i:Nat} (hi:i < l.length):szB (l.take (i + 1)) = szB (l.take i) + (l.getD i default).size:=by
 unfold szB;rw [List.take_succ,bjc hi,bln,List.sum_append,bjd,bjc hi];simp
def awy (l:List Bs) (i:Nat):szB l = szB (l.take i) + szB (l.drop i):=by
 unfold szB;rw [<- List.sum_append,<- bln,bmf]
def a13 (l:List Bs) (i:Nat):szB (l.take i) <= szB l:=by have:=awy l i;omega
def ac2 {i:Nat} (hi:i < l.length):(l.getD i default).size <= szB l:=by
 have h1:=aiq hi;have h2:=a13 l (i + 1);omega
def se (l:List Bs) (sep:Bs) (i:Nat):List UInt8:=bL (l.getD 0 default) ++ Lib.joinTail (bL sep) (((l.drop 1).take i).map bL)
def bbh (l:List Bs) (sep:Bs):se l sep 0 = [] ++ bL (l.getD 0 default):=by simp [se,Lib.joinTail]
def agw {sep:Bs} {i:Nat} (hi:1 + i < l.length):se l sep (i + 1) = (se l sep i ++ bL sep) ++ bL (l.getD (1 + i) default):=by
 unfold se
 have h:((l.drop 1).map bL)[i]? = some (bL (l.getD (1 + i) default)):=by
  rw [bjz,blp,bjd,bjc hi];rfl
 have h2:=Lib.joinTail_take_succ (bL sep) ((l.drop 1).map bL) i _ h;rw [List.map_take,List.map_take,h2];simp only [bkn]
def azo (sep:Bs) (h:l ≠ []):(⟨(se l sep (l.length - 1)).toArray⟩:Bs) = a3h l sep:=by
 obtain ⟨x,r,rfl⟩:=List.exists_cons_of_ne_nil h;unfold se a3h bOf;rw [bkt,Lib.join_cons];simp
def b51 (l:List Bs) (sep:Bs) (i:Nat):(se l sep i).length <= szB l + sep.size * l.length:=by
 unfold se;rw [bjj,Lib.joinTail_length,bk0]
 have h1:Lib.lens (((l.drop 1).take i).map bL) <= szB (l.drop 1):=by
  have:Lib.lens (((l.drop 1).take i).map bL) = szB ((l.drop 1).take i):=by
   unfold Lib.lens szB;rw [List.map_map];rfl
  rw [this];exact a13 _ _
 have h2:((l.drop 1).take i).length <= l.length:=by
  rw [bjn,bkz];omega
 have h3:(bL (l.getD 0 default)).length + szB (l.drop 1) <= szB l:=by
  cases l with
  | nil=>exact bjg 0
  | cons x r =>
   have e:szB (x :: r) = x.size + szB r:=by simp [szB]
   rw [e];show x.size + szB r <= _;omega
 have h4:=Nat.mul_le_mul_left sep.size h2;show _ + (sep.size * _ + _) <= _;omega
def awx (sep:Bs) (h:(l.length:Int) = 1):a3h l sep = l.getD 0 default:=by
 match l,h with
 | [x],_ =>
  show bOf (Lib.join [bL x] (bL sep)) = x;rw [Lib.join_one,be1]
def bhv {α:Type} {l:List α} (h:(l.length:Int) = 0):l = []:=bkx bnl
def b6l {n:Int} (h1:1 <= n) (h2:n <= 1000):(2:Int) <= 9223372036854775807 / n:=Int.le_ediv_of_mul_le bnl bnl
end
end
section
section
variable {b:AS}
def kg {a:AS} (h:∀ i,i < 32 -> a.getLsbD i = b.getLsbD i):a = b:=bkv h
variable {s:AS}
def jh {t:AS}:s &&& t = 0 <-> ∀ i,i < 32 -> s.getLsbD i = true -> t.getLsbD i = false:=by
 constructor
 · intro h i hi hs
   have:=congrArg (fun x:AS=>x.getLsbD i) h;simp only [bjv,hs,blm] at this;simpa using this
 intro h;apply kg;intro i hi;have:=h i hi;rw [bjv];cases hs:s.getLsbD i <;> simp_all
def a5c {t:AS} (h:s &&& t ≠ 0):∃ i,i < 32 /\ s.getLsbD i = true /\ t.getLsbD i = true:=by
 apply Classical.byContradiction;intro hn;refine h (jh.2 fun i hi hs=>?_)
 cases ht:t.getLsbD i with
 | false=>rfl
 | true=>exact absurd ⟨i,hi,hs,ht⟩ hn
def akt (h:s ≠ 0):∃ i,i < 32 /\ s.getLsbD i = true:=by
 apply Classical.byContradiction;intro hn;refine h (kg fun i hi=>?_)
 cases hs:s.getLsbD i with
 | false=>simp
 | true=>exact absurd ⟨i,hi,hs⟩ hn
def zk {i:Nat} (h:s.getLsbD i = true):i < 32:=BitVec.lt_of_getLsbD h
def cz {t:AS} {i:Nat} (hi:i < 32):(s &&& ~~~t).getLsbD i = (s.getLsbD i && !t.getLsbD i):=by simp [hi]
def jd (a:Nat):AS:=1#32 <<< a
def fp {a i:Nat} (ha:a < 32) (hi:i < 32):(jd a).getLsbD i = decide (i = a):=by
 unfold jd;rw [BitVec.getLsbD_shiftLeft];by_cases h:i = a
 · subst h;simp [hi]
 by_cases h2:i < a
 · simp [h,h2,hi]
 have:i - a ≠ 0:=by omega
 simp [h,h2,hi,BitVec.getLsbD_one,this]
def axl {a:Nat} (ha:a < 32) (h:sub b (jd a)) (hb:b.getLsbD a = true):b = jd a:=by
 apply kg;intro i hi;have:=ar.1 h i hi;rw [fp ha hi] at this ⊢;by_cases e:i = a
 · subst e;simp [hb]
 cases hs:b.getLsbD i
 · simp [e]
 simp [e,hs] at this
def dt (m:Fd) (b:AS):Bool:=decide (b &&& m.lhs = 0) && (decide (b &&& m.rhs ≠ 0) && decide (b &&& ~~~m.rhs ≠ 0))
def hdB (m:Fd) (b:AS):AS:=if dt m b = true then b &&& m.rhs else b
def tlB (m:Fd) (b:AS):List AS:=if dt m b = true then [b &&& ~~~m.rhs] else []
def stB (m:Fd) (l:List AS) (i:Nat):List AS:=(l.take i).map (hdB m) ++ l.drop i ++ (l.take i).flatMap (tlB m)
def rdB (m:Fd) (l:List AS):List AS:=l.map (hdB m) ++ l.flatMap (tlB m)
def cg (ms:List Fd) (l:List AS):List AS:=ms.foldl (fun l m=>rdB m l) l
def m7:List Fd -> List AS -> Bool
 | [],_=>false
 | m :: ms,l=>l.any (dt m) || m7 ms (rdB m l)
def xd (ms:List Fd):Nat -> List AS -> List AS
 | 0,l=>l
 | f + 1,l=>if m7 ms l = true then xd ms f (cg ms l) else cg ms l
def muB:List AS -> Nat
 | []=>0
 | b :: l=>b.toNat * b.toNat + muB l
def ae8:∀ (l k:List AS),muB (l ++ k) = muB l + muB k
 | [],k=>by simp [muB]
 | b :: l,k=>by simp [muB,ae8 l k];omega
def a90 (b r:AS):(b &&& r).toNat + (b &&& ~~~r).toNat = b.toNat:=by
 have h:(b &&& r) &&& (b &&& ~~~r) = 0#32:=jh.2 fun i hi hs=>by
  rw [cz hi];rw [bjv,bjm] at hs;simp [hs.1,hs.2]
 have e:(b &&& r) + (b &&& ~~~r) = b:=by
  rw [BitVec.add_eq_or_of_and_eq_zero _ _ h];apply kg;intro i hi;rw [bky,cz hi,bjv];cases b.getLsbD i <;> cases r.getLsbD i <;> rfl
 rw [<- BitVec.toNat_add_of_and_eq_zero h,e]
def sa {m:Fd}:dt m b = true <-> b &&& m.lhs = 0 /\ b &&& m.rhs ≠ 0 /\ b &&& ~~~m.rhs ≠ 0:=by simp [dt]
def ay8 {x y z:Nat} (h:x + y = z) (hx:0 < x) (hy:0 < y):x * x + y * y < z * z:=by
 subst h;rw [bkj,Nat.mul_add,Nat.mul_add];have:0 < x * y:=Nat.mul_pos hx hy;have:0 < y * x:=Nat.mul_pos hy hx;omega
def a6m (h:b ≠ 0):0 < b.toNat:=Nat.pos_of_ne_zero fun e=>h (bka e)
def aw3 (m:Fd):∀ (l:List AS),muB (l.map (hdB m)) + muB (l.flatMap (tlB m)) + (if l.any (dt m) = true then 1 else 0) <= muB l
 | []=>by simp [muB]
 | b :: l=>by
  have ih:=aw3 m l;rw [bkt,bml,ae8,List.any_cons];simp only [muB];by_cases h:dt m b = true
  · obtain ⟨_,h2,h3⟩:=sa.1 h
    have:=ay8 (a90 b m.rhs) (a6m h2) (a6m h3);simp only [hdB,tlB,h,if_true,muB,Bool.true_or];omega
  rw [bmy] at h;simp only [hdB,tlB,h,muB,Bool.false_or,bkr,if_false];omega
def b6h (m:Fd) (l:List AS):muB (rdB m l) + (if l.any (dt m) = true then 1 else 0) <= muB l:=by
 unfold rdB;rw [ae8];exact aw3 m l
def aee:∀ (ms:List Fd) (l:List AS),muB (cg ms l) + (if m7 ms l = true then 1 else 0) <= muB l
 | [],l=>by simp [cg,m7]
 | m :: ms,l=>by
  have h1:=b6h m l;have h2:=aee ms (rdB m l);show muB (cg ms (rdB m l)) + _ <= _;simp only [m7];by_cases h3:l.any (dt m) = true <;> by_cases h4:m7 ms (rdB m l) = true <;> simp only [h3,h4,Bool.true_or,Bool.or_true,Bool.or_false,if_true,bkr,if_false] at h1 h2 ⊢ <;> omega
def ayf {m:Fd} {l:List AS} (h:l.any (dt m) = false):rdB m l = l:=by
 have h':∀ b ∈ l,dt m b = false:=fun b hb=>by
  have:=bl5.1 h b hb;simpa using this
 have e1:l.map (hdB m) = l:=by
  conv=>rhs;rw [<- List.map_id l]
  exact bls fun b hb=>by simp [hdB,h' b hb]
 have e2:l.flatMap (tlB m) = []:=List.flatMap_eq_nil_iff.2 fun b hb=>by simp [tlB,h' b hb]
 simp [rdB,e1,e2]
def aif:∀ {ms:List Fd} {l:List AS},m7 ms l = false -> cg ms l = l /\ ∀ m ∈ ms,∀ b ∈ l,dt m b = false
 | [],l,_=>⟨rfl,fun _ h=>by cases h⟩
 | m :: ms,l,h=>by
  simp only [m7,bmj] at h;have e:=ayf h.1;rw [e] at h;obtain ⟨h1,h2⟩:=aif h.2;refine ⟨?_,fun k hk b hb=>?_⟩
  · show cg ms (rdB m l) = l
    rw [e];exact h1
  rcases bjq.1 hk with rfl | hk
  · have:=bl5.1 h.1 b hb
    simpa using this
  exact h2 k hk b hb
structure Blk (ms:List Fd) (rest:AS) (bs:List AS):Prop where
 nz:∀ b ∈ bs,b ≠ 0
 cnt:∀ a,a < 32 -> bs.countP (fun b=>b.getLsbD a) = if rest.getLsbD a = true then 1 else 0
 ind:∀ G:AS -> Prop,G rest -> (∀ m ∈ ms,∀ b,G b -> dt m b = true -> G (b &&& m.rhs) /\ G (b &&& ~~~m.rhs)) -> ∀ b ∈ bs,G b
variable {bs:List AS} {ms:List Fd} {rest:AS}
theorem Blk.rd (h:Blk ms rest bs) {m:Fd} (hm:m ∈ ms):Blk ms rest (rdB m bs):=by
 have hmem:∀ {b:AS},b ∈ rdB m bs -> ∃ b0 ∈ bs,(dt m b0 = false /\ b = b0) \/ (dt m b0 = true /\ (b = b0 &&& m.rhs \/ b = b0 &&& ~~~m.rhs)):=by
  intro b hb;unfold rdB at hb
  rcases bjw.1 hb with hb | hb
  · obtain ⟨b0,h0,rfl⟩:=bkg.1 hb
    refine ⟨b0,h0, ?_⟩;cases hs:dt m b0 <;> simp [hdB,hs]
  obtain ⟨b0,h0,hb⟩:=List.mem_flatMap.1 hb;refine ⟨b0,h0, ?_⟩;cases hs:dt m b0
  · simp [tlB,hs] at hb
  simp [tlB,hs] at hb;exact .inr ⟨rfl, .inr hb⟩
 refine ⟨fun b hb=>?_,fun a ha=>?_,fun G h0 hG b hb=>?_⟩
 · obtain ⟨b0,h0,⟨_,rfl⟩ | ⟨hs,hb⟩⟩:=hmem hb
   · exact h.nz _ h0
   obtain ⟨_,h2,h3⟩:=sa.1 hs
   rcases hb with rfl | rfl
   · exact h2
   exact h3
 · rw [<- h.cnt a ha]
   have:∀ l:List AS,(l.map (hdB m)).countP (fun b=>b.getLsbD a) + (l.flatMap (tlB m)).countP (fun b=>b.getLsbD a) = l.countP (fun b=>b.getLsbD a):=by
    intro l
    induction l with
    | nil=>rfl
    | cons b l ih =>
     rw [bkt,bml,bn9,bm0,bm0,<- ih];cases hs:dt m b
     · simp [hdB,tlB,hs];omega
     simp only [hdB,tlB,hs,if_true,bm0,List.countP_nil,cz ha,bjv];cases b.getLsbD a <;> cases m.rhs.getLsbD a <;> simp <;> omega
   unfold rdB;rw [bn9];exact this bs
 obtain ⟨b0,h1,⟨_,rfl⟩ | ⟨hs,hb⟩⟩:=hmem hb
 · exact h.ind G h0 hG _ h1
 obtain ⟨g1,g2⟩:=hG m hm b0 (h.ind G h0 hG _ h1) hs
 rcases hb with rfl | rfl
 · exact g1
 exact g2
theorem Blk.ron:∀ {ms':List Fd} {bs:List AS},(∀ m ∈ ms',m ∈ ms) -> Blk ms rest bs -> Blk ms rest (cg ms' bs)
 | [],bs,_,h=>h
 | m :: ms',bs,hm,h=>Blk.ron (ms':=ms') (fun k hk=>hm k (by simp [hk])) (h.rd (hm m bnp))
theorem Blk.end_:∀ {f:Nat} {bs:List AS},muB bs < f -> Blk ms rest bs -> Blk ms rest (xd ms f bs) /\ ∀ m ∈ ms,∀ b ∈ xd ms f bs,dt m b = false
 | 0,bs,hf,_=>absurd hf (bjh _)
 | f + 1,bs,hf,h=>by
  have hr:=h.ron (ms':=ms) (fun _ h=>h);unfold xd;cases hc:m7 ms bs
  · obtain ⟨e,hs⟩:=aif hc
    simp only [bkr,if_false];rw [e];exact ⟨h,hs⟩
  have:=aee ms bs;rw [hc] at this;simp only [if_true] at this ⊢;exact Blk.end_ bnl hr
def jo (rest:AS):List AS:=if rest = 0 then [] else [rest]
theorem Blk.start (ms:List Fd) (rest:AS):Blk ms rest (jo rest):=by
 unfold jo;by_cases h:rest = 0
 · subst h
   simp only [if_true];exact ⟨fun _ h=>by (cases h),fun a ha=>by simp,fun _ _ _ _ h=>by cases h⟩
 rw [if_neg h];exact ⟨fun b hb=>by (simp at hb;subst hb;exact h),fun a ha=>by simp [bm0],fun G h0 _ b hb=>by (simp at hb;subst hb;exact h0)⟩
def agj (rest:AS):muB (jo rest) < 18446744073709551616:=by
 unfold jo;split
 · simp [muB]
 simp only [muB];have h:=rest.isLt;have:=Nat.mul_le_mul (bm8 (show rest.toNat < 4294967295 + 1 from h)) (bm8 (show rest.toNat < 4294967295 + 1 from h));omega
def blks (ms:List Fd) (rest:AS):List AS:=xd ms 18446744073709551616 (jo rest)
def aek (ms:List Fd) (rest:AS):Blk ms rest (blks ms rest) /\ ∀ m ∈ ms,∀ b ∈ blks ms rest,dt m b = false:=Blk.end_ (agj rest) (Blk.start ms rest)
def asu {p:AS -> Bool} {l:List AS} (h:l.countP p <= 1) {a:AS} (ha:a ∈ l) (hb:b ∈ l) (pa:p a = true) (pb:p b = true):a = b:=by
 rw [List.countP_eq_length_filter] at h;have h1:a ∈ l.filter p:=blj.2 ⟨ha,pa⟩;have h2:b ∈ l.filter p:=blj.2 ⟨hb,pb⟩
 cases hl:l.filter p with
 | nil=>rw [hl] at h1;cases h1
 | cons x r =>
  rw [hl] at h h1 h2
  cases r with
  | nil=>simp at h1 h2;rw [h1,h2]
  | cons=>simp at h
theorem Blk.one (h:Blk ms rest bs) {b':AS} (hb:b ∈ bs) (hb':b' ∈ bs) {a:Nat} (h1:b.getLsbD a = true) (h2:b'.getLsbD a = true):b = b':=by
 refine asu (p:=fun b=>b.getLsbD a) ?_ hb hb' h1 h2;rw [h.cnt a (zk h1)];split <;> omega
theorem Blk.cov (h:Blk ms rest bs) {a:Nat} (ha:rest.getLsbD a = true):∃ b ∈ bs,b.getLsbD a = true:=by
 have:=h.cnt a (zk ha);rw [if_pos ha] at this;exact List.countP_pos_iff.1 bnl
theorem Blk.sub (h:Blk ms rest bs) (hb:b ∈ bs):Go.Hx.sub b rest:=ar.2 fun a ha hba=>by
 have h1:=h.cnt a ha;have h2:0 < bs.countP (fun b=>b.getLsbD a):=List.countP_pos_iff.2 ⟨b,hb,hba⟩
 cases hr:rest.getLsbD a with
 | true=>rfl
 | false=>rw [hr] at h1;simp only [bkr,if_false] at h1;omega
end
end
section
def sgl (f:Fd):List Fd:=(aj f.rhs).map fun a=>⟨f.lhs,jd a⟩
def ju (fs ms:List Fd):List Fd:=ms ++ fs.flatMap sgl
def a5v {fs ms:List Fd} {m:Fd}:m ∈ ju fs ms <-> m ∈ ms \/ ∃ f ∈ fs,∃ a,a < 32 /\ f.rhs.getLsbD a = true /\ m = ⟨f.lhs,jd a⟩:=by
 unfold ju sgl;simp only [bjw,List.mem_flatMap,bkg,jc];constructor
 · rintro (h | ⟨f,hf,a,⟨h1,h2⟩,rfl⟩)
   · exact .inl h
   exact .inr ⟨f,hf,a,h1,h2,rfl⟩
 rintro (h | ⟨f,hf,a,h1,h2,rfl⟩)
 · exact .inl h
 exact .inr ⟨f,hf,a,⟨h1,h2⟩,rfl⟩
def fy (T:List AS) (r:AS):List AS:=if r ∈ T then T else T ++ [r]
def oo {T:List AS} {r z:AS}:z ∈ fy T r <-> z ∈ T \/ z = r:=by
 unfold fy;split
 · rename_i h
   constructor
   · exact .inl
   rintro (h2 | rfl)
   · exact h2
   exact h
 simp
def xq {T:List AS} {r:AS} (h:T.Nodup):(fy T r).Nodup:=by
 unfold fy;split
 · exact h
 rename_i hr;rw [List.nodup_append];exact ⟨h,by simp,fun a ha b hb=>by simp at hb;subst hb;rintro rfl;exact hr ha⟩
def mj (s:AS) (o:List AS) (T:List AS):List AS:=T.foldl (fun o r=>fy o (r &&& ~~~s)) o
def jv (T:List AS) (s:AS):List AS:=mj s [] T
def a9d {s:AS}:∀ {T o:List AS},(o.Nodup -> (mj s o T).Nodup) /\ ∀ z,z ∈ mj s o T <-> z ∈ o \/ ∃ r ∈ T,z = r &&& ~~~s
 | [],o=>⟨fun h=>h,fun z=>by simp [mj]⟩
 | r :: T,o=>by
  obtain ⟨h1,h2⟩:=a9d (s:=s) (T:=T) (o:=fy o (r &&& ~~~s));refine ⟨fun h=>h1 (xq h),fun z=>?_⟩;show z ∈ mj s (fy o (r &&& ~~~s)) T <-> _;rw [h2 z,oo];simp only [bjq];constructor
  · rintro ((h | h) | ⟨q,hq,h⟩)
    · exact .inl h
    · exact .inr ⟨r, .inl rfl,h⟩
    exact .inr ⟨q, .inr hq,h⟩
  rintro (h | ⟨q,rfl | hq,h⟩)
  · exact .inl (.inl h)
  · exact .inl (.inr h)
  exact .inr ⟨q,hq,h⟩
def s6 {T:List AS} {s z:AS}:z ∈ jv T s <-> ∃ r ∈ T,z = r &&& ~~~s:=by
 have:=(a9d (s:=s) (T:=T) (o:=[])).2 z;simpa [jv] using this
def acu (T:List AS) (s:AS):(jv T s).Nodup:=(a9d (s:=s) (T:=T) (o:=[])).1 List.nodup_nil
def ku (d:Fd) (r k:AS):AS:=(r &&& (d.lhs ||| d.rhs)) ||| (k &&& ~~~(d.lhs ||| d.rhs))
def agB (d:Fd) (r k:AS):Bool:=decide ((r ^^^ k) &&& d.lhs = 0)
def v6 {d:Fd} {r k:AS}:agB d r k = true <-> ∀ i,i < 32 -> d.lhs.getLsbD i = true -> r.getLsbD i = k.getLsbD i:=by
 unfold agB;rw [decide_eq_true_eq,jh];constructor
 · intro h i hi hl
   have:=h i hi;rw [bna] at this;cases hr:r.getLsbD i <;> cases hk:k.getLsbD i <;> simp_all
 intro h i hi hx
 cases hl:d.lhs.getLsbD i with
 | false=>rfl
 | true =>
  rw [bna,h i hi hl] at hx;simp at hx
def vm {d:Fd} {r k:AS} {i:Nat} (hi:i < 32):(ku d r k).getLsbD i = (if d.lhs.getLsbD i || d.rhs.getLsbD i then r.getLsbD i else k.getLsbD i):=by
 unfold ku;rw [bky,cz hi,bjv,bky];cases d.lhs.getLsbD i <;> cases d.rhs.getLsbD i <;> simp
structure ahv (fs ms:List Fd) (T:List AS):Prop where
 fd:∀ d ∈ fs,∀ r ∈ T,∀ k ∈ T,agB d r k = true -> (r ^^^ k) &&& d.rhs = 0
 mv:∀ d ∈ ms,∀ r ∈ T,∀ k ∈ T,agB d r k = true -> ku d r k ∈ T
def acg (fs:List Fd) (bs:List AS) (a:Nat):Prop:=jd a ∈ bs /\ ∃ f ∈ fs,f.rhs.getLsbD a = true /\ f.lhs.getLsbD a = false
structure JT (fs:List Fd) (bs:List AS) (rest:AS) (T:List AS):Prop where
 z:(0:AS) ∈ T
 r:∀ r ∈ T,sub r rest /\ ∀ b ∈ bs,b &&& r = 0 \/ sub b r
 top:∃ L ∈ T,(∀ r ∈ T,sub r L) /\ ∀ a,a < 32 -> rest.getLsbD a = true -> L.getLsbD a = false -> acg fs bs a
def a17 {b r:AS} (h:b &&& r = 0 \/ sub b r) {a c:Nat} (hc:c < 32) (ha:b.getLsbD a = true) (hb:b.getLsbD c = true):r.getLsbD a = r.getLsbD c:=by
 rcases h with h | h
 · rw [jh.1 h a (zk ha) ha,jh.1 h c hc hb]
 rw [ar.1 h a (zk ha) ha,ar.1 h c hc hb]
def aoi {b r:AS} (h:∀ a c,a < 32 -> c < 32 -> b.getLsbD a = true -> b.getLsbD c = true -> r.getLsbD a = true -> r.getLsbD c = true):b &&& r = 0 \/ sub b r:=by
 by_cases hz:b &&& r = 0
 · exact .inl hz
 obtain ⟨a,ha,h1,h2⟩:=a5c hz;exact .inr (ar.2 fun c hc hb=>h a c ha hc h1 hb h2)
section
variable {fs ms:List Fd} {bs:List AS} {rest:AS} {T:List AS}
theorem JT.mix (h:JT fs bs rest T) {d:Fd} (hs:∀ b ∈ bs,dt d b = false) {r k:AS} (hr:r ∈ T) (hk:k ∈ T) (ha:agB d r k = true):JT fs bs rest (fy T (ku d r k)):=by
 have ha:=v6.1 ha;obtain ⟨r1,r2⟩:=h.r r hr;obtain ⟨k1,k2⟩:=h.r k hk;obtain ⟨L,l1,l2,l3⟩:=h.top
 have hm:∀ R:AS,sub r R -> sub k R -> sub (ku d r k) R:=fun R h1 h2=>ar.2 fun i hi hb=>by
  rw [vm hi] at hb;split at hb
  · exact ar.1 h1 i hi hb
  exact ar.1 h2 i hi hb
 refine ⟨oo.2 (.inl h.z),fun q hq=>?_,L,oo.2 (.inl l1),fun q hq=>?_,l3⟩
 · rcases oo.1 hq with hq | rfl
   · exact h.r q hq
   refine ⟨hm rest r1 k1,fun b hb=>?_⟩;refine aoi fun a c hal hcl hba hbc hqa=>?_;rw [vm hal] at hqa;rw [vm hcl];by_cases hL:b &&& d.lhs = 0
   · have hns:=hs b hb
     have hor:b &&& d.rhs = 0 \/ b &&& ~~~d.rhs = 0:=by
      apply Classical.byContradiction;intro hn;rw [not_or] at hn;rw [sa.2 ⟨hL,hn.1,hn.2⟩] at hns;cases hns
     have e1:=jh.1 hL a hal hba;have e2:=jh.1 hL c hcl hbc;rw [e1] at hqa;rw [e2]
     rcases hor with ho | ho
     · rw [jh.1 ho a hal hba] at hqa
       rw [jh.1 ho c hcl hbc];simp only [Bool.or_false,bkr,if_false] at hqa ⊢;rw [<- a17 (k2 b hb) hcl hba hbc];exact hqa
     have f1:=jh.1 ho a hal hba;have f2:=jh.1 ho c hcl hbc;have f1:d.rhs.getLsbD a = true:=by simpa [hal] using f1
     have f2:d.rhs.getLsbD c = true:=by simpa [hcl] using f2
     rw [f1] at hqa;rw [f2];simp only [Bool.or_true,if_true] at hqa ⊢;rw [<- a17 (r2 b hb) hcl hba hbc];exact hqa
   obtain ⟨e,he,hbe,hle⟩:=a5c hL;have hrk:=ha e he hle;have ra:=a17 (r2 b hb) he hba hbe;have rc:=a17 (r2 b hb) he hbc hbe;have ka:=a17 (k2 b hb) he hba hbe;have kc:=a17 (k2 b hb) he hbc hbe
   have x1:r.getLsbD e = true:=by
    split at hqa
    · rw [<- ra];exact hqa
    rw [hrk,<- ka];exact hqa
   split
   · rw [rc];exact x1
   rw [kc,<- hrk];exact x1
 rcases oo.1 hq with hq | rfl
 · exact l2 q hq
 exact hm L (l2 r hr) (l2 k hk)
theorem JT.equ (h:JT fs bs rest T) (hbk:Blk (ju fs ms) rest bs) (hs:∀ m ∈ ju fs ms,∀ b ∈ bs,dt m b = false) {d:Fd} (hd:d ∈ fs) {r k:AS} (hr:r ∈ T) (hk:k ∈ T) (ha:agB d r k = true):JT fs bs rest (jv T ((r ^^^ k) &&& d.rhs)):=by
 have ha:=v6.1 ha;obtain ⟨r1,r2⟩:=h.r r hr;obtain ⟨k1,k2⟩:=h.r k hk;obtain ⟨L,l1,l2,l3⟩:=h.top
 have hdead:∀ a,a < 32 -> ((r ^^^ k) &&& d.rhs).getLsbD a = true -> acg fs bs a:=fun a hal h0=>by
  rw [bjv,bna,bjm] at h0;obtain ⟨h0,hR⟩:=h0;have hne:r.getLsbD a ≠ k.getLsbD a:=fun e=>by rw [e] at h0;simp at h0
  have hLa:d.lhs.getLsbD a = false:=by
   cases hl:d.lhs.getLsbD a with
   | false=>rfl
   | true=>exact absurd (ha a hal hl) hne
  have hrest:rest.getLsbD a = true:=by
   cases hra:r.getLsbD a with
   | true=>exact ar.1 r1 a hal hra
   | false =>
    cases hka:k.getLsbD a with
    | true=>exact ar.1 k1 a hal hka
    | false=>rw [hra,hka] at hne;exact absurd rfl hne
  obtain ⟨b,hb,hba⟩:=hbk.cov hrest
  have hL0:b &&& d.lhs = 0:=jh.2 fun e he hbe=>by
   cases hl:d.lhs.getLsbD e with
   | false=>rfl
   | true =>
    have h1:=ha e he hl;rw [<- a17 (r2 b hb) he hba hbe,<- a17 (k2 b hb) he hba hbe] at h1;exact absurd h1 hne
  have hsp:=hs ⟨d.lhs,jd a⟩ (a5v.2 (.inr ⟨d,hd,a,hal,hR,rfl⟩)) b hb
  have hsub:sub b (jd a):=by
   apply Classical.byContradiction;intro hn
   have ht:dt ⟨d.lhs,jd a⟩ b = true:=sa.2 ⟨hL0,fun e=>by
    have:=jh.1 (show b &&& jd a = 0 from e) a hal hba;rw [fp hal hal] at this
    simp at this,hn⟩
   rw [ht] at hsp;cases hsp
  have he:=axl hal hsub hba;exact ⟨by rw [<- he];exact hb,d,hd,hR,hLa⟩
 refine ⟨s6.2 ⟨0,h.z,by simp⟩,fun q hq=>?_,L &&& ~~~((r ^^^ k) &&& d.rhs),s6.2 ⟨L,l1,rfl⟩,fun q hq=>?_,fun a hal h1 h2=>?_⟩
 · obtain ⟨p,hp,rfl⟩:=s6.1 hq
   obtain ⟨p1,p2⟩:=h.r p hp;refine ⟨ar.2 fun i hi hb=>?_,fun b hb=>aoi fun a c hal hcl hba hbc hqa=>?_⟩
   · rw [cz hi,bjm] at hb
     exact ar.1 p1 i hi hb.1
   rw [cz hal,bjm] at hqa;rw [cz hcl,bjm];refine ⟨by rw [<- a17 (p2 b hb) hcl hba hbc];exact hqa.1, ?_⟩
   cases hsc:((r ^^^ k) &&& d.rhs).getLsbD c with
   | false=>rfl
   | true =>
    have hsg:=(hdead c hcl hsc).1;have he:=hbk.one hb hsg hbc (by rw [fp hcl hcl];simp);rw [he,fp hcl hal] at hba;have hac:a = c:=by simpa using hba
    rw [hac,hsc] at hqa;simp at hqa
 · obtain ⟨p,hp,rfl⟩:=s6.1 hq
   refine ar.2 fun i hi hb=>?_;rw [cz hi,bjm] at hb ⊢;exact ⟨ar.1 (l2 p hp) i hi hb.1,hb.2⟩
 rw [cz hal] at h2
 cases hLa:L.getLsbD a with
 | false=>exact l3 a hal h1 hLa
 | true =>
  rw [hLa] at h2;exact hdead a hal (by simpa using h2)
def bdz (T:List AS) (b:AS):Prop:=∀ r ∈ T,∀ k ∈ T,((r &&& b) ||| (k &&& ~~~b)) ∈ T
def jm {r k b:AS} {i:Nat} (hi:i < 32):((r &&& b) ||| (k &&& ~~~b)).getLsbD i = (if b.getLsbD i then r.getLsbD i else k.getLsbD i):=by
 rw [bky,cz hi,bjv];cases b.getLsbD i <;> simp
def b2b {r k s:AS} (h:(r ^^^ k) &&& s = 0) {i:Nat} (hi:i < 32) (hs:s.getLsbD i = true):r.getLsbD i = k.getLsbD i:=by
 have:=jh.1 (show s &&& (r ^^^ k) = 0 by rw [BitVec.and_comm];exact h) i hi hs;rw [bna] at this;cases hr:r.getLsbD i <;> cases hk:k.getLsbD i <;> simp_all
def aij (hT:JT fs bs rest T) (hc:ahv fs ms T) (hbk:Blk (ju fs ms) rest bs):∀ b ∈ bs,bdz T b:=by
 refine hbk.ind _ (fun r hr k hk=>?_) fun m hm b hb hsp=>?_
 · have e:(r &&& rest) ||| (k &&& ~~~rest) = r:=by
    apply kg;intro i hi;rw [jm hi];split
    · rfl
    rename_i hn;have h1:=ar.1 (hT.r r hr).1 i hi;have h2:=ar.1 (hT.r k hk).1 i hi;cases hr2:r.getLsbD i <;> cases hk2:k.getLsbD i <;> simp_all
   rw [e];exact hr
 obtain ⟨s1,s2,s3⟩:=sa.1 hsp
 have key:∀ r ∈ T,∀ k ∈ T,((r &&& b) ||| (k &&& ~~~b)) ∈ T /\ agB m ((r &&& b) ||| (k &&& ~~~b)) k = true:=fun r hr k hk=>by
  refine ⟨hb r hr k hk,v6.2 fun i hi hl=>?_⟩;rw [jm hi]
  have:b.getLsbD i = false:=by
   cases h:b.getLsbD i with
   | false=>rfl
   | true=>rw [jh.1 s1 i hi h] at hl;cases hl
  simp [this]
 have agc:∀ r k:AS,agB m r k = true -> agB m k r = true:=fun r k h=>v6.2 fun i hi hl=>(v6.1 h i hi hl).symm
 rcases a5v.1 hm with hm | ⟨f,hf,a,hal,hfa,rfl⟩
 · constructor
   · intro r hr k hk
     obtain ⟨h1,h2⟩:=key r hr k hk;have:=hc.mv m hm _ h1 k hk h2
     have e:ku m ((r &&& b) ||| (k &&& ~~~b)) k = (r &&& (b &&& m.rhs)) ||| (k &&& ~~~(b &&& m.rhs)):=by
      apply kg;intro i hi;rw [vm hi,jm hi,jm hi,bjv];cases hb2:b.getLsbD i <;> cases hl:m.lhs.getLsbD i <;> cases hr2:m.rhs.getLsbD i <;> simp;have:=jh.1 s1 i hi hb2;rw [hl] at this;cases this
     rw [e] at this;exact this
   intro r hr k hk;obtain ⟨h1,h2⟩:=key r hr k hk;have:=hc.mv m hm k hk _ h1 (agc _ _ h2)
   have e:ku m k ((r &&& b) ||| (k &&& ~~~b)) = (r &&& (b &&& ~~~m.rhs)) ||| (k &&& ~~~(b &&& ~~~m.rhs)):=by
    apply kg;intro i hi;rw [vm hi,jm hi,jm hi,cz hi];cases hb2:b.getLsbD i <;> cases hl:m.lhs.getLsbD i <;> cases hr2:m.rhs.getLsbD i <;> simp;have:=jh.1 s1 i hi hb2;rw [hl] at this;cases this
   rw [e] at this;exact this
 have hba:b.getLsbD a = true:=by
  obtain ⟨i,hi,h1,h2⟩:=a5c s2;rw [fp hal hi] at h2;have:i = a:=by simpa using h2
  rw [<- this];exact h1
 have hno:∀ r ∈ T,∀ k ∈ T,r.getLsbD a = k.getLsbD a:=fun r hr k hk=>by
  obtain ⟨h1,h2⟩:=key r hr k hk
  have h3:=b2b (hc.fd f hf _ h1 k hk (by
   rw [v6] at h2 ⊢
   exact h2)) hal hfa
  rw [jm hal,hba] at h3;simpa using h3
 have hza:∀ r ∈ T,r.getLsbD a = false:=fun r hr=>by rw [hno r hr 0 hT.z];simp
 constructor
 · intro r hr k hk
   have e:(r &&& (b &&& jd a)) ||| (k &&& ~~~(b &&& jd a)) = k:=by
    apply kg;intro i hi;rw [jm hi,bjv,fp hal hi];by_cases h:i = a
    · subst h;simp [hza r hr,hza k hk]
    simp [h]
   show (r &&& (b &&& jd a)) ||| (k &&& ~~~(b &&& jd a)) ∈ T
   rw [e];exact hk
 intro r hr k hk
 have e:(r &&& (b &&& ~~~jd a)) ||| (k &&& ~~~(b &&& ~~~jd a)) = (r &&& b) ||| (k &&& ~~~b):=by
  apply kg;intro i hi;rw [jm hi,jm hi,cz hi,fp hal hi];by_cases h:i = a
  · subst h;simp [hza r hr,hza k hk]
  simp [h]
 show (r &&& (b &&& ~~~jd a)) ||| (k &&& ~~~(b &&& ~~~jd a)) ∈ T
 rw [e];exact hb r hr k hk
structure ayl (fs ms:List Fd) (bs:List AS) (rest:AS) (T:List AS):Prop where
 j:JT fs bs rest T
 c:ahv fs ms T
def aya (h:ayl fs ms bs rest T) (hbk:Blk (ju fs ms) rest bs) {L:AS} (hL:L ∈ T) (hm:∀ r ∈ T,sub r L) {a:Nat} (hal:a < 32):acg fs bs a -> L.getLsbD a = false:=by
 rintro ⟨h1,f,hf,h2,h3⟩;have hg:=aij h.j h.c hbk _ h1 L hL 0 h.j.z
 have h4:=h.c.fd f hf _ hg 0 h.j.z (v6.2 fun i hi hl=>by
  rw [jm hi,fp hal hi];by_cases e:i = a
  · subst e;rw [h3] at hl;cases hl
  simp [e])
 have h5:=b2b h4 hal h2;rw [jm hal,fp hal hal] at h5;simpa using h5
def qB (T:List AS) (L x rest y:AS):Prop:=y ≠ 0 /\ sub y rest /\ (L &&& ~~~(x ||| y)) ∈ T
def atw (h:ayl fs ms bs rest T) (hbk:Blk (ju fs ms) rest bs) {L x:AS} (hL:L ∈ T) (hm:∀ r ∈ T,sub r L) (hx:rest &&& x = 0) (b:AS) :
 b ∈ bs <-> qB T L x rest b /\ ∀ y,qB T L x rest y -> sub y b -> y = b:=by
 have hLr:=(h.j.r L hL).1
 have hLx:∀ y:AS,L &&& ~~~(x ||| y) = L &&& ~~~y:=fun y=>by
  apply kg;intro i hi;rw [cz hi,cz hi,bky]
  cases hl:L.getLsbD i with
  | false=>rfl
  | true=>rw [jh.1 hx i hi (ar.1 hLr i hi hl)];simp
 have hA:∀ b ∈ bs,qB T L x rest b:=fun b hb=>by
  refine ⟨hbk.nz b hb,hbk.sub hb, ?_⟩;rw [hLx];have:=aij h.j h.c hbk b hb 0 h.j.z L hL;have e:((0:AS) &&& b) ||| (L &&& ~~~b) = L &&& ~~~b:=by simp
  rw [e] at this;exact this
 have hB:∀ y,qB T L x rest y -> ∃ b ∈ bs,sub b y:=fun y ⟨y1,y2,y3⟩=>by
  obtain ⟨a,hal,hya⟩:=akt y1;obtain ⟨b,hb,hba⟩:=hbk.cov (ar.1 y2 a hal hya);by_cases hs:sub b y
  · exact ⟨b,hb,hs⟩
  exfalso;obtain ⟨c,hcl,hbc,hyc⟩:=a5c hs;have hyc:y.getLsbD c = false:=by simpa [hcl] using hyc
  rw [hLx] at y3;have h1:=a17 ((h.j.r _ y3).2 b hb) hcl hba hbc;rw [cz hal,cz hcl,hya,hyc] at h1;have hLc:L.getLsbD c = false:=by simpa using h1.symm
  obtain ⟨L2,m1,m2,m3⟩:=h.j.top;have e:L2 = L:=ep (hm L2 m1) (m2 L hL);subst e;have hd:=(m3 c hcl (ar.1 (hbk.sub hb) c hcl hbc) hLc).1;have he:=hbk.one hb hd hbc (by rw [fp hcl hcl];simp);rw [he,fp hcl hal] at hba;have:a = c:=by simpa using hba
  rw [this,hyc] at hya;cases hya
 constructor
 · intro hb
   refine ⟨hA b hb,fun y hy hyb=>?_⟩;obtain ⟨b',hb',hs⟩:=hB y hy;obtain ⟨a,hal,hba⟩:=akt (hbk.nz b' hb');have hya:=ar.1 hs a hal hba;have e:=hbk.one hb' hb hba (ar.1 hyb a hal hya);subst e;exact ep hyb hs
 rintro ⟨hq,hmin⟩;obtain ⟨b',hb',hs⟩:=hB b hq;have:=hmin b' (hA b' hb') hs;rw [<- this];exact hb'
end
end
end Go.Hx
