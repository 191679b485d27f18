/- A part of the proof: X31 Cc4 Sp1 Sp2 Sp3 Sp4. -/
import Derived.Test.YteklilhbjjofbaaGreatDoorLa26
set_option linter.all false
set_option maxRecDepth 100000
set_option maxHeartbeats 1000000
namespace Go.Hx
section
open Go.Proofs
def anv (n:Int) (l:List Rw) (p m:List Fd) (i a b:Int):a8 b6e 48 [pT n l,pP (fdl p),pP (fdl m), .agg [.raw (.bool true), .raw (.int .i64 i), .raw (.int .i64 a), .raw (.int .i64 b)]] (aa [pT (cn n l p m true i a b).1 (cn n l p m true i a b).2.1,pI (cn n l p m true i a b).2.2]):=by
 refine hpx (nt:=69) Tryz.func48 ?_;refine sx7 ?_;refine m9 0 ?_;refine m9 1 ?_;refine m9 2 ?_;refine w_8 ?_;refine qcx a9r (a2d n l p m) ?_;refine w_7 ?_;refine hcn (fun h0=>?_) (fun h0=>?_)
 · refine w_7 ?_;refine hrr ?_;have he:=ad0 (n:=n) (l:=l) (p:=p) (m:=m) (mu:=true) (i:=i) (a:=a) (b:=b) b5p;exact f9 rfl rfl (by rw [he];exact ⟨CoC.agg ⟨CoP.refl _,au,trivial⟩,CoC.refl _,trivial⟩)
 have hck:ckE n l p m = 0:=by assumption
 obtain ⟨hT,hbe,hpa⟩:=a48 hck;refine ayk ?_;refine ag rfl rfl (fun r1=>?_) (fun r1=>?_)
 ·
  have h1:=tz1 r1;(iterate 4 refine k9 (gtf r1) ?_);refine w_2 ?_;(iterate 5 refine k9 rfl ?_);refine w_2 ?_;(iterate 6 refine k9 rfl ?_);refine w_2 ?_;(iterate 9 refine k9 rfl ?_);refine w_9 ?_;refine hrr ?_
  have hbad:ep l p m true i a b:=by
   first
    | exact bdS
    | (refine (jv (a:=a) (b:=b) ?_).elim (fun hq=>?_) (fun hq=>?_) <;> first | assumption | exact bdS)
    | (refine (jy (a:=a) (b:=b) (k:=(l.length:Int)) ?_).elim (fun hq=>?_) (fun hq=>?_) <;> first | assumption | exact bdS)
  have he:=j0 hck hbad;exact f9 rfl rfl (by rw [he];exact ⟨CoC.agg ⟨CoP.refl _,au,trivial⟩,CoC.refl _,trivial⟩)
 have h1:=tz2 r1;(iterate 4 refine qy ?_ (hg:=(gff r1)));refine w_2 ?_;refine ag rfl rfl (fun r2=>?_) (fun r2=>?_)
 ·
  have h2:=tz1 (af r1 r2);(iterate 5 refine k9 (gtf r2) ?_);refine w_2 ?_;(iterate 6 refine k9 rfl ?_);refine w_2 ?_;(iterate 9 refine k9 rfl ?_);refine w_9 ?_;refine hrr ?_
  have hbad:ep l p m true i a b:=by
   first
    | exact bdS
    | (refine (jv (a:=a) (b:=b) ?_).elim (fun hq=>?_) (fun hq=>?_) <;> first | assumption | exact bdS)
    | (refine (jy (a:=a) (b:=b) (k:=(l.length:Int)) ?_).elim (fun hq=>?_) (fun hq=>?_) <;> first | assumption | exact bdS)
  have he:=j0 hck hbad;exact f9 rfl rfl (by rw [he];exact ⟨CoC.agg ⟨CoP.refl _,au,trivial⟩,CoC.refl _,trivial⟩)
 have h2:=tz2 (af r1 r2);(iterate 5 refine qy ?_ (hg:=(gff r2)));refine w_2 ?_;refine ag rfl rfl (fun r3=>?_) (fun r3=>?_)
 ·
  have h3:=tz1 (af r2 r3);(iterate 6 refine k9 (gtf r3) ?_);refine w_2 ?_;(iterate 9 refine k9 rfl ?_);refine w_9 ?_;refine hrr ?_
  have hbad:ep l p m true i a b:=by
   first
    | exact bdS
    | (refine (jv (a:=a) (b:=b) ?_).elim (fun hq=>?_) (fun hq=>?_) <;> first | assumption | exact bdS)
    | (refine (jy (a:=a) (b:=b) (k:=(l.length:Int)) ?_).elim (fun hq=>?_) (fun hq=>?_) <;> first | assumption | exact bdS)
  have he:=j0 hck hbad;exact f9 rfl rfl (by rw [he];exact ⟨CoC.agg ⟨CoP.refl _,au,trivial⟩,CoC.refl _,trivial⟩)
 have h3:=tz2 (af r2 r3);(iterate 6 refine qy ?_ (hg:=(gff r3)));refine w_2 ?_;refine ag rfl rfl (fun r4=>?_) (fun r4=>?_)
 ·
  have h4:=tz1 (af r3 r4);(iterate 9 refine k9 (gtf r4) ?_);refine w_9 ?_;refine hrr ?_
  have hbad:ep l p m true i a b:=by
   first
    | exact bdS
    | (refine (jv (a:=a) (b:=b) ?_).elim (fun hq=>?_) (fun hq=>?_) <;> first | assumption | exact bdS)
    | (refine (jy (a:=a) (b:=b) (k:=(l.length:Int)) ?_).elim (fun hq=>?_) (fun hq=>?_) <;> first | assumption | exact bdS)
  have he:=j0 hck hbad;exact f9 rfl rfl (by rw [he];exact ⟨CoC.agg ⟨CoP.refl _,au,trivial⟩,CoC.refl _,trivial⟩)
 have h4:=tz2 (af r3 r4);(iterate 9 refine qy ?_ (hg:=(gff r4)));refine w_2 ?_;refine ai _ rfl (fun r5=>?_) (fun r5=>?_)
 ·
  have h5:=tz1 (af r4 r5);refine w_6 ?_;refine hrr ?_
  have hbad:ep l p m true i a b:=by
   first
    | exact bdS
    | (refine (jv (a:=a) (b:=b) ?_).elim (fun hq=>?_) (fun hq=>?_) <;> first | assumption | exact bdS)
    | (refine (jy (a:=a) (b:=b) (k:=(l.length:Int)) ?_).elim (fun hq=>?_) (fun hq=>?_) <;> first | assumption | exact bdS)
  have he:=j0 hck hbad;exact f9 rfl rfl (by rw [he];exact ⟨CoC.agg ⟨CoP.refl _,au,trivial⟩,CoC.refl _,trivial⟩)
 have h5:=tz2 (af r4 r5);refine w_2 ?_;obtain ⟨ha0,hb0⟩:=al2 (a:=a) (b:=b) b5p;obtain ⟨hal,hbl⟩:=ajt (a:=a) (b:=b) (k:=(l.length:Int)) b5p
 have hnb:¬ ep l p m true i a b:=by
  unfold ep;rintro (h | h | h | h | h | h | ⟨h,h2⟩ | ⟨h,h2⟩) <;> first | omega | cases h
 have ha:a.toNat < l.length:=by omega
 have hb:b.toNat < l.length:=by omega
 have hi:i.toNat < m.length:=by omega
 refine w_5 ?_;refine rc rfl rfl rfl rfl rfl rfl adf (afd n l p m i.toNat a.toNat b.toNat hT ha hb hi) (⟨CoC.refl _,CoC.refl _,CoC.refl _,CoC.agg ⟨CoP.refl _,CoP.of_eq (by rw [b53 b5o]),CoP.of_eq (by rw [b53 b5o]),CoP.of_eq (by rw [b53 b5o]),trivial⟩,trivial⟩) rfl rfl ?_;refine w_5 ?_;refine hrr ?_;have he:=a2e (n:=n) (i:=i) (a:=a) (b:=b) hck hnb;exact f9 rfl rfl (by rw [he];exact CoL.refl _)
def ams (n:Int) (l:List Rw) (p m:List Fd) (i a b:Int):a8 b6e 48 [pT n l,pP (fdl p),pP (fdl m), .agg [.raw (.bool false), .raw (.int .i64 i), .raw (.int .i64 a), .raw (.int .i64 b)]] (aa [pT (cn n l p m false i a b).1 (cn n l p m false i a b).2.1,pI (cn n l p m false i a b).2.2]):=by
 refine hpx (nt:=69) Tryz.func48 ?_;refine sx7 ?_;refine m9 0 ?_;refine m9 1 ?_;refine m9 2 ?_;refine w_8 ?_;refine qcx a9r (a2d n l p m) ?_;refine w_7 ?_;refine hcn (fun h0=>?_) (fun h0=>?_)
 · refine w_7 ?_;refine hrr ?_;have he:=ad0 (n:=n) (l:=l) (p:=p) (m:=m) (mu:=false) (i:=i) (a:=a) (b:=b) b5p;exact f9 rfl rfl (by rw [he];exact ⟨CoC.agg ⟨CoP.refl _,au,trivial⟩,CoC.refl _,trivial⟩)
 have hck:ckE n l p m = 0:=by assumption
 obtain ⟨hT,hbe,hpa⟩:=a48 hck;refine agf ?_;refine ag rfl rfl (fun r1=>?_) (fun r1=>?_)
 ·
  have h1:=tz1 r1;(iterate 4 refine k9 (gtf r1) ?_);refine w_2 ?_;(iterate 5 refine k9 rfl ?_);refine w_2 ?_;(iterate 6 refine k9 rfl ?_);refine w_2 ?_;(iterate 9 refine k9 rfl ?_);refine w_9 ?_;refine hrr ?_
  have hbad:ep l p m false i a b:=by
   first
    | exact bdS
    | (refine (jv (a:=a) (b:=b) ?_).elim (fun hq=>?_) (fun hq=>?_) <;> first | assumption | exact bdS)
    | (refine (jy (a:=a) (b:=b) (k:=(l.length:Int)) ?_).elim (fun hq=>?_) (fun hq=>?_) <;> first | assumption | exact bdS)
  have he:=j0 hck hbad;exact f9 rfl rfl (by rw [he];exact ⟨CoC.agg ⟨CoP.refl _,au,trivial⟩,CoC.refl _,trivial⟩)
 have h1:=tz2 r1;(iterate 4 refine qy ?_ (hg:=(gff r1)));refine w_2 ?_;refine ag rfl rfl (fun r2=>?_) (fun r2=>?_)
 ·
  have h2:=tz1 (af r1 r2);(iterate 5 refine k9 (gtf r2) ?_);refine w_2 ?_;(iterate 6 refine k9 rfl ?_);refine w_2 ?_;(iterate 9 refine k9 rfl ?_);refine w_9 ?_;refine hrr ?_
  have hbad:ep l p m false i a b:=by
   first
    | exact bdS
    | (refine (jv (a:=a) (b:=b) ?_).elim (fun hq=>?_) (fun hq=>?_) <;> first | assumption | exact bdS)
    | (refine (jy (a:=a) (b:=b) (k:=(l.length:Int)) ?_).elim (fun hq=>?_) (fun hq=>?_) <;> first | assumption | exact bdS)
  have he:=j0 hck hbad;exact f9 rfl rfl (by rw [he];exact ⟨CoC.agg ⟨CoP.refl _,au,trivial⟩,CoC.refl _,trivial⟩)
 have h2:=tz2 (af r1 r2);(iterate 5 refine qy ?_ (hg:=(gff r2)));refine w_2 ?_;refine ag rfl rfl (fun r3=>?_) (fun r3=>?_)
 ·
  have h3:=tz1 (af r2 r3);(iterate 6 refine k9 (gtf r3) ?_);refine w_2 ?_;(iterate 9 refine k9 rfl ?_);refine w_9 ?_;refine hrr ?_
  have hbad:ep l p m false i a b:=by
   first
    | exact bdS
    | (refine (jv (a:=a) (b:=b) ?_).elim (fun hq=>?_) (fun hq=>?_) <;> first | assumption | exact bdS)
    | (refine (jy (a:=a) (b:=b) (k:=(l.length:Int)) ?_).elim (fun hq=>?_) (fun hq=>?_) <;> first | assumption | exact bdS)
  have he:=j0 hck hbad;exact f9 rfl rfl (by rw [he];exact ⟨CoC.agg ⟨CoP.refl _,au,trivial⟩,CoC.refl _,trivial⟩)
 have h3:=tz2 (af r2 r3);(iterate 6 refine qy ?_ (hg:=(gff r3)));refine w_2 ?_;refine ag rfl rfl (fun r4=>?_) (fun r4=>?_)
 ·
  have h4:=tz1 (af r3 r4);(iterate 9 refine k9 (gtf r4) ?_);refine w_9 ?_;refine hrr ?_
  have hbad:ep l p m false i a b:=by
   first
    | exact bdS
    | (refine (jv (a:=a) (b:=b) ?_).elim (fun hq=>?_) (fun hq=>?_) <;> first | assumption | exact bdS)
    | (refine (jy (a:=a) (b:=b) (k:=(l.length:Int)) ?_).elim (fun hq=>?_) (fun hq=>?_) <;> first | assumption | exact bdS)
  have he:=j0 hck hbad;exact f9 rfl rfl (by rw [he];exact ⟨CoC.agg ⟨CoP.refl _,au,trivial⟩,CoC.refl _,trivial⟩)
 have h4:=tz2 (af r3 r4);(iterate 9 refine qy ?_ (hg:=(gff r4)));refine w_2 ?_;refine ai _ rfl (fun r5=>?_) (fun r5=>?_)
 ·
  have h5:=tz1 (af r4 r5);refine w_6 ?_;refine hrr ?_
  have hbad:ep l p m false i a b:=by
   first
    | exact bdS
    | (refine (jv (a:=a) (b:=b) ?_).elim (fun hq=>?_) (fun hq=>?_) <;> first | assumption | exact bdS)
    | (refine (jy (a:=a) (b:=b) (k:=(l.length:Int)) ?_).elim (fun hq=>?_) (fun hq=>?_) <;> first | assumption | exact bdS)
  have he:=j0 hck hbad;exact f9 rfl rfl (by rw [he];exact ⟨CoC.agg ⟨CoP.refl _,au,trivial⟩,CoC.refl _,trivial⟩)
 have h5:=tz2 (af r4 r5);refine w_2 ?_;obtain ⟨ha0,hb0⟩:=al2 (a:=a) (b:=b) b5p;obtain ⟨hal,hbl⟩:=ajt (a:=a) (b:=b) (k:=(l.length:Int)) b5p
 have hnb:¬ ep l p m false i a b:=by
  unfold ep;rintro (h | h | h | h | h | h | ⟨h,h2⟩ | ⟨h,h2⟩) <;> first | omega | cases h
 have ha:a.toNat < l.length:=by omega
 have hb:b.toNat < l.length:=by omega
 have hi:i.toNat < p.length:=by omega
 refine w_5 ?_;refine rc rfl rfl rfl rfl rfl rfl adf (afa n l p m i.toNat a.toNat b.toNat hT ha hb hi (b3x.1 hpa _ (dc hi))) (⟨CoC.refl _,CoC.refl _,CoC.refl _,CoC.agg ⟨CoP.refl _,CoP.of_eq (by rw [b53 b5o]),CoP.of_eq (by rw [b53 b5o]),CoP.of_eq (by rw [b53 b5o]),trivial⟩,trivial⟩) rfl rfl ?_;refine w_5 ?_;refine hrr ?_;have he:=a2e (n:=n) (i:=i) (a:=a) (b:=b) hck hnb;exact f9 rfl rfl (by rw [he];exact CoL.refl _)
end
section
open Go.Proofs
abbrev Rcp.fs (d:Rcp) (k:Nat):List Fd:=d.f.map (Dp.fd (d.num k))
abbrev Rcp.ms (d:Rcp) (k:Nat):List Fd:=d.m.map (Dp.fd (d.num k))
abbrev Rcp.ps (d:Rcp) (k:Nat):List AS:=d.p.map (u8S (d.num k))
abbrev Rcp.t0 (d:Rcp) (k:Nat):List Rw:=ae (ah (d.num k) (d.ps k))
section
variable {n:Int} {p m:List Fd} {l0 l:List Rw}
end
def af7 (n:Int) (l:List Rw) (p m:List Fd) (mu:Bool) (i a b:Int):a8 b6e 48 [pT n l,pP (fdl p),pP (fdl m), .agg [.raw (.bool mu), .raw (.int .i64 i), .raw (.int .i64 a), .raw (.int .i64 b)]] (aa [pT (cn n l p m mu i a b).1 (cn n l p m mu i a b).2.1,pI (cn n l p m mu i a b).2.2]):=by
 cases mu with
 | false=>exact ams n l p m i a b
 | true=>exact anv n l p m i a b
def a7y {n:Int} {l:List Rw} {p m:List Fd} {s:St} (hT:tok n l = true) (hb:bi n p m = 0) (h:qo l p m s):cn n l p m s.1 s.2.1 s.2.2.1 s.2.2.2 = bu n l p m s:=by
 obtain ⟨mu,i,a,b⟩:=s;have hck:ckE n l p m = 0:=(if_pos hT).trans hb;obtain ⟨ha,hbb,h⟩:=h;have ha:a < l.length:=ha;have hbb:b < l.length:=hbb
 have hne:¬ a = b:=by
  rintro rfl
  rcases h with ⟨_,_,h⟩ | ⟨_,_,h⟩
  · rw [show d6 l (p.getD i default) a a = false from xk] at h;cases h
  rw [show db l (m.getD i default) a a = false from xn ha] at h;cases h
 show cn n l p m mu (i:Int) (a:Int) (b:Int) = _;rw [a2e hck]
 · rfl
 unfold ep
 rcases h with ⟨h1,h2,_⟩ | ⟨h1,h2,_⟩
 · have h1:mu = false:=h1
   subst h1;have h2:i < p.length:=h2;rintro (h | h | h | h | h | h | ⟨h,h3⟩ | ⟨h,h3⟩) <;> first | omega | cases h
 have h1:mu = true:=h1;subst h1;have h2:i < m.length:=h2;rintro (h | h | h | h | h | h | ⟨h,h3⟩ | ⟨h,h3⟩) <;> first | omega | cases h
def ai7 (n:Int) (l:List Rw) (p m:List Fd) (s:St) (hT:tok n l = true) (hb:bi n p m = 0) (h:qo l p m s) (he:bu n l p m s = (n,(bu n l p m s).2.1,0)):a8 b6e 48 [pT n l,pP (fdl p),pP (fdl m),s.pc] (aa [pT n (bu n l p m s).2.1,pI 0]):=by
 have:=af7 n l p m s.1 s.2.1 s.2.2.1 s.2.2.2;rw [a7y hT hb h,he] at this;exact this
end
section
def sgn (a b:Int):Int:=if a < b then -1 else if b < a then 1 else 0
def bAt (s:ByteArray) (i:Nat):Int:=bv s i
def ir:List UInt8 -> List UInt8 -> Int
 | [],[]=>0
 | [],_ :: _=>-1
 | _ :: _,[]=>1
 | x :: xs,y :: ys=>if x = y then ir xs ys else sgn x.toNat y.toNat
abbrev bl (s:ByteArray):List UInt8:=s.data.toList
def lw (a b:ByteArray):Int:=ir (bl a) (bl b)
def yx (s:ByteArray):(bl s).length = s.size:=b3m
def a8h:∀ {a b:List UInt8},ir a b = 0 <-> a = b
 | [],[]=>by simp [ir]
 | [],_ :: _=>by simp [ir]
 | _ :: _,[]=>by simp [ir]
 | x :: xs,y :: ys=>by
  simp only [ir];by_cases h:x = y
  · simp [h,a8h]
  have:¬ x.toNat = y.toNat:=fun e=>h (UInt8.toNat_inj.1 e);simp only [h,if_false,sgn,List.cons.injEq,false_and,iff_false]
  repeat' split
  all_goals omega
def a1p {a b:ByteArray}:lw a b = 0 <-> a = b:=by
 unfold lw;rw [a8h];exact ⟨fun h=>ByteArray.ext (Array.ext' h),fun h=>by rw [h]⟩
def iz (a b:Val):Int :=
 if sgn a.kind b.kind ≠ 0 then sgn a.kind b.kind else if sgn a.num b.num ≠ 0 then sgn a.num b.num else lw a.str b.str
def jk {a b:Int}:sgn a b = 0 <-> a = b:=by
 unfold sgn
 repeat' split
 all_goals omega
def al8 {a b:Val}:iz a b = 0 <-> a = b:=by
 unfold iz;cases a;cases b;simp only [Val.mk.injEq];split
 · rename_i h;rw [Ne,jk] at h
   constructor
   · intro e;rw [jk] at e;exact absurd e h
   rintro ⟨e,_⟩;exact absurd e h
 rename_i h;rw [Ne,jk,b5h] at h;split
 · rename_i h2;rw [Ne,jk] at h2
   constructor
   · intro e;rw [jk] at e;exact absurd e h2
   rintro ⟨_,e,_⟩;exact absurd e h2
 rename_i h2;rw [Ne,jk,b5h] at h2;rw [a1p];exact ⟨fun e=>⟨h,h2,e⟩,fun e=>e.2.2⟩
def axu:List Val -> List Val -> Int
 | [],[]=>0
 | [],_ :: _=>-1
 | _ :: _,[]=>1
 | x :: xs,y :: ys=>if iz x y ≠ 0 then iz x y else axu xs ys
end
section
abbrev emp:ByteArray:=⟨#[]⟩
def dl (v:Val):Bool :=
 if v.kind = 0 then decide (v.num = 0) && decide (v.str = emp)
 else if v.kind = 1 then decide (v.str = emp)
 else if v.kind = 2 then decide (v.num = 0) && decide (v.str.size <= 200)
 else decide (v.kind = 3) && decide (1 <= v.num) && decide (v.str = emp)
def Val.ok (v:Val):Prop:=v.str.size <= 68719476736
def ajr (l:List Val):Prop:=∀ j,j < l.length -> (l.getD j default).ok
def Row.ok (r:Row):Prop:=r.vals.length <= 68719476736 /\ ajr r.vals
def a4c (l:List Row):Prop:=∀ j,j < l.length -> (l.getD j default).ok
def Tbl.ok (t:Tbl):Prop:=t.attrs.length <= 68719476736 /\ t.rows.length <= 68719476736 /\ a4c t.rows
def b1v (d:DB):Prop:=d.length <= 68719476736 /\ ∀ j,j < d.length -> Tbl.ok (d.getD j default)
def Chg.ok (x:Chg):Prop:=x.table.ok /\ x.row.ok /\ x.value.ok
def b0g (l:List Chg):Prop:=∀ j,j < l.length -> (l.getD j default).ok
def ltr (c:Int):Bool:=(decide (97 <= c) && decide (c <= 122)) || (decide (65 <= c) && decide (c <= 90)) || decide (c = 95)
def dig (c:Int):Bool:=decide (48 <= c) && decide (c <= 57)
abbrev ahd:ByteArray:=⟨#[110,117,108,108]⟩
def abs (s:ByteArray):Bool:=(List.range s.size).all fun i=>ltr (bv s i) || dig (bv s i)
def gz (s:ByteArray):Bool:=decide (s.size ≠ 0) && decide (s.size <= 24) && ltr (bv s 0) && decide (s ≠ ahd) && abs s
def agb (l:List ByteArray) (s:ByteArray):Int:=idx (fun x=>decide (x = s)) l
def x9 (l:List ByteArray) (i:Nat):Bool:=gz (l.getD i default) && decide (agb (l.take i) (l.getD i default) < 0)
def a3u (l:List ByteArray):Bool:=(List.range l.length).all (x9 l)
def ff (n:Nat) (before:Int):List Row -> Int
 | []=>0
 | r :: rs=>if r.id <= before then 1 else if r.vals.length ≠ n then 6 else if (r.vals.all dl) = false then 1 else ff n r.id rs
def ce (t:Tbl):Int :=
 if gz t.name = false then 1 else if 16 < t.attrs.length \/ 1000 < t.rows.length then 3 else if a3u t.attrs = false then 1 else ff t.attrs.length 0 t.rows
section
variable {i:Nat}
def abn {n:Nat} {l:List Row} {b:Int} (hi:i < l.length):ff n b (l.drop i) = if (l.getD i default).id <= b then 1 else if (l.getD i default).vals.length ≠ n then 6 else if ((l.getD i default).vals.all dl) = false then 1 else ff n (l.getD i default).id (l.drop (i + 1)):=by
 rw [b4r hi,ff];simp only [List.getD,b2s hi,b3t]
def b1f (l:List Row) (id:Int):Option Nat:=l.findIdx? fun r=>decide (r.id = id)
def wz (l:List Row) (id:Int):Int:=idx (fun r=>decide (r.id = id)) l
def ui (d:DB) (s:ByteArray):Int:=idx (fun t=>decide (t.name = s)) d
def axg (d:DB) (t:Tbl):Int:=if ce t ≠ 0 then ce t else if 0 <= ui d t.name then 5 else if 50 <= d.length then 3 else 0
def vb {p:Nat -> Bool} {n:Nat} (hi:i < n) (h:p i = false):(List.range n).all p = false:=by
 rw [List.all_eq_false];exact ⟨i,b3i.2 hi,by simp [h]⟩
def a23 {p:Nat -> Bool} {n:Nat} (h:∀ j,j < n -> p j = true):(List.range n).all p = true:=by
 rw [b3x];exact fun j hj=>h j (b3i.1 hj)
variable {s:ByteArray}
def a73 (h:s.size = 0):gz s = false:=by simp [gz,h]
def a3e (h:24 < s.size):gz s = false:=by
 have:¬ s.size <= 24:=by omega
 simp [gz,this]
def aob (h:ltr (bv s 0) = false):gz s = false:=by simp [gz,h]
def zd (hi:(i:Int) = 0) (h:ltr (bv s i) = false):gz s = false:=by
 obtain rfl:i = 0:=by omega
 exact aob h
def avy (hz:0 < i -> ltr (bv s 0) = true) (h:i = 0 -> ltr (bv s i) = true):ltr (bv s 0) = true:=by
 by_cases e:i = 0
 · subst e;exact h rfl
 exact hz b5o
def zj (h:s = ahd):gz s = false:=by simp [gz,h]
def z8 (hi:i < s.size) (h1:ltr (bv s i) = false) (h2:dig (bv s i) = false):gz s = false:=by
 have:abs s = false:=vb hi (by simp [h1,h2]);simp [gz,this]
def avs (h0:s.size ≠ 0) (h1:s.size <= 24) (h2:ltr (bv s 0) = true) (h3:s ≠ ahd) (h4:∀ j,j < s.size -> (ltr (bv s j) || dig (bv s j)) = true):gz s = true:=by
 have:abs s = true:=a23 h4;simp [gz,this,h0,h1,h2,h3]
def tj:s.size = 0 <-> s = emp:=by
 constructor
 · intro h
   refine ByteArray.ext (Array.ext' ?_);have:s.data.toList.length = 0:=by rw [b3m];exact h
   exact b4b this
 rintro rfl;rfl
def asr {α:Type} {p:α -> Bool} {l:List α}:decide (0 <= idx p l) = l.any p:=by
 unfold idx
 cases h:l.findIdx? p with
 | none =>
  rw [List.findIdx?_eq_none_iff] at h;have:l.any p = false:=by rw [b47];intro x hx;simp [h x hx]
  simp [this]
 | some i =>
  rw [b4w] at h;obtain ⟨hi,hp,_⟩:=h;have:l.any p = true:=by rw [b3z];exact ⟨_,b38 hi,hp⟩
  simp [this]
def au0 {α:Type} {p:α -> Bool} {l:List α}:idx p l < l.length:=by
 unfold idx
 cases h:l.findIdx? p with
 | none=>simp;omega
 | some i =>
  rw [b4w] at h;simp [h.1]
def adv {l:List Val}:(!l.any fun v=>!dl v) = l.all dl:=by
 induction l with
 | nil=>rfl
 | cons x l ih=>simp only [List.any_cons,List.all_cons,Bool.not_or,Bool.not_not,ih]
def ofI (k:Int):Val :=
 if k = 0 then ⟨1,0,emp⟩ else if k = 1 then ⟨1,1,emp⟩ else if k = 2 then ⟨1,2,emp⟩ else if k = 3 then ⟨0,0,emp⟩ else if k = 4 then ⟨2,0,⟨#[97]⟩⟩ else if k = 5 then ⟨2,0,⟨#[98]⟩⟩
 else if k = 6 then ⟨2,0,emp⟩ else if k = 7 then ⟨3,1,emp⟩ else if k = 8 then ⟨1, -1,emp⟩ else if k = 9 then ⟨2,0,⟨#[97,98]⟩⟩ else if k = 10 then ⟨3,2,emp⟩ else ⟨1,7,emp⟩
def ofV (c:UInt8):Val:=ofI ((c.toNat:Int) % 12)
def ayh (x:Opn):ByteArray:=[⟨#[114]⟩,⟨#[115]⟩,⟨#[116]⟩,emp].getD (x.name.toNat % 4) default
def b0v (x:Opn):Row:=⟨x.id,x.vals.map ofV⟩
def jm:List ByteArray:=[⟨#[97]⟩,⟨#[98]⟩,⟨#[99]⟩,⟨#[100]⟩,⟨#[101]⟩,⟨#[102]⟩,⟨#[103]⟩,⟨#[104]⟩]
def alv (l:List UInt8) (n:Nat):List Val:=(List.range n).map fun k=>ofV (l.getD k default)
def amg (x:a00) (n:Nat):List Row:=(List.range x.rows.length).map fun (i:Nat)=>⟨1 + (i:Int) * (1 + (x.gap.toNat:Int) % 3),alv (x.rows.getD i default) n⟩
def aze (x:a00) (n:Nat):Tbl:=⟨⟨#[114]⟩,jm.take n,amg x n⟩
def b1e (x:Opn):Tbl:={ aze x.t (x.t.attrs.toNat % 4) with name:=ayh x }
end
end
section
abbrev T0:Tbl:=⟨emp,[],[]⟩
def aun (r:Row):List Row -> List Row
 | []=>[r]
 | x :: xs=>if r.id < x.id then r :: x :: xs else x :: aun r xs
def ajf (t:Tbl) (r:Row):Int :=
 if ce t ≠ 0 then ce t else if r.vals.length ≠ t.attrs.length then 6 else if r.id <= 0 \/ r.vals.all dl = false then 1
 else if 0 <= wz t.rows r.id then 5 else if 1000 <= t.rows.length then 3 else 0
def azw (t:Tbl) (r:Row):Tbl:=if ajf t r = 0 then { t with rows:=aun r t.rows } else T0
def al3 (t:Tbl) (id:Int):Int:=if ce t ≠ 0 then ce t else if 0 <= wz t.rows id then 0 else 4
def b02 (t:Tbl) (id:Int):Tbl:=if al3 t id = 0 then { t with rows:=t.rows.eraseIdx (wz t.rows id).toNat } else T0
def aog (t:Tbl) (id attr:Int) (v:Val):Int :=
 if ce t ≠ 0 then ce t else if ¬ 0 <= wz t.rows id then 4 else if attr < 0 \/ (t.attrs.length:Int) <= attr then 6 else if dl v = false then 1 else 0
def azf (l:List Row) (i k:Nat) (v:Val):List Row:=l.set i { l.getD i default with vals:=(l.getD i default).vals.set k v }
def azu (t:Tbl) (id attr:Int) (v:Val):Tbl:=if aog t id attr v = 0 then { t with rows:=azf t.rows (wz t.rows id).toNat attr.toNat v } else T0
def awh (t:Tbl) (c:Chg):Int :=
 if c.kind = 2 then ajf t c.row
 else if ¬ 0 <= wz t.rows c.row.id then 4
 else if ¬ (t.rows.getD (max (wz t.rows c.row.id) 0).toNat default).vals = c.row.vals then 16
 else if c.kind = 3 then al3 t c.row.id
 else aog t c.row.id c.attr c.value
def ayn (t:Tbl) (c:Chg):Tbl:=if c.kind = 2 then azw t c.row else if c.kind = 3 then b02 t c.row.id else azu t c.row.id c.attr c.value
def ahf (d:DB) (s:ByteArray):Tbl:=d.getD (ui d s).toNat default
def a44 (d:DB) (c:Chg):Int :=
 if c.kind = 1 then (if c.name ≠ c.table.name then 1 else axg d c.table)
 else if c.kind < 1 \/ 4 < c.kind then 1
 else if ui d c.name < 0 then 4
 else awh (ahf d c.name) c
def auy (d:DB) (c:Chg):DB :=
 if a44 d c ≠ 0 then d
 else if c.kind = 1 then d ++ [c.table]
 else d.set (ui d c.name).toNat (ayn (ahf d c.name) c)
def dbV (d:DB):Prop:=d.length <= 50 /\ ∀ j,j < d.length -> ce (d.getD j default) = 0
def ay3 (d:DB):List Chg -> Int
 | []=>0
 | c :: cs=>if a44 d c ≠ 0 then a44 d c else ay3 (auy d c) cs
def axr (d:DB):List Chg -> DB
 | []=>d
 | c :: cs=>if a44 d c ≠ 0 then [] else axr (auy d c) cs
def azl (s:Stt) (l:List Chg):Stt:=if l.length = 0 then s else ⟨s.done ++ [l],[],false,[]⟩
def b2a (s:Stt) (c:Chg):Stt:=if s.opn = true then { s with now:=s.now ++ [c] } else azl s [c]
def axi (x:Opn):Bool:=decide (x.vals.length <= 20) && decide (x.t.rows.length <= 6) && x.t.rows.all fun r=>decide (r.length <= 20)
def few (l:List Opn) (most:Int):Bool:=l.all axi && decide ((l.length:Int) <= most)
end
section
def ab3 {n:Nat} {b:Int} {x:Row} {l:List Row} (h:ff n b (x :: l) = 0):b < x.id /\ x.vals.length = n /\ x.vals.all dl = true /\ ff n x.id l = 0:=by
 simp only [ff] at h;split at h
 · omega
 split at h
 · omega
 split at h
 · omega
 rename_i h1 h2 h3;exact ⟨by omega,by omega,by simpa using h3,h⟩
def uy {n:Nat}:∀ {l:List Row} {b:Int},ff n b l = 0 -> ∀ x ∈ l,b < x.id /\ x.vals.length = n /\ x.vals.all dl = true
 | [],_,_,x,hx=>by cases hx
 | y :: l,b,h,x,hx=>by
  obtain ⟨h1,h2,h3,h4⟩:=ab3 h
  rcases b33.1 hx with rfl | hx
  · exact ⟨h1,h2,h3⟩
  obtain ⟨g1,g2⟩:=uy h4 x hx;exact ⟨by omega,g2⟩
abbrev b0p (l:List Row):Prop:=l.Pairwise fun a b=>a.id < b.id
structure TOk (t:Tbl):Prop where
 nm:gz t.name = true
 na:t.attrs.length <= 16
 nr:t.rows.length <= 1000
 nms:a3u t.attrs = true
 rs:ff t.attrs.length 0 t.rows = 0
def afv {t:Tbl}:ce t = 0 <-> TOk t:=by
 constructor
 · intro h
   unfold ce at h;split at h
   · omega
   split at h
   · omega
   split at h
   · omega
   rename_i h1 h2 h3;exact ⟨by simpa using h1,by omega,by omega,by simpa using h3,h⟩
 rintro ⟨h1,h2,h3,h4,h5⟩;unfold ce;rw [if_neg (by simp [h1]),if_neg b5o,if_neg (by simp [h4]),h5]
def y5 {v:Val} (h:dl v = true):v.str.size <= 200:=by
 unfold dl at h;have e0:emp.size = 0:=rfl;split at h
 · simp only [b30,decide_eq_true_eq] at h;rw [h.2];omega
 split at h
 · simp only [decide_eq_true_eq] at h;rw [h];omega
 split at h
 · simp only [b30,decide_eq_true_eq] at h;omega
 simp only [b30,decide_eq_true_eq] at h;rw [h.2];omega
def apz {l:List Val} (h:l.all dl = true):ajr l:=by
 intro j hj;rw [l5 l j hj];have:=y5 (b3x.1 h _ (b38 hj));unfold Val.ok;omega
theorem TOk.ok {t:Tbl} (h:TOk t):t.ok:=by
 refine ⟨by have:=h.na;omega,by have:=h.nr;omega,fun j hj=>?_⟩;rw [l5 _ j hj];obtain ⟨_,h2,h3⟩:=uy h.rs _ (b38 hj);exact ⟨by have:=h.na;omega,apz h3⟩
def a4c.sub {l l':List Row} (h:a4c l) (hs:∀ x ∈ l',x ∈ l):a4c l':=by
 intro j hj;rw [l5 _ j hj];obtain ⟨k,hk,e⟩:=b3u (hs _ (b38 hj));rw [<- e,<- l5 _ k hk];exact h k hk
def b0r (l:List Row) (k:Nat) (r:Row):List Row:=l.take k ++ r :: l.drop k
theorem TOk.width {t:Tbl} (h:TOk t) {i:Nat} (hi:i < t.rows.length):(t.rows.getD i default).vals.length = t.attrs.length:=by
 rw [l5 _ _ hi];exact (uy h.rs _ (b38 hi)).2.1
def awn {d:DB} {s:ByteArray} (h:¬ ui d s < 0):(ui d s).toNat < d.length:=by
 have:=au0 (p:=fun t:Tbl=>decide (t.name = s)) (l:=d);unfold ui at *;omega
def dbV.at {d:DB} (h:dbV d) {s:ByteArray} (hs:¬ ui d s < 0):TOk (ahf d s):=afv.1 (h.2 _ (awn hs))
end
end Go.Hx
