/- A part of the proof: Jn2 Ch22 Ch25 X31 Cc4 Jn3 Jn5 Jo2 Jr1 Jp1. -/
import Derived.Test.YtnlcekpflogjkaaGreatDoorTx42
set_option linter.all false
set_option maxRecDepth 100000
set_option maxHeartbeats 1000000
namespace Go.Hx
section
def y7 (R:List Row) (a:Nat):List Val:=R.map fun r=>r.vals.getD a default
def a6i (R:List Row) (a:Nat):List Val:=gk (abl ig (y7 R a))
def ca (R:List Row) (n:Nat):List (List Val):=(List.range n).map (a6i R)
def bpi (R:List Row) (n a:Nat):List (List Val):=(List.range n).map fun i=>if i < a then a6i R i else []
def vlC (l:List Val):Nat -> PV:=fun _=>vals l
abbrev xc (l:List (List Val)):PV:=psl 1 vlC l
def od (R:List Row) (s:AS) (k:Nat) (e:ByteArray):Bool:=R.any fun r=>decide (fb (r.vals.take k) s = e)
def yf (R:List Row) (s:AS) (k:Nat):MK -> Option PV
 | .s b=>if od R s k b = true then some (.raw (.bool true)) else none
 | .i _ _=>none
def mpC (N:Nat) (R:List Row) (s:AS) (k:Nat):PV:=mpP .str N (yf R s k)
def lvF (R:List Row) (s:AS):Nat -> Nat -> PV:=fun k _=>mpC R.length R s k
def lvC (R:List Row) (n:Nat) (s:AS):Nat -> PV:=fun _=>.sl (n + 1) 1 false (lvF R s)
def lvT (R:List Row) (s:AS) (a:Nat):Nat -> Nat -> PV:=fun k _=>if k < a then mpC R.length R s k else .raw (.map none)
def pk (R:List Row) (vs:List Val) (m:Nat) (s:AS):Bool:=decide (1000 < m) || !od R s vs.length (fb vs s)
def mh (R:List Row) (ps:List AS) (vs:List Val) (m:Nat):Bool:=ps.any (pk R vs m)
def i9 (R:List Row) (ps:List AS) (cols:List (List Val)):Nat -> List Val -> List (List Val) -> List (List Val)
 | 0,vs,acc=>if mh R ps vs acc.length = true then acc else acc ++ [vs]
 | d + 1,vs,acc=>if mh R ps vs acc.length = true then acc else (cols.getD vs.length default).foldl (fun acc v=>i9 R ps cols d (vs ++ [v]) acc) acc
def pj (R:List Row) (ps:List AS) (n:Nat):List (List Val):=i9 R ps (ca R n) n [] []
def jt (l:List (List Val)):List Row:=(List.range l.length).map fun (i:Nat)=>⟨(i:Int) + 1,l.getD i []⟩
def ng (t:Tbl) (ps:List AS):Int :=
 if d8 t ≠ 0 then d8 t else if lvE t.attrs.length ps ≠ 0 then lvE t.attrs.length ps else if 1000 < (pj t.rows ps t.attrs.length).length then 3 else 0
def t6 (t:Tbl) (ps:List AS):Tbl:=if ng t ps = 0 then ⟨t.name,t.attrs,jt (pj t.rows ps t.attrs.length)⟩ else T0
section
variable {R:List Row} {m:Nat} {ps:List AS} {vs:List Val}
def a97 {i:Nat} (hi:i < ps.length) (h:pk R vs m (ps.getD i default) = true):mh R ps vs m = true:=by
 unfold mh;rw [bsf];exact ⟨_,by rw [bw _ _ hi];exact brs hi,h⟩
def atr (h:∀ j,j < ps.length -> pk R vs m (ps.getD j default) = false):mh R ps vs m = false:=by
 unfold mh;rw [bt1];intro s hs;obtain ⟨i,hi,e⟩:=bry hs;have:=h i hi;rw [bw _ _ hi,e] at this;simp [this]
variable {acc cols:List (List Val)}
def ui {d:Nat} (h:mh R ps vs acc.length = true):i9 R ps cols d vs acc = acc:=by
 cases d <;> (unfold i9;rw [if_pos h])
def b1i (h:mh R ps vs acc.length = false):i9 R ps cols 0 vs acc = acc ++ [vs]:=by
 unfold i9;rw [if_neg (by simp [h])]
def a08 (R:List Row) (ps:List AS) (cols:List (List Val)) (d:Nat) (vs:List Val) (acc:List (List Val)) (i:Nat):List (List Val) :=
 ((cols.getD vs.length default).take i).foldl (fun acc v=>i9 R ps cols d (vs ++ [v]) acc) acc
def aik {d:Nat} {i:Nat} (hi:i < (cols.getD vs.length default).length):
 a08 R ps cols d vs acc (i + 1) = i9 R ps cols d (vs ++ [(cols.getD vs.length default).getD i default]) (a08 R ps cols d vs acc i):=by
 unfold a08;rw [al hi,bs8];rfl
def azl {d:Nat} (h:mh R ps vs acc.length = false):i9 R ps cols (d + 1) vs acc = a08 R ps cols d vs acc (cols.getD vs.length default).length:=by
 rw [show i9 R ps cols (d + 1) vs acc = if mh R ps vs acc.length = true then acc else (cols.getD vs.length default).foldl (fun acc v=>i9 R ps cols d (vs ++ [v]) acc) acc from rfl,if_neg (by simp [h])];unfold a08;rw [bro]
def aml (hp:0 < ps.length) (h:mh R ps vs m = false):m <= 1000:=by
 unfold mh at h;rw [bt1] at h;have:=h _ (brs hp);unfold pk at this;simp only [bsl,decide_eq_true_eq,not_or] at this;omega
def alj (hp:0 < ps.length):∀ {d:Nat} {vs:List Val} {acc:List (List Val)},acc.length <= 1001 -> (i9 R ps cols d vs acc).length <= 1001
 | 0,vs,acc,h=>by
  unfold i9;split
  · exact h
  rename_i hs;have:=aml hp (by simpa using hs);rw [brh,bst];omega
 | d + 1,vs,acc,h=>by
  rw [show i9 R ps cols (d + 1) vs acc = if mh R ps vs acc.length = true then acc else (cols.getD vs.length default).foldl (fun acc v=>i9 R ps cols d (vs ++ [v]) acc) acc from rfl];split
  · exact h
  generalize cols.getD vs.length default = l;rename_i hs;clear hs
  induction l generalizing acc with
  | nil=>exact h
  | cons v l ih=>exact ih _ (alj hp (d:=d) h)
def b5g (hp:0 < ps.length) {d:Nat} {i:Nat} (h:acc.length <= 1001):(a08 R ps cols d vs acc i).length <= 1001:=by
 unfold a08;generalize (cols.getD vs.length default).take i = l
 induction l generalizing acc with
 | nil=>exact h
 | cons v l ih=>exact ih (alj hp (d:=d) h)
variable {s:AS}
def aiq {k:Nat} {e:ByteArray}:xp (fun m=>(yf R s k m).isSome) (fun m=>(yf R s k m).getD .any) (.s e) (.bool false) = .raw (.bool (od R s k e)):=by
 unfold xp yf;cases h:od R s k e <;> simp [h] <;> rfl
def av3 {k i:Nat} {e:ByteArray} (hi:i < R.length):od (R.take (i + 1)) s k e = (od (R.take i) s k e || decide (fb ((R.getD i default).vals.take k) s = e)):=by
 unfold od;rw [al hi,List.any_append];simp
def a1f {n:Nat}:(ca R n).length = n:=by simp [ca]
def a0w {n a:Nat} (h:a < n):(ca R n).getD a default = a6i R a:=by simp [ca,List.getD,h]
def ane {l:List Val} (h:l.length <= 16):(fb l s).size <= maxLen:=by
 have:=a6n (l:=l) (s:=s);unfold maxLen;omega
def a94 (h:(1000:Int) < (m:Int)):pk R vs m s = true:=by
 have:1000 < m:=by omega
 simp [pk,this]
def uf (h:od R s vs.length (fb vs s) = false):pk R vs m s = true:=by simp [pk,h]
def a9a (h0:¬ (1000:Int) < (m:Int)) (h:od R s vs.length (fb vs s) = true):pk R vs m s = false:=by
 have:¬ 1000 < m:=by omega
 simp [pk,h,this]
end
end
section
structure Rcp where
 n:BitVec 8
 f:List Dp
 m:List Dp
 p:List (BitVec 8)
deriving Inhabited
def Rcp.num (d:Rcp) (k:Nat):Int:=1 + ((d.n.toNat % k:Nat):Int)
abbrev Rcp.pc (d:Rcp):PC:=.agg [.raw (.int .u8 (d.n.toNat:Int)),dpl d.f,dpl d.m,psl 1 u8C d.p]
def u8S (n:Int) (b:BitVec 8):AS:=b.setWidth 32 &&& aa n
end
section
section
variable {a b:Int}
def aln {n:Int} {l:List Rw} {p m:List Fd} {mu:Bool} {i:Int} (h:¬ ckE n l p m = 0):li n l p m mu i a b = (0,[],ckE n l p m):=if_neg h
def nc {n:Int} {l:List Rw} {p m:List Fd} {mu:Bool} {i:Int} (h:ckE n l p m = 0) (h3:lq l p m mu i a b):li n l p m mu i a b = (0,[],1):=(if_pos h).trans (if_pos h3)
def abx {n:Int} {l:List Rw} {p m:List Fd} {mu:Bool} {i:Int} (h:ckE n l p m = 0) (h3:¬ lq l p m mu i a b):li n l p m mu i a b = dp n l p m (mu,i.toNat,a.toNat,b.toNat):=(if_pos h).trans (if_neg h3)
def p8 (h:(if b < a then b else a) < 0):a < 0 \/ b < 0:=by split at h <;> omega
def pe {k:Int} (h:k <= (if a < b then b else a)):k <= a \/ k <= b:=by split at h <;> omega
def b0d (h:¬ (if b < a then b else a) < 0):0 <= a /\ 0 <= b:=by split at h <;> omega
def axm {k:Int} (h:¬ k <= (if a < b then b else a)):a < k /\ b < k:=by split at h <;> omega
def stQ (x y:St):Bool:=(x.1 == y.1) && (decide ((x.2.1:Int) = (y.2.1:Int)) && (decide ((x.2.2.1:Int) = (y.2.2.1:Int)) && decide ((x.2.2.2:Int) = (y.2.2.2:Int))))
end
end
section
open Go.Proofs
def b2m (n:Int) (l:List Rw) (p m:List Fd) (i a b:Int):a6 bw0 96 [pT n l,pP (fdl p),pP (fdl m), .agg [.raw (.bool true), .raw (.int .i64 i), .raw (.int .i64 a), .raw (.int .i64 b)]] (af [pT (li n l p m true i a b).1 (li n l p m true i a b).2.1,pI (li n l p m true i a b).2.2]):=by
 refine hpx (nt:=69) Tryz.func96 ?_;refine sx7 ?_;refine m9 0 ?_;refine m9 1 ?_;refine m9 2 ?_;refine w_8 ?_;refine qcx agr (ac8 n l p m) ?_;refine w_7 ?_;refine hcn (fun h0=>?_) (fun h0=>?_)
 · refine w_7 ?_;refine hrr ?_;have he:=aln (n:=n) (l:=l) (p:=p) (m:=m) (mu:=true) (i:=i) (a:=a) (b:=b) bva;exact f9 rfl rfl (by rw [he];exact ⟨CoC.agg ⟨CoP.refl _,du,trivial⟩,CoC.refl _,trivial⟩)
 have hck:ckE n l p m = 0:=by assumption
 obtain ⟨hT,hbe,hpa⟩:=aok hck;refine bfq ?_;refine aw rfl rfl (fun r1=>?_) (fun r1=>?_)
 ·
  have h1:=tz1 r1;(iterate 4 refine k9 (gtf r1) ?_);refine w_2 ?_;(iterate 5 refine k9 rfl ?_);refine w_2 ?_;(iterate 6 refine k9 rfl ?_);refine w_2 ?_;(iterate 9 refine k9 rfl ?_);refine w_9 ?_;refine hrr ?_
  have hbad:lq l p m true i a b:=by
   first
    | exact bdS
    | (refine (p8 (a:=a) (b:=b) ?_).elim (fun hq=>?_) (fun hq=>?_) <;> first | assumption | exact bdS)
    | (refine (pe (a:=a) (b:=b) (k:=(l.length:Int)) ?_).elim (fun hq=>?_) (fun hq=>?_) <;> first | assumption | exact bdS)
  have he:=nc hck hbad;exact f9 rfl rfl (by rw [he];exact ⟨CoC.agg ⟨CoP.refl _,du,trivial⟩,CoC.refl _,trivial⟩)
 have h1:=tz2 r1;(iterate 4 refine qy ?_ (hg:=(gff r1)));refine w_2 ?_;refine aw rfl rfl (fun r2=>?_) (fun r2=>?_)
 ·
  have h2:=tz1 (be r1 r2);(iterate 5 refine k9 (gtf r2) ?_);refine w_2 ?_;(iterate 6 refine k9 rfl ?_);refine w_2 ?_;(iterate 9 refine k9 rfl ?_);refine w_9 ?_;refine hrr ?_
  have hbad:lq l p m true i a b:=by
   first
    | exact bdS
    | (refine (p8 (a:=a) (b:=b) ?_).elim (fun hq=>?_) (fun hq=>?_) <;> first | assumption | exact bdS)
    | (refine (pe (a:=a) (b:=b) (k:=(l.length:Int)) ?_).elim (fun hq=>?_) (fun hq=>?_) <;> first | assumption | exact bdS)
  have he:=nc hck hbad;exact f9 rfl rfl (by rw [he];exact ⟨CoC.agg ⟨CoP.refl _,du,trivial⟩,CoC.refl _,trivial⟩)
 have h2:=tz2 (be r1 r2);(iterate 5 refine qy ?_ (hg:=(gff r2)));refine w_2 ?_;refine aw rfl rfl (fun r3=>?_) (fun r3=>?_)
 ·
  have h3:=tz1 (be r2 r3);(iterate 6 refine k9 (gtf r3) ?_);refine w_2 ?_;(iterate 9 refine k9 rfl ?_);refine w_9 ?_;refine hrr ?_
  have hbad:lq l p m true i a b:=by
   first
    | exact bdS
    | (refine (p8 (a:=a) (b:=b) ?_).elim (fun hq=>?_) (fun hq=>?_) <;> first | assumption | exact bdS)
    | (refine (pe (a:=a) (b:=b) (k:=(l.length:Int)) ?_).elim (fun hq=>?_) (fun hq=>?_) <;> first | assumption | exact bdS)
  have he:=nc hck hbad;exact f9 rfl rfl (by rw [he];exact ⟨CoC.agg ⟨CoP.refl _,du,trivial⟩,CoC.refl _,trivial⟩)
 have h3:=tz2 (be r2 r3);(iterate 6 refine qy ?_ (hg:=(gff r3)));refine w_2 ?_;refine aw rfl rfl (fun r4=>?_) (fun r4=>?_)
 ·
  have h4:=tz1 (be r3 r4);(iterate 9 refine k9 (gtf r4) ?_);refine w_9 ?_;refine hrr ?_
  have hbad:lq l p m true i a b:=by
   first
    | exact bdS
    | (refine (p8 (a:=a) (b:=b) ?_).elim (fun hq=>?_) (fun hq=>?_) <;> first | assumption | exact bdS)
    | (refine (pe (a:=a) (b:=b) (k:=(l.length:Int)) ?_).elim (fun hq=>?_) (fun hq=>?_) <;> first | assumption | exact bdS)
  have he:=nc hck hbad;exact f9 rfl rfl (by rw [he];exact ⟨CoC.agg ⟨CoP.refl _,du,trivial⟩,CoC.refl _,trivial⟩)
 have h4:=tz2 (be r3 r4);(iterate 9 refine qy ?_ (hg:=(gff r4)));refine w_2 ?_;refine au _ rfl (fun r5=>?_) (fun r5=>?_)
 ·
  have h5:=tz1 (be r4 r5);refine w_6 ?_;refine hrr ?_
  have hbad:lq l p m true i a b:=by
   first
    | exact bdS
    | (refine (p8 (a:=a) (b:=b) ?_).elim (fun hq=>?_) (fun hq=>?_) <;> first | assumption | exact bdS)
    | (refine (pe (a:=a) (b:=b) (k:=(l.length:Int)) ?_).elim (fun hq=>?_) (fun hq=>?_) <;> first | assumption | exact bdS)
  have he:=nc hck hbad;exact f9 rfl rfl (by rw [he];exact ⟨CoC.agg ⟨CoP.refl _,du,trivial⟩,CoC.refl _,trivial⟩)
 have h5:=tz2 (be r4 r5);refine w_2 ?_;obtain ⟨ha0,hb0⟩:=b0d (a:=a) (b:=b) bva;obtain ⟨hal,hbl⟩:=axm (a:=a) (b:=b) (k:=(l.length:Int)) bva
 have hnb:¬ lq l p m true i a b:=by
  unfold lq;rintro (h | h | h | h | h | h | ⟨h,h2⟩ | ⟨h,h2⟩) <;> first | omega | cases h
 have ha:a.toNat < l.length:=by omega
 have hb:b.toNat < l.length:=by omega
 have hi:i.toNat < m.length:=by omega
 refine w_5 ?_;refine rc rfl rfl rfl rfl rfl rfl aht (asy n l p m i.toNat a.toNat b.toNat hT ha hb hi) (⟨CoC.refl _,CoC.refl _,CoC.refl _,CoC.agg ⟨CoP.refl _,CoP.of_eq (by rw [bug bv9]),CoP.of_eq (by rw [bug bv9]),CoP.of_eq (by rw [bug bv9]),trivial⟩,trivial⟩) rfl rfl ?_;refine w_5 ?_;refine hrr ?_;have he:=abx (n:=n) (i:=i) (a:=a) (b:=b) hck hnb;exact f9 rfl rfl (by rw [he];exact CoL.refl _)
def b3p (n:Int) (l:List Rw) (p m:List Fd) (i a b:Int):a6 bw0 96 [pT n l,pP (fdl p),pP (fdl m), .agg [.raw (.bool false), .raw (.int .i64 i), .raw (.int .i64 a), .raw (.int .i64 b)]] (af [pT (li n l p m false i a b).1 (li n l p m false i a b).2.1,pI (li n l p m false i a b).2.2]):=by
 refine hpx (nt:=69) Tryz.func96 ?_;refine sx7 ?_;refine m9 0 ?_;refine m9 1 ?_;refine m9 2 ?_;refine w_8 ?_;refine qcx agr (ac8 n l p m) ?_;refine w_7 ?_;refine hcn (fun h0=>?_) (fun h0=>?_)
 · refine w_7 ?_;refine hrr ?_;have he:=aln (n:=n) (l:=l) (p:=p) (m:=m) (mu:=false) (i:=i) (a:=a) (b:=b) bva;exact f9 rfl rfl (by rw [he];exact ⟨CoC.agg ⟨CoP.refl _,du,trivial⟩,CoC.refl _,trivial⟩)
 have hck:ckE n l p m = 0:=by assumption
 obtain ⟨hT,hbe,hpa⟩:=aok hck;refine apv ?_;refine aw rfl rfl (fun r1=>?_) (fun r1=>?_)
 ·
  have h1:=tz1 r1;(iterate 4 refine k9 (gtf r1) ?_);refine w_2 ?_;(iterate 5 refine k9 rfl ?_);refine w_2 ?_;(iterate 6 refine k9 rfl ?_);refine w_2 ?_;(iterate 9 refine k9 rfl ?_);refine w_9 ?_;refine hrr ?_
  have hbad:lq l p m false i a b:=by
   first
    | exact bdS
    | (refine (p8 (a:=a) (b:=b) ?_).elim (fun hq=>?_) (fun hq=>?_) <;> first | assumption | exact bdS)
    | (refine (pe (a:=a) (b:=b) (k:=(l.length:Int)) ?_).elim (fun hq=>?_) (fun hq=>?_) <;> first | assumption | exact bdS)
  have he:=nc hck hbad;exact f9 rfl rfl (by rw [he];exact ⟨CoC.agg ⟨CoP.refl _,du,trivial⟩,CoC.refl _,trivial⟩)
 have h1:=tz2 r1;(iterate 4 refine qy ?_ (hg:=(gff r1)));refine w_2 ?_;refine aw rfl rfl (fun r2=>?_) (fun r2=>?_)
 ·
  have h2:=tz1 (be r1 r2);(iterate 5 refine k9 (gtf r2) ?_);refine w_2 ?_;(iterate 6 refine k9 rfl ?_);refine w_2 ?_;(iterate 9 refine k9 rfl ?_);refine w_9 ?_;refine hrr ?_
  have hbad:lq l p m false i a b:=by
   first
    | exact bdS
    | (refine (p8 (a:=a) (b:=b) ?_).elim (fun hq=>?_) (fun hq=>?_) <;> first | assumption | exact bdS)
    | (refine (pe (a:=a) (b:=b) (k:=(l.length:Int)) ?_).elim (fun hq=>?_) (fun hq=>?_) <;> first | assumption | exact bdS)
  have he:=nc hck hbad;exact f9 rfl rfl (by rw [he];exact ⟨CoC.agg ⟨CoP.refl _,du,trivial⟩,CoC.refl _,trivial⟩)
 have h2:=tz2 (be r1 r2);(iterate 5 refine qy ?_ (hg:=(gff r2)));refine w_2 ?_;refine aw rfl rfl (fun r3=>?_) (fun r3=>?_)
 ·
  have h3:=tz1 (be r2 r3);(iterate 6 refine k9 (gtf r3) ?_);refine w_2 ?_;(iterate 9 refine k9 rfl ?_);refine w_9 ?_;refine hrr ?_
  have hbad:lq l p m false i a b:=by
   first
    | exact bdS
    | (refine (p8 (a:=a) (b:=b) ?_).elim (fun hq=>?_) (fun hq=>?_) <;> first | assumption | exact bdS)
    | (refine (pe (a:=a) (b:=b) (k:=(l.length:Int)) ?_).elim (fun hq=>?_) (fun hq=>?_) <;> first | assumption | exact bdS)
  have he:=nc hck hbad;exact f9 rfl rfl (by rw [he];exact ⟨CoC.agg ⟨CoP.refl _,du,trivial⟩,CoC.refl _,trivial⟩)
 have h3:=tz2 (be r2 r3);(iterate 6 refine qy ?_ (hg:=(gff r3)));refine w_2 ?_;refine aw rfl rfl (fun r4=>?_) (fun r4=>?_)
 ·
  have h4:=tz1 (be r3 r4);(iterate 9 refine k9 (gtf r4) ?_);refine w_9 ?_;refine hrr ?_
  have hbad:lq l p m false i a b:=by
   first
    | exact bdS
    | (refine (p8 (a:=a) (b:=b) ?_).elim (fun hq=>?_) (fun hq=>?_) <;> first | assumption | exact bdS)
    | (refine (pe (a:=a) (b:=b) (k:=(l.length:Int)) ?_).elim (fun hq=>?_) (fun hq=>?_) <;> first | assumption | exact bdS)
  have he:=nc hck hbad;exact f9 rfl rfl (by rw [he];exact ⟨CoC.agg ⟨CoP.refl _,du,trivial⟩,CoC.refl _,trivial⟩)
 have h4:=tz2 (be r3 r4);(iterate 9 refine qy ?_ (hg:=(gff r4)));refine w_2 ?_;refine au _ rfl (fun r5=>?_) (fun r5=>?_)
 ·
  have h5:=tz1 (be r4 r5);refine w_6 ?_;refine hrr ?_
  have hbad:lq l p m false i a b:=by
   first
    | exact bdS
    | (refine (p8 (a:=a) (b:=b) ?_).elim (fun hq=>?_) (fun hq=>?_) <;> first | assumption | exact bdS)
    | (refine (pe (a:=a) (b:=b) (k:=(l.length:Int)) ?_).elim (fun hq=>?_) (fun hq=>?_) <;> first | assumption | exact bdS)
  have he:=nc hck hbad;exact f9 rfl rfl (by rw [he];exact ⟨CoC.agg ⟨CoP.refl _,du,trivial⟩,CoC.refl _,trivial⟩)
 have h5:=tz2 (be r4 r5);refine w_2 ?_;obtain ⟨ha0,hb0⟩:=b0d (a:=a) (b:=b) bva;obtain ⟨hal,hbl⟩:=axm (a:=a) (b:=b) (k:=(l.length:Int)) bva
 have hnb:¬ lq l p m false i a b:=by
  unfold lq;rintro (h | h | h | h | h | h | ⟨h,h2⟩ | ⟨h,h2⟩) <;> first | omega | cases h
 have ha:a.toNat < l.length:=by omega
 have hb:b.toNat < l.length:=by omega
 have hi:i.toNat < p.length:=by omega
 refine w_5 ?_;refine rc rfl rfl rfl rfl rfl rfl aht (at5 n l p m i.toNat a.toNat b.toNat hT ha hb hi (bs2.1 hpa _ (ey hi))) (⟨CoC.refl _,CoC.refl _,CoC.refl _,CoC.agg ⟨CoP.refl _,CoP.of_eq (by rw [bug bv9]),CoP.of_eq (by rw [bug bv9]),CoP.of_eq (by rw [bug bv9]),trivial⟩,trivial⟩) rfl rfl ?_;refine w_5 ?_;refine hrr ?_;have he:=abx (n:=n) (i:=i) (a:=a) (b:=b) hck hnb;exact f9 rfl rfl (by rw [he];exact CoL.refl _)
end
section
open Go.Proofs
abbrev Rcp.fs (d:Rcp) (k:Nat):List Fd:=d.f.map (Dp.fd (d.num k))
abbrev Rcp.ms (d:Rcp) (k:Nat):List Fd:=d.m.map (Dp.fd (d.num k))
abbrev Rcp.ps (d:Rcp) (k:Nat):List AS:=d.p.map (u8S (d.num k))
abbrev Rcp.t0 (d:Rcp) (k:Nat):List Rw:=bf (ax (d.num k) (d.ps k))
section
variable {n:Int} {p m:List Fd} {l0 l:List Rw}
end
def at7 (n:Int) (l:List Rw) (p m:List Fd) (mu:Bool) (i a b:Int):a6 bw0 96 [pT n l,pP (fdl p),pP (fdl m), .agg [.raw (.bool mu), .raw (.int .i64 i), .raw (.int .i64 a), .raw (.int .i64 b)]] (af [pT (li n l p m mu i a b).1 (li n l p m mu i a b).2.1,pI (li n l p m mu i a b).2.2]):=by
 cases mu with
 | false=>exact b3p n l p m i a b
 | true=>exact b2m n l p m i a b
def ajx {n:Int} {l:List Rw} {p m:List Fd} {s:St} (hT:tok n l = true) (hb:dv n p m = 0) (h:a2a l p m s):li n l p m s.1 s.2.1 s.2.2.1 s.2.2.2 = dp n l p m s:=by
 obtain ⟨mu,i,a,b⟩:=s;have hck:ckE n l p m = 0:=(if_pos hT).trans hb;obtain ⟨ha,hbb,h⟩:=h;have ha:a < l.length:=ha;have hbb:b < l.length:=hbb
 have hne:¬ a = b:=by
  rintro rfl
  rcases h with ⟨_,_,h⟩ | ⟨_,_,h⟩
  · rw [show iz l (p.getD i default) a a = false from avl] at h;cases h
  rw [show iw l (m.getD i default) a a = false from awi ha] at h;cases h
 show li n l p m mu (i:Int) (a:Int) (b:Int) = _;rw [abx hck]
 · rfl
 unfold lq
 rcases h with ⟨h1,h2,_⟩ | ⟨h1,h2,_⟩
 · have h1:mu = false:=h1
   subst h1;have h2:i < p.length:=h2;rintro (h | h | h | h | h | h | ⟨h,h3⟩ | ⟨h,h3⟩) <;> first | omega | cases h
 have h1:mu = true:=h1;subst h1;have h2:i < m.length:=h2;rintro (h | h | h | h | h | h | ⟨h,h3⟩ | ⟨h,h3⟩) <;> first | omega | cases h
def b1y (n:Int) (l:List Rw) (p m:List Fd) (s:St) (hT:tok n l = true) (hb:dv n p m = 0) (h:a2a l p m s) (he:dp n l p m s = (n,(dp n l p m s).2.1,0)):a6 bw0 96 [pT n l,pP (fdl p),pP (fdl m),s.pc] (af [pT n (dp n l p m s).2.1,pI 0]):=by
 have:=at7 n l p m s.1 s.2.1 s.2.2.1 s.2.2.2;rw [ajx hT hb h,he] at this;exact this
end
section
abbrev af3:PV:=.sl 0 3 true (lf Val.c [])
def a0a (R:List Row) (a:Nat):Nat -> Nat -> PV:=fun i _=>if i < a then vals (a6i R i) else af3
section
variable {R:List Row} {a:Nat}
def bcn {j:Nat}:a0a R a a j = af3:=if_neg (btv a)
def axn {j:Nat}:CoP (vals (a6i R a)) (a0a R (a + 1) a j):=CoP.of_eq (if_pos (Nat.lt_succ_self a)).symm
variable {n:Nat}
def bdg:∀ i,i < n -> i ≠ a -> CoP (a0a R a i 0) (a0a R (a + 1) i 0):=fun i _ h=>by
 refine CoP.of_eq ?_;unfold a0a;by_cases h1:i < a
 · rw [if_pos h1,if_pos bv9]
 rw [if_neg h1,if_neg bv9]
variable {e:TypeId} {f:Nat -> Nat -> PV}
def axu {n':Nat} (hn:n' = n) (hf:∀ i,CoP (f i 0) af3):CoO (.arr true 1 e n f) (.arr true 1 e n' (a0a R 0)):=by
 subst hn;refine ⟨fun h=>h,rfl,rfl,rfl,fun i j hi hj=>?_⟩;obtain rfl:j = 0:=by omega
 have:a0a R 0 i 0 = af3:=if_neg bv9;rw [this];exact hf i
variable {cl:Bool}
def b72:CoP (.sl n 1 cl (a0a R n)) (xc (ca R n)):=by
 refine CoP.sl a1f (.inl rfl) (fun h=>by cases h) fun i j hi hj=>CoP.of_eq ?_;show a0a R n i j = vals ((ca R n).getD i default);rw [a0w hi];exact if_pos hi
def azg {s:Nat}:CoP (.sl 0 s true f) af3:=CoP.sl rfl (.inr rfl) (fun h=>h) fun i j hi _=>absurd hi (brg i)
def a4h:(y7 R a).length = R.length:=bsc _
variable {g:Nat -> Nat -> PV}
def b0l {i:Nat} (hi:i < R.length) (h:∀ j,j < 3 -> CoP (g 0 j) (((R.getD i default).vals.getD a default).c j)):
 CoO (.arr true 3 e (i + 1) (f8 i (lf Val.c (y7 R a)) g)) (.arr true 3 e (i + 1) (lf Val.c (y7 R a))) :=
 wn (fun h=>h) fun j hj=>by
  show CoP _ (((y7 R a).getD i default).c j)
  have:(y7 R a).getD i default = (R.getD i default).vals.getD a default:=by
   unfold y7;simp [List.getD,hi]
  rw [this];exact h j hj
variable {l:List Val}
def b96 {wr wr':Bool} (hw:wr' = true -> wr = true) (hn:n = l.length):CoO (.arr wr 3 e n (lf Val.c l)) (.arr wr' 3 e l.length (lf (fun v j=>.raw ((a2l v).getD j (.bool false))) l)):=by subst hn;exact co_encV' hw
def co_encL' {wr wr':Bool} (hw:wr' = true -> wr = true) (hn:n = l.length):CoO (.arr wr 3 e n (lf (fun v j=>.raw ((a2l v).getD j (.bool false))) l)) (.arr wr' 3 e l.length (lf Val.c l)):=by subst hn;exact bbi hw
variable {s:AS}
def b2y {n':Nat} (hn:n' = n) (hf:∀ i,CoP (f i 0) (.raw (.map none))):CoO (.arr true 1 e n f) (.arr true 1 e n' (lvT R s 0)):=by
 subst hn;refine ⟨fun h=>h,rfl,rfl,rfl,fun i j hi hj=>?_⟩;obtain rfl:j = 0:=by omega
 have:lvT R s 0 i 0 = .raw (.map none):=if_neg bv9;rw [this];exact hf i
def b9y {k:Nat} {f:MK -> Option PV} (hf:∀ m,f m = none):CoO (.mp .str 0 f) (.mp .str 0 (yf (R.take 0) s k)):=by
 refine ⟨rfl,brd _,fun m=>?_⟩;rw [hf m]
 cases m with
 | i q n=>exact CoM.refl _
 | s b=>exact CoM.refl _
def be3 {k i:Nat} (hi:i < R.length) {e:ByteArray} (he:e = fb ((R.getD i default).vals.take k) s):
 CoO (.mp .str (i + 1) (uy (yf (R.take i) s k) (.s e) (.raw (.bool true)))) (.mp .str (i + 1) (yf (R.take (i + 1)) s k)):=by
 subst he;refine ⟨rfl,brd _,fun m=>CoM.of_eq ?_⟩
 cases m with
 | i q n=>rfl
 | s b =>
  show (bif decide (b = fb ((R.getD i default).vals.take k) s) then some (PV.raw (.bool true)) else (if od (R.take i) s k b = true then some (.raw (.bool true)) else none)) = if od (R.take (i + 1)) s k b = true then some (.raw (.bool true)) else none
  rw [av3 hi];by_cases hb:b = fb ((R.getD i default).vals.take k) s
  · subst hb
    simp
  have h1:decide (b = fb ((R.getD i default).vals.take k) s) = false:=decide_eq_false hb;have h2:decide (fb ((R.getD i default).vals.take k) s = b) = false:=decide_eq_false fun e=>hb e.symm;rw [h1,h2,Bool.or_false];rfl
def bln {k M:Nat}:∀ i j,i < n -> j < 1 -> (∃ k',ik k (.ref M 0) (lvT R s k) i j = .ref M k' /\ k' = 0 /\ CoP (mpP .str R.length (yf (R.take R.length) s k)) (lvT R s (k + 1) i j)) \/ CoH (ik k (.ref M 0) (lvT R s k) i j) (.p (lvT R s (k + 1) i j)):=fun i j hi hj=>by
 by_cases h:i = k
 · subst h
   refine .inl ⟨0,if_pos rfl,rfl, ?_⟩;rw [bro];exact CoP.of_eq (if_pos (Nat.lt_succ_self i)).symm
 refine .inr ?_;unfold ik;rw [if_neg h];refine CoP.of_eq ?_;unfold lvT;by_cases h1:i < k
 · rw [if_pos h1,if_pos bv9]
 rw [if_neg h1,if_neg bv9]
def bep:CoP (.sl (n + 1) 1 cl (lvT R s (n + 1))) (.sl (n + 1) 1 false (lvF R s)) :=
 CoP.sl rfl (.inl rfl) (fun h=>by cases h) fun i j hi hj=>CoP.of_eq (if_pos hi)
variable {ps:List AS}
def b34 {i:Nat} (hg:g 0 0 = .sl (n + 1) 1 cl (lvT R (ps.getD i default) (n + 1))):
 CoO (.arr true 1 e (i + 1) (f8 i (lf (lvC R n) ps) g)) (.arr true 1 e (i + 1) (lf (lvC R n) ps)) :=
 wn (fun h=>h) fun j hj=>by
  obtain rfl:j = 0:=by omega
  rw [hg];exact bep
def b3u {k:Nat} (hk:k <= l.length):CoP (.sl (dn (b5 n (some (k:Int))) none) 3 cl (nf (lf Val.c l) none)) (vals (l.take k)):=ah9 hk
def aem {l:List (List Val)}:(jt l).length = l.length:=by simp [jt]
def arp {l:List (List Val)} {i:Nat} (hi:i < l.length) (h0:CoP (g 0 0) (.raw (.int .i64 ((i:Int) + 1)))) (h1:CoP (g 0 1) (vals (l.getD i default))):
 CoO (.arr true 2 e (i + 1) (f8 i (lf Row.c (jt l)) g)) (.arr true 2 e (i + 1) (lf Row.c (jt l))) :=
 wn (fun h=>h) fun j hj=>by
  show CoP _ (Row.c ((jt l).getD i default) j)
  have:(jt l).getD i default = ⟨(i:Int) + 1,l.getD i []⟩:=by
   unfold jt;simp [List.getD,hi]
  rw [this]
  rcases (by omega:j = 0 \/ j = 1) with rfl | rfl
  · exact h0
  exact h1
variable {t:Tbl}
def bbp (h:¬ d8 t = 0):ng t ps = d8 t:=if_pos h
def b9e (h1:d8 t = 0) (h:¬ lvE t.attrs.length ps = 0):ng t ps = lvE t.attrs.length ps:=by unfold ng;rw [if_neg (by simp [h1]),if_pos h]
def bdm (h1:d8 t = 0) (h2:lvE t.attrs.length ps = 0) (h:(1000:Int) < ((pj t.rows ps t.attrs.length).length:Int)):ng t ps = 3:=by
 unfold ng;rw [if_neg (by simp [h1]),if_neg (by simp [h2]),if_pos bv9]
def atl (h1:d8 t = 0) (h2:lvE t.attrs.length ps = 0) (h:¬ (1000:Int) < ((pj t.rows ps t.attrs.length).length:Int)):ng t ps = 0:=by
 unfold ng;rw [if_neg (by simp [h1]),if_neg (by simp [h2]),if_neg bv9]
def ahq {e:Int} (h:ng t ps = e) (he:e ≠ 0):t6 t ps = T0:=if_neg (by rw [h];exact he)
def asv (h:ng t ps = 0):t6 t ps = ⟨t.name,t.attrs,jt (pj t.rows ps t.attrs.length)⟩:=if_pos h
def aub {n:Int} (h:lvE n ps = 0):0 < ps.length:=by
 cases ps with
 | nil =>
  exfalso;unfold lvE at h
  repeat' split at h
  all_goals first | omega | (simp at * <;> omega)
 | cons x l=>simp
def b93 {n:Int} (h:lvE n ps = 0):ps.length <= 64:=by
 unfold lvE at h
 repeat' split at h
 all_goals omega
def b82 {n:Int} (h:lvE n ps = 0):0 <= n /\ n <= 8:=by
 unfold lvE at h
 repeat' split at h
 all_goals omega
end
end
section
abbrev RSt:=Bool × Int × Int × Int
abbrev RSt.c (s:RSt):Nat -> PV:=fun j=>[.raw (.bool s.1), .raw (.int .i64 s.2.1), .raw (.int .i64 s.2.2.1), .raw (.int .i64 s.2.2.2)].getD j .any
abbrev RSt.pc (s:RSt):PC:=.agg [.raw (.bool s.1), .raw (.int .i64 s.2.1), .raw (.int .i64 s.2.2.1), .raw (.int .i64 s.2.2.2)]
abbrev b2f (l:List RSt):PV:=psl 4 RSt.c l
def St.r (s:St):RSt:=(s.1,(s.2.1:Int),(s.2.2.1:Int),(s.2.2.2:Int))
def b97 {l:List St}:CoP (stl l) (b2f (l.map St.r)):=by
 refine CoP.sl (bsc _) (.inl rfl) (fun h=>h) fun i j hi hj=>CoP.of_eq ?_;show St.c (l.getD i default) j = RSt.c ((l.map St.r).getD i default) j;have:(l.map St.r).getD i default = St.r (l.getD i default):=by simp [List.getD,hi]
 rw [this];rfl
abbrev a26 (a:Int) (l:List Rw) (p m:List Fd) (s:RSt):Int × List Rw × Int:=li a l p m s.1 s.2.1 s.2.2.1 s.2.2.2
def a0k (n:Int) (p m:List Fd):Int -> List Rw -> List RSt -> Bool
 | _,l,[]=>n9 n l
 | a,l,s :: r=>if (a26 a l p m s).2.2 = 0 then a0k n p m (a26 a l p m s).1 (a26 a l p m s).2.1 r else false
def a2d (n:Int) (ps:List AS) (p m:List Fd) (sts:List RSt):Bool:=decide (lvE n ps = 0) && (decide (dv n p m = 0) && a0k n p m n (bf (ax n ps)) sts)
structure a5f (n:Int) (ps:List AS) (p m:List Fd) (sts:List RSt) (x:Nat × Int × List Rw × Int):Prop where
 le:x.1 <= sts.length
 ok:x.2.2.2 = 0 -> a0k n p m n (bf (ax n ps)) sts = a0k n p m x.2.1 x.2.2.1 (sts.drop x.1)
 no:¬ x.2.2.2 = 0 -> a0k n p m n (bf (ax n ps)) sts = false
section
variable {n:Int} {ps:List AS} {p m:List Fd} {sts:List RSt}
def a5f.start:a5f n ps p m sts (0,n,bf (ax n ps),0):=⟨bre _,fun _=>rfl,fun h=>absurd rfl h⟩
section
variable {x:Nat × Int × List Rw × Int}
def a5f.step (h:a5f n ps p m sts x) (hi:x.1 < sts.length) (h0:x.2.2.2 = 0):a5f n ps p m sts (x.1 + 1,(a26 x.2.1 x.2.2.1 p m (sts.getD x.1 default)).1,(a26 x.2.1 x.2.2.1 p m (sts.getD x.1 default)).2.1,(a26 x.2.1 x.2.2.1 p m (sts.getD x.1 default)).2.2):=by
 have e:sts.drop x.1 = sts.getD x.1 default :: sts.drop (x.1 + 1):=by
  rw [bty hi,brc,brb hi];rfl
 have h1:=h.ok h0;rw [e,a0k] at h1;refine ⟨hi,fun h2=>?_,fun h2=>?_⟩
 · rw [h1,if_pos h2]
 rw [h1,if_neg h2]
def a5f.fin (h:a5f n ps p m sts x) (hi:¬ x.1 < sts.length) (h0:x.2.2.2 = 0):a0k n p m n (bf (ax n ps)) sts = n9 n x.2.2.1:=by
 rw [h.ok h0,List.drop_of_length_le bv9,a0k]
def azs (h:¬ lvE n ps = 0):a2d n ps p m sts = false:=by unfold a2d;rw [decide_eq_false h];rfl
def axw (h:¬ dv n p m = 0):a2d n ps p m sts = false:=by unfold a2d;rw [decide_eq_false h];simp
def ad6 (h:lvE n ps = 0) (h2:dv n p m = 0):a2d n ps p m sts = a0k n p m n (bf (ax n ps)) sts:=by unfold a2d;rw [decide_eq_true h,decide_eq_true h2];rfl
def ayt (h:lsC n ps p m = 0):lvE n ps = 0 /\ dv n p m = 0 /\ (lsT n ps p m).2.2 = 0 /\ lcR n ps p m = ((n,bf (ax n ps)),(lsT n ps p m).1,(lsT n ps p m).2.1,(lsT n ps p m).2.2):=by
 obtain ⟨h1,h2⟩:=a7b h;exact ⟨h1,h2,(akt h1 h2).symm.trans h,b8k h1 h2⟩
def ay4 (h:¬ lsC n ps p m = 0):prS n ps p m = [] /\ prC n ps p m = lsC n ps p m:=by
 have h':¬ (rcR n ps p m).2.2 = 0:=by rw [abh];exact h
 exact ⟨if_neg h',by unfold prC;rw [if_neg h',abh]⟩
def axk (h:lsC n ps p m = 0) {i:Nat} (hi:i <= (lsT n ps p m).1.length) (hI:∀ j,j < i -> n9 n ((trL n p m (bf (ax n ps)) (lsT n ps p m).1).getD j default) = false)
 (hf:n9 n ((trL n p m (bf (ax n ps)) (lsT n ps p m).1).getD i default) = true):prS n ps p m = (lsT n ps p m).1.take i /\ prC n ps p m = 0:=by
 have e:=auz (n:=n) (ps:=ps) (p:=p) (m:=m) h
 have hx:prX n ps p m = (i:Int):=by
  unfold prX;rw [e];refine xf (p:=fun a:Int × List Rw=>n9 n a.2) (i:=i) (by rw [an3];omega) (fun j hj=>?_) ?_
  · show n9 n _ = false
    rw [agc bv9];exact hI j hj
  show n9 n _ = true;rw [agc hi];exact hf
 constructor
 · unfold prS
   rw [hx,e,if_pos rfl,if_neg bv9];rfl
 unfold prC;rw [hx,e,if_pos rfl,if_neg bv9]
def atd (h:lsC n ps p m = 0) (hI:∀ j,j < (lsT n ps p m).1.length + 1 -> n9 n ((trL n p m (bf (ax n ps)) (lsT n ps p m).1).getD j default) = false):prS n ps p m = [] /\ prC n ps p m = 11:=by
 have e:=auz (n:=n) (ps:=ps) (p:=p) (m:=m) h
 have hx:prX n ps p m < 0:=by
  unfold prX;rw [e]
  have:idx (fun a:Int × List Rw=>n9 n a.2) (vj n p m (bf (ax n ps)) (lsT n ps p m).1) = -1:=wq fun j hj=>by
   rw [an3] at hj;rw [agc bv9];exact hI j hj
  show idx _ (vj n p m (bf (ax n ps)) (lsT n ps p m).1) < 0;omega
 constructor
 · unfold prS
   rw [e,if_pos rfl];exact if_pos hx
 unfold prC;rw [e,if_pos rfl];exact if_pos hx
end
end
def bn9 (r:Rw):List Val:=r.map fun z=>⟨1,z,emp⟩
def bmv (l:List Rw):List Row:=(List.range l.length).map fun (i:Nat)=>⟨(i:Int) + 1,bn9 (l.getD i default)⟩
def bn4 (n:Int) (ps:List AS) (p m:List Fd):Int:=if lsC n ps p m ≠ 0 then lsC n ps p m else if n9 n (lsT n ps p m).2.1.2 = true then 10 else 0
def bq2 (n:Int) (ps:List AS) (p m:List Fd):Tbl:=if bn4 n ps p m = 0 then ⟨⟨#[116]⟩,og.take n.toNat,bmv (lsT n ps p m).2.1.2⟩ else T0
section
variable {n:Int} {ps:List AS} {p m:List Fd}
end
def bqr (n:Int) (a b:AS) (l:List Fd):Bool:=decide (bj n l = 0) && (decide (a ||| b = aa n) && (decide (sub a (clo l (a &&& b))) || decide (sub b (clo l (a &&& b)))))
end
section
section
variable {α:Type} [DecidableEq α] {c:α -> α -> Int}
def ab9 (h:Tot c):∀ (l:List α) (p:Option α),l.Pairwise (fun a b=>¬ c b a < 0) -> (∀ x,p = some x -> ∀ y ∈ l,¬ c y x < 0) -> Asc c (jw p l) /\ ∀ x,p = some x -> ∀ y ∈ jw p l,c x y < 0
 | [],p,_,_=>⟨List.Pairwise.nil,fun _ _ y hy=>by cases hy⟩
 | y :: l,p,hl,hp=>by
  have hl':=bsb.1 hl;simp only [jw];split
  · rename_i he
    exact ab9 h l p hl'.2 fun x hx z hz=>hp x hx z (by simp [hz])
  rename_i he
  obtain ⟨h1,h2⟩:=ab9 h l (some y) hl'.2 fun x hx z hz=>by
   simp only [bra] at hx;subst hx;exact hl'.1 z hz
  refine ⟨bsb.2 ⟨fun z hz=>h2 y rfl z hz,h1⟩,fun x hx z hz=>?_⟩
  have hxy:c x y < 0:=by
   have h3:=hp x hx y bvd;have h4:=h.anti x y;have h5:c x y ≠ 0:=fun e=>he (by rw [hx,(h.zero x y).1 e]);omega
  rcases brm.1 hz with rfl | hz
  · exact hxy
  exact h.tr _ _ _ hxy (h2 y rfl z hz)
def b2o (h:Tot c) {l:List α} (hl:l.Pairwise fun a b=>¬ c b a < 0):Asc c (gk l):=(ab9 h l none hl fun x hx=>by cases hx).1
def bgf (c:α -> α -> Int) (x:α):List α -> List α
 | []=>[x]
 | y :: l=>if c x y < 0 then x :: y :: l else if c x y = 0 then y :: l else y :: bgf c x l
def bpy (c:α -> α -> Int) (l:List α):List α:=l.foldr (bgf c) []
end
def b44 {R:List Row} {a:Nat}:Asc ig (a6i R a):=b2o w7 (w7.srt _)
def anq {R:List Row} {a:Nat} {v:Val}:v ∈ a6i R a <-> ∃ r ∈ R,r.vals.getD a default = v:=by
 unfold a6i;rw [ab1,b6o,y7,brp]
def awR:List Row:=[⟨1,[⟨1,0,emp⟩,⟨1,1,emp⟩,⟨1,5,emp⟩]⟩,⟨2,[⟨1,6,emp⟩,⟨1,1,emp⟩,⟨1,2,emp⟩]⟩]
def awT:Tbl:=⟨⟨#[116]⟩,og.take 3,awR⟩
end
section
def a9j (l:List Row) (v:List Val):Bool:=l.any fun r=>decide (r.vals = v)
def jl (s:AS):Nat -> List Val -> List Val
 | _,[]=>[]
 | a,v :: l=>if c8 s (a:Int) = true then v :: jl s (a + 1) l else jl s (a + 1) l
def sel (l:List Val) (s:AS):List Val:=jl s 0 l
section
variable {s:AS}
def a7c:∀ {l:List Val} {a:Nat} {v:Val},jl s a (l ++ [v]) = if c8 s ((a + l.length:Nat):Int) = true then jl s a l ++ [v] else jl s a l
 | [],a,v=>by
  simp only [btg,jl,bt8,bt6]
 | x :: l,a,v=>by
  have ih:jl s (a + 1) (l ++ [v]) = if c8 s ((a + 1 + l.length:Nat):Int) = true then jl s (a + 1) l ++ [v] else jl s (a + 1) l:=a7c
  simp only [btc,jl,bs6];rw [ih,show a + 1 + l.length = a + (l.length + 1) by omega];split <;> split <;> simp
variable {l:List Val}
def akd {i:Nat} (hi:i < l.length) (h:c8 s (i:Int) = true):sel (l.take (i + 1)) s = sel (l.take i) s ++ [l.getD i default]:=by
 unfold sel;rw [al hi,a7c,brl,bsh bv9,bs5,if_pos h]
def akp {i:Nat} (hi:i < l.length) (h:c8 s (i:Int) = false):sel (l.take (i + 1)) s = sel (l.take i) s:=by
 unfold sel;rw [al hi,a7c,brl,bsh bv9,bs5,if_neg (by simp [h])]
def abd:∀ {l:List Val} {a:Nat} {v:Val},v ∈ jl s a l -> v ∈ l
 | x :: l,a,v,h=>by
  unfold jl at h;split at h
  · rcases brm.1 h with rfl | h
    · simp
    exact bs1 _ (abd h)
  exact bs1 _ (abd h)
def anc:∀ {l:List Val} {a:Nat},(jl s a l).length <= l.length
 | [],_=>brd _
 | x :: l,a=>by
  have:(jl s (a + 1) l).length <= l.length:=anc;unfold jl;split <;> simp only [bs6] <;> omega
def bbv:(sel l s).length <= l.length:=anc
def adt:ur l <-> ∀ v ∈ l,v.ok:=by
 constructor
 · intro h v hv
   obtain ⟨i,hi,e⟩:=bry hv;have:=h i hi;rw [bw _ _ hi,e] at this;exact this
 intro h i hi;rw [bw _ _ hi];exact h _ (brs hi)
def b0i (h:ur l):ur (sel l s):=adt.2 fun v hv=>adt.1 h v (abd hv)
def a28 (a b:Row) (s:AS):Bool:=decide (sel a.vals s = sel b.vals s)
def bos (t:Tbl) (q:AS) (r:Row) (n:Int):Bool:=t.rows.any fun x=>a28 x r (q &&& aa n)
def avp (a b:List Row):Bool:=a.all fun r=>a9j b r.vals
def ya (a b:Tbl):Bool:=decide (a.attrs = b.attrs) && (avp a.rows b.rows && avp b.rows a.rows)
def bll (a b:Tbl) (r s:Row) (i:Nat):Bool:=decide (ah1 a.attrs (b.attrs.getD i default) < 0) || decide (ig (r.vals.getD (ah1 a.attrs (b.attrs.getD i default)).toNat default) (s.vals.getD i default) = 0)
def bmx (a b:Tbl) (r s:Row):Bool:=(List.range b.attrs.length).all (bll a b r s)
def bpo (a b:Tbl):Bool:=b.rows.all fun s=>a.rows.any fun r=>bmx a b r s
def a0q (t:Tbl) (d:Fd) (i k:Nat):Bool:=!a28 (t.rows.getD i default) (t.rows.getD k default) d.lhs || a28 (t.rows.getD i default) (t.rows.getD k default) d.rhs
def fdB (t:Tbl) (d:Fd):Bool:=(List.range t.rows.length).all fun i=>(List.range i).all fun k=>a0q t d i k
def awr (t:Tbl) (a b:Row) (left:AS):Bool:=t.rows.any fun x=>a28 x a left && a28 x b (aa t.attrs.length &&& ~~~left)
def bjk (t:Tbl) (d:Fd) (i k:Nat):Bool:=!a28 (t.rows.getD i default) (t.rows.getD k default) d.lhs || awr t (t.rows.getD i default) (t.rows.getD k default) (d.lhs ||| d.rhs)
def mvB (t:Tbl) (d:Fd):Bool:=(List.range t.rows.length).all fun i=>(List.range t.rows.length).all fun k=>bjk t d i k
end
end
section
def w64 (n:Int):IntKind.wrap .u64 n = n % 18446744073709551616:=by simp [IntKind.wrap,IntKind.bits,IntKind.signed]
def w8 (n:Int):IntKind.wrap .u8 n = n % 256:=by simp [IntKind.wrap,IntKind.bits,IntKind.signed]
def ame (n:Int):Prop:=-9223372036854775808 <= n /\ n <= 9223372036854775807
def awd (n:Int):uN n = ((BitVec.ofInt 64 (n % 18446744073709551616) ^^^ BitVec.ofInt 64 9223372036854775808).toNat:Int):=by
 unfold uN cn;rw [w64,w64];show ((BitVec.ofInt 64 (n % 18446744073709551616) ^^^ BitVec.ofInt 64 9223372036854775808).toNat:Int) % 18446744073709551616 = _;omega
def b7q (n:Int):0 <= uN n /\ uN n < 18446744073709551616:=by
 rw [awd];omega
theorem bg2 {n m:Int} (hn:ame n) (hm:ame m) (h:uN n = uN m):n = m:=by
 rw [awd,awd] at h;have h1:=bso (Int.ofNat.inj h)
 have h2:BitVec.ofInt 64 (n % 18446744073709551616) = BitVec.ofInt 64 (m % 18446744073709551616):=by
  simp_all
 have h3:=congrArg BitVec.toNat h2;rw [BitVec.toNat_ofInt,BitVec.toNat_ofInt] at h3;obtain ⟨a1,a2⟩:=hn;obtain ⟨b1,b2⟩:=hm
 grind
theorem ays (u:Int) (s:Nat) (hs:s <= 64):byK u s = u / (2 ^ s) % 256:=by
 unfold byK;rw [w8,bsh hs]
 grind
theorem ao3 {n m:Int} (hn:ame n) (hm:ame m) (h:xu n = xu m):n = m:=by
 refine bg2 hn hm ?_;have hu:=b7q n;have hv:=b7q m;unfold xu at h;generalize uN n = u at *;generalize uN m = v at *
 have hb:∀ i,i < 8 -> u / 2 ^ (56 - 8 * i) % 256 = v / 2 ^ (56 - 8 * i) % 256:=fun i hi=>by
  have h1:=congrArg (fun l=>l.getD i 0) h;simp only [List.getD,brx,bsq hi,bs7,bsn] at h1;rw [ays _ _ bv9,ays _ _ bv9] at h1;exact h1
 have h0:=hb 0 bv9;have h1:=hb 1 bv9;have h2:=hb 2 bv9;have h3:=hb 3 bv9;have h4:=hb 4 bv9;have h5:=hb 5 bv9;have h6:=hb 6 bv9;have h7:=hb 7 bv9
 grind
def b8 (l:List Int):List UInt8:=l.map fun n=>UInt8.ofNat n.toNat
theorem aqk:∀ {a b:List UInt8} {X Y:List Int},qe a ++ (0 :: 1 :: X) = qe b ++ (0 :: 1 :: Y) -> a = b /\ X = Y
 | [],[],X,Y,h=>by
  simp_all
 | [],y :: b,X,Y,h=>by
  exfalso;simp only [qe,List.flatMap_nil,bup,btg] at h;unfold a2f at h;split at h
  · simp at h
  rename_i hy;simp at h;have:y.toNat = 0:=by omega
  exact hy (UInt8.toNat_inj.1 this)
 | x :: a,[],X,Y,h=>by
  exfalso;simp only [qe,List.flatMap_nil,bup,btg] at h;unfold a2f at h;split at h
  · simp at h
  rename_i hy;simp at h;have:x.toNat = 0:=by omega
  exact hy (UInt8.toNat_inj.1 this)
 | x :: a,y :: b,X,Y,h=>by
  have e1:∀ (z:UInt8) (l:List UInt8) (W:List Int),qe (z :: l) ++ W = a2f z ++ (qe l ++ W):=fun z l W=>by simp [qe]
  rw [e1,e1] at h
  have key:x = y /\ qe a ++ (0 :: 1 :: X) = qe b ++ (0 :: 1 :: Y):=by
   unfold a2f at h;split at h <;> split at h
   · grind
   · rename_i h1 h2
     exfalso;simp at h;exact h2 (UInt8.toNat_inj.1 (by have:=h.1;show y.toNat = 0;omega))
   · rename_i h1 h2
     exfalso;simp at h;exact h1 (UInt8.toNat_inj.1 (by have:=h.1;show x.toNat = 0;omega))
   rename_i h1 h2;simp at h;exact ⟨UInt8.toNat_inj.1 bv9,by simpa using h.2⟩
  obtain ⟨rfl,h2⟩:=key;obtain ⟨rfl,h3⟩:=aqk h2
  grind
def ly (v:Val):Prop:=d9 v = true /\ ame v.num
theorem ae5 {v:Val} (h:d9 v = true):v.kind = 0 \/ v.kind = 1 \/ v.kind = 2 \/ v.kind = 3:=by
 unfold d9 at h
 grind
def aee {a b:Val} (h1:a.kind = b.kind) (h2:a.num = b.num) (h3:a.str = b.str):a = b:=by
 obtain ⟨a1,a2,a3⟩:=a;simp_all
def bm7 {a b:ByteArray} (h:bl a = bl b):a = b:=by
 obtain ⟨⟨a⟩⟩:=a;simp_all
def b6h {v w:Val} (hv:ly v) (hw:ly w) {X Y:List Int} (h:mr v ++ X = mr w ++ Y):v = w /\ X = Y:=by
 obtain ⟨hv,nv⟩:=hv;obtain ⟨hw,nw⟩:=hw;have kv:=ae5 hv;have kw:=ae5 hw;unfold mr at h;rw [btc,btc,bue] at h;obtain ⟨h1,h2⟩:=h;rw [w8,w8] at h1;have hk:v.kind = w.kind:=by omega
 clear h1;unfold d9 at hv hw;rw [<- hk] at h2 hw kw
 rcases kv with e | e | e | e <;> rw [e] at h2 hv hw <;> simp only [Int.reduceEq,if_true,if_false,or_true,true_or,or_false,false_or,or_self,btg,brk,decide_eq_true_eq,if_pos,true_and,decide_true,ite_true,ite_false] at h2 hv hw
 · exact ⟨aee hk (hv.1.trans hw.1.symm) (hv.2.trans hw.2.symm),h2⟩
 · obtain ⟨h3,h4⟩:=List.append_inj h2 (by rw [zp,zp])
   exact ⟨aee hk (ao3 nv nw h3) (hv.trans hw.symm),h4⟩
 · rw [bsm,bsm] at h2
   obtain ⟨h3,h4⟩:=aqk h2;exact ⟨aee hk (hv.1.trans hw.1.symm) (bm7 h3),h4⟩
 obtain ⟨h3,h4⟩:=List.append_inj h2 (by rw [zp,zp]);exact ⟨aee hk (ao3 nv nw h3) (hv.2.trans hw.2.symm),h4⟩
def byR (l:List Int):Prop:=∀ x ∈ l,0 <= x /\ x < 256
def ayv:∀ {a b:List Int},byR a -> byR b -> b8 a = b8 b -> a = b
 | [],[],_,_,_=>rfl
 | [],_ :: _,_,_,h=>by simp [b8] at h
 | _ :: _,[],_,_,h=>by simp [b8] at h
 | x :: a,y :: b,ha,hb,h=>by
  simp only [b8,bt3,bue] at h;have h1:=ha x bvd;have h2:=hb y bvd;have h3:=congrArg UInt8.toNat h.1;simp only [UInt8.toNat_ofNat'] at h3;have e:x = y:=by omega
  rw [e,ayv (fun z hz=>ha z (bs1 _ hz)) (fun z hz=>hb z (bs1 _ hz)) h.2]
def bal {a b:List Int} (ha:byR a) (hb:byR b):byR (a ++ b):=fun x hx=>by
 rcases brr.1 hx with h | h
 · exact ha x h
 exact hb x h
theorem bei (v:Val):byR (mr v):=by
 have h8:∀ n:Int,0 <= IntKind.wrap .u8 n /\ IntKind.wrap .u8 n < 256:=fun n=>by rw [w8];omega
 unfold mr;intro x hx
 rcases brm.1 hx with rfl | hx
 · exact h8 _
 split at hx
 · unfold xu at hx
   obtain ⟨i,_,rfl⟩:=brp.1 hx;exact h8 _
 split at hx
 · rcases brr.1 hx with h | h
   · unfold qe at h
     obtain ⟨z,_,h⟩:=List.mem_flatMap.1 h;unfold a2f at h;split at h
     · grind
     simp at h;have:=z.toNat_lt;omega
   grind
 cases hx
def a01 (s:AS):Nat -> List Val -> List Int
 | _,[]=>[]
 | a,v :: vs=>if s.getLsbD a = true then mr v ++ a01 s (a + 1) vs else a01 s (a + 1) vs
section
variable {s:AS}
def ag3:∀ {l:List Val} {a:Nat},byR (a01 s a l)
 | [],_=>fun x hx=>by cases hx
 | v :: l,a=>by
  have h:byR (a01 s (a + 1) l):=ag3;unfold a01;split
  · exact bal (bei v) h
  exact h
theorem ah4:∀ {l:List Val} {a:Nat},(∀ v ∈ l,d9 v = true) -> bl (m7 s a l) = b8 (a01 s a l)
 | [],_,_=>rfl
 | v :: l,a,h=>by
  have ih:bl (m7 s (a + 1) l) = b8 (a01 s (a + 1) l):=ah4 fun x hx=>h x (bs1 _ hx);unfold m7 a01;split
  · rw [agb (h v bvd)]
    show (strOfNums (mr v) ++ m7 s (a + 1) l).data.toList = _;rw [ByteArray.data_append,Array.toList_append];show b8 (mr v) ++ bl (m7 s (a + 1) l) = _;rw [ih];unfold b8
    grind
  exact ih
def abo:∀ {l m:List Val} {a:Nat},l.length = m.length -> a + l.length <= 32 -> (∀ v ∈ l,ly v) -> (∀ v ∈ m,ly v) -> a01 s a l = a01 s a m -> jl s a l = jl s a m
 | [],[],_,_,_,_,_,_=>rfl
 | [],_ :: _,_,h,_,_,_,_=>by simp at h
 | _ :: _,[],_,h,_,_,_,_=>by simp at h
 | v :: l,w :: m,a,hl,ha,h1,h2,h=>by
  have hl2:l.length = m.length:=by simpa using hl
  have ha2:a + (l.length + 1) <= 32:=ha;unfold a01 at h;unfold jl;rw [dx bv9];split at h
  · rename_i hs
    rw [if_pos hs,if_pos hs];obtain ⟨rfl,h3⟩:=b6h (h1 v bvd) (h2 w bvd) h;have h4:jl s (a + 1) l = jl s (a + 1) m:=abo hl2 bv9 (fun x hx=>h1 x (bs1 _ hx)) (fun x hx=>h2 x (bs1 _ hx)) h3;rw [h4]
  rename_i hs;rw [if_neg hs,if_neg hs];exact abo hl2 bv9 (fun x hx=>h1 x (bs1 _ hx)) (fun x hx=>h2 x (bs1 _ hx)) h
def a1t:∀ {l m:List Val} {a:Nat},l.length = m.length -> a + l.length <= 32 -> jl s a l = jl s a m -> m7 s a l = m7 s a m
 | [],[],_,_,_,_=>rfl
 | [],_ :: _,_,h,_,_=>by simp at h
 | _ :: _,[],_,h,_,_=>by simp at h
 | v :: l,w :: m,a,hl,ha,h=>by
  have hl:l.length = m.length:=by simpa using hl
  have ha:a + (l.length + 1) <= 32:=ha;unfold m7;unfold jl at h;rw [dx bv9] at h;split at h
  · rename_i hs
    rw [bue] at h;rw [if_pos hs,if_pos hs,h.1,a1t hl bv9 h.2]
  rename_i hs;rw [if_neg hs,if_neg hs];exact a1t hl bv9 h
def aq7 {l m:List Val} (hl:l.length = m.length) (h32:l.length <= 32) (h1:∀ v ∈ l,ly v) (h2:∀ v ∈ m,ly v):fb l s = fb m s <-> sel l s = sel m s:=by
 constructor
 · intro h
   refine abo hl bv9 h1 h2 (ayv ag3 ag3 ?_);rw [<- ah4 fun v hv=>(h1 v hv).1,<- ah4 fun v hv=>(h2 v hv).1];exact congrArg bl h
 exact a1t hl bv9
end
end
end Go.Hx
