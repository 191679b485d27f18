/- A part of the proof: Jn1 Jo1 Jc1 Jn2 Hx31 Tb1 Tb2 Tb3 Tb4. -/
import Derived.Shelf.SlSortCmp.Insertion
import Derived.Test.YtodligmokcbbkaaDoorPx20
import Derived.Test.YtodligmokcbbkaaDoorPx23
import Derived.Test.YtodligmokcbbkaaDoorPx24
import Derived.Test.YtodligmokcbbkaaDoorPx27
set_option linter.all false
section
namespace Go.Hx
def byC (b:Int):Nat → PV
 | 0=>.raw (.int .u8 b)
 | _=>.any
abbrev byl (l:List Int):PV:=psl 1 byC l
def uN (n:Int):Int:=ct .xor .u64 (IntKind.wrap .u64 n) 9223372036854775808
def byK (u:Int) (s:Nat):Int:=IntKind.wrap .u8 (u.fdiv (2 ^ (min s 64)))
def asz (n:Int):List Int:=(List.range 8).map fun i=>byK (uN n) (56 - 8 * i)
def asd (x:UInt8):List Int:=if x = 0 then [0,255] else [(x.toNat:Int)]
def ami (l:List UInt8):List Int:=l.flatMap asd
def amg (v:Val):List Int:=IntKind.wrap .u8 v.kind :: (if v.kind = 1 ∨ v.kind = 3 then asz v.num else if v.kind = 2 then ami (bl v.str) ++ [0,1] else [])
def asv (v:Val):ByteArray:=if db v = true then strOfNums (amg v) else emp
def auo (v:Val):Int:=if db v = true then 0 else 1
def agz (s:AS):Nat → List Val → ByteArray
 | _,[]=>emp
 | a,v :: vs=>if s.getLsbD a = true then asv v ++ agz s (a + 1) vs else agz s (a + 1) vs
def aio (l:List Val) (s:AS):ByteArray:=agz s 0 l
def auw (n:Int) (i:Nat):List Int:=(List.range i).map fun i=>byK (uN n) (56 - 8 * i)
abbrev kB (v:Val):Int:=IntKind.wrap .u8 v.kind
def ava (v:Val) (i:Nat):List Int:=kB v :: ami ((bl v.str).take i)
end Go.Hx
end
section
namespace Go.Hx
open Go.Proofs Go.RowKit Go.Sort
structure Tot {α:Type} (c:α → α → Int):Prop where
 anti:∀ a b,c b a = - c a b
 zero:∀ a b,c a b = 0 ↔ a = b
 tr:∀ a b d,c a b < 0 → c b d < 0 → c a d < 0
section
variable {α:Type} {c:α → α → Int}
theorem Tot.self (h:Tot c) (a:α):c a a = 0:=(h.zero a a).2 rfl
theorem Tot.swo (h:Tot c):SWO (ltOf c) where
 irrefl x:=by unfold ltOf;rw [h.self];rfl
 trans x y z h1 h2:=by
  unfold ltOf at *
  exact decide_eq_true (h.tr x y z (of_decide_eq_true h1) (of_decide_eq_true h2))
 ntrans x y z h1 h2:=by
  unfold ltOf at *
  refine decide_eq_false fun hxz=>?_
  have h1:=of_decide_eq_false h1
  have h2:=of_decide_eq_false h2
  have ha:=h.anti x y
  by_cases e:x = y
  · subst e;exact h2 hxz
  · have:c x y ≠ 0:=fun e2=>e ((h.zero x y).1 e2)
    exact h2 (h.tr y x z (by omega) hxz)
abbrev Asc (c:α → α → Int) (l:List α):Prop:=l.Pairwise fun a b=>c a b < 0
theorem Tot.ext (h:Tot c):∀ {l m:List α},Asc c l → Asc c m → (∀ x,x ∈ l ↔ x ∈ m) → l = m
 | [],[],_,_,_=>rfl
 | [],y :: m,_,_,e=>by have:=(e y).2 (by simp);cases this
 | x :: l,[],_,_,e=>by have:=(e x).1 (by simp);cases this
 | x :: l,y :: m,h1,h2,e=>by
  have h1':=List.pairwise_cons.1 h1
  have h2':=List.pairwise_cons.1 h2
  have hxy:x = y:=by
   apply Classical.byContradiction
   intro hne
   have hx:x ∈ m:=by
    have:=(e x).1 (by simp)
    rcases List.mem_cons.1 this with e2 | e2
    · exact absurd e2 hne
    · exact e2
   have hy:y ∈ l:=by
    have:=(e y).2 (by simp)
    rcases List.mem_cons.1 this with e2 | e2
    · exact absurd e2.symm hne
    · exact e2
   have a1:=h2'.1 x hx
   have a2:=h1'.1 y hy
   have a3:=h.anti x y
   omega
  subst hxy
  refine congrArg (x :: ·) (Tot.ext h h1'.2 h2'.2 fun z=>⟨fun hz=>?_,fun hz=>?_⟩)
  · have:=(e z).1 (by simp [hz])
    rcases List.mem_cons.1 this with rfl | e2
    · have:=h1'.1 z hz;rw [h.self] at this;omega
    · exact e2
  · have:=(e z).2 (by simp [hz])
    rcases List.mem_cons.1 this with rfl | e2
    · have:=h2'.1 z hz;rw [h.self] at this;omega
    · exact e2
theorem Tot.nodup (h:Tot c) {l:List α} (hl:Asc c l):l.Nodup:=hl.imp fun {a b} hab e=>by subst e;rw [h.self] at hab;omega
def apa (c:α → α → Int) (l:List α):List α:=l.mergeSort fun x y=>!(ltOf c) y x
theorem Tot.srt (h:Tot c) (l:List α):(apa c l).Pairwise fun a b=>¬ c b a < 0:=by
 have:=List.pairwise_mergeSort (le:=fun x y:α=>!(ltOf c) y x) (fun a b d h1 h2=>by
  simp only [Bool.not_eq_true'] at *
  exact h.swo.ntrans _ _ _ h2 h1) (fun a b=>by
  simp only [Bool.or_eq_true,Bool.not_eq_true',ltOf,decide_eq_false_iff_not]
  have:=h.anti a b
  omega) l
 refine this.imp fun {a b} hab=>?_
 simpa [ltOf] using hab
end
end Go.Hx
end
section
namespace Go.Hx
theorem apk {P:Nat → Prop} (h0:P 0) (h1:P 1) (h2:P 2):∀ j,j < 3 → P j:=fun j hj=>by
 rcases (by omega:j = 0 ∨ j = 1 ∨ j = 2) with rfl | rfl | rfl <;> assumption
structure CpJ (l:List Val) (k p q:Nat) (m:List Val):Prop where
 len:m.length = l.length
 kq:k < q
 pq:p < q
 ql:q ≤ l.length
 pre:m.take p = lj (l.take q)
 high:∀ j,q - 1 ≤ j → m.getD j default = l.getD j default
theorem CpJ.start {l:List Val} {k:Nat} (h1:1 ≤ k) (hk:k < l.length) (h:∀ j,0 < j → j < k → ¬ l.getD j default = l.getD (j - 1) default) (hd:l.getD k default = l.getD (k - 1) default):CpJ l k k (k + 1) l :=
 ⟨rfl,by omega,by omega,by omega,by rw [fy (by omega) hk,if_pos hd.symm,List.append_nil,qu (by omega) h],fun _ _=>rfl⟩
theorem CpJ.skip {l:List Val} {k p q:Nat} {m:List Val} (h:CpJ l k p q m) (hq:q < l.length) (he:m.getD q default = m.getD (q - 1) default):CpJ l k p (q + 1) m:=by
 have hk:=h.kq
 refine ⟨h.len,by omega,by have:=h.pq;omega,hq, ?_,fun j hj=>h.high j (by omega)⟩
 rw [h.high q (by omega),h.high (q - 1) (by omega)] at he
 rw [fy (by omega) hq,if_pos he.symm,List.append_nil,h.pre]
theorem CpJ.keep {l:List Val} {k p q:Nat} {m:List Val} (h:CpJ l k p q m) (hq:q < l.length) (he:¬ m.getD q default = m.getD (q - 1) default):CpJ l k (p + 1) (q + 1) (m.set p (m.getD q default)):=by
 have hk:=h.kq
 have hp:=h.pq
 have hl:=h.len
 refine ⟨by simp [hl],by omega,by omega,hq, ?_,fun j hj=>by rw [getD_set_ne' (by omega)];exact h.high j (by omega)⟩
 have e:=h.high q (by omega)
 rw [e,h.high (q - 1) (by omega)] at he
 rw [fy (by omega) hq,if_neg (fun e=>he e.symm),← h.pre,bc (by simp [hl];omega),jf (by omega),e]
 congr 1
 rw [List.take_set,List.set_eq_of_length_le (by simp;omega)]
end Go.Hx
end
section
namespace Go.Hx
def asm (R:List Row) (a:Nat):List Val:=R.map fun r=>r.vals.getD a default
def agv (R:List Row) (a:Nat):List Val:=lj (apa n9 (asm R a))
def aj6 (R:List Row) (n:Nat):List (List Val):=(List.range n).map (agv R)
def atn (R:List Row) (n a:Nat):List (List Val):=(List.range n).map fun i=>if i < a then agv R i else []
def vlC (l:List Val):Nat → PV:=fun _=>vals l
abbrev att (l:List (List Val)):PV:=psl 1 vlC l
def abw (R:List Row) (s:AS) (k:Nat) (e:ByteArray):Bool:=R.any fun r=>decide (aio (r.vals.take k) s = e)
def aq8 (R:List Row) (s:AS) (k:Nat):MK → Option PV
 | .s b=>if abw R s k b = true then some (.raw (.bool true)) else none
 | .i _ _=>none
def mpC (N:Nat) (R:List Row) (s:AS) (k:Nat):PV:=mpP .str N (aq8 R s k)
def lvF (R:List Row) (s:AS):Nat → Nat → PV:=fun k _=>mpC R.length R s k
def lvC (R:List Row) (n:Nat) (s:AS):Nat → PV:=fun _=>.sl (n + 1) 1 false (lvF R s)
def lvT (R:List Row) (s:AS) (a:Nat):Nat → Nat → PV:=fun k _=>if k < a then mpC R.length R s k else .raw (.map none)
def ar0 (R:List Row) (vs:List Val) (m:Nat) (s:AS):Bool:=decide (1000 < m) || !abw R s vs.length (aio vs s)
def ajf (R:List Row) (ps:List AS) (vs:List Val) (m:Nat):Bool:=ps.any (ar0 R vs m)
def ahq (R:List Row) (ps:List AS) (cols:List (List Val)):Nat → List Val → List (List Val) → List (List Val)
 | 0,vs,acc=>if ajf R ps vs acc.length = true then acc else acc ++ [vs]
 | d + 1,vs,acc=>if ajf R ps vs acc.length = true then acc else (cols.getD vs.length default).foldl (fun acc v=>ahq R ps cols d (vs ++ [v]) acc) acc
def aji (R:List Row) (ps:List AS) (n:Nat):List (List Val):=ahq R ps (aj6 R n) n [] []
def anu (l:List (List Val)):List Row:=(List.range l.length).map fun (i:Nat)=>⟨(i:Int) + 1,l.getD i []⟩
def ara (t:Tbl) (ps:List AS):Int :=
 if cg t ≠ 0 then cg t else if lvE t.attrs.length ps ≠ 0 then lvE t.attrs.length ps else if 1000 < (aji t.rows ps t.attrs.length).length then 3 else 0
def au0 (t:Tbl) (ps:List AS):Tbl:=if ara t ps = 0 then ⟨t.name,t.attrs,anu (aji t.rows ps t.attrs.length)⟩ else T0
def auu (R:List Row) (ps:List AS) (cols:List (List Val)) (d:Nat) (vs:List Val) (acc:List (List Val)) (i:Nat):List (List Val) :=
 ((cols.getD vs.length default).take i).foldl (fun acc v=>ahq R ps cols d (vs ++ [v]) acc) acc
end Go.Hx
end
section
namespace Go.Hx
open Go.RowKit
def ars (id n s:Nat) (F:Nat → Nat → PV):List HC → List HC → Prop
 | [],[]=>True
 | x :: xs,y :: ys=>(y = x ∨ (x = .one (.ref id n) ∧ y = .one (.p (.sl n s false F)))) ∧ ars id n s F xs ys
 | _,_=>False
def ato (i0:Nat) (h:HV) (g:Nat → Nat → PV):Nat → Nat → HV:=fun i j=>if i = i0 then h else .p (g i j)
end Go.Hx
end
section
namespace Go.Hx
open Go.Proofs
set_option maxRecDepth 100000
theorem xu:am Tryd.prog 63:=⟨Tryd.f63,Tryd.func63,by kernel_rfl,by kernel_rfl⟩
theorem a96 (a b:Int):ao Tryd.prog 63 [pI a,pI b] (ay [pI (sgn a b)]):=by
 refine ak (nt:=11) ai Tryd.func63 rfl rfl l9 ?_;refine sx7 ?_;refine qy ?_;refine a6 ?_;refine a7 ?_;refine sx7 ?_;(iterate 3 refine qy ?_);refine a6 ?_
 refine a8 _ rfl (fun r0=>?_) (fun r0=>?_)
 ·
  have h0:=of_decide_eq_true r0
  try simp only [ty] at h0
  refine sx7 ?_;refine qy ?_;refine a6 ?_
  exact hx8 rfl rfl rfl (⟨cci (by unfold sgn;rw [if_pos h0]),trivial⟩)
 ·
  have h0:=of_decide_eq_false r0
  try simp only [ty] at h0
  refine aa ?_;refine a7 ?_;refine sx7 ?_;(iterate 3 refine qy ?_);refine a6 ?_;refine a8 _ rfl (fun r1=>?_) (fun r1=>?_)
  ·
   have h1:=of_decide_eq_true r1
   try simp only [ty] at h1
   refine sx7 ?_;refine qy ?_;refine a6 ?_
   exact hx8 rfl rfl rfl (⟨cci (by unfold sgn;rw [if_neg h0,if_pos h1]),trivial⟩)
  ·
   have h1:=of_decide_eq_false r1
   try simp only [ty] at h1
   refine aa ?_;refine sx7 ?_;refine qy ?_;refine a6 ?_
   exact hx8 rfl rfl rfl (⟨cci (by unfold sgn;rw [if_neg h0,if_neg h1]),trivial⟩)
theorem amc:am Tryd.prog 71:=⟨Tryd.f71,Tryd.func71,by kernel_rfl,by kernel_rfl⟩
theorem ary (a b:ByteArray) (ha:a.size ≤ 68719476736) (hb:b.size ≤ 68719476736):ao Tryd.prog 71 [pS a,pS b] (ay [pI (tw a b)]):=by
 refine ak (nt:=39) ai Tryd.func71 rfl rfl l9 ?_;refine sx7 ?_;refine qy ?_;refine a6 ?_
 refine dx (ι:=Unit) ⟨[(0,some _),(1,some _)],[]⟩ ⟨⟨c9,c9,trivial⟩,trivial⟩ (fun _i=>⟨[],[]⟩) (fun _i=>tw a b = sgn a.size b.size) ?_ ?_
 ·
  refine sx7 ?_;refine qy ?_;refine a6 ?_;refine ah ?_
  refine b4 (ι:=Nat) ⟨[(0,some _),(1,some _)],[]⟩ ⟨⟨c9,c9,trivial⟩,trivial⟩ (fun i=>⟨[(5,some (vI i))],[]⟩) (fun i=>i ≤ a.size ∧ i ≤ b.size ∧ kc ((bl a).drop i) ((bl b).drop i) = tw a b) (fun i=>a.size - i) (0) (⟨Nat.zero_le _,Nat.zero_le _,rfl⟩) ⟨⟨zy,trivial⟩,trivial⟩ ?_
  rintro i ⟨hi1,hi2,hc⟩
  refine a7 ?_;refine sx7 ?_;(iterate 5 refine qy ?_);refine c4 rfl rfl (fun r0=>?_) (fun r0=>?_)
  ·
   have h0:=of_decide_eq_true r0
   try simp only [ty] at h0
   (iterate 4 refine qy ?_ (hg:=(gtt r0)));refine qy ?_;refine a6 ?_;refine a8 _ rfl (fun r1=>?_) (fun r1=>?_)
   ·
    have h1:=r1
    have h1:=dg r0 h1
    have h1:=of_decide_eq_true h1
    try simp only [ty] at h1
    refine aa ?_;refine a7 ?_;refine ah ?_;refine a7 ?_;refine cw (E:=d6) ai bw [0,1,2,3,4,5,6] ?_;(iterate 7 refine qy ?_);refine a6 ?_;refine ⟨by kernel_rfl, ?_⟩
    refine a8 _ rfl (fun r2=>?_) (fun r2=>?_)
    ·
     have h2:=r2
     have h2:=of_decide_eq_false (bn h2)
     try simp only [ty] at h2
     refine a7 ?_;refine cw (E:=d6) ai bw [0,1,2,3,4,5,6,7,8,9] ?_;(iterate 8 refine qy ?_);refine rc rfl rfl rfl rfl rfl rfl xu (a96 _ _) (CoL.refl _) rfl rfl ?_;refine qy ?_
     refine a6 ?_;refine ⟨by kernel_rfl, ?_⟩
     exact hx8 rfl rfl rfl (⟨cci (by rw [← hc,a6j i _ _ (by rw [fm];omega) (by rw [fm];omega) (fun e=>h2 ((a2p _ _ _ _).2 e))];rfl),trivial⟩)
    ·
     have h2:=r2
     have h2:=of_decide_eq_true (bm h2)
     try simp only [ty] at h2
     refine aa ?_;refine gy ?_;(iterate 3 refine qy ?_);refine a6 ?_;refine ⟨i + 1, ?_, ?_, ?_⟩
     · exact ⟨by omega,by omega,by rw [← hc];exact (a6h i _ _ (by rw [fm];omega) (by rw [fm];omega) ((a2p _ _ _ _).1 h2)).symm⟩
     · first | omega | (dsimp only;omega)
     · exact ⟨⟨zy,c9,c9,trivial⟩,trivial⟩
   ·
    have h1:=r1
    have h1:=dg r0 h1
    have h1:=of_decide_eq_false h1
    try simp only [ty] at h1
    refine az ?_;refine ⟨(), ?_, ?_⟩
    · rw [← hc,← fm,← fm];exact a1v i _ _ (by rw [fm];omega) (by rw [fm];omega) (by rw [fm,fm];omega)
    · exact ⟨⟨c9,c9,trivial⟩,trivial⟩
  ·
   have h0:=of_decide_eq_false r0
   try simp only [ty] at h0
   (iterate 4 refine k9 (gft r0) ?_);refine rq rfl rfl rfl rfl rfl ?_ (hp:=r0);refine a6 ?_;refine a8 _ rfl (fun e=>by cases e) (fun _=>?_);refine az ?_;refine ⟨(), ?_, ?_⟩
   · rw [← hc,← fm,← fm];exact a1v i _ _ (by rw [fm];omega) (by rw [fm];omega) (by rw [fm,fm];omega)
   · exact ⟨⟨c9,c9,trivial⟩,trivial⟩
 · rintro _ hj
   refine sx7 ?_;(iterate 4 refine qy ?_);refine rc rfl rfl rfl rfl rfl rfl xu (a96 _ _) (CoL.refl _) rfl rfl ?_;refine qy ?_;refine a6 ?_
   exact hx8 rfl rfl rfl (⟨cci hj.symm,trivial⟩)
theorem ao5:am Tryd.prog 62:=⟨Tryd.f62,Tryd.func62,by kernel_rfl,by kernel_rfl⟩
theorem asy (a b:Val) (ha:a.str.size ≤ 68719476736) (hb:b.str.size ≤ 68719476736):ao Tryd.prog 62 [a.pc,b.pc] (ay [pI (n9 a b)]):=by
 refine ak (nt:=28) ai Tryd.func62 rfl rfl l9 ?_;refine sx7 ?_;refine m9 0 ?_;refine m9 1 ?_;refine qy ?_;refine a6 ?_;refine a7 ?_;refine sx7 ?_;(iterate 4 refine qy ?_)
 refine rc rfl rfl rfl rfl rfl rfl xu (a96 _ _) (CoL.refl _) rfl rfl ?_;refine qy ?_;refine a6 ?_;refine sx7 ?_;(iterate 2 refine qy ?_);refine a6 ?_;refine a8 _ rfl (fun r0=>?_) (fun r0=>?_)
 ·
  have h0:=r0
  have h0:=of_decide_eq_false (bn h0)
  try simp only [ty] at h0
  refine sx7 ?_;(iterate 2 refine qy ?_);refine a6 ?_
  exact hx8 rfl rfl rfl (⟨cci (by unfold n9;rw [if_pos h0]),trivial⟩)
 ·
  have h0:=r0
  have h0:=of_decide_eq_true (bm h0)
  try simp only [ty] at h0
  refine aa ?_;refine a7 ?_;refine sx7 ?_;(iterate 4 refine qy ?_);refine rc rfl rfl rfl rfl rfl rfl xu (a96 _ _) (CoL.refl _) rfl rfl ?_;refine qy ?_;refine a6 ?_;refine sx7 ?_;(iterate 2 refine qy ?_)
  refine a6 ?_;refine a8 _ rfl (fun r1=>?_) (fun r1=>?_)
  ·
   have h1:=r1
   have h1:=of_decide_eq_false (bn h1)
   try simp only [ty] at h1
   refine sx7 ?_;(iterate 2 refine qy ?_);refine a6 ?_
   exact hx8 rfl rfl rfl (⟨cci (by unfold n9;rw [if_neg (by omega),if_pos h1]),trivial⟩)
  ·
   have h1:=r1
   have h1:=of_decide_eq_true (bm h1)
   try simp only [ty] at h1
   refine aa ?_;refine sx7 ?_;(iterate 4 refine qy ?_);refine rc rfl rfl rfl rfl rfl rfl amc (ary a.str b.str ha hb) (CoL.refl _) rfl rfl ?_;refine qy ?_;refine a6 ?_
   exact hx8 rfl rfl rfl (⟨cci (by unfold n9;rw [if_neg (by omega),if_neg (by omega)]),trivial⟩)
end Go.Hx
end
section
namespace Go.Hx
open Go.Proofs
set_option maxRecDepth 100000
set_option maxHeartbeats 1000000
theorem apb:am Tryd.prog 45:=⟨Tryd.f45,Tryd.func45,by kernel_rfl,by kernel_rfl⟩
theorem arv (a b:List Val) (ha:kz a) (hb:kz b):ao Tryd.prog 45 [pP (vals a),pP (vals b)] (ay [pI (fq a b)]):=by
 refine ak (nt:=36) ai Tryd.func45 rfl rfl l9 ?_;refine l4 0 rfl (fun hn=>?_);refine sx7 ?_;refine qy ?_;refine a6 ?_
 refine dx (ι:=Unit) ⟨[(0,some _),(1,some _)],[]⟩ ⟨⟨c9,c9,trivial⟩,trivial⟩ (fun _i=>⟨[],[]⟩) (fun _i=>fq a b = sgn a.length b.length) ?_ ?_
 ·
  refine sx7 ?_;refine qy ?_;refine a6 ?_;refine ah ?_
  refine b4 (ι:=Nat) ⟨[(0,some _),(1,some _)],[]⟩ ⟨⟨c9,c9,trivial⟩,trivial⟩ (fun i=>⟨[(5,some (vI i))],[]⟩) (fun i=>i ≤ a.length ∧ i ≤ b.length ∧ fq (a.drop i) (b.drop i) = fq a b) (fun i=>a.length - i) (0) (⟨Nat.zero_le _,Nat.zero_le _,rfl⟩) ⟨⟨zy,trivial⟩,trivial⟩ ?_
  rintro i ⟨hi1,hi2,hc⟩
  refine a7 ?_;refine sx7 ?_;(iterate 5 refine qy ?_);refine c4 rfl rfl (fun r0=>?_) (fun r0=>?_)
  ·
   have h0:=of_decide_eq_true r0
   try simp only [ty] at h0
   (iterate 4 refine qy ?_ (hg:=(gtt r0)));refine qy ?_;refine a6 ?_;refine a8 _ rfl (fun r1=>?_) (fun r1=>?_)
   ·
    have h1:=r1
    have h1:=dg r0 h1
    have h1:=of_decide_eq_true h1
    try simp only [ty] at h1
    refine aa ?_;refine a7 ?_;refine ah ?_;refine a7 ?_;refine cw (E:=d6) ai bw [0,1,2,3,4,5,6,7,8,9] ?_;(iterate 8 refine qy ?_)
    refine rc rfl rfl rfl rfl rfl rfl ao5 (asy _ _ (ha i (by omega)) (hb i (by omega))) (CoL.refl _) rfl rfl ?_;refine qy ?_;refine a6 ?_;refine ⟨by kernel_rfl, ?_⟩;refine sx7 ?_;(iterate 2 refine qy ?_)
    refine a6 ?_;refine a8 _ rfl (fun r2=>?_) (fun r2=>?_)
    ·
     have h2:=r2
     have h2:=of_decide_eq_false (bn h2)
     try simp only [ty] at h2
     refine sx7 ?_;(iterate 2 refine qy ?_);refine a6 ?_
     exact hx8 rfl rfl rfl (⟨cci (by rw [← hc];exact (a3s i _ _ (by omega) (by omega) h2).symm),trivial⟩)
    ·
     have h2:=r2
     have h2:=of_decide_eq_true (bm h2)
     try simp only [ty] at h2
     refine aa ?_;refine gy ?_;(iterate 3 refine qy ?_);refine a6 ?_;refine ⟨i + 1, ?_, ?_, ?_⟩
     · exact ⟨by omega,by omega,by rw [← hc];exact (a36 i _ _ (by omega) (by omega) h2).symm⟩
     · first | omega | (dsimp only;omega)
     · exact ⟨⟨zy,c9,c9,trivial⟩,trivial⟩
   ·
    have h1:=r1
    have h1:=dg r0 h1
    have h1:=of_decide_eq_false h1
    try simp only [ty] at h1
    refine az ?_;refine ⟨(), ?_, ?_⟩
    · rw [← hc];exact yr i _ _ (by omega) (by omega) (by omega)
    · exact ⟨⟨c9,c9,trivial⟩,trivial⟩
  ·
   have h0:=of_decide_eq_false r0
   try simp only [ty] at h0
   (iterate 4 refine k9 (gft r0) ?_);refine rq rfl rfl rfl rfl rfl ?_ (hp:=r0);refine a6 ?_;refine a8 _ rfl (fun e=>by cases e) (fun _=>?_);refine az ?_;refine ⟨(), ?_, ?_⟩
   · rw [← hc];exact yr i _ _ (by omega) (by omega) (by omega)
   · exact ⟨⟨c9,c9,trivial⟩,trivial⟩
 · rintro _ hj
   refine sx7 ?_;(iterate 4 refine qy ?_);refine rc rfl rfl rfl rfl rfl rfl xu (a96 _ _) (CoL.refl _) rfl rfl ?_;refine qy ?_;refine a6 ?_
   exact hx8 rfl rfl rfl (⟨cci hj.symm,trivial⟩)
theorem agd:am Tryd.prog 29:=⟨Tryd.f29,Tryd.func29,by kernel_rfl,by kernel_rfl⟩
theorem c81 (a b:List Val) (ha:kz a) (hb:kz b):ao Tryd.prog 29 [pP (vals a),pP (vals b)] (ay [pB (decide (a = b))]):=by
 refine ak (nt:=9) ai Tryd.func29 rfl rfl l9 ?_;refine sx7 ?_;refine qy ?_;refine a6 ?_;refine sx7 ?_;(iterate 2 refine qy ?_);refine rc rfl rfl rfl rfl rfl rfl apb (arv a b ha hb) (CoL.refl _) rfl rfl ?_
 (iterate 2 refine qy ?_);refine a6 ?_
 exact hx8 rfl rfl rfl (⟨ccb (decide_eq_decide.2 a3y),trivial⟩)
theorem apj:am Tryd.prog 48:=⟨Tryd.f48,Tryd.func48,by kernel_rfl,by kernel_rfl⟩
theorem c86 (v:Val):ao Tryd.prog 48 [v.pc] (ay [pB (db v)]):=by
 refine ak (nt:=44) ai Tryd.func48 rfl rfl l9 ?_;refine sx7 ?_;refine m9 0 ?_;refine qy ?_;refine a6 ?_;refine a7 ?_;refine sx7 ?_;(iterate 2 refine qy ?_);refine a6 ?_;refine ah ?_
 refine sx7 ?_;(iterate 2 refine qy ?_);refine a6 ?_;refine a8 _ rfl (fun r0=>?_) (fun r0=>?_)
 ·
  have h0:=of_decide_eq_true r0
  try simp only [ty] at h0
  refine sx7 ?_;(iterate 4 refine qy ?_);refine c4 rfl rfl (fun r1=>?_) (fun r1=>?_)
  ·
   have h1:=of_decide_eq_true r1
   try simp only [ty] at h1
   (iterate 3 refine qy ?_ (hg:=(gtt r1)));(iterate 2 refine qy ?_);refine a6 ?_
   exact hx8 rfl rfl rfl (⟨ccb (by simp [db, *] <;> omega),trivial⟩)
  ·
   have h1:=of_decide_eq_false r1
   try simp only [ty] at h1
   (iterate 3 refine k9 (gft r1) ?_);refine rq rfl rfl rfl rfl rfl ?_ (hp:=r1);refine qy ?_;refine a6 ?_
   exact hx8 rfl rfl rfl (⟨ccb (by simp [db, *] <;> omega),trivial⟩)
 ·
  have h0:=of_decide_eq_false r0
  try simp only [ty] at h0
  refine sx7 ?_;(iterate 2 refine qy ?_);refine a6 ?_;refine a8 _ rfl (fun r2=>?_) (fun r2=>?_)
  ·
   have h2:=of_decide_eq_true r2
   try simp only [ty] at h2
   refine sx7 ?_;(iterate 4 refine qy ?_);refine a6 ?_
   exact hx8 rfl rfl rfl (⟨ccb (by simp [db, *] <;> omega),trivial⟩)
  ·
   have h2:=of_decide_eq_false r2
   try simp only [ty] at h2
   refine sx7 ?_;(iterate 2 refine qy ?_);refine a6 ?_;refine a8 _ rfl (fun r3=>?_) (fun r3=>?_)
   ·
    have h3:=of_decide_eq_true r3
    try simp only [ty] at h3
    refine sx7 ?_;(iterate 4 refine qy ?_);refine c4 rfl rfl (fun r4=>?_) (fun r4=>?_)
    ·
     have h4:=of_decide_eq_true r4
     try simp only [ty] at h4
     (iterate 4 refine qy ?_ (hg:=(gtt r4)));(iterate 2 refine qy ?_);refine a6 ?_
     exact hx8 rfl rfl rfl (⟨ccb (by simp [db, *] <;> omega),trivial⟩)
    ·
     have h4:=of_decide_eq_false r4
     try simp only [ty] at h4
     (iterate 4 refine k9 (gft r4) ?_);refine rq rfl rfl rfl rfl rfl ?_ (hp:=r4);refine qy ?_;refine a6 ?_
     exact hx8 rfl rfl rfl (⟨ccb (by simp [db, *] <;> omega),trivial⟩)
   ·
    have h3:=of_decide_eq_false r3
    try simp only [ty] at h3
    refine aa ?_;refine sx7 ?_;(iterate 4 refine qy ?_);refine c4 rfl rfl (fun r5=>?_) (fun r5=>?_)
    ·
     have h5:=of_decide_eq_true r5
     try simp only [ty] at h5
     (iterate 3 refine qy ?_ (hg:=(gtt r5)));(iterate 2 refine qy ?_);refine c4 rfl rfl (fun r6=>?_) (fun r6=>?_)
     ·
      have h6:=r6
      have h6:=dg r5 h6
      have h6:=of_decide_eq_true h6
      try simp only [ty] at h6
      (iterate 3 refine qy ?_ (hg:=(gtt r6)));(iterate 2 refine qy ?_);refine a6 ?_
      exact hx8 rfl rfl rfl (⟨ccb (by simp [db, *] <;> omega),trivial⟩)
     ·
      have h6:=r6
      have h6:=dg r5 h6
      have h6:=of_decide_eq_false h6
      try simp only [ty] at h6
      (iterate 3 refine k9 (gft r6) ?_);refine rq rfl rfl rfl rfl rfl ?_ (hp:=r6);refine qy ?_;refine a6 ?_
      exact hx8 rfl rfl rfl (⟨ccb (by simp [db, *] <;> omega),trivial⟩)
    ·
     have h5:=of_decide_eq_false r5
     try simp only [ty] at h5
     (iterate 3 refine k9 (gft r5) ?_);refine rq rfl rfl rfl rfl rfl ?_ (hp:=r5);refine qy ?_;(iterate 3 refine k9 rfl ?_);(iterate 2 refine qy ?_);refine a6 ?_
     exact hx8 rfl rfl rfl (⟨ccb (by simp [db, *] <;> omega),trivial⟩)
theorem apr:am Tryd.prog 32:=⟨Tryd.f32,Tryd.func32,by kernel_rfl,by kernel_rfl⟩
theorem c83 (l:List Val):ao Tryd.prog 32 [pP (vals l)] (ay [pB (l.all db)]):=by
 refine ak (nt:=16) ai Tryd.func32 rfl rfl l9 ?_;refine l4 0 rfl (fun hn=>?_);refine sx7 ?_;refine qy ?_;refine a6 ?_
 refine dx (ι:=Unit) ⟨[],[]⟩ ⟨trivial,trivial⟩ (fun _i=>⟨[],[]⟩) (fun _i=>l.all db = true) ?_ ?_
 ·
  refine sx7 ?_;refine qy ?_;refine a6 ?_;refine ah ?_
  refine b4 (ι:=Nat) ⟨[(0,some _)],[]⟩ ⟨⟨c9,trivial⟩,trivial⟩ (fun i=>⟨[(3,some (vI i))],[]⟩) (fun i=>i ≤ l.length ∧ ∀ j,j < i → db (l.getD j default) = true) (fun i=>l.length - i) (0) (⟨Nat.zero_le _,en⟩) ⟨⟨zy,trivial⟩,trivial⟩ ?_
  rintro i ⟨hi,hI⟩
  refine a7 ?_;refine sx7 ?_;(iterate 4 refine qy ?_);refine a6 ?_;refine a8 _ rfl (fun r0=>?_) (fun r0=>?_)
  ·
   have h0:=of_decide_eq_true r0
   try simp only [ty] at h0
   refine aa ?_;refine a7 ?_;refine ah ?_;refine sx7 ?_;(iterate 4 refine qy ?_);refine rc rfl rfl rfl rfl rfl rfl apj (c86 _) (CoL.refl _) rfl rfl ?_;refine qy ?_;refine a6 ?_
   refine a8 _ rfl (fun r1=>?_) (fun r1=>?_)
   ·
    have h1:=r1
    have h1:=bn h1
    refine sx7 ?_;refine qy ?_;refine a6 ?_
    exact hx8 rfl rfl rfl (⟨ccb (ac4 (by omega) h1).symm,trivial⟩)
   ·
    have h1:=r1
    have h1:=bm h1
    refine aa ?_;refine gy ?_;(iterate 3 refine qy ?_);refine a6 ?_;refine ⟨i + 1, ?_, ?_, ?_⟩
    · exact ⟨by omega,d9 hI (h1)⟩
    · first | omega | (dsimp only;omega)
    · exact ⟨⟨zy,c9,trivial⟩,trivial⟩
  ·
   have h0:=of_decide_eq_false r0
   try simp only [ty] at h0
   refine az ?_;refine ⟨(), ?_, ?_⟩
   · exact ads fun j hj=>hI j (by omega)
   · exact ⟨trivial,trivial⟩
 · rintro _ hj
   refine sx7 ?_;refine qy ?_;refine a6 ?_
   exact hx8 rfl rfl rfl (⟨ccb hj.symm,trivial⟩)
end Go.Hx
end
section
namespace Go.Hx
open Go.Proofs
set_option maxRecDepth 100000
set_option maxHeartbeats 1000000
theorem afc:am Tryd.prog 46:=⟨Tryd.f46,Tryd.func46,by kernel_rfl,by kernel_rfl⟩
theorem anv (c:Int):ao Tryd.prog 46 [pU8 c] (ay [pB (ltr c)]):=by
 refine ak (nt:=21) ai Tryd.func46 rfl rfl l9 ?_;refine sx7 ?_;refine qy ?_;refine a6 ?_;refine sx7 ?_;(iterate 3 refine qy ?_);refine c4 rfl rfl (fun r0=>?_) (fun r0=>?_)
 ·
  have h0:=of_decide_eq_true r0
  try simp only [ty] at h0
  (iterate 2 refine qy ?_ (hg:=(gtt r0)));(iterate 2 refine qy ?_);refine c4 rfl rfl (fun r1=>?_) (fun r1=>?_)
  ·
   have h1:=r1
   have h1:=dg r0 h1
   have h1:=of_decide_eq_true h1
   try simp only [ty] at h1
   (iterate 3 refine k9 (gtf r1) ?_);(iterate 2 refine k9 rfl ?_);refine k9 (gtf r1) ?_;refine rq rfl rfl rfl rfl rfl ?_ (hp:=r1);refine qy ?_;(iterate 2 refine k9 rfl ?_);(iterate 2 refine qy ?_);refine a6 ?_
   exact hx8 rfl rfl rfl (⟨ccb (by simp [ltr, *]),trivial⟩)
  ·
   have h1:=r1
   have h1:=dg r0 h1
   have h1:=of_decide_eq_false h1
   try simp only [ty] at h1
   (iterate 3 refine qy ?_ (hg:=(gff r1)));refine c4 rfl rfl (fun r2=>?_) (fun r2=>?_)
   ·
    have h2:=of_decide_eq_true r2
    try simp only [ty] at h2
    (iterate 2 refine qy ?_ (hg:=(gtt r2)));refine qy ?_ (hg:=(gff r1));(iterate 2 refine qy ?_);refine c4 rfl rfl (fun r3=>?_) (fun r3=>?_)
    ·
     have h3:=r3
     have h3:=fk r1 h3
     have h3:=dg r2 h3
     have h3:=of_decide_eq_true h3
     try simp only [ty] at h3
     (iterate 2 refine k9 (gtf r3) ?_);refine rq rfl rfl rfl rfl rfl ?_ (hp:=r3);refine qy ?_;refine a6 ?_
     exact hx8 rfl rfl rfl (⟨ccb (by simp [ltr, *]),trivial⟩)
    ·
     have h3:=r3
     have h3:=fk r1 h3
     have h3:=dg r2 h3
     have h3:=of_decide_eq_false h3
     try simp only [ty] at h3
     (iterate 2 refine qy ?_ (hg:=(gff r3)));(iterate 2 refine qy ?_);refine a6 ?_
     exact hx8 rfl rfl rfl (⟨ccb (by simp [ltr, *]),trivial⟩)
   ·
    have h2:=of_decide_eq_false r2
    try simp only [ty] at h2
    (iterate 2 refine k9 (gft r2) ?_);refine rq rfl rfl rfl rfl (gff r1) ?_ (hp:=r2);(iterate 2 refine qy ?_);(iterate 2 refine rq rfl rfl rfl rfl (gff (aes r1 rfl)) ?_);(iterate 2 refine qy ?_);refine a6 ?_
    exact hx8 rfl rfl rfl (⟨ccb (by simp [ltr, *]),trivial⟩)
 ·
  have h0:=of_decide_eq_false r0
  try simp only [ty] at h0
  (iterate 2 refine k9 (gft r0) ?_);refine rq rfl rfl rfl rfl rfl ?_ (hp:=r0);(iterate 4 refine qy ?_);refine c4 rfl rfl (fun r4=>?_) (fun r4=>?_)
  ·
   have h4:=of_decide_eq_true r4
   try simp only [ty] at h4
   (iterate 2 refine qy ?_ (hg:=(gtt r4)));(iterate 3 refine qy ?_);refine c4 rfl rfl (fun r5=>?_) (fun r5=>?_)
   ·
    have h5:=r5
    have h5:=dg r4 h5
    have h5:=of_decide_eq_true h5
    try simp only [ty] at h5
    (iterate 2 refine k9 (gtf r5) ?_);refine rq rfl rfl rfl rfl rfl ?_ (hp:=r5);refine qy ?_;refine a6 ?_
    exact hx8 rfl rfl rfl (⟨ccb (by simp [ltr, *]),trivial⟩)
   ·
    have h5:=r5
    have h5:=dg r4 h5
    have h5:=of_decide_eq_false h5
    try simp only [ty] at h5
    (iterate 2 refine qy ?_ (hg:=(gff r5)));(iterate 2 refine qy ?_);refine a6 ?_
    exact hx8 rfl rfl rfl (⟨ccb (by simp [ltr, *]),trivial⟩)
  ·
   have h4:=of_decide_eq_false r4
   try simp only [ty] at h4
   (iterate 2 refine k9 (gft r4) ?_);refine rq rfl rfl rfl rfl rfl ?_ (hp:=r4);(iterate 2 refine qy ?_);(iterate 2 refine rq rfl rfl rfl rfl (gff (aes rfl rfl)) ?_);(iterate 2 refine qy ?_);refine a6 ?_
   exact hx8 rfl rfl rfl (⟨ccb (by simp [ltr, *]),trivial⟩)
theorem aei:am Tryd.prog 30:=⟨Tryd.f30,Tryd.func30,by kernel_rfl,by kernel_rfl⟩
theorem ap7 (s:ByteArray):ao Tryd.prog 30 [pS s] (ay [pB (fu s)]):=by
 refine ak (nt:=45) ai Tryd.func30 rfl rfl l9 ?_;refine sx7 ?_;refine qy ?_;refine a6 ?_;refine a7 ?_;refine sx7 ?_;(iterate 4 refine qy ?_);refine c4 rfl rfl (fun r0=>?_) (fun r0=>?_)
 ·
  have h0:=of_decide_eq_true r0
  try simp only [ty] at h0
  (iterate 3 refine k9 (gtf r0) ?_);refine rq rfl rfl rfl rfl rfl ?_ (hp:=r0);refine qy ?_;(iterate 4 refine k9 rfl ?_);(iterate 2 refine qy ?_);(iterate 2 refine k9 rfl ?_);refine qy ?_;refine a6 ?_
  refine a8 _ rfl (fun _=>?_) (fun e=>by cases e);refine sx7 ?_;refine qy ?_;refine a6 ?_
  exact hx8 rfl rfl rfl (⟨ccb (by first | exact (zc (by omega)).symm | exact (w5 (by omega)).symm | exact (vv (by assumption)).symm | exact (ru (by assumption)).symm),trivial⟩)
 ·
  have h0:=of_decide_eq_false r0
  try simp only [ty] at h0
  (iterate 3 refine qy ?_ (hg:=(gff r0)));(iterate 2 refine qy ?_);refine c4 rfl rfl (fun r1=>?_) (fun r1=>?_)
  ·
   have h1:=r1
   have h1:=fk r0 h1
   have h1:=of_decide_eq_true h1
   try simp only [ty] at h1
   (iterate 4 refine k9 (gtf r1) ?_);refine rq rfl rfl rfl rfl rfl ?_ (hp:=r1);refine qy ?_;(iterate 2 refine k9 rfl ?_);refine qy ?_;refine a6 ?_;refine a8 _ rfl (fun _=>?_) (fun e=>by cases e)
   refine sx7 ?_;refine qy ?_;refine a6 ?_
   exact hx8 rfl rfl rfl (⟨ccb (by first | exact (zc (by omega)).symm | exact (w5 (by omega)).symm | exact (vv (by assumption)).symm | exact (ru (by assumption)).symm),trivial⟩)
  ·
   have h1:=r1
   have h1:=fk r0 h1
   have h1:=of_decide_eq_false h1
   try simp only [ty] at h1
   (iterate 2 refine qy ?_ (hg:=(gff r1)));refine rc rfl rfl rfl rfl rfl rfl afc (anv _) (CoL.refl _) rfl (gff r1) ?_;refine qy ?_ (hg:=(gff r1));(iterate 2 refine qy ?_)
   refine c4 rfl rfl (fun r2=>?_) (fun r2=>?_)
   ·
    have h2:=r2
    have h2:=fk r1 h2
    have h2:=bn h2
    (iterate 2 refine k9 (gtf r2) ?_);refine rq rfl rfl rfl rfl rfl ?_ (hp:=r2);refine a6 ?_;refine a8 _ rfl (fun _=>?_) (fun e=>by cases e);refine sx7 ?_;refine qy ?_;refine a6 ?_
    exact hx8 rfl rfl rfl (⟨ccb (by first | exact (zc (by omega)).symm | exact (w5 (by omega)).symm | exact (vv (by assumption)).symm | exact (ru (by assumption)).symm),trivial⟩)
   ·
    have h2:=r2
    have h2:=fk r1 h2
    have h2:=bm h2
    (iterate 2 refine qy ?_ (hg:=(gff r2)));refine qy ?_;refine a6 ?_;refine a8 _ rfl (fun r3=>?_) (fun r3=>?_)
    ·
     have h3:=r3
     have h3:=fk r2 h3
     have h3:=of_decide_eq_true h3
     try simp only [ty] at h3
     refine sx7 ?_;refine qy ?_;refine a6 ?_
     exact hx8 rfl rfl rfl (⟨ccb (by first | exact (zc (by omega)).symm | exact (w5 (by omega)).symm | exact (vv (by assumption)).symm | exact (ru (by assumption)).symm),trivial⟩)
    ·
     have h3:=r3
     have h3:=fk r2 h3
     have h3:=of_decide_eq_false h3
     try simp only [ty] at h3
     refine aa ?_;refine dx (ι:=Unit) ⟨[],[]⟩ ⟨trivial,trivial⟩ (fun _i=>⟨[],[]⟩) (fun _i=>fu s = true) ?_ ?_
     ·
      refine sx7 ?_;refine qy ?_;refine a6 ?_;refine ah ?_
      refine b4 (ι:=Nat) ⟨[(0,some _)],[]⟩ ⟨⟨c9,trivial⟩,trivial⟩ (fun i=>⟨[(3,some (vI i))],[]⟩) (fun i=>i ≤ s.size ∧ ∀ j,j < i → (ltr (c8 s j) || dig (c8 s j)) = true) (fun i=>s.size - i) (0) (⟨Nat.zero_le _,en⟩) ⟨⟨zy,trivial⟩,trivial⟩ ?_
      rintro i ⟨hi,hI⟩
      refine a7 ?_;refine sx7 ?_;(iterate 4 refine qy ?_);refine a6 ?_;refine a8 _ rfl (fun r4=>?_) (fun r4=>?_)
      ·
       have h4:=of_decide_eq_true r4
       try simp only [ty] at h4
       refine aa ?_;refine a7 ?_;refine ah ?_;refine sx7 ?_;(iterate 3 refine qy ?_);refine rc rfl rfl rfl rfl rfl rfl afc (anv _) (CoL.refl _) rfl rfl ?_;(iterate 2 refine qy ?_)
       refine c4 rfl rfl (fun r5=>?_) (fun r5=>?_)
       ·
        have h5:=r5
        have h5:=bn h5
        (iterate 5 refine qy ?_ (hg:=(gtt r5)));refine c4 rfl rfl (fun r6=>?_) (fun r6=>?_)
        ·
         have h6:=of_decide_eq_true r6
         try simp only [ty] at h6
         (iterate 4 refine k9 (gtf r6) ?_);refine rq rfl rfl rfl rfl (gtt r5) ?_ (hp:=r6);refine qy ?_;refine a6 ?_;refine a8 _ rfl (fun _=>?_) (fun e=>Bool.noConfusion ((a43 r5 rfl).symm.trans e))
         refine sx7 ?_;refine qy ?_;refine a6 ?_
         exact hx8 rfl rfl rfl (⟨ccb (a5r (i:=i) (by omega) (by assumption) (by simp_all [dig] <;> omega)).symm,trivial⟩)
        ·
         have h6:=of_decide_eq_false r6
         try simp only [ty] at h6
         (iterate 4 refine qy ?_ (hg:=(gff r6)));refine qy ?_ (hg:=(gtt r5));refine qy ?_;refine a6 ?_;refine a8 _ rfl (fun r7=>?_) (fun r7=>?_)
         ·
          have h7:=r7
          have h7:=dg r5 h7
          have h7:=fk r6 h7
          have h7:=of_decide_eq_true h7
          try simp only [ty] at h7
          refine sx7 ?_;refine qy ?_;refine a6 ?_
          exact hx8 rfl rfl rfl (⟨ccb (a5r (i:=i) (by omega) (by assumption) (by simp_all [dig] <;> omega)).symm,trivial⟩)
         ·
          have h7:=r7
          have h7:=dg r5 h7
          have h7:=fk r6 h7
          have h7:=of_decide_eq_false h7
          try simp only [ty] at h7
          refine aa ?_;refine gy ?_;(iterate 3 refine qy ?_);refine a6 ?_;refine ⟨i + 1, ?_, ?_, ?_⟩
          · exact ⟨by omega,d9 hI (by simp_all [dig] <;> omega)⟩
          · first | omega | (dsimp only;omega)
          · exact ⟨⟨zy,c9,trivial⟩,trivial⟩
       ·
        have h5:=r5
        have h5:=bm h5
        (iterate 5 refine k9 (gft r5) ?_);(iterate 4 refine k9 rfl ?_);refine k9 (gft r5) ?_;refine rq rfl rfl rfl rfl rfl ?_ (hp:=r5);refine a6 ?_;refine a8 _ rfl (fun e=>by cases e) (fun _=>?_)
        refine aa ?_;refine gy ?_;(iterate 3 refine qy ?_);refine a6 ?_;refine ⟨i + 1, ?_, ?_, ?_⟩
        · exact ⟨by omega,d9 hI (by simp_all [dig] <;> omega)⟩
        · first | omega | (dsimp only;omega)
        · exact ⟨⟨zy,c9,trivial⟩,trivial⟩
      ·
       have h4:=of_decide_eq_false r4
       try simp only [ty] at h4
       refine az ?_;refine ⟨(), ?_, ?_⟩
       · exact apg (by omega) (by omega) (by assumption) (by assumption) (fun j hj=>hI j (by omega))
       · exact ⟨trivial,trivial⟩
     · rintro _ hj
       refine sx7 ?_;refine qy ?_;refine a6 ?_
       exact hx8 rfl rfl rfl (⟨ccb hj.symm,trivial⟩)
theorem ap8:am Tryd.prog 47:=⟨Tryd.f47,Tryd.func47,by kernel_rfl,by kernel_rfl⟩
theorem ass (l:List ByteArray) (s:ByteArray):ao Tryd.prog 47 [pP (a4x l),pS s] (ay [pI (a1w l s)]):=by
 refine ak (nt:=19) ai Tryd.func47 rfl rfl l9 ?_;refine l4 0 rfl (fun hn=>?_);refine sx7 ?_;refine qy ?_;refine a6 ?_
 refine dx (ι:=Unit) ⟨[],[]⟩ ⟨trivial,trivial⟩ (fun _i=>⟨[],[]⟩) (fun _i=>a1w l s = -1) ?_ ?_
 ·
  refine sx7 ?_;refine qy ?_;refine a6 ?_;refine ah ?_
  refine b4 (ι:=Nat) ⟨[(0,some _),(1,some _)],[]⟩ ⟨⟨c9,c9,trivial⟩,trivial⟩ (fun i=>⟨[(5,some (vI i))],[]⟩) (fun i=>i ≤ l.length ∧ ∀ j,j < i → decide (l.getD j default = s) = false) (fun i=>l.length - i) (0) (⟨Nat.zero_le _,en⟩) ⟨⟨zy,trivial⟩,trivial⟩ ?_
  rintro i ⟨hi,hI⟩
  refine a7 ?_;refine sx7 ?_;(iterate 4 refine qy ?_);refine a6 ?_;refine a8 _ rfl (fun r0=>?_) (fun r0=>?_)
  ·
   have h0:=of_decide_eq_true r0
   try simp only [ty] at h0
   refine aa ?_;refine a7 ?_;refine ah ?_;refine sx7 ?_;(iterate 6 refine qy ?_);refine a6 ?_;refine a8 _ rfl (fun r1=>?_) (fun r1=>?_)
   ·
    have h1:=of_decide_eq_true r1
    try simp only [ty] at h1
    refine sx7 ?_;(iterate 2 refine qy ?_);refine a6 ?_
    exact hx8 rfl rfl rfl (⟨cci (abm (p:=fun x=>decide (x = s)) (i:=i) (by omega) hI (decide_eq_true h1)).symm,trivial⟩)
   ·
    have h1:=of_decide_eq_false r1
    try simp only [ty] at h1
    refine aa ?_;refine gy ?_;(iterate 3 refine qy ?_);refine a6 ?_;refine ⟨i + 1, ?_, ?_, ?_⟩
    · exact ⟨by omega,d9 hI (decide_eq_false h1)⟩
    · first | omega | (dsimp only;omega)
    · exact ⟨⟨zy,c9,c9,trivial⟩,trivial⟩
  ·
   have h0:=of_decide_eq_false r0
   try simp only [ty] at h0
   refine az ?_;refine ⟨(), ?_, ?_⟩
   · exact ado (p:=fun x=>decide (x = s)) fun j hj=>hI j (by omega)
   · exact ⟨trivial,trivial⟩
 · rintro _ hj
   refine sx7 ?_;refine qy ?_;refine a6 ?_
   exact hx8 rfl rfl rfl (⟨cci hj.symm,trivial⟩)
theorem amu:am Tryd.prog 31:=⟨Tryd.f31,Tryd.func31,by kernel_rfl,by kernel_rfl⟩
theorem asx (l:List ByteArray):ao Tryd.prog 31 [pP (a4x l)] (ay [pB (oh l)]):=by
 refine ak (nt:=27) ai Tryd.func31 rfl rfl l9 ?_;refine l4 0 rfl (fun hn=>?_);refine sx7 ?_;refine qy ?_;refine a6 ?_
 refine dx (ι:=Unit) ⟨[],[]⟩ ⟨trivial,trivial⟩ (fun _i=>⟨[],[]⟩) (fun _i=>oh l = true) ?_ ?_
 ·
  refine sx7 ?_;refine qy ?_;refine a6 ?_;refine ah ?_
  refine b4 (ι:=Nat) ⟨[(0,some _)],[]⟩ ⟨⟨c9,trivial⟩,trivial⟩ (fun i=>⟨[(3,some (vI i))],[]⟩) (fun i=>i ≤ l.length ∧ ∀ j,j < i → nn l j = true) (fun i=>l.length - i) (0) (⟨Nat.zero_le _,en⟩) ⟨⟨zy,trivial⟩,trivial⟩ ?_
  rintro i ⟨hi,hI⟩
  refine a7 ?_;refine sx7 ?_;(iterate 4 refine qy ?_);refine a6 ?_;refine a8 _ rfl (fun r0=>?_) (fun r0=>?_)
  ·
   have h0:=of_decide_eq_true r0
   try simp only [ty] at h0
   refine aa ?_;refine a7 ?_;refine ah ?_;refine a7 ?_;refine cw (E:=d6) ai bw [0,1,2,3,4,5,6,7,8,9,10,11,12,13,14,15,16] ?_;(iterate 4 refine qy ?_)
   refine rc rfl rfl rfl rfl rfl rfl aei (ap7 _) (CoL.refl _) rfl rfl ?_;(iterate 2 refine qy ?_);refine c4 rfl rfl (fun r1=>?_) (fun r1=>?_)
   ·
    have h1:=r1
    have h1:=bn h1
    (iterate 9 refine k9 (gtf r1) ?_);refine rq rfl rfl rfl rfl rfl ?_ (hp:=r1);refine a6 ?_;refine ⟨by kernel_rfl, ?_⟩;refine a8 _ rfl (fun _=>?_) (fun e=>by cases e);refine sx7 ?_;refine qy ?_
    refine a6 ?_
    exact hx8 rfl rfl rfl (⟨ccb (i6 (i:=i) (by omega) (by first | (unfold nn;simp_all;done) | (unfold nn;rw [Bool.and_eq_false_iff];right;exact decide_eq_false (by omega)))).symm,trivial⟩)
   ·
    have h1:=r1
    have h1:=bm h1
    (iterate 7 refine qy ?_ (hg:=(gff r1)));refine rc rfl rfl rfl rfl rfl rfl ap8 (ass (l.take i) (l.getD i default)) (⟨CoC.one (al7 (k:=i) (by omega)),CoC.refl _,trivial⟩) rfl (gff r1) ?_
    refine qy ?_ (hg:=(gff r1));refine qy ?_;refine a6 ?_;refine ⟨by kernel_rfl, ?_⟩;refine a8 _ rfl (fun r2=>?_) (fun r2=>?_)
    ·
     have h2:=r2
     have h2:=fk r1 h2
     have h2:=of_decide_eq_true h2
     try simp only [ty] at h2
     refine sx7 ?_;refine qy ?_;refine a6 ?_
     exact hx8 rfl rfl rfl (⟨ccb (i6 (i:=i) (by omega) (by first | (unfold nn;simp_all;done) | (unfold nn;rw [Bool.and_eq_false_iff];right;exact decide_eq_false (by omega)))).symm,trivial⟩)
    ·
     have h2:=r2
     have h2:=fk r1 h2
     have h2:=of_decide_eq_false h2
     try simp only [ty] at h2
     refine aa ?_;refine gy ?_;(iterate 3 refine qy ?_);refine a6 ?_;refine ⟨i + 1, ?_, ?_, ?_⟩
     · exact ⟨by omega,d9 hI (by simp only [nn,Bool.and_eq_true,decide_eq_true_eq];exact ⟨by assumption,by omega⟩)⟩
     · first | omega | (dsimp only;omega)
     · exact ⟨⟨zy,c9,trivial⟩,trivial⟩
  ·
   have h0:=of_decide_eq_false r0
   try simp only [ty] at h0
   refine az ?_;refine ⟨(), ?_, ?_⟩
   · exact jg fun j hj=>hI j (by omega)
   · exact ⟨trivial,trivial⟩
 · rintro _ hj
   refine sx7 ?_;refine qy ?_;refine a6 ?_
   exact hx8 rfl rfl rfl (⟨ccb hj.symm,trivial⟩)
end Go.Hx
end
section
namespace Go.Hx
open Go.Proofs
set_option maxRecDepth 100000
abbrev vpL (ps:List PV):PV:=.vp ps.length fun j=>ps.getD j .any
theorem rE {n:Nat} {l:List Row} {i:Nat} {b e:Int} (hi:i < l.length) (h:dp n b (l.drop i) = e):(if (l.getD i default).id ≤ b then 1 else if (l.getD i default).vals.length ≠ n then 6 else if ((l.getD i default).vals.all db) = false then 1 else dp n (l.getD i default).id (l.drop (i + 1))) = e:=by rw [← a9l hi];exact h
theorem tE {t:Tbl} {e:Int} (h0:fu t.name = true) (h1:¬ 16 < t.attrs.length) (h2:¬ 1000 < t.rows.length) (h3:oh t.attrs = true) (h:dp t.attrs.length 0 t.rows = e):cg t = e:=by
 have:¬ (16 < t.attrs.length ∨ 1000 < t.rows.length):=by omega
 simp [cg,h0,h3,h,this]
theorem tE1 {t:Tbl} (h0:fu t.name = false):cg t = 1:=by simp [cg,h0]
theorem tE3 {t:Tbl} (h0:fu t.name = true) (h1:16 < t.attrs.length ∨ 1000 < t.rows.length):cg t = 3:=by simp [cg,h0,h1]
theorem tE2 {t:Tbl} (h0:fu t.name = true) (h1:¬ 16 < t.attrs.length) (h2:¬ 1000 < t.rows.length) (h3:oh t.attrs = false):cg t = 1:=by
 have:¬ (16 < t.attrs.length ∨ 1000 < t.rows.length):=by omega
 simp [cg,h0,h3,this]
theorem ag3:am Tryd.prog 18:=⟨Tryd.f18,Tryd.func18,by kernel_rfl,by kernel_rfl⟩
theorem c82 (t:Tbl):ao Tryd.prog 18 [t.pc] (ay [pI (cg t)]):=by
 refine ak (nt:=53) ai Tryd.func18 rfl rfl l9 ?_;refine sx7 ?_;refine m9 0 ?_;refine qy ?_;refine a6 ?_;refine a7 ?_;refine sx7 ?_;(iterate 2 refine qy ?_)
 refine rc rfl rfl rfl rfl rfl rfl aei (ap7 _) (CoL.refl _) rfl rfl ?_;refine qy ?_;refine a6 ?_;refine a8 _ rfl (fun r0=>?_) (fun r0=>?_)
 ·
  have h0:=r0
  have h0:=bn h0
  refine sx7 ?_;refine qy ?_;refine a6 ?_
  exact hx8 rfl rfl rfl (⟨cci (tE1 (by assumption)).symm,trivial⟩)
 ·
  have h0:=r0
  have h0:=bm h0
  refine aa ?_;refine a7 ?_;refine sx7 ?_;(iterate 5 refine qy ?_);refine c4 rfl rfl (fun r1=>?_) (fun r1=>?_)
  ·
   have h1:=of_decide_eq_true r1
   try simp only [ty] at h1
   (iterate 4 refine k9 (gtf r1) ?_);refine rq rfl rfl rfl rfl rfl ?_ (hp:=r1);refine a6 ?_;refine a8 _ rfl (fun _=>?_) (fun e=>by cases e);refine sx7 ?_;refine qy ?_;refine a6 ?_
   exact hx8 rfl rfl rfl (⟨cci (tE3 (by assumption) (by omega)).symm,trivial⟩)
  ·
   have h1:=of_decide_eq_false r1
   try simp only [ty] at h1
   (iterate 4 refine qy ?_ (hg:=(gff r1)));refine qy ?_;refine a6 ?_;refine a8 _ rfl (fun r2=>?_) (fun r2=>?_)
   ·
    have h2:=r2
    have h2:=fk r1 h2
    have h2:=of_decide_eq_true h2
    try simp only [ty] at h2
    refine sx7 ?_;refine qy ?_;refine a6 ?_
    exact hx8 rfl rfl rfl (⟨cci (tE3 (by assumption) (by omega)).symm,trivial⟩)
   ·
    have h2:=r2
    have h2:=fk r1 h2
    have h2:=of_decide_eq_false h2
    try simp only [ty] at h2
    refine aa ?_;refine a7 ?_;refine sx7 ?_;(iterate 2 refine qy ?_);refine rc rfl rfl rfl rfl rfl rfl amu (asx _) (CoL.refl _) rfl rfl ?_;refine qy ?_;refine a6 ?_
    refine a8 _ rfl (fun r3=>?_) (fun r3=>?_)
    ·
     have h3:=r3
     have h3:=bn h3
     refine sx7 ?_;refine qy ?_;refine a6 ?_
     exact hx8 rfl rfl rfl (⟨cci (tE2 (by assumption) (by omega) (by omega) (by assumption)).symm,trivial⟩)
    ·
     have h3:=r3
     have h3:=bm h3
     refine aa ?_;refine sx7 ?_;refine qy ?_;refine a6 ?_;refine dx (ι:=Unit) ⟨[],[]⟩ ⟨trivial,trivial⟩ (fun _i=>⟨[],[]⟩) (fun _i=>dp t.attrs.length 0 t.rows = 0) ?_ ?_
     ·
      refine sx7 ?_;refine qy ?_;refine a6 ?_;refine ah ?_
      refine b4 (ι:=(Nat × Int)) ⟨[(1,some _)],[(0,some _)]⟩ ⟨⟨c9,trivial⟩,⟨u9,trivial⟩⟩ (fun x=>⟨[(3,some (vI x.2)),(4,some (vI x.1))],[]⟩) (fun x=>x.1 ≤ t.rows.length ∧ dp t.attrs.length x.2 (t.rows.drop x.1) = dp t.attrs.length 0 t.rows) (fun x=>t.rows.length - x.1) ((0,0)) (⟨Nat.zero_le _,rfl⟩) ⟨⟨zy,zy,trivial⟩,trivial⟩ ?_
      rintro ⟨i,b⟩ ⟨hi,hI⟩
      dsimp only at hi hI ⊢
      refine a7 ?_;refine sx7 ?_;(iterate 5 refine qy ?_);refine a6 ?_;refine a8 _ rfl (fun r4=>?_) (fun r4=>?_)
      ·
       have h4:=of_decide_eq_true r4
       try simp only [ty] at h4
       refine aa ?_;refine a7 ?_;refine ah ?_;refine sx7 ?_;(iterate 5 refine qy ?_);refine m9 1 ?_;refine s9 ?_;refine a6 ?_;refine a7 ?_;refine sx7 ?_;(iterate 4 refine qy ?_)
       refine a6 ?_;refine a8 _ rfl (fun r5=>?_) (fun r5=>?_)
       ·
        have h5:=of_decide_eq_true r5
        try simp only [ty] at h5
        refine sx7 ?_;refine qy ?_;refine a6 ?_;refine fh ?_;refine ⟨.inr rfl, ?_⟩
        have hs:=rE (by omega) hI
        rw [if_pos (by omega)] at hs
        exact f9 rfl rfl (⟨cci (tE (by assumption) (by omega) (by omega) (by assumption) hs.symm).symm,trivial⟩)
       ·
        have h5:=of_decide_eq_false r5
        try simp only [ty] at h5
        refine aa ?_;refine sx7 ?_;(iterate 3 refine qy ?_);refine a6 ?_;refine a7 ?_;refine sx7 ?_;(iterate 7 refine qy ?_);refine a6 ?_;refine a8 _ rfl (fun r6=>?_) (fun r6=>?_)
        ·
         have h6:=r6
         have h6:=of_decide_eq_false (bn h6)
         try simp only [ty] at h6
         refine sx7 ?_;refine qy ?_;refine a6 ?_;refine fh ?_;refine ⟨.inr rfl, ?_⟩
         have hs:=rE (by omega) hI
         rw [if_neg (by omega),if_pos (by omega)] at hs
         exact f9 rfl rfl (⟨cci (tE (by assumption) (by omega) (by omega) (by assumption) hs.symm).symm,trivial⟩)
        ·
         have h6:=r6
         have h6:=of_decide_eq_true (bm h6)
         try simp only [ty] at h6
         refine aa ?_;refine sx7 ?_;(iterate 2 refine qy ?_);refine rc rfl rfl rfl rfl rfl rfl apr (c83 _) (CoL.refl _) rfl rfl ?_;refine qy ?_;refine a6 ?_
         refine a8 _ rfl (fun r7=>?_) (fun r7=>?_)
         ·
          have h7:=r7
          have h7:=bn h7
          refine sx7 ?_;refine qy ?_;refine a6 ?_;refine fh ?_;refine ⟨.inr rfl, ?_⟩
          have hs:=rE (by omega) hI
          rw [if_neg (by omega),if_neg (by omega),if_pos (by assumption)] at hs
          exact f9 rfl rfl (⟨cci (tE (by assumption) (by omega) (by omega) (by assumption) hs.symm).symm,trivial⟩)
         ·
          have h7:=r7
          have h7:=bm h7
          refine aa ?_;refine gy ?_;(iterate 3 refine qy ?_);refine a6 ?_;refine ⟨(i + 1,(t.rows.getD i default).id), ?_, ?_, ?_⟩
          · refine ⟨by dsimp only;omega, ?_⟩
            have hs:=rE (by omega) hI
            rw [if_neg (by omega),if_neg (by omega),if_neg (fun e=>Bool.noConfusion (e.symm.trans (show _ = true by assumption)))] at hs
            exact hs
          · first | omega | (dsimp only;omega)
          · exact ⟨⟨zy,zy,c9,trivial⟩,⟨u9,trivial⟩⟩
      ·
       have h4:=of_decide_eq_false r4
       try simp only [ty] at h4
       refine az ?_;refine ⟨(), ?_, ?_⟩
       · rw [← hI,List.drop_eq_nil_of_le (by omega)];rfl
       · exact ⟨trivial,trivial⟩
     · rintro _ hj
       refine sx7 ?_;refine qy ?_;refine a6 ?_
       exact hx8 rfl rfl rfl (⟨cci (tE (by assumption) (by omega) (by omega) (by assumption) hj).symm,trivial⟩)
end Go.Hx
end
