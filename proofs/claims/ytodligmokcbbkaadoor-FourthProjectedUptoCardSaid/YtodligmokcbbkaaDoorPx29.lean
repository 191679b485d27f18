/- A part of the proof: Tb5 Jw2 Jn3 Jn5 Rb21 Jo2 Jr1 Jp1 Jp2 Jb1 Jp3 Bz6 Ch15 Y4 Bz7 Bz8 Bz9 Bz11. -/
import Derived.Shelf.SlLaysF0
import Derived.Shelf.SlSortCmp.NoneTotal
import Derived.Shelf.Small.Strs
import Derived.Test.YtodligmokcbbkaaDoorProg
import Derived.Test.YtodligmokcbbkaaDoorPx15
import Derived.Test.YtodligmokcbbkaaDoorPx16
import Derived.Test.YtodligmokcbbkaaDoorPx18
import Derived.Test.YtodligmokcbbkaaDoorPx20
import Derived.Test.YtodligmokcbbkaaDoorPx21
import Derived.Test.YtodligmokcbbkaaDoorPx23
import Derived.Test.YtodligmokcbbkaaDoorPx24
import Derived.Test.YtodligmokcbbkaaDoorPx27
import Derived.Test.YtodligmokcbbkaaDoorPx28
set_option linter.all false
section
namespace Go.Hx
open Go.Proofs
set_option maxRecDepth 100000
theorem ane:am Tryd.prog 27:=⟨Tryd.f27,Tryd.func27,by kernel_rfl,by kernel_rfl⟩
theorem c49 (c:Int) (hc:0 ≤ c):ao Tryd.prog 27 [pU8 c] (ay [(ofI (c % 12)).pc]):=by
 refine ak (nt:=39) ai Tryd.func27 rfl rfl l9 ?_;refine sx7 ?_;refine m9 0 ?_;refine a6 ?_;refine a7 ?_;refine sx7 ?_;(iterate 2 refine qy ?_);refine a6 ?_;refine ah ?_;refine sx7 ?_
 (iterate 2 refine qy ?_);refine a6 ?_;refine a8 _ rfl (fun r0=>?_) (fun r0=>?_)
 ·
  have h0:=of_decide_eq_true r0
  try simp only [ty] at h0
  refine sx7 ?_;refine qy ?_;refine s9 ?_;refine a6 ?_
  exact hx8 rfl rfl rfl (⟨CoC.of_eq (by rw [show ofI (c % 12) = ⟨1,0,emp⟩ from by simp [ofI, *]];rfl),trivial⟩)
 ·
  have h0:=of_decide_eq_false r0
  try simp only [ty] at h0
  refine sx7 ?_;(iterate 2 refine qy ?_);refine a6 ?_;refine a8 _ rfl (fun r1=>?_) (fun r1=>?_)
  ·
   have h1:=of_decide_eq_true r1
   try simp only [ty] at h1
   refine sx7 ?_;refine qy ?_;refine s9 ?_;refine a6 ?_
   exact hx8 rfl rfl rfl (⟨CoC.of_eq (by rw [show ofI (c % 12) = ⟨1,1,emp⟩ from by simp [ofI, *]];rfl),trivial⟩)
  ·
   have h1:=of_decide_eq_false r1
   try simp only [ty] at h1
   refine sx7 ?_;(iterate 2 refine qy ?_);refine a6 ?_;refine a8 _ rfl (fun r2=>?_) (fun r2=>?_)
   ·
    have h2:=of_decide_eq_true r2
    try simp only [ty] at h2
    refine sx7 ?_;refine qy ?_;refine s9 ?_;refine a6 ?_
    exact hx8 rfl rfl rfl (⟨CoC.of_eq (by rw [show ofI (c % 12) = ⟨1,2,emp⟩ from by simp [ofI, *]];rfl),trivial⟩)
   ·
    have h2:=of_decide_eq_false r2
    try simp only [ty] at h2
    refine sx7 ?_;(iterate 2 refine qy ?_);refine a6 ?_;refine a8 _ rfl (fun r3=>?_) (fun r3=>?_)
    ·
     have h3:=of_decide_eq_true r3
     try simp only [ty] at h3
     refine sx7 ?_;refine qy ?_;refine s9 ?_;refine a6 ?_
     exact hx8 rfl rfl rfl (⟨CoC.of_eq (by rw [show ofI (c % 12) = ⟨0,0,emp⟩ from by simp [ofI, *]];rfl),trivial⟩)
    ·
     have h3:=of_decide_eq_false r3
     try simp only [ty] at h3
     refine sx7 ?_;(iterate 2 refine qy ?_);refine a6 ?_;refine a8 _ rfl (fun r4=>?_) (fun r4=>?_)
     ·
      have h4:=of_decide_eq_true r4
      try simp only [ty] at h4
      refine sx7 ?_;refine qy ?_;refine s9 ?_;refine a6 ?_
      exact hx8 rfl rfl rfl (⟨CoC.of_eq (by rw [show ofI (c % 12) = ⟨2,0,⟨#[97]⟩⟩ from by simp [ofI, *]];rfl),trivial⟩)
     ·
      have h4:=of_decide_eq_false r4
      try simp only [ty] at h4
      refine sx7 ?_;(iterate 2 refine qy ?_);refine a6 ?_;refine a8 _ rfl (fun r5=>?_) (fun r5=>?_)
      ·
       have h5:=of_decide_eq_true r5
       try simp only [ty] at h5
       refine sx7 ?_;refine qy ?_;refine s9 ?_;refine a6 ?_
       exact hx8 rfl rfl rfl (⟨CoC.of_eq (by rw [show ofI (c % 12) = ⟨2,0,⟨#[98]⟩⟩ from by simp [ofI, *]];rfl),trivial⟩)
      ·
       have h5:=of_decide_eq_false r5
       try simp only [ty] at h5
       refine sx7 ?_;(iterate 2 refine qy ?_);refine a6 ?_;refine a8 _ rfl (fun r6=>?_) (fun r6=>?_)
       ·
        have h6:=of_decide_eq_true r6
        try simp only [ty] at h6
        refine sx7 ?_;refine qy ?_;refine s9 ?_;refine a6 ?_
        exact hx8 rfl rfl rfl (⟨CoC.of_eq (by rw [show ofI (c % 12) = ⟨2,0,emp⟩ from by simp [ofI, *]];rfl),trivial⟩)
       ·
        have h6:=of_decide_eq_false r6
        try simp only [ty] at h6
        refine sx7 ?_;(iterate 2 refine qy ?_);refine a6 ?_;refine a8 _ rfl (fun r7=>?_) (fun r7=>?_)
        ·
         have h7:=of_decide_eq_true r7
         try simp only [ty] at h7
         refine sx7 ?_;refine qy ?_;refine s9 ?_;refine a6 ?_
         exact hx8 rfl rfl rfl (⟨CoC.of_eq (by rw [show ofI (c % 12) = ⟨3,1,emp⟩ from by simp [ofI, *]];rfl),trivial⟩)
        ·
         have h7:=of_decide_eq_false r7
         try simp only [ty] at h7
         refine sx7 ?_;(iterate 2 refine qy ?_);refine a6 ?_;refine a8 _ rfl (fun r8=>?_) (fun r8=>?_)
         ·
          have h8:=of_decide_eq_true r8
          try simp only [ty] at h8
          refine sx7 ?_;refine qy ?_;refine s9 ?_;refine a6 ?_
          exact hx8 rfl rfl rfl (⟨CoC.of_eq (by rw [show ofI (c % 12) = ⟨1, -1,emp⟩ from by simp [ofI, *]];rfl),trivial⟩)
         ·
          have h8:=of_decide_eq_false r8
          try simp only [ty] at h8
          refine sx7 ?_;(iterate 2 refine qy ?_);refine a6 ?_;refine a8 _ rfl (fun r9=>?_) (fun r9=>?_)
          ·
           have h9:=of_decide_eq_true r9
           try simp only [ty] at h9
           refine sx7 ?_;refine qy ?_;refine s9 ?_;refine a6 ?_
           exact hx8 rfl rfl rfl (⟨CoC.of_eq (by rw [show ofI (c % 12) = ⟨2,0,⟨#[97,98]⟩⟩ from by simp [ofI, *]];rfl),trivial⟩)
          ·
           have h9:=of_decide_eq_false r9
           try simp only [ty] at h9
           refine sx7 ?_;(iterate 2 refine qy ?_);refine a6 ?_;refine a8 _ rfl (fun r10=>?_) (fun r10=>?_)
           ·
            have h10:=of_decide_eq_true r10
            try simp only [ty] at h10
            refine sx7 ?_;refine qy ?_;refine s9 ?_;refine a6 ?_
            exact hx8 rfl rfl rfl (⟨CoC.of_eq (by rw [show ofI (c % 12) = ⟨3,2,emp⟩ from by simp [ofI, *]];rfl),trivial⟩)
           ·
            have h10:=of_decide_eq_false r10
            try simp only [ty] at h10
            refine aa ?_;refine sx7 ?_;refine qy ?_;refine s9 ?_;refine a6 ?_
            exact hx8 rfl rfl rfl (⟨CoC.of_eq (by rw [show ofI (c % 12) = ⟨1,7,emp⟩ from by simp [ofI, *]];rfl),trivial⟩)
end Go.Hx
end
section
namespace Go.Hx
open Go.Proofs
set_option maxRecDepth 100000
abbrev avf (v:Val):List Value:=[.int .i64 v.kind, .int .i64 v.num, .string v.str]
end Go.Hx
end
section
namespace Go.Hx
abbrev arj:PV:=.sl 0 3 true (lf Val.c [])
def avl (R:List Row) (a:Nat):Nat → Nat → PV:=fun i _=>if i < a then vals (agv R i) else arj
end Go.Hx
end
section
namespace Go.Hx
abbrev RSt:=Bool × Int × Int × Int
abbrev RSt.c (s:RSt):Nat → PV:=fun j=>[.raw (.bool s.1), .raw (.int .i64 s.2.1), .raw (.int .i64 s.2.2.1), .raw (.int .i64 s.2.2.2)].getD j .any
abbrev RSt.pc (s:RSt):PC:=.agg [.raw (.bool s.1), .raw (.int .i64 s.2.1), .raw (.int .i64 s.2.2.1), .raw (.int .i64 s.2.2.2)]
abbrev avp (l:List RSt):PV:=psl 4 RSt.c l
def St.r (s:St):RSt:=(s.1,(s.2.1:Int),(s.2.2.1:Int),(s.2.2.2:Int))
abbrev ain (a:Int) (l:List Rw) (p m:List Fd) (s:RSt):Int × List Rw × Int:=ap6 a l p m s.1 s.2.1 s.2.2.1 s.2.2.2
def a1a (n:Int) (p m:List Fd):Int → List Rw → List RSt → Bool
 | _,l,[]=>adq n l
 | a,l,s :: r=>if (ain a l p m s).2.2 = 0 then a1a n p m (ain a l p m s).1 (ain a l p m s).2.1 r else false
def avq (n:Int) (ps:List AS) (p m:List Fd) (sts:List RSt):Bool:=decide (lvE n ps = 0) && (decide (eo n p m = 0) && a1a n p m n (ci (io n ps)) sts)
structure ad3 (n:Int) (ps:List AS) (p m:List Fd) (sts:List RSt) (x:Nat × Int × List Rw × Int):Prop where
 le:x.1 ≤ sts.length
 ok:x.2.2.2 = 0 → a1a n p m n (ci (io n ps)) sts = a1a n p m x.2.1 x.2.2.1 (sts.drop x.1)
 no:¬ x.2.2.2 = 0 → a1a n p m n (ci (io n ps)) sts = false
section
variable {n:Int} {ps:List AS} {p m:List Fd} {sts:List RSt}
theorem ad3.start:ad3 n ps p m sts (0,n,ci (io n ps),0):=⟨Nat.zero_le _,fun _=>rfl,fun h=>absurd rfl h⟩
theorem ad3.fin {x:Nat × Int × List Rw × Int} (h:ad3 n ps p m sts x) (hi:¬ x.1 < sts.length) (h0:x.2.2.2 = 0):a1a n p m n (ci (io n ps)) sts = adq n x.2.2.1:=by
 rw [h.ok h0,List.drop_of_length_le (by omega),a1a]
end
def asp (r:Rw):List Val:=r.map fun z=>⟨1,z,emp⟩
def asf (l:List Rw):List Row:=(List.range l.length).map fun (i:Nat)=>⟨(i:Int) + 1,asp (l.getD i default)⟩
def arw (n:Int) (ps:List AS) (p m:List Fd):Int:=if lsC n ps p m ≠ 0 then lsC n ps p m else if adq n (lsT n ps p m).2.1.2 = true then 10 else 0
def avd (n:Int) (ps:List AS) (p m:List Fd):Tbl:=if arw n ps p m = 0 then ⟨⟨#[116]⟩,j4.take n.toNat,asf (lsT n ps p m).2.1.2⟩ else T0
section
variable {n:Int} {ps:List AS} {p m:List Fd}
end
def aug (n:Int) (a b:AS) (l:List Fd):Bool:=decide (d8 n l = 0) && (decide (a ||| b = aq n) && (decide (sub a (clo l (a &&& b))) || decide (sub b (clo l (a &&& b)))))
end Go.Hx
end
section
namespace Go.Hx
open Go.Proofs Go.Proofs.YtodligmokcbbkaaDoor
open Go.RowKit Go.ChangeShapes Go.WideShapes Go.ChangeAt
abbrev Rcp.c (d:Rcp):Nat → PV:=fun j=>[.raw (.int .u8 (d.n.toNat:Int)),dpl d.f,dpl d.m,psl 1 u8C d.p].getD j .any
abbrev C3:=BitVec 8 × BitVec 8 × BitVec 8
abbrev C3.c (x:C3):Nat → PV:=fun j=>[.raw (.int .u8 (x.1.toNat:Int)), .raw (.int .u8 (x.2.1.toNat:Int)), .raw (.int .u8 (x.2.2.toNat:Int))].getD j .any
theorem aht:Rd Tryd.prog 5 1 aor:=(ajg Tryd.underlying5).co id fun a j hj=>by obtain rfl:j = 0:=(by omega);exact CoP.refl _
theorem ari:Rd Tryd.prog 78 1 agu:=(ah4 Tryd.underlying78 (by kernel_rfl) (by omega) aht).co id fun a j hj=>by obtain rfl:j = 0:=(by omega);exact CoP.refl _
theorem apu:RdB Tryd.prog 22 1 (abs 1 agu) fun b l=>l.length ≤ b :=
 (a6m (B:=fun _ _=>True) (fun _ _ _ _ _=>trivial) Tryd.underlying22 (by kernel_rfl) (by omega) ari.toB).co id (fun b a h=>h.1) fun a j hj=>CoP.refl _
theorem arl:RdB Tryd.prog 24 3 gm.c fun b x=>x.rows.length ≤ b:=by
 intro H enc w sp held fuel cs x h
 obtain ⟨hl,n,hf⟩:=vj Tryd.underlying24 h
 obtain ⟨y0,e0⟩:=hf 0 _ rfl
 obtain ⟨y1,e1⟩:=hf 1 _ rfl
 obtain ⟨y2,e2⟩:=hf 2 _ rfl
 obtain ⟨a0,_,h0⟩:=k7 (fun _ _ _ _ _=>trivial) aht.toB e0
 obtain ⟨a1,_,h1⟩:=k7 (fun _ _ _ _ _=>trivial) aht.toB e1
 obtain ⟨a2,b2,h2⟩:=k7 (B:=fun b (l:List (List UInt8))=>l.length ≤ b) (fun _ _ _ h k=>Nat.le_trans k h) apu e2
 refine ⟨hl.trans (by kernel_rfl),(⟨a0,a1,a2⟩:gm),b2,fun j hj=>?_⟩
 match j,hj with
 | 0,_=>exact h0 0 (by omega)
 | 1,_=>exact h1 0 (by omega)
 | 2,_=>exact h2 0 (by omega)
theorem arc:Tryd.prog.readableRec 24 = true ∧ 24 < Tryd.prog.types.size:=⟨by kernel_rfl,of_decide_eq_true (by kernel_rfl)⟩
theorem asb:Tryd.prog.readableRec 5 = true ∧ 5 < Tryd.prog.types.size:=⟨by kernel_rfl,of_decide_eq_true (by kernel_rfl)⟩
end Go.Hx
end
section
namespace Go.Hx
section
variable {α:Type} [DecidableEq α] {c:α → α → Int}
def aok (c:α → α → Int) (x:α):List α → List α
 | []=>[x]
 | y :: l=>if c x y < 0 then x :: y :: l else if c x y = 0 then y :: l else y :: aok c x l
def auf (c:α → α → Int) (l:List α):List α:=l.foldr (aok c) []
end
def awR:List Row:=[⟨1,[⟨1,0,emp⟩,⟨1,1,emp⟩,⟨1,5,emp⟩]⟩,⟨2,[⟨1,6,emp⟩,⟨1,1,emp⟩,⟨1,2,emp⟩]⟩]
def awT:Tbl:=⟨⟨#[116]⟩,j4.take 3,awR⟩
end Go.Hx
end
section
namespace Go.Hx
def sb (l:List Row) (v:List Val):Bool:=l.any fun r=>decide (r.vals = v)
def j6 (s:AS):Nat → List Val → List Val
 | _,[]=>[]
 | a,v :: l=>if al s (a:Int) = true then v :: j6 s (a + 1) l else j6 s (a + 1) l
def sel (l:List Val) (s:AS):List Val:=j6 s 0 l
theorem y8 {s:AS}:∀ {l:List Val} {a:Nat} {v:Val},j6 s a (l ++ [v]) = if al s ((a + l.length:Nat):Int) = true then j6 s a l ++ [v] else j6 s a l
 | [],a,v=>by
  simp only [List.nil_append,j6,List.length_nil,Nat.add_zero]
 | x :: l,a,v=>by
  have ih:j6 s (a + 1) (l ++ [v]) = if al s ((a + 1 + l.length:Nat):Int) = true then j6 s (a + 1) l ++ [v] else j6 s (a + 1) l:=y8
  simp only [List.cons_append,j6,List.length_cons]
  rw [ih,show a + 1 + l.length = a + (l.length + 1) by omega]
  split <;> split <;> simp
theorem a2r {l:List Val} {s:AS} {i:Nat} (hi:i < l.length) (h:al s (i:Int) = true):sel (l.take (i + 1)) s = sel (l.take i) s ++ [l.getD i default]:=by
 unfold sel
 rw [bc hi,y8,List.length_take,Nat.min_eq_left (by omega),Nat.zero_add,if_pos h]
theorem a3z {l:List Val} {s:AS} {i:Nat} (hi:i < l.length) (h:al s (i:Int) = false):sel (l.take (i + 1)) s = sel (l.take i) s:=by
 unfold sel
 rw [bc hi,y8,List.length_take,Nat.min_eq_left (by omega),Nat.zero_add,if_neg (by simp [h])]
theorem vk {s:AS}:∀ {l:List Val} {a:Nat} {v:Val},v ∈ j6 s a l → v ∈ l
 | x :: l,a,v,h=>by
  unfold j6 at h
  split at h
  · rcases List.mem_cons.1 h with rfl | h
    · simp
    · exact List.mem_cons_of_mem _ (vk h)
  · exact List.mem_cons_of_mem _ (vk h)
theorem a7u {s:AS}:∀ {l:List Val} {a:Nat},(j6 s a l).length ≤ l.length
 | [],_=>Nat.le_refl _
 | x :: l,a=>by
  have:(j6 s (a + 1) l).length ≤ l.length:=a7u
  unfold j6
  split <;> simp only [List.length_cons] <;> omega
theorem abf {l:List Val} {s:AS}:(sel l s).length ≤ l.length:=a7u
theorem a33 {l:List Val}:kz l ↔ ∀ v ∈ l,v.ok:=by
 constructor
 · intro h v hv
   obtain ⟨i,hi,e⟩:=List.getElem_of_mem hv
   have:=h i hi
   rw [c7 _ _ hi,e] at this
   exact this
 · intro h i hi
   rw [c7 _ _ hi]
   exact h _ (List.getElem_mem hi)
theorem a34 {l:List Val} {s:AS} (h:kz l):kz (sel l s):=a33.2 fun v hv=>a33.1 h v (vk hv)
def j0 (a b:Row) (s:AS):Bool:=decide (sel a.vals s = sel b.vals s)
def at3 (t:Tbl) (q:AS) (r:Row) (n:Int):Bool:=t.rows.any fun x=>j0 x r (q &&& aq n)
def anq (a b:List Row):Bool:=a.all fun r=>sb b r.vals
def atv (a b:Tbl):Bool:=decide (a.attrs = b.attrs) && (anq a.rows b.rows && anq b.rows a.rows)
def aq4 (a b:Tbl) (r s:Row) (i:Nat):Bool:=decide (a1w a.attrs (b.attrs.getD i default) < 0) || decide (n9 (r.vals.getD (a1w a.attrs (b.attrs.getD i default)).toNat default) (s.vals.getD i default) = 0)
def arq (a b:Tbl) (r s:Row):Bool:=(List.range b.attrs.length).all (aq4 a b r s)
def atw (a b:Tbl):Bool:=b.rows.all fun s=>a.rows.any fun r=>arq a b r s
def te (t:Tbl) (d:Fd) (i k:Nat):Bool:=!j0 (t.rows.getD i default) (t.rows.getD k default) d.lhs || j0 (t.rows.getD i default) (t.rows.getD k default) d.rhs
def fdB (t:Tbl) (d:Fd):Bool:=(List.range t.rows.length).all fun i=>(List.range i).all fun k=>te t d i k
def a2d (t:Tbl) (a b:Row) (left:AS):Bool:=t.rows.any fun x=>j0 x a left && j0 x b (aq t.attrs.length &&& ~~~left)
def qc (t:Tbl) (d:Fd) (i k:Nat):Bool:=!j0 (t.rows.getD i default) (t.rows.getD k default) d.lhs || a2d t (t.rows.getD i default) (t.rows.getD k default) (d.lhs ||| d.rhs)
def mvB (t:Tbl) (d:Fd):Bool:=(List.range t.rows.length).all fun i=>(List.range t.rows.length).all fun k=>qc t d i k
end Go.Hx
end
section
namespace Go.Hx
def asw (n:Int):Prop:=-9223372036854775808 ≤ n ∧ n ≤ 9223372036854775807
def b8 (l:List Int):List UInt8:=l.map fun n=>UInt8.ofNat n.toNat
def aqb (v:Val):Prop:=db v = true ∧ asw v.num
def byR (l:List Int):Prop:=∀ x ∈ l,0 ≤ x ∧ x < 256
def apd (s:AS):Nat → List Val → List Int
 | _,[]=>[]
 | a,v :: vs=>if s.getLsbD a = true then amg v ++ apd s (a + 1) vs else apd s (a + 1) vs
end Go.Hx
end
section
namespace Go.Hx
section
variable {R:List Row} {ps:List AS} {cols:List (List Val)} {s:AS} {n:Nat}
theorem a9h:∀ {l m:List Val} {a:Nat},l.length = m.length → (j6 s a l = j6 s a m ↔ ∀ i,i < l.length → al s ((a + i:Nat):Int) = true → l.getD i default = m.getD i default)
 | [],[],a,_=>⟨fun _ i hi _=>absurd hi (Nat.not_lt_zero i),fun _=>rfl⟩
 | [],_ :: _,_,h=>by simp at h
 | _ :: _,[],_,h=>by simp at h
 | v :: l,w :: m,a,hl=>by
  have hl2:l.length = m.length:=by simpa using hl
  have ih:=a9h (l:=l) (m:=m) (a:=a + 1) hl2
  unfold j6
  by_cases hs:al s (a:Int) = true
  · rw [if_pos hs,if_pos hs,List.cons.injEq,ih]
    constructor
    · rintro ⟨h1,h2⟩ i hi hh
      cases i with
      | zero=>exact h1
      | succ i=>exact h2 i (by simpa using hi) (by rw [show a + 1 + i = a + (i + 1) by omega];exact hh)
    · intro h
      refine ⟨h 0 (by simp) hs,fun i hi hh=>?_⟩
      exact h (i + 1) (by simpa using hi) (by rw [show a + (i + 1) = a + 1 + i by omega];exact hh)
  · rw [if_neg hs,if_neg hs,ih]
    constructor
    · intro h i hi hh
      cases i with
      | zero=>exact absurd hh hs
      | succ i=>exact h i (by simpa using hi) (by rw [show a + 1 + i = a + (i + 1) by omega];exact hh)
    · intro h i hi hh
      exact h (i + 1) (by simpa using hi) (by rw [show a + (i + 1) = a + 1 + i by omega];exact hh)
theorem pl {l m:List Val} (hl:l.length = m.length):sel l s = sel m s ↔ ∀ i:Nat,i < l.length → al s (i:Int) = true → l.getD i default = m.getD i default:=by
 unfold sel
 rw [a9h hl]
 constructor <;> intro h i hi hh
 · exact h i hi (by rw [Nat.zero_add];exact hh)
 · exact h i hi (by rw [Nat.zero_add] at hh;exact hh)
def okJ (R:List Row) (ps:List AS) (vs:List Val):Bool:=ps.all fun s=>abw R s vs.length (aio vs s)
def amt (R:List Row) (ps:List AS) (cols:List (List Val)):Nat → List Val → List (List Val)
 | 0,vs=>if okJ R ps vs = true then [vs] else []
 | d + 1,vs=>if okJ R ps vs = true then (cols.getD vs.length default).flatMap fun v=>amt R ps cols d (vs ++ [v]) else []
def av0 (R:List Row) (ps:List AS) (n:Nat):List (List Val):=amt R ps (aj6 R n) n []
end
end Go.Hx
end
section
namespace Go.Hx
section
variable {n:Int} {ps:List AS} {p m:List Fd}
end
def sgB (n:Int) (c:AS) (z:Int):Int:=if al c (z % n) = true then z % n else z
section
variable {n:Int} {P Q:AS} {p:List Fd}
theorem yt {a b:AS} {i:Int}:al (a &&& b) i = (al a i && al b i):=by
 unfold al
 rw [BitVec.getLsbD_and]
 cases decide (0 ≤ i ∧ i < 32) <;> simp
end
end Go.Hx
end
section
namespace Go.Hx
section
variable {t:Tbl} {d:Fd}
theorem pj {R:List Row} {a:Row} (h:a ∈ R):∃ i,i < R.length ∧ R.getD i default = a:=by
 obtain ⟨i,hi,e⟩:=List.getElem_of_mem h
 exact ⟨i,hi,by rw [c7 _ _ hi,e]⟩
theorem am6 (h:fdB t d = true) {a b:Row} (ha:a ∈ t.rows) (hb:b ∈ t.rows) (e:sel a.vals d.lhs = sel b.vals d.lhs):sel a.vals d.rhs = sel b.vals d.rhs:=by
 obtain ⟨i,hi,rfl⟩:=pj ha
 obtain ⟨k,hk,rfl⟩:=pj hb
 have key:∀ i k,i < t.rows.length → k < i → sel (t.rows.getD i default).vals d.lhs = sel (t.rows.getD k default).vals d.lhs → sel (t.rows.getD i default).vals d.rhs = sel (t.rows.getD k default).vals d.rhs:=fun i k hi hk e=>by
  unfold fdB at h
  have h1:=List.all_eq_true.1 (List.all_eq_true.1 h i (List.mem_range.2 hi)) k (List.mem_range.2 hk)
  unfold te j0 at h1
  rw [decide_eq_true e] at h1
  simpa using h1
 rcases Nat.lt_trichotomy i k with h1 | h1 | h1
 · exact (key k i hk h1 e.symm).symm
 · subst h1;rfl
 · exact key i k hi h1 e
theorem aph (h:mvB t d = true) {a b:Row} (ha:a ∈ t.rows) (hb:b ∈ t.rows) (e:sel a.vals d.lhs = sel b.vals d.lhs):∃ x ∈ t.rows,sel x.vals (d.lhs ||| d.rhs) = sel a.vals (d.lhs ||| d.rhs) ∧ sel x.vals (aq t.attrs.length &&& ~~~(d.lhs ||| d.rhs)) = sel b.vals (aq t.attrs.length &&& ~~~(d.lhs ||| d.rhs)):=by
 obtain ⟨i,hi,rfl⟩:=pj ha
 obtain ⟨k,hk,rfl⟩:=pj hb
 unfold mvB at h
 have h1:=List.all_eq_true.1 (List.all_eq_true.1 h i (List.mem_range.2 hi)) k (List.mem_range.2 hk)
 unfold qc j0 at h1
 rw [decide_eq_true e] at h1
 have h1:a2d t (t.rows.getD i default) (t.rows.getD k default) (d.lhs ||| d.rhs) = true:=by simpa using h1
 unfold a2d at h1
 obtain ⟨x,hx,h2⟩:=List.any_eq_true.1 h1
 rw [Bool.and_eq_true] at h2
 unfold j0 at h2
 exact ⟨x,hx,of_decide_eq_true h2.1,of_decide_eq_true h2.2⟩
end
theorem xn {n i:Nat} (hn:n ≤ 16) (hi:i < n):al (aq (n:Int)) (i:Int) = true:=by
 rw [bp (by omega)]
 unfold aq
 rw [Nat.min_eq_left (by omega),ju _ _ (by omega)]
 simpa using hi
theorem adt {n i:Nat} {s:AS} (hn:n ≤ 16) (hi:i < n) (h:¬ al s (i:Int) = true):al (aq (n:Int) &&& ~~~s) (i:Int) = true:=by
 have h1:=xn hn hi
 rw [yt,h1,Bool.true_and]
 rw [bp (by omega)] at h ⊢
 rw [BitVec.getLsbD_not]
 simp only [h,Bool.not_false,Bool.and_true]
 simp;omega
section
variable {n:Int} {ps:List AS} {p m:List Fd}
end
def sgT (n:Nat) (w:List Val) (f:Nat → Row) (z:Int):Val:=if z < (n:Int) then w.getD z.toNat default else (f (z / n - 1).toNat).vals.getD (z % n).toNat default
theorem akf {t:Tbl} {p m:List Fd} (hn:t.attrs.length ≤ 16) (hw:∀ r ∈ t.rows,r.vals.length = t.attrs.length) (hF:∀ d ∈ p,fdB t d = true) (hM:∀ d ∈ m,mvB t d = true) (σ:Int → Val) :
 Mdl t.attrs.length p m (fun x y=>σ x = σ y) (fun r=>r.length = t.attrs.length ∧ ∃ x ∈ t.rows,∀ i,i < t.attrs.length → σ (r.getD i default) = x.vals.getD i default) where
 refl x:=rfl
 symm h:=h.symm
 trans h k:=h.trans k
 len h:=h.1
 cong {r r'} h hl he:=by
  obtain ⟨h1,x,hx,h2⟩:=h
  exact ⟨hl.trans h1,x,hx,fun i hi=>(he i (by omega)).symm.trans (h2 i hi)⟩
 fd {d} hd {a b} ha hb hag:=by
  obtain ⟨hal,xa,hxa,ha⟩:=ha
  obtain ⟨hbl,xb,hxb,hb⟩:=hb
  have hla:=hw xa hxa
  have hlb:=hw xb hxb
  have h1:sel xa.vals d.lhs = sel xb.vals d.lhs:=(pl (hla.trans hlb.symm)).2 fun i hi hh=>by
   rw [← ha i (by omega),← hb i (by omega)]
   exact hag i (by omega) hh
  have h2:=(pl (hla.trans hlb.symm)).1 (am6 (hF d hd) hxa hxb h1)
  intro i hi hh
  show σ (a.getD i default) = σ (b.getD i default)
  rw [ha i (by omega),hb i (by omega)]
  exact h2 i (by omega) hh
 mv {d} hd {a b} ha hb hag:=by
  obtain ⟨hal,xa,hxa,ha⟩:=ha
  obtain ⟨hbl,xb,hxb,hb⟩:=hb
  have hla:=hw xa hxa
  have hlb:=hw xb hxb
  have h1:sel xa.vals d.lhs = sel xb.vals d.lhs:=(pl (hla.trans hlb.symm)).2 fun i hi hh=>by
   rw [← ha i (by omega),← hb i (by omega)]
   exact hag i (by omega) hh
  obtain ⟨x,hx,h2,h3⟩:=aph (hM d hd) hxa hxb h1
  have hlx:=hw x hx
  have h2:=(pl (hlx.trans hla.symm)).1 h2
  have h3:=(pl (hlx.trans hlb.symm)).1 h3
  refine ⟨(n5 _ _ _).trans hbl,x,hx,fun i hi=>?_⟩
  have e:(dw a b (d.lhs ||| d.rhs)).getD i default = if al (d.lhs ||| d.rhs) (i:Int) = true then a.getD i default else b.getD i default:=by
   unfold dw
   rw [List.getD_eq_getElem?_getD,List.getElem?_map,List.getElem?_range (by omega)]
   rfl
  rw [e]
  by_cases hh:al (d.lhs ||| d.rhs) (i:Int) = true
  · rw [if_pos hh,ha i hi]
    exact (h2 i (by omega) hh).symm
  · rw [if_neg hh,hb i hi]
    exact (h3 i (by omega) (adt hn hi hh)).symm
end Go.Hx
end
section
namespace Go.Hx
def fdP (d:Fd) (r k:AS):Option AS:=if (r ^^^ k) &&& d.lhs = 0 then (if (r ^^^ k) &&& d.rhs = 0 then none else some ((r ^^^ k) &&& d.rhs)) else none
def fdQ (d:Fd) (T:List AS) (r:AS):Option AS:=T.findSome? (fdP d r)
def fdT (d:Fd) (T:List AS):Option AS:=T.findSome? (fdQ d T)
theorem xd {T:List AS} (h:T.Nodup):T.length ≤ 4294967296:=by
 have h1:(T.map BitVec.toNat).Nodup:=List.Pairwise.map _ (fun a b hab e=>hab (BitVec.eq_of_toNat_eq e)) h
 have h2:∀ x ∈ T.map BitVec.toNat,x < 4294967296:=by
  intro x hx
  obtain ⟨a,_,rfl⟩:=List.mem_map.1 hx
  exact a.isLt
 have hlen:(T.map BitVec.toNat).length = T.length:=List.length_map _
 rw [← hlen]
 have key:∀ (N:Nat) (l:List Nat),l.Nodup → (∀ x ∈ l,x < N) → l.length ≤ N:=by
  intro N
  induction N with
  | zero =>
   intro l _ hl
   cases l with
   | nil=>exact Nat.le_refl _
   | cons a l=>exact absurd (hl a (by simp)) (Nat.not_lt_zero _)
  | succ N ih =>
   intro l hn hl
   have h3:=ih (l.filter fun x=>!decide (x = N)) (hn.filter _) fun x hx=>by
    rw [List.mem_filter] at hx
    have:=hl x hx.1
    have hx2:¬ x = N:=by simpa using hx.2
    omega
   have h4:l.length ≤ (l.filter fun x=>!decide (x = N)).length + 1:=by
    have h5:∀ l:List Nat,l.length = (l.filter fun x=>!decide (x = N)).length + l.countP fun x=>decide (x = N):=by
     intro l
     induction l with
     | nil=>rfl
     | cons a l ih =>
      by_cases e:a = N
      · simp [List.filter_cons,List.countP_cons,e,ih];omega
      · simp [List.filter_cons,List.countP_cons,e,ih];omega
    have h6:=h5 l
    have h7:(l.countP fun x=>decide (x = N)) ≤ 1:=by
     have:=hn.count (a:=N)
     have e:(l.countP fun x=>decide (x = N)) = l.count N:=by
      unfold List.count
      congr 1
     rw [e]
     first | exact List.nodup_iff_count.1 hn N | (rw [this];split <;> omega)
    omega
   omega
 exact key _ _ h1 h2
def ye (d:Fd):Nat → List AS → List AS
 | 0,T=>T
 | f + 1,T=>match fdT d T with
  | none=>T
  | some s=>ye d f (aow T s)
def mvS (d:Fd) (T:List AS) (i k:Nat):List AS:=if agB d (T.getD i default) (T.getD k default) = true then a9k T (ao7 d (T.getD i default) (T.getD k default)) else T
def mvI (d:Fd):Nat → List AS → Nat → Nat → List AS
 | 0,T,_,_=>T
 | f + 1,T,i,k=>if k < T.length then mvI d f (mvS d T i k) i (k + 1) else T
def mvO (d:Fd):Nat → List AS → Nat → List AS
 | 0,T,_=>T
 | f + 1,T,i=>if i < T.length then mvO d f (mvI d 8589934592 T i 0) (i + 1) else T
abbrev TC:=List AS × Bool
def FU2:Nat:=8589934592
def fdR (x:TC) (d:Fd):TC:=(ye d FU2 x.1,x.2 || (fdT d x.1).isSome)
def mvR (x:TC) (d:Fd):TC:=(mvO d FU2 x.1 0,x.2 || decide (x.1.length < (mvO d FU2 x.1 0).length))
def aic (fs ms:List Fd) (T:List AS):TC:=ms.foldl mvR (fs.foldl fdR (T,false))
def chF (fs ms:List Fd):Nat → List AS → List AS
 | 0,T=>T
 | f + 1,T=>if (aic fs ms T).2 = true then chF fs ms f (aic fs ms T).1 else (aic fs ms T).1
def muT (T:List AS):Nat:=(orL T).toNat * FU2 + (4294967296 - T.length)
theorem afb {d:Fd} {f:Nat} {T:List AS} (h:fdT d T = none):ye d f T = T:=by
 cases f with
 | zero=>rfl
 | succ f =>
  show (match fdT d T with | none=>T | some s=>ye d f (aow T s)) = _
  rw [h]
def MU:Nat:=73786976294838206464
theorem ank (T:List AS):muT T < MU:=by
 unfold muT
 have h:=(orL T).isLt
 have h1:((orL T).toNat + 1) * FU2 ≤ 4294967296 * FU2:=Nat.mul_le_mul_right _ h
 rw [Nat.add_mul] at h1
 have e:FU2 = 8589934592:=rfl
 have e2:MU = 73786976294838206464:=rfl
 omega
def agy (rest:AS):List AS:=a9k [0] rest
def chT (fs ms:List Fd) (rest:AS):List AS:=chF fs ms MU (agy rest)
theorem aqp (rest:AS):(agy rest).Nodup:=acs (by simp)
end Go.Hx
end
section
namespace Go.Hx
open Go.Proofs
set_option maxRecDepth 100000
def sT:List Rw:=[[0,1,5],[0,7,2]]
def fdX:List Fd:=[⟨1,2⟩]
theorem a3g {x:Fd} {cl:Bool} {f:Nat → Nat → PV} (h0:CoP (f 0 0) (x.c 0)) (h1:CoP (f 0 1) (x.c 1)):CoP (.sl 1 2 cl f) (fdl [x]) :=
 CoP.sl rfl (.inl rfl) (fun h=>by cases h) fun i j hi hj=>by
  obtain rfl:i = 0:=by omega
  rcases (by omega:j = 0 ∨ j = 1) with rfl | rfl
  · exact h0
  · exact h1
theorem a2h {s:Nat} {f:Nat → Nat → PV}:CoP (.sl 0 s true f) (fdl []):=CoP.sl rfl (.inr rfl) (fun h=>by cases h) fun i j hi _=>absurd hi (Nat.not_lt_zero i)
end Go.Hx
end
section
namespace Go.Hx
open Go.Proofs
set_option maxRecDepth 100000
set_option maxHeartbeats 1000000
theorem afi:am Tryd.prog 16:=⟨Tryd.f16,Tryd.func16,by kernel_rfl,by kernel_rfl⟩
theorem aod (a b:List AS):ao Tryd.prog 16 [pP (asl a),pP (asl b)] (ay [pB (decide (a = b))]):=by
 refine ak (nt:=26) ai Tryd.func16 rfl rfl l9 ?_;refine sx7 ?_;refine qy ?_;refine a6 ?_;(iterate 2 refine a7 ?_)
 refine l4 0 rfl fun hn0=>?_
 refine l4 1 rfl fun hn1=>?_
 refine gy ?_;(iterate 5 refine qy ?_);refine a6 ?_;refine a8 _ rfl (fun r0=>?_) (fun r0=>?_)
 ·
  have h0:=r0
  have h0:=of_decide_eq_false (bn h0)
  try simp only [ty] at h0
  refine sx7 ?_;refine qy ?_;refine a6 ?_
  exact hx8 rfl rfl rfl (⟨ccb (decide_eq_false fun e=>by subst e;omega).symm,trivial⟩)
 ·
  have h0:=r0
  have h0:=of_decide_eq_true (bm h0)
  try simp only [ty] at h0
  refine aa ?_;refine a7 ?_;refine sx7 ?_;(iterate 3 refine qy ?_);refine a6 ?_;refine ah ?_
  refine b4 (ι:=Nat) ⟨[(0,some _),(1,some _),(12,some _)],[]⟩ ⟨⟨c9,c9,c9,trivial⟩,trivial⟩ (fun i=>⟨[(13,some (vI i))],[]⟩) (fun i=>i ≤ a.length ∧ ∀ j,j < i → a.getD j default = b.getD j default) (fun i=>a.length - i) (0) (⟨Nat.zero_le _,fun j hj=>absurd hj (Nat.not_lt_zero j)⟩) ⟨⟨⟨_,rfl,(CoR.refl _)⟩,trivial⟩,trivial⟩ ?_
  rintro i ⟨hi,hI⟩
  refine sx7 ?_;refine qy ?_;refine a6 ?_;refine a7 ?_;refine a8 _ rfl (fun r1=>?_) (fun r1=>?_)
  ·
   have h1:=of_decide_eq_true r1
   try simp only [ty] at h1
   refine aa ?_;refine a7 ?_;refine ah ?_;refine sx7 ?_;(iterate 2 refine qy ?_);refine a6 ?_;refine a7 ?_;refine cw (E:=d6) ai bw [0,1,2,3,4,5,6,7,8] ?_
   (iterate 9 refine qy ?_);refine a6 ?_;refine ⟨by kernel_rfl, ?_⟩;refine a8 _ rfl (fun r2=>?_) (fun r2=>?_)
   ·
    have h2:=r2
    have h2:=of_decide_eq_false (bn h2)
    try simp only [ty] at h2
    refine sx7 ?_;refine qy ?_;refine a6 ?_
    exact hx8 rfl rfl rfl (⟨ccb (decide_eq_false fun e=>by subst e;exact absurd rfl (by assumption:¬ asI _ = asI _)).symm,trivial⟩)
   ·
    have h2:=r2
    have h2:=of_decide_eq_true (bm h2)
    try simp only [ty] at h2
    refine aa ?_;refine gy ?_;(iterate 2 refine qy ?_);refine a6 ?_;refine ⟨i + 1, ?_, ?_, ?_⟩
    · refine ⟨by omega,fun j hj=>?_⟩
      by_cases e:j = i
      · subst e;exact fb.1 (by assumption)
      · exact hI j (by omega)
    · first | omega | (dsimp only;omega)
    · exact ⟨⟨⟨_,rfl,(CoR.refl _)⟩,c9,c9,c9,trivial⟩,trivial⟩
  ·
   have h1:=of_decide_eq_false r1
   try simp only [ty] at h1
   obtain rfl:i = a.length:=by omega
   refine az ?_;refine sx7 ?_;refine qy ?_;refine a6 ?_
   exact hx8 rfl rfl rfl (⟨ccb (decide_eq_true (an6 (by omega) hI)).symm,trivial⟩)
theorem ar3:am Tryd.prog 8:=⟨Tryd.f8,Tryd.func8,by kernel_rfl,by kernel_rfl⟩
theorem akd (n:Int) (l:List Dp) (hl:l.length ≤ 16777216):ao Tryd.prog 8 [pI n,pP (dpl l)] (ay [pP (fdl (l.map (Dp.fd n)))]):=by
 refine ak (nt:=32) ai Tryd.func8 rfl rfl l9 ?_;refine sx7 ?_;refine qy ?_;refine a6 ?_;refine sx7 ?_;refine qy ?_;refine a6 ?_;refine sx7 ?_;(iterate 2 refine qy ?_)
 refine rc rfl rfl rfl rfl rfl rfl ak0 (ajb n l hl) (CoL.refl _) rfl rfl ?_;refine qy ?_;refine a6 ?_;refine a7 ?_;refine sx7 ?_;refine qy ?_;refine a6 ?_;refine ah ?_
 refine gf 5 900 true 2 46 (lf Fd.c []) (by decide) rfl (CoP.sl rfl (.inr rfl) (fun h=>h) (fun i j hi _=>absurd hi (Nat.not_lt_zero i))) (.inr rfl) rfl ?_
 have hll:(l.map (Dp.fd n)).length ≤ 16777216:=by rw [List.length_map];exact hl
 refine b4 (ι:=Nat) ⟨[(6,some _)],[]⟩ ⟨⟨c9,trivial⟩,trivial⟩ (fun i=>⟨[(5,some (.v (.one (.ref 900 ((l.map (Dp.fd n)).take i).length)))),(7,some (vI i))],[(900,some (.arr true 2 46 ((l.map (Dp.fd n)).take i).length (lf Fd.c ((l.map (Dp.fd n)).take i))))]⟩) (fun i=>i ≤ (l.map (Dp.fd n)).length) (fun i=>(l.map (Dp.fd n)).length - i) (0) (Nat.zero_le _) ⟨⟨⟨_,rfl,(CoR.refl _)⟩,⟨_,rfl,(CoR.refl _)⟩,trivial⟩,⟨u9,trivial⟩⟩ ?_
 rintro i hi
 have hlen:((l.map (Dp.fd n)).take i).length ≤ i:=by rw [List.length_take];omega
 refine a7 ?_;refine sx7 ?_;(iterate 4 refine qy ?_);refine a6 ?_;refine a8 _ rfl (fun r0=>?_) (fun r0=>?_)
 ·
  have h0:=of_decide_eq_true r0
  try simp only [ty] at h0
  refine aa ?_;refine a7 ?_;refine ah ?_;refine cw (E:=d6) ai bw [0,1,2,3,4,5,6,7,8,9,10,11,12,13,14] ?_;(iterate 12 refine qy ?_);refine m9 0 ?_
  refine ra 1 true rfl rfl rfl rfl rfl rfl ?_;refine qy ?_;refine a6 ?_;refine ⟨by kernel_rfl, ?_⟩;refine gy ?_;(iterate 3 refine qy ?_);refine a6 ?_;refine ⟨i + 1, ?_, ?_, ?_⟩
  · show i + 1 ≤ _;omega
  · first | omega | (dsimp only;omega)
  · exact ⟨⟨⟨_,rfl,(ej (bc (by omega)))⟩,⟨_,rfl,(CoR.refl _)⟩,c9,trivial⟩,⟨⟨_,rfl,(j1 (bc (by omega)) (CoP.refl _) (CoP.refl _))⟩,trivial⟩⟩
 ·
  have h0:=of_decide_eq_false r0
  try simp only [ty] at h0
  obtain rfl:i = (l.map (Dp.fd n)).length:=by omega
  refine az ?_;refine sx7 ?_;(iterate 2 refine qy ?_);refine a6 ?_;refine dl 4 rfl rfl rfl ?_
  exact hx8 rfl rfl rfl (⟨CoC.one (CoP.of_eq (by rw [List.take_length];rfl)),trivial⟩)
theorem aq3:ao Tryd.prog 11 [pI 3,pP (fdl []),pP (fdl [⟨1,2⟩]),pA 7] (ay [Fd.pc ⟨1,2⟩,pB true,pI 0]):=by
 have h:=ad4 3 [] [⟨1,2⟩] 7
 rw [ani.1,ani.2] at h
 exact h
theorem aqk:ao Tryd.prog 15 [pI 3,pP (fdl []),pP (fdl [⟨1,2⟩])] (ay [pP (asl [3,5]),pI 0]):=by
 have h:=ak3 3 [] [⟨1,2⟩]
 rw [am7.1,am7.2] at h
 exact h
theorem ao9:ao Tryd.prog 11 [pI 3,pP (fdl [⟨2,4⟩]),pP (fdl []),pA 7] (ay [Fd.pc ⟨2,1⟩,pB true,pI 0]):=by
 have h:=ad4 3 [⟨2,4⟩] [] 7
 rw [aoa.1,aoa.2] at h
 exact h
theorem ano:ao Tryd.prog 15 [pI 3,pP (fdl [⟨2,4⟩]),pP (fdl [])] (ay [pP (asl [3,6]),pI 0]):=by
 have h:=ak3 3 [⟨2,4⟩] []
 rw [aml.1,aml.2] at h
 exact h
theorem as3:ao Tryd.prog 16 [pP (asl [3,5]),pP (asl [3,5])] (ay [pB true]):=by
 have h:=aod [3,5] [3,5]
 rw [decide_eq_true rfl] at h
 exact h
theorem ase:ao Tryd.prog 16 [pP (asl [3,6]),pP (asl [3,6])] (ay [pB true]):=by
 have h:=aod [3,6] [3,6]
 rw [decide_eq_true rfl] at h
 exact h
theorem a2n:am Tryd.prog 5:=⟨Tryd.f5,Tryd.func5,by kernel_rfl,by kernel_rfl⟩
theorem re  : ao Tryd.prog 5 [] (ay [pB true]):=by
 refine ak (nt:=80) ai Tryd.func5 rfl rfl l9 ?_;refine sx7 ?_;refine qy ?_;refine a6 ?_;refine sx7 ?_;refine qy ?_;refine m9 0 ?_;refine qy ?_;refine a6 ?_;refine dl 1 rfl rfl rfl ?_
 refine sx7 ?_;refine qy ?_;refine rc rfl rfl rfl rfl rfl rfl a2u (aq3) (⟨CoC.refl _,CoC.one a2h,CoC.one (a3g (CoP.refl _) (CoP.refl _)),CoC.refl _,trivial⟩) rfl rfl ?_;(iterate 4 refine qy ?_);refine m9 1 ?_
 refine s9 ?_;(iterate 2 refine qy ?_);refine a6 ?_;refine sx7 ?_;refine qy ?_;refine rc rfl rfl rfl rfl rfl rfl ag8 (aqk) (⟨CoC.refl _,CoC.one a2h,CoC.one (a3g (CoP.refl _) (CoP.refl _)),trivial⟩) rfl rfl ?_
 (iterate 5 refine qy ?_);refine a6 ?_;refine a7 ?_;refine a3t [0,1] [2,3,4,5,6,7,8,9,10] rfl ?_;refine a3e (E:=d6) ai ?_;refine qy ?_;refine m9 2 ?_;refine a6 ?_;refine aju ?_
 refine a5x 27 rfl rfl rfl ?_;refine aaj ?_;refine a3e (E:=d6) (L1:=[2,3,4,5,6,7,8,9,10]) (L2:=[]) ai ?_
 refine rc rfl rfl rfl rfl rfl rfl a2u (ao9) (⟨CoC.refl _,CoC.one (a3g (CoP.refl _) (CoP.refl _)),CoC.one a2h,CoC.refl _,trivial⟩) rfl rfl ?_;(iterate 4 refine qy ?_);refine m9 3 ?_;refine s9 ?_
 (iterate 2 refine qy ?_);refine a6 ?_;refine aec ?_;refine a7 ?_;refine a3t [0,1] [2,3,4,5,6,7] rfl ?_;refine a3e (E:=d6) ai ?_;refine qy ?_;refine m9 4 ?_;refine a6 ?_
 refine aju ?_;refine a5x 34 rfl rfl rfl ?_;refine aaj ?_;refine a3e (E:=d6) (L1:=[2,3,4,5,6,7]) (L2:=[]) ai ?_
 refine rc rfl rfl rfl rfl rfl rfl ag8 (ano) (⟨CoC.refl _,CoC.one (a3g (CoP.refl _) (CoP.refl _)),CoC.one a2h,trivial⟩) rfl rfl ?_;(iterate 5 refine qy ?_);refine a6 ?_;refine aec ?_;refine a7 ?_
 refine cw (E:=d6) ai bw [0,1,2,3,4,5,6,7,8,9,10,11,12,13,14,15,16,17,18,19,20,21,22,23,24,25,26,27,28,29,30,31,32,33,34,35,36,37,38,39,40,41,42] ?_
 (iterate 18 refine qy ?_);refine m9 5 ?_
 refine j3 rfl rfl rfl rfl rfl rfl afi (ao.eat (hcs:=[.one (.p (asl [3,5])), .one (.ref 5 2)]) (o1:=[(5, .arr true 1 40 2 (lf sC [3,5]))]) (as3) rfl (by (repeat' apply And.intro) <;> first | trivial | rfl) (CoL.refl _)) (gv.refl _) ⟨⟨_,rfl,(a7z (CoP.refl _) (CoP.refl _))⟩,trivial⟩ rfl rfl ?_
 (iterate 19 refine qy ?_);refine m9 6 ?_
 refine j3 rfl rfl rfl rfl rfl rfl afi (ao.eat (hcs:=[.one (.p (asl [3,6])), .one (.ref 6 2)]) (o1:=[(6, .arr true 1 40 2 (lf sC [3,6]))]) (ase) rfl (by (repeat' apply And.intro) <;> first | trivial | rfl) (CoL.refl _)) (gv.refl _) ⟨⟨_,rfl,(a7z (CoP.refl _) (CoP.refl _))⟩,trivial⟩ rfl rfl ?_
 (iterate 2 refine qy ?_);refine a6 ?_;refine ⟨by kernel_rfl, ?_⟩
 exact hx8 rfl rfl rfl (CoL.refl _)
end Go.Hx
end
section
namespace Go.Hx
structure MvO (d:Fd) (T0:List AS) (x:Nat × List AS × Nat):Prop where
 nd:x.2.1.Nodup
 pre:T0 <+: x.2.1
 res:mvO d x.1 x.2.1 x.2.2 = mvO d FU2 T0 0
 le:x.2.2 ≤ x.2.1.length
 fuel:4294967296 < x.1 + x.2.2
structure MvI (d:Fd) (T:List AS) (i:Nat) (x:Nat × List AS × Nat):Prop where
 nd:x.2.1.Nodup
 pre:T <+: x.2.1
 res:mvI d x.1 x.2.1 i x.2.2 = mvI d 8589934592 T i 0
 le:x.2.2 ≤ x.2.1.length
 fuel:4294967296 < x.1 + x.2.2
section
variable {d:Fd} {T0 T:List AS} {i f k:Nat}
theorem MvO.start (h:T.Nodup):MvO d T (FU2,T,0):=⟨h,List.prefix_refl _,rfl,Nat.zero_le _,by show 4294967296 < 8589934592 + 0;omega⟩
theorem MvI.start (h:T.Nodup):MvI d T i (8589934592,T,0):=⟨h,List.prefix_refl _,rfl,Nat.zero_le _,by show 4294967296 < 8589934592 + 0;omega⟩
theorem MvO.pos (h:MvO d T0 (f,T,i)):0 < f ∧ T.length ≤ 4294967296:=by
 have h1:=xd h.nd
 have h2:=h.le
 have h3:=h.fuel
 dsimp only at h1 h2 h3
 omega
theorem MvI.pos {U:List AS} (h:MvI d T i (f,U,k)):0 < f ∧ U.length ≤ 4294967296:=by
 have h1:=xd h.nd
 have h2:=h.le
 have h3:=h.fuel
 dsimp only at h1 h2 h3
 omega
theorem MvO.done (h:MvO d T0 (f,T,i)) (hi:¬ i < T.length):T = mvO d FU2 T0 0:=by
 have hp:=h.pos.1
 have hr:mvO d f T i = mvO d FU2 T0 0:=h.res
 obtain ⟨g,rfl⟩:∃ g,f = g + 1:=⟨f - 1,by omega⟩
 unfold mvO at hr
 rw [if_neg hi] at hr
 exact hr
theorem MvI.done {U:List AS} (h:MvI d T i (f,U,k)) (hk:¬ k < U.length):U = mvI d 8589934592 T i 0:=by
 have hp:=h.pos.1
 have hr:mvI d f U i k = mvI d 8589934592 T i 0:=h.res
 obtain ⟨g,rfl⟩:∃ g,f = g + 1:=⟨f - 1,by omega⟩
 unfold mvI at hr
 rw [if_neg hk] at hr
 exact hr
end
end Go.Hx
end
section
namespace Go.Hx
structure ChI (l m:List Fd) (R:List AS) (x:Nat × List AS × Bool):Prop where
 nd:x.2.1.Nodup
 t:x.2.2 = true → chF l m x.1 x.2.1 = R ∧ muT x.2.1 < x.1
 f:x.2.2 = false → x.2.1 = R
def avm (x:Nat × List AS × Bool):Nat:=x.1 + (bif x.2.2 then 1 else 0)
theorem ChI.start (l m:List Fd) (rest:AS):ChI l m (chT l m rest) (MU,agy rest,true):=⟨aqp rest,fun _=>⟨rfl,ank _⟩,fun h=>by cases h⟩
def auj (l:List Fd) (T:List AS) (i:Nat):TC:=(l.take i).foldl fdR (T,false)
def mvX (m:List Fd) (x:TC) (i:Nat):TC:=(m.take i).foldl mvR x
structure FdI (d:Fd) (U0:List AS) (x:Nat × List AS × Bool):Prop where
 nd:x.2.1.Nodup
 res:ye d x.1 x.2.1 = ye d FU2 U0
 fuel:(orL x.2.1).toNat < x.1
 f:x.2.2 = false → x.2.1 = U0
 t:x.2.2 = true → (fdT d U0).isSome = true
section
variable {d:Fd} {U0 U:List AS} {g:Nat} {b c:Bool} {s:AS}
theorem FdI.start (h:U0.Nodup):FdI d U0 (FU2,U0,false):=⟨h,rfl,Nat.lt_of_lt_of_le (orL U0).isLt (show 2 ^ 32 ≤ FU2 by decide),fun _=>rfl,fun h=>by cases h⟩
theorem FdI.len (h:FdI d U0 (g,U,b)):U.length ≤ 8589934592:=Nat.le_trans (xd (show U.Nodup from h.nd)) (by decide)
theorem FdI.done (h:FdI d U0 (g,U,b)) (hq:fdT d U = none):(U,c || b) = fdR (U0,c) d:=by
 have h2:ye d g U = ye d FU2 U0:=h.res
 rw [afb hq] at h2
 unfold fdR
 rw [← h2]
 cases hb:b with
 | true=>rw [h.t hb]
 | false =>
  have e:U = U0:=h.f hb
  rw [← e,hq]
  rfl
end
end Go.Hx
end
section
namespace Go.Hx
def am5 (a b:AS):Bool:=a1j b a
def av5 (l:List AS):List AS:=abr am5 l
def okM (l:List AS) (i k:Nat):Bool:=(List.range k).all fun j=>decide (j = i) || !a1j (l.getD j default) (l.getD i default)
def aty (l:List AS) (i:Nat):List AS:=((ord l).take i).filter fun x=>!x8 am5 (ord l) x
def yq (rest L x:AS) (T:List AS) (y:AS):Bool:=!decide (y = 0) && (decide (y &&& ~~~rest = 0) && decide ((L &&& ~~~(x ||| y)) ∈ T))
def yL (rest L x:AS) (T:List AS) (k:Nat):List AS:=((List.range k).map (BitVec.ofNat 32)).filter (yq rest L x T)
section
variable {rest L x:AS} {T:List AS} {k:Nat}
end
end Go.Hx
end
section
namespace Go.Hx
section
variable {n:Int} {p m:List Fd} {E:Int → Int → Prop} {R:Rw → Prop}
def aql (E:Int → Int → Prop) (R:Rw → Prop) (x b:AS):Prop:=∀ a c,R a → R c → AgE E a c x → R (dw a c b)
theorem qa (h:Mdl n.toNat p m E R) {a c r:Rw} {b:AS} (hr:R r) (ha:R a) (hc:R c) (he:∀ i,i < n.toNat → E (r.getD i default) (if al b (i:Int) = true then a.getD i default else c.getD i default)):R (dw a c b):=by
 have la:=h.len ha
 have lc:=h.len hc
 have lr:=h.len hr
 refine h.cong hr (by rw [n5,lc,lr]) fun i hi=>?_
 rw [je (by omega)]
 exact he i (by omega)
theorem ai7 (h8:n ≤ 8) (h:Mdl n.toNat p m E R) {x:AS} {bs:List AS} (hb:Blk (jn p m) (aq n &&& ~~~x) bs):∀ b ∈ bs,aql E R x b:=by
 have hN:n.toNat ≤ 8:=by omega
 refine hb.ind _ (fun a c ha hc hag=>?_) fun d hd b hG hsp=>?_
 · refine qa h ha ha hc fun i hi=>?_
   split
   · exact h.refl _
   · rename_i hh
     refine hag i (by rw [h.len ha];exact hi) ?_
     rw [bp (by omega)] at hh ⊢
     rw [lm (by omega)] at hh
     have hf:=ais (n:=n) (i:=i) (by omega) hi
     rw [bp (by omega)] at hf
     rw [hf] at hh
     simpa using hh
 · obtain ⟨s1,s2,s3⟩:=rg.1 hsp
   have hL:∀ i:Nat,i < n.toNat → al d.lhs (i:Int) = true → al b (i:Int) = false:=fun i hi hl=>by
    rw [bp (by omega)] at hl ⊢
    cases hbi:b.getLsbD i with
    | false=>rfl
    | true=>rw [adp.1 s1 i (by omega) hbi] at hl;cases hl
   have key:∀ a c,R a → R c → AgE E a c x → R (dw a c b) ∧ AgE E (dw a c b) c d.lhs:=fun a c ha hc hag=>by
    have hs:=hG a c ha hc hag
    refine ⟨hs,fun i hi hl=>?_⟩
    have hi2:i < n.toNat:=by rw [h.len hs] at hi;exact hi
    rw [je (by rw [h.len hc];exact hi2),if_neg (by rw [hL i hi2 hl];decide)]
    exact h.refl _
   have hor:∀ (s t:AS) (i:Nat),i < n.toNat → al (s &&& t) (i:Int) = (al s (i:Int) && al t (i:Int)):=fun s t i hi=>by
    rw [bp (by omega),bp (by omega),bp (by omega),BitVec.getLsbD_and]
   have hdf:∀ (s t:AS) (i:Nat),i < n.toNat → al (s &&& ~~~t) (i:Int) = (al s (i:Int) && !al t (i:Int)):=fun s t i hi=>by
    rw [bp (by omega),bp (by omega),bp (by omega),lm (by omega)]
   rcases aeq.1 hd with hm | ⟨f,hf,a0,hal,hfa,rfl⟩
   · constructor
     · intro a c ha hc hag
       obtain ⟨h1,h2⟩:=key a c ha hc hag
       have h3:=h.mv hm h1 hc h2
       refine qa h h3 ha hc fun i hi=>?_
       rw [je (by rw [h.len hc];exact hi),je (by rw [h.len hc];exact hi),hor _ _ i hi,pg]
       have hli:=hL i hi
       cases h4:al d.lhs (i:Int) <;> cases h5:al d.rhs (i:Int) <;> cases h6:al b (i:Int) <;> simp_all <;> exact h.refl _
     · intro a c ha hc hag
       obtain ⟨h1,h2⟩:=key a c ha hc hag
       have h2':AgE E c (dw a c b) d.lhs:=fun i hi hl=>h.symm (h2 i (by rw [h.len h1];rw [h.len hc] at hi;exact hi) hl)
       have h3:=h.mv hm hc h1 h2'
       refine qa h h3 ha hc fun i hi=>?_
       rw [je (by rw [h.len h1];exact hi),je (by rw [h.len hc];exact hi),hdf _ _ i hi,pg]
       have hli:=hL i hi
       cases h4:al d.lhs (i:Int) <;> cases h5:al d.rhs (i:Int) <;> cases h6:al b (i:Int) <;> simp_all <;> exact h.refl _
   · have hba:b.getLsbD a0 = true:=by
      obtain ⟨i,hi,h1,h2⟩:=a8z s2
      rw [vl hal hi] at h2
      have:i = a0:=by simpa using h2
      rw [← this];exact h1
     have hone:∀ a c,R a → R c → AgE E a c x → a0 < n.toNat → E (a.getD a0 default) (c.getD a0 default):=fun a c ha hc hag hlt=>by
      obtain ⟨h1,h2⟩:=key a c ha hc hag
      have h3:=h.fd hf h1 hc h2 a0 (by rw [h.len h1];exact hlt) (by rw [bp hal];exact hfa)
      rw [je (by rw [h.len hc];exact hlt),if_pos (by rw [bp hal];exact hba)] at h3
      exact h3
     constructor
     · intro a c ha hc hag
       refine qa h hc ha hc fun i hi=>?_
       show E _ (if al (b &&& ku a0) (i:Int) = true then _ else _)
       split
       · rename_i hh
         rw [hor _ _ i hi,Bool.and_eq_true,bp (s:=ku a0) (by omega),vl hal (by omega),decide_eq_true_eq] at hh
         obtain rfl:=hh.2
         exact h.symm (hone a c ha hc hag hi)
       · exact h.refl _
     · intro a c ha hc hag
       obtain ⟨h1,_⟩:=key a c ha hc hag
       refine qa h h1 ha hc fun i hi=>?_
       show E _ (if al (b &&& ~~~ku a0) (i:Int) = true then _ else _)
       rw [je (by rw [h.len hc];exact hi),hdf _ _ i hi,bp (s:=ku a0) (by omega),vl hal (by omega)]
       by_cases e:i = a0
       · subst e
         rw [if_pos (by rw [bp hal];exact hba)]
         simp only [decide_true,Bool.not_true,Bool.and_false,Bool.false_eq_true,if_false]
         exact hone a c ha hc hag hi
       · simp only [e,decide_false,Bool.not_false,Bool.and_true]
         exact h.refl _
theorem ama {s:AS} {v:Fd} (h:da n p m s = some v):sub v.lhs s ∧ ∃ b ∈ blks (jn p m) (aq n &&& ~~~v.lhs),v.rhs = b &&& s:=by
 unfold da at h
 obtain ⟨x,hx,hv⟩:=List.exists_of_findSome?_eq_some h
 have hxp:=y5 hx
 unfold vb at hv
 split at hv
 · cases hv
 · split at hv
   · rename_i hlen
     cases hv
     have m0:=o3 (l:=fv n p m x s) (i:=0) (by omega)
     obtain ⟨b,hb,_,e⟩:=a1u.1 m0
     exact ⟨hxp,b,hb,e⟩
   · cases hv
end
section
variable {n:Int} {p m:List Fd}
end
end Go.Hx
end
