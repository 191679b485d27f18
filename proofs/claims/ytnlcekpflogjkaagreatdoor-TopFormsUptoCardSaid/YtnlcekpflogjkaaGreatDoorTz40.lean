/- A part of the proof: SrC Jo1. -/
import Derived.Shelf.SlSortCmp.Insertion
import Derived.Test.YtnlcekpflogjkaaGreatDoorTz29
import Derived.Test.YtnlcekpflogjkaaGreatDoorTz39
set_option linter.all false
set_option maxRecDepth 100000
namespace Go.Hx
section
open Go.Proofs Go.RowKit
def bhr:∀(a b:List UInt8),Lib.compareBytes a b=av2 a b
 | [],[]=>rfl
 | [],_::_=>rfl
 |_::_,[]=>rfl
 | x :: xs,y::ys=>by
  unfold Lib.compareBytes av2;rw[bhr xs ys];by_cases h1:x<y
  · have h2:x.toNat<y.toNat:=h1
    rw[if_pos h1,if_neg (fun e=>by rw[e]at h2;omega)];unfold sgn;rw[if_pos bx5]
  have h2:¬x.toNat<y.toNat:=h1;rw[if_neg h1];by_cases h3:y<x
  · have h4:y.toNat<x.toNat:=h3
    rw[if_pos h3,if_neg (fun e=>by rw[e]at h4;omega)];unfold sgn;rw[if_neg bx5,if_pos bx5]
  have h4:¬y.toNat<x.toNat:=h3;rw[if_neg h3,if_pos (UInt8.toNat_inj.1 bx5)]
def b9d:goodFn bxr 216:=⟨Tryz.f216,Tryz.func216,by kernel_rfl,by kernel_rfl⟩
def bdf (a b:ByteArray):a7 bxr 216 [pS a,pS b] (ae [pI (a4b a b)]):=by
 intro w imm us htab him hus
 match us,hus with
 | [u,v],⟨hu,hv,_⟩ =>
  obtain⟨rfl,_⟩:=hu;obtain⟨rfl,_⟩:=hv;refine(Any.bytealg_CompareString Tryz.laysCS a b w).mono ?_;rintro e w' ⟨rfl,rfl⟩;exact⟨_,imm,rfl,⟨by rw[bhr];rfl,rfl⟩,fun _ _=>rfl,him,Below.refl _ _⟩
 | [],h=>exact h.elim
 | [_],⟨_,h⟩=>exact h.elim
 |_::_::_::_,⟨_,_,h⟩=>exact h.elim
end
section
open Go.Proofs Go.RowKit Go.Sort
structure Tot {α:Type} (c:α->α->Int):Prop where
 anti:∀a b,c b a=- c a b
 zero:∀a b,c a b=0<->a=b
 tr:∀a b d,c a b<0->c b d<0->c a d<0
section
variable {α:Type}{c:α->α->Int}
theorem Tot.self(h:Tot c)(a:α):c a a=0:=(h.zero a a).2 rfl
theorem Tot.swo (h:Tot c):SWO (ltOf c) where
 irrefl x:=by unfold ltOf;rw[h.self];rfl
 trans x y z h1 h2:=by
  unfold ltOf at *;exact decide_eq_true (h.tr x y z (of_decide_eq_true h1) (of_decide_eq_true h2))
 ntrans x y z h1 h2:=by
  unfold ltOf at *;refine decide_eq_false fun hxz=>?_;have h1:=of_decide_eq_false h1;have h2:=of_decide_eq_false h2;have ha:=h.anti x y;by_cases e:x=y
  · subst e;exact h2 hxz
  have:c x y≠0:=fun e2=>e ((h.zero x y).1 e2);exact h2 (h.tr y x z bx5 hxz)
abbrev Asc(c:α->α->Int)(l:List α):Prop:=l.Pairwise fun a b=>c a b<0
theorem Tot.ext (h:Tot c):∀{l m:List α},Asc c l->Asc c m->(∀x,x∈l<->x∈m)->l=m
 | [],[],_,_,_=>rfl
 | [],y::m,_,_,e=>by have:=(e y).2 bx8;cases this
 |x::l,[],_,_,e=>by have:=(e x).1 bx8;cases this
 | x :: l,y::m,h1,h2,e=>by
  have h1':=btz.1 h1;have h2':=btz.1 h2
  have hxy:x=y:=by
   apply Classical.byContradiction;intro hne
   have hx:x∈m:=by
    have:=(e x).1 bx8
    rcases btd.1 this with e2|e2
    · exact absurd e2 hne
    exact e2
   have hy:y∈l:=by
    have:=(e y).2 bx8
    rcases btd.1 this with e2|e2
    · exact absurd e2.symm hne
    exact e2
   have a1:=h2'.1 x hx;have a2:=h1'.1 y hy;have a3:=h.anti x y;omega
  subst hxy;refine congrArg (x::·) (Tot.ext h h1'.2 h2'.2 fun z=>⟨fun hz=>?_,fun hz=>?_⟩)
  · have:=(e z).1 (by simp[hz])
    rcases btd.1 this with rfl|e2
    · have:=h1'.1 z hz;rw[h.self]at this;omega
    exact e2
  have:=(e z).2 (by simp[hz])
  rcases btd.1 this with rfl|e2
  · have:=h2'.1 z hz;rw[h.self]at this;omega
  exact e2
def biv(c:α->α->Int)(l:List α):List α:=l.mergeSort fun x y=>!(ltOf c) y x
theorem Tot.srt (h:Tot c) (l:List α):(biv c l).Pairwise fun a b=>¬c b a<0:=by
 have:=bww (le:=fun x y:α=>!(ltOf c) y x) (fun a b d h1 h2=>by
  simp only[btv]at *
  exact h.swo.ntrans _ _ _ h2 h1) (fun a b=>by
  simp only[buk,btv,ltOf,decide_eq_false_iff_not];have:=h.anti a b
  omega) l
 refine this.imp fun {a b} hab=>?_;simpa [ltOf]using hab
end
end
end Go.Hx
