/- A part of the proof: SrC Jo1 Tb5. -/
import Derived.Shelf.SlSortCmp.Insertion
import Derived.Test.YtnlcekpflogjkaaGreatDoorTy34
import Derived.Test.YtnlcekpflogjkaaGreatDoorTy36
set_option linter.all false
set_option maxRecDepth 100000
namespace Go.Hx
section
open Go.Proofs Go.RowKit
def bl0:∀(a b:List UInt8),Lib.compareBytes a b=ik a b
 | [],[]=>rfl
 | [],_::_=>rfl
 |_::_,[]=>rfl
 | x :: xs,y::ys=>by
  unfold Lib.compareBytes ik;rw[bl0 xs ys];by_cases h1:x<y
  · have h2:x.toNat<y.toNat:=h1
    rw[if_pos h1,if_neg (fun e=>by rw[e]at h2;omega)];unfold sgn;rw[if_pos bww]
  have h2:¬x.toNat<y.toNat:=h1;rw[if_neg h1];by_cases h3:y<x
  · have h4:y.toNat<x.toNat:=h3
    rw[if_pos h3,if_neg (fun e=>by rw[e]at h4;omega)];unfold sgn;rw[if_neg bww,if_pos bww]
  have h4:¬y.toNat<x.toNat:=h3;rw[if_neg h3,if_pos (UInt8.toNat_inj.1 bww)]
def bc4:goodFn bxn 216:=⟨Tryz.f216,Tryz.func216,by kernel_rfl,by kernel_rfl⟩
def baa (a b:ByteArray):a6 bxn 216 [pS a,pS b] (ae [pI (nq a b)]):=by
 intro w imm us htab him hus
 match us,hus with
 | [u,v],⟨hu,hv,_⟩ =>
  obtain⟨rfl,_⟩:=hu;obtain⟨rfl,_⟩:=hv;refine(Any.bytealg_CompareString Tryz.laysCS a b w).mono ?_;rintro e w' ⟨rfl,rfl⟩;exact⟨_,imm,rfl,⟨by rw[bl0];rfl,rfl⟩,fun _ _=>rfl,him,Below.refl _ _⟩
 | [],h=>exact h.elim
 | [_],⟨_,h⟩=>exact h.elim
 |_::_::_::_,⟨_,_,h⟩=>exact h.elim
end
section
open Go.Proofs Go.RowKit Go.Sort
structure Tot {α:Type} (c:α->α->Int):Prop where
 anti:∀a b,c b a=- c a b
 zero:∀a b,c a b=0<->a=b
 tr:∀a b d,c a b<0->c b d<0->c a d<0
section
variable {α:Type}{c:α->α->Int}
theorem Tot.self(h:Tot c)(a:α):c a a=0:=(h.zero a a).2 rfl
theorem Tot.swo (h:Tot c):SWO (ltOf c) where
 irrefl x:=by unfold ltOf;rw[h.self];rfl
 trans x y z h1 h2:=by
  unfold ltOf at *;exact decide_eq_true (h.tr x y z (of_decide_eq_true h1) (of_decide_eq_true h2))
 ntrans x y z h1 h2:=by
  unfold ltOf at *;refine decide_eq_false fun hxz=>?_;have h1:=of_decide_eq_false h1;have h2:=of_decide_eq_false h2;have ha:=h.anti x y;by_cases e:x=y
  · subst e;exact h2 hxz
  have:c x y≠0:=fun e2=>e ((h.zero x y).1 e2);exact h2 (h.tr y x z bww hxz)
theorem Tot.eq (h:Tot c) (x y:α) (h1:ltOf c x y=false) (h2:ltOf c y x=false):x=y:=by
 unfold ltOf at *;have h1:=of_decide_eq_false h1;have h2:=of_decide_eq_false h2;have ha:=h.anti x y;exact(h.zero x y).1 bww
abbrev Asc(c:α->α->Int)(l:List α):Prop:=l.Pairwise fun a b=>c a b<0
theorem Tot.ext (h:Tot c):∀{l m:List α},Asc c l->Asc c m->(∀x,x∈l<->x∈m)->l=m
 | [],[],_,_,_=>rfl
 | [],y::m,_,_,e=>by have:=(e y).2 bx0;cases this
 |x::l,[],_,_,e=>by have:=(e x).1 bx0;cases this
 | x :: l,y::m,h1,h2,e=>by
  have h1':=bty.1 h1;have h2':=bty.1 h2
  have hxy:x=y:=by
   apply Classical.byContradiction;intro hne
   have hx:x∈m:=by
    have:=(e x).1 bx0
    rcases bt7.1 this with e2|e2
    · exact absurd e2 hne
    exact e2
   have hy:y∈l:=by
    have:=(e y).2 bx0
    rcases bt7.1 this with e2|e2
    · exact absurd e2.symm hne
    exact e2
   have a1:=h2'.1 x hx;have a2:=h1'.1 y hy;have a3:=h.anti x y;omega
  subst hxy;refine congrArg (x::·) (Tot.ext h h1'.2 h2'.2 fun z=>⟨fun hz=>?_,fun hz=>?_⟩)
  · have:=(e z).1 (by simp[hz])
    rcases bt7.1 this with rfl|e2
    · have:=h1'.1 z hz;rw[h.self]at this;omega
    exact e2
  have:=(e z).2 (by simp[hz])
  rcases bt7.1 this with rfl|e2
  · have:=h2'.1 z hz;rw[h.self]at this;omega
  exact e2
theorem Tot.nodup(h:Tot c){l:List α}(hl:Asc c l):l.Nodup:=hl.imp fun {a b} hab e=>by subst e;rw[h.self]at hab;omega
def ac9(c:α->α->Int)(l:List α):List α:=l.mergeSort fun x y=>!(ltOf c) y x
def b3k{l:List α}{x:α}:x∈ac9 c l<->x∈l:=List.mem_mergeSort
def anq{l:List α}:(ac9 c l).length=l.length:=bw0 _
theorem Tot.srt (h:Tot c) (l:List α):(ac9 c l).Pairwise fun a b=>¬c b a<0:=by
 have:=bwl (le:=fun x y:α=>!(ltOf c) y x) (fun a b d h1 h2=>by
  simp only[bu4]at *
  exact h.swo.ntrans _ _ _ h2 h1) (fun a b=>by
  simp only[bud,bu4,ltOf,decide_eq_false_iff_not];have:=h.anti a b
  omega) l
 refine this.imp fun {a b} hab=>?_;simpa [ltOf]using hab
end
def aim:Tot sgn:=⟨fun a b=>by unfold sgn;repeat' split<;>omega,fun a b=>oi,fun a b d h1 h2=>by
 unfold sgn at *
 repeat' split at h1
 all_goals repeat' split at h2
 all_goals repeat' split
 all_goals omega⟩
def aad{a b:Int}:sgn a b<0<->a<b:=by unfold sgn;repeat' split<;>omega
def aka:∀(a b:List UInt8),ik b a=- ik a b
 | [],[]=>rfl
 | [],_::_=>rfl
 |_::_,[]=>rfl
 | x :: xs,y::ys=>by
  unfold ik;by_cases h:x=y
  · subst h
    simp[aka xs ys]
  rw[if_neg h,if_neg (fun e=>h e.symm)];exact aim.anti _ _
def ato:∀(a b d:List UInt8),ik a b<0->ik b d<0->ik a d<0
 | [],[],_,h1,_=>by simp[ik]at h1
 | [],_::_,[],_,h2=>by simp[ik]at h2
 | [],_::_,_::_,_,_=>by simp[ik]
 |_::_,[],_,h1,_=>by simp[ik]at h1
 |_::_,_::_,[],_,h2=>by simp[ik]at h2
 | x :: xs,y::ys,z::zs,h1,h2=>by
  unfold ik at *;by_cases e1:x=y
  · subst e1
    rw[if_pos rfl]at h1;by_cases e2:x=z
    · subst e2
      rw[if_pos rfl]at h2 ⊢;exact ato xs ys zs h1 h2
    rw[if_neg e2]at h2 ⊢;exact h2
  rw[if_neg e1]at h1;by_cases e2:y=z
  · subst e2
    rw[if_neg e1];exact h1
  rw[if_neg e2]at h2;rw[aad]at h1 h2;rw[if_neg (fun e=>by subst e;omega),aad];omega
def asq:Tot nq:=⟨fun a b=>aka _ _,fun a b=>aav,fun a b d=>ato _ _ _⟩
def apy {x y:Int}:(if x≠0 then x else y)<0<->x<0\/(x=0/\y<0):=by
 split<;>omega
def b9y {a b:Val}:gv a b<0<->a.kind<b.kind\/(a.kind=b.kind/\(a.num<b.num\/(a.num=b.num/\nq a.str b.str<0))):=by
 unfold gv;rw[apy,apy,aad,aad,oi,oi]
def vz:Tot gv:=⟨fun a b=>by
 unfold gv;rw[aim.anti a.kind b.kind,aim.anti a.num b.num,asq.anti a.str b.str]
 repeat' split
 all_goals omega,fun a b=>a1m,fun a b d h1 h2=>by
 rw[b9y]at *
 rcases h1 with h1|⟨e1,h1⟩<;>rcases h2 with h2|⟨e2,h2⟩
 · exact .inl bww
 · exact .inl bww
 · exact .inl bww
 refine .inr ⟨by omega, ?_⟩
 rcases h1 with h1|⟨f1,h1⟩<;>rcases h2 with h2|⟨f2,h2⟩
 · exact .inl bww
 · exact .inl bww
 · exact .inl bww
 exact .inr ⟨by omega,asq.tr _ _ _ h1 h2⟩⟩
def a64 {x y:Val} {xs ys:List Val}:dp (x::xs) (y::ys)<0<->gv x y<0\/(x=y/\dp xs ys<0):=by
 rw[dp,apy,a1m]
def aeo:∀(a b:List Val),dp b a=- dp a b
 | [],[]=>rfl
 | [],_::_=>rfl
 |_::_,[]=>rfl
 | x::xs,y::ys=>by
  unfold dp;rw[vz.anti x y,aeo xs ys]
  repeat' split
  all_goals omega
def anz:∀(a b d:List Val),dp a b<0->dp b d<0->dp a d<0
 | [],[],_,h1,_=>by simp[dp]at h1
 | [],_::_,[],_,h2=>by simp[dp]at h2
 | [],_::_,_::_,_,_=>by simp[dp]
 |_::_,[],_,h1,_=>by simp[dp]at h1
 |_::_,_::_,[],_,h2=>by simp[dp]at h2
 | x::xs,y::ys,z::zs,h1,h2=>by
  rw[a64]at *
  rcases h1 with h1|⟨rfl,h1⟩<;>rcases h2 with h2|⟨rfl,h2⟩
  · exact .inl (vz.tr _ _ _ h1 h2)
  · exact .inl h1
  · exact .inl h2
  exact .inr ⟨rfl,anz xs ys zs h1 h2⟩
def b3f:Tot dp:=⟨aeo,fun a b=>a61,anz⟩
end
section
open Go.Proofs
def bfa(n:Nat)(c:Bool)(f:Nat->Nat->PV)(hn:n<=8796093022208) :
 d9 bxn 105 [.one (.p (.sl n 1 c f))] [] (.v (.one (.ref 0 n))) [(0, .arr true 1 9 n f)] []:=by
 refine hfx (nt:=8) Tryz.func105 ?_;refine sx7 ?_;refine c7 true rfl rfl rfl rfl rfl trivial ?_;refine cj ?_;refine ze (ι:=Bool) (fun c=>⟨[(0,some (bp (.sl n 1 c f)))],[]⟩) (fun _=>True) ?_ fun c _=>?_
 · rcases buc n with hz|h0
   · subst hz
     refine hw_exact' 0 rfl fun ad cap hcap=>?_;refine sx7 ?_;(iterate 2 refine c7 true rfl rfl rfl rfl rfl trivial ?_);refine cj ?_;refine al ad.isNone rfl ?_ ?_<;>intro hc
     · refine sx7 ?_
       refine c7 true rfl rfl rfl rfl rfl trivial ?_;refine cj ?_;refine d4 2 0 true 1 9 f bx3 rfl (CoP.sl rfl (.inr rfl) (fun h=>h) fun i j hi _=>absurd hi (bt1 i)) (.inr rfl) rfl ?_;refine hrr ?_;exact⟨_,_,rfl,trivial,CoR.refl _,uu⟩
     refine dn ?_;exact⟨false,trivial,⟨⟨_,rfl,CoP.raw_sl hcap⟩,trivial⟩,trivial⟩
   refine sx7 ?_;refine c7 true rfl rfl rfl rfl rfl trivial ?_;refine c7 true rfl rfl rfl rfl rfl h0 ?_;refine cj ?_;refine al false rfl (fun hc=>by cases hc) (fun hc=>?_);refine dn ?_;exact⟨c,trivial,tt,trivial⟩
 refine sx7 ?_;refine wu 0 rfl rfl rfl rfl rfl rfl trivial ?_;refine c7 true rfl rfl rfl rfl rfl trivial ?_;refine zp 0 true rfl rfl rfl rfl rfl rfl ⟨trivial,rfl,rfl,rfl, .inl rfl,by show 0+n<=9223372036854775807;omega,by show(0+n)*16<=140737488355328;omega,fun _=>.inl rfl⟩ ?_;refine c7 true rfl rfl rfl rfl rfl trivial ?_;refine cj ?_;refine hrr ?_;refine⟨_,_,rfl,trivial,CoR.of_eq (by show HR.v (.one (.ref 0 (0+n)))=_;rw[btk]),⟨⟨_,rfl, ?_⟩,trivial⟩⟩;exact⟨fun h=>h,rfl,rfl,(btk n).symm,fun i j _ _=>CoP.of_eq (by simp[ep])⟩
def b7f (n:Nat) (c:Bool) (f:Nat->Nat->PV) (hn:n<=8796093022208):a6 bxn 105 [.one (.sl n 1 c f)] (.v (.one (.sl n 1 false f))) :=
 d9.pure (args:=[.one (.sl n 1 c f)]) (l:=[.one (.ref 0 n)]) (bfa n c f hn) rfl ⟨rfl,trivial⟩
def c77(l:List ByteArray)(h:l.length<=68719476736):a6 bxn 105 [pP (psl 1 ac4 l)] (ae [pP (psl 1 ac4 l)]):=b7f l.length false (lf ac4 l) bww
def bb7(n:Nat)(c:Bool)(f:Nat->Nat->PV)(hn:n<=4398046511104) :
 d9 bxn 159 [.one (.p (.sl n 3 c f))] [] (.v (.one (.ref 0 n))) [(0, .arr true 3 84 n f)] []:=by
 refine hfx (nt:=8) Tryz.func159 ?_;refine sx7 ?_;refine c7 true rfl rfl rfl rfl rfl trivial ?_;refine cj ?_;refine ze (ι:=Bool) (fun c=>⟨[(0,some (bp (.sl n 3 c f)))],[]⟩) (fun _=>True) ?_ fun c _=>?_
 · rcases buc n with hz|h0
   · subst hz
     refine hw_exact' 0 rfl fun ad cap hcap=>?_;refine sx7 ?_;(iterate 2 refine c7 true rfl rfl rfl rfl rfl trivial ?_);refine cj ?_;refine al ad.isNone rfl ?_ ?_<;>intro hc
     · refine sx7 ?_
       refine c7 true rfl rfl rfl rfl rfl trivial ?_;refine cj ?_;refine d4 2 0 true 3 84 f bx3 rfl (CoP.sl rfl (.inr rfl) (fun h=>h) fun i j hi _=>absurd hi (bt1 i)) (.inr rfl) rfl ?_;refine hrr ?_;exact⟨_,_,rfl,trivial,CoR.refl _,uu⟩
     refine dn ?_;exact⟨false,trivial,⟨⟨_,rfl,CoP.raw_sl hcap⟩,trivial⟩,trivial⟩
   refine sx7 ?_;refine c7 true rfl rfl rfl rfl rfl trivial ?_;refine c7 true rfl rfl rfl rfl rfl h0 ?_;refine cj ?_;refine al false rfl (fun hc=>by cases hc) (fun hc=>?_);refine dn ?_;exact⟨c,trivial,tt,trivial⟩
 refine sx7 ?_;refine wu 0 rfl rfl rfl rfl rfl rfl trivial ?_;refine c7 true rfl rfl rfl rfl rfl trivial ?_;refine zp 0 true rfl rfl rfl rfl rfl rfl ⟨trivial,rfl,rfl,rfl, .inl rfl,by show 0+n<=9223372036854775807;omega,by show(0+n)*32<=140737488355328;omega,fun _=>.inl rfl⟩ ?_;refine c7 true rfl rfl rfl rfl rfl trivial ?_;refine cj ?_;refine hrr ?_;refine⟨_,_,rfl,trivial,CoR.of_eq (by show HR.v (.one (.ref 0 (0+n)))=_;rw[btk]),⟨⟨_,rfl, ?_⟩,trivial⟩⟩;exact⟨fun h=>h,rfl,rfl,(btk n).symm,fun i j _ _=>CoP.of_eq (by simp[ep])⟩
def b7a (n:Nat) (c:Bool) (f:Nat->Nat->PV) (hn:n<=4398046511104):a6 bxn 159 [.one (.sl n 3 c f)] (.v (.one (.sl n 3 false f))) :=
 d9.pure (args:=[.one (.sl n 3 c f)]) (l:=[.one (.ref 0 n)]) (bb7 n c f hn) rfl ⟨rfl,trivial⟩
def c78(l:List Val)(h:l.length<=68719476736):a6 bxn 159 [pP (psl 3 Val.c l)] (ae [pP (psl 3 Val.c l)]):=b7a l.length false (lf Val.c l) bww
def c49 (c:Int) (hc:0<=c):a6 bxn 35 [pU8 c] (ae [(ofI (c%12)).pc]):=by
 refine hpx (nt:=39) Tryz.func35 ?_;refine sx7 ?_;refine m9 0 ?_;refine jo ?_;refine hcd ?_ ?_<;>intro h0
 · refine v_5 ?_;exact⟨CoC.of_eq (by rw[show ofI (c%12)=⟨1,0,emp⟩ from by simp[ofI, *]];rfl),trivial⟩
 refine w_5 ?_;refine hcd ?_ ?_<;>intro h1
 · refine v_5 ?_;exact⟨CoC.of_eq (by rw[show ofI (c%12)=⟨1,1,emp⟩ from by simp[ofI, *]];rfl),trivial⟩
 refine w_5 ?_;refine hcd ?_ ?_<;>intro h2
 · refine v_5 ?_;exact⟨CoC.of_eq (by rw[show ofI (c%12)=⟨1,2,emp⟩ from by simp[ofI, *]];rfl),trivial⟩
 refine w_5 ?_;refine hcd ?_ ?_<;>intro h3
 · refine v_5 ?_;exact⟨CoC.of_eq (by rw[show ofI (c%12)=⟨0,0,emp⟩ from by simp[ofI, *]];rfl),trivial⟩
 refine w_5 ?_;refine hcd ?_ ?_<;>intro h4
 · refine v_5 ?_;exact⟨CoC.of_eq (by rw[show ofI (c%12)=⟨2,0,⟨#[97]⟩⟩ from by simp[ofI, *]];rfl),trivial⟩
 refine w_5 ?_;refine hcd ?_ ?_<;>intro h5
 · refine v_5 ?_;exact⟨CoC.of_eq (by rw[show ofI (c%12)=⟨2,0,⟨#[98]⟩⟩ from by simp[ofI, *]];rfl),trivial⟩
 refine w_5 ?_;refine hcd ?_ ?_<;>intro h6
 · refine v_5 ?_;exact⟨CoC.of_eq (by rw[show ofI (c%12)=⟨2,0,emp⟩ from by simp[ofI, *]];rfl),trivial⟩
 refine w_5 ?_;refine hcd ?_ ?_<;>intro h7
 · refine v_5 ?_;exact⟨CoC.of_eq (by rw[show ofI (c%12)=⟨3,1,emp⟩ from by simp[ofI, *]];rfl),trivial⟩
 refine w_5 ?_;refine hcd ?_ ?_<;>intro h8
 · refine v_5 ?_;exact⟨CoC.of_eq (by rw[show ofI (c%12)=⟨1, -1,emp⟩ from by simp[ofI, *]];rfl),trivial⟩
 refine w_5 ?_;refine hcd ?_ ?_<;>intro h9
 · refine v_5 ?_;exact⟨CoC.of_eq (by rw[show ofI (c%12)=⟨2,0,⟨#[97,98]⟩⟩ from by simp[ofI, *]];rfl),trivial⟩
 refine w_5 ?_;refine hcd ?_ ?_<;>intro h10
 · refine v_5 ?_;exact⟨CoC.of_eq (by rw[show ofI (c%12)=⟨3,2,emp⟩ from by simp[ofI, *]];rfl),trivial⟩
 refine v_6 ?_;exact⟨CoC.of_eq (by rw[show ofI (c%12)=⟨1,7,emp⟩ from by simp[ofI, *]];rfl),trivial⟩
end
end Go.Hx
