/- A part of the proof: SrC Jo1 Tb5. -/
import Derived.Shelf.SlSortCmp.Insertion
import Derived.Test.YtnlcekpflogjkaaGreatDoorTx37
import Derived.Test.YtnlcekpflogjkaaGreatDoorTx39
set_option linter.all false
set_option maxRecDepth 100000
namespace Go.Hx
section
open Go.Proofs Go.RowKit
def bh3:∀ (a b:List UInt8),Lib.compareBytes a b = ir a b
 | [],[]=>rfl
 | [],_ :: _=>rfl
 | _ :: _,[]=>rfl
 | x :: xs,y :: ys=>by
  unfold Lib.compareBytes ir;rw [bh3 xs ys];by_cases h1:x < y
  · have h2:x.toNat < y.toNat:=h1
    rw [if_pos h1,if_neg (fun e=>by rw [e] at h2;omega)];unfold sgn;rw [if_pos bv9]
  have h2:¬ x.toNat < y.toNat:=h1;rw [if_neg h1];by_cases h3:y < x
  · have h4:y.toNat < x.toNat:=h3
    rw [if_pos h3,if_neg (fun e=>by rw [e] at h4;omega)];unfold sgn;rw [if_neg bv9,if_pos bv9]
  have h4:¬ y.toNat < x.toNat:=h3;rw [if_neg h3,if_pos (UInt8.toNat_inj.1 bv9)]
def bbx:goodFn bw0 216:=⟨Tryz.f216,Tryz.func216,by kernel_rfl,by kernel_rfl⟩
def ban (a b:ByteArray):a6 bw0 216 [pS a,pS b] (af [pI (o3 a b)]):=by
 intro w imm us htab him hus
 match us,hus with
 | [u,v],⟨hu,hv,_⟩ =>
  obtain ⟨rfl,_⟩:=hu;obtain ⟨rfl,_⟩:=hv;refine (Any.bytealg_CompareString Tryz.laysCS a b w).mono ?_;rintro e w' ⟨rfl,rfl⟩;exact ⟨_,imm,rfl,⟨by rw [bh3];rfl,rfl⟩,fun _ _=>rfl,him,Below.refl _ _⟩
 | [],h=>exact h.elim
 | [_],⟨_,h⟩=>exact h.elim
 | _ :: _ :: _ :: _,⟨_,_,h⟩=>exact h.elim
end
section
open Go.Proofs Go.RowKit Go.Sort
structure Tot {α:Type} (c:α -> α -> Int):Prop where
 anti:∀ a b,c b a = - c a b
 zero:∀ a b,c a b = 0 <-> a = b
 tr:∀ a b d,c a b < 0 -> c b d < 0 -> c a d < 0
section
variable {α:Type} {c:α -> α -> Int}
theorem Tot.self (h:Tot c) (a:α):c a a = 0:=(h.zero a a).2 rfl
theorem Tot.swo (h:Tot c):SWO (ltOf c) where
 irrefl x:=by unfold ltOf;rw [h.self];rfl
 trans x y z h1 h2:=by
  unfold ltOf at *;exact decide_eq_true (h.tr x y z (of_decide_eq_true h1) (of_decide_eq_true h2))
 ntrans x y z h1 h2:=by
  unfold ltOf at *;refine decide_eq_false fun hxz=>?_;have h1:=of_decide_eq_false h1;have h2:=of_decide_eq_false h2;have ha:=h.anti x y;by_cases e:x = y
  · subst e;exact h2 hxz
  have:c x y ≠ 0:=fun e2=>e ((h.zero x y).1 e2);exact h2 (h.tr y x z bv9 hxz)
theorem Tot.eq (h:Tot c) (x y:α) (h1:ltOf c x y = false) (h2:ltOf c y x = false):x = y:=by
 unfold ltOf at *;have h1:=of_decide_eq_false h1;have h2:=of_decide_eq_false h2;have ha:=h.anti x y;exact (h.zero x y).1 bv9
abbrev Asc (c:α -> α -> Int) (l:List α):Prop:=l.Pairwise fun a b=>c a b < 0
theorem Tot.ext (h:Tot c):∀ {l m:List α},Asc c l -> Asc c m -> (∀ x,x ∈ l <-> x ∈ m) -> l = m
 | [],[],_,_,_=>rfl
 | [],y :: m,_,_,e=>by have:=(e y).2 bvd;cases this
 | x :: l,[],_,_,e=>by have:=(e x).1 bvd;cases this
 | x :: l,y :: m,h1,h2,e=>by
  have h1':=bsb.1 h1;have h2':=bsb.1 h2
  have hxy:x = y:=by
   apply Classical.byContradiction;intro hne
   have hx:x ∈ m:=by
    have:=(e x).1 bvd
    rcases brm.1 this with e2 | e2
    · exact absurd e2 hne
    exact e2
   have hy:y ∈ l:=by
    have:=(e y).2 bvd
    rcases brm.1 this with e2 | e2
    · exact absurd e2.symm hne
    exact e2
   have a1:=h2'.1 x hx;have a2:=h1'.1 y hy;have a3:=h.anti x y;omega
  subst hxy;refine congrArg (x :: ·) (Tot.ext h h1'.2 h2'.2 fun z=>⟨fun hz=>?_,fun hz=>?_⟩)
  · have:=(e z).1 (by simp [hz])
    rcases brm.1 this with rfl | e2
    · have:=h1'.1 z hz;rw [h.self] at this;omega
    exact e2
  have:=(e z).2 (by simp [hz])
  rcases brm.1 this with rfl | e2
  · have:=h2'.1 z hz;rw [h.self] at this;omega
  exact e2
theorem Tot.nodup (h:Tot c) {l:List α} (hl:Asc c l):l.Nodup:=hl.imp fun {a b} hab e=>by subst e;rw [h.self] at hab;omega
def abl (c:α -> α -> Int) (l:List α):List α:=l.mergeSort fun x y=>!(ltOf c) y x
def b6o {l:List α} {x:α}:x ∈ abl c l <-> x ∈ l:=List.mem_mergeSort
def aq8 {l:List α}:(abl c l).length = l.length:=buc _
theorem Tot.srt (h:Tot c) (l:List α):(abl c l).Pairwise fun a b=>¬ c b a < 0:=by
 have:=bv0 (le:=fun x y:α=>!(ltOf c) y x) (fun a b d h1 h2=>by
  simp only [bsd] at *
  exact h.swo.ntrans _ _ _ h2 h1) (fun a b=>by
  simp only [bsl,bsd,ltOf,decide_eq_false_iff_not];have:=h.anti a b
  omega) l
 refine this.imp fun {a b} hab=>?_;simpa [ltOf] using hab
end
def ahl:Tot sgn:=⟨fun a b=>by unfold sgn;repeat' split <;> omega,fun a b=>ou,fun a b d h1 h2=>by
 unfold sgn at *
 repeat' split at h1
 all_goals repeat' split at h2
 all_goals repeat' split
 all_goals omega⟩
def a8b {a b:Int}:sgn a b < 0 <-> a < b:=by unfold sgn;repeat' split <;> omega
def ai9:∀ (a b:List UInt8),ir b a = - ir a b
 | [],[]=>rfl
 | [],_ :: _=>rfl
 | _ :: _,[]=>rfl
 | x :: xs,y :: ys=>by
  unfold ir;by_cases h:x = y
  · subst h
    simp [ai9 xs ys]
  rw [if_neg h,if_neg (fun e=>h e.symm)];exact ahl.anti _ _
def asa:∀ (a b d:List UInt8),ir a b < 0 -> ir b d < 0 -> ir a d < 0
 | [],[],_,h1,_=>by simp [ir] at h1
 | [],_ :: _,[],_,h2=>by simp [ir] at h2
 | [],_ :: _,_ :: _,_,_=>by simp [ir]
 | _ :: _,[],_,h1,_=>by simp [ir] at h1
 | _ :: _,_ :: _,[],_,h2=>by simp [ir] at h2
 | x :: xs,y :: ys,z :: zs,h1,h2=>by
  unfold ir at *;by_cases e1:x = y
  · subst e1
    rw [if_pos rfl] at h1;by_cases e2:x = z
    · subst e2
      rw [if_pos rfl] at h2 ⊢;exact asa xs ys zs h1 h2
    rw [if_neg e2] at h2 ⊢;exact h2
  rw [if_neg e1] at h1;by_cases e2:y = z
  · subst e2
    rw [if_neg e1];exact h1
  rw [if_neg e2] at h2;rw [a8b] at h1 h2;rw [if_neg (fun e=>by subst e;omega),a8b];omega
def aum:Tot o3:=⟨fun a b=>ai9 _ _,fun a b=>aa4,fun a b d=>asa _ _ _⟩
def aq0 {x y:Int}:(if x ≠ 0 then x else y) < 0 <-> x < 0 \/ (x = 0 /\ y < 0):=by
 split <;> omega
def bci {a b:Val}:ig a b < 0 <-> a.kind < b.kind \/ (a.kind = b.kind /\ (a.num < b.num \/ (a.num = b.num /\ o3 a.str b.str < 0))):=by
 unfold ig;rw [aq0,aq0,a8b,a8b,ou,ou]
def w7:Tot ig:=⟨fun a b=>by
 unfold ig;rw [ahl.anti a.kind b.kind,ahl.anti a.num b.num,aum.anti a.str b.str]
 repeat' split
 all_goals omega,fun a b=>a13,fun a b d h1 h2=>by
 rw [bci] at *
 rcases h1 with h1 | ⟨e1,h1⟩ <;> rcases h2 with h2 | ⟨e2,h2⟩
 · exact .inl bv9
 · exact .inl bv9
 · exact .inl bv9
 refine .inr ⟨by omega, ?_⟩
 rcases h1 with h1 | ⟨f1,h1⟩ <;> rcases h2 with h2 | ⟨f2,h2⟩
 · exact .inl bv9
 · exact .inl bv9
 · exact .inl bv9
 exact .inr ⟨by omega,aum.tr _ _ _ h1 h2⟩⟩
def a5u {x y:Val} {xs ys:List Val}:dl (x :: xs) (y :: ys) < 0 <-> ig x y < 0 \/ (x = y /\ dl xs ys < 0):=by
 rw [dl,aq0,a13]
def ad3:∀ (a b:List Val),dl b a = - dl a b
 | [],[]=>rfl
 | [],_ :: _=>rfl
 | _ :: _,[]=>rfl
 | x :: xs,y :: ys=>by
  unfold dl;rw [w7.anti x y,ad3 xs ys]
  repeat' split
  all_goals omega
def apk:∀ (a b d:List Val),dl a b < 0 -> dl b d < 0 -> dl a d < 0
 | [],[],_,h1,_=>by simp [dl] at h1
 | [],_ :: _,[],_,h2=>by simp [dl] at h2
 | [],_ :: _,_ :: _,_,_=>by simp [dl]
 | _ :: _,[],_,h1,_=>by simp [dl] at h1
 | _ :: _,_ :: _,[],_,h2=>by simp [dl] at h2
 | x :: xs,y :: ys,z :: zs,h1,h2=>by
  rw [a5u] at *
  rcases h1 with h1 | ⟨rfl,h1⟩ <;> rcases h2 with h2 | ⟨rfl,h2⟩
  · exact .inl (w7.tr _ _ _ h1 h2)
  · exact .inl h1
  · exact .inl h2
  exact .inr ⟨rfl,apk xs ys zs h1 h2⟩
def b35:Tot dl:=⟨ad3,fun a b=>a5k,apk⟩
end
section
open Go.Proofs
def bag (n:Nat) (c:Bool) (f:Nat -> Nat -> PV) (hn:n <= 8796093022208) :
 cz bw0 105 [.one (.p (.sl n 1 c f))] [] (.v (.one (.ref 0 n))) [(0, .arr true 1 9 n f)] []:=by
 refine hfx (nt:=8) Tryz.func105 ?_;refine sx7 ?_;refine cg true rfl rfl rfl rfl rfl trivial ?_;refine cw ?_;refine a3j (ι:=Bool) (fun c=>⟨[(0,some (bp (.sl n 1 c f)))],[]⟩) (fun _=>True) ?_ fun c _=>?_
 · rcases bsx n with hz | h0
   · subst hz
     refine hw_exact' 0 rfl fun ad cap hcap=>?_;refine sx7 ?_;(iterate 2 refine cg true rfl rfl rfl rfl rfl trivial ?_);refine cw ?_;refine au ad.isNone rfl (fun hc=>?_) (fun hc=>?_)
     · refine sx7 ?_
       refine cg true rfl rfl rfl rfl rfl trivial ?_;refine cw ?_;refine df 2 0 true 1 9 f bvg rfl (CoP.sl rfl (.inr rfl) (fun h=>h) fun i j hi _=>absurd hi (brg i)) (.inr rfl) rfl ?_;refine hrr ?_;exact ⟨_,_,rfl,trivial,CoR.refl _,uu⟩
     refine dy ?_;exact ⟨false,trivial,⟨⟨_,rfl,CoP.raw_sl hcap⟩,trivial⟩,trivial⟩
   refine sx7 ?_;refine cg true rfl rfl rfl rfl rfl trivial ?_;refine cg true rfl rfl rfl rfl rfl h0 ?_;refine cw ?_;refine au false rfl (fun hc=>by cases hc) (fun hc=>?_);refine dy ?_;exact ⟨c,trivial,tt,trivial⟩
 refine sx7 ?_;refine ze 0 rfl rfl rfl rfl rfl rfl trivial ?_;refine cg true rfl rfl rfl rfl rfl trivial ?_;refine a31 0 true rfl rfl rfl rfl rfl rfl ⟨trivial,rfl,rfl,rfl, .inl rfl,by show 0 + n <= 9223372036854775807;omega,by show (0 + n) * 16 <= 140737488355328;omega,fun _=>.inl rfl⟩ ?_;refine cg true rfl rfl rfl rfl rfl trivial ?_;refine cw ?_;refine hrr ?_;refine ⟨_,_,rfl,trivial,CoR.of_eq (by show HR.v (.one (.ref 0 (0 + n))) = _;rw [bs5]),⟨⟨_,rfl, ?_⟩,trivial⟩⟩;exact ⟨fun h=>h,rfl,rfl,(bs5 n).symm,fun i j _ _=>CoP.of_eq (by simp [f8])⟩
def b30 (n:Nat) (c:Bool) (f:Nat -> Nat -> PV) (hn:n <= 8796093022208):a6 bw0 105 [.one (.sl n 1 c f)] (.v (.one (.sl n 1 false f))) :=
 cz.pure (args:=[.one (.sl n 1 c f)]) (l:=[.one (.ref 0 n)]) (bag n c f hn) rfl ⟨rfl,trivial⟩
def c77 (l:List ByteArray) (h:l.length <= 68719476736):a6 bw0 105 [pP (psl 1 ac0 l)] (af [pP (psl 1 ac0 l)]):=b30 l.length false (lf ac0 l) bv9
def bcr (n:Nat) (c:Bool) (f:Nat -> Nat -> PV) (hn:n <= 4398046511104) :
 cz bw0 159 [.one (.p (.sl n 3 c f))] [] (.v (.one (.ref 0 n))) [(0, .arr true 3 84 n f)] []:=by
 refine hfx (nt:=8) Tryz.func159 ?_;refine sx7 ?_;refine cg true rfl rfl rfl rfl rfl trivial ?_;refine cw ?_;refine a3j (ι:=Bool) (fun c=>⟨[(0,some (bp (.sl n 3 c f)))],[]⟩) (fun _=>True) ?_ fun c _=>?_
 · rcases bsx n with hz | h0
   · subst hz
     refine hw_exact' 0 rfl fun ad cap hcap=>?_;refine sx7 ?_;(iterate 2 refine cg true rfl rfl rfl rfl rfl trivial ?_);refine cw ?_;refine au ad.isNone rfl (fun hc=>?_) (fun hc=>?_)
     · refine sx7 ?_
       refine cg true rfl rfl rfl rfl rfl trivial ?_;refine cw ?_;refine df 2 0 true 3 84 f bvg rfl (CoP.sl rfl (.inr rfl) (fun h=>h) fun i j hi _=>absurd hi (brg i)) (.inr rfl) rfl ?_;refine hrr ?_;exact ⟨_,_,rfl,trivial,CoR.refl _,uu⟩
     refine dy ?_;exact ⟨false,trivial,⟨⟨_,rfl,CoP.raw_sl hcap⟩,trivial⟩,trivial⟩
   refine sx7 ?_;refine cg true rfl rfl rfl rfl rfl trivial ?_;refine cg true rfl rfl rfl rfl rfl h0 ?_;refine cw ?_;refine au false rfl (fun hc=>by cases hc) (fun hc=>?_);refine dy ?_;exact ⟨c,trivial,tt,trivial⟩
 refine sx7 ?_;refine ze 0 rfl rfl rfl rfl rfl rfl trivial ?_;refine cg true rfl rfl rfl rfl rfl trivial ?_;refine a31 0 true rfl rfl rfl rfl rfl rfl ⟨trivial,rfl,rfl,rfl, .inl rfl,by show 0 + n <= 9223372036854775807;omega,by show (0 + n) * 32 <= 140737488355328;omega,fun _=>.inl rfl⟩ ?_;refine cg true rfl rfl rfl rfl rfl trivial ?_;refine cw ?_;refine hrr ?_;refine ⟨_,_,rfl,trivial,CoR.of_eq (by show HR.v (.one (.ref 0 (0 + n))) = _;rw [bs5]),⟨⟨_,rfl, ?_⟩,trivial⟩⟩;exact ⟨fun h=>h,rfl,rfl,(bs5 n).symm,fun i j _ _=>CoP.of_eq (by simp [f8])⟩
def b4j (n:Nat) (c:Bool) (f:Nat -> Nat -> PV) (hn:n <= 4398046511104):a6 bw0 159 [.one (.sl n 3 c f)] (.v (.one (.sl n 3 false f))) :=
 cz.pure (args:=[.one (.sl n 3 c f)]) (l:=[.one (.ref 0 n)]) (bcr n c f hn) rfl ⟨rfl,trivial⟩
def c78 (l:List Val) (h:l.length <= 68719476736):a6 bw0 159 [pP (psl 3 Val.c l)] (af [pP (psl 3 Val.c l)]):=b4j l.length false (lf Val.c l) bv9
def c49 (c:Int) (hc:0 <= c):a6 bw0 35 [pU8 c] (af [(ofI (c % 12)).pc]):=by
 refine hpx (nt:=39) Tryz.func35 ?_;refine sx7 ?_;refine m9 0 ?_;refine kf ?_;refine hcd (fun h0=>?_) (fun h0=>?_)
 · refine v_5 ?_;exact ⟨CoC.of_eq (by rw [show ofI (c % 12) = ⟨1,0,emp⟩ from by simp [ofI, *]];rfl),trivial⟩
 refine w_5 ?_;refine hcd (fun h1=>?_) (fun h1=>?_)
 · refine v_5 ?_;exact ⟨CoC.of_eq (by rw [show ofI (c % 12) = ⟨1,1,emp⟩ from by simp [ofI, *]];rfl),trivial⟩
 refine w_5 ?_;refine hcd (fun h2=>?_) (fun h2=>?_)
 · refine v_5 ?_;exact ⟨CoC.of_eq (by rw [show ofI (c % 12) = ⟨1,2,emp⟩ from by simp [ofI, *]];rfl),trivial⟩
 refine w_5 ?_;refine hcd (fun h3=>?_) (fun h3=>?_)
 · refine v_5 ?_;exact ⟨CoC.of_eq (by rw [show ofI (c % 12) = ⟨0,0,emp⟩ from by simp [ofI, *]];rfl),trivial⟩
 refine w_5 ?_;refine hcd (fun h4=>?_) (fun h4=>?_)
 · refine v_5 ?_;exact ⟨CoC.of_eq (by rw [show ofI (c % 12) = ⟨2,0,⟨#[97]⟩⟩ from by simp [ofI, *]];rfl),trivial⟩
 refine w_5 ?_;refine hcd (fun h5=>?_) (fun h5=>?_)
 · refine v_5 ?_;exact ⟨CoC.of_eq (by rw [show ofI (c % 12) = ⟨2,0,⟨#[98]⟩⟩ from by simp [ofI, *]];rfl),trivial⟩
 refine w_5 ?_;refine hcd (fun h6=>?_) (fun h6=>?_)
 · refine v_5 ?_;exact ⟨CoC.of_eq (by rw [show ofI (c % 12) = ⟨2,0,emp⟩ from by simp [ofI, *]];rfl),trivial⟩
 refine w_5 ?_;refine hcd (fun h7=>?_) (fun h7=>?_)
 · refine v_5 ?_;exact ⟨CoC.of_eq (by rw [show ofI (c % 12) = ⟨3,1,emp⟩ from by simp [ofI, *]];rfl),trivial⟩
 refine w_5 ?_;refine hcd (fun h8=>?_) (fun h8=>?_)
 · refine v_5 ?_;exact ⟨CoC.of_eq (by rw [show ofI (c % 12) = ⟨1, -1,emp⟩ from by simp [ofI, *]];rfl),trivial⟩
 refine w_5 ?_;refine hcd (fun h9=>?_) (fun h9=>?_)
 · refine v_5 ?_;exact ⟨CoC.of_eq (by rw [show ofI (c % 12) = ⟨2,0,⟨#[97,98]⟩⟩ from by simp [ofI, *]];rfl),trivial⟩
 refine w_5 ?_;refine hcd (fun h10=>?_) (fun h10=>?_)
 · refine v_5 ?_;exact ⟨CoC.of_eq (by rw [show ofI (c % 12) = ⟨3,2,emp⟩ from by simp [ofI, *]];rfl),trivial⟩
 refine v_6 ?_;exact ⟨CoC.of_eq (by rw [show ofI (c % 12) = ⟨1,7,emp⟩ from by simp [ofI, *]];rfl),trivial⟩
end
end Go.Hx
