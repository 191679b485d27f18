/- A part of the proof: LyTz TzW Cs7 Cs8 V6 Cs9 V7. -/
import Derived.Shelf.Lays7
import Derived.Shelf.Spec.TrailingZeros
import Derived.Test.YteklilhbjjofbaaGreatDoorProg
import Derived.Test.YteklilhbjjofbaaGreatDoorLe15
set_option linter.all false
set_option maxRecDepth 100000
section
namespace Go.Proofs
open Go.Shelf
def Tryz.lays28_ren:Go.Shelf.Ren:=⟨fun | 28=>175 | n=>n,fun | 27=>27 | 3=>3 | 4=>4 | 25=>159 | 53=>228 | 0=>0 | 5=>5 | n=>n,fun | 0=>1 | n=>n⟩
theorem Tryz.lays28:Go.Proofs.Lays7.n28 Tryz.prog Tryz.lays28_ren:={
 mixed:=by kernel_rfl
 f28:=Tryz.func175.trans (congrArg some (by kernel_rfl))
 t0:=Tryz.underlying0
 a0:=Tryz.isAgg0
 z0:=Tryz.sizeOf0
 v0:=Tryz.zeroValue0
 i0:=by kernel_rfl
 t3:=Tryz.underlying3
 a3:=Tryz.isAgg3
 z3:=Tryz.sizeOf3
 v3:=Tryz.zeroValue3
 i3:=by kernel_rfl
 t4:=Tryz.underlying4
 a4:=Tryz.isAgg4
 z4:=Tryz.sizeOf4
 v4:=Tryz.zeroValue4
 i4:=by kernel_rfl
 t5:=Tryz.underlying5
 a5:=Tryz.isAgg5
 z5:=Tryz.sizeOf5
 v5:=Tryz.zeroValue5
 i5:=by kernel_rfl
 t25:=Tryz.underlying159
 a25:=Tryz.isAgg159
 z25:=Tryz.sizeOf159
 v25:=Tryz.zeroValue159
 i25:=by kernel_rfl
 t27:=Tryz.underlying27
 a27:=Tryz.isAgg27
 z27:=Tryz.sizeOf27
 v27:=Tryz.zeroValue27
 i27:=by kernel_rfl
 t53:=Tryz.underlying228
 a53:=Tryz.isAgg228
 z53:=Tryz.sizeOf228
 v53:=Tryz.zeroValue228
 i53:=by kernel_rfl
 g0:=by kernel_rfl }
end Go.Proofs
end
namespace Go.Hx
section
open Go.Proofs Go.RowKit
def aqd:goodFn b65 175:=⟨Tryz.f175,Tryz.func175,by kernel_rfl,by kernel_rfl⟩
def axt:∀ j,j < Lib.deBruijn32tab.length -> sa 1 j = some (.int .u8 (Lib.deBruijn32tab.getD j 0)):=fun j hj=>by
 unfold sa;rw [show oq 1 = Lib.deBruijn32tab.map (fun k:Nat=>Value.int .u8 (k:Int)) from rfl,b32,b2h hj,b2i,b2h hj];rfl
def cTz (s:AS):aa b65 175 [pA s] (af [pI (ky s)]):=by
 intro w imm us htab him hus
 match us,hus with
 | [u],⟨hu,_⟩ =>
  obtain ⟨rfl,_⟩:=hu
  have h:=Any7.bits_TrailingZeros32 Tryz.lays28 s.toNat s.isLt w fun _ j hj=>by
   have hc:=htab 1 j _ (axt j hj);unfold fk at hc
   cases hb:imm 1 with
   | none=>rw [hb] at hc;cases hc
   | some ob =>
    rw [hb] at hc;have hw:=him 1 ob hb;cases ob <;> simp at hc;show w.cell? ⟨1,j,none⟩ = _;simp [World.cell?,hw,hc]
  refine h.mono ?_;rintro e w' ⟨rfl,rfl⟩;exact ⟨_,imm,rfl,⟨rfl,rfl⟩,fun _ _=>rfl,him,Below.refl _ _⟩
 | [],h=>exact h.elim
 | _ :: _ :: _,⟨_,h⟩=>exact h.elim
end
section
section
variable {α:Type} [Inhabited α]
def n4 {wr wr':Bool} {s m:Nat} {e:TypeId} {c:α -> Nat -> PV} {l l':List α} {x:α} {g:Nat -> Nat -> PV} (h:l' = l ++ [x]) (hg:∀ j,j < s -> CoP (g 0 j) (c x j)) (hm:m = 1:=by rfl) (hw:wr' = true -> wr = true:=by exact fun h=>h) :
 CoO (.arr wr s e (l.length + m) (d8 l.length (lf c l) g)) (.arr wr' s e l'.length (lf c l')):=by
 subst h;refine akt [x] hw hm fun i j hi hj=>?_;obtain rfl:i = 0:=by simp at hi;exact hi
 exact hg j hj
def dz {wr wr':Bool} {s:Nat} {e:TypeId} {c:α -> Nat -> PV} {l l':List α} (h:l' = l) (hw:wr' = true -> wr = true:=by exact fun h=>h):CoO (.arr wr s e l.length (lf c l)) (.arr wr' s e l'.length (lf c l')):=by
 subst h;exact ⟨hw,rfl,rfl,rfl,fun _ _ _ _=>CoP.refl _⟩
end
section
variable {α:Type} [Inhabited α]
section
variable {l l':List α}
def gj {id:Nat} {x:α} (h:l' = l ++ [x]):CoR (.v (.one (.ref id (l.length + 1)))) (.v (.one (.ref id l'.length))):=by subst h;rw [b2v];exact CoR.refl _
def gk {id:Nat} (h:l' = l):CoR (.v (.one (.ref id l.length))) (.v (.one (.ref id l'.length))):=by subst h;exact CoR.refl _
def ou {wr wr':Bool} {e:TypeId} {c:α -> Nat -> PV} {x:α} {g:Nat -> Nat -> PV} (h:l' = l ++ [x]) (hg:CoP (g 0 0) (c x 0)) (hw:wr' = true -> wr = true:=by exact fun h=>h):
 CoO (.arr wr 1 e (l.length + 1) (d8 l.length (lf c l) g)) (.arr wr' 1 e l'.length (lf c l')) :=
 n4 h (fun j hj=>by
  obtain rfl:j = 0:=by omega
  exact hg) rfl hw
def y7 {wr wr':Bool} {e:TypeId} {c:α -> Nat -> PV} {x:α} {g:Nat -> Nat -> PV} (h:l' = l ++ [x]) (h0:CoP (g 0 0) (c x 0)) (h1:CoP (g 0 1) (c x 1)) (hw:wr' = true -> wr = true:=by exact fun h=>h):
 CoO (.arr wr 2 e (l.length + 1) (d8 l.length (lf c l) g)) (.arr wr' 2 e l'.length (lf c l')) :=
 n4 h (fun j hj=>by
  rcases (by omega:j = 0 \/ j = 1) with rfl | rfl
  · exact h0
  exact h1) rfl hw
end
end
def ax2 (s:AS) (i:Nat):List Nat:=(List.range i).filter fun k=>s.getLsbD k
end
section
def b1y (b:Nat):Nat:=(List.range 8).countP fun i=>b.testBit i
def atb (s:AS):bsz s <= 32:=by
 have:=List.countP_le_length (p:=fun i=>s.getLsbD i) (l:=List.range 32);rwa [List.length_range] at this
def ahk {s0:AS} (x:List Nat × AS) (h:x.1 ++ bc x.2 = bc s0):x.1.length <= 32:=by
 have h1:=congrArg List.length h;rw [b2v,<- ajr s0] at h1;have:=atb s0;omega
def aj9 {s:AS} (h:s ≠ 0):asI s - 1 = asI (s - 1):=by
 have h0:s.toNat ≠ 0:=fun e=>h (b4y e);have:=s.isLt
 have e1:(s - 1).toNat = s.toNat - 1:=by
  rw [BitVec.toNat_sub];show (2 ^ 32 - 1 + s.toNat) % 2 ^ 32 = _;omega
 unfold asI;rw [e1];omega
def anl {s:AS} (h:s ≠ 0):(fw true .u32 (asI s - 1)).1:=by
 rw [aj9 h];have h1:=aag (s - 1);have h2:=a9e (s - 1);simp only [fw,inR,uw,a07];omega
def alm {s:AS} (h:s ≠ 0):k8 .and .u32 (asI s) (asI s - 1) = asI (s &&& (s - 1)):=by rw [aj9 h,ana]
def fy (a b:Int):Int:=if a < b then -1 else if b < a then 1 else 0
def b1s (a b:AS):Int:=if fy (bsz a) (bsz b) = 0 then fy (asI a) (asI b) else fy (bsz a) (bsz b)
end
section
open Go.Proofs
def azv (s0:AS):aa b65 164 [pA s0] (af [pP (il (bc s0))]):=by
 refine hpx (nt:=16) Tryz.func164 ?_;refine dy ?_;refine gn 3 900 true 1 3 (lf iC []) b5n rfl (CoP.sl rfl (.inr rfl) (fun h=>h) (fun i j hi _=>absurd hi (b2o i))) (.inr rfl) rfl ?_;refine ai (ι:=List Nat × AS) kn km (fun x=>⟨[(3,some (.v (.one (.ref 900 x.1.length)))),(0,some (vA x.2))],[(900,some (.arr true 1 3 x.1.length (lf iC x.1)))]⟩) (fun x=>x.1 ++ bc x.2 = bc s0) (fun x=>x.2.toNat) (([],s0)) (rfl) kk ?_;rintro x hx;have hlen:=ahk x hx;refine w_6 ?_;refine hcn (fun h0=>?_) (fun h0=>?_)
 ·
  have hne:x.2 ≠ 0:=fun e=>h0 (by rw [e];rfl);refine w_6 ?_;refine qcx aqd (cTz x.2) ?_;refine m9 0 ?_;refine r9 1 true ?_;refine w_5 ?_;refine rq rfl rfl rfl rfl rfl ?_ (hp:=(anl hne));refine w_3 ?_;refine ⟨(x.1 ++ [ky x.2],x.2 &&& (x.2 - 1)), ?_, ?_, ?_⟩
  · show (x.1 ++ [ky x.2]) ++ bc (x.2 &&& (x.2 - 1)) = bc s0
    rw [<- hx,aks hne,b3o];rfl
  · exact am8 hne
  exact ⟨⟨⟨_,rfl,(gj rfl)⟩,⟨_,rfl,(a8y (alm hne))⟩,trivial⟩,⟨⟨_,rfl,(ou rfl (CoP.refl _))⟩,trivial⟩⟩
 have hz:x.2 = 0:=s7.1 h0;refine w_6 ?_;refine cz 2 rfl rfl rfl ?_;exact hx8 rfl rfl rfl (⟨CoC.one (CoP.of_eq (by rw [hz,ah7,b3i] at hx;rw [<- hx];rfl)),trivial⟩)
end
section
def b16 (l:List AS) (k:Nat) (r:AS):List AS:=l.take k ++ r :: l.drop k
def jC:Int -> Nat -> PV:=fun n _=>.raw (.int .i64 n)
def orF (l:List Int):Int:=(l.find? fun x=>decide (x ≠ 0)).getD 0
def axy {l:List Int} {i:Nat} (hi:i < l.length) (hI:∀ j,j < i -> decide (l.getD j default = 0) = true) (h:¬ l.getD i default = 0):orF l = l.getD i default:=by
 unfold orF
 have:l.find? (fun x=>decide (x ≠ 0)) = some (l.getD i default):=by
  rw [List.find?_eq_some_iff_getElem];refine ⟨decide_eq_true h,i,hi,by simp [List.getD,hi],fun j hj=>?_⟩;have:=of_decide_eq_true (hI j hj);rw [b2i,b2h b5h,b3l] at this;simp [this]
 rw [this];rfl
def axc {l:List Int} (hI:∀ j,j < l.length -> decide (l.getD j default = 0) = true):orF l = 0:=by
 unfold orF
 have:l.find? (fun x=>decide (x ≠ 0)) = none:=by
  rw [List.find?_eq_none];intro x hx;obtain ⟨j,hj,rfl⟩:=b35 hx;have:=of_decide_eq_true (hI j hj);rw [b2i,b2h hj,b3l] at this;simp [this]
 rw [this];rfl
def wn {α:Type} [Inhabited α] {cl:Bool} {c:α -> Nat -> PV} {x y:α} {f:Nat -> Nat -> PV} (h0:CoP (f 0 0) (c x 0)) (h1:CoP (f 1 0) (c y 0)):CoP (.sl 2 1 cl f) (psl 1 c [x,y]) :=
 CoP.sl rfl (.inl rfl) (fun h=>by cases h) fun i j hi hj=>by
  obtain rfl:j = 0:=by omega
  rcases (by omega:i = 0 \/ i = 1) with rfl | rfl
  · exact h0
  exact h1
def ae1 {α:Type} [Inhabited α] {wr wr':Bool} {s n m:Nat} {e:TypeId} {c:α -> Nat -> PV} {l l':List α} (h:l' = l) (hn:n = m) (hw:wr' = true -> wr = true:=by exact fun h=>h):CoO (.arr wr s e n (lf c l)) (.arr wr' s e m (lf c l')):=by
 subst h hn;exact ⟨hw,rfl,rfl,rfl,fun _ _ _ _=>CoP.refl _⟩
end
section
open Go.Proofs
def ao8 (a:Int):aa b65 152 [pI a] (af [pB false]):=by
 refine hpx (nt:=6) Tryz.func152 ?_;refine j5 ?_;exact hx8 rfl rfl rfl (⟨ccb b5k,trivial⟩)
def b5z {p:Prop} (h:p:=by unfold fy;first | (rw [if_pos b5h]) | (rw [if_neg b5h,if_pos b5h]) | (rw [if_neg b5h,if_neg b5h])):p:=h
def aof (a b:Int):aa b65 103 [pI a,pI b] (af [pI (fy a b)]):=by
 refine hpx (nt:=20) Tryz.func103 ?_;refine w_7 ?_;refine qcx (wgx Tryz.func152) (ao8 _) ?_;refine w_5 ?_;refine qcx (wgx Tryz.func152) (ao8 _) ?_;refine agt ?_;refine hcd (fun h0=>?_) (fun h0=>?_)
 · refine v_4 ?_;exact ⟨cci b5z,trivial⟩
 refine w_8 ?_;refine hcd (fun h1=>?_) (fun h1=>?_)
 · refine v_4 ?_;exact ⟨cci b5z,trivial⟩
 refine v_5 ?_;exact ⟨cci b5z,trivial⟩
def cOr (l:List Int):aa b65 102 [pP (psl 1 jC l)] (af [pI (orF l)]):=by
 refine hpx (nt:=18) Tryz.func102 ?_;refine dn ?_;refine df 0 rfl fun hn=>?_;refine w_7 ?_;refine c5 (ι:=Unit) (ka 3 kn) km (fun _i=>⟨[],[]⟩) (fun _i=>orF l = 0) ?_ ?_
 ·
  refine w_7 ?_;refine ai (ι:=Nat) (ka 3 (ka 6 (ka 7 kn))) km (fun i=>⟨[(8,some (vI i))],[]⟩) (fun i=>i <= l.length /\ (∀ j,j < i -> decide (l.getD j default = 0) = true)) (fun i=>l.length - i) (0) (⟨b2n _,bh⟩) kk ?_;rintro i ⟨hi,hI⟩;refine w_5 ?_;refine hcd (fun h0=>?_) (fun h0=>?_)
  ·
   refine tk ?_;refine hcn (fun h1=>?_) (fun h1=>?_)
   · refine v_5 ?_;exact ⟨cci (axy (i:=i) b5h hI h1).symm,trivial⟩
   refine w_5 ?_;refine lpz (i + 1) kk ?_;exact ⟨by show i + 1 <= _;omega,ax hI (decide_eq_true h1)⟩
  refine c6 ?_;refine ⟨(), ?_, ?_⟩
  · exact axc fun j hj=>hI j b5h
  exact kk
 rintro _ hj;refine v_5 ?_;exact ⟨cci hj.symm,trivial⟩
end
end Go.Hx
