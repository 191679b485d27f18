/- A part of the proof: Lw Hx26 Rb26 Ds1 Ds2 Bz1 Bz2 Hx25 Ch1. -/
import Derived.Deep.DeepHandedRow
import Derived.Lib.Join
import Derived.OpenShut
import Derived.ProofKit
import Derived.Test.YtkkenjdfbojdlaaGreatDoorCards
import Derived.Test.YtkkenjdfbojdlaaGreatDoorRows
import Derived.Test.YtkkenjdfbojdlaaGreatDoorTie
import Derived.WalkKit
import Derived.Test.YtkkenjdfbojdlaaGreatDoorEx17
import Derived.Test.YtkkenjdfbojdlaaGreatDoorEx18
import Derived.Test.YtkkenjdfbojdlaaGreatDoorEx20
import Derived.Test.YtkkenjdfbojdlaaGreatDoorEx21
import Derived.Test.YtkkenjdfbojdlaaGreatDoorEx23
import Derived.Test.YtkkenjdfbojdlaaGreatDoorEx24
set_option linter.all false
section
namespace Go.Hx
open Go.Proofs Go.ChangeShapes Go.WideShapes Go.ChangeAt Go.RowKit
theorem own:ownKnob Tryz.prog.godebug = none:=by kernel_rfl
theorem b7q : Tryz.prog.globalNamed "math/bits.deBruijn32tab" = some 0 := by kernel_rfl
theorem auk:(Tryz.prog.globals[0]?).map (·.type) = some 176:=by kernel_rfl
theorem axy:Tryz.prog.cellsOf 176 = 32:=by kernel_rfl
theorem b6d:Tryz.prog.cellsOf 5 = 1:=by kernel_rfl
def abz:List Int:=[0,1,28,2,29,14,24,3,30,22,20,15,25,17,4,8,31,27,13,23,21,19,16,7,26,12,18,6,11,5,10,9]
theorem ba2 {W : World} (h : laidMetH Tryz.prog [("math/bits.deBruijn32tab", YtkkenjdfbojdlaaGreatDoor.Rows.laid_math_bits_deBruijn32tab)] W) : nv (fj W) := by
 have ht : Lib.TabIs Tryz.prog W "math/bits.deBruijn32tab" .u8 abz := Lib.tabIs_of_head (rest := []) b7q auk Tryz.underlying176 Tryz.underlying5 b6d axy h
 intro b off v hv
 unfold ue qd at hv
 split at hv
 · have hlt:off < 32:=by
    rcases Nat.lt_or_ge off 32 with h | h
    · exact h
    rw [List.getElem?_eq_none (by simpa using h)] at hv;cases hv
   have hc:=ht.cell b7q off hlt
   have e:v = .int .u8 (abz.getD off 0):=by
    have:(abz.map fun z=>Value.int .u8 z)[off]? = some v:=hv
    rw [List.getElem?_map] at this
    rw [List.getD_eq_getElem?_getD]
    cases hz:abz[off]? with
    | none=>rw [hz] at this;cases this
    | some z=>rw [hz] at this;exact (Option.some.inj this).symm
   rw [e]
   unfold World.cell? at hc
   unfold ij fj
   split at hc
   · rename_i c t fr hh
     rw [hh]
     simpa using hc
   cases hc
 cases hv
noncomputable def laidWorld (os:Os):World :=
 { World.holding Tryz.prog os ⟨#[],#[],[]⟩ with heap:=(World.holding Tryz.prog os ⟨#[],#[],[]⟩).heap.modify 0 fun
  | .cells _ t frozen=>.cells (abz.map fun z=>Value.int .u8 z).toArray t frozen
  | o=>o }
end Go.Hx
end
section
namespace Go.Hx
open Go.Proofs Go.Proofs.YtkkenjdfbojdlaaGreatDoor
open Go.RowKit Go.ChangeShapes Go.WideShapes Go.ChangeAt
section
variable {H:Type}
end
def RdB (P:Program) (t:TypeId) (n:Nat) {α:Type} (c:α → Nat → PV) (B:Nat → α → Prop):Prop :=
 ∀ (H:Type) (enc:TypeId × Value → H) (w:World) (sp:Nat → Bool) (held:Bool) (fuel:Nat) (cs:List Value) (x:DataW H × List MemPlace),DataW.trod enc P w 0 sp held fuel t cs = some x →
  cs.length = n ∧ ∃ a:α,B (Rows.uptoBulk x.1) a ∧ ∀ j,j < n → ∃ v,cs[j]? = some v ∧ au (fj w) (c a j) v
section
variable {P:Program} {t e:TypeId}
theorem Rd.toB {n:Nat} {α:Type} {c:α → Nat → PV} (h:Rd P t n c):RdB P t n c fun _ _=>True:=by
 intro H enc w sp held fuel cs x hx
 obtain ⟨h1,a,h2⟩:=h _ enc w sp held fuel cs x hx
 exact ⟨h1,a,trivial,h2⟩
theorem RdB.co {n:Nat} {α β:Type} {c:α → Nat → PV} {c':β → Nat → PV} {B:Nat → α → Prop} {B':Nat → β → Prop} (h:RdB P t n c B) (f:α → β) (hB:∀ b a,B b a → B' b (f a)) (hc:∀ a j,j < n → CoP (c a j) (c' (f a) j)):RdB P t n c' B':=by
 intro H enc w sp held fuel cs x hx
 obtain ⟨h1,a,h0,h2⟩:=h _ enc w sp held fuel cs x hx
 refine ⟨h1,f a,hB _ _ h0,fun j hj=>?_⟩
 obtain ⟨v,h3,h4⟩:=h2 j hj
 exact ⟨v,h3,hc a j hj _ _ h4⟩
theorem a9v {H:Type} {enc:TypeId × Value → H} {W:World} {v:Value} {d:DataW H} {ps:List MemPlace} {α:Type} {c:α → Nat → PV} {B:Nat → α → Prop} (h:RdB P t 1 c B) (hc:v.cells.toList = [v]) (hd:DataW.Trod enc P W 0 (fun _=>true) true t v d ps):∃ a:α,B (Rows.uptoBulk d) a ∧ au (fj W) (c a 0) v:=by
 obtain ⟨fuel,hf⟩:=hd
 obtain ⟨_,a,h0,ha⟩:=h _ enc W _ _ fuel _ _ hf
 obtain ⟨u,hu,hr⟩:=ha 0 (by omega)
 rw [hc] at hu
 simp only [List.getElem?_cons_zero,Option.some.injEq] at hu
 subst hu
 exact ⟨a,h0,hr⟩
end
section
variable {P:Program} {t e:TypeId}
end
end Go.Hx
end
section
namespace Go.Hx
open Go.Proofs Go.RowKit
theorem b9r:Rd Tryz.prog 43 1 sC:=b8c Tryz.underlying43
theorem bbw:Rd Tryz.prog 45 2 Fd.c:=by
 intro H enc w sp held fuel cs x h
 obtain ⟨hl,n,hf⟩:=as9 Tryz.underlying45 h
 obtain ⟨y0,e0⟩:=hf 0 _ rfl
 obtain ⟨y1,e1⟩:=hf 1 _ rfl
 obtain ⟨a0,h0⟩:=af7 b9r e0
 obtain ⟨a1,h1⟩:=af7 b9r e1
 refine ⟨hl.trans (by kernel_rfl),(⟨a0,a1⟩:Fd),fun j hj=>?_⟩
 match j,hj with
 | 0,_=>exact h0 0 (by omega)
 | 1,_=>exact h1 0 (by omega)
theorem bcu:Rd Tryz.prog 42 1 (b99 2 Fd.c):=au5 Tryz.underlying42 (by kernel_rfl) (by omega) bbw
theorem bak:Tryz.prog.readableRec 42 = true ∧ 42 < Tryz.prog.types.size:=⟨by kernel_rfl,of_decide_eq_true (by kernel_rfl)⟩
end Go.Hx
end
section
namespace Go.Hx
abbrev Bs:=ByteArray
def bsC:Bs → Nat → PV:=fun b _=>.raw (.string b)
abbrev bsl (l:List Bs):PV:=psl 1 bsC l
abbrev pS (b:Bs):PC:=.one (.raw (.string b))
abbrev vS (b:Bs):HR:=be (.raw (.string b))
def byC:UInt8 → Nat → PV:=fun x _=>.raw (.int .u8 (x.toNat:Int))
abbrev byl (b:Bs):PV:=psl 1 byC b.data.toList
abbrev pU8 (x:UInt8):PC:=.one (.raw (.int .u8 (x.toNat:Int)))
theorem coN {α:Type} [Inhabited α] {s:Nat} {c:α → Nat → PV} {f:Nat → Nat → PV}:CoP (.sl 0 0 true f) (psl s c []):=CoP.sl rfl (.inr rfl) (fun h=>by cases h) fun i j hi _=>absurd hi (Nat.not_lt_zero i)
def abs (x:UInt8):Bool:=decide ((x.toNat:Int) ≤ 32) || decide ((x.toNat:Int) = 127)
def nk (l:List Bs) (i:Nat):Bool:=decide (l.getD i default = ⟨#[]⟩) || ((l.getD i default).data.toList.any abs || (l.take i).any fun x=>decide (x = l.getD i default))
def jw (l:List Bs):Int:=if 16 < l.length then 3 else if (List.range l.length).any (nk l) = true then 1 else 0
theorem aw9 {l:List Bs} {i:Nat} (h0:¬ (16:Int) < l.length) (hi:i < l.length) (h:nk l i = true):jw l = 1:=by
 unfold jw
 rw [if_neg (by omega),if_pos (List.any_eq_true.2 ⟨i,List.mem_range.2 hi,h⟩)]
theorem bc5 {l:List Bs} (h0:¬ (16:Int) < l.length) (h:∀ j,j < l.length → nk l j = false):jw l = 0:=by
 unfold jw
 rw [if_neg (by omega),if_neg]
 rw [Bool.not_eq_true,List.any_eq_false]
 intro j hj
 rw [h j (List.mem_range.1 hj)]
 exact Bool.false_ne_true
theorem bdc {l:List Bs} (h:(16:Int) < l.length):jw l = 3:=if_pos (by omega)
def bOf (l:List UInt8):Bs:=⟨l.toArray⟩
abbrev bL (b:Bs):List UInt8:=b.data.toList
theorem bau (b:Bs):bOf (bL b) = b:=by
 cases b
 simp [bOf]
def a34 (l:List Bs) (sep:Bs):Bs:=bOf (Lib.join (l.map bL) (bL sep))
def qw (l:List Bs) (s:AS):List Bs:=(al s).map fun i=>l.getD i default
def txT (l:List Bs) (s:AS):Bs:=if (qw l s).length = 0 then ⟨#[45]⟩ else a34 (qw l s) ⟨#[44]⟩
def szB (l:List Bs):Nat:=(l.map ByteArray.size).sum
theorem a7j (b:Bs):(bL b).length = b.size:=rfl
theorem au2 (l:List Bs) (sep:List UInt8):(Lib.join (l.map bL) sep).length ≤ szB l + sep.length * l.length:=by
 cases l with
 | nil=>simp [Lib.join_nil]
 | cons x r =>
  rw [List.map_cons,Lib.join_cons,List.length_append,Lib.joinTail_length]
  have:Lib.lens (r.map bL) = szB r:=by
   unfold Lib.lens szB
   rw [List.map_map]
   rfl
  rw [this,List.length_map]
  have h2:szB (x :: r) = x.size + szB r:=by simp [szB]
  rw [h2,a7j,List.length_cons,Nat.mul_succ]
  omega
theorem acg {l:List Bs} {s:AS} {m:Nat} (h:∀ b ∈ l,b.size ≤ m):szB (qw l s) ≤ m * 32:=by
 have key:∀ q:List Nat,szB (q.map fun i=>l.getD i default) ≤ m * q.length:=by
  intro q
  induction q with
  | nil=>simp [szB]
  | cons i q ih =>
   have h1:(l.getD i default).size ≤ m:=by
    rw [List.getD_eq_getElem?_getD]
    cases hi:l[i]? with
    | none=>exact Nat.zero_le _
    | some b=>exact h b (List.mem_of_getElem? hi)
   have h2:szB ((i :: q).map fun i=>l.getD i default) = (l.getD i default).size + szB (q.map fun i=>l.getD i default):=by simp [szB]
   rw [h2,List.length_cons,Nat.mul_succ]
   omega
 exact Nat.le_trans (key _) (Nat.mul_le_mul_left _ (ko s))
theorem b49 {l:List Bs} {s:AS} {m:Nat} (h:∀ b ∈ l,b.size ≤ m):(txT l s).size ≤ m * 32 + 33:=by
 unfold txT
 split
 · show 1 ≤ _
   omega
 show (bOf _).size ≤ _
 have h1:=au2 (qw l s) [44]
 have h2:=acg (s:=s) h
 have h3:(qw l s).length ≤ 32:=by unfold qw;rw [List.length_map];exact ko s
 have h4:(bOf (Lib.join ((qw l s).map bL) (bL ⟨#[44]⟩))).size = (Lib.join ((qw l s).map bL) [44]).length:=rfl
 rw [h4]
 simp only [List.length_singleton,Nat.one_mul] at h1
 omega
end Go.Hx
end
section
namespace Go.Hx
theorem ads {l:List Bs} {i:Nat} (hi:i < l.length):szB (l.take (i + 1)) = szB (l.take i) + (l.getD i default).size:=by
 unfold szB
 rw [List.take_succ,List.getElem?_eq_getElem hi,List.map_append,List.sum_append,List.getD_eq_getElem?_getD,List.getElem?_eq_getElem hi]
 simp
theorem aq2 (l:List Bs) (i:Nat):szB l = szB (l.take i) + szB (l.drop i):=by
 unfold szB
 rw [← List.sum_append,← List.map_append,List.take_append_drop]
theorem xa (l:List Bs) (i:Nat):szB (l.take i) ≤ szB l:=by have:=aq2 l i;omega
theorem a60 {l:List Bs} {i:Nat} (hi:i < l.length):(l.getD i default).size ≤ szB l:=by
 have h1:=ads hi
 have h2:=xa l (i + 1)
 omega
def oc (l:List Bs) (sep:Bs) (i:Nat):List UInt8:=bL (l.getD 0 default) ++ Lib.joinTail (bL sep) (((l.drop 1).take i).map bL)
theorem b8o (l:List Bs) (sep:Bs):oc l sep 0 = [] ++ bL (l.getD 0 default):=by simp [oc,Lib.joinTail]
theorem aab {l:List Bs} {sep:Bs} {i:Nat} (hi:1 + i < l.length):oc l sep (i + 1) = (oc l sep i ++ bL sep) ++ bL (l.getD (1 + i) default):=by
 unfold oc
 have h:((l.drop 1).map bL)[i]? = some (bL (l.getD (1 + i) default)):=by
  rw [List.getElem?_map,List.getElem?_drop,List.getD_eq_getElem?_getD,List.getElem?_eq_getElem hi]
  rfl
 have h2:=Lib.joinTail_take_succ (bL sep) ((l.drop 1).map bL) i _ h
 rw [List.map_take,List.map_take,h2]
 simp only [List.append_assoc]
theorem avu {l:List Bs} (sep:Bs) (h:l ≠ []):(⟨(oc l sep (l.length - 1)).toArray⟩:Bs) = a34 l sep:=by
 obtain ⟨x,r,rfl⟩:=List.exists_cons_of_ne_nil h
 unfold oc a34 bOf
 rw [List.map_cons,Lib.join_cons]
 simp
theorem b1s (l:List Bs) (sep:Bs) (i:Nat):(oc l sep i).length ≤ szB l + sep.size * l.length:=by
 unfold oc
 rw [List.length_append,Lib.joinTail_length,List.length_map]
 have h1:Lib.lens (((l.drop 1).take i).map bL) ≤ szB (l.drop 1):=by
  have:Lib.lens (((l.drop 1).take i).map bL) = szB ((l.drop 1).take i):=by
   unfold Lib.lens szB
   rw [List.map_map]
   rfl
  rw [this]
  exact xa _ _
 have h2:((l.drop 1).take i).length ≤ l.length:=by
  rw [List.length_take,List.length_drop]
  omega
 have h3:(bL (l.getD 0 default)).length + szB (l.drop 1) ≤ szB l:=by
  cases l with
  | nil=>exact Nat.le_refl 0
  | cons x r =>
   have e:szB (x :: r) = x.size + szB r:=by simp [szB]
   rw [e]
   show x.size + szB r ≤ _
   omega
 have h4:=Nat.mul_le_mul_left sep.size h2
 show _ + (sep.size * _ + _) ≤ _
 omega
theorem anr {l:List Bs} (sep:Bs) (h:(l.length:Int) = 1):a34 l sep = l.getD 0 default:=by
 match l,h with
 | [x],_ =>
  show bOf (Lib.join [bL x] (bL sep)) = x
  rw [Lib.join_one,bau]
theorem bcb {α:Type} {l:List α} (h:(l.length:Int) = 0):l = []:=List.eq_nil_of_length_eq_zero (by omega)
theorem b3l {n:Int} (h1:1 ≤ n) (h2:n ≤ 1000):(2:Int) ≤ 9223372036854775807 / n:=Int.le_ediv_of_mul_le (by omega) (by omega)
end Go.Hx
end
section
namespace Go.Hx
theorem xv {a b:AS} (h:∀ i,i < 32 → a.getLsbD i = b.getLsbD i):a = b:=BitVec.eq_of_getLsbD_eq h
theorem bb1 {s t:AS}:s &&& t = 0 ↔ ∀ i,i < 32 → s.getLsbD i = true → t.getLsbD i = false:=by
 constructor
 · intro h i hi hs
   have:=congrArg (fun x:AS=>x.getLsbD i) h
   simp only [BitVec.getLsbD_and,hs,Bool.true_and] at this
   simpa using this
 intro h
 apply xv
 intro i hi
 have:=h i hi
 rw [BitVec.getLsbD_and]
 cases hs:s.getLsbD i <;> simp_all
theorem b6w {s:AS} (h:s ≠ 0):∃ i,i < 32 ∧ s.getLsbD i = true:=by
 apply Classical.byContradiction
 intro hn
 refine h (xv fun i hi=>?_)
 cases hs:s.getLsbD i with
 | false=>simp
 | true=>exact absurd ⟨i,hi,hs⟩ hn
theorem aq5 {s:AS} {i:Nat} (h:s.getLsbD i = true):i < 32:=BitVec.lt_of_getLsbD h
theorem kj {s t:AS} {i:Nat} (hi:i < 32):(s &&& ~~~t).getLsbD i = (s.getLsbD i && !t.getLsbD i):=by simp [hi]
def ajp (a:Nat):AS:=1#32 <<< a
def dw (m:Fd) (b:AS):Bool:=decide (b &&& m.lhs = 0) && (decide (b &&& m.rhs ≠ 0) && decide (b &&& ~~~m.rhs ≠ 0))
def hdB (m:Fd) (b:AS):AS:=if dw m b = true then b &&& m.rhs else b
def tlB (m:Fd) (b:AS):List AS:=if dw m b = true then [b &&& ~~~m.rhs] else []
def stB (m:Fd) (l:List AS) (i:Nat):List AS:=(l.take i).map (hdB m) ++ l.drop i ++ (l.take i).flatMap (tlB m)
def rdB (m:Fd) (l:List AS):List AS:=l.map (hdB m) ++ l.flatMap (tlB m)
def c5 (ms:List Fd) (l:List AS):List AS:=ms.foldl (fun l m=>rdB m l) l
def lj:List Fd → List AS → Bool
 | [],_=>false
 | m :: ms,l=>l.any (dw m) || lj ms (rdB m l)
def zp (ms:List Fd):Nat → List AS → List AS
 | 0,l=>l
 | f + 1,l=>if lj ms l = true then zp ms f (c5 ms l) else c5 ms l
def muB:List AS → Nat
 | []=>0
 | b :: l=>b.toNat * b.toNat + muB l
theorem a8t:∀ (l k:List AS),muB (l ++ k) = muB l + muB k
 | [],k=>by simp [muB]
 | b :: l,k=>by simp [muB,a8t l k];omega
theorem a3x (b r:AS):(b &&& r).toNat + (b &&& ~~~r).toNat = b.toNat:=by
 have h:(b &&& r) &&& (b &&& ~~~r) = 0#32:=bb1.2 fun i hi hs=>by
  rw [kj hi]
  rw [BitVec.getLsbD_and,Bool.and_eq_true] at hs
  simp [hs.1,hs.2]
 have e:(b &&& r) + (b &&& ~~~r) = b:=by
  rw [BitVec.add_eq_or_of_and_eq_zero _ _ h]
  apply xv
  intro i hi
  rw [BitVec.getLsbD_or,kj hi,BitVec.getLsbD_and]
  cases b.getLsbD i <;> cases r.getLsbD i <;> rfl
 rw [← BitVec.toNat_add_of_and_eq_zero h,e]
theorem za {m:Fd} {b:AS}:dw m b = true ↔ b &&& m.lhs = 0 ∧ b &&& m.rhs ≠ 0 ∧ b &&& ~~~m.rhs ≠ 0:=by simp [dw]
theorem ayy {x y z:Nat} (h:x + y = z) (hx:0 < x) (hy:0 < y):x * x + y * y < z * z:=by
 subst h
 rw [Nat.add_mul,Nat.mul_add,Nat.mul_add]
 have:0 < x * y:=Nat.mul_pos hx hy
 have:0 < y * x:=Nat.mul_pos hy hx
 omega
theorem a0h {b:AS} (h:b ≠ 0):0 < b.toNat:=Nat.pos_of_ne_zero fun e=>h (BitVec.eq_of_toNat_eq e)
theorem aqe (m:Fd):∀ (l:List AS),muB (l.map (hdB m)) + muB (l.flatMap (tlB m)) + (if l.any (dw m) = true then 1 else 0) ≤ muB l
 | []=>by simp [muB]
 | b :: l=>by
  have ih:=aqe m l
  rw [List.map_cons,List.flatMap_cons,a8t,List.any_cons]
  simp only [muB]
  by_cases h:dw m b = true
  · obtain ⟨_,h2,h3⟩:=za.1 h
    have:=ayy (a3x b m.rhs) (a0h h2) (a0h h3)
    simp only [hdB,tlB,h,if_true,muB,Bool.true_or]
    omega
  rw [Bool.not_eq_true] at h
  simp only [hdB,tlB,h,muB,Bool.false_or,Bool.false_eq_true,if_false]
  omega
theorem b3g (m:Fd) (l:List AS):muB (rdB m l) + (if l.any (dw m) = true then 1 else 0) ≤ muB l:=by
 unfold rdB
 rw [a8t]
 exact aqe m l
theorem ai7:∀ (ms:List Fd) (l:List AS),muB (c5 ms l) + (if lj ms l = true then 1 else 0) ≤ muB l
 | [],l=>by simp [c5,lj]
 | m :: ms,l=>by
  have h1:=b3g m l
  have h2:=ai7 ms (rdB m l)
  show muB (c5 ms (rdB m l)) + _ ≤ _
  simp only [lj]
  by_cases h3:l.any (dw m) = true <;> by_cases h4:lj ms (rdB m l) = true <;> simp only [h3,h4,Bool.true_or,Bool.or_true,Bool.or_false,if_true,Bool.false_eq_true,if_false] at h1 h2 ⊢ <;> omega
structure Blk (ms:List Fd) (rest:AS) (bs:List AS):Prop where
 nz:∀ b ∈ bs,b ≠ 0
 cnt:∀ a,a < 32 → bs.countP (fun b=>b.getLsbD a) = if rest.getLsbD a = true then 1 else 0
 ind:∀ G:AS → Prop,G rest → (∀ m ∈ ms,∀ b,G b → dw m b = true → G (b &&& m.rhs) ∧ G (b &&& ~~~m.rhs)) → ∀ b ∈ bs,G b
theorem Blk.rd {ms:List Fd} {rest:AS} {bs:List AS} (h:Blk ms rest bs) {m:Fd} (hm:m ∈ ms):Blk ms rest (rdB m bs):=by
 have hmem:∀ {b:AS},b ∈ rdB m bs → ∃ b0 ∈ bs,(dw m b0 = false ∧ b = b0) ∨ (dw m b0 = true ∧ (b = b0 &&& m.rhs ∨ b = b0 &&& ~~~m.rhs)):=by
  intro b hb
  unfold rdB at hb
  rcases List.mem_append.1 hb with hb | hb
  · obtain ⟨b0,h0,rfl⟩:=List.mem_map.1 hb
    refine ⟨b0,h0, ?_⟩
    cases hs:dw m b0 <;> simp [hdB,hs]
  obtain ⟨b0,h0,hb⟩:=List.mem_flatMap.1 hb
  refine ⟨b0,h0, ?_⟩
  cases hs:dw m b0
  · simp [tlB,hs] at hb
  simp [tlB,hs] at hb
  exact .inr ⟨rfl, .inr hb⟩
 refine ⟨fun b hb=>?_,fun a ha=>?_,fun G h0 hG b hb=>?_⟩
 · obtain ⟨b0,h0,⟨_,rfl⟩ | ⟨hs,hb⟩⟩:=hmem hb
   · exact h.nz _ h0
   obtain ⟨_,h2,h3⟩:=za.1 hs
   rcases hb with rfl | rfl
   · exact h2
   exact h3
 · rw [← h.cnt a ha]
   have:∀ l:List AS,(l.map (hdB m)).countP (fun b=>b.getLsbD a) + (l.flatMap (tlB m)).countP (fun b=>b.getLsbD a) = l.countP (fun b=>b.getLsbD a):=by
    intro l
    induction l with
    | nil=>rfl
    | cons b l ih =>
     rw [List.map_cons,List.flatMap_cons,List.countP_append,List.countP_cons,List.countP_cons,← ih]
     cases hs:dw m b
     · simp [hdB,tlB,hs];omega
     simp only [hdB,tlB,hs,if_true,List.countP_cons,List.countP_nil,kj ha,BitVec.getLsbD_and]
     cases b.getLsbD a <;> cases m.rhs.getLsbD a <;> simp <;> omega
   unfold rdB
   rw [List.countP_append]
   exact this bs
 obtain ⟨b0,h1,⟨_,rfl⟩ | ⟨hs,hb⟩⟩:=hmem hb
 · exact h.ind G h0 hG _ h1
 obtain ⟨g1,g2⟩:=hG m hm b0 (h.ind G h0 hG _ h1) hs
 rcases hb with rfl | rfl
 · exact g1
 exact g2
def ir (rest:AS):List AS:=if rest = 0 then [] else [rest]
theorem Blk.start (ms:List Fd) (rest:AS):Blk ms rest (ir rest):=by
 unfold ir
 by_cases h:rest = 0
 · subst h
   simp only [if_true]
   exact ⟨fun _ h=>by (cases h),fun a ha=>by simp,fun _ _ _ _ h=>by cases h⟩
 rw [if_neg h]
 exact ⟨fun b hb=>by (simp at hb;subst hb;exact h),fun a ha=>by simp [List.countP_cons],fun G h0 _ b hb=>by (simp at hb;subst hb;exact h0)⟩
theorem ann (rest:AS):muB (ir rest) < 18446744073709551616:=by
 unfold ir
 split
 · simp [muB]
 simp only [muB]
 have h:=rest.isLt
 have:=Nat.mul_le_mul (Nat.le_of_lt_succ (show rest.toNat < 4294967295 + 1 from h)) (Nat.le_of_lt_succ (show rest.toNat < 4294967295 + 1 from h))
 omega
def blks (ms:List Fd) (rest:AS):List AS:=zp ms 18446744073709551616 (ir rest)
theorem ajo {p:AS → Bool} {l:List AS} (h:l.countP p ≤ 1) {a b:AS} (ha:a ∈ l) (hb:b ∈ l) (pa:p a = true) (pb:p b = true):a = b:=by
 rw [List.countP_eq_length_filter] at h
 have h1:a ∈ l.filter p:=List.mem_filter.2 ⟨ha,pa⟩
 have h2:b ∈ l.filter p:=List.mem_filter.2 ⟨hb,pb⟩
 cases hl:l.filter p with
 | nil=>rw [hl] at h1;cases h1
 | cons x r =>
  rw [hl] at h h1 h2
  cases r with
  | nil=>simp at h1 h2;rw [h1,h2]
  | cons=>simp at h
theorem Blk.one {ms:List Fd} {rest:AS} {bs:List AS} (h:Blk ms rest bs) {b b':AS} (hb:b ∈ bs) (hb':b' ∈ bs) {a:Nat} (h1:b.getLsbD a = true) (h2:b'.getLsbD a = true):b = b':=by
 refine ajo (p:=fun b=>b.getLsbD a) ?_ hb hb' h1 h2
 rw [h.cnt a (aq5 h1)]
 split <;> omega
theorem Blk.sub {ms:List Fd} {rest:AS} {bs:List AS} (h:Blk ms rest bs) {b:AS} (hb:b ∈ bs):Go.Hx.sub b rest:=cb.2 fun a ha hba=>by
 have h1:=h.cnt a ha
 have h2:0 < bs.countP (fun b=>b.getLsbD a):=List.countP_pos_iff.2 ⟨b,hb,hba⟩
 cases hr:rest.getLsbD a with
 | true=>rfl
 | false=>rw [hr] at h1;simp only [Bool.false_eq_true,if_false] at h1;omega
end Go.Hx
end
section
namespace Go.Hx
def sgl (f:Fd):List Fd:=(al f.rhs).map fun a=>⟨f.lhs,ajp a⟩
def a36 (fs ms:List Fd):List Fd:=ms ++ fs.flatMap sgl
def mq (T:List AS) (r:AS):List AS:=if r ∈ T then T else T ++ [r]
theorem a4r {T:List AS} {r z:AS}:z ∈ mq T r ↔ z ∈ T ∨ z = r:=by
 unfold mq
 split
 · rename_i h
   constructor
   · exact .inl
   rintro (h2 | rfl)
   · exact h2
   exact h
 simp
theorem t7 {T:List AS} {r:AS} (h:T.Nodup):(mq T r).Nodup:=by
 unfold mq
 split
 · exact h
 rename_i hr
 rw [List.nodup_append]
 exact ⟨h,by simp,fun a ha b hb=>by simp at hb;subst hb;rintro rfl;exact hr ha⟩
def a7q (s:AS) (o:List AS) (T:List AS):List AS:=T.foldl (fun o r=>mq o (r &&& ~~~s)) o
def o4 (T:List AS) (s:AS):List AS:=a7q s [] T
theorem a56 {s:AS}:∀ {T o:List AS},(o.Nodup → (a7q s o T).Nodup) ∧ ∀ z,z ∈ a7q s o T ↔ z ∈ o ∨ ∃ r ∈ T,z = r &&& ~~~s
 | [],o=>⟨fun h=>h,fun z=>by simp [a7q]⟩
 | r :: T,o=>by
  obtain ⟨h1,h2⟩:=a56 (s:=s) (T:=T) (o:=mq o (r &&& ~~~s))
  refine ⟨fun h=>h1 (t7 h),fun z=>?_⟩
  show z ∈ a7q s (mq o (r &&& ~~~s)) T ↔ _
  rw [h2 z,a4r]
  simp only [List.mem_cons]
  constructor
  · rintro ((h | h) | ⟨q,hq,h⟩)
    · exact .inl h
    · exact .inr ⟨r, .inl rfl,h⟩
    exact .inr ⟨q, .inr hq,h⟩
  rintro (h | ⟨q,rfl | hq,h⟩)
  · exact .inl (.inl h)
  · exact .inl (.inr h)
  exact .inr ⟨q,hq,h⟩
theorem a4w {T:List AS} {s z:AS}:z ∈ o4 T s ↔ ∃ r ∈ T,z = r &&& ~~~s:=by
 have:=(a56 (s:=s) (T:=T) (o:=[])).2 z
 simpa [o4] using this
theorem a68 (T:List AS) (s:AS):(o4 T s).Nodup:=(a56 (s:=s) (T:=T) (o:=[])).1 List.nodup_nil
def x3 (d:Fd) (r k:AS):AS:=(r &&& (d.lhs ||| d.rhs)) ||| (k &&& ~~~(d.lhs ||| d.rhs))
def agB (d:Fd) (r k:AS):Bool:=decide ((r ^^^ k) &&& d.lhs = 0)
theorem az1 {d:Fd} {r k:AS} {i:Nat} (hi:i < 32):(x3 d r k).getLsbD i = (if d.lhs.getLsbD i || d.rhs.getLsbD i then r.getLsbD i else k.getLsbD i):=by
 unfold x3
 rw [BitVec.getLsbD_or,kj hi,BitVec.getLsbD_and,BitVec.getLsbD_or]
 cases d.lhs.getLsbD i <;> cases d.rhs.getLsbD i <;> simp
structure bao (fs ms:List Fd) (T:List AS):Prop where
 fd:∀ d ∈ fs,∀ r ∈ T,∀ k ∈ T,agB d r k = true → (r ^^^ k) &&& d.rhs = 0
 mv:∀ d ∈ ms,∀ r ∈ T,∀ k ∈ T,agB d r k = true → x3 d r k ∈ T
def bbq (fs:List Fd) (bs:List AS) (a:Nat):Prop:=ajp a ∈ bs ∧ ∃ f ∈ fs,f.rhs.getLsbD a = true ∧ f.lhs.getLsbD a = false
structure JT (fs:List Fd) (bs:List AS) (rest:AS) (T:List AS):Prop where
 z:(0:AS) ∈ T
 r:∀ r ∈ T,sub r rest ∧ ∀ b ∈ bs,b &&& r = 0 ∨ sub b r
 top:∃ L ∈ T,(∀ r ∈ T,sub r L) ∧ ∀ a,a < 32 → rest.getLsbD a = true → L.getLsbD a = false → bbq fs bs a
section
variable {fs ms:List Fd} {bs:List AS} {rest:AS} {T:List AS}
def bdz (T:List AS) (b:AS):Prop:=∀ r ∈ T,∀ k ∈ T,((r &&& b) ||| (k &&& ~~~b)) ∈ T
structure bep (fs ms:List Fd) (bs:List AS) (rest:AS) (T:List AS):Prop where
 j:JT fs bs rest T
 c:bao fs ms T
def qB (T:List AS) (L x rest y:AS):Prop:=y ≠ 0 ∧ sub y rest ∧ (L &&& ~~~(x ||| y)) ∈ T
end
end Go.Hx
end
section
namespace Go.Hx
open Go.RowKit
section
variable {w0:World} {nt:Nat} {c:Ctx} {s:S} {a:Act} {w:World}
theorem aj9 {base:Nat} {o:av} {id:Nat} {e et:TypeId} {es:Nat} {m:Nat → Nat} {g:Nat → Nat → Nat → PV} (hes:0 < es) (hb:c.blk id = noB) (hv:∃ ad,c.own id = .slice ad 0 0):dm base c o w id (.nest e et es 0 m g none):=by
 obtain ⟨ad,hv⟩:=hv
 refine ⟨hes,Nat.zero_le _,fun i hi=>absurd hi (Nat.not_lt_zero i),fun b=>?_,fun i b hi=>absurd hi (Nat.not_lt_zero i),fun i hi=>absurd hi (Nat.not_lt_zero i), .inl ⟨rfl,ad,hv⟩⟩
 rw [hb,hv]
 constructor
 · exact fun h=>h.elim
 rintro (h | ⟨i,hi,_⟩)
 · cases ad <;> simp [bz] at h
 exact absurd hi (Nat.not_lt_zero i)
theorem a65 {imm:Imm} {s':Nat} {f:Nat → Nat → PV} {u:Value} (h:au imm (.sl 0 s' true f) u):∃ ad,u = .slice ad 0 0:=by
 obtain ⟨ad,cap,rfl,_,_,hc,_⟩:=h
 rw [hc rfl]
 exact ⟨ad,rfl⟩
def pf (m:Nat → Nat) (n k:Nat):Nat → Nat:=fun i=>bif Nat.beq i n then k else m i
def rg (g:Nat → Nat → Nat → PV) (n:Nat) (f:Nat → Nat → PV):Nat → Nat → Nat → PV:=fun i=>bif Nat.beq i n then f else g i
theorem a91 (m:Nat → Nat) (n k:Nat):pf m n k n = k:=by simp [pf]
theorem zj {m:Nat → Nat} {n k i:Nat} (h:i ≠ n):pf m n k i = m i:=by
 have:Nat.beq i n = false:=by rw [Bool.eq_false_iff];exact fun hb=>h (Nat.eq_of_beq_eq_true hb)
 simp [pf,this]
theorem ail (g:Nat → Nat → Nat → PV) (n:Nat) (f:Nat → Nat → PV):rg g n f n = f:=by simp [rg]
theorem ad9 {g:Nat → Nat → Nat → PV} {n i:Nat} {f:Nat → Nat → PV} (h:i ≠ n):rg g n f i = g i:=by
 have:Nat.beq i n = false:=by rw [Bool.eq_false_iff];exact fun hb=>h (Nat.eq_of_beq_eq_true hb)
 simp [rg,this]
theorem ade {v:Value} {b:Nat} (h:bz v = some b):ce v = some b:=by
 unfold bz at h
 split at h
 · split at h
   · cases h
   exact h
 cases h
theorem ak.absorb (h:ak w0 nt c s a w) {id id' k n:Nat} {e et:TypeId} {es:Nat} {m:Nat → Nat} {g:Nat → Nat → Nat → PV} {f:Nat → Nat → PV} (ho:s.o id = some (.nest e et es n m g (some (id',k)))) (ho':s.o id' = some (.arr true es et k f)) :
 ∃ c',c'.old = c.old ∧ ak w0 nt c' ((s.setO id (some (.nest e et es (n + 1) (pf m n k) (rg g n f) none))).setO id' none) a w:=by
 have hne:id' ≠ id:=by rintro rfl;rw [ho] at ho';cases ho'
 have hnk:k8 0 c s.o w id e et es n m g (some (id',k)):=h.objs id _ ho
 obtain ⟨q0,q1,q5⟩:=h.objs id' _ ho'
 have hcb:∀ b,bz (c.own id') = some b → c.blk id' b:=fun b hb=>by
  rcases q5 with ⟨q6,_⟩ | ⟨q7,_,q8⟩
  · rw [q6];exact ade hb
  obtain ⟨ad,cap,r1,_,_,r4,_⟩:=q8
  rcases q7 with q7 | q7
  · cases q7
  subst q7
  rw [r1,r4 rfl] at hb
  cases ad <;> simp [bz] at hb
 have hrow:(k = 0 ∧ ∃ a,c.own id' = .slice a 0 0) ∨ ∃ ys,w.ownsRow 0 et es (c.own id') k ys ∧ ∀ r j,r < k → j < es → ∃ x,ys[r * es + j]? = some x ∧ au c.imm (f r j) x:=by
  rcases q5 with ⟨q6,xs,q7,q8⟩ | ⟨q6,q7,q8⟩
  · exact .inr ⟨xs,q7,q8⟩
  rcases q6 with q6 | q6
  · cases q6
  subst q6
  exact .inl ⟨rfl,a65 q8⟩
 let o':av:=((s.setO id (some (.nest e et es (n + 1) (pf m n k) (rg g n f) none))).setO id' none).o
 have oid:o' id = some (.nest e et es (n + 1) (pf m n k) (rg g n f) none):=by
  show (if id = id' then _ else if id = id then _ else _) = _
  rw [if_neg (Ne.symm hne),if_pos rfl]
 have oid':o' id' = none:=by
  show (if id' = id' then _ else _) = _
  rw [if_pos rfl]
 have oelse:∀ q,q ≠ id → q ≠ id' → o' q = s.o q:=fun q h1 h2=>by
  show (if q = id' then _ else if q = id then _ else _) = _
  rw [if_neg h2,if_neg h1]
 let c':Ctx:={ old:=c.old,imm:=c.imm,tab:=c.tab,own:=c.own,blk:=fun q=>if q = id then (fun b=>c.blk id b ∨ bz (c.own id') = some b) else c.blk q,rows:=fun q=>if q = id then (fun i=>if i = n then c.own id' else c.rows id i) else c.rows q }
 have rlt:∀ i,i < n → c'.rows id i = c.rows id i:=fun i hi=>by
  show (if id = id then (fun i=>if i = n then c.own id' else c.rows id i) else c.rows id) i = _
  rw [if_pos rfl]
  show (if i = n then _ else _) = _
  rw [if_neg (by omega)]
 have rn:c'.rows id n = c.own id':=by
  show (if id = id then (fun i=>if i = n then c.own id' else c.rows id i) else c.rows id) n = _
  rw [if_pos rfl]
  show (if n = n then _ else _) = _
  rw [if_pos rfl]
 have hevo:∀ q,Evo c s.o c' o' q:=fun q=>by
  by_cases h1:q = id
  · subst h1
    refine .inr (.inr ⟨_,_,1,e,n + 1,n + 1,ho,rfl,oid,rfl,Nat.le_refl _,fun _=>rfl,fun e2 et2 es2 n2 m2 g2 pd2 hb2=>?_⟩)
    cases hb2
    refine ⟨_,_,_,_,_,_,rfl,Nat.le_succ _,fun i hi=>⟨by rw [zj (by omega)];exact Nat.le_refl _,fun _=>rlt i hi⟩⟩
  by_cases h2:q = id'
  · subst h2;exact .inl oid'
  exact Evo.of_same (oelse q h1 h2) rfl (by show (if q = id then _ else _) = _;rw [if_neg h1])
 have bid:∀ q,q ≠ id → c'.blk q = c.blk q:=fun q hq=>by show (if q = id then _ else _) = _;rw [if_neg hq]
 have bself:∀ b,c'.blk id b ↔ (c.blk id b ∨ bz (c.own id') = some b):=fun b=>by
  show (if id = id then _ else c.blk id:Nat → Prop) b ↔ _
  rw [if_pos rfl]
 have hold:∀ q ob,o' q = some ob → q ≠ id → q ≠ id' ∧ s.o q = some ob:=fun q ob hq h1=>by
  by_cases h2:q = id'
  · subst h2;rw [oid'] at hq;cases hq
  exact ⟨h2,by rw [← oelse q h1 h2];exact hq⟩
 have whose:∀ b,c'.blk id b → c.blk id b ∨ c.blk id' b:=fun b hb=>((bself b).1 hb).imp (fun z=>z) (hcb b)
 refine ⟨c',rfl,⟨h.defers,h.size,h.below,fun d x hx=>(h.tmps d x hx).evo (Imm.le.refl c.imm) fun q _=>hevo q,fun q ob hq=>?_,fun q q' ob ob' b hq hq' hb hb'=>?_,h.imm,fun q ob b hq hb=>?_,h.was,h.frm,fun q ob b hq hb=>?_,fun q hq=>(h.fixed q hq).trans (hevo q)⟩⟩
 · by_cases h1:q = id
   · subst h1
     have hq:o' q = some ob:=hq
     rw [oid] at hq
     cases hq
     have hlen:=hnk.len
     simp only [pi] at hlen
     refine ⟨hnk.pos,hlen,fun i hi=>?_,fun b=>?_,fun i b hi hb=>?_,fun i hi=>?_, .inr ?_⟩
     · by_cases hin:i = n
       · subst hin;rw [a91];exact q1
       rw [zj hin];exact hnk.lens i (by omega)
     · rw [bself,hnk.blks]
       constructor
       · rintro ((h2 | ⟨i,hi,h2⟩) | h2)
         · exact .inl h2
         · exact .inr ⟨i,by omega,by rw [rlt i hi];exact h2⟩
         exact .inr ⟨n,by omega,by rw [rn];exact h2⟩
       rintro (h2 | ⟨i,hi,h2⟩)
       · exact .inl (.inl h2)
       by_cases hin:i = n
       · subst hin;rw [rn] at h2;exact .inr h2
       rw [rlt i (by omega)] at h2;exact .inl (.inr ⟨i,by omega,h2⟩)
     · have far:∀ b,bz (c.own id') = some b → ¬ c.blk q b:=fun b h2 h3=>hne (h.inj id' q _ _ b ho' ho (hcb b h2) h3)
       by_cases hin:i = n
       · subst hin
         rw [rn] at hb
         refine ⟨fun h2=>far b hb ((hnk.blks b).2 (.inl h2)),fun i' hi' h2=>?_⟩
         by_cases hin':i' = i
         · exact hin'
         rw [rlt i' (by omega)] at h2
         exact (far b hb ((hnk.blks b).2 (.inr ⟨i',by omega,h2⟩))).elim
       rw [rlt i (by omega)] at hb
       obtain ⟨h2,h3⟩:=hnk.apart i b (by omega) hb
       refine ⟨h2,fun i' hi' h4=>?_⟩
       by_cases hin':i' = n
       · subst hin'
         rw [rn] at h4
         exact (far b h4 ((hnk.blks b).2 (.inr ⟨i,by omega,hb⟩))).elim
       rw [rlt i' (by omega)] at h4
       exact h3 i' (by omega) h4
     · by_cases hin:i = n
       · subst hin
         rw [rn,a91,ail]
         exact hrow
       rw [rlt i (by omega),zj hin,ad9 hin]
       exact hnk.row i (by omega)
     rcases hnk.top with ⟨h2,_⟩ | ⟨xs,t1,t2,t3⟩
     · simp [pi] at h2
     refine ⟨xs,t1,fun i hi=>?_,fun p hp=>by cases hp⟩
     by_cases hin:i = n
     · subst hin
       obtain ⟨x,hx,hxr⟩:=t3 _ rfl
       obtain ⟨_,_,hr3⟩:=hxr
       rw [rn,hx,(hr3 _ _ _ _ ho' rfl).2 rfl]
     rw [rlt i (by omega)]
     exact t2 i (by omega)
   obtain ⟨h2,h3⟩:=hold q ob hq h1
   exact (h.objs q ob h3).keep (Imm.le.refl c.imm) rfl (bid q h1) (fun j _=>hevo j) (fun b _=>rfl) (by show (if q = id then _ else _) = _;rw [if_neg h1])
 · by_cases h1:q = id
   · by_cases h2:q' = id
     · rw [h1,h2]
     obtain ⟨h3,h4⟩:=hold q' ob' hq' h2
     rw [bid q' h2] at hb'
     subst h1
     rcases whose b hb with h5 | h5
     · exact h.inj q q' _ _ b ho h4 h5 hb'
     exact (h3 (h.inj q' id' _ _ b h4 ho' hb' h5)).elim
   obtain ⟨h3,h4⟩:=hold q ob hq h1
   rw [bid q h1] at hb
   by_cases h2:q' = id
   · subst h2
     rcases whose b hb' with h5 | h5
     · exact h.inj q q' _ _ b h4 ho hb h5
     exact (h3 (h.inj q id' _ _ b h4 ho' hb h5)).elim
   obtain ⟨h5,h6⟩:=hold q' ob' hq' h2
   rw [bid q' h2] at hb'
   exact h.inj q q' _ _ b h4 h6 hb hb'
 · by_cases h1:q = id
   · subst h1
     rcases whose b hb with h5 | h5
     · exact h.sep q _ b ho h5
     exact h.sep id' _ b ho' h5
   rw [bid q h1] at hb
   exact h.sep q ob b (hold q ob hq h1).2 hb
 by_cases h1:q = id
 · subst h1
   rcases whose b hb with h5 | h5
   · exact h.fsep q _ b ho h5
   exact h.fsep id' _ b ho' h5
 rw [bid q h1] at hb
 exact h.fsep q ob b (hold q ob hq h1).2 hb
def yt (es:Nat) (m:Nat → Nat) (g:Nat → Nat → Nat → PV):Nat → Nat → PV:=fun i _=>.sl (m i) es false (g i)
open Classical in
noncomputable def thinImm (c:Ctx) (w:World) (id n:Nat):Imm:=fun b=>if ∃ i,i < n ∧ bz (c.rows id i) = some b then w.heap[b]? else c.imm b
theorem ak.thin (h:ak w0 nt c s a w) {id n:Nat} {e et:TypeId} {es:Nat} {m:Nat → Nat} {g:Nat → Nat → Nat → PV} (ho:s.o id = some (.nest e et es n m g none)) :
 ∃ c',c'.old = c.old ∧ ak w0 nt c' (s.setO id (some (.arr true 1 e n (yt es m g)))) a w:=by
 have hnk:k8 0 c s.o w id e et es n m g none:=h.objs id _ ho
 have hin:∀ b,(∃ i,i < n ∧ bz (c.rows id i) = some b) → c.blk id b:=fun b hb=>(hnk.blks b).2 (.inr hb)
 have hle:Imm.le c.imm (thinImm c w id n):=fun b ob hb=>by
  unfold thinImm
  by_cases hk:∃ i,i < n ∧ bz (c.rows id i) = some b
  · rw [h.sep id _ b ho (hin b hk)] at hb;cases hb
  rw [if_neg hk];exact hb
 let ob':af:=.arr true 1 e n (yt es m g)
 let bk:Nat → Prop:=fun b=>bz (c.own id) = some b
 let c':Ctx:={ old:=c.old,imm:=thinImm c w id n,tab:=c.tab.mono hle,own:=c.own,blk:=fun q=>if q = id then bk else c.blk q,rows:=c.rows }
 have oid:(s.setO id (some ob')).o id = some ob':=by show (if id = id then _ else _) = _;rw [if_pos rfl]
 have oelse:∀ q,q ≠ id → (s.setO id (some ob')).o q = s.o q:=fun q hq=>by show (if q = id then _ else _) = _;rw [if_neg hq]
 have hevo:∀ q,Evo c s.o c' (s.setO id (some ob')).o q:=fun q=>by
  by_cases h1:q = id
  · subst h1
    exact .inr (.inr ⟨_, .arr true 1 e n (yt es m g),1,e,n,n,ho,rfl,oid,rfl,Nat.le_refl _,fun _=>rfl,fun _ _ _ _ _ _ _ hb=>by cases hb⟩)
  exact Evo.of_same (oelse q h1) rfl rfl
 have bid:∀ q,q ≠ id → c'.blk q = c.blk q:=fun q hq=>by show (if q = id then _ else _) = _;rw [if_neg hq]
 have bself:c'.blk id = bk:=by show (if id = id then _ else _) = _;rw [if_pos rfl]
 have whose:∀ b,c'.blk id b → c.blk id b:=fun b hb=>by
  rw [bself] at hb
  exact (hnk.blks b).2 (.inl hb)
 have hrowP:∀ i,i < n → au (thinImm c w id n) (.sl (m i) es false (g i)) (c.rows id i):=fun i hi=>by
  obtain ⟨ad,cap,q1,q2,q3⟩:=aaj (h.objs id _ ho) hi
  refine ⟨ad,cap,q1,q2,q3,(fun hh=>by cases hh),fun hm=>?_⟩
  obtain ⟨b,cap',ys,r1,r2,_,r3⟩:=a5d (h.objs id _ ho) hi hm
  rw [q1] at r1
  simp only [Value.slice.injEq,true_and] at r1
  obtain ⟨rfl,rfl⟩:=r1
  refine ⟨b,0,rfl,fun r j hr hj=>?_⟩
  obtain ⟨x,_,hx,hxr⟩:=r3 r j hr hj
  refine ⟨x, ?_,au.mono hle hxr⟩
  rw [Nat.zero_add]
  unfold ij thinImm
  rw [if_pos ⟨i,hi,r2⟩]
  unfold World.cell? at hx
  dsimp only at hx
  split at hx
  · rename_i cs e0 fr hb'
    rw [hb']
    simpa using hx
  cases hx
 refine ⟨c',rfl,⟨h.defers.keep (fun _ _=>rfl) (fun D hD hd=>?_),h.size,h.below,fun d x hx=>(h.tmps d x hx).evo hle fun q _=>hevo q,fun q ob hq=>?_,fun q q' ob ob2 b hq hq' hb hb'=>?_,fun b ob hb=>?_,fun q ob b hq hb=>?_,fun b hb=>?_,h.frm,fun q ob b hq hb=>?_,fun q hq=>(h.fixed q hq).trans (hevo q)⟩⟩
 · show thinImm c w id n D = none
   unfold thinImm
   rw [if_neg fun hk=>by
    obtain ⟨x1,hc,hdt⟩:=(h.objs id _ ho).data (hin D hk)
    rw [hd] at hc
    cases hc
    cases hdt]
   exact hD
 · by_cases h1:q = id
   · subst h1
     rw [oid] at hq
     cases hq
     refine ⟨Nat.one_pos,hnk.len, ?_⟩
     have hplain:n = 0 ∧ (∃ ad,c.own q = .slice ad 0 0) → (c'.blk q = gv (c.own q) ∧ ∃ xs,w.ownsRow 0 e 1 (c.own q) n xs ∧ ∀ i j,i < n → j < 1 → ∃ x,xs[i * 1 + j]? = some x ∧ au c'.imm (yt es m g i j) x) ∨
      ((true = false ∨ n = 0) ∧ c'.blk q = noB ∧ au c'.imm (.sl n 1 true (yt es m g)) (c.own q)):=by
      rintro ⟨rfl,ad,hv⟩
      refine .inr ⟨.inr rfl, ?_, ?_⟩
      · rw [bself]
        funext b
        show (bz (c.own q) = some b) = False
        rw [hv]
        cases ad <;> simp [bz]
      rw [hv]
      exact ⟨ad,0,rfl,Nat.le_refl _,Nat.zero_le _,fun _=>rfl,fun hh=>absurd hh (Nat.lt_irrefl 0)⟩
     rcases hnk.top with ⟨h2,h3⟩ | ⟨xs,t1,t2,_⟩
     · exact hplain ⟨h2,h3⟩
     have t1:w.ownsRow 0 e 1 (c.own q) n xs:=t1
     rcases ip t1 with r0 | ⟨b,cap,rv,rb⟩
     · exact hplain r0
     refine .inl ⟨?_,xs,t1,fun i j hi hj=>?_⟩
     · rw [bself]
       funext b'
       show (bz (c.own q) = some b') = (ce (c.own q) = some b')
       rw [rb,rv]
       rfl
     obtain rfl:j = 0:=by omega
     exact ⟨_,by simpa using t2 i hi,hrowP i hi⟩
   rw [oelse q h1] at hq
   exact (h.objs q ob hq).keep hle rfl (bid q h1) (fun j _=>hevo j) (fun b _=>rfl) rfl
 · by_cases h1:q = id
   · by_cases h2:q' = id
     · rw [h1,h2]
     rw [oelse q' h2] at hq'
     rw [bid q' h2] at hb'
     subst h1
     exact h.inj q q' _ _ b ho hq' (whose b hb) hb'
   rw [oelse q h1] at hq
   rw [bid q h1] at hb
   by_cases h2:q' = id
   · subst h2
     exact h.inj q q' _ _ b hq ho hb (whose b hb')
   rw [oelse q' h2] at hq'
   rw [bid q' h2] at hb'
   exact h.inj q q' _ _ b hq hq' hb hb'
 · have hb:thinImm c w id n b = some ob:=hb
   unfold thinImm at hb
   split at hb
   · exact hb
   exact h.imm b ob hb
 · show thinImm c w id n b = none
   unfold thinImm
   by_cases h1:q = id
   · subst h1
     rw [bself] at hb
     rw [if_neg fun ⟨i,hi,hk⟩=>(hnk.apart i b hi hk).1 hb]
     exact h.sep q _ b ho ((hnk.blks b).2 (.inl hb))
   rw [oelse q h1] at hq
   rw [bid q h1] at hb
   rw [if_neg fun hk=>h1 (h.inj q id _ _ b hq ho hb (hin b hk))]
   exact h.sep q ob b hq hb
 · show thinImm c w id n b = c.old.1 b
   unfold thinImm
   rw [if_neg fun hk=>hb (h.fsep id _ b ho (hin b hk))]
   exact h.was b hb
 by_cases h1:q = id
 · subst h1
   exact h.fsep q _ b ho (whose b hb)
 rw [oelse q h1] at hq
 rw [bid q h1] at hb
 exact h.fsep q ob b hq hb
end
section
variable {ro:Option Nat} {P:Program} {nt:Nat} {st:HSt} {Q:Exit → HSt → Prop}
theorem aku {c:Code} (id id':Nat) {k n:Nat} {e et:TypeId} {es:Nat} {m:Nat → Nat} {g:Nat → Nat → Nat → PV} {f:Nat → Nat → PV} (ho:bf st.o id = some (.nest e et es n m g (some (id',k)))) (ho':bf st.o id' = some (.arr true es et k f))
 (h:HW (ro:=ro) P nt c ⟨st.t,(id',none) :: (id,some (.nest e et es (n + 1) (pf m n k) (rg g n f) none)) :: st.o⟩ Q):HW (ro:=ro) P nt c st Q:=fun w0 m0 a w hr=>by
 obtain ⟨cc,hold,hrr⟩:=hr
 obtain ⟨c',h1,h2⟩:=hrr.absorb ho ho'
 refine h w0 m0 a w ⟨c',h1.trans hold, ?_⟩
 have e1:=v6 ⟨st.t,(id,some (.nest e et es (n + 1) (pf m n k) (rg g n f) none)) :: st.o⟩ id'
 rw [ud] at e1
 rw [e1]
 exact h2
theorem b23 {c:Code} (id:Nat) {n:Nat} {e et:TypeId} {es:Nat} {m:Nat → Nat} {g:Nat → Nat → Nat → PV} (ho:bf st.o id = some (.nest e et es n m g none))
 (h:HW (ro:=ro) P nt c ⟨st.t,(id,some (.arr true 1 e n (yt es m g))) :: st.o⟩ Q):HW (ro:=ro) P nt c st Q:=fun w0 m0 a w hr=>by
 obtain ⟨cc,hold,hrr⟩:=hr
 obtain ⟨c',h1,h2⟩:=hrr.thin ho
 refine h w0 m0 a w ⟨c',h1.trans hold, ?_⟩
 rw [ud]
 exact h2
end
theorem a7i {nt:Nat} {st:HSt} {w0:World} {m0:Old} {a:Act} {w:World} (bx off id:Nat) {s':Nat} {f':Nat → Nat → PV} {l:List HV} (e et:TypeId) (es:Nat) (m:Nat → Nat) (g:Nat → Nat → Nat → PV) (hs:0 < es) (hb:bf st.o bx = some (.box l)) (hl:l[off]? = some (.p (.sl 0 s' true f'))) (hn:qq id st = true) (hne:Nat.beq bx id = false)
 (hr:Rel w0 m0 nt st.den a w):Rel w0 m0 nt (HSt.den ⟨st.t,(bx,some (.box (b9 l off [.ref id 0]))) :: (id,some (.nest e et es 0 m g none)) :: st.o⟩) a w:=by
 obtain ⟨hnm,hno⟩:=kd hn
 obtain ⟨cc,hold,hrr⟩:=hr
 have hbi:bx ≠ id:=by rintro rfl;simp at hne
 obtain ⟨b0,C0,e0,p1,p2,p3,p4,p5⟩:=hrr.objs bx _ hb
 obtain ⟨u,hu,hur⟩:=p5.get off _ hl
 have hx:au cc.imm (.sl 0 s' true f') u:=hur
 have hfresh:=hrr.fresh id hnm hno (.nest e et es 0 m g none) w u noB (Grw.refl w none) (fun b hb=>hb.elim) (aj9 hs (by simp) (by simpa using a65 hx))
 rw [← ud] at hfresh
 have hb':(HSt.den ⟨st.t,(id,some (.nest e et es 0 m g none)) :: st.o⟩).o bx = some (.box l):=by
  simp only [HSt.den,bo,hbi,if_false];exact hb
 have hevo:∀ (c1:Ctx),c1.own = (fun k=>if k = id then u else cc.own k) → Evo { old:=cc.old,imm:=cc.imm,tab:=cc.tab,own:=fun k=>if k = id then u else cc.own k,blk:=fun k=>if k = id then noB else cc.blk k,rows:=cc.rows } (HSt.den ⟨st.t,(id,some (.nest e et es 0 m g none)) :: st.o⟩).o c1 ((HSt.den ⟨st.t,(id,some (.nest e et es 0 m g none)) :: st.o⟩).setO bx (some (.box (b9 l off [.ref id 0])))).o bx:=fun c1 h1 =>
  .inr (.inl ⟨l,b9 l off [.ref id 0],hb',by simp [S.setO],by rw [h1]⟩)
 have hown:(fun k=>if k = bx then (fun k=>if k = id then u else cc.own k) bx else (fun k=>if k = id then u else cc.own k) k) = fun k=>if k = id then u else cc.own k:=by
  funext k
  by_cases hk:k = bx
  · subst hk;simp
  simp [hk]
 have hw:=hfresh.write bx (.box l) hb' (.box (b9 l off [.ref id 0])) w ((fun k=>if k = id then u else cc.own k) bx) ((fun k=>if k = id then noB else cc.blk k) bx) none (Grw.refl w _) (fun _ e=>by cases e) (hevo _ (by exact hown)) (fun b hb=>.inl hb) (by
  refine ⟨b0,C0,e0,by simpa [hbi] using p1,by simpa [hbi] using p2,p3,p4, ?_⟩
  have hoff:off < l.length:=(List.getElem?_eq_some_iff.1 hl).1
  have hcl:=p5.length
  refine az.of_get ?_ fun k x u' hx' hu'=>?_
  · simp only [b9,List.length_append,List.length_take,List.length_drop,List.length_singleton];omega
  have hx2:=hx'
  unfold b9 at hx2
  rw [d9 l [HV.ref id 0] off k (by simp;omega)] at hx2
  by_cases hk:k = off
  · subst hk
    simp at hx2
    subst hx2
    rw [hu] at hu'
    simp only [Option.some.injEq] at hu'
    subst hu'
    refine ⟨au.oneCell hx,fun l2=>by simp [S.setO,HSt.den,bo,Ne.symm hbi],fun ob1 s1 e1 n1 ho hd1=>?_⟩
    simp only [S.setO,HSt.den,bo,Ne.symm hbi,if_false,if_true,Option.some.injEq] at ho
    subst ho
    simp only [af.dim,Option.some.injEq,Prod.mk.injEq] at hd1
    obtain ⟨rfl,rfl,rfl⟩:=hd1
    exact ⟨Nat.le_refl _,fun _=>by simp [Ne.symm hbi]⟩
  rw [if_neg (by simp;omega)] at hx2
  obtain ⟨u2,hu2,hr2⟩:=p5.get k x hx2
  rw [hu'] at hu2
  simp only [Option.some.injEq] at hu2
  subst hu2
  refine b7.evo (c:=cc) (o:=st.den.o) (Imm.le.refl cc.imm) (fun j hj=>?_) hr2
  have hji:j ≠ id:=by
   rintro rfl
   exact hnm.2.1 bx _ hb ⟨x,List.mem_of_getElem? hx2,hj⟩
  by_cases hjb:j = bx
  · subst hjb;exact .inr (.inl ⟨l,b9 l off [.ref id 0],hb,by simp [S.setO],by simp [hji]⟩)
  exact Evo.of_same (by simp [S.setO,hjb,HSt.den,bo,hji]) (by simp [hjb,hji]))
 have e:HSt.den ⟨st.t,(bx,some (.box (b9 l off [.ref id 0]))) :: (id,some (.nest e et es 0 m g none)) :: st.o⟩ = (HSt.den ⟨st.t,(id,some (.nest e et es 0 m g none)) :: st.o⟩).setO bx (some (.box (b9 l off [.ref id 0]))):=by
  unfold HSt.den S.setO
  simp only [S.mk.injEq,true_and]
  funext k
  simp only [bo]
 rw [e]
 exact ⟨_,(by exact hold),hw⟩
theorem a8p {ro:Option Nat} {P:Program} {nt:Nat} {st:HSt} {Q:Exit → HSt → Prop} {c:Code} (bx off id:Nat) {s':Nat} {f':Nat → Nat → PV} {l:List HV} (e et:TypeId) (es:Nat) (m:Nat → Nat) (g:Nat → Nat → Nat → PV) (hs:0 < es) (hb:bf st.o bx = some (.box l)) (hl:l[off]? = some (.p (.sl 0 s' true f'))) (hn:qq id st = true) (hne:Nat.beq bx id = false)
 (h:HW (ro:=ro) P nt c ⟨st.t,(bx,some (.box (b9 l off [.ref id 0]))) :: (id,some (.nest e et es 0 m g none)) :: st.o⟩ Q):HW (ro:=ro) P nt c st Q:=fun w0 m0 a w hr=>h w0 m0 a w (a7i bx off id e et es m g hs hb hl hn hne hr)
end Go.Hx
end
section
namespace Go.Hx
abbrev Rw:=List Int
def ltZ:Rw → Rw → Bool
 | [],[]=>false
 | [],_ :: _=>true
 | _ :: _,[]=>false
 | x :: a,y :: b=>if x = y then ltZ a b else decide (x < y)
theorem qx:∀ a:Rw,ltZ a a = false
 | []=>rfl
 | x :: a=>by unfold ltZ;rw [if_pos rfl];exact qx a
theorem kc:∀ {a b c:Rw},ltZ a b = true → ltZ b c = true → ltZ a c = true
 | [],[],_,h,_=>by cases h
 | [],_ :: _,[],_,k=>by cases k
 | [],_ :: _,_ :: _,_,_=>rfl
 | _ :: _,[],_,h,_=>by cases h
 | _ :: _,_ :: _,[],_,k=>by cases k
 | x :: a,y :: b,z :: c,h,k=>by
  unfold ltZ at *
  by_cases hxy:x = y
  · rw [if_pos hxy] at h
    subst hxy
    by_cases hyz:x = z
    · rw [if_pos hyz] at k ⊢
      exact kc h k
    rw [if_neg hyz] at k ⊢
    exact k
  rw [if_neg hxy] at h
  have h:=of_decide_eq_true h
  by_cases hyz:y = z
  · subst hyz
    rw [if_neg hxy]
    exact decide_eq_true h
  rw [if_neg hyz] at k
  have k:=of_decide_eq_true k
  rw [if_neg (by omega)]
  exact decide_eq_true (by omega)
theorem xp:∀ {a b:Rw},a ≠ b → ltZ a b = true ∨ ltZ b a = true
 | [],[],h=>absurd rfl h
 | [],_ :: _,_=>.inl rfl
 | _ :: _,[],_=>.inr rfl
 | x :: a,y :: b,h=>by
  unfold ltZ
  by_cases hxy:x = y
  · subst hxy
    rw [if_pos rfl,if_pos rfl]
    exact xp fun e=>h (by rw [e])
  rw [if_neg hxy,if_neg (Ne.symm hxy),decide_eq_true_iff,decide_eq_true_iff]
  omega
def zC:Int → Nat → PV:=fun z _=>.raw (.int .i64 z)
abbrev zl (r:Rw):PV:=psl 1 zC r
def rC:Rw → Nat → PV:=fun r _=>zl r
abbrev rl (l:List Rw):PV:=psl 1 rC l
theorem avm {a b:Rw} (h:ltZ a b = true):ltZ b a = false:=by
 rw [Bool.eq_false_iff]
 intro k
 have:=kc h k
 rw [qx] at this
 cases this
def qa (l:List Rw):Prop:=l.Pairwise fun a b=>ltZ a b = true
theorem a40:∀ {l k:List Rw},qa l → qa k → (∀ x,x ∈ l ↔ x ∈ k) → l = k
 | [],[],_,_,_=>rfl
 | [],y :: k,_,_,h=>absurd ((h y).2 (List.mem_cons_self ..)) (by simp)
 | x :: l,[],_,_,h=>absurd ((h x).1 (List.mem_cons_self ..)) (by simp)
 | x :: l,y :: k,hl,hk,h=>by
  obtain ⟨h1,h2⟩:=List.pairwise_cons.1 hl
  obtain ⟨k1,k2⟩:=List.pairwise_cons.1 hk
  have e:x = y:=by
   rcases List.mem_cons.1 ((h x).1 (List.mem_cons_self ..)) with e | hx
   · exact e
   rcases List.mem_cons.1 ((h y).2 (List.mem_cons_self ..)) with e | hy
   · exact e.symm
   have:=avm (k1 x hx)
   rw [h1 y hy] at this
   cases this
  subst e
  congr 1
  refine a40 h2 k2 fun z=>?_
  constructor
  · intro hz
    rcases List.mem_cons.1 ((h z).1 (List.mem_cons_of_mem _ hz)) with e | hz'
    · subst e
      have:=h1 z hz
      rw [qx] at this
      cases this
    exact hz'
  intro hz
  rcases List.mem_cons.1 ((h z).2 (List.mem_cons_of_mem _ hz)) with e | hz'
  · subst e
    have:=k1 z hz
    rw [qx] at this
    cases this
  exact hz'
def ja (x:Rw):List Rw → List Rw
 | []=>[x]
 | y :: l=>if x = y then y :: l else if ltZ x y = true then x :: y :: l else y :: ja x l
theorem a4j {x z:Rw}:∀ {l:List Rw},z ∈ ja x l ↔ z = x ∨ z ∈ l
 | []=>by simp [ja]
 | y :: l=>by
  unfold ja
  split
  · rename_i e
    subst e
    simp
  split
  · simp
  rw [List.mem_cons,a4j,List.mem_cons]
  constructor
  · rintro (h | h | h) <;> simp [h]
  rintro (h | h | h) <;> simp [h]
theorem aa5 {x:Rw}:∀ {l:List Rw},qa l → qa (ja x l)
 | [],_=>by simp [ja,qa]
 | y :: l,h=>by
  obtain ⟨h1,h2⟩:=List.pairwise_cons.1 h
  unfold ja
  split
  · exact h
  split
  · rename_i hxy
    refine List.pairwise_cons.2 ⟨fun z hz=>?_,h⟩
    rcases List.mem_cons.1 hz with rfl | hz
    · exact hxy
    exact kc hxy (h1 z hz)
  rename_i hne hxy
  refine List.pairwise_cons.2 ⟨fun z hz=>?_,aa5 h2⟩
  rcases a4j.1 hz with rfl | hz
  · exact (xp hne).resolve_left hxy
  exact h1 z hz
def bq (l:List Rw):List Rw:=l.foldl (fun o x=>ja x o) []
theorem a26:∀ {l o:List Rw},qa o → qa (l.foldl (fun o x=>ja x o) o) ∧ ∀ z,z ∈ l.foldl (fun o x=>ja x o) o ↔ z ∈ o ∨ z ∈ l
 | [],o,h=>⟨h,fun z=>by simp⟩
 | x :: l,o,h=>by
  obtain ⟨h1,h2⟩:=a26 (l:=l) (aa5 (x:=x) h)
  refine ⟨h1,fun z=>?_⟩
  show z ∈ l.foldl (fun o x=>ja x o) (ja x o) ↔ _
  rw [h2 z,a4j,List.mem_cons]
  constructor
  · rintro ((h | h) | h) <;> simp [h]
  rintro (h | h | h) <;> simp [h]
theorem zo (l:List Rw):qa (bq l):=(a26 (o:=[]) List.Pairwise.nil).1
theorem fe {l:List Rw} {z:Rw}:z ∈ bq l ↔ z ∈ l:=by
 show z ∈ l.foldl (fun o x=>ja x o) [] ↔ _
 rw [(a26 (l:=l) (o:=[]) List.Pairwise.nil).2 z]
 simp
theorem adx {l k:List Rw} (hk:qa k) (h:∀ z,z ∈ k ↔ z ∈ l):k = bq l:=a40 hk (zo l) fun z=>by rw [h z,fe]
def ber (l:List Rw) (k:Nat) (r:Rw):List Rw:=l.take k ++ r :: l.drop k
theorem afe (x:Rw):∀ l:List Rw,(ja x l).length ≤ l.length + 1
 | []=>by simp [ja]
 | y :: l=>by
  unfold ja
  have:=afe x l
  split
  · simp
  split
  · simp
  simp only [List.length_cons];omega
theorem aak (l:List Rw):(bq l).length ≤ l.length:=by
 have:∀ (l o:List Rw),(l.foldl (fun o x=>ja x o) o).length ≤ o.length + l.length:=by
  intro l
  induction l with
  | nil=>intro o;simp
  | cons x l ih =>
   intro o
   have h1:=ih (ja x o)
   have h2:=afe x o
   simp only [List.foldl_cons,List.length_cons]
   omega
 have h:=this l []
 simpa [bq] using h
end Go.Hx
end
