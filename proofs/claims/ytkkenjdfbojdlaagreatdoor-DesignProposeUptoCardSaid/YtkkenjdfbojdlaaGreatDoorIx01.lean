/- A part of the proof: Hx1. -/
import Derived.Below
import Derived.KernelRfl
import Derived.Laws.CopyOwn
import Derived.Laws.MakeOwn
import Derived.Laws.OwnMore
import Derived.Laws.Tables
import Derived.Maps.Keyed
import Derived.Orders
set_option linter.all false
namespace Go.Hx
abbrev bmk:=@Option.some.injEq
abbrev bml:=@List.getElem?_eq_getElem
abbrev bmm:=@List.getD_eq_getElem?_getD
abbrev bmn:=@Nat.le_of_ble_eq_true
abbrev bmo:=@List.length_append
abbrev bmp:=@Nat.le_refl
abbrev bmq:=@Nat.not_lt_zero
abbrev bmr:=@Array.getElem?_eq_some_iff
abbrev bms:=@Nat.zero_le
abbrev bmt:=@List.take_length
abbrev bmu:=@Prod.mk.injEq
abbrev bmv:=@List.length_take
abbrev bmw:=@Bool.and_eq_true
abbrev bmx:=@Bool.eq_false_iff
abbrev bmy:=@Nat.le_trans
abbrev bmz:=@Int.toNat_natCast
abbrev bn0:=@List.mem_cons
abbrev bn1:=@List.mem_append
abbrev bn2:=@List.mem_singleton
abbrev bn3:=@List.mem_range
abbrev bn4:=@BitVec.getLsbD_and
abbrev bn5:=@List.mem_append_left
abbrev bn6:=@List.length_map
abbrev bn7:=@Nat.mul_le_mul_right
abbrev bn8:=@Result.andThen_ok
abbrev bn9:=@List.length_cons
abbrev bna:=@List.mem_append_right
abbrev bnb:=@List.getElem_mem
abbrev bnc:=@List.getElem?_map
abbrev bne:=@List.mem_map
abbrev bnf:=@Option.getD_some
abbrev bng:=@List.getElem_of_mem
abbrev bnh:=@Option.map_some
abbrev bni:=@Nat.eq_of_beq_eq_true
abbrev bnj:=@Bool.not_eq_true'
abbrev bnk:=@Nat.zero_add
abbrev bnl:=@List.getElem?_take
abbrev bnm:=@Array.getElem?_eq_getElem
abbrev bnn:=@List.append_nil
abbrev bno:=@List.any_eq_true
abbrev bnp:=@BitVec.eq_of_toNat_eq
abbrev bnq:=@List.mem_cons_of_mem
abbrev bnr:=@List.all_eq_true
abbrev bns:=@List.filter_cons
abbrev bnt:=@List.mem_cons_self
abbrev bnu:=@List.pairwise_cons
abbrev bnv:=@List.filter_append
abbrev bnw:=@Sem.run_bind
abbrev bnx:=@List.append_assoc
abbrev bny:=@Nat.add_mul
abbrev bnz:=@List.size_toArray
abbrev bo0:=@List.foldl_append
abbrev bo1:=@Bool.false_eq_true
abbrev bo2:=@Nat.pow_le_pow_right
abbrev bo3:=@List.length_singleton
abbrev bo4:=@Array.length_toList
abbrev bo5:=@BitVec.eq_of_getLsbD_eq
abbrev bo6:=@List.length_nil
abbrev bo7:=@List.map_cons
abbrev bo8:=@List.getElem?_append_right
abbrev bo9:=@BitVec.getLsbD_or
abbrev boa:=@List.getElem?_range
abbrev bob:=@Bool.or_eq_true
abbrev boc:=@List.getElem?_append_left
abbrev bod:=@List.range_succ
abbrev boe:=@List.eq_nil_of_length_eq_zero
abbrev bof:=@List.any_eq_false
abbrev bog:=@List.length_drop
abbrev boh:=@List.filter_nil
abbrev boi:=@Sem.run_pure
abbrev boj:=@List.length_filter_le
abbrev bok:=@Nat.min_eq_left
abbrev bol:=@List.mem_filter
abbrev bom:=@Bool.eq_iff_iff
abbrev bon:=@Nat.eq_zero_or_pos
abbrev boo:=@BitVec.getLsbD_not
abbrev bop:=@List.getElem?_eq_some_iff
abbrev boq:=@List.pairwise_iff_getElem
abbrev bor:=@List.foldl_cons
abbrev bos:=@List.mem_of_mem_take
abbrev bot:=@Nat.add_assoc
abbrev bou:=@List.map_append
abbrev bov:=@Bool.true_and
abbrev bow:=@Nat.lt_of_lt_of_le
abbrev boy:=@List.getElem?_drop
abbrev boz:=@Int.natCast_nonneg
abbrev bp0:=@List.length_set
abbrev bp1:=@Array.getElem?_eq_none
abbrev bp2:=@List.map_congr_left
abbrev bp3:=@List.length_range
abbrev bp4:=@List.getElem?_eq_none
abbrev bp5:=@Nat.add_zero
abbrev bp6:=@Nat.lt_or_eq_of_le
abbrev bp7:=@Array.toArray_toList
abbrev bp8:=@List.countP_cons
abbrev bp9:=@List.findSome?_eq_none_iff
abbrev bpa:=@List.ext_getElem?
abbrev bpb:=@Array.getElem?_modify
abbrev bpc:=@Array.getElem?_toList
abbrev bpd:=@Array.toList_map
abbrev bpe:=@Array.size_append
abbrev bpf:=@Nat.le_of_lt_succ
abbrev bpg:=@Nat.pow_pos
abbrev bph:=@BitVec.getLsbD_ushiftRight
abbrev bpi:=@Nat.mod_eq_of_lt
abbrev bpj:=@List.cons_append
abbrev bpk:=@BitVec.toNat_and
abbrev bpl:=@Nat.and_le_right
abbrev bpm:=@List.exists_of_findSome?_eq_some
abbrev bpn:=@List.prefix_refl
abbrev bpo:=@List.drop_eq_getElem_cons
abbrev bpp:=@Nat.le_succ
abbrev bpq:=@Bool.or_eq_false_iff
abbrev bpr:=@List.pairwise_append
abbrev bps:=@List.set_eq_of_length_le
abbrev bpt:=@List.flatMap_cons
abbrev bpu:=@Bool.not_true
abbrev bpv:=@Int.toNat_of_nonneg
abbrev bpw:=@List.filter_eq_nil_iff
abbrev bpx:=@Nat.le_of_eq
abbrev bpy:=@Nat.lt_or_ge
abbrev bpz:=@Nat.sub_zero
abbrev bq0:=@List.find?_eq_none
abbrev bq1:=@Nat.lt_of_le_of_lt
abbrev bq2:=@List.take_append_drop
abbrev bq3:=@Array.getElem?_append_left
abbrev bq4:=@Nat.lt_irrefl
abbrev bq5:=@World.ownsRow_nil
abbrev bq6:=@List.mem_iff_getElem
abbrev bq7:=@List.mem_of_mem_drop
abbrev bq8:=@Nat.shiftRight_eq_div_pow
abbrev bq9:=@List.findIdx?_eq_some_iff_getElem
abbrev bqa:=@Bool.not_eq_true
abbrev bqb:=@List.map_nil
abbrev bqc:=@Nat.le_of_not_lt
abbrev bqd:=@BitVec.toNat_ushiftRight
abbrev bqe:=@Nat.pow_succ
abbrev bqf:=@List.flatMap_append
abbrev bqg:=@Array.getElem?_setIfInBounds_ne
abbrev bqh:=@List.length_eq_zero_iff
abbrev bqi:=@Bool.false_or
abbrev bqj:=@List.nil_append
abbrev bqk:=@Bool.false_ne_true
abbrev bql:=@Nat.two_pow_pos
abbrev bqm:=@BitVec.toNat_ofNat
abbrev bqn:=@List.countP_append
abbrev bqo:=@BitVec.getLsbD_xor
abbrev bqp:=@List.drop_eq_nil_of_le
abbrev bqq:=@Array.getElem?_push_lt
abbrev bqr:=@Nat.mul_one
abbrev bqs:=@List.getElem?_set
abbrev bqt:=@Bool.not_false
abbrev bqu:=@List.length_mergeSort
abbrev bqv:=@Bool.and_false
abbrev bqw:=@List.findSome?_append
end Go.Hx
section
namespace Go.Hx
open Go.RowKit
structure Below (B:Nat) (w w':World):Prop where
 os:w'.os = w.os
 tape:w'.tape = w.tape
 output:w'.output = w.output
 size:w.heap.size <= w'.heap.size
 block:∀ k,k < B -> w'.heap[k]? = w.heap[k]?
 drawn:w.drawn <= w'.drawn
structure Grw (w w':World) (row:Option Nat):Prop where
 base:w.grownBy w' row
 drawn:w.drawn <= w'.drawn
theorem Grw.refl (w:World) (r:Option Nat):Grw w w r:=⟨World.grownBy.refl w r,bmp _⟩
theorem Grw.alloc (w:World) (o:Obj) (r:Option Nat):Grw w (w.alloc o) r:=⟨World.grownBy_alloc w o r,bmp _⟩
theorem Below.refl (B:Nat) (w:World):Below B w w:=⟨rfl,rfl,rfl,bmp _,fun _ _=>rfl,bmp _⟩
section
variable {B:Nat} {a:World}
theorem Below.trans {b c:World} (h:Below B a b) (k:Below B b c):Below B a c :=
 ⟨k.os.trans h.os,k.tape.trans h.tape,k.output.trans h.output,bmy h.size k.size,fun i hi=>(k.block i hi).trans (h.block i hi),bmy h.drawn k.drawn⟩
variable {w:World}
theorem Below.mono {B':Nat} {w':World} (h:Below B w w') (hB:B' <= B):Below B' w w':=⟨h.os,h.tape,h.output,h.size,fun k hk=>h.block k (bow hk hB),h.drawn⟩
theorem Below.drew (h:Below B a w):Below B a w.drew:=⟨h.os,h.tape,h.output,h.size,h.block,bmy h.drawn (bpp _)⟩
theorem Below.alloc (h:Below B a w) (hB:B <= w.heap.size) (o:Obj):Below B a (w.alloc o) :=
 have q:=Go.RowKit.Below.alloc (B:=B) (a:=a) (w:=w) ⟨h.os,h.tape,h.output,h.size,h.block⟩ hB o
 ⟨q.os,q.tape,q.output,q.size,q.block,h.drawn⟩
theorem Below.heap_alloc (w:World) (o:Obj) (k:Nat) (h:k < w.heap.size):(w.alloc o).heap[k]? = w.heap[k]?:=Go.RowKit.Below.heap_alloc w o k h
def bqx {p:Prop} (h:p:=by omega):p:=h
theorem Below.grown {w':World} {row:Option Nat} (h:Below B a w) (hg:Grw w w' row) (hB:B <= w.heap.size) (hr:∀ k,row = some k -> B <= k):Below B a w' :=
 h.trans ⟨hg.base.os,hg.base.tape,hg.base.output,hg.base.size,fun k hk=>hg.base.block k bqx (fun e=>by have:=hr k e.symm;omega),hg.drawn⟩
def a79 {α:Type}:∀ (x:Ask α) (w:World),w.drawn <= (w.ask x).2.drawn
 | .done a,w=>bmp _
 | .ask what range k,w=>by
  simp only [World.ask];split
  · exact a79 _ _
  have h:=a79 (k ((Question.extern what range).cut (w.tape w.drawn (Question.extern what range)))) { w with drawn:=w.drawn + 1 };exact bmy (bpp w.drawn) h
def axr (w:World) (c:Sys):w.drawn <= (w.sys c).2.drawn:=by
 have h:=a79 (Kernel.perform c w.os) w;unfold World.sys;split
 · exact bmp _
 rename_i r os w2 _ heq;rw [heq] at h;exact h
def adk {p:Program} {at_:Addr} {u:TypeId} {k:Addr} {v:Value} {atomic:Bool} {r:World × List Addr} (h:w.viewStore p at_ u k v atomic = .ok r):r.1.drawn = w.drawn:=by
 unfold World.viewStore at h;simp only [bind,Except.bind,pure,Except.pure] at h
 repeat' split at h
 all_goals first | (cases h;done) | (simp only [Except.ok.injEq] at h;subst h;rfl)
def agt {p:Program} {a:Addr} {v:Value} {atomic:Bool} {r:World × List Addr} (h:w.farStore p a v atomic = .ok r):r.1.drawn = w.drawn:=by
 unfold World.farStore at h;split at h
 · split at h
   · rename_i r2 hr
     simp only [Except.ok.injEq] at h;subst h;exact adk hr
   cases h
 cases h
def a7o (w:World) (a:Addr) (n:Nat):(w.freeze a n).drawn = w.drawn:=by
 unfold World.freeze;split <;> rfl
variable {P:Program}
def xq {α:Type}:∀ (x:Sem α) {w w':World} {v:α},x.run P w = .ok v w' -> w.drawn <= w'.drawn:=by
 intro x
 induction x with
 | pure a=>intro w w' v h;simp only [Sem.run,Result.ok.injEq] at h;obtain ⟨_,rfl⟩:=h;exact bmp _
 | load m a k ih =>
  intro w w' v h;simp only [Sem.run] at h;split at h
  · exact ih _ h
  split at h
  · exact ih _ h
  cases h
 | store m a x k ih =>
  intro w w' v h
  cases x <;> simp only [Sem.run] at h <;> first
   | (cases h;done)
   | (split at h
      · split at h
        · cases h
        have q:=ih h;exact q
      split at h
      · rename_i hf
        exact bmy (bpx (agt hf).symm) (ih h)
      cases h)
 | new o k ih=>intro w w' v h;simp only [Sem.run] at h;have q:=ih _ h;exact q
 | shape r k ih=>intro w w' v h;simp only [Sem.run] at h;exact ih _ h
 | freeze a n k ih=>intro w w' v h;simp only [Sem.run] at h;exact bmy (bpx (a7o w a n).symm) (ih h)
 | frozen a k ih=>intro w w' v h;simp only [Sem.run] at h;exact ih _ h
 | getObj r k ih =>
  intro w w' v h;simp only [Sem.run] at h;split at h
  · cases h
  · exact ih _ h
  cases h
 | setObj r o k ih =>
  intro w w' v h;simp only [Sem.run] at h;split at h
  · cases h
  · have q:=ih h
    exact q
  cases h
 | choose q k ih =>
  intro w w' v h;simp only [Sem.run] at h;split at h
  · exact ih _ h
  have q:=ih _ h;exact bmy (bpp w.drawn) q
 | sys c k ih=>intro w w' v h;simp only [Sem.run] at h;exact bmy (axr w c) (ih _ h)
 | program k ih=>intro w w' v h;simp only [Sem.run] at h;exact ih _ h
 | mark m k ih=>intro w w' v h;simp only [Sem.run] at h;exact ih h
 | halt hh=>intro w w' v h;simp only [Sem.run] at h;cases h
inductive PV where
 | raw (v:Value)
 | any
 | sl (n s:Nat) (clip:Bool) (f:Nat -> Nat -> PV)
 | vp (m:Nat) (f:Nat -> PV)
 | fn (g:FuncId) (k:Nat) (caps:Nat -> PV)
 | bnd (g:FuncId) (m:Nat) (f:Nat -> PV)
abbrev Imm:=Nat -> Option Obj
def jw (m:Imm) (b off:Nat):Option Value :=
 match m b with
 | some (.cells cs _ _)=>cs[off]?
 | _=>none
def ay (m:Imm):PV -> Value -> Prop
 | .raw v,u=>u = v /\ v.oneCell' = true
 | .any,u=>u.oneCell' = true
 | .sl n s clip f,u=>∃ a cap,u = .slice a n cap /\ n <= cap /\ cap <= maxLen /\ (clip = true -> cap = n) /\
  (0 < n -> ∃ b off,a = some ⟨b,off,none⟩ /\ ∀ i j,i < n -> j < s -> ∃ x,jw m b (off + (i * s + j)) = some x /\ ay m (f i j) x)
 | .vp k f,u=>∃ b off,u = .pointer (some ⟨b,off,none⟩) /\ ∀ j,j < k -> ∃ x,jw m b (off + j) = some x /\ ay m (f j) x
 | .fn g k caps,u=>∃ cs:List Value,u = .func (.func g) #[] cs.toArray /\ cs.length = k /\ ∀ i,i < k -> ∃ x,cs[i]? = some x /\ ay m (caps i) x
 | .bnd g k f,u=>∃ cs:List Value,u = .func (.func g) #[.agg cs.toArray] #[] /\ cs.length = k /\ ∀ i,i < k -> ∃ x,cs[i]? = some x /\ ay m (f i) x
def Imm.le (m m':Imm):Prop:=∀ b o,m b = some o -> m' b = some o
theorem Imm.le.refl (m:Imm):Imm.le m m:=fun _ _ h=>h
theorem Imm.le.trans {a b c:Imm} (h:Imm.le a b) (k:Imm.le b c):Imm.le a c:=fun x o hx=>k x o (h x o hx)
variable {m m':Imm}
def a28 (h:Imm.le m m') {b off:Nat} {x:Value} (hc:jw m b off = some x):jw m' b off = some x:=by
 unfold jw at *
 cases hb:m b with
 | none=>rw [hb] at hc;cases hc
 | some o=>rw [hb] at hc;rw [h b o hb];exact hc
def ay.mono (h:Imm.le m m'):∀ {x:PV} {u:Value},ay m x u -> ay m' x u:=by
 intro x
 induction x with
 | raw v=>intro u hu;exact hu
 | any=>intro u hu;exact hu
 | sl n s clip f ih =>
  rintro u ⟨a,cap,h1,h2,h3,h4,h5⟩;refine ⟨a,cap,h1,h2,h3,h4,fun hn=>?_⟩;obtain ⟨b,off,ha,hc⟩:=h5 hn
  exact ⟨b,off,ha,fun i j hi hj=>by
   obtain ⟨x,hx,hr⟩:=hc i j hi hj
   exact ⟨x,a28 h hx,ih i j hr⟩⟩
 | vp k f ih =>
  rintro u ⟨b,off,h1,hc⟩
  exact ⟨b,off,h1,fun j hj=>by
   obtain ⟨x,hx,hr⟩:=hc j hj
   exact ⟨x,a28 h hx,ih j hr⟩⟩
 | fn g k caps ih =>
  rintro u ⟨cs,h1,h2,hc⟩
  exact ⟨cs,h1,h2,fun i hi=>by
   obtain ⟨x,hx,hr⟩:=hc i hi
   exact ⟨x,hx,ih i hr⟩⟩
 | bnd g k f ih =>
  rintro u ⟨cs,h1,h2,hc⟩
  exact ⟨cs,h1,h2,fun i hi=>by
   obtain ⟨x,hx,hr⟩:=hc i hi
   exact ⟨x,hx,ih i hr⟩⟩
def ay.oneCell {x:PV} {u:Value} (h:ay m x u):u.oneCell' = true:=by
 cases x with
 | raw v=>obtain ⟨rfl,h⟩:=h;exact h
 | any=>exact h
 | sl n s clip f=>obtain ⟨a,cap,rfl,_⟩:=h;rfl
 | vp k f=>obtain ⟨b,off,rfl,_⟩:=h;rfl
 | fn g k caps=>obtain ⟨cs,rfl,_⟩:=h;rfl
 | bnd g k f=>obtain ⟨cs,rfl,_⟩:=h;rfl
def f5 (m:Imm):List PV -> List Value -> Prop
 | [],[]=>True
 | x :: xs,u :: us=>ay m x u /\ f5 m xs us
 | _,_=>False
def f5.length:∀ {xs:List PV} {us:List Value},f5 m xs us -> us.length = xs.length
 | [],[],_=>rfl
 | x :: xs,u :: us,h=>by simp [h.2.length]
 | [],_ :: _,h=>h.elim
 | _ :: _,[],h=>h.elim
def f5.mono (h:Imm.le m m'):∀ {xs:List PV} {us:List Value},f5 m xs us -> f5 m' xs us
 | [],[],_=>trivial
 | _ :: _,_ :: _,hr=>⟨hr.1.mono h,f5.mono h hr.2⟩
 | [],_ :: _,hr=>hr.elim
 | _ :: _,[],hr=>hr.elim
def f5.get:∀ {xs:List PV} {us:List Value},f5 m xs us -> ∀ (i:Nat) (x:PV),xs[i]? = some x -> ∃ u,us[i]? = some u /\ ay m x u
 | _ :: _,_ :: _,h,0,x,hx=>by simp at hx;subst hx;exact ⟨_,rfl,h.1⟩
 | _ :: _,_ :: _,h,i + 1,x,hx=>by
  obtain ⟨u,hu,hr⟩:=f5.get h.2 i x (by simpa using hx);exact ⟨u,by simpa using hu,hr⟩
 | [],_,_,i,x,hx=>by simp at hx
 | _ :: _,[],h,_,_,_=>h.elim
def f5.of_get:∀ {xs:List PV} {us:List Value},us.length = xs.length -> (∀ (i:Nat) (x:PV) (u:Value),xs[i]? = some x -> us[i]? = some u -> ay m x u) -> f5 m xs us
 | [],[],_,_=>trivial
 | x :: xs,u :: us,hl,h=>⟨h 0 x u rfl rfl,f5.of_get (by simpa using hl) fun i y v hy hv=>h (i + 1) y v (by simpa using hy) (by simpa using hv)⟩
 | [],_ :: _,hl,_=>by simp at hl
 | _ :: _,[],hl,_=>by simp at hl
inductive PC where
 | one (x:PV)
 | agg (l:List PV)
inductive PR where
 | v (c:PC)
 | tup (l:List PC)
def iu (m:Imm):PC -> Value -> Prop
 | .one x,u=>ay m x u
 | .agg l,u=>∃ us:List Value,u = .agg us.toArray /\ f5 m l us
def cn (m:Imm):List PC -> List Value -> Prop
 | [],[]=>True
 | x :: xs,u :: us=>iu m x u /\ cn m xs us
 | _,_=>False
def so (m:Imm):PR -> Value -> Prop
 | .v c,u=>iu m c u
 | .tup l,u=>∃ us:List Value,u = .tuple us.toArray /\ cn m l us
def iu.mono (h:Imm.le m m') {x:PC} {u:Value} (hr:iu m x u):iu m' x u:=by
 cases x with
 | one x=>exact ay.mono h hr
 | agg l=>obtain ⟨us,e,hl⟩:=hr;exact ⟨us,e,hl.mono h⟩
def cn.mono (h:Imm.le m m'):∀ {xs:List PC} {us:List Value},cn m xs us -> cn m' xs us
 | [],[],_=>trivial
 | _ :: _,_ :: _,hr=>⟨hr.1.mono h,cn.mono h hr.2⟩
 | [],_ :: _,hr=>hr.elim
 | _ :: _,[],hr=>hr.elim
def cn.length:∀ {xs:List PC} {us:List Value},cn m xs us -> us.length = xs.length
 | [],[],_=>rfl
 | x :: xs,u :: us,h=>by simp [h.2.length]
 | [],_ :: _,h=>h.elim
 | _ :: _,[],h=>h.elim
def cn.get:∀ {xs:List PC} {us:List Value},cn m xs us -> ∀ (i:Nat) (x:PC),xs[i]? = some x -> ∃ u,us[i]? = some u /\ iu m x u
 | _ :: _,_ :: _,h,0,x,hx=>by simp at hx;subst hx;exact ⟨_,rfl,h.1⟩
 | _ :: _,_ :: _,h,i + 1,x,hx=>by
  obtain ⟨u,hu,hr⟩:=cn.get h.2 i x (by simpa using hx);exact ⟨u,by simpa using hu,hr⟩
 | [],_,_,i,x,hx=>by simp at hx
 | _ :: _,[],h,_,_,_=>h.elim
def so.mono (h:Imm.le m m') {x:PR} {u:Value} (hr:so m x u):so m' x u:=by
 cases x with
 | v x=>exact iu.mono h hr
 | tup l=>obtain ⟨us,e,hl⟩:=hr;exact ⟨us,e,hl.mono h⟩
def b9k {k:TypeId} {x:MapEntry} {l:Lit} (h:keyOf P k x.key = some l):Go.WideElems.rd P k (fun v=>some (DataW.held (H:=Value) v,[])) x = some (l, .held x.val):=by
 obtain ⟨k0,v0,b0⟩:=x;exact Go.WideElems.rd_mk (R:=fun v=>some (DataW.held (H:=Value) v,[])) (yv:=(DataW.held v0,[])) h rfl
def b0u {k e t:TypeId} {b:Nat} {es:Array MapEntry} {clock:Nat} (cm:Bool) (K:Go.Maps.Keyed P k) (ht:P.underlying t = some (.map k e)) {z:Value} (hz:(zeroValue e).run P w = .ok z w) (hb:w.heap[b]? = some (.map es clock)) (hs:es.size <= maxLen) (hst:Go.MapKept.Stamped es clock) (hk:∀ x ∈ es.toList,∃ l,keyOf P k x.key = some l) {key:Value} {kl:Lit} (hkey:keyOf P k key = some kl):
 ((Instr.lookup t (.map (some b)) key cm).run P w = .ok (if cm then .tuple #[z, .bool false] else z) w /\ ∀ x ∈ es.toList,x.key ≠ key) \/
 ∃ e0,e0 ∈ es.toList /\ e0.key = key /\ (Instr.lookup t (.map (some b)) key cm).run P w = .ok (if cm then .tuple #[e0.val, .bool true] else e0.val) w:=by
 have F:Go.WideElems.Fit P k (fun v=>some (DataW.held (H:=Value) v,[])) es clock:=⟨hs,hst,fun x hx=>by
  obtain ⟨l,hl⟩:=hk x hx
  exact ⟨_,b9k hl⟩⟩
 rcases Go.Maps.fit_look cm K ht hz hb F hkey with ⟨h1,h2,_⟩ | ⟨e0,_,h1,h2,h3,_⟩
 · exact .inl ⟨h1,h2⟩
 exact .inr ⟨e0,h1,h2,h3⟩
def axp {k e t:TypeId} {b:Nat} {es:Array MapEntry} {clock:Nat} (K:Go.Maps.Keyed P k) (ht:P.underlying t = some (.map k e)) (hb:w.heap[b]? = some (.map es clock)) (hs:es.size < maxLen) (hst:Go.MapKept.Stamped es clock) (hk:∀ x ∈ es.toList,∃ l,keyOf P k x.key = some l) {key val:Value} {kl:Lit} (hkey:keyOf P k key = some kl):
 ∃ es' clock',(Instr.mapUpdate t (.map (some b)) key val).run P w = .ok () (Go.ChangeMaps.setBlock w b (.map es' clock')) /\ Go.MapKept.Stamped es' clock' /\ es'.size <= es.size + 1 /\
  (∀ x' ∈ es'.toList,(x' ∈ es.toList /\ x'.key ≠ key) \/ (x'.key = key /\ x'.val = val)) /\ (∃ x' ∈ es'.toList,x'.key = key) /\ ∀ x ∈ es.toList,∃ x' ∈ es'.toList,x'.key = x.key:=by
 rcases K.find w hkey es.toList hk with ⟨h1,h2⟩ | ⟨j,e0,h1,h2,h3⟩
 · refine ⟨es.push ⟨key,val,clock⟩,clock + 1, ?_,Go.MapKept.stamped_push hst h2,by simp, ?_,⟨⟨key,val,clock⟩,by simp,rfl⟩,fun x hx=>⟨x,by simp only [Array.toList_push,bn1];exact .inl hx,rfl⟩⟩
   · simp [Instr.mapUpdate,run_underlying ht,MapKept.run_getObj_map hb,K.check w false hkey,h1,MapKept.run_setObj_map _ hb,Result.andThen,Go.ChangeMaps.setBlock]
   intro x' hx';simp only [Array.toList_push,bn1,bn2] at hx'
   rcases hx' with hx' | rfl
   · exact .inl ⟨hx',h2 x' hx'⟩
   exact .inr ⟨rfl,rfl⟩
 have hj:es[j]? = some e0:=by simpa using h2
 have hjl:j < es.toList.length:=(bop.1 h2).1;have hlist:(es.modify j (fun e'=>{ e' with key:=key,val:=val })).toList = es.toList.set j { e0 with key:=key,val:=val }:=by rw [Array.toList_modify,Go.ChangeMaps.modify_eq_set _ _ _ _ h2]
 have hpw:=((Go.MapKept.stamped_iff es clock).1 hst).2.2
 have hne:∀ i x,es.toList[i]? = some x -> i ≠ j -> x.key ≠ key:=fun i x hi hij he=>by
  have hi':=bop.1 hi;have hj':=bop.1 h2;obtain ⟨hi1,hi2⟩:=hi';obtain ⟨hj1,hj2⟩:=hj'
  rcases Nat.lt_or_gt_of_ne hij with hlt | hgt
  · have:=boq.1 hpw i j hi1 hj1 hlt
    rw [hi2,hj2,he,h3] at this;exact this rfl
  have:=boq.1 hpw j i hj1 hi1 hgt;rw [hi2,hj2,he,h3] at this;exact this rfl
 refine ⟨es.modify j (fun e'=>{ e' with key:=key,val:=val }),clock, ?_,Go.MapKept.stamped_modify hst _ _ (fun _ _=>rfl) (fun e' _ he'=>by rw [hj] at he';cases he';exact h3.symm),by simp, ?_, ?_, ?_⟩
 · simp [Instr.mapUpdate,run_underlying ht,MapKept.run_getObj_map hb,K.check w false hkey,h1,hj,h3,K.stays w hkey,MapKept.run_setObj_map _ hb,Result.andThen,Go.ChangeMaps.setBlock]
 · intro x hx
   rw [hlist] at hx;obtain ⟨i,hi,ex⟩:=bng hx;rw [List.getElem_set] at ex;split at ex
   · exact .inr ⟨by rw [<- ex],by rw [<- ex]⟩
   rename_i hij;have hi':i < es.toList.length:=by simpa using hi
   exact .inl ⟨ex ▸ bnb hi',hne i x (by rw [bml hi',ex]) (fun h=>hij h.symm)⟩
 · rw [hlist]
   exact ⟨{ e0 with key:=key,val:=val },bq6.2 ⟨j,by simpa using hjl,by simp⟩,rfl⟩
 intro x hx;rw [hlist];obtain ⟨i,hi,ex⟩:=bng hx;by_cases hij:i = j
 · refine ⟨{ e0 with key:=key,val:=val },bq6.2 ⟨j,by simpa using hjl,by simp⟩, ?_⟩
   subst hij;rw [bml hi] at h2;simp only [bmk] at h2;rw [<- ex,h2];exact h3.symm
 exact ⟨x,bq6.2 ⟨i,by simpa using hi,by rw [List.getElem_set,if_neg (fun h=>hij h.symm)];exact ex⟩,rfl⟩
def wj:Nat -> List Value:=fun b=>match b with | 0=>[.int .u8 0, .int .u8 1, .int .u8 28, .int .u8 2, .int .u8 29, .int .u8 14, .int .u8 24, .int .u8 3, .int .u8 30, .int .u8 22, .int .u8 20, .int .u8 15, .int .u8 25, .int .u8 17, .int .u8 4, .int .u8 8, .int .u8 31, .int .u8 27, .int .u8 13, .int .u8 23, .int .u8 21, .int .u8 19, .int .u8 16, .int .u8 7, .int .u8 26, .int .u8 12, .int .u8 18, .int .u8 6, .int .u8 11, .int .u8 5, .int .u8 10, .int .u8 9] | _=>[]
def b72:Option (Nat × Nat):=some (94,5)
def zc (b off:Nat):Option Value:=(wj b)[off]?
def sw (m:Imm):Prop:=∀ b off v,zc b off = some v -> jw m b off = some v
def sw.mono (h:sw m) (hle:Imm.le m m'):sw m':=fun b off v hv=>a28 hle (h b off v hv)
end
end Go.Hx
end
