/- A part of the proof: Hx1. -/
import Derived.Below
import Derived.KernelRfl
import Derived.Laws.CopyOwn
import Derived.Laws.MakeOwn
import Derived.Laws.OwnMore
import Derived.Laws.Tables
import Derived.Maps.Keyed
import Derived.Orders
set_option linter.all false
namespace Go.Hx
abbrev bm9:=@Option.some.injEq
abbrev bma:=@List.getElem?_eq_getElem
abbrev bmb:=@List.getD_eq_getElem?_getD
abbrev bmc:=@Nat.le_of_ble_eq_true
abbrev bmd:=@Nat.le_refl
abbrev bme:=@Array.getElem?_eq_some_iff
abbrev bmf:=@Nat.not_lt_zero
abbrev bmg:=@List.length_append
abbrev bmh:=@Nat.zero_le
abbrev bmi:=@List.take_length
abbrev bmj:=@Prod.mk.injEq
abbrev bmk:=@List.length_take
abbrev bml:=@Bool.and_eq_true
abbrev bmm:=@Bool.eq_false_iff
abbrev bmn:=@Int.toNat_natCast
abbrev bmo:=@Nat.le_trans
abbrev bmp:=@List.mem_cons
abbrev bmq:=@List.mem_range
abbrev bmr:=@BitVec.getLsbD_and
abbrev bms:=@List.length_map
abbrev bmt:=@Nat.mul_le_mul_right
abbrev bmu:=@List.mem_append
abbrev bmv:=@List.mem_append_left
abbrev bmw:=@Result.andThen_ok
abbrev bmx:=@List.mem_singleton
abbrev bmy:=@List.getElem?_take
abbrev bmz:=@List.getElem_mem
abbrev bn0:=@List.getElem?_map
abbrev bn1:=@List.getElem_of_mem
abbrev bn2:=@List.mem_map
abbrev bn3:=@Option.map_some
abbrev bn4:=@List.mem_append_right
abbrev bn5:=@Nat.eq_of_beq_eq_true
abbrev bn6:=@Option.getD_some
abbrev bn7:=@List.length_cons
abbrev bn8:=@Bool.not_eq_true'
abbrev bn9:=@List.append_nil
abbrev bna:=@Nat.zero_add
abbrev bnb:=@Array.getElem?_eq_getElem
abbrev bnc:=@List.filter_append
abbrev bne:=@List.any_eq_true
abbrev bnf:=@List.filter_cons
abbrev bng:=@BitVec.eq_of_toNat_eq
abbrev bnh:=@List.all_eq_true
abbrev bni:=@List.mem_cons_of_mem
abbrev bnj:=@List.mem_cons_self
abbrev bnk:=@List.pairwise_cons
abbrev bnl:=@Sem.run_bind
abbrev bnm:=@List.append_assoc
abbrev bnn:=@List.foldl_append
abbrev bno:=@Nat.add_mul
abbrev bnp:=@List.size_toArray
abbrev bnq:=@Bool.false_eq_true
abbrev bnr:=@List.getElem?_append_right
abbrev bns:=@List.getElem?_append_left
abbrev bnt:=@Array.length_toList
abbrev bnu:=@BitVec.eq_of_getLsbD_eq
abbrev bnv:=@List.length_drop
abbrev bnw:=@List.filter_nil
abbrev bnx:=@List.map_cons
abbrev bny:=@List.getElem?_range
abbrev bnz:=@Bool.or_eq_true
abbrev bo0:=@List.range_succ
abbrev bo1:=@List.length_singleton
abbrev bo2:=@List.length_filter_le
abbrev bo3:=@List.eq_nil_of_length_eq_zero
abbrev bo4:=@BitVec.getLsbD_or
abbrev bo5:=@Nat.min_eq_left
abbrev bo6:=@Sem.run_pure
abbrev bo7:=@List.any_eq_false
abbrev bo8:=@Bool.eq_iff_iff
abbrev bo9:=@List.foldl_cons
abbrev boa:=@Nat.eq_zero_or_pos
abbrev bob:=@BitVec.getLsbD_not
abbrev boc:=@List.getElem?_eq_some_iff
abbrev bod:=@List.pairwise_iff_getElem
abbrev boe:=@Nat.add_assoc
abbrev bof:=@List.length_nil
abbrev bog:=@List.mem_filter
abbrev boh:=@List.map_append
abbrev boi:=@Bool.true_and
abbrev boj:=@List.getElem?_drop
abbrev bok:=@Nat.lt_of_lt_of_le
abbrev bol:=@List.length_set
abbrev bom:=@Int.natCast_nonneg
abbrev bon:=@Array.getElem?_eq_none
abbrev boo:=@List.map_congr_left
abbrev bop:=@List.ext_getElem?
abbrev boq:=@List.length_range
abbrev bor:=@List.getElem?_eq_none
abbrev bos:=@Nat.add_zero
abbrev bot:=@Nat.lt_or_eq_of_le
abbrev bou:=@Array.toArray_toList
abbrev bov:=@List.mem_of_mem_take
abbrev bow:=@Nat.pow_le_pow_right
abbrev boy:=@List.countP_cons
abbrev boz:=@List.findSome?_eq_none_iff
abbrev bp0:=@Array.getElem?_modify
abbrev bp1:=@Array.getElem?_toList
abbrev bp2:=@Array.toList_map
abbrev bp3:=@Array.size_append
abbrev bp4:=@Nat.le_of_lt_succ
abbrev bp5:=@BitVec.getLsbD_ushiftRight
abbrev bp6:=@Nat.mod_eq_of_lt
abbrev bp7:=@List.cons_append
abbrev bp8:=@BitVec.toNat_and
abbrev bp9:=@Nat.and_le_right
abbrev bpa:=@List.prefix_refl
abbrev bpb:=@List.find?_eq_none
abbrev bpc:=@List.drop_eq_getElem_cons
abbrev bpd:=@Nat.le_succ
abbrev bpe:=@Bool.or_eq_false_iff
abbrev bpf:=@List.pairwise_append
abbrev bpg:=@Nat.sub_zero
abbrev bph:=@List.set_eq_of_length_le
abbrev bpi:=@List.flatMap_cons
abbrev bpj:=@Bool.not_true
abbrev bpk:=@Int.toNat_of_nonneg
abbrev bpl:=@Nat.le_of_not_lt
abbrev bpm:=@List.filter_eq_nil_iff
abbrev bpn:=@Nat.le_of_eq
abbrev bpo:=@Nat.lt_or_ge
abbrev bpp:=@Nat.lt_of_le_of_lt
abbrev bpq:=@List.take_append_drop
abbrev bpr:=@Array.getElem?_append_left
abbrev bps:=@Nat.lt_irrefl
abbrev bpt:=@World.ownsRow_nil
abbrev bpu:=@List.mem_iff_getElem
abbrev bpv:=@List.mem_of_mem_drop
abbrev bpw:=@Nat.shiftRight_eq_div_pow
abbrev bpx:=@List.findIdx?_eq_some_iff_getElem
abbrev bpy:=@Bool.not_eq_true
abbrev bpz:=@List.map_nil
abbrev bq0:=@BitVec.toNat_ushiftRight
abbrev bq1:=@List.exists_of_findSome?_eq_some
abbrev bq2:=@List.flatMap_append
abbrev bq3:=@Array.getElem?_setIfInBounds_ne
abbrev bq4:=@List.nil_append
abbrev bq5:=@Bool.false_ne_true
abbrev bq6:=@Nat.two_pow_pos
abbrev bq7:=@BitVec.toNat_ofNat
abbrev bq8:=@List.countP_append
abbrev bq9:=@BitVec.getLsbD_xor
abbrev bqa:=@List.drop_eq_nil_of_le
abbrev bqb:=@Array.getElem?_push_lt
abbrev bqc:=@Nat.mul_one
abbrev bqd:=@List.getElem?_set
abbrev bqe:=@Bool.not_false
abbrev bqf:=@List.length_mergeSort
abbrev bqg:=@Bool.and_false
abbrev bqh:=@List.findSome?_append
end Go.Hx
section
namespace Go.Hx
open Go.RowKit
structure Below (B:Nat) (w w':World):Prop where
 os:w'.os = w.os
 tape:w'.tape = w.tape
 output:w'.output = w.output
 size:w.heap.size <= w'.heap.size
 block:∀ k,k < B -> w'.heap[k]? = w.heap[k]?
 drawn:w.drawn <= w'.drawn
structure Grw (w w':World) (row:Option Nat):Prop where
 base:w.grownBy w' row
 drawn:w.drawn <= w'.drawn
theorem Grw.refl (w:World) (r:Option Nat):Grw w w r:=⟨World.grownBy.refl w r,bmd _⟩
theorem Grw.alloc (w:World) (o:Obj) (r:Option Nat):Grw w (w.alloc o) r:=⟨World.grownBy_alloc w o r,bmd _⟩
theorem Below.refl (B:Nat) (w:World):Below B w w:=⟨rfl,rfl,rfl,bmd _,fun _ _=>rfl,bmd _⟩
section
variable {B:Nat} {a:World}
theorem Below.trans {b c:World} (h:Below B a b) (k:Below B b c):Below B a c :=
 ⟨k.os.trans h.os,k.tape.trans h.tape,k.output.trans h.output,bmo h.size k.size,fun i hi=>(k.block i hi).trans (h.block i hi),bmo h.drawn k.drawn⟩
variable {w:World}
theorem Below.mono {B':Nat} {w':World} (h:Below B w w') (hB:B' <= B):Below B' w w':=⟨h.os,h.tape,h.output,h.size,fun k hk=>h.block k (bok hk hB),h.drawn⟩
theorem Below.drew (h:Below B a w):Below B a w.drew:=⟨h.os,h.tape,h.output,h.size,h.block,bmo h.drawn (bpd _)⟩
theorem Below.alloc (h:Below B a w) (hB:B <= w.heap.size) (o:Obj):Below B a (w.alloc o) :=
 have q:=Go.RowKit.Below.alloc (B:=B) (a:=a) (w:=w) ⟨h.os,h.tape,h.output,h.size,h.block⟩ hB o
 ⟨q.os,q.tape,q.output,q.size,q.block,h.drawn⟩
theorem Below.heap_alloc (w:World) (o:Obj) (k:Nat) (h:k < w.heap.size):(w.alloc o).heap[k]? = w.heap[k]?:=Go.RowKit.Below.heap_alloc w o k h
def bqi {p:Prop} (h:p:=by omega):p:=h
theorem Below.grown {w':World} {row:Option Nat} (h:Below B a w) (hg:Grw w w' row) (hB:B <= w.heap.size) (hr:∀ k,row = some k -> B <= k):Below B a w' :=
 h.trans ⟨hg.base.os,hg.base.tape,hg.base.output,hg.base.size,fun k hk=>hg.base.block k bqi (fun e=>by have:=hr k e.symm;omega),hg.drawn⟩
def a6u {α:Type}:∀ (x:Ask α) (w:World),w.drawn <= (w.ask x).2.drawn
 | .done a,w=>bmd _
 | .ask what range k,w=>by
  simp only [World.ask];split
  · exact a6u _ _
  have h:=a6u (k ((Question.extern what range).cut (w.tape w.drawn (Question.extern what range)))) { w with drawn:=w.drawn + 1 };exact bmo (bpd w.drawn) h
def avj (w:World) (c:Sys):w.drawn <= (w.sys c).2.drawn:=by
 have h:=a6u (Kernel.perform c w.os) w;unfold World.sys;split
 · exact bmd _
 rename_i r os w2 _ heq;rw [heq] at h;exact h
def ack {p:Program} {at_:Addr} {u:TypeId} {k:Addr} {v:Value} {atomic:Bool} {r:World × List Addr} (h:w.viewStore p at_ u k v atomic = .ok r):r.1.drawn = w.drawn:=by
 unfold World.viewStore at h;simp only [bind,Except.bind,pure,Except.pure] at h
 repeat' split at h
 all_goals first | (cases h;done) | (simp only [Except.ok.injEq] at h;subst h;rfl)
def afo {p:Program} {a:Addr} {v:Value} {atomic:Bool} {r:World × List Addr} (h:w.farStore p a v atomic = .ok r):r.1.drawn = w.drawn:=by
 unfold World.farStore at h;split at h
 · split at h
   · rename_i r2 hr
     simp only [Except.ok.injEq] at h;subst h;exact ack hr
   cases h
 cases h
def a6h (w:World) (a:Addr) (n:Nat):(w.freeze a n).drawn = w.drawn:=by
 unfold World.freeze;split <;> rfl
variable {P:Program}
def xi {α:Type}:∀ (x:Sem α) {w w':World} {v:α},x.run P w = .ok v w' -> w.drawn <= w'.drawn:=by
 intro x
 induction x with
 | pure a=>intro w w' v h;simp only [Sem.run,Result.ok.injEq] at h;obtain ⟨_,rfl⟩:=h;exact bmd _
 | load m a k ih =>
  intro w w' v h;simp only [Sem.run] at h;split at h
  · exact ih _ h
  split at h
  · exact ih _ h
  cases h
 | store m a x k ih =>
  intro w w' v h
  cases x <;> simp only [Sem.run] at h <;> first
   | (cases h;done)
   | (split at h
      · split at h
        · cases h
        have q:=ih h;exact q
      split at h
      · rename_i hf
        exact bmo (bpn (afo hf).symm) (ih h)
      cases h)
 | new o k ih=>intro w w' v h;simp only [Sem.run] at h;have q:=ih _ h;exact q
 | shape r k ih=>intro w w' v h;simp only [Sem.run] at h;exact ih _ h
 | freeze a n k ih=>intro w w' v h;simp only [Sem.run] at h;exact bmo (bpn (a6h w a n).symm) (ih h)
 | frozen a k ih=>intro w w' v h;simp only [Sem.run] at h;exact ih _ h
 | getObj r k ih =>
  intro w w' v h;simp only [Sem.run] at h;split at h
  · cases h
  · exact ih _ h
  cases h
 | setObj r o k ih =>
  intro w w' v h;simp only [Sem.run] at h;split at h
  · cases h
  · have q:=ih h
    exact q
  cases h
 | choose q k ih =>
  intro w w' v h;simp only [Sem.run] at h;split at h
  · exact ih _ h
  have q:=ih _ h;exact bmo (bpd w.drawn) q
 | sys c k ih=>intro w w' v h;simp only [Sem.run] at h;exact bmo (avj w c) (ih _ h)
 | program k ih=>intro w w' v h;simp only [Sem.run] at h;exact ih _ h
 | mark m k ih=>intro w w' v h;simp only [Sem.run] at h;exact ih h
 | halt hh=>intro w w' v h;simp only [Sem.run] at h;cases h
inductive PV where
 | raw (v:Value)
 | any
 | sl (n s:Nat) (clip:Bool) (f:Nat -> Nat -> PV)
 | vp (m:Nat) (f:Nat -> PV)
 | fn (g:FuncId) (k:Nat) (caps:Nat -> PV)
 | bnd (g:FuncId) (m:Nat) (f:Nat -> PV)
abbrev Imm:=Nat -> Option Obj
def jp (m:Imm) (b off:Nat):Option Value :=
 match m b with
 | some (.cells cs _ _)=>cs[off]?
 | _=>none
def b4 (m:Imm):PV -> Value -> Prop
 | .raw v,u=>u = v /\ v.oneCell' = true
 | .any,u=>u.oneCell' = true
 | .sl n s clip f,u=>∃ a cap,u = .slice a n cap /\ n <= cap /\ cap <= maxLen /\ (clip = true -> cap = n) /\
  (0 < n -> ∃ b off,a = some ⟨b,off,none⟩ /\ ∀ i j,i < n -> j < s -> ∃ x,jp m b (off + (i * s + j)) = some x /\ b4 m (f i j) x)
 | .vp k f,u=>∃ b off,u = .pointer (some ⟨b,off,none⟩) /\ ∀ j,j < k -> ∃ x,jp m b (off + j) = some x /\ b4 m (f j) x
 | .fn g k caps,u=>∃ cs:List Value,u = .func (.func g) #[] cs.toArray /\ cs.length = k /\ ∀ i,i < k -> ∃ x,cs[i]? = some x /\ b4 m (caps i) x
 | .bnd g k f,u=>∃ cs:List Value,u = .func (.func g) #[.agg cs.toArray] #[] /\ cs.length = k /\ ∀ i,i < k -> ∃ x,cs[i]? = some x /\ b4 m (f i) x
def Imm.le (m m':Imm):Prop:=∀ b o,m b = some o -> m' b = some o
theorem Imm.le.refl (m:Imm):Imm.le m m:=fun _ _ h=>h
theorem Imm.le.trans {a b c:Imm} (h:Imm.le a b) (k:Imm.le b c):Imm.le a c:=fun x o hx=>k x o (h x o hx)
variable {m m':Imm}
def a26 (h:Imm.le m m') {b off:Nat} {x:Value} (hc:jp m b off = some x):jp m' b off = some x:=by
 unfold jp at *
 cases hb:m b with
 | none=>rw [hb] at hc;cases hc
 | some o=>rw [hb] at hc;rw [h b o hb];exact hc
def b4.mono (h:Imm.le m m'):∀ {x:PV} {u:Value},b4 m x u -> b4 m' x u:=by
 intro x
 induction x with
 | raw v=>intro u hu;exact hu
 | any=>intro u hu;exact hu
 | sl n s clip f ih =>
  rintro u ⟨a,cap,h1,h2,h3,h4,h5⟩;refine ⟨a,cap,h1,h2,h3,h4,fun hn=>?_⟩;obtain ⟨b,off,ha,hc⟩:=h5 hn
  exact ⟨b,off,ha,fun i j hi hj=>by
   obtain ⟨x,hx,hr⟩:=hc i j hi hj
   exact ⟨x,a26 h hx,ih i j hr⟩⟩
 | vp k f ih =>
  rintro u ⟨b,off,h1,hc⟩
  exact ⟨b,off,h1,fun j hj=>by
   obtain ⟨x,hx,hr⟩:=hc j hj
   exact ⟨x,a26 h hx,ih j hr⟩⟩
 | fn g k caps ih =>
  rintro u ⟨cs,h1,h2,hc⟩
  exact ⟨cs,h1,h2,fun i hi=>by
   obtain ⟨x,hx,hr⟩:=hc i hi
   exact ⟨x,hx,ih i hr⟩⟩
 | bnd g k f ih =>
  rintro u ⟨cs,h1,h2,hc⟩
  exact ⟨cs,h1,h2,fun i hi=>by
   obtain ⟨x,hx,hr⟩:=hc i hi
   exact ⟨x,hx,ih i hr⟩⟩
def b4.oneCell {x:PV} {u:Value} (h:b4 m x u):u.oneCell' = true:=by
 cases x with
 | raw v=>obtain ⟨rfl,h⟩:=h;exact h
 | any=>exact h
 | sl n s clip f=>obtain ⟨a,cap,rfl,_⟩:=h;rfl
 | vp k f=>obtain ⟨b,off,rfl,_⟩:=h;rfl
 | fn g k caps=>obtain ⟨cs,rfl,_⟩:=h;rfl
 | bnd g k f=>obtain ⟨cs,rfl,_⟩:=h;rfl
def fb (m:Imm):List PV -> List Value -> Prop
 | [],[]=>True
 | x :: xs,u :: us=>b4 m x u /\ fb m xs us
 | _,_=>False
def fb.length:∀ {xs:List PV} {us:List Value},fb m xs us -> us.length = xs.length
 | [],[],_=>rfl
 | x :: xs,u :: us,h=>by simp [h.2.length]
 | [],_ :: _,h=>h.elim
 | _ :: _,[],h=>h.elim
def fb.mono (h:Imm.le m m'):∀ {xs:List PV} {us:List Value},fb m xs us -> fb m' xs us
 | [],[],_=>trivial
 | _ :: _,_ :: _,hr=>⟨hr.1.mono h,fb.mono h hr.2⟩
 | [],_ :: _,hr=>hr.elim
 | _ :: _,[],hr=>hr.elim
def fb.get:∀ {xs:List PV} {us:List Value},fb m xs us -> ∀ (i:Nat) (x:PV),xs[i]? = some x -> ∃ u,us[i]? = some u /\ b4 m x u
 | _ :: _,_ :: _,h,0,x,hx=>by simp at hx;subst hx;exact ⟨_,rfl,h.1⟩
 | _ :: _,_ :: _,h,i + 1,x,hx=>by
  obtain ⟨u,hu,hr⟩:=fb.get h.2 i x (by simpa using hx);exact ⟨u,by simpa using hu,hr⟩
 | [],_,_,i,x,hx=>by simp at hx
 | _ :: _,[],h,_,_,_=>h.elim
def fb.of_get:∀ {xs:List PV} {us:List Value},us.length = xs.length -> (∀ (i:Nat) (x:PV) (u:Value),xs[i]? = some x -> us[i]? = some u -> b4 m x u) -> fb m xs us
 | [],[],_,_=>trivial
 | x :: xs,u :: us,hl,h=>⟨h 0 x u rfl rfl,fb.of_get (by simpa using hl) fun i y v hy hv=>h (i + 1) y v (by simpa using hy) (by simpa using hv)⟩
 | [],_ :: _,hl,_=>by simp at hl
 | _ :: _,[],hl,_=>by simp at hl
inductive PC where
 | one (x:PV)
 | agg (l:List PV)
inductive PR where
 | v (c:PC)
 | tup (l:List PC)
def it (m:Imm):PC -> Value -> Prop
 | .one x,u=>b4 m x u
 | .agg l,u=>∃ us:List Value,u = .agg us.toArray /\ fb m l us
def cn (m:Imm):List PC -> List Value -> Prop
 | [],[]=>True
 | x :: xs,u :: us=>it m x u /\ cn m xs us
 | _,_=>False
def sq (m:Imm):PR -> Value -> Prop
 | .v c,u=>it m c u
 | .tup l,u=>∃ us:List Value,u = .tuple us.toArray /\ cn m l us
def it.mono (h:Imm.le m m') {x:PC} {u:Value} (hr:it m x u):it m' x u:=by
 cases x with
 | one x=>exact b4.mono h hr
 | agg l=>obtain ⟨us,e,hl⟩:=hr;exact ⟨us,e,hl.mono h⟩
def cn.mono (h:Imm.le m m'):∀ {xs:List PC} {us:List Value},cn m xs us -> cn m' xs us
 | [],[],_=>trivial
 | _ :: _,_ :: _,hr=>⟨hr.1.mono h,cn.mono h hr.2⟩
 | [],_ :: _,hr=>hr.elim
 | _ :: _,[],hr=>hr.elim
def cn.length:∀ {xs:List PC} {us:List Value},cn m xs us -> us.length = xs.length
 | [],[],_=>rfl
 | x :: xs,u :: us,h=>by simp [h.2.length]
 | [],_ :: _,h=>h.elim
 | _ :: _,[],h=>h.elim
def cn.get:∀ {xs:List PC} {us:List Value},cn m xs us -> ∀ (i:Nat) (x:PC),xs[i]? = some x -> ∃ u,us[i]? = some u /\ it m x u
 | _ :: _,_ :: _,h,0,x,hx=>by simp at hx;subst hx;exact ⟨_,rfl,h.1⟩
 | _ :: _,_ :: _,h,i + 1,x,hx=>by
  obtain ⟨u,hu,hr⟩:=cn.get h.2 i x (by simpa using hx);exact ⟨u,by simpa using hu,hr⟩
 | [],_,_,i,x,hx=>by simp at hx
 | _ :: _,[],h,_,_,_=>h.elim
def sq.mono (h:Imm.le m m') {x:PR} {u:Value} (hr:sq m x u):sq m' x u:=by
 cases x with
 | v x=>exact it.mono h hr
 | tup l=>obtain ⟨us,e,hl⟩:=hr;exact ⟨us,e,hl.mono h⟩
def b5k {k:TypeId} {x:MapEntry} {l:Lit} (h:keyOf P k x.key = some l):Go.WideElems.rd P k (fun v=>some (DataW.held (H:=Value) v,[])) x = some (l, .held x.val):=by
 obtain ⟨k0,v0,b0⟩:=x;exact Go.WideElems.rd_mk (R:=fun v=>some (DataW.held (H:=Value) v,[])) (yv:=(DataW.held v0,[])) h rfl
def b3e {k e t:TypeId} {b:Nat} {es:Array MapEntry} {clock:Nat} (cm:Bool) (K:Go.Maps.Keyed P k) (ht:P.underlying t = some (.map k e)) {z:Value} (hz:(zeroValue e).run P w = .ok z w) (hb:w.heap[b]? = some (.map es clock)) (hs:es.size <= maxLen) (hst:Go.MapKept.Stamped es clock) (hk:∀ x ∈ es.toList,∃ l,keyOf P k x.key = some l) {key:Value} {kl:Lit} (hkey:keyOf P k key = some kl):
 ((Instr.lookup t (.map (some b)) key cm).run P w = .ok (if cm then .tuple #[z, .bool false] else z) w /\ ∀ x ∈ es.toList,x.key ≠ key) \/
 ∃ e0,e0 ∈ es.toList /\ e0.key = key /\ (Instr.lookup t (.map (some b)) key cm).run P w = .ok (if cm then .tuple #[e0.val, .bool true] else e0.val) w:=by
 have F:Go.WideElems.Fit P k (fun v=>some (DataW.held (H:=Value) v,[])) es clock:=⟨hs,hst,fun x hx=>by
  obtain ⟨l,hl⟩:=hk x hx
  exact ⟨_,b5k hl⟩⟩
 rcases Go.Maps.fit_look cm K ht hz hb F hkey with ⟨h1,h2,_⟩ | ⟨e0,_,h1,h2,h3,_⟩
 · exact .inl ⟨h1,h2⟩
 exact .inr ⟨e0,h1,h2,h3⟩
def ayq {k e t:TypeId} {b:Nat} {es:Array MapEntry} {clock:Nat} (K:Go.Maps.Keyed P k) (ht:P.underlying t = some (.map k e)) (hb:w.heap[b]? = some (.map es clock)) (hs:es.size < maxLen) (hst:Go.MapKept.Stamped es clock) (hk:∀ x ∈ es.toList,∃ l,keyOf P k x.key = some l) {key val:Value} {kl:Lit} (hkey:keyOf P k key = some kl):
 ∃ es' clock',(Instr.mapUpdate t (.map (some b)) key val).run P w = .ok () (Go.ChangeMaps.setBlock w b (.map es' clock')) /\ Go.MapKept.Stamped es' clock' /\ es'.size <= es.size + 1 /\
  (∀ x' ∈ es'.toList,(x' ∈ es.toList /\ x'.key ≠ key) \/ (x'.key = key /\ x'.val = val)) /\ (∃ x' ∈ es'.toList,x'.key = key) /\ ∀ x ∈ es.toList,∃ x' ∈ es'.toList,x'.key = x.key:=by
 rcases K.find w hkey es.toList hk with ⟨h1,h2⟩ | ⟨j,e0,h1,h2,h3⟩
 · refine ⟨es.push ⟨key,val,clock⟩,clock + 1, ?_,Go.MapKept.stamped_push hst h2,by simp, ?_,⟨⟨key,val,clock⟩,by simp,rfl⟩,fun x hx=>⟨x,by simp only [Array.toList_push,bmu];exact .inl hx,rfl⟩⟩
   · simp [Instr.mapUpdate,run_underlying ht,MapKept.run_getObj_map hb,K.check w false hkey,h1,MapKept.run_setObj_map _ hb,Result.andThen,Go.ChangeMaps.setBlock]
   intro x' hx';simp only [Array.toList_push,bmu,bmx] at hx'
   rcases hx' with hx' | rfl
   · exact .inl ⟨hx',h2 x' hx'⟩
   exact .inr ⟨rfl,rfl⟩
 have hj:es[j]? = some e0:=by simpa using h2
 have hjl:j < es.toList.length:=(boc.1 h2).1;have hlist:(es.modify j (fun e'=>{ e' with key:=key,val:=val })).toList = es.toList.set j { e0 with key:=key,val:=val }:=by rw [Array.toList_modify,Go.ChangeMaps.modify_eq_set _ _ _ _ h2]
 have hpw:=((Go.MapKept.stamped_iff es clock).1 hst).2.2
 have hne:∀ i x,es.toList[i]? = some x -> i ≠ j -> x.key ≠ key:=fun i x hi hij he=>by
  have hi':=boc.1 hi;have hj':=boc.1 h2;obtain ⟨hi1,hi2⟩:=hi';obtain ⟨hj1,hj2⟩:=hj'
  rcases Nat.lt_or_gt_of_ne hij with hlt | hgt
  · have:=bod.1 hpw i j hi1 hj1 hlt
    rw [hi2,hj2,he,h3] at this;exact this rfl
  have:=bod.1 hpw j i hj1 hi1 hgt;rw [hi2,hj2,he,h3] at this;exact this rfl
 refine ⟨es.modify j (fun e'=>{ e' with key:=key,val:=val }),clock, ?_,Go.MapKept.stamped_modify hst _ _ (fun _ _=>rfl) (fun e' _ he'=>by rw [hj] at he';cases he';exact h3.symm),by simp, ?_, ?_, ?_⟩
 · simp [Instr.mapUpdate,run_underlying ht,MapKept.run_getObj_map hb,K.check w false hkey,h1,hj,h3,K.stays w hkey,MapKept.run_setObj_map _ hb,Result.andThen,Go.ChangeMaps.setBlock]
 · intro x hx
   rw [hlist] at hx;obtain ⟨i,hi,ex⟩:=bn1 hx;rw [List.getElem_set] at ex;split at ex
   · exact .inr ⟨by rw [<- ex],by rw [<- ex]⟩
   rename_i hij;have hi':i < es.toList.length:=by simpa using hi
   exact .inl ⟨ex ▸ bmz hi',hne i x (by rw [bma hi',ex]) (fun h=>hij h.symm)⟩
 · rw [hlist]
   exact ⟨{ e0 with key:=key,val:=val },bpu.2 ⟨j,by simpa using hjl,by simp⟩,rfl⟩
 intro x hx;rw [hlist];obtain ⟨i,hi,ex⟩:=bn1 hx;by_cases hij:i = j
 · refine ⟨{ e0 with key:=key,val:=val },bpu.2 ⟨j,by simpa using hjl,by simp⟩, ?_⟩
   subst hij;rw [bma hi] at h2;simp only [bm9] at h2;rw [<- ex,h2];exact h3.symm
 exact ⟨x,bpu.2 ⟨i,by simpa using hi,by rw [List.getElem_set,if_neg (fun h=>hij h.symm)];exact ex⟩,rfl⟩
def w9:Nat -> List Value:=fun b=>match b with | 0=>[.int .u8 0, .int .u8 1, .int .u8 28, .int .u8 2, .int .u8 29, .int .u8 14, .int .u8 24, .int .u8 3, .int .u8 30, .int .u8 22, .int .u8 20, .int .u8 15, .int .u8 25, .int .u8 17, .int .u8 4, .int .u8 8, .int .u8 31, .int .u8 27, .int .u8 13, .int .u8 23, .int .u8 21, .int .u8 19, .int .u8 16, .int .u8 7, .int .u8 26, .int .u8 12, .int .u8 18, .int .u8 6, .int .u8 11, .int .u8 5, .int .u8 10, .int .u8 9] | _=>[]
def b9m:Option (Nat × Nat):=some (94,5)
def yy (b off:Nat):Option Value:=(w9 b)[off]?
def so (m:Imm):Prop:=∀ b off v,yy b off = some v -> jp m b off = some v
def so.mono (h:so m) (hle:Imm.le m m'):so m':=fun b off v hv=>a26 hle (h b off v hv)
end
end Go.Hx
end
