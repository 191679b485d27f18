/- A part of the proof: Hx1. -/
import Derived.Below
import Derived.KernelRfl
import Derived.Laws.CopyOwn
import Derived.Laws.MakeOwn
import Derived.Laws.OwnMore
import Derived.Laws.Tables
import Derived.Maps.Keyed
import Derived.Orders
set_option linter.all false
namespace Go.Hx
abbrev bo5:=@Option.some.injEq
abbrev bo6:=@List.getElem?_eq_getElem
abbrev bo7:=@List.getD_eq_getElem?_getD
abbrev bo8:=@Nat.le_of_ble_eq_true
abbrev bo9:=@Nat.le_refl
abbrev boa:=@Array.getElem?_eq_some_iff
abbrev bob:=@List.length_append
abbrev boc:=@Bool.and_eq_true
abbrev bod:=@Nat.not_lt_zero
abbrev boe:=@Nat.zero_le
abbrev bof:=@Prod.mk.injEq
abbrev bog:=@List.take_length
abbrev boh:=@BitVec.getLsbD_and
abbrev boi:=@List.length_take
abbrev boj:=@List.mem_append
abbrev bok:=@List.mem_cons
abbrev bol:=@Bool.eq_false_iff
abbrev bom:=@List.mem_singleton
abbrev bon:=@Nat.le_trans
abbrev boo:=@List.mem_map
abbrev bop:=@Int.toNat_natCast
abbrev boq:=@List.mem_append_left
abbrev bor:=@List.mem_range
abbrev bos:=@List.mem_append_right
abbrev bot:=@Nat.mul_le_mul_right
abbrev bou:=@List.getElem_of_mem
abbrev bov:=@List.length_cons
abbrev bow:=@Result.andThen_ok
abbrev boy:=@List.getElem?_map
abbrev boz:=@Bool.not_eq_true'
abbrev bp0:=@Option.getD_some
abbrev bp1:=@List.all_eq_true
abbrev bp2:=@List.length_map
abbrev bp3:=@List.getElem_mem
abbrev bp4:=@List.any_eq_true
abbrev bp5:=@Option.map_some
abbrev bp6:=@Nat.eq_of_beq_eq_true
abbrev bp7:=@BitVec.getLsbD_not
abbrev bp8:=@BitVec.eq_of_toNat_eq
abbrev bp9:=@List.mem_cons_self
abbrev bpa:=@Array.getElem?_eq_getElem
abbrev bpb:=@Sem.run_bind
abbrev bpc:=@Nat.zero_add
abbrev bpd:=@List.append_nil
abbrev bpe:=@Bool.false_eq_true
abbrev bpf:=@List.getElem?_take
abbrev bpg:=@List.mem_cons_of_mem
abbrev bph:=@Bool.or_eq_true
abbrev bpi:=@List.pairwise_cons
abbrev bpj:=@BitVec.getLsbD_or
abbrev bpk:=@List.foldl_append
abbrev bpl:=@Nat.add_mul
abbrev bpm:=@Nat.pow_le_pow_right
abbrev bpn:=@List.size_toArray
abbrev bpo:=@List.append_assoc
abbrev bpp:=@List.filter_cons
abbrev bpq:=@List.mem_filter
abbrev bpr:=@List.filter_append
abbrev bps:=@List.length_nil
abbrev bpt:=@List.map_cons
abbrev bpu:=@List.getElem?_range
abbrev bpv:=@Array.length_toList
abbrev bpw:=@List.any_eq_false
abbrev bpx:=@BitVec.eq_of_getLsbD_eq
abbrev bpy:=@List.length_drop
abbrev bpz:=@List.length_singleton
abbrev bq0:=@List.getElem?_append_left
abbrev bq1:=@Bool.true_and
abbrev bq2:=@List.eq_nil_of_length_eq_zero
abbrev bq3:=@List.getElem?_append_right
abbrev bq4:=@Nat.min_eq_left
abbrev bq5:=@Sem.run_pure
abbrev bq6:=@List.foldl_cons
abbrev bq7:=@List.range_succ
abbrev bq8:=@List.mem_of_mem_take
abbrev bq9:=@List.filter_nil
abbrev bqa:=@Nat.eq_zero_or_pos
abbrev bqb:=@List.length_filter_le
abbrev bqc:=@List.getElem?_eq_some_iff
abbrev bqd:=@List.pairwise_iff_getElem
abbrev bqe:=@Nat.add_assoc
abbrev bqf:=@Bool.eq_iff_iff
abbrev bqg:=@List.length_set
abbrev bqh:=@Nat.lt_of_lt_of_le
abbrev bqi:=@List.map_append
abbrev bqj:=@List.getElem?_drop
abbrev bqk:=@Int.natCast_nonneg
abbrev bql:=@Array.getElem?_eq_none
abbrev bqm:=@List.length_range
abbrev bqn:=@List.getElem?_eq_none
abbrev bqo:=@Nat.add_zero
abbrev bqp:=@Nat.lt_or_eq_of_le
abbrev bqq:=@List.mem_iff_getElem
abbrev bqr:=@Array.toArray_toList
abbrev bqs:=@List.countP_cons
abbrev bqt:=@List.exists_of_findSome?_eq_some
abbrev bqu:=@List.findSome?_eq_none_iff
abbrev bqv:=@Nat.pow_pos
abbrev bqw:=@List.ext_getElem?
abbrev bqx:=@List.map_congr_left
abbrev bqy:=@Array.getElem?_modify
abbrev bqz:=@Array.getElem?_toList
abbrev br0:=@Array.toList_map
abbrev br1:=@List.set_eq_of_length_le
abbrev br2:=@List.find?_eq_none
abbrev br3:=@Array.size_append
abbrev br4:=@Nat.le_of_lt_succ
abbrev br5:=@Nat.le_succ
abbrev br6:=@Bool.not_true
abbrev br7:=@BitVec.getLsbD_ushiftRight
abbrev br8:=@Nat.mod_eq_of_lt
abbrev br9:=@List.cons_append
abbrev bra:=@BitVec.toNat_and
abbrev brb:=@Nat.and_le_right
abbrev brc:=@List.prefix_refl
abbrev brd:=@List.take_append_drop
abbrev bre:=@Bool.false_ne_true
abbrev brf:=@List.drop_eq_getElem_cons
abbrev brg:=@Array.getElem?_setIfInBounds_ne
abbrev brh:=@Nat.le_of_eq
abbrev bri:=@Bool.or_eq_false_iff
abbrev brj:=@List.pairwise_append
abbrev brk:=@List.flatMap_cons
abbrev brl:=@List.length_eq_zero_iff
abbrev brm:=@Int.toNat_of_nonneg
abbrev brn:=@Bool.not_eq_true
abbrev bro:=@Nat.lt_or_ge
abbrev brp:=@Nat.lt_of_le_of_lt
abbrev brq:=@Array.getElem?_append_left
abbrev brr:=@Nat.lt_irrefl
abbrev brs:=@World.ownsRow_nil
abbrev brt:=@List.getElem_drop
abbrev bru:=@List.mem_of_mem_drop
abbrev brv:=@Nat.mod_lt
abbrev brw:=@Nat.shiftRight_eq_div_pow
abbrev brx:=@List.mem_or_eq_of_mem_set
abbrev bry:=@List.mem_of_find?_eq_some
abbrev brz:=@List.mem_drop_iff_getElem
abbrev bs0:=@List.findIdx?_eq_some_iff_getElem
abbrev bs1:=@Bool.not_false
abbrev bs2:=@List.map_nil
abbrev bs3:=@Nat.sub_zero
abbrev bs4:=@Nat.le_of_not_lt
abbrev bs5:=@BitVec.toNat_ushiftRight
abbrev bs6:=@Nat.pow_succ
abbrev bs7:=@List.mem_flatten
abbrev bs8:=@Bool.eq_false_or_eq_true
abbrev bs9:=@List.flatMap_append
abbrev bsa:=@List.nil_append
abbrev bsb:=@Nat.two_pow_pos
abbrev bsc:=@BitVec.toNat_ofNat
abbrev bsd:=@List.countP_append
abbrev bse:=@BitVec.and_comm
abbrev bsf:=@BitVec.getLsbD_xor
abbrev bsg:=@List.drop_eq_nil_of_le
abbrev bsh:=@Array.getElem?_push_lt
abbrev bsi:=@Nat.mul_one
abbrev bsj:=@List.filter_eq_nil_iff
abbrev bsk:=@List.length_pos_of_mem
abbrev bsm:=@List.getElem?_set
abbrev bsn:=@List.length_mergeSort
abbrev bso:=@Bool.and_false
abbrev bsp:=@Bool.or_true
end Go.Hx
section
namespace Go.Hx
open Go.RowKit
structure Below (B:Nat) (w w':World):Prop where
 os:w'.os = w.os
 tape:w'.tape = w.tape
 output:w'.output = w.output
 size:w.heap.size <= w'.heap.size
 block:∀ k,k < B -> w'.heap[k]? = w.heap[k]?
 drawn:w.drawn <= w'.drawn
structure Grw (w w':World) (row:Option Nat):Prop where
 base:w.grownBy w' row
 drawn:w.drawn <= w'.drawn
theorem Grw.refl (w:World) (r:Option Nat):Grw w w r:=⟨World.grownBy.refl w r,bo9 _⟩
theorem Grw.alloc (w:World) (o:Obj) (r:Option Nat):Grw w (w.alloc o) r:=⟨World.grownBy_alloc w o r,bo9 _⟩
theorem Below.refl (B:Nat) (w:World):Below B w w:=⟨rfl,rfl,rfl,bo9 _,fun _ _=>rfl,bo9 _⟩
section
variable {B:Nat} {a:World}
theorem Below.trans {b c:World} (h:Below B a b) (k:Below B b c):Below B a c :=
 ⟨k.os.trans h.os,k.tape.trans h.tape,k.output.trans h.output,bon h.size k.size,fun i hi=>(k.block i hi).trans (h.block i hi),bon h.drawn k.drawn⟩
variable {w:World}
theorem Below.mono {B':Nat} {w':World} (h:Below B w w') (hB:B' <= B):Below B' w w':=⟨h.os,h.tape,h.output,h.size,fun k hk=>h.block k (bqh hk hB),h.drawn⟩
theorem Below.drew (h:Below B a w):Below B a w.drew:=⟨h.os,h.tape,h.output,h.size,h.block,bon h.drawn (br5 _)⟩
theorem Below.alloc (h:Below B a w) (hB:B <= w.heap.size) (o:Obj):Below B a (w.alloc o) :=
 have q:=Go.RowKit.Below.alloc (B:=B) (a:=a) (w:=w) ⟨h.os,h.tape,h.output,h.size,h.block⟩ hB o
 ⟨q.os,q.tape,q.output,q.size,q.block,h.drawn⟩
theorem Below.heap_alloc (w:World) (o:Obj) (k:Nat) (h:k < w.heap.size):(w.alloc o).heap[k]? = w.heap[k]?:=Go.RowKit.Below.heap_alloc w o k h
def bsq {p:Prop} (h:p:=by omega):p:=h
theorem Below.grown {w':World} {row:Option Nat} (h:Below B a w) (hg:Grw w w' row) (hB:B <= w.heap.size) (hr:∀ k,row = some k -> B <= k):Below B a w' :=
 h.trans ⟨hg.base.os,hg.base.tape,hg.base.output,hg.base.size,fun k hk=>hg.base.block k bsq (fun e=>by have:=hr k e.symm;omega),hg.drawn⟩
def a88 {α:Type}:∀ (x:Ask α) (w:World),w.drawn <= (w.ask x).2.drawn
 | .done a,w=>bo9 _
 | .ask what range k,w=>by
  simp only [World.ask];split
  · exact a88 _ _
  have h:=a88 (k ((Question.extern what range).cut (w.tape w.drawn (Question.extern what range)))) { w with drawn:=w.drawn + 1 };exact bon (br5 w.drawn) h
def aze (w:World) (c:Sys):w.drawn <= (w.sys c).2.drawn:=by
 have h:=a88 (Kernel.perform c w.os) w;unfold World.sys;split
 · exact bo9 _
 rename_i r os w2 _ heq;rw [heq] at h;exact h
def adk {p:Program} {at_:Addr} {u:TypeId} {k:Addr} {v:Value} {atomic:Bool} {r:World × List Addr} (h:w.viewStore p at_ u k v atomic = .ok r):r.1.drawn = w.drawn:=by
 unfold World.viewStore at h;simp only [bind,Except.bind,pure,Except.pure] at h
 repeat' split at h
 all_goals first | (cases h;done) | (simp only [Except.ok.injEq] at h;subst h;rfl)
def aga {p:Program} {a:Addr} {v:Value} {atomic:Bool} {r:World × List Addr} (h:w.farStore p a v atomic = .ok r):r.1.drawn = w.drawn:=by
 unfold World.farStore at h;split at h
 · split at h
   · rename_i r2 hr
     simp only [Except.ok.injEq] at h;subst h;exact adk hr
   cases h
 cases h
def a8y (w:World) (a:Addr) (n:Nat):(w.freeze a n).drawn = w.drawn:=by
 unfold World.freeze;split <;> rfl
variable {P:Program}
def yp {α:Type}:∀ (x:Sem α) {w w':World} {v:α},x.run P w = .ok v w' -> w.drawn <= w'.drawn:=by
 intro x
 induction x with
 | pure a=>intro w w' v h;simp only [Sem.run,Result.ok.injEq] at h;obtain ⟨_,rfl⟩:=h;exact bo9 _
 | load m a k ih =>
  intro w w' v h;simp only [Sem.run] at h;split at h
  · exact ih _ h
  split at h
  · exact ih _ h
  cases h
 | store m a x k ih =>
  intro w w' v h
  cases x <;> simp only [Sem.run] at h <;> first
   | (cases h;done)
   | (split at h
      · split at h
        · cases h
        have q:=ih h;exact q
      split at h
      · rename_i hf
        exact bon (brh (aga hf).symm) (ih h)
      cases h)
 | new o k ih=>intro w w' v h;simp only [Sem.run] at h;have q:=ih _ h;exact q
 | shape r k ih=>intro w w' v h;simp only [Sem.run] at h;exact ih _ h
 | freeze a n k ih=>intro w w' v h;simp only [Sem.run] at h;exact bon (brh (a8y w a n).symm) (ih h)
 | frozen a k ih=>intro w w' v h;simp only [Sem.run] at h;exact ih _ h
 | getObj r k ih =>
  intro w w' v h;simp only [Sem.run] at h;split at h
  · cases h
  · exact ih _ h
  cases h
 | setObj r o k ih =>
  intro w w' v h;simp only [Sem.run] at h;split at h
  · cases h
  · have q:=ih h
    exact q
  cases h
 | choose q k ih =>
  intro w w' v h;simp only [Sem.run] at h;split at h
  · exact ih _ h
  have q:=ih _ h;exact bon (br5 w.drawn) q
 | sys c k ih=>intro w w' v h;simp only [Sem.run] at h;exact bon (aze w c) (ih _ h)
 | program k ih=>intro w w' v h;simp only [Sem.run] at h;exact ih _ h
 | mark m k ih=>intro w w' v h;simp only [Sem.run] at h;exact ih h
 | halt hh=>intro w w' v h;simp only [Sem.run] at h;cases h
inductive PV where
 | raw (v:Value)
 | any
 | sl (n s:Nat) (clip:Bool) (f:Nat -> Nat -> PV)
 | vp (m:Nat) (f:Nat -> PV)
 | fn (g:FuncId) (k:Nat) (caps:Nat -> PV)
 | bnd (g:FuncId) (m:Nat) (f:Nat -> PV)
abbrev Imm:=Nat -> Option Obj
def kg (m:Imm) (b off:Nat):Option Value :=
 match m b with
 | some (.cells cs _ _)=>cs[off]?
 | _=>none
def ay (m:Imm):PV -> Value -> Prop
 | .raw v,u=>u = v /\ v.oneCell' = true
 | .any,u=>u.oneCell' = true
 | .sl n s clip f,u=>∃ a cap,u = .slice a n cap /\ n <= cap /\ cap <= maxLen /\ (clip = true -> cap = n) /\
  (0 < n -> ∃ b off,a = some ⟨b,off,none⟩ /\ ∀ i j,i < n -> j < s -> ∃ x,kg m b (off + (i * s + j)) = some x /\ ay m (f i j) x)
 | .vp k f,u=>∃ b off,u = .pointer (some ⟨b,off,none⟩) /\ ∀ j,j < k -> ∃ x,kg m b (off + j) = some x /\ ay m (f j) x
 | .fn g k caps,u=>∃ cs:List Value,u = .func (.func g) #[] cs.toArray /\ cs.length = k /\ ∀ i,i < k -> ∃ x,cs[i]? = some x /\ ay m (caps i) x
 | .bnd g k f,u=>∃ cs:List Value,u = .func (.func g) #[.agg cs.toArray] #[] /\ cs.length = k /\ ∀ i,i < k -> ∃ x,cs[i]? = some x /\ ay m (f i) x
def Imm.le (m m':Imm):Prop:=∀ b o,m b = some o -> m' b = some o
theorem Imm.le.refl (m:Imm):Imm.le m m:=fun _ _ h=>h
theorem Imm.le.trans {a b c:Imm} (h:Imm.le a b) (k:Imm.le b c):Imm.le a c:=fun x o hx=>k x o (h x o hx)
variable {m m':Imm}
def a3g (h:Imm.le m m') {b off:Nat} {x:Value} (hc:kg m b off = some x):kg m' b off = some x:=by
 unfold kg at *
 cases hb:m b with
 | none=>rw [hb] at hc;cases hc
 | some o=>rw [hb] at hc;rw [h b o hb];exact hc
def ay.mono (h:Imm.le m m'):∀ {x:PV} {u:Value},ay m x u -> ay m' x u:=by
 intro x
 induction x with
 | raw v=>intro u hu;exact hu
 | any=>intro u hu;exact hu
 | sl n s clip f ih =>
  rintro u ⟨a,cap,h1,h2,h3,h4,h5⟩;refine ⟨a,cap,h1,h2,h3,h4,fun hn=>?_⟩;obtain ⟨b,off,ha,hc⟩:=h5 hn
  exact ⟨b,off,ha,fun i j hi hj=>by
   obtain ⟨x,hx,hr⟩:=hc i j hi hj
   exact ⟨x,a3g h hx,ih i j hr⟩⟩
 | vp k f ih =>
  rintro u ⟨b,off,h1,hc⟩
  exact ⟨b,off,h1,fun j hj=>by
   obtain ⟨x,hx,hr⟩:=hc j hj
   exact ⟨x,a3g h hx,ih j hr⟩⟩
 | fn g k caps ih =>
  rintro u ⟨cs,h1,h2,hc⟩
  exact ⟨cs,h1,h2,fun i hi=>by
   obtain ⟨x,hx,hr⟩:=hc i hi
   exact ⟨x,hx,ih i hr⟩⟩
 | bnd g k f ih =>
  rintro u ⟨cs,h1,h2,hc⟩
  exact ⟨cs,h1,h2,fun i hi=>by
   obtain ⟨x,hx,hr⟩:=hc i hi
   exact ⟨x,hx,ih i hr⟩⟩
def ay.oneCell {x:PV} {u:Value} (h:ay m x u):u.oneCell' = true:=by
 cases x with
 | raw v=>obtain ⟨rfl,h⟩:=h;exact h
 | any=>exact h
 | sl n s clip f=>obtain ⟨a,cap,rfl,_⟩:=h;rfl
 | vp k f=>obtain ⟨b,off,rfl,_⟩:=h;rfl
 | fn g k caps=>obtain ⟨cs,rfl,_⟩:=h;rfl
 | bnd g k f=>obtain ⟨cs,rfl,_⟩:=h;rfl
def fh (m:Imm):List PV -> List Value -> Prop
 | [],[]=>True
 | x :: xs,u :: us=>ay m x u /\ fh m xs us
 | _,_=>False
def fh.length:∀ {xs:List PV} {us:List Value},fh m xs us -> us.length = xs.length
 | [],[],_=>rfl
 | x :: xs,u :: us,h=>by simp [h.2.length]
 | [],_ :: _,h=>h.elim
 | _ :: _,[],h=>h.elim
def fh.mono (h:Imm.le m m'):∀ {xs:List PV} {us:List Value},fh m xs us -> fh m' xs us
 | [],[],_=>trivial
 | _ :: _,_ :: _,hr=>⟨hr.1.mono h,fh.mono h hr.2⟩
 | [],_ :: _,hr=>hr.elim
 | _ :: _,[],hr=>hr.elim
def fh.get:∀ {xs:List PV} {us:List Value},fh m xs us -> ∀ (i:Nat) (x:PV),xs[i]? = some x -> ∃ u,us[i]? = some u /\ ay m x u
 | _ :: _,_ :: _,h,0,x,hx=>by simp at hx;subst hx;exact ⟨_,rfl,h.1⟩
 | _ :: _,_ :: _,h,i + 1,x,hx=>by
  obtain ⟨u,hu,hr⟩:=fh.get h.2 i x (by simpa using hx);exact ⟨u,by simpa using hu,hr⟩
 | [],_,_,i,x,hx=>by simp at hx
 | _ :: _,[],h,_,_,_=>h.elim
def fh.of_get:∀ {xs:List PV} {us:List Value},us.length = xs.length -> (∀ (i:Nat) (x:PV) (u:Value),xs[i]? = some x -> us[i]? = some u -> ay m x u) -> fh m xs us
 | [],[],_,_=>trivial
 | x :: xs,u :: us,hl,h=>⟨h 0 x u rfl rfl,fh.of_get (by simpa using hl) fun i y v hy hv=>h (i + 1) y v (by simpa using hy) (by simpa using hv)⟩
 | [],_ :: _,hl,_=>by simp at hl
 | _ :: _,[],hl,_=>by simp at hl
inductive PC where
 | one (x:PV)
 | agg (l:List PV)
inductive PR where
 | v (c:PC)
 | tup (l:List PC)
def j6 (m:Imm):PC -> Value -> Prop
 | .one x,u=>ay m x u
 | .agg l,u=>∃ us:List Value,u = .agg us.toArray /\ fh m l us
def d9 (m:Imm):List PC -> List Value -> Prop
 | [],[]=>True
 | x :: xs,u :: us=>j6 m x u /\ d9 m xs us
 | _,_=>False
def uh (m:Imm):PR -> Value -> Prop
 | .v c,u=>j6 m c u
 | .tup l,u=>∃ us:List Value,u = .tuple us.toArray /\ d9 m l us
def j6.mono (h:Imm.le m m') {x:PC} {u:Value} (hr:j6 m x u):j6 m' x u:=by
 cases x with
 | one x=>exact ay.mono h hr
 | agg l=>obtain ⟨us,e,hl⟩:=hr;exact ⟨us,e,hl.mono h⟩
def d9.mono (h:Imm.le m m'):∀ {xs:List PC} {us:List Value},d9 m xs us -> d9 m' xs us
 | [],[],_=>trivial
 | _ :: _,_ :: _,hr=>⟨hr.1.mono h,d9.mono h hr.2⟩
 | [],_ :: _,hr=>hr.elim
 | _ :: _,[],hr=>hr.elim
def d9.length:∀ {xs:List PC} {us:List Value},d9 m xs us -> us.length = xs.length
 | [],[],_=>rfl
 | x :: xs,u :: us,h=>by simp [h.2.length]
 | [],_ :: _,h=>h.elim
 | _ :: _,[],h=>h.elim
def d9.get:∀ {xs:List PC} {us:List Value},d9 m xs us -> ∀ (i:Nat) (x:PC),xs[i]? = some x -> ∃ u,us[i]? = some u /\ j6 m x u
 | _ :: _,_ :: _,h,0,x,hx=>by simp at hx;subst hx;exact ⟨_,rfl,h.1⟩
 | _ :: _,_ :: _,h,i + 1,x,hx=>by
  obtain ⟨u,hu,hr⟩:=d9.get h.2 i x (by simpa using hx);exact ⟨u,by simpa using hu,hr⟩
 | [],_,_,i,x,hx=>by simp at hx
 | _ :: _,[],h,_,_,_=>h.elim
def uh.mono (h:Imm.le m m') {x:PR} {u:Value} (hr:uh m x u):uh m' x u:=by
 cases x with
 | v x=>exact j6.mono h hr
 | tup l=>obtain ⟨us,e,hl⟩:=hr;exact ⟨us,e,hl.mono h⟩
def bco {k:TypeId} {x:MapEntry} {l:Lit} (h:keyOf P k x.key = some l):Go.WideElems.rd P k (fun v=>some (DataW.held (H:=Value) v,[])) x = some (l, .held x.val):=by
 obtain ⟨k0,v0,b0⟩:=x;exact Go.WideElems.rd_mk (R:=fun v=>some (DataW.held (H:=Value) v,[])) (yv:=(DataW.held v0,[])) h rfl
def b3c {k e t:TypeId} {b:Nat} {es:Array MapEntry} {clock:Nat} (cm:Bool) (K:Go.Maps.Keyed P k) (ht:P.underlying t = some (.map k e)) {z:Value} (hz:(zeroValue e).run P w = .ok z w) (hb:w.heap[b]? = some (.map es clock)) (hs:es.size <= maxLen) (hst:Go.MapKept.Stamped es clock) (hk:∀ x ∈ es.toList,∃ l,keyOf P k x.key = some l) {key:Value} {kl:Lit} (hkey:keyOf P k key = some kl):
 ((Instr.lookup t (.map (some b)) key cm).run P w = .ok (if cm then .tuple #[z, .bool false] else z) w /\ ∀ x ∈ es.toList,x.key ≠ key) \/
 ∃ e0,e0 ∈ es.toList /\ e0.key = key /\ (Instr.lookup t (.map (some b)) key cm).run P w = .ok (if cm then .tuple #[e0.val, .bool true] else e0.val) w:=by
 have F:Go.WideElems.Fit P k (fun v=>some (DataW.held (H:=Value) v,[])) es clock:=⟨hs,hst,fun x hx=>by
  obtain ⟨l,hl⟩:=hk x hx
  exact ⟨_,bco hl⟩⟩
 rcases Go.Maps.fit_look cm K ht hz hb F hkey with ⟨h1,h2,_⟩ | ⟨e0,_,h1,h2,h3,_⟩
 · exact .inl ⟨h1,h2⟩
 exact .inr ⟨e0,h1,h2,h3⟩
def b1k {k e t:TypeId} {b:Nat} {es:Array MapEntry} {clock:Nat} (K:Go.Maps.Keyed P k) (ht:P.underlying t = some (.map k e)) (hb:w.heap[b]? = some (.map es clock)) (hs:es.size < maxLen) (hst:Go.MapKept.Stamped es clock) (hk:∀ x ∈ es.toList,∃ l,keyOf P k x.key = some l) {key val:Value} {kl:Lit} (hkey:keyOf P k key = some kl):
 ∃ es' clock',(Instr.mapUpdate t (.map (some b)) key val).run P w = .ok () (Go.ChangeMaps.setBlock w b (.map es' clock')) /\ Go.MapKept.Stamped es' clock' /\ es'.size <= es.size + 1 /\
  (∀ x' ∈ es'.toList,(x' ∈ es.toList /\ x'.key ≠ key) \/ (x'.key = key /\ x'.val = val)) /\ (∃ x' ∈ es'.toList,x'.key = key) /\ ∀ x ∈ es.toList,∃ x' ∈ es'.toList,x'.key = x.key:=by
 rcases K.find w hkey es.toList hk with ⟨h1,h2⟩ | ⟨j,e0,h1,h2,h3⟩
 · refine ⟨es.push ⟨key,val,clock⟩,clock + 1, ?_,Go.MapKept.stamped_push hst h2,by simp, ?_,⟨⟨key,val,clock⟩,by simp,rfl⟩,fun x hx=>⟨x,by simp only [Array.toList_push,boj];exact .inl hx,rfl⟩⟩
   · simp [Instr.mapUpdate,run_underlying ht,MapKept.run_getObj_map hb,K.check w false hkey,h1,MapKept.run_setObj_map _ hb,Result.andThen,Go.ChangeMaps.setBlock]
   intro x' hx';simp only [Array.toList_push,boj,bom] at hx'
   rcases hx' with hx' | rfl
   · exact .inl ⟨hx',h2 x' hx'⟩
   exact .inr ⟨rfl,rfl⟩
 have hj:es[j]? = some e0:=by simpa using h2
 have hjl:j < es.toList.length:=(bqc.1 h2).1;have hlist:(es.modify j (fun e'=>{ e' with key:=key,val:=val })).toList = es.toList.set j { e0 with key:=key,val:=val }:=by rw [Array.toList_modify,Go.ChangeMaps.modify_eq_set _ _ _ _ h2]
 have hpw:=((Go.MapKept.stamped_iff es clock).1 hst).2.2
 have hne:∀ i x,es.toList[i]? = some x -> i ≠ j -> x.key ≠ key:=fun i x hi hij he=>by
  have hi':=bqc.1 hi;have hj':=bqc.1 h2;obtain ⟨hi1,hi2⟩:=hi';obtain ⟨hj1,hj2⟩:=hj'
  rcases Nat.lt_or_gt_of_ne hij with hlt | hgt
  · have:=bqd.1 hpw i j hi1 hj1 hlt
    rw [hi2,hj2,he,h3] at this;exact this rfl
  have:=bqd.1 hpw j i hj1 hi1 hgt;rw [hi2,hj2,he,h3] at this;exact this rfl
 refine ⟨es.modify j (fun e'=>{ e' with key:=key,val:=val }),clock, ?_,Go.MapKept.stamped_modify hst _ _ (fun _ _=>rfl) (fun e' _ he'=>by rw [hj] at he';cases he';exact h3.symm),by simp, ?_, ?_, ?_⟩
 · simp [Instr.mapUpdate,run_underlying ht,MapKept.run_getObj_map hb,K.check w false hkey,h1,hj,h3,K.stays w hkey,MapKept.run_setObj_map _ hb,Result.andThen,Go.ChangeMaps.setBlock]
 · intro x hx
   rw [hlist] at hx;obtain ⟨i,hi,ex⟩:=bou hx;rw [List.getElem_set] at ex;split at ex
   · exact .inr ⟨by rw [<- ex],by rw [<- ex]⟩
   rename_i hij;have hi':i < es.toList.length:=by simpa using hi
   exact .inl ⟨ex ▸ bp3 hi',hne i x (by rw [bo6 hi',ex]) (fun h=>hij h.symm)⟩
 · rw [hlist]
   exact ⟨{ e0 with key:=key,val:=val },bqq.2 ⟨j,by simpa using hjl,by simp⟩,rfl⟩
 intro x hx;rw [hlist];obtain ⟨i,hi,ex⟩:=bou hx;by_cases hij:i = j
 · refine ⟨{ e0 with key:=key,val:=val },bqq.2 ⟨j,by simpa using hjl,by simp⟩, ?_⟩
   subst hij;rw [bo6 hi] at h2;simp only [bo5] at h2;rw [<- ex,h2];exact h3.symm
 exact ⟨x,bqq.2 ⟨i,by simpa using hi,by rw [List.getElem_set,if_neg (fun h=>hij h.symm)];exact ex⟩,rfl⟩
def xz:Nat -> List Value:=fun b=>match b with | 0=>[.int .u8 0, .int .u8 1, .int .u8 28, .int .u8 2, .int .u8 29, .int .u8 14, .int .u8 24, .int .u8 3, .int .u8 30, .int .u8 22, .int .u8 20, .int .u8 15, .int .u8 25, .int .u8 17, .int .u8 4, .int .u8 8, .int .u8 31, .int .u8 27, .int .u8 13, .int .u8 23, .int .u8 21, .int .u8 19, .int .u8 16, .int .u8 7, .int .u8 26, .int .u8 12, .int .u8 18, .int .u8 6, .int .u8 11, .int .u8 5, .int .u8 10, .int .u8 9] | _=>[]
def bar:Option (Nat × Nat):=some (94,5)
def a0s (b off:Nat):Option Value:=(xz b)[off]?
def ug (m:Imm):Prop:=∀ b off v,a0s b off = some v -> kg m b off = some v
def ug.mono (h:ug m) (hle:Imm.le m m'):ug m':=fun b off v hv=>a3g hle (h b off v hv)
end
end Go.Hx
end
