/- A part of the proof: Hx1. -/
import Derived.Below
import Derived.KernelRfl
import Derived.Laws.CopyOwn
import Derived.Laws.MakeOwn
import Derived.Laws.OwnMore
import Derived.Laws.Tables
import Derived.Maps.Keyed
import Derived.Orders
set_option linter.all false
namespace Go.Hx
abbrev bjb:=@Option.some.injEq
abbrev bjc:=@List.getElem?_eq_getElem
abbrev bjd:=@List.getD_eq_getElem?_getD
abbrev bje:=@Nat.le_of_ble_eq_true
abbrev bjf:=@Array.getElem?_eq_some_iff
abbrev bjg:=@Nat.le_refl
abbrev bjh:=@Nat.not_lt_zero
abbrev bji:=@Nat.zero_le
abbrev bjj:=@List.length_append
abbrev bjk:=@List.take_length
abbrev bjl:=@Prod.mk.injEq
abbrev bjm:=@Bool.and_eq_true
abbrev bjn:=@List.length_take
abbrev bjo:=@Int.toNat_natCast
abbrev bjp:=@Bool.eq_false_iff
abbrev bjq:=@List.mem_cons
abbrev bjr:=@Nat.le_trans
abbrev bjs:=@List.mem_range
abbrev bjt:=@Nat.mul_le_mul_right
abbrev bju:=@List.mem_append_left
abbrev bjv:=@BitVec.getLsbD_and
abbrev bjw:=@List.mem_append
abbrev bjx:=@Result.andThen_ok
abbrev bjy:=@List.mem_singleton
abbrev bjz:=@List.getElem?_map
abbrev bk0:=@List.length_map
abbrev bk1:=@Option.map_some
abbrev bk2:=@List.mem_append_right
abbrev bk3:=@Nat.eq_of_beq_eq_true
abbrev bk4:=@List.getElem_of_mem
abbrev bk5:=@List.length_cons
abbrev bk6:=@Nat.zero_add
abbrev bk7:=@List.getElem_mem
abbrev bk8:=@Option.getD_some
abbrev bk9:=@Array.getElem?_eq_getElem
abbrev bka:=@BitVec.eq_of_toNat_eq
abbrev bkb:=@List.getElem?_take
abbrev bkc:=@Bool.not_eq_true'
abbrev bkd:=@List.append_nil
abbrev bke:=@List.any_eq_true
abbrev bkf:=@Sem.run_bind
abbrev bkg:=@List.mem_map
abbrev bkh:=@List.pairwise_cons
abbrev bki:=@List.foldl_append
abbrev bkj:=@Nat.add_mul
abbrev bkk:=@List.all_eq_true
abbrev bkl:=@List.mem_cons_self
abbrev bkm:=@List.size_toArray
abbrev bkn:=@List.append_assoc
abbrev bko:=@List.filter_cons
abbrev bkp:=@List.mem_cons_of_mem
abbrev bkq:=@List.filter_append
abbrev bkr:=@Bool.false_eq_true
abbrev bks:=@Array.length_toList
abbrev bkt:=@List.map_cons
abbrev bku:=@List.getElem?_range
abbrev bkv:=@BitVec.eq_of_getLsbD_eq
abbrev bkw:=@List.length_singleton
abbrev bkx:=@List.eq_nil_of_length_eq_zero
abbrev bky:=@BitVec.getLsbD_or
abbrev bkz:=@List.length_drop
abbrev bl0:=@List.getElem?_append_right
abbrev bl1:=@Sem.run_pure
abbrev bl2:=@List.getElem?_append_left
abbrev bl3:=@Bool.or_eq_true
abbrev bl4:=@List.range_succ
abbrev bl5:=@List.any_eq_false
abbrev bl6:=@List.filter_nil
abbrev bl7:=@Nat.eq_zero_or_pos
abbrev bl8:=@List.length_filter_le
abbrev bl9:=@List.getElem?_eq_some_iff
abbrev bla:=@List.pairwise_iff_getElem
abbrev blb:=@List.foldl_cons
abbrev blc:=@Nat.min_eq_left
abbrev blf:=@Nat.add_assoc
abbrev blg:=@BitVec.getLsbD_not
abbrev blh:=@Bool.eq_iff_iff
abbrev bli:=@List.length_nil
abbrev blj:=@List.mem_filter
abbrev bll:=@Nat.lt_of_lt_of_le
abbrev blm:=@Bool.true_and
abbrev bln:=@List.map_append
abbrev blo:=@List.length_set
abbrev blp:=@List.getElem?_drop
abbrev blq:=@Int.natCast_nonneg
abbrev blr:=@Array.getElem?_eq_none
abbrev bls:=@List.map_congr_left
abbrev blu:=@List.length_range
abbrev blv:=@List.getElem?_eq_none
abbrev blw:=@Nat.add_zero
abbrev blx:=@Nat.lt_or_eq_of_le
abbrev bly:=@Array.toArray_toList
abbrev blz:=@Nat.pow_le_pow_right
abbrev bm0:=@List.countP_cons
abbrev bm1:=@List.findSome?_eq_none_iff
abbrev bm2:=@List.ext_getElem?
abbrev bm3:=@Array.getElem?_modify
abbrev bm4:=@Array.getElem?_toList
abbrev bm5:=@Array.toList_map
abbrev bm6:=@List.mem_of_mem_take
abbrev bm7:=@Array.size_append
abbrev bm8:=@Nat.le_of_lt_succ
abbrev bm9:=@BitVec.getLsbD_ushiftRight
abbrev bma:=@Nat.mod_eq_of_lt
abbrev bmb:=@List.cons_append
abbrev bmc:=@BitVec.toNat_and
abbrev bmd:=@Nat.and_le_right
abbrev bme:=@List.prefix_refl
abbrev bmf:=@List.take_append_drop
abbrev bmg:=@Bool.false_ne_true
abbrev bmh:=@List.drop_eq_getElem_cons
abbrev bmi:=@Nat.le_succ
abbrev bmj:=@Bool.or_eq_false_iff
abbrev bmk:=@List.pairwise_append
abbrev bml:=@List.flatMap_cons
abbrev bmm:=@Bool.not_true
abbrev bmn:=@Int.toNat_of_nonneg
abbrev bmo:=@Nat.le_of_eq
abbrev bmp:=@Nat.lt_or_ge
abbrev bmq:=@List.find?_eq_none
abbrev bmr:=@Nat.lt_of_le_of_lt
abbrev bms:=@Array.getElem?_append_left
abbrev bmt:=@Nat.lt_irrefl
abbrev bmu:=@World.ownsRow_nil
abbrev bmv:=@List.mem_iff_getElem
abbrev bmw:=@Nat.shiftRight_eq_div_pow
abbrev bmx:=@List.findIdx?_eq_some_iff_getElem
abbrev bmy:=@Bool.not_eq_true
abbrev bmz:=@List.map_nil
abbrev bn0:=@Nat.sub_zero
abbrev bn1:=@Nat.le_of_not_lt
abbrev bn2:=@BitVec.toNat_ushiftRight
abbrev bn3:=@List.exists_of_findSome?_eq_some
abbrev bn4:=@List.flatMap_append
abbrev bn5:=@Array.getElem?_setIfInBounds_ne
abbrev bn6:=@List.nil_append
abbrev bn7:=@Nat.two_pow_pos
abbrev bn8:=@BitVec.toNat_ofNat
abbrev bn9:=@List.countP_append
abbrev bna:=@BitVec.getLsbD_xor
abbrev bnb:=@List.drop_eq_nil_of_le
abbrev bnc:=@Array.getElem?_push_lt
abbrev bne:=@Nat.mul_one
abbrev bnf:=@List.filter_eq_nil_iff
abbrev bng:=@List.getElem?_set
abbrev bnh:=@Bool.not_false
abbrev bni:=@List.length_mergeSort
abbrev bnj:=@Bool.and_false
abbrev bnk:=@List.findSome?_append
end Go.Hx
section
namespace Go.Hx
open Go.RowKit
structure Below (B:Nat) (w w':World):Prop where
 os:w'.os = w.os
 tape:w'.tape = w.tape
 output:w'.output = w.output
 size:w.heap.size <= w'.heap.size
 block:∀ k,k < B -> w'.heap[k]? = w.heap[k]?
 drawn:w.drawn <= w'.drawn
structure Grw (w w':World) (row:Option Nat):Prop where
 base:w.grownBy w' row
 drawn:w.drawn <= w'.drawn
theorem Grw.refl (w:World) (r:Option Nat):Grw w w r:=⟨World.grownBy.refl w r,bjg _⟩
theorem Grw.alloc (w:World) (o:Obj) (r:Option Nat):Grw w (w.alloc o) r:=⟨World.grownBy_alloc w o r,bjg _⟩
theorem Below.refl (B:Nat) (w:World):Below B w w:=⟨rfl,rfl,rfl,bjg _,fun _ _=>rfl,bjg _⟩
section
variable {B:Nat} {a:World}
theorem Below.trans {b c:World} (h:Below B a b) (k:Below B b c):Below B a c :=
 ⟨k.os.trans h.os,k.tape.trans h.tape,k.output.trans h.output,bjr h.size k.size,fun i hi=>(k.block i hi).trans (h.block i hi),bjr h.drawn k.drawn⟩
variable {w:World}
theorem Below.mono {B':Nat} {w':World} (h:Below B w w') (hB:B' <= B):Below B' w w':=⟨h.os,h.tape,h.output,h.size,fun k hk=>h.block k (bll hk hB),h.drawn⟩
theorem Below.drew (h:Below B a w):Below B a w.drew:=⟨h.os,h.tape,h.output,h.size,h.block,bjr h.drawn (bmi _)⟩
theorem Below.alloc (h:Below B a w) (hB:B <= w.heap.size) (o:Obj):Below B a (w.alloc o) :=
 have q:=Go.RowKit.Below.alloc (B:=B) (a:=a) (w:=w) ⟨h.os,h.tape,h.output,h.size,h.block⟩ hB o
 ⟨q.os,q.tape,q.output,q.size,q.block,h.drawn⟩
theorem Below.heap_alloc (w:World) (o:Obj) (k:Nat) (h:k < w.heap.size):(w.alloc o).heap[k]? = w.heap[k]?:=Go.RowKit.Below.heap_alloc w o k h
def bnl {p:Prop} (h:p:=by omega):p:=h
theorem Below.grown {w':World} {row:Option Nat} (h:Below B a w) (hg:Grw w w' row) (hB:B <= w.heap.size) (hr:∀ k,row = some k -> B <= k):Below B a w' :=
 h.trans ⟨hg.base.os,hg.base.tape,hg.base.output,hg.base.size,fun k hk=>hg.base.block k bnl (fun e=>by have:=hr k e.symm;omega),hg.drawn⟩
def a4y {α:Type}:∀ (x:Ask α) (w:World),w.drawn <= (w.ask x).2.drawn
 | .done a,w=>bjg _
 | .ask what range k,w=>by
  simp only [World.ask];split
  · exact a4y _ _
  have h:=a4y (k ((Question.extern what range).cut (w.tape w.drawn (Question.extern what range)))) { w with drawn:=w.drawn + 1 };exact bjr (bmi w.drawn) h
def aws (w:World) (c:Sys):w.drawn <= (w.sys c).2.drawn:=by
 have h:=a4y (Kernel.perform c w.os) w;unfold World.sys;split
 · exact bjg _
 rename_i r os w2 _ heq;rw [heq] at h;exact h
def ac7 {p:Program} {at_:Addr} {u:TypeId} {k:Addr} {v:Value} {atomic:Bool} {r:World × List Addr} (h:w.viewStore p at_ u k v atomic = .ok r):r.1.drawn = w.drawn:=by
 unfold World.viewStore at h;simp only [bind,Except.bind,pure,Except.pure] at h
 repeat' split at h
 all_goals first | (cases h;done) | (simp only [Except.ok.injEq] at h;subst h;rfl)
def aep {p:Program} {a:Addr} {v:Value} {atomic:Bool} {r:World × List Addr} (h:w.farStore p a v atomic = .ok r):r.1.drawn = w.drawn:=by
 unfold World.farStore at h;split at h
 · split at h
   · rename_i r2 hr
     simp only [Except.ok.injEq] at h;subst h;exact ac7 hr
   cases h
 cases h
def a4q (w:World) (a:Addr) (n:Nat):(w.freeze a n).drawn = w.drawn:=by
 unfold World.freeze;split <;> rfl
variable {P:Program}
def x8 {α:Type}:∀ (x:Sem α) {w w':World} {v:α},x.run P w = .ok v w' -> w.drawn <= w'.drawn:=by
 intro x
 induction x with
 | pure a=>intro w w' v h;simp only [Sem.run,Result.ok.injEq] at h;obtain ⟨_,rfl⟩:=h;exact bjg _
 | load m a k ih =>
  intro w w' v h;simp only [Sem.run] at h;split at h
  · exact ih _ h
  split at h
  · exact ih _ h
  cases h
 | store m a x k ih =>
  intro w w' v h
  cases x <;> simp only [Sem.run] at h <;> first
   | (cases h;done)
   | (split at h
      · split at h
        · cases h
        have q:=ih h;exact q
      split at h
      · rename_i hf
        exact bjr (bmo (aep hf).symm) (ih h)
      cases h)
 | new o k ih=>intro w w' v h;simp only [Sem.run] at h;have q:=ih _ h;exact q
 | shape r k ih=>intro w w' v h;simp only [Sem.run] at h;exact ih _ h
 | freeze a n k ih=>intro w w' v h;simp only [Sem.run] at h;exact bjr (bmo (a4q w a n).symm) (ih h)
 | frozen a k ih=>intro w w' v h;simp only [Sem.run] at h;exact ih _ h
 | getObj r k ih =>
  intro w w' v h;simp only [Sem.run] at h;split at h
  · cases h
  · exact ih _ h
  cases h
 | setObj r o k ih =>
  intro w w' v h;simp only [Sem.run] at h;split at h
  · cases h
  · have q:=ih h
    exact q
  cases h
 | choose q k ih =>
  intro w w' v h;simp only [Sem.run] at h;split at h
  · exact ih _ h
  have q:=ih _ h;exact bjr (bmi w.drawn) q
 | sys c k ih=>intro w w' v h;simp only [Sem.run] at h;exact bjr (aws w c) (ih _ h)
 | program k ih=>intro w w' v h;simp only [Sem.run] at h;exact ih _ h
 | mark m k ih=>intro w w' v h;simp only [Sem.run] at h;exact ih h
 | halt hh=>intro w w' v h;simp only [Sem.run] at h;cases h
inductive PV where
 | raw (v:Value)
 | any
 | sl (n s:Nat) (clip:Bool) (f:Nat -> Nat -> PV)
 | vp (m:Nat) (f:Nat -> PV)
 | fn (g:FuncId) (k:Nat) (caps:Nat -> PV)
 | bnd (g:FuncId) (m:Nat) (f:Nat -> PV)
abbrev Imm:=Nat -> Option Obj
def je (m:Imm) (b off:Nat):Option Value :=
 match m b with
 | some (.cells cs _ _)=>cs[off]?
 | _=>none
def az (m:Imm):PV -> Value -> Prop
 | .raw v,u=>u = v /\ v.oneCell' = true
 | .any,u=>u.oneCell' = true
 | .sl n s clip f,u=>∃ a cap,u = .slice a n cap /\ n <= cap /\ cap <= maxLen /\ (clip = true -> cap = n) /\
  (0 < n -> ∃ b off,a = some ⟨b,off,none⟩ /\ ∀ i j,i < n -> j < s -> ∃ x,je m b (off + (i * s + j)) = some x /\ az m (f i j) x)
 | .vp k f,u=>∃ b off,u = .pointer (some ⟨b,off,none⟩) /\ ∀ j,j < k -> ∃ x,je m b (off + j) = some x /\ az m (f j) x
 | .fn g k caps,u=>∃ cs:List Value,u = .func (.func g) #[] cs.toArray /\ cs.length = k /\ ∀ i,i < k -> ∃ x,cs[i]? = some x /\ az m (caps i) x
 | .bnd g k f,u=>∃ cs:List Value,u = .func (.func g) #[.agg cs.toArray] #[] /\ cs.length = k /\ ∀ i,i < k -> ∃ x,cs[i]? = some x /\ az m (f i) x
def Imm.le (m m':Imm):Prop:=∀ b o,m b = some o -> m' b = some o
theorem Imm.le.refl (m:Imm):Imm.le m m:=fun _ _ h=>h
theorem Imm.le.trans {a b c:Imm} (h:Imm.le a b) (k:Imm.le b c):Imm.le a c:=fun x o hx=>k x o (h x o hx)
variable {m m':Imm}
def a19 (h:Imm.le m m') {b off:Nat} {x:Value} (hc:je m b off = some x):je m' b off = some x:=by
 unfold je at *
 cases hb:m b with
 | none=>rw [hb] at hc;cases hc
 | some o=>rw [hb] at hc;rw [h b o hb];exact hc
def az.mono (h:Imm.le m m'):∀ {x:PV} {u:Value},az m x u -> az m' x u:=by
 intro x
 induction x with
 | raw v=>intro u hu;exact hu
 | any=>intro u hu;exact hu
 | sl n s clip f ih =>
  rintro u ⟨a,cap,h1,h2,h3,h4,h5⟩;refine ⟨a,cap,h1,h2,h3,h4,fun hn=>?_⟩;obtain ⟨b,off,ha,hc⟩:=h5 hn
  exact ⟨b,off,ha,fun i j hi hj=>by
   obtain ⟨x,hx,hr⟩:=hc i j hi hj
   exact ⟨x,a19 h hx,ih i j hr⟩⟩
 | vp k f ih =>
  rintro u ⟨b,off,h1,hc⟩
  exact ⟨b,off,h1,fun j hj=>by
   obtain ⟨x,hx,hr⟩:=hc j hj
   exact ⟨x,a19 h hx,ih j hr⟩⟩
 | fn g k caps ih =>
  rintro u ⟨cs,h1,h2,hc⟩
  exact ⟨cs,h1,h2,fun i hi=>by
   obtain ⟨x,hx,hr⟩:=hc i hi
   exact ⟨x,hx,ih i hr⟩⟩
 | bnd g k f ih =>
  rintro u ⟨cs,h1,h2,hc⟩
  exact ⟨cs,h1,h2,fun i hi=>by
   obtain ⟨x,hx,hr⟩:=hc i hi
   exact ⟨x,hx,ih i hr⟩⟩
def az.oneCell {x:PV} {u:Value} (h:az m x u):u.oneCell' = true:=by
 cases x with
 | raw v=>obtain ⟨rfl,h⟩:=h;exact h
 | any=>exact h
 | sl n s clip f=>obtain ⟨a,cap,rfl,_⟩:=h;rfl
 | vp k f=>obtain ⟨b,off,rfl,_⟩:=h;rfl
 | fn g k caps=>obtain ⟨cs,rfl,_⟩:=h;rfl
 | bnd g k f=>obtain ⟨cs,rfl,_⟩:=h;rfl
def ec (m:Imm):List PV -> List Value -> Prop
 | [],[]=>True
 | x :: xs,u :: us=>az m x u /\ ec m xs us
 | _,_=>False
def ec.length:∀ {xs:List PV} {us:List Value},ec m xs us -> us.length = xs.length
 | [],[],_=>rfl
 | x :: xs,u :: us,h=>by simp [h.2.length]
 | [],_ :: _,h=>h.elim
 | _ :: _,[],h=>h.elim
def ec.mono (h:Imm.le m m'):∀ {xs:List PV} {us:List Value},ec m xs us -> ec m' xs us
 | [],[],_=>trivial
 | _ :: _,_ :: _,hr=>⟨hr.1.mono h,ec.mono h hr.2⟩
 | [],_ :: _,hr=>hr.elim
 | _ :: _,[],hr=>hr.elim
def ec.get:∀ {xs:List PV} {us:List Value},ec m xs us -> ∀ (i:Nat) (x:PV),xs[i]? = some x -> ∃ u,us[i]? = some u /\ az m x u
 | _ :: _,_ :: _,h,0,x,hx=>by simp at hx;subst hx;exact ⟨_,rfl,h.1⟩
 | _ :: _,_ :: _,h,i + 1,x,hx=>by
  obtain ⟨u,hu,hr⟩:=ec.get h.2 i x (by simpa using hx);exact ⟨u,by simpa using hu,hr⟩
 | [],_,_,i,x,hx=>by simp at hx
 | _ :: _,[],h,_,_,_=>h.elim
def ec.of_get:∀ {xs:List PV} {us:List Value},us.length = xs.length -> (∀ (i:Nat) (x:PV) (u:Value),xs[i]? = some x -> us[i]? = some u -> az m x u) -> ec m xs us
 | [],[],_,_=>trivial
 | x :: xs,u :: us,hl,h=>⟨h 0 x u rfl rfl,ec.of_get (by simpa using hl) fun i y v hy hv=>h (i + 1) y v (by simpa using hy) (by simpa using hv)⟩
 | [],_ :: _,hl,_=>by simp at hl
 | _ :: _,[],hl,_=>by simp at hl
inductive PC where
 | one (x:PV)
 | agg (l:List PV)
inductive PR where
 | v (c:PC)
 | tup (l:List PC)
def gv (m:Imm):PC -> Value -> Prop
 | .one x,u=>az m x u
 | .agg l,u=>∃ us:List Value,u = .agg us.toArray /\ ec m l us
def cn (m:Imm):List PC -> List Value -> Prop
 | [],[]=>True
 | x :: xs,u :: us=>gv m x u /\ cn m xs us
 | _,_=>False
def rh (m:Imm):PR -> Value -> Prop
 | .v c,u=>gv m c u
 | .tup l,u=>∃ us:List Value,u = .tuple us.toArray /\ cn m l us
def gv.mono (h:Imm.le m m') {x:PC} {u:Value} (hr:gv m x u):gv m' x u:=by
 cases x with
 | one x=>exact az.mono h hr
 | agg l=>obtain ⟨us,e,hl⟩:=hr;exact ⟨us,e,hl.mono h⟩
def cn.mono (h:Imm.le m m'):∀ {xs:List PC} {us:List Value},cn m xs us -> cn m' xs us
 | [],[],_=>trivial
 | _ :: _,_ :: _,hr=>⟨hr.1.mono h,cn.mono h hr.2⟩
 | [],_ :: _,hr=>hr.elim
 | _ :: _,[],hr=>hr.elim
def cn.length:∀ {xs:List PC} {us:List Value},cn m xs us -> us.length = xs.length
 | [],[],_=>rfl
 | x :: xs,u :: us,h=>by simp [h.2.length]
 | [],_ :: _,h=>h.elim
 | _ :: _,[],h=>h.elim
def cn.get:∀ {xs:List PC} {us:List Value},cn m xs us -> ∀ (i:Nat) (x:PC),xs[i]? = some x -> ∃ u,us[i]? = some u /\ gv m x u
 | _ :: _,_ :: _,h,0,x,hx=>by simp at hx;subst hx;exact ⟨_,rfl,h.1⟩
 | _ :: _,_ :: _,h,i + 1,x,hx=>by
  obtain ⟨u,hu,hr⟩:=cn.get h.2 i x (by simpa using hx);exact ⟨u,by simpa using hu,hr⟩
 | [],_,_,i,x,hx=>by simp at hx
 | _ :: _,[],h,_,_,_=>h.elim
def rh.mono (h:Imm.le m m') {x:PR} {u:Value} (hr:rh m x u):rh m' x u:=by
 cases x with
 | v x=>exact gv.mono h hr
 | tup l=>obtain ⟨us,e,hl⟩:=hr;exact ⟨us,e,hl.mono h⟩
def b7o {k:TypeId} {x:MapEntry} {l:Lit} (h:keyOf P k x.key = some l):Go.WideElems.rd P k (fun v=>some (DataW.held (H:=Value) v,[])) x = some (l, .held x.val):=by
 obtain ⟨k0,v0,b0⟩:=x;exact Go.WideElems.rd_mk (R:=fun v=>some (DataW.held (H:=Value) v,[])) (yv:=(DataW.held v0,[])) h rfl
def azw {k e t:TypeId} {b:Nat} {es:Array MapEntry} {clock:Nat} (cm:Bool) (K:Go.Maps.Keyed P k) (ht:P.underlying t = some (.map k e)) {z:Value} (hz:(zeroValue e).run P w = .ok z w) (hb:w.heap[b]? = some (.map es clock)) (hs:es.size <= maxLen) (hst:Go.MapKept.Stamped es clock) (hk:∀ x ∈ es.toList,∃ l,keyOf P k x.key = some l) {key:Value} {kl:Lit} (hkey:keyOf P k key = some kl):
 ((Instr.lookup t (.map (some b)) key cm).run P w = .ok (if cm then .tuple #[z, .bool false] else z) w /\ ∀ x ∈ es.toList,x.key ≠ key) \/
 ∃ e0,e0 ∈ es.toList /\ e0.key = key /\ (Instr.lookup t (.map (some b)) key cm).run P w = .ok (if cm then .tuple #[e0.val, .bool true] else e0.val) w:=by
 have F:Go.WideElems.Fit P k (fun v=>some (DataW.held (H:=Value) v,[])) es clock:=⟨hs,hst,fun x hx=>by
  obtain ⟨l,hl⟩:=hk x hx
  exact ⟨_,b7o hl⟩⟩
 rcases Go.Maps.fit_look cm K ht hz hb F hkey with ⟨h1,h2,_⟩ | ⟨e0,_,h1,h2,h3,_⟩
 · exact .inl ⟨h1,h2⟩
 exact .inr ⟨e0,h1,h2,h3⟩
def ax9 {k e t:TypeId} {b:Nat} {es:Array MapEntry} {clock:Nat} (K:Go.Maps.Keyed P k) (ht:P.underlying t = some (.map k e)) (hb:w.heap[b]? = some (.map es clock)) (hs:es.size < maxLen) (hst:Go.MapKept.Stamped es clock) (hk:∀ x ∈ es.toList,∃ l,keyOf P k x.key = some l) {key val:Value} {kl:Lit} (hkey:keyOf P k key = some kl):
 ∃ es' clock',(Instr.mapUpdate t (.map (some b)) key val).run P w = .ok () (Go.ChangeMaps.setBlock w b (.map es' clock')) /\ Go.MapKept.Stamped es' clock' /\ es'.size <= es.size + 1 /\
  (∀ x' ∈ es'.toList,(x' ∈ es.toList /\ x'.key ≠ key) \/ (x'.key = key /\ x'.val = val)) /\ (∃ x' ∈ es'.toList,x'.key = key) /\ ∀ x ∈ es.toList,∃ x' ∈ es'.toList,x'.key = x.key:=by
 rcases K.find w hkey es.toList hk with ⟨h1,h2⟩ | ⟨j,e0,h1,h2,h3⟩
 · refine ⟨es.push ⟨key,val,clock⟩,clock + 1, ?_,Go.MapKept.stamped_push hst h2,by simp, ?_,⟨⟨key,val,clock⟩,by simp,rfl⟩,fun x hx=>⟨x,by simp only [Array.toList_push,bjw];exact .inl hx,rfl⟩⟩
   · simp [Instr.mapUpdate,run_underlying ht,MapKept.run_getObj_map hb,K.check w false hkey,h1,MapKept.run_setObj_map _ hb,Result.andThen,Go.ChangeMaps.setBlock]
   intro x' hx';simp only [Array.toList_push,bjw,bjy] at hx'
   rcases hx' with hx' | rfl
   · exact .inl ⟨hx',h2 x' hx'⟩
   exact .inr ⟨rfl,rfl⟩
 have hj:es[j]? = some e0:=by simpa using h2
 have hjl:j < es.toList.length:=(bl9.1 h2).1;have hlist:(es.modify j (fun e'=>{ e' with key:=key,val:=val })).toList = es.toList.set j { e0 with key:=key,val:=val }:=by rw [Array.toList_modify,Go.ChangeMaps.modify_eq_set _ _ _ _ h2]
 have hpw:=((Go.MapKept.stamped_iff es clock).1 hst).2.2
 have hne:∀ i x,es.toList[i]? = some x -> i ≠ j -> x.key ≠ key:=fun i x hi hij he=>by
  have hi':=bl9.1 hi;have hj':=bl9.1 h2;obtain ⟨hi1,hi2⟩:=hi';obtain ⟨hj1,hj2⟩:=hj'
  rcases Nat.lt_or_gt_of_ne hij with hlt | hgt
  · have:=bla.1 hpw i j hi1 hj1 hlt
    rw [hi2,hj2,he,h3] at this;exact this rfl
  have:=bla.1 hpw j i hj1 hi1 hgt;rw [hi2,hj2,he,h3] at this;exact this rfl
 refine ⟨es.modify j (fun e'=>{ e' with key:=key,val:=val }),clock, ?_,Go.MapKept.stamped_modify hst _ _ (fun _ _=>rfl) (fun e' _ he'=>by rw [hj] at he';cases he';exact h3.symm),by simp, ?_, ?_, ?_⟩
 · simp [Instr.mapUpdate,run_underlying ht,MapKept.run_getObj_map hb,K.check w false hkey,h1,hj,h3,K.stays w hkey,MapKept.run_setObj_map _ hb,Result.andThen,Go.ChangeMaps.setBlock]
 · intro x hx
   rw [hlist] at hx;obtain ⟨i,hi,ex⟩:=bk4 hx;rw [List.getElem_set] at ex;split at ex
   · exact .inr ⟨by rw [<- ex],by rw [<- ex]⟩
   rename_i hij;have hi':i < es.toList.length:=by simpa using hi
   exact .inl ⟨ex ▸ bk7 hi',hne i x (by rw [bjc hi',ex]) (fun h=>hij h.symm)⟩
 · rw [hlist]
   exact ⟨{ e0 with key:=key,val:=val },bmv.2 ⟨j,by simpa using hjl,by simp⟩,rfl⟩
 intro x hx;rw [hlist];obtain ⟨i,hi,ex⟩:=bk4 hx;by_cases hij:i = j
 · refine ⟨{ e0 with key:=key,val:=val },bmv.2 ⟨j,by simpa using hjl,by simp⟩, ?_⟩
   subst hij;rw [bjc hi] at h2;simp only [bjb] at h2;rw [<- ex,h2];exact h3.symm
 exact ⟨x,bmv.2 ⟨i,by simpa using hi,by rw [List.getElem_set,if_neg (fun h=>hij h.symm)];exact ex⟩,rfl⟩
def up:Nat -> List Value:=fun b=>match b with | 0=>[.int .u8 0, .int .u8 1, .int .u8 28, .int .u8 2, .int .u8 29, .int .u8 14, .int .u8 24, .int .u8 3, .int .u8 30, .int .u8 22, .int .u8 20, .int .u8 15, .int .u8 25, .int .u8 17, .int .u8 4, .int .u8 8, .int .u8 31, .int .u8 27, .int .u8 13, .int .u8 23, .int .u8 21, .int .u8 19, .int .u8 16, .int .u8 7, .int .u8 26, .int .u8 12, .int .u8 18, .int .u8 6, .int .u8 11, .int .u8 5, .int .u8 10, .int .u8 9] | _=>[]
def b7s:Option (Nat × Nat):=some (94,5)
def y8 (b off:Nat):Option Value:=(up b)[off]?
def qz (m:Imm):Prop:=∀ b off v,y8 b off = some v -> je m b off = some v
def qz.mono (h:qz m) (hle:Imm.le m m'):qz m':=fun b off v hv=>a19 hle (h b off v hv)
end
end Go.Hx
end
