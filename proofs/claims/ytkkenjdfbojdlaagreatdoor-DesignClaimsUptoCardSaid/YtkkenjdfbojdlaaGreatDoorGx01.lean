/- A part of the proof: Hx1. -/
import Derived.Below
import Derived.KernelRfl
import Derived.Laws.CopyOwn
import Derived.Laws.MakeOwn
import Derived.Laws.OwnMore
import Derived.Laws.Tables
import Derived.Maps.Keyed
import Derived.Orders
set_option linter.all false
namespace Go.Hx
abbrev bki:=@Option.some.injEq
abbrev bkj:=@List.getElem?_eq_getElem
abbrev bkk:=@List.getD_eq_getElem?_getD
abbrev bkl:=@Nat.zero_le
abbrev bkm:=@Nat.le_of_ble_eq_true
abbrev bkn:=@Array.getElem?_eq_some_iff
abbrev bko:=@Nat.le_refl
abbrev bkp:=@Nat.not_lt_zero
abbrev bkq:=@List.length_append
abbrev bkr:=@Prod.mk.injEq
abbrev bks:=@List.take_length
abbrev bkt:=@Bool.and_eq_true
abbrev bku:=@List.length_take
abbrev bkv:=@Bool.eq_false_iff
abbrev bkw:=@Int.toNat_natCast
abbrev bkx:=@List.mem_cons
abbrev bky:=@Nat.le_trans
abbrev bkz:=@BitVec.getLsbD_and
abbrev bl0:=@List.mem_range
abbrev bl1:=@Nat.mul_le_mul_right
abbrev bl2:=@List.mem_append_left
abbrev bl3:=@List.mem_singleton
abbrev bl4:=@List.mem_append
abbrev bl5:=@Result.andThen_ok
abbrev bl6:=@List.getElem?_map
abbrev bl7:=@List.length_map
abbrev bl8:=@Option.map_some
abbrev bl9:=@List.mem_append_right
abbrev bla:=@List.getElem_of_mem
abbrev blb:=@Nat.eq_of_beq_eq_true
abbrev blc:=@Nat.zero_add
abbrev blf:=@List.length_cons
abbrev blg:=@Bool.not_eq_true'
abbrev blh:=@List.getElem_mem
abbrev bli:=@Option.getD_some
abbrev blj:=@Array.getElem?_eq_getElem
abbrev bll:=@List.any_eq_true
abbrev blm:=@List.mem_map
abbrev bln:=@BitVec.eq_of_toNat_eq
abbrev blo:=@List.all_eq_true
abbrev blp:=@List.getElem?_take
abbrev blq:=@List.append_nil
abbrev blr:=@Sem.run_bind
abbrev bls:=@List.pairwise_cons
abbrev blu:=@Nat.add_mul
abbrev blv:=@List.size_toArray
abbrev blw:=@List.append_assoc
abbrev blx:=@List.filter_cons
abbrev bly:=@List.mem_cons_self
abbrev blz:=@List.filter_append
abbrev bm0:=@List.foldl_append
abbrev bm1:=@List.mem_cons_of_mem
abbrev bm2:=@Bool.false_eq_true
abbrev bm3:=@Array.length_toList
abbrev bm4:=@List.map_cons
abbrev bm5:=@List.getElem?_range
abbrev bm6:=@BitVec.eq_of_getLsbD_eq
abbrev bm7:=@List.length_singleton
abbrev bm8:=@List.eq_nil_of_length_eq_zero
abbrev bm9:=@BitVec.getLsbD_or
abbrev bma:=@List.length_drop
abbrev bmb:=@List.getElem?_append_right
abbrev bmc:=@Sem.run_pure
abbrev bmd:=@List.getElem?_append_left
abbrev bme:=@Bool.eq_iff_iff
abbrev bmf:=@Bool.or_eq_true
abbrev bmg:=@List.range_succ
abbrev bmh:=@List.any_eq_false
abbrev bmi:=@List.filter_nil
abbrev bmj:=@Nat.eq_zero_or_pos
abbrev bmk:=@List.length_filter_le
abbrev bml:=@List.getElem?_eq_some_iff
abbrev bmm:=@List.pairwise_iff_getElem
abbrev bmn:=@Nat.min_eq_left
abbrev bmo:=@List.mem_filter
abbrev bmp:=@Nat.add_assoc
abbrev bmq:=@BitVec.getLsbD_not
abbrev bmr:=@List.foldl_cons
abbrev bms:=@List.length_nil
abbrev bmt:=@Bool.true_and
abbrev bmu:=@Nat.lt_of_lt_of_le
abbrev bmv:=@List.length_set
abbrev bmw:=@List.map_append
abbrev bmx:=@List.findSome?_eq_none_iff
abbrev bmy:=@List.getElem?_drop
abbrev bmz:=@Int.natCast_nonneg
abbrev bn0:=@Array.getElem?_eq_none
abbrev bn1:=@List.map_congr_left
abbrev bn2:=@List.length_range
abbrev bn3:=@List.getElem?_eq_none
abbrev bn4:=@Nat.add_zero
abbrev bn5:=@Nat.lt_or_eq_of_le
abbrev bn6:=@Array.toArray_toList
abbrev bn7:=@Nat.pow_le_pow_right
abbrev bn8:=@List.countP_cons
abbrev bn9:=@List.ext_getElem?
abbrev bna:=@Array.getElem?_modify
abbrev bnb:=@Array.getElem?_toList
abbrev bnc:=@Array.toList_map
abbrev bne:=@List.mem_of_mem_take
abbrev bnf:=@Array.size_append
abbrev bng:=@Nat.le_of_lt_succ
abbrev bnh:=@BitVec.getLsbD_ushiftRight
abbrev bni:=@Nat.mod_eq_of_lt
abbrev bnj:=@List.cons_append
abbrev bnk:=@BitVec.toNat_and
abbrev bnl:=@Nat.and_le_right
abbrev bnm:=@List.exists_of_findSome?_eq_some
abbrev bnn:=@List.prefix_refl
abbrev bno:=@List.drop_eq_getElem_cons
abbrev bnp:=@Nat.le_succ
abbrev bnq:=@Bool.or_eq_false_iff
abbrev bnr:=@List.pairwise_append
abbrev bns:=@List.flatMap_cons
abbrev bnt:=@Bool.not_true
abbrev bnu:=@Int.toNat_of_nonneg
abbrev bnv:=@Nat.le_of_eq
abbrev bnw:=@Nat.lt_or_ge
abbrev bnx:=@List.find?_eq_none
abbrev bny:=@Nat.lt_of_le_of_lt
abbrev bnz:=@List.take_append_drop
abbrev bo0:=@Array.getElem?_append_left
abbrev bo1:=@Nat.lt_irrefl
abbrev bo2:=@World.ownsRow_nil
abbrev bo3:=@List.mem_iff_getElem
abbrev bo4:=@Nat.shiftRight_eq_div_pow
abbrev bo5:=@List.findIdx?_eq_some_iff_getElem
abbrev bo6:=@Bool.not_eq_true
abbrev bo7:=@List.map_nil
abbrev bo8:=@Nat.sub_zero
abbrev bo9:=@Nat.le_of_not_lt
abbrev boa:=@BitVec.toNat_ushiftRight
abbrev bob:=@List.flatMap_append
abbrev boc:=@Array.getElem?_setIfInBounds_ne
abbrev bod:=@List.nil_append
abbrev boe:=@Bool.false_ne_true
abbrev bof:=@Nat.two_pow_pos
abbrev bog:=@BitVec.toNat_ofNat
abbrev boh:=@List.countP_append
abbrev boi:=@BitVec.getLsbD_xor
abbrev boj:=@List.drop_eq_nil_of_le
abbrev bok:=@Array.getElem?_push_lt
abbrev bol:=@Nat.mul_one
abbrev bom:=@List.filter_eq_nil_iff
abbrev bon:=@List.getElem?_set
abbrev boo:=@Bool.not_false
abbrev bop:=@List.length_mergeSort
abbrev boq:=@Bool.and_false
abbrev bor:=@List.findSome?_append
end Go.Hx
section
namespace Go.Hx
open Go.RowKit
structure Below (B:Nat) (w w':World):Prop where
 os:w'.os = w.os
 tape:w'.tape = w.tape
 output:w'.output = w.output
 size:w.heap.size <= w'.heap.size
 block:∀ k,k < B -> w'.heap[k]? = w.heap[k]?
 drawn:w.drawn <= w'.drawn
structure Grw (w w':World) (row:Option Nat):Prop where
 base:w.grownBy w' row
 drawn:w.drawn <= w'.drawn
theorem Grw.refl (w:World) (r:Option Nat):Grw w w r:=⟨World.grownBy.refl w r,bko _⟩
theorem Grw.alloc (w:World) (o:Obj) (r:Option Nat):Grw w (w.alloc o) r:=⟨World.grownBy_alloc w o r,bko _⟩
theorem Below.refl (B:Nat) (w:World):Below B w w:=⟨rfl,rfl,rfl,bko _,fun _ _=>rfl,bko _⟩
section
variable {B:Nat} {a:World}
theorem Below.trans {b c:World} (h:Below B a b) (k:Below B b c):Below B a c :=
 ⟨k.os.trans h.os,k.tape.trans h.tape,k.output.trans h.output,bky h.size k.size,fun i hi=>(k.block i hi).trans (h.block i hi),bky h.drawn k.drawn⟩
variable {w:World}
theorem Below.mono {B':Nat} {w':World} (h:Below B w w') (hB:B' <= B):Below B' w w':=⟨h.os,h.tape,h.output,h.size,fun k hk=>h.block k (bmu hk hB),h.drawn⟩
theorem Below.drew (h:Below B a w):Below B a w.drew:=⟨h.os,h.tape,h.output,h.size,h.block,bky h.drawn (bnp _)⟩
theorem Below.alloc (h:Below B a w) (hB:B <= w.heap.size) (o:Obj):Below B a (w.alloc o) :=
 have q:=Go.RowKit.Below.alloc (B:=B) (a:=a) (w:=w) ⟨h.os,h.tape,h.output,h.size,h.block⟩ hB o
 ⟨q.os,q.tape,q.output,q.size,q.block,h.drawn⟩
theorem Below.heap_alloc (w:World) (o:Obj) (k:Nat) (h:k < w.heap.size):(w.alloc o).heap[k]? = w.heap[k]?:=Go.RowKit.Below.heap_alloc w o k h
theorem bos {p:Prop} (h:p:=by omega):p:=h
theorem Below.grown {w':World} {row:Option Nat} (h:Below B a w) (hg:Grw w w' row) (hB:B <= w.heap.size) (hr:∀ k,row = some k -> B <= k):Below B a w' :=
 h.trans ⟨hg.base.os,hg.base.tape,hg.base.output,hg.base.size,fun k hk=>hg.base.block k bos (fun e=>by have:=hr k e.symm;omega),hg.drawn⟩
theorem a6b {α:Type}:∀ (x:Ask α) (w:World),w.drawn <= (w.ask x).2.drawn
 | .done a,w=>bko _
 | .ask what range k,w=>by
  simp only [World.ask];split
  · exact a6b _ _
  have h:=a6b (k ((Question.extern what range).cut (w.tape w.drawn (Question.extern what range)))) { w with drawn:=w.drawn + 1 };exact bky (bnp w.drawn) h
theorem av8 (w:World) (c:Sys):w.drawn <= (w.sys c).2.drawn:=by
 have h:=a6b (Kernel.perform c w.os) w;unfold World.sys;split
 · exact bko _
 rename_i r os w2 _ heq;rw [heq] at h;exact h
theorem ac4 {p:Program} {at_:Addr} {u:TypeId} {k:Addr} {v:Value} {atomic:Bool} {r:World × List Addr} (h:w.viewStore p at_ u k v atomic = .ok r):r.1.drawn = w.drawn:=by
 unfold World.viewStore at h;simp only [bind,Except.bind,pure,Except.pure] at h
 repeat' split at h
 all_goals first | (cases h;done) | (simp only [Except.ok.injEq] at h;subst h;rfl)
theorem ae7 {p:Program} {a:Addr} {v:Value} {atomic:Bool} {r:World × List Addr} (h:w.farStore p a v atomic = .ok r):r.1.drawn = w.drawn:=by
 unfold World.farStore at h;split at h
 · split at h
   · rename_i r2 hr
     simp only [Except.ok.injEq] at h;subst h;exact ac4 hr
   cases h
 cases h
theorem a5z (w:World) (a:Addr) (n:Nat):(w.freeze a n).drawn = w.drawn:=by
 unfold World.freeze;split <;> rfl
variable {P:Program}
theorem wj {α:Type}:∀ (x:Sem α) {w w':World} {v:α},x.run P w = .ok v w' -> w.drawn <= w'.drawn:=by
 intro x
 induction x with
 | pure a=>intro w w' v h;simp only [Sem.run,Result.ok.injEq] at h;obtain ⟨_,rfl⟩:=h;exact bko _
 | load m a k ih =>
  intro w w' v h;simp only [Sem.run] at h;split at h
  · exact ih _ h
  split at h
  · exact ih _ h
  cases h
 | store m a x k ih =>
  intro w w' v h
  cases x <;> simp only [Sem.run] at h <;> first
   | (cases h;done)
   | (split at h
      · split at h
        · cases h
        have q:=ih h;exact q
      split at h
      · rename_i hf
        exact bky (bnv (ae7 hf).symm) (ih h)
      cases h)
 | new o k ih=>intro w w' v h;simp only [Sem.run] at h;have q:=ih _ h;exact q
 | shape r k ih=>intro w w' v h;simp only [Sem.run] at h;exact ih _ h
 | freeze a n k ih=>intro w w' v h;simp only [Sem.run] at h;exact bky (bnv (a5z w a n).symm) (ih h)
 | frozen a k ih=>intro w w' v h;simp only [Sem.run] at h;exact ih _ h
 | getObj r k ih =>
  intro w w' v h;simp only [Sem.run] at h;split at h
  · cases h
  · exact ih _ h
  cases h
 | setObj r o k ih =>
  intro w w' v h;simp only [Sem.run] at h;split at h
  · cases h
  · have q:=ih h
    exact q
  cases h
 | choose q k ih =>
  intro w w' v h;simp only [Sem.run] at h;split at h
  · exact ih _ h
  have q:=ih _ h;exact bky (bnp w.drawn) q
 | sys c k ih=>intro w w' v h;simp only [Sem.run] at h;exact bky (av8 w c) (ih _ h)
 | program k ih=>intro w w' v h;simp only [Sem.run] at h;exact ih _ h
 | mark m k ih=>intro w w' v h;simp only [Sem.run] at h;exact ih h
 | halt hh=>intro w w' v h;simp only [Sem.run] at h;cases h
inductive PV where
 | raw (v:Value)
 | any
 | sl (n s:Nat) (clip:Bool) (f:Nat -> Nat -> PV)
 | vp (m:Nat) (f:Nat -> PV)
 | fn (g:FuncId) (k:Nat) (caps:Nat -> PV)
 | bnd (g:FuncId) (m:Nat) (f:Nat -> PV)
abbrev Imm:=Nat -> Option Obj
def jm (m:Imm) (b off:Nat):Option Value :=
 match m b with
 | some (.cells cs _ _)=>cs[off]?
 | _=>none
def b5 (m:Imm):PV -> Value -> Prop
 | .raw v,u=>u = v /\ v.oneCell' = true
 | .any,u=>u.oneCell' = true
 | .sl n s clip f,u=>∃ a cap,u = .slice a n cap /\ n <= cap /\ cap <= maxLen /\ (clip = true -> cap = n) /\
  (0 < n -> ∃ b off,a = some ⟨b,off,none⟩ /\ ∀ i j,i < n -> j < s -> ∃ x,jm m b (off + (i * s + j)) = some x /\ b5 m (f i j) x)
 | .vp k f,u=>∃ b off,u = .pointer (some ⟨b,off,none⟩) /\ ∀ j,j < k -> ∃ x,jm m b (off + j) = some x /\ b5 m (f j) x
 | .fn g k caps,u=>∃ cs:List Value,u = .func (.func g) #[] cs.toArray /\ cs.length = k /\ ∀ i,i < k -> ∃ x,cs[i]? = some x /\ b5 m (caps i) x
 | .bnd g k f,u=>∃ cs:List Value,u = .func (.func g) #[.agg cs.toArray] #[] /\ cs.length = k /\ ∀ i,i < k -> ∃ x,cs[i]? = some x /\ b5 m (f i) x
def Imm.le (m m':Imm):Prop:=∀ b o,m b = some o -> m' b = some o
theorem Imm.le.refl (m:Imm):Imm.le m m:=fun _ _ h=>h
theorem Imm.le.trans {a b c:Imm} (h:Imm.le a b) (k:Imm.le b c):Imm.le a c:=fun x o hx=>k x o (h x o hx)
variable {m m':Imm}
theorem a0v (h:Imm.le m m') {b off:Nat} {x:Value} (hc:jm m b off = some x):jm m' b off = some x:=by
 unfold jm at *
 cases hb:m b with
 | none=>rw [hb] at hc;cases hc
 | some o=>rw [hb] at hc;rw [h b o hb];exact hc
theorem b5.mono (h:Imm.le m m'):∀ {x:PV} {u:Value},b5 m x u -> b5 m' x u:=by
 intro x
 induction x with
 | raw v=>intro u hu;exact hu
 | any=>intro u hu;exact hu
 | sl n s clip f ih =>
  rintro u ⟨a,cap,h1,h2,h3,h4,h5⟩;refine ⟨a,cap,h1,h2,h3,h4,fun hn=>?_⟩;obtain ⟨b,off,ha,hc⟩:=h5 hn
  exact ⟨b,off,ha,fun i j hi hj=>by
   obtain ⟨x,hx,hr⟩:=hc i j hi hj
   exact ⟨x,a0v h hx,ih i j hr⟩⟩
 | vp k f ih =>
  rintro u ⟨b,off,h1,hc⟩
  exact ⟨b,off,h1,fun j hj=>by
   obtain ⟨x,hx,hr⟩:=hc j hj
   exact ⟨x,a0v h hx,ih j hr⟩⟩
 | fn g k caps ih =>
  rintro u ⟨cs,h1,h2,hc⟩
  exact ⟨cs,h1,h2,fun i hi=>by
   obtain ⟨x,hx,hr⟩:=hc i hi
   exact ⟨x,hx,ih i hr⟩⟩
 | bnd g k f ih =>
  rintro u ⟨cs,h1,h2,hc⟩
  exact ⟨cs,h1,h2,fun i hi=>by
   obtain ⟨x,hx,hr⟩:=hc i hi
   exact ⟨x,hx,ih i hr⟩⟩
theorem b5.oneCell {x:PV} {u:Value} (h:b5 m x u):u.oneCell' = true:=by
 cases x with
 | raw v=>obtain ⟨rfl,h⟩:=h;exact h
 | any=>exact h
 | sl n s clip f=>obtain ⟨a,cap,rfl,_⟩:=h;rfl
 | vp k f=>obtain ⟨b,off,rfl,_⟩:=h;rfl
 | fn g k caps=>obtain ⟨cs,rfl,_⟩:=h;rfl
 | bnd g k f=>obtain ⟨cs,rfl,_⟩:=h;rfl
def eq (m:Imm):List PV -> List Value -> Prop
 | [],[]=>True
 | x :: xs,u :: us=>b5 m x u /\ eq m xs us
 | _,_=>False
theorem eq.length:∀ {xs:List PV} {us:List Value},eq m xs us -> us.length = xs.length
 | [],[],_=>rfl
 | x :: xs,u :: us,h=>by simp [h.2.length]
 | [],_ :: _,h=>h.elim
 | _ :: _,[],h=>h.elim
theorem eq.mono (h:Imm.le m m'):∀ {xs:List PV} {us:List Value},eq m xs us -> eq m' xs us
 | [],[],_=>trivial
 | _ :: _,_ :: _,hr=>⟨hr.1.mono h,eq.mono h hr.2⟩
 | [],_ :: _,hr=>hr.elim
 | _ :: _,[],hr=>hr.elim
theorem eq.get:∀ {xs:List PV} {us:List Value},eq m xs us -> ∀ (i:Nat) (x:PV),xs[i]? = some x -> ∃ u,us[i]? = some u /\ b5 m x u
 | _ :: _,_ :: _,h,0,x,hx=>by simp at hx;subst hx;exact ⟨_,rfl,h.1⟩
 | _ :: _,_ :: _,h,i + 1,x,hx=>by
  obtain ⟨u,hu,hr⟩:=eq.get h.2 i x (by simpa using hx);exact ⟨u,by simpa using hu,hr⟩
 | [],_,_,i,x,hx=>by simp at hx
 | _ :: _,[],h,_,_,_=>h.elim
theorem eq.of_get:∀ {xs:List PV} {us:List Value},us.length = xs.length -> (∀ (i:Nat) (x:PV) (u:Value),xs[i]? = some x -> us[i]? = some u -> b5 m x u) -> eq m xs us
 | [],[],_,_=>trivial
 | x :: xs,u :: us,hl,h=>⟨h 0 x u rfl rfl,eq.of_get (by simpa using hl) fun i y v hy hv=>h (i + 1) y v (by simpa using hy) (by simpa using hv)⟩
 | [],_ :: _,hl,_=>by simp at hl
 | _ :: _,[],hl,_=>by simp at hl
inductive PC where
 | one (x:PV)
 | agg (l:List PV)
inductive PR where
 | v (c:PC)
 | tup (l:List PC)
def gz (m:Imm):PC -> Value -> Prop
 | .one x,u=>b5 m x u
 | .agg l,u=>∃ us:List Value,u = .agg us.toArray /\ eq m l us
def cr (m:Imm):List PC -> List Value -> Prop
 | [],[]=>True
 | x :: xs,u :: us=>gz m x u /\ cr m xs us
 | _,_=>False
def rg (m:Imm):PR -> Value -> Prop
 | .v c,u=>gz m c u
 | .tup l,u=>∃ us:List Value,u = .tuple us.toArray /\ cr m l us
theorem gz.mono (h:Imm.le m m') {x:PC} {u:Value} (hr:gz m x u):gz m' x u:=by
 cases x with
 | one x=>exact b5.mono h hr
 | agg l=>obtain ⟨us,e,hl⟩:=hr;exact ⟨us,e,hl.mono h⟩
theorem cr.mono (h:Imm.le m m'):∀ {xs:List PC} {us:List Value},cr m xs us -> cr m' xs us
 | [],[],_=>trivial
 | _ :: _,_ :: _,hr=>⟨hr.1.mono h,cr.mono h hr.2⟩
 | [],_ :: _,hr=>hr.elim
 | _ :: _,[],hr=>hr.elim
theorem cr.length:∀ {xs:List PC} {us:List Value},cr m xs us -> us.length = xs.length
 | [],[],_=>rfl
 | x :: xs,u :: us,h=>by simp [h.2.length]
 | [],_ :: _,h=>h.elim
 | _ :: _,[],h=>h.elim
theorem cr.get:∀ {xs:List PC} {us:List Value},cr m xs us -> ∀ (i:Nat) (x:PC),xs[i]? = some x -> ∃ u,us[i]? = some u /\ gz m x u
 | _ :: _,_ :: _,h,0,x,hx=>by simp at hx;subst hx;exact ⟨_,rfl,h.1⟩
 | _ :: _,_ :: _,h,i + 1,x,hx=>by
  obtain ⟨u,hu,hr⟩:=cr.get h.2 i x (by simpa using hx);exact ⟨u,by simpa using hu,hr⟩
 | [],_,_,i,x,hx=>by simp at hx
 | _ :: _,[],h,_,_,_=>h.elim
theorem rg.mono (h:Imm.le m m') {x:PR} {u:Value} (hr:rg m x u):rg m' x u:=by
 cases x with
 | v x=>exact gz.mono h hr
 | tup l=>obtain ⟨us,e,hl⟩:=hr;exact ⟨us,e,hl.mono h⟩
theorem b8x {k:TypeId} {x:MapEntry} {l:Lit} (h:keyOf P k x.key = some l):Go.WideElems.rd P k (fun v=>some (DataW.held (H:=Value) v,[])) x = some (l, .held x.val):=by
 obtain ⟨k0,v0,b0⟩:=x;exact Go.WideElems.rd_mk (R:=fun v=>some (DataW.held (H:=Value) v,[])) (yv:=(DataW.held v0,[])) h rfl
theorem ayl {k e t:TypeId} {b:Nat} {es:Array MapEntry} {clock:Nat} (cm:Bool) (K:Go.Maps.Keyed P k) (ht:P.underlying t = some (.map k e)) {z:Value} (hz:(zeroValue e).run P w = .ok z w) (hb:w.heap[b]? = some (.map es clock)) (hs:es.size <= maxLen) (hst:Go.MapKept.Stamped es clock) (hk:∀ x ∈ es.toList,∃ l,keyOf P k x.key = some l) {key:Value} {kl:Lit} (hkey:keyOf P k key = some kl):
 ((Instr.lookup t (.map (some b)) key cm).run P w = .ok (if cm then .tuple #[z, .bool false] else z) w /\ ∀ x ∈ es.toList,x.key ≠ key) \/
 ∃ e0,e0 ∈ es.toList /\ e0.key = key /\ (Instr.lookup t (.map (some b)) key cm).run P w = .ok (if cm then .tuple #[e0.val, .bool true] else e0.val) w:=by
 have F:Go.WideElems.Fit P k (fun v=>some (DataW.held (H:=Value) v,[])) es clock:=⟨hs,hst,fun x hx=>by
  obtain ⟨l,hl⟩:=hk x hx
  exact ⟨_,b8x hl⟩⟩
 rcases Go.Maps.fit_look cm K ht hz hb F hkey with ⟨h1,h2,_⟩ | ⟨e0,_,h1,h2,h3,_⟩
 · exact .inl ⟨h1,h2⟩
 exact .inr ⟨e0,h1,h2,h3⟩
theorem at9 {k e t:TypeId} {b:Nat} {es:Array MapEntry} {clock:Nat} (K:Go.Maps.Keyed P k) (ht:P.underlying t = some (.map k e)) (hb:w.heap[b]? = some (.map es clock)) (hs:es.size < maxLen) (hst:Go.MapKept.Stamped es clock) (hk:∀ x ∈ es.toList,∃ l,keyOf P k x.key = some l) {key val:Value} {kl:Lit} (hkey:keyOf P k key = some kl):
 ∃ es' clock',(Instr.mapUpdate t (.map (some b)) key val).run P w = .ok () (Go.ChangeMaps.setBlock w b (.map es' clock')) /\ Go.MapKept.Stamped es' clock' /\ es'.size <= es.size + 1 /\
  (∀ x' ∈ es'.toList,(x' ∈ es.toList /\ x'.key ≠ key) \/ (x'.key = key /\ x'.val = val)) /\ (∃ x' ∈ es'.toList,x'.key = key) /\ ∀ x ∈ es.toList,∃ x' ∈ es'.toList,x'.key = x.key:=by
 rcases K.find w hkey es.toList hk with ⟨h1,h2⟩ | ⟨j,e0,h1,h2,h3⟩
 · refine ⟨es.push ⟨key,val,clock⟩,clock + 1, ?_,Go.MapKept.stamped_push hst h2,by simp, ?_,⟨⟨key,val,clock⟩,by simp,rfl⟩,fun x hx=>⟨x,by simp only [Array.toList_push,bl4];exact .inl hx,rfl⟩⟩
   · simp [Instr.mapUpdate,run_underlying ht,MapKept.run_getObj_map hb,K.check w false hkey,h1,MapKept.run_setObj_map _ hb,Result.andThen,Go.ChangeMaps.setBlock]
   intro x' hx';simp only [Array.toList_push,bl4,bl3] at hx'
   rcases hx' with hx' | rfl
   · exact .inl ⟨hx',h2 x' hx'⟩
   exact .inr ⟨rfl,rfl⟩
 have hj:es[j]? = some e0:=by simpa using h2
 have hjl:j < es.toList.length:=(bml.1 h2).1;have hlist:(es.modify j (fun e'=>{ e' with key:=key,val:=val })).toList = es.toList.set j { e0 with key:=key,val:=val }:=by rw [Array.toList_modify,Go.ChangeMaps.modify_eq_set _ _ _ _ h2]
 have hpw:=((Go.MapKept.stamped_iff es clock).1 hst).2.2
 have hne:∀ i x,es.toList[i]? = some x -> i ≠ j -> x.key ≠ key:=fun i x hi hij he=>by
  have hi':=bml.1 hi;have hj':=bml.1 h2;obtain ⟨hi1,hi2⟩:=hi';obtain ⟨hj1,hj2⟩:=hj'
  rcases Nat.lt_or_gt_of_ne hij with hlt | hgt
  · have:=bmm.1 hpw i j hi1 hj1 hlt
    rw [hi2,hj2,he,h3] at this;exact this rfl
  have:=bmm.1 hpw j i hj1 hi1 hgt;rw [hi2,hj2,he,h3] at this;exact this rfl
 refine ⟨es.modify j (fun e'=>{ e' with key:=key,val:=val }),clock, ?_,Go.MapKept.stamped_modify hst _ _ (fun _ _=>rfl) (fun e' _ he'=>by rw [hj] at he';cases he';exact h3.symm),by simp, ?_, ?_, ?_⟩
 · simp [Instr.mapUpdate,run_underlying ht,MapKept.run_getObj_map hb,K.check w false hkey,h1,hj,h3,K.stays w hkey,MapKept.run_setObj_map _ hb,Result.andThen,Go.ChangeMaps.setBlock]
 · intro x hx
   rw [hlist] at hx;obtain ⟨i,hi,ex⟩:=bla hx;rw [List.getElem_set] at ex;split at ex
   · exact .inr ⟨by rw [<- ex],by rw [<- ex]⟩
   rename_i hij;have hi':i < es.toList.length:=by simpa using hi
   exact .inl ⟨ex ▸ blh hi',hne i x (by rw [bkj hi',ex]) (fun h=>hij h.symm)⟩
 · rw [hlist]
   exact ⟨{ e0 with key:=key,val:=val },bo3.2 ⟨j,by simpa using hjl,by simp⟩,rfl⟩
 intro x hx;rw [hlist];obtain ⟨i,hi,ex⟩:=bla hx;by_cases hij:i = j
 · refine ⟨{ e0 with key:=key,val:=val },bo3.2 ⟨j,by simpa using hjl,by simp⟩, ?_⟩
   subst hij;rw [bkj hi] at h2;simp only [bki] at h2;rw [<- ex,h2];exact h3.symm
 exact ⟨x,bo3.2 ⟨i,by simpa using hi,by rw [List.getElem_set,if_neg (fun h=>hij h.symm)];exact ex⟩,rfl⟩
def vd:Nat -> List Value:=fun b=>match b with | 0=>[.int .u8 0, .int .u8 1, .int .u8 28, .int .u8 2, .int .u8 29, .int .u8 14, .int .u8 24, .int .u8 3, .int .u8 30, .int .u8 22, .int .u8 20, .int .u8 15, .int .u8 25, .int .u8 17, .int .u8 4, .int .u8 8, .int .u8 31, .int .u8 27, .int .u8 13, .int .u8 23, .int .u8 21, .int .u8 19, .int .u8 16, .int .u8 7, .int .u8 26, .int .u8 12, .int .u8 18, .int .u8 6, .int .u8 11, .int .u8 5, .int .u8 10, .int .u8 9] | _=>[]
def b45:Option (Nat × Nat):=some (94,5)
def xw (b off:Nat):Option Value:=(vd b)[off]?
def rh (m:Imm):Prop:=∀ b off v,xw b off = some v -> jm m b off = some v
theorem rh.mono (h:rh m) (hle:Imm.le m m'):rh m':=fun b off v hv=>a0v hle (h b off v hv)
end
end Go.Hx
end
