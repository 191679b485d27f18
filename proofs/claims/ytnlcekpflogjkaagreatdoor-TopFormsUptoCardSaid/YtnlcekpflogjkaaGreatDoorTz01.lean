/- A part of the proof: Hx1. -/
import Derived.Below
import Derived.KernelRfl
import Derived.Laws.CopyOwn
import Derived.Laws.MakeOwn
import Derived.Laws.OwnMore
import Derived.Laws.Tables
import Derived.Maps.Keyed
import Derived.Orders
set_option linter.all false
namespace Go.Hx
abbrev bsy:=@Option.some.injEq
abbrev bt0:=@List.getElem?_eq_getElem
abbrev bt1:=@List.getD_eq_getElem?_getD
abbrev bt2:=@Nat.le_refl
abbrev bt3:=@Bool.and_eq_true
abbrev bt4:=@Nat.le_of_ble_eq_true
abbrev bt5:=@Array.getElem?_eq_some_iff
abbrev bt6:=@Nat.zero_le
abbrev bt7:=@Prod.mk.injEq
abbrev bt8:=@List.length_append
abbrev bt9:=@Nat.not_lt_zero
abbrev bta:=@BitVec.getLsbD_and
abbrev btb:=@List.take_length
abbrev btc:=@Int.toNat_natCast
abbrev btd:=@List.mem_cons
abbrev bte:=@Nat.mul_le_mul_right
abbrev btf:=@Bool.eq_false_iff
abbrev btg:=@List.mem_range
abbrev bth:=@Nat.le_trans
abbrev bti:=@List.getElem_mem
abbrev btj:=@Result.andThen_ok
abbrev btk:=@List.mem_append_left
abbrev btl:=@List.all_eq_true
abbrev btm:=@List.getElem?_map
abbrev btn:=@List.mem_append
abbrev bto:=@List.mem_map
abbrev btp:=@List.length_take
abbrev btq:=@List.append_nil
abbrev btr:=@List.foldl_append
abbrev bts:=@Option.map_some
abbrev btt:=@List.getElem_of_mem
abbrev btu:=@List.mem_singleton
abbrev btv:=@Bool.not_eq_true'
abbrev btw:=@List.length_map
abbrev btx:=@Nat.eq_of_beq_eq_true
abbrev bty:=@List.mem_append_right
abbrev btz:=@List.pairwise_cons
abbrev bu0:=@Bool.true_and
abbrev bu1:=@Nat.zero_add
abbrev bu2:=@BitVec.eq_of_toNat_eq
abbrev bu3:=@List.range_succ
abbrev bu4:=@List.append_assoc
abbrev bu5:=@Sem.run_bind
abbrev bu6:=@List.filter_append
abbrev bu7:=@BitVec.eq_of_getLsbD_eq
abbrev bu8:=@Array.length_toList
abbrev bu9:=@BitVec.getLsbD_not
abbrev bua:=@Nat.min_eq_left
abbrev bub:=@List.mem_cons_of_mem
abbrev buc:=@List.mem_cons_self
abbrev bud:=@List.length_cons
abbrev bue:=@List.any_eq_true
abbrev buf:=@List.filter_cons
abbrev bug:=@List.getElem?_take
abbrev buh:=@Nat.add_mul
abbrev bui:=@List.eq_nil_of_length_eq_zero
abbrev buj:=@List.size_toArray
abbrev buk:=@Bool.or_eq_true
abbrev bul:=@Array.getElem?_eq_getElem
abbrev bum:=@Nat.pow_le_pow_right
abbrev buo:=@List.length_filter_le
abbrev bup:=@Bool.false_eq_true
abbrev buq:=@Option.getD_some
abbrev bur:=@List.map_cons
abbrev bus:=@List.getElem?_range
abbrev but:=@Sem.run_pure
abbrev buu:=@List.any_eq_false
abbrev buv:=@List.length_set
abbrev buw:=@List.mem_filter
abbrev bux:=@List.map_append
abbrev buy:=@BitVec.getLsbD_or
abbrev buz:=@Nat.eq_zero_or_pos
abbrev bv0:=@List.length_singleton
abbrev bv1:=@List.getElem?_eq_some_iff
abbrev bv2:=@List.pairwise_iff_getElem
abbrev bv3:=@List.filter_nil
abbrev bv4:=@Nat.add_zero
abbrev bv5:=@Bool.eq_iff_iff
abbrev bv6:=@Nat.add_assoc
abbrev bv7:=@Int.natCast_nonneg
abbrev bv8:=@List.flatten_append
abbrev bv9:=@Array.getElem?_toList
abbrev bva:=@List.find?_eq_none
abbrev bvb:=@List.getElem_range
abbrev bvc:=@List.ext_getElem
abbrev bvd:=@List.map_congr_left
abbrev bve:=@List.set_eq_of_length_le
abbrev bvf:=@List.findIdx?_eq_some_iff_getElem
abbrev bvg:=@Array.toArray_toList
abbrev bvh:=@Nat.mod_eq_of_lt
abbrev bvi:=@List.length_drop
abbrev bvj:=@List.cons_append
abbrev bvk:=@Nat.blt_eq
abbrev bvl:=@List.getElem_map
abbrev bvm:=@List.getElem?_append_right
abbrev bvn:=@Array.getElem?_eq_none
abbrev bvo:=@List.ext_getElem?
abbrev bvp:=@List.getElem?_append_left
abbrev bvq:=@Nat.shiftRight_eq_div_pow
abbrev bvr:=@List.mem_or_eq_of_mem_set
abbrev bvs:=@Array.getElem?_modify
abbrev bvt:=@Nat.lt_of_lt_of_le
abbrev bvu:=@List.getElem_set
abbrev bvv:=@Array.toList_map
abbrev bvw:=@BitVec.toNat_ushiftRight
abbrev bvx:=@Nat.lt_or_eq_of_le
abbrev bvy:=@Nat.lt_irrefl
abbrev bvz:=@List.length_range
abbrev bw0:=@List.flatMap_cons
abbrev bw1:=@List.foldl_cons
abbrev bw2:=@Nat.mul_one
abbrev bw3:=@List.filter_eq_nil_iff
abbrev bw4:=@List.countP_cons
abbrev bw5:=@List.exists_of_findSome?_eq_some
abbrev bw6:=@List.getElem?_drop
abbrev bw7:=@List.getElem?_eq_none
abbrev bw8:=@Bool.not_false
abbrev bw9:=@BitVec.toNat_ofNat
abbrev bwa:=@List.drop_eq_getElem_cons
abbrev bwb:=@List.mem_of_find?_eq_some
abbrev bwc:=@Array.size_append
abbrev bwd:=@Nat.le_of_lt_succ
abbrev bwe:=@BitVec.toNat_and
abbrev bwf:=@List.drop_eq_nil_of_le
abbrev bwg:=@List.take_of_length_le
abbrev bwh:=@List.length_nil
abbrev bwi:=@Bool.and_eq_false_iff
abbrev bwj:=@Int.fdiv_eq_ediv_of_nonneg
abbrev bwk:=@BitVec.getLsbD_ushiftRight
abbrev bwl:=@List.all_eq_false
abbrev bwm:=@List.mem_iff_getElem
abbrev bwn:=@List.findIdx?_eq_none_iff
abbrev bwo:=@Nat.le_succ
abbrev bwp:=@List.take_zero
abbrev bwq:=@Nat.le_of_eq
abbrev bwr:=@Nat.lt_or_ge
abbrev bws:=@Nat.le_of_not_lt
abbrev bwt:=@Nat.sub_self
abbrev bwu:=@List.mem_flatten
abbrev bwv:=@List.flatMap_append
abbrev bww:=@List.pairwise_mergeSort
abbrev bwx:=@Bool.not_true
abbrev bwy:=@List.nil_append
abbrev bwz:=@List.countP_append
abbrev bx0:=@Nat.le_antisymm
abbrev bx1:=@List.find?_some
abbrev bx2:=@World.ownsRow_nil
abbrev bx3:=@List.map_nil
abbrev bx4:=@List.length_mergeSort
end Go.Hx
section
namespace Go.Hx
open Go.RowKit
structure Below (B:Nat) (w w':World):Prop where
 os:w'.os=w.os
 tape:w'.tape=w.tape
 output:w'.output=w.output
 size:w.heap.size<=w'.heap.size
 block:∀k,k<B->w'.heap[k]? = w.heap[k]?
 drawn:w.drawn<=w'.drawn
structure Grw (w w':World) (row:Option Nat):Prop where
 base:w.grownBy w' row
 drawn:w.drawn<=w'.drawn
theorem Grw.refl(w:World)(r:Option Nat):Grw w w r:=⟨World.grownBy.refl w r,bt2 _⟩
theorem Grw.alloc(w:World)(o:Obj)(r:Option Nat):Grw w (w.alloc o) r:=⟨World.grownBy_alloc w o r,bt2 _⟩
theorem Below.refl(B:Nat)(w:World):Below B w w:=⟨rfl,rfl,rfl,bt2 _,fun _ _=>rfl,bt2 _⟩
section
variable {B:Nat}{a:World}
theorem Below.trans {b c:World} (h:Below B a b) (k:Below B b c):Below B a c :=
 ⟨k.os.trans h.os,k.tape.trans h.tape,k.output.trans h.output,bth h.size k.size,fun i hi=>(k.block i hi).trans (h.block i hi),bth h.drawn k.drawn⟩
variable {w:World}
theorem Below.mono{B':Nat}{w':World}(h:Below B w w')(hB:B'<=B):Below B' w w':=⟨h.os,h.tape,h.output,h.size,fun k hk=>h.block k (bvt hk hB),h.drawn⟩
theorem Below.drew(h:Below B a w):Below B a w.drew:=⟨h.os,h.tape,h.output,h.size,h.block,bth h.drawn (bwo _)⟩
theorem Below.alloc (h:Below B a w) (hB:B<=w.heap.size) (o:Obj):Below B a (w.alloc o) :=
 have q:=Go.RowKit.Below.alloc (B:=B) (a:=a) (w:=w) ⟨h.os,h.tape,h.output,h.size,h.block⟩ hB o
 ⟨q.os,q.tape,q.output,q.size,q.block,h.drawn⟩
theorem Below.heap_alloc(w:World)(o:Obj)(k:Nat)(h:k<w.heap.size):(w.alloc o).heap[k]? = w.heap[k]?:=Go.RowKit.Below.heap_alloc w o k h
def bx5{p:Prop}(h:p:=by omega):p:=h
theorem Below.grown {w':World} {row:Option Nat} (h:Below B a w) (hg:Grw w w' row) (hB:B<=w.heap.size) (hr:∀k,row=some k->B<=k):Below B a w' :=
 h.trans ⟨hg.base.os,hg.base.tape,hg.base.output,hg.base.size,fun k hk=>hg.base.block k bx5 (fun e=>by have:=hr k e.symm;omega),hg.drawn⟩
theorem a6l {α:Type}:∀(x:Ask α) (w:World),w.drawn<=(w.ask x).2.drawn
 | .done a,w=>bt2 _
 | .ask what range k,w=>by
  simp only[World.ask];split
  · exact a6l _ _
  have h:=a6l (k ((Question.extern what range).cut (w.tape w.drawn (Question.extern what range)))) { w with drawn:=w.drawn+1 }
  grind
theorem ay3 (w:World) (c:Sys):w.drawn<=(w.sys c).2.drawn:=by
 have h:=a6l (Kernel.perform c w.os) w;unfold World.sys
 grind
def af8 {p:Program} {at_:Addr} {u:TypeId} {k:Addr} {v:Value} {atomic:Bool} {r:World×List Addr} (h:w.viewStore p at_ u k v atomic=.ok r):r.1.drawn=w.drawn:=by
 unfold World.viewStore at h;simp only[bind,Except.bind,pure,Except.pure]at h
 repeat' split at h
 all_goals first|(cases h;done)|(simp only[Except.ok.injEq]at h;subst h;rfl)
def agr{p:Program}{a:Addr}{v:Value}{atomic:Bool}{r:World×List Addr}(h:w.farStore p a v atomic=.ok r):r.1.drawn=w.drawn:=by
 unfold World.farStore at h;split at h
 · split at h
   · rename_i r2 hr
     simp only[Except.ok.injEq]at h;subst h;exact af8 hr
   cases h
 cases h
def a7g (w:World) (a:Addr) (n:Nat):(w.freeze a n).drawn=w.drawn:=by
 unfold World.freeze;split<;>rfl
variable {P:Program}
def yb{α:Type}:∀(x:Sem α) {w w':World} {v:α},x.run P w=.ok v w'->w.drawn<=w'.drawn:=by
 intro x
 induction x with
 |pure a=>intro w w' v h;simp only[Sem.run,Result.ok.injEq]at h;obtain⟨_,rfl⟩:=h;exact bt2 _
 | load m a k ih =>
  intro w w' v h;simp only[Sem.run]at h;split at h
  · exact ih _ h
  split at h
  · exact ih _ h
  cases h
 | store m a x k ih =>
  intro w w' v h
  cases x <;> simp only[Sem.run]at h<;>first
   |(cases h;done)
   | (split at h
      · split at h
        · cases h
        have q:=ih h;exact q
      split at h
      · rename_i hf
        exact bth (bwq (agr hf).symm) (ih h)
      cases h)
 |new o k ih=>intro w w' v h;simp only[Sem.run]at h;have q:=ih _ h;exact q
 |shape r k ih=>intro w w' v h;simp only[Sem.run]at h;exact ih _ h
 |freeze a n k ih=>intro w w' v h;simp only[Sem.run]at h;exact bth (bwq (a7g w a n).symm) (ih h)
 |frozen a k ih=>intro w w' v h;simp only[Sem.run]at h;exact ih _ h
 | getObj r k ih =>
  intro w w' v h;simp only[Sem.run]at h;split at h
  · cases h
  · exact ih _ h
  cases h
 | setObj r o k ih =>
  intro w w' v h;simp only[Sem.run]at h;split at h
  · cases h
  · have q:=ih h
    exact q
  cases h
 | choose q k ih =>
  intro w w' v h;simp only[Sem.run]at h;split at h
  · exact ih _ h
  have q:=ih _ h;exact bth (bwo w.drawn) q
 |sys c k ih=>intro w w' v h;simp only[Sem.run]at h;exact bth (ay3 w c) (ih _ h)
 |program k ih=>intro w w' v h;simp only[Sem.run]at h;exact ih _ h
 |mark m k ih=>intro w w' v h;simp only[Sem.run]at h;exact ih h
 |halt hh=>intro w w' v h;simp only[Sem.run]at h;cases h
inductive KK where
 |int (q:IntKind)
 |str
 |pstr (b:Nat)
inductive MK where
 |i (q:IntKind) (n:Int)
 |s (b:ByteArray)
def MK.val:MK->Value
 | .i q n=>.int q n
 | .s b=>.string b
def MK.ok:KK->MK->Prop
 | .int q, .i q' n=>q'=q/\(Lit.int q n).wf=true
 | .str, .s b=>b.size<=maxLen
 | .pstr _, .s b=>b.size<=maxLen
 |_,_=>False
def KK.base:KK->KK
 | .pstr _=>.str
 |k=>k
def KK.has:KK->Nat->Prop
 | .pstr b',b=>b'=b
 |_,_=>True
theorem MK.ok_base{kk:KK}{m:MK}:MK.ok kk.base m<->MK.ok kk m:=by cases kk<;>cases m<;>exact Iff.rfl
def MK.same:MK->MK->Bool
 | .i q n, .i q' n'=>decide (q=q')&&decide (n=n')
 | .s b, .s b'=>decide (b=b')
 |_,_=>false
theorem MK.same_iff {x y:MK}:x.same y=true<->x=y:=by
 cases x<;>cases y<;>simp[MK.same]
theorem MK.val_inj {x y:MK} (h:x.val=y.val):x=y:=by
 cases x<;>cases y<;>simp[MK.val]at h ⊢<;>exact h
inductive PV where
 |raw (v:Value)
 |any
 |sl (n s:Nat) (clip:Bool) (f:Nat->Nat->PV)
 |vp (m:Nat) (f:Nat->PV)
 |fn (g:FuncId) (k:Nat) (caps:Nat->PV)
 |bnd (g:FuncId) (m:Nat) (f:Nat->PV)
 |mp (kk:KK) (n:Nat) (has:MK->Bool) (f:MK->PV)
abbrev Imm:=Nat->Option Obj
def ju (m:Imm) (b off:Nat):Option Value :=
 match m b with
 |some (.cells cs _ _)=>cs[off]?
 |_=>none
def au (m:Imm):PV->Value->Prop
 | .raw v,u=>u=v/\v.oneCell'=true
 | .any,u=>u.oneCell'=true
 | .sl n s clip f,u=>∃a cap,u=.slice a n cap/\n<=cap/\cap<=maxLen/\(clip=true->cap=n) /\
  (0<n->∃b off,a=some ⟨b,off,none⟩/\∀i j,i<n->j<s->∃x,ju m b (off+(i*s+j))=some x/\au m (f i j) x)
 | .vp k f,u=>∃b off,u=.pointer (some ⟨b,off,none⟩)/\∀j,j<k->∃x,ju m b (off+j)=some x/\au m (f j) x
 | .fn g k caps,u=>∃cs:List Value,u=.func (.func g) #[] cs.toArray/\cs.length=k/\∀i,i<k->∃x,cs[i]? = some x/\au m (caps i) x
 | .bnd g k f,u=>∃cs:List Value,u=.func (.func g) #[.agg cs.toArray] #[]/\cs.length=k/\∀i,i<k->∃x,cs[i]? = some x/\au m (f i) x
 | .mp kk n has f,u=>∃b es clock,u=.map (some b)/\m b=some (.map es clock)/\Go.MapKept.Stamped es clock/\es.size<=n/\es.size<=maxLen /\
  (∀x∈es.toList,∃key,x.key=key.val/\has key=true/\au m (f key) x.val)/\∀key,has key=true->MK.ok kk key/\∃x∈es.toList,x.key=key.val
def Imm.le(m m':Imm):Prop:=∀b o,m b=some o->m' b=some o
theorem Imm.le.refl(m:Imm):Imm.le m m:=fun _ _ h=>h
theorem Imm.le.trans{a b c:Imm}(h:Imm.le a b)(k:Imm.le b c):Imm.le a c:=fun x o hx=>k x o (h x o hx)
variable {m m':Imm}
def a2j (h:Imm.le m m') {b off:Nat} {x:Value} (hc:ju m b off=some x):ju m' b off=some x:=by
 unfold ju at *
 cases hb:m b with
 |none=>rw[hb]at hc;cases hc
 |some o=>rw[hb]at hc;rw[h b o hb];exact hc
def au.mono(h:Imm.le m m'):∀{x:PV} {u:Value},au m x u->au m' x u:=by
 intro x
 induction x with
 |raw v=>intro u hu;exact hu
 |any=>intro u hu;exact hu
 | sl n s clip f ih =>
  rintro u ⟨a,cap,h1,h2,h3,h4,h5⟩;refine⟨a,cap,h1,h2,h3,h4,fun hn=>?_⟩;obtain⟨b,off,ha,hc⟩:=h5 hn
  exact ⟨b,off,ha,fun i j hi hj=>by
   obtain⟨x,hx,hr⟩:=hc i j hi hj
   exact⟨x,a2j h hx,ih i j hr⟩⟩
 | vp k f ih =>
  rintro u ⟨b,off,h1,hc⟩
  exact ⟨b,off,h1,fun j hj=>by
   obtain⟨x,hx,hr⟩:=hc j hj
   exact⟨x,a2j h hx,ih j hr⟩⟩
 | fn g k caps ih =>
  rintro u ⟨cs,h1,h2,hc⟩
  exact ⟨cs,h1,h2,fun i hi=>by
   obtain⟨x,hx,hr⟩:=hc i hi
   exact⟨x,hx,ih i hr⟩⟩
 | bnd g k f ih =>
  rintro u ⟨cs,h1,h2,hc⟩
  exact ⟨cs,h1,h2,fun i hi=>by
   obtain⟨x,hx,hr⟩:=hc i hi
   exact⟨x,hx,ih i hr⟩⟩
 | mp kk n has f ih =>
  rintro u ⟨b,es,clock,h1,h2,h3,h4,h5,h6,h7⟩
  exact ⟨b,es,clock,h1,h _ _ h2,h3,h4,h5,fun x hx=>by
   obtain⟨key,k1,k2,k3⟩:=h6 x hx
   exact⟨key,k1,k2,ih key k3⟩,h7⟩
def au.oneCell {x:PV} {u:Value} (h:au m x u):u.oneCell'=true:=by
 cases x with
 |raw v=>obtain⟨rfl,h⟩:=h;exact h
 |any=>exact h
 |sl n s clip f=>obtain⟨a,cap,rfl,_⟩:=h;rfl
 |vp k f=>obtain⟨b,off,rfl,_⟩:=h;rfl
 |fn g k caps=>obtain⟨cs,rfl,_⟩:=h;rfl
 |bnd g k f=>obtain⟨cs,rfl,_⟩:=h;rfl
 |mp kk n has f=>obtain⟨b,es,clock,rfl,_⟩:=h;rfl
def f7 (m:Imm):List PV->List Value->Prop
 | [],[]=>True
 |x::xs,u::us=>au m x u/\f7 m xs us
 |_,_=>False
def f7.length:∀{xs:List PV} {us:List Value},f7 m xs us->us.length=xs.length
 | [],[],_=>rfl
 |x::xs,u::us,h=>by simp[h.2.length]
 | [],_::_,h=>h.elim
 |_::_,[],h=>h.elim
def f7.mono (h:Imm.le m m'):∀{xs:List PV} {us:List Value},f7 m xs us->f7 m' xs us
 | [],[],_=>trivial
 |_::_,_::_,hr=>⟨hr.1.mono h,f7.mono h hr.2⟩
 | [],_::_,hr=>hr.elim
 |_::_,[],hr=>hr.elim
theorem f7.get:∀{xs:List PV} {us:List Value},f7 m xs us->∀(i:Nat) (x:PV),xs[i]? = some x->∃u,us[i]? = some u/\au m x u
 |_::_,_::_,h,0,x,hx=>by simp at hx;subst hx;exact⟨_,rfl,h.1⟩
 | _::_,_::_,h,i+1,x,hx=>by
  obtain⟨u,hu,hr⟩:=f7.get h.2 i x (by simpa using hx)
  grind
 | [],_,_,i,x,hx=>by simp at hx
 |_::_,[],h,_,_,_=>h.elim
def f7.of_get:∀{xs:List PV} {us:List Value},us.length=xs.length->(∀(i:Nat) (x:PV) (u:Value),xs[i]? = some x->us[i]? = some u->au m x u)->f7 m xs us
 | [],[],_,_=>trivial
 |x::xs,u::us,hl,h=>⟨h 0 x u rfl rfl,f7.of_get (by simpa using hl) fun i y v hy hv=>h (i+1) y v (by simpa using hy) (by simpa using hv)⟩
 | [],_::_,hl,_=>by simp at hl
 |_::_,[],hl,_=>by simp at hl
inductive PC where
 |one (x:PV)
 |agg (l:List PV)
inductive PR where
 |v (c:PC)
 |tup (l:List PC)
def j6 (m:Imm):PC->Value->Prop
 | .one x,u=>au m x u
 | .agg l,u=>∃us:List Value,u=.agg us.toArray/\f7 m l us
def cu (m:Imm):List PC->List Value->Prop
 | [],[]=>True
 |x::xs,u::us=>j6 m x u/\cu m xs us
 |_,_=>False
def tv (m:Imm):PR->Value->Prop
 | .v c,u=>j6 m c u
 | .tup l,u=>∃us:List Value,u=.tuple us.toArray/\cu m l us
def j6.mono (h:Imm.le m m') {x:PC} {u:Value} (hr:j6 m x u):j6 m' x u:=by
 cases x with
 |one x=>exact au.mono h hr
 |agg l=>obtain⟨us,e,hl⟩:=hr;exact⟨us,e,hl.mono h⟩
def cu.mono (h:Imm.le m m'):∀{xs:List PC} {us:List Value},cu m xs us->cu m' xs us
 | [],[],_=>trivial
 |_::_,_::_,hr=>⟨hr.1.mono h,cu.mono h hr.2⟩
 | [],_::_,hr=>hr.elim
 |_::_,[],hr=>hr.elim
def cu.length:∀{xs:List PC} {us:List Value},cu m xs us->us.length=xs.length
 | [],[],_=>rfl
 |x::xs,u::us,h=>by simp[h.2.length]
 | [],_::_,h=>h.elim
 |_::_,[],h=>h.elim
theorem cu.get:∀{xs:List PC} {us:List Value},cu m xs us->∀(i:Nat) (x:PC),xs[i]? = some x->∃u,us[i]? = some u/\j6 m x u
 |_::_,_::_,h,0,x,hx=>by simp at hx;subst hx;exact⟨_,rfl,h.1⟩
 | _::_,_::_,h,i+1,x,hx=>by
  obtain⟨u,hu,hr⟩:=cu.get h.2 i x (by simpa using hx)
  grind
 | [],_,_,i,x,hx=>by simp at hx
 |_::_,[],h,_,_,_=>h.elim
def tv.mono (h:Imm.le m m') {x:PR} {u:Value} (hr:tv m x u):tv m' x u:=by
 cases x with
 |v x=>exact j6.mono h hr
 |tup l=>obtain⟨us,e,hl⟩:=hr;exact⟨us,e,hl.mono h⟩
def bdn {k:TypeId} {x:MapEntry} {l:Lit} (h:keyOf P k x.key=some l):Go.WideElems.rd P k (fun v=>some (DataW.held (H:=Value) v,[])) x=some (l, .held x.val):=by
 obtain⟨k0,v0,b0⟩:=x;exact Go.WideElems.rd_mk (R:=fun v=>some (DataW.held (H:=Value) v,[])) (yv:=(DataW.held v0,[])) h rfl
theorem ad0 {k e t:TypeId} {b:Nat} {es:Array MapEntry} {clock:Nat} (cm:Bool) (K:Go.Maps.Keyed P k) (ht:P.underlying t=some (.map k e)) {z:Value} (hz:(zeroValue e).run P w=.ok z w) (hb:w.heap[b]? = some (.map es clock)) (hs:es.size<=maxLen) (hst:Go.MapKept.Stamped es clock) (hk:∀x∈es.toList,∃l,keyOf P k x.key=some l) {key:Value} {kl:Lit} (hkey:keyOf P k key=some kl):
 ((Instr.lookup t (.map (some b)) key cm).run P w=.ok (if cm then .tuple #[z, .bool false]else z) w/\∀x∈es.toList,x.key≠key) \/
 ∃e0,e0∈es.toList/\e0.key=key/\(Instr.lookup t (.map (some b)) key cm).run P w=.ok (if cm then .tuple #[e0.val, .bool true]else e0.val) w:=by
 have F:Go.WideElems.Fit P k (fun v=>some (DataW.held (H:=Value) v,[])) es clock:=⟨hs,hst,fun x hx=>by
  obtain⟨l,hl⟩:=hk x hx
  exact⟨_,bdn hl⟩⟩
 rcases Go.Maps.fit_look cm K ht hz hb F hkey with⟨h1,h2,_⟩|⟨e0,_,h1,h2,h3,_⟩
 · grind
 grind
theorem aja {k e t:TypeId} {b:Nat} {es:Array MapEntry} {clock:Nat} (K:Go.Maps.Keyed P k) (ht:P.underlying t=some (.map k e)) (hb:w.heap[b]? = some (.map es clock)) (hs:es.size<maxLen) (hst:Go.MapKept.Stamped es clock) (hk:∀x∈es.toList,∃l,keyOf P k x.key=some l) {key val:Value} {kl:Lit} (hkey:keyOf P k key=some kl):
 ∃ es' clock',(Instr.mapUpdate t (.map (some b)) key val).run P w=.ok () (Go.ChangeMaps.setBlock w b (.map es' clock'))/\Go.MapKept.Stamped es' clock'/\es'.size<=es.size+1 /\
  (∀x'∈es'.toList,(x'∈es.toList/\x'.key≠key)\/(x'.key=key/\x'.val=val))/\(∃x'∈es'.toList,x'.key=key)/\∀x∈es.toList,∃x'∈es'.toList,x'.key=x.key:=by
 rcases K.find w hkey es.toList hk with⟨h1,h2⟩|⟨j,e0,h1,h2,h3⟩
 · refine ⟨es.push ⟨key,val,clock⟩,clock+1, ?_,Go.MapKept.stamped_push hst h2,by simp, ?_,⟨⟨key,val,clock⟩,by simp,rfl⟩,fun x hx=>⟨x,by simp only[Array.toList_push,btn];exact .inl hx,rfl⟩⟩
   · simp[Instr.mapUpdate,run_underlying ht,MapKept.run_getObj_map hb,K.check w false hkey,h1,MapKept.run_setObj_map _ hb,Result.andThen,Go.ChangeMaps.setBlock]
   grind
 have hj:es[j]? = some e0:=by simpa using h2
 have hjl:j<es.toList.length:=(bv1.1 h2).1;have hlist:(es.modify j (fun e'=>{ e' with key:=key,val:=val })).toList=es.toList.set j { e0 with key:=key,val:=val }:=by rw[Array.toList_modify,Go.ChangeMaps.modify_eq_set _ _ _ _ h2]
 have hpw:=((Go.MapKept.stamped_iff es clock).1 hst).2.2
 have hne:∀i x,es.toList[i]? = some x->i≠j->x.key≠key:=fun i x hi hij he=>by
  have hi':=bv1.1 hi;have hj':=bv1.1 h2;obtain⟨hi1,hi2⟩:=hi';obtain⟨hj1,hj2⟩:=hj'
  rcases Nat.lt_or_gt_of_ne hij with hlt|hgt
  · have:=bv2.1 hpw i j hi1 hj1 hlt
    grind
  have:=bv2.1 hpw j i hj1 hi1 hgt
  grind
 refine⟨es.modify j (fun e'=>{ e' with key:=key,val:=val }),clock, ?_,Go.MapKept.stamped_modify hst _ _ (fun _ _=>rfl) (fun e' _ he'=>by rw[hj]at he';cases he';exact h3.symm),by simp, ?_, ?_, ?_⟩
 · simp[Instr.mapUpdate,run_underlying ht,MapKept.run_getObj_map hb,K.check w false hkey,h1,hj,h3,K.stays w hkey,MapKept.run_setObj_map _ hb,Result.andThen,Go.ChangeMaps.setBlock]
 · intro x hx
   rw[hlist]at hx;obtain⟨i,hi,ex⟩:=btt hx;rw[bvu]at ex;split at ex
   · grind
   rename_i hij;have hi':i<es.toList.length:=by simpa using hi
   exact .inl ⟨ex▸bti hi',hne i x (by rw[bt0 hi',ex]) (fun h=>hij h.symm)⟩
 · rw [hlist]
   exact⟨{ e0 with key:=key,val:=val },bwm.2 ⟨j,by simpa using hjl,by simp⟩,rfl⟩
 intro x hx;rw[hlist];obtain⟨i,hi,ex⟩:=btt hx;by_cases hij:i=j
 · refine ⟨{ e0 with key:=key,val:=val },bwm.2 ⟨j,by simpa using hjl,by simp⟩, ?_⟩
   grind
 exact⟨x,bwm.2 ⟨i,by simpa using hi,by rw[bvu,if_neg (fun h=>hij h.symm)];exact ex⟩,rfl⟩
def xd:Nat->List Value:=fun b=>match b with|1=>[.int .u8 0, .int .u8 1, .int .u8 28, .int .u8 2, .int .u8 29, .int .u8 14, .int .u8 24, .int .u8 3, .int .u8 30, .int .u8 22, .int .u8 20, .int .u8 15, .int .u8 25, .int .u8 17, .int .u8 4, .int .u8 8, .int .u8 31, .int .u8 27, .int .u8 13, .int .u8 23, .int .u8 21, .int .u8 19, .int .u8 16, .int .u8 7, .int .u8 26, .int .u8 12, .int .u8 18, .int .u8 6, .int .u8 11, .int .u8 5, .int .u8 10, .int .u8 9]|_=>[]
def b9x:Option (Nat×Nat):=some (297,5)
def a0c(b off:Nat):Option Value:=(xd b)[off]?
def tx(m:Imm):Prop:=∀b off v,a0c b off=some v->ju m b off=some v
def tx.mono(h:tx m)(hle:Imm.le m m'):tx m':=fun b off v hv=>a2j hle (h b off v hv)
end
end Go.Hx
end
