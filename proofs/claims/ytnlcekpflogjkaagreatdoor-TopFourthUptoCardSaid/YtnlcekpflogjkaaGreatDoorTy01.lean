/- A part of the proof: Hx1. -/
import Derived.Below
import Derived.KernelRfl
import Derived.Laws.CopyOwn
import Derived.Laws.MakeOwn
import Derived.Laws.OwnMore
import Derived.Laws.Tables
import Derived.Maps.Keyed
import Derived.Orders
set_option linter.all false
namespace Go.Hx
abbrev bst:=@Option.some.injEq
abbrev bsu:=@List.getElem?_eq_getElem
abbrev bsv:=@List.getD_eq_getElem?_getD
abbrev bsw:=@Nat.le_refl
abbrev bsx:=@Nat.zero_le
abbrev bsy:=@List.length_append
abbrev bt0:=@Nat.le_of_ble_eq_true
abbrev bt1:=@Nat.not_lt_zero
abbrev bt2:=@Prod.mk.injEq
abbrev bt3:=@Array.getElem?_eq_some_iff
abbrev bt4:=@List.length_take
abbrev bt5:=@Bool.and_eq_true
abbrev bt6:=@List.take_length
abbrev bt7:=@List.mem_cons
abbrev bt8:=@Int.toNat_natCast
abbrev bt9:=@Nat.mul_le_mul_right
abbrev bta:=@List.getElem_mem
abbrev btb:=@Bool.eq_false_iff
abbrev btc:=@Nat.le_trans
abbrev btd:=@List.mem_append
abbrev bte:=@List.mem_singleton
abbrev btf:=@List.getElem?_map
abbrev btg:=@List.mem_append_left
abbrev bth:=@Result.andThen_ok
abbrev bti:=@List.mem_map
abbrev btj:=@List.mem_range
abbrev btk:=@Nat.zero_add
abbrev btl:=@List.all_eq_true
abbrev btm:=@BitVec.getLsbD_and
abbrev btn:=@List.length_map
abbrev bto:=@List.length_cons
abbrev btp:=@List.mem_cons_of_mem
abbrev btq:=@List.foldl_append
abbrev btr:=@Option.map_some
abbrev bts:=@List.append_assoc
abbrev btt:=@List.getElem_of_mem
abbrev btu:=@List.append_nil
abbrev btv:=@List.mem_append_right
abbrev btw:=@Nat.eq_of_beq_eq_true
abbrev btx:=@List.getElem?_take
abbrev bty:=@List.pairwise_cons
abbrev btz:=@Nat.min_eq_left
abbrev bu0:=@List.size_toArray
abbrev bu1:=@List.any_eq_true
abbrev bu2:=@Array.length_toList
abbrev bu3:=@Sem.run_bind
abbrev bu4:=@Bool.not_eq_true'
abbrev bu5:=@List.mem_cons_self
abbrev bu6:=@Nat.add_mul
abbrev bu7:=@List.range_succ
abbrev bu8:=@List.getElem?_range
abbrev bu9:=@Option.getD_some
abbrev bua:=@List.eq_nil_of_length_eq_zero
abbrev bub:=@List.length_singleton
abbrev buc:=@Nat.eq_zero_or_pos
abbrev bud:=@Bool.or_eq_true
abbrev bue:=@Array.getElem?_eq_getElem
abbrev buf:=@List.map_cons
abbrev bug:=@BitVec.eq_of_toNat_eq
abbrev buh:=@Sem.run_pure
abbrev bui:=@BitVec.eq_of_getLsbD_eq
abbrev buj:=@List.length_filter_le
abbrev buk:=@List.any_eq_false
abbrev bul:=@List.mem_filter
abbrev bum:=@List.map_append
abbrev buo:=@List.filter_append
abbrev bup:=@Array.getElem?_toList
abbrev buq:=@List.take_of_length_le
abbrev bur:=@Nat.add_zero
abbrev bus:=@List.length_set
abbrev but:=@List.cons_append
abbrev buu:=@Nat.pow_le_pow_right
abbrev buv:=@Bool.false_eq_true
abbrev buw:=@List.getElem?_eq_some_iff
abbrev bux:=@List.length_nil
abbrev buy:=@List.filter_cons
abbrev buz:=@List.nil_append
abbrev bv0:=@List.getElem?_append_right
abbrev bv1:=@List.ext_getElem
abbrev bv2:=@Bool.true_and
abbrev bv3:=@List.pairwise_iff_getElem
abbrev bv4:=@Int.natCast_nonneg
abbrev bv5:=@Nat.add_assoc
abbrev bv6:=@List.flatten_append
abbrev bv7:=@BitVec.getLsbD_or
abbrev bv8:=@List.flatMap_cons
abbrev bv9:=@List.getElem_range
abbrev bva:=@List.drop_eq_getElem_cons
abbrev bvb:=@List.getElem?_append_left
abbrev bvc:=@List.map_congr_left
abbrev bvd:=@Nat.lt_irrefl
abbrev bve:=@List.findIdx?_eq_some_iff_getElem
abbrev bvf:=@Array.toArray_toList
abbrev bvg:=@List.mem_of_mem_take
abbrev bvh:=@List.length_drop
abbrev bvi:=@List.exists_of_findSome?_eq_some
abbrev bvj:=@List.getElem_map
abbrev bvk:=@Array.getElem?_eq_none
abbrev bvl:=@List.foldl_cons
abbrev bvm:=@Nat.shiftRight_eq_div_pow
abbrev bvn:=@Array.getElem?_modify
abbrev bvo:=@List.getElem_set
abbrev bvp:=@Array.toList_map
abbrev bvq:=@BitVec.toNat_ushiftRight
abbrev bvr:=@Nat.lt_or_eq_of_le
abbrev bvs:=@Nat.mul_one
abbrev bvt:=@List.take_zero
abbrev bvu:=@List.ext_getElem?
abbrev bvv:=@Nat.le_of_lt_succ
abbrev bvw:=@List.drop_eq_nil_of_le
abbrev bvx:=@Nat.blt_eq
abbrev bvy:=@Nat.lt_of_lt_of_le
abbrev bvz:=@List.getElem?_drop
abbrev bw0:=@List.length_mergeSort
abbrev bw1:=@List.cons.injEq
abbrev bw2:=@Nat.sub_self
abbrev bw3:=@Int.toNat_of_nonneg
abbrev bw4:=@List.countP_cons
abbrev bw5:=@BitVec.getLsbD_not
abbrev bw6:=@Bool.eq_iff_iff
abbrev bw7:=@Bool.and_eq_false_iff
abbrev bw8:=@List.filter_nil
abbrev bw9:=@Int.fdiv_eq_ediv_of_nonneg
abbrev bwa:=@BitVec.getLsbD_ushiftRight
abbrev bwb:=@Array.size_append
abbrev bwc:=@List.findIdx?_eq_none_iff
abbrev bwd:=@Nat.le_succ
abbrev bwe:=@Nat.le_of_eq
abbrev bwf:=@Nat.lt_or_ge
abbrev bwg:=@List.set_eq_of_length_le
abbrev bwh:=@BitVec.toNat_and
abbrev bwi:=@List.mem_flatMap
abbrev bwj:=@List.flatMap_append
abbrev bwk:=@List.length_take_le
abbrev bwl:=@List.pairwise_mergeSort
abbrev bwm:=@Bool.not_true
abbrev bwn:=@List.find?_eq_none
abbrev bwo:=@World.ownsRow_nil
abbrev bwp:=@Nat.lt_trichotomy
abbrev bwq:=@List.length_range
abbrev bwr:=@List.getElem?_eq_none
abbrev bws:=@Bool.not_false
abbrev bwt:=@Nat.mod_eq_of_lt
abbrev bwu:=@Nat.le_of_not_lt
abbrev bwv:=@List.flatMap_nil
end Go.Hx
section
namespace Go.Hx
open Go.RowKit
structure Below (B:Nat) (w w':World):Prop where
 os:w'.os=w.os
 tape:w'.tape=w.tape
 output:w'.output=w.output
 size:w.heap.size<=w'.heap.size
 block:∀k,k<B->w'.heap[k]? = w.heap[k]?
 drawn:w.drawn<=w'.drawn
structure Grw (w w':World) (row:Option Nat):Prop where
 base:w.grownBy w' row
 drawn:w.drawn<=w'.drawn
theorem Grw.refl(w:World)(r:Option Nat):Grw w w r:=⟨World.grownBy.refl w r,bsw _⟩
theorem Grw.alloc(w:World)(o:Obj)(r:Option Nat):Grw w (w.alloc o) r:=⟨World.grownBy_alloc w o r,bsw _⟩
theorem Below.refl(B:Nat)(w:World):Below B w w:=⟨rfl,rfl,rfl,bsw _,fun _ _=>rfl,bsw _⟩
section
variable {B:Nat}{a:World}
theorem Below.trans {b c:World} (h:Below B a b) (k:Below B b c):Below B a c :=
 ⟨k.os.trans h.os,k.tape.trans h.tape,k.output.trans h.output,btc h.size k.size,fun i hi=>(k.block i hi).trans (h.block i hi),btc h.drawn k.drawn⟩
variable {w:World}
theorem Below.mono{B':Nat}{w':World}(h:Below B w w')(hB:B'<=B):Below B' w w':=⟨h.os,h.tape,h.output,h.size,fun k hk=>h.block k (bvy hk hB),h.drawn⟩
theorem Below.drew(h:Below B a w):Below B a w.drew:=⟨h.os,h.tape,h.output,h.size,h.block,btc h.drawn (bwd _)⟩
theorem Below.alloc (h:Below B a w) (hB:B<=w.heap.size) (o:Obj):Below B a (w.alloc o) :=
 have q:=Go.RowKit.Below.alloc (B:=B) (a:=a) (w:=w) ⟨h.os,h.tape,h.output,h.size,h.block⟩ hB o
 ⟨q.os,q.tape,q.output,q.size,q.block,h.drawn⟩
def bww{p:Prop}(h:p:=by omega):p:=h
theorem Below.grown {w':World} {row:Option Nat} (h:Below B a w) (hg:Grw w w' row) (hB:B<=w.heap.size) (hr:∀k,row=some k->B<=k):Below B a w' :=
 h.trans ⟨hg.base.os,hg.base.tape,hg.base.output,hg.base.size,fun k hk=>hg.base.block k bww (fun e=>by have:=hr k e.symm;omega),hg.drawn⟩
theorem a7l {α:Type}:∀(x:Ask α) (w:World),w.drawn<=(w.ask x).2.drawn
 | .done a,w=>bsw _
 | .ask what range k,w=>by
  simp only[World.ask];split
  · exact a7l _ _
  have h:=a7l (k ((Question.extern what range).cut (w.tape w.drawn (Question.extern what range)))) { w with drawn:=w.drawn+1 }
  grind
theorem ayu (w:World) (c:Sys):w.drawn<=(w.sys c).2.drawn:=by
 have h:=a7l (Kernel.perform c w.os) w;unfold World.sys
 grind
def aet {p:Program} {at_:Addr} {u:TypeId} {k:Addr} {v:Value} {atomic:Bool} {r:World×List Addr} (h:w.viewStore p at_ u k v atomic=.ok r):r.1.drawn=w.drawn:=by
 unfold World.viewStore at h;simp only[bind,Except.bind,pure,Except.pure]at h
 repeat' split at h
 all_goals first|(cases h;done)|(simp only[Except.ok.injEq]at h;subst h;rfl)
def ai3{p:Program}{a:Addr}{v:Value}{atomic:Bool}{r:World×List Addr}(h:w.farStore p a v atomic=.ok r):r.1.drawn=w.drawn:=by
 unfold World.farStore at h;split at h
 · split at h
   · rename_i r2 hr
     simp only[Except.ok.injEq]at h;subst h;exact aet hr
   cases h
 cases h
def a7o (w:World) (a:Addr) (n:Nat):(w.freeze a n).drawn=w.drawn:=by
 unfold World.freeze;split<;>rfl
variable {P:Program}
def xy{α:Type}:∀(x:Sem α) {w w':World} {v:α},x.run P w=.ok v w'->w.drawn<=w'.drawn:=by
 intro x
 induction x with
 |pure a=>intro w w' v h;simp only[Sem.run,Result.ok.injEq]at h;obtain⟨_,rfl⟩:=h;exact bsw _
 | load m a k ih =>
  intro w w' v h;simp only[Sem.run]at h;split at h
  · exact ih _ h
  split at h
  · exact ih _ h
  cases h
 | store m a x k ih =>
  intro w w' v h
  cases x <;> simp only[Sem.run]at h<;>first
   |(cases h;done)
   | (split at h
      · split at h
        · cases h
        have q:=ih h;exact q
      split at h
      · rename_i hf
        exact btc (bwe (ai3 hf).symm) (ih h)
      cases h)
 |new o k ih=>intro w w' v h;simp only[Sem.run]at h;have q:=ih _ h;exact q
 |shape r k ih=>intro w w' v h;simp only[Sem.run]at h;exact ih _ h
 |freeze a n k ih=>intro w w' v h;simp only[Sem.run]at h;exact btc (bwe (a7o w a n).symm) (ih h)
 |frozen a k ih=>intro w w' v h;simp only[Sem.run]at h;exact ih _ h
 | getObj r k ih =>
  intro w w' v h;simp only[Sem.run]at h;split at h
  · cases h
  · exact ih _ h
  cases h
 | setObj r o k ih =>
  intro w w' v h;simp only[Sem.run]at h;split at h
  · cases h
  · have q:=ih h
    exact q
  cases h
 | choose q k ih =>
  intro w w' v h;simp only[Sem.run]at h;split at h
  · exact ih _ h
  have q:=ih _ h;exact btc (bwd w.drawn) q
 |sys c k ih=>intro w w' v h;simp only[Sem.run]at h;exact btc (ayu w c) (ih _ h)
 |program k ih=>intro w w' v h;simp only[Sem.run]at h;exact ih _ h
 |mark m k ih=>intro w w' v h;simp only[Sem.run]at h;exact ih h
 |halt hh=>intro w w' v h;simp only[Sem.run]at h;cases h
inductive KK where
 |int (q:IntKind)
 |str
 |pstr (b:Nat)
inductive MK where
 |i (q:IntKind) (n:Int)
 |s (b:ByteArray)
def MK.val:MK->Value
 | .i q n=>.int q n
 | .s b=>.string b
def MK.ok:KK->MK->Prop
 | .int q, .i q' n=>q'=q/\(Lit.int q n).wf=true
 | .str, .s b=>b.size<=maxLen
 | .pstr _, .s b=>b.size<=maxLen
 |_,_=>False
def KK.base:KK->KK
 | .pstr _=>.str
 |k=>k
def KK.has:KK->Nat->Prop
 | .pstr b',b=>b'=b
 |_,_=>True
theorem MK.ok_base{kk:KK}{m:MK}:MK.ok kk.base m<->MK.ok kk m:=by cases kk<;>cases m<;>exact Iff.rfl
def MK.same:MK->MK->Bool
 | .i q n, .i q' n'=>decide (q=q')&&decide (n=n')
 | .s b, .s b'=>decide (b=b')
 |_,_=>false
theorem MK.same_iff {x y:MK}:x.same y=true<->x=y:=by
 cases x<;>cases y<;>simp[MK.same]
theorem MK.val_inj {x y:MK} (h:x.val=y.val):x=y:=by
 cases x<;>cases y<;>simp[MK.val]at h ⊢<;>exact h
inductive PV where
 |raw (v:Value)
 |any
 |sl (n s:Nat) (clip:Bool) (f:Nat->Nat->PV)
 |vp (m:Nat) (f:Nat->PV)
 |fn (g:FuncId) (k:Nat) (caps:Nat->PV)
 |bnd (g:FuncId) (m:Nat) (f:Nat->PV)
 |mp (kk:KK) (n:Nat) (has:MK->Bool) (f:MK->PV)
abbrev Imm:=Nat->Option Obj
def j2 (m:Imm) (b off:Nat):Option Value :=
 match m b with
 |some (.cells cs _ _)=>cs[off]?
 |_=>none
def aq (m:Imm):PV->Value->Prop
 | .raw v,u=>u=v/\v.oneCell'=true
 | .any,u=>u.oneCell'=true
 | .sl n s clip f,u=>∃a cap,u=.slice a n cap/\n<=cap/\cap<=maxLen/\(clip=true->cap=n) /\
  (0<n->∃b off,a=some ⟨b,off,none⟩/\∀i j,i<n->j<s->∃x,j2 m b (off+(i*s+j))=some x/\aq m (f i j) x)
 | .vp k f,u=>∃b off,u=.pointer (some ⟨b,off,none⟩)/\∀j,j<k->∃x,j2 m b (off+j)=some x/\aq m (f j) x
 | .fn g k caps,u=>∃cs:List Value,u=.func (.func g) #[] cs.toArray/\cs.length=k/\∀i,i<k->∃x,cs[i]? = some x/\aq m (caps i) x
 | .bnd g k f,u=>∃cs:List Value,u=.func (.func g) #[.agg cs.toArray] #[]/\cs.length=k/\∀i,i<k->∃x,cs[i]? = some x/\aq m (f i) x
 | .mp kk n has f,u=>∃b es clock,u=.map (some b)/\m b=some (.map es clock)/\Go.MapKept.Stamped es clock/\es.size<=n/\es.size<=maxLen /\
  (∀x∈es.toList,∃key,x.key=key.val/\has key=true/\aq m (f key) x.val)/\∀key,has key=true->MK.ok kk key/\∃x∈es.toList,x.key=key.val
def Imm.le(m m':Imm):Prop:=∀b o,m b=some o->m' b=some o
theorem Imm.le.refl(m:Imm):Imm.le m m:=fun _ _ h=>h
theorem Imm.le.trans{a b c:Imm}(h:Imm.le a b)(k:Imm.le b c):Imm.le a c:=fun x o hx=>k x o (h x o hx)
variable {m m':Imm}
def a2l (h:Imm.le m m') {b off:Nat} {x:Value} (hc:j2 m b off=some x):j2 m' b off=some x:=by
 unfold j2 at *
 cases hb:m b with
 |none=>rw[hb]at hc;cases hc
 |some o=>rw[hb]at hc;rw[h b o hb];exact hc
def aq.mono(h:Imm.le m m'):∀{x:PV} {u:Value},aq m x u->aq m' x u:=by
 intro x
 induction x with
 |raw v=>intro u hu;exact hu
 |any=>intro u hu;exact hu
 | sl n s clip f ih =>
  rintro u ⟨a,cap,h1,h2,h3,h4,h5⟩;refine⟨a,cap,h1,h2,h3,h4,fun hn=>?_⟩;obtain⟨b,off,ha,hc⟩:=h5 hn
  exact ⟨b,off,ha,fun i j hi hj=>by
   obtain⟨x,hx,hr⟩:=hc i j hi hj
   exact⟨x,a2l h hx,ih i j hr⟩⟩
 | vp k f ih =>
  rintro u ⟨b,off,h1,hc⟩
  exact ⟨b,off,h1,fun j hj=>by
   obtain⟨x,hx,hr⟩:=hc j hj
   exact⟨x,a2l h hx,ih j hr⟩⟩
 | fn g k caps ih =>
  rintro u ⟨cs,h1,h2,hc⟩
  exact ⟨cs,h1,h2,fun i hi=>by
   obtain⟨x,hx,hr⟩:=hc i hi
   exact⟨x,hx,ih i hr⟩⟩
 | bnd g k f ih =>
  rintro u ⟨cs,h1,h2,hc⟩
  exact ⟨cs,h1,h2,fun i hi=>by
   obtain⟨x,hx,hr⟩:=hc i hi
   exact⟨x,hx,ih i hr⟩⟩
 | mp kk n has f ih =>
  rintro u ⟨b,es,clock,h1,h2,h3,h4,h5,h6,h7⟩
  exact ⟨b,es,clock,h1,h _ _ h2,h3,h4,h5,fun x hx=>by
   obtain⟨key,k1,k2,k3⟩:=h6 x hx
   exact⟨key,k1,k2,ih key k3⟩,h7⟩
def aq.oneCell {x:PV} {u:Value} (h:aq m x u):u.oneCell'=true:=by
 cases x with
 |raw v=>obtain⟨rfl,h⟩:=h;exact h
 |any=>exact h
 |sl n s clip f=>obtain⟨a,cap,rfl,_⟩:=h;rfl
 |vp k f=>obtain⟨b,off,rfl,_⟩:=h;rfl
 |fn g k caps=>obtain⟨cs,rfl,_⟩:=h;rfl
 |bnd g k f=>obtain⟨cs,rfl,_⟩:=h;rfl
 |mp kk n has f=>obtain⟨b,es,clock,rfl,_⟩:=h;rfl
def fl (m:Imm):List PV->List Value->Prop
 | [],[]=>True
 |x::xs,u::us=>aq m x u/\fl m xs us
 |_,_=>False
def fl.length:∀{xs:List PV} {us:List Value},fl m xs us->us.length=xs.length
 | [],[],_=>rfl
 |x::xs,u::us,h=>by simp[h.2.length]
 | [],_::_,h=>h.elim
 |_::_,[],h=>h.elim
def fl.mono (h:Imm.le m m'):∀{xs:List PV} {us:List Value},fl m xs us->fl m' xs us
 | [],[],_=>trivial
 |_::_,_::_,hr=>⟨hr.1.mono h,fl.mono h hr.2⟩
 | [],_::_,hr=>hr.elim
 |_::_,[],hr=>hr.elim
theorem fl.get:∀{xs:List PV} {us:List Value},fl m xs us->∀(i:Nat) (x:PV),xs[i]? = some x->∃u,us[i]? = some u/\aq m x u
 |_::_,_::_,h,0,x,hx=>by simp at hx;subst hx;exact⟨_,rfl,h.1⟩
 | _::_,_::_,h,i+1,x,hx=>by
  obtain⟨u,hu,hr⟩:=fl.get h.2 i x (by simpa using hx)
  grind
 | [],_,_,i,x,hx=>by simp at hx
 |_::_,[],h,_,_,_=>h.elim
def fl.of_get:∀{xs:List PV} {us:List Value},us.length=xs.length->(∀(i:Nat) (x:PV) (u:Value),xs[i]? = some x->us[i]? = some u->aq m x u)->fl m xs us
 | [],[],_,_=>trivial
 |x::xs,u::us,hl,h=>⟨h 0 x u rfl rfl,fl.of_get (by simpa using hl) fun i y v hy hv=>h (i+1) y v (by simpa using hy) (by simpa using hv)⟩
 | [],_::_,hl,_=>by simp at hl
 |_::_,[],hl,_=>by simp at hl
inductive PC where
 |one (x:PV)
 |agg (l:List PV)
inductive PR where
 |v (c:PC)
 |tup (l:List PC)
def lq (m:Imm):PC->Value->Prop
 | .one x,u=>aq m x u
 | .agg l,u=>∃us:List Value,u=.agg us.toArray/\fl m l us
def d8 (m:Imm):List PC->List Value->Prop
 | [],[]=>True
 |x::xs,u::us=>lq m x u/\d8 m xs us
 |_,_=>False
def tl (m:Imm):PR->Value->Prop
 | .v c,u=>lq m c u
 | .tup l,u=>∃us:List Value,u=.tuple us.toArray/\d8 m l us
def lq.mono (h:Imm.le m m') {x:PC} {u:Value} (hr:lq m x u):lq m' x u:=by
 cases x with
 |one x=>exact aq.mono h hr
 |agg l=>obtain⟨us,e,hl⟩:=hr;exact⟨us,e,hl.mono h⟩
def d8.mono (h:Imm.le m m'):∀{xs:List PC} {us:List Value},d8 m xs us->d8 m' xs us
 | [],[],_=>trivial
 |_::_,_::_,hr=>⟨hr.1.mono h,d8.mono h hr.2⟩
 | [],_::_,hr=>hr.elim
 |_::_,[],hr=>hr.elim
def d8.length:∀{xs:List PC} {us:List Value},d8 m xs us->us.length=xs.length
 | [],[],_=>rfl
 |x::xs,u::us,h=>by simp[h.2.length]
 | [],_::_,h=>h.elim
 |_::_,[],h=>h.elim
theorem d8.get:∀{xs:List PC} {us:List Value},d8 m xs us->∀(i:Nat) (x:PC),xs[i]? = some x->∃u,us[i]? = some u/\lq m x u
 |_::_,_::_,h,0,x,hx=>by simp at hx;subst hx;exact⟨_,rfl,h.1⟩
 | _::_,_::_,h,i+1,x,hx=>by
  obtain⟨u,hu,hr⟩:=d8.get h.2 i x (by simpa using hx)
  grind
 | [],_,_,i,x,hx=>by simp at hx
 |_::_,[],h,_,_,_=>h.elim
def tl.mono (h:Imm.le m m') {x:PR} {u:Value} (hr:tl m x u):tl m' x u:=by
 cases x with
 |v x=>exact lq.mono h hr
 |tup l=>obtain⟨us,e,hl⟩:=hr;exact⟨us,e,hl.mono h⟩
def bag {k:TypeId} {x:MapEntry} {l:Lit} (h:keyOf P k x.key=some l):Go.WideElems.rd P k (fun v=>some (DataW.held (H:=Value) v,[])) x=some (l, .held x.val):=by
 obtain⟨k0,v0,b0⟩:=x;exact Go.WideElems.rd_mk (R:=fun v=>some (DataW.held (H:=Value) v,[])) (yv:=(DataW.held v0,[])) h rfl
theorem ad1 {k e t:TypeId} {b:Nat} {es:Array MapEntry} {clock:Nat} (cm:Bool) (K:Go.Maps.Keyed P k) (ht:P.underlying t=some (.map k e)) {z:Value} (hz:(zeroValue e).run P w=.ok z w) (hb:w.heap[b]? = some (.map es clock)) (hs:es.size<=maxLen) (hst:Go.MapKept.Stamped es clock) (hk:∀x∈es.toList,∃l,keyOf P k x.key=some l) {key:Value} {kl:Lit} (hkey:keyOf P k key=some kl):
 ((Instr.lookup t (.map (some b)) key cm).run P w=.ok (if cm then .tuple #[z, .bool false]else z) w/\∀x∈es.toList,x.key≠key) \/
 ∃e0,e0∈es.toList/\e0.key=key/\(Instr.lookup t (.map (some b)) key cm).run P w=.ok (if cm then .tuple #[e0.val, .bool true]else e0.val) w:=by
 have F:Go.WideElems.Fit P k (fun v=>some (DataW.held (H:=Value) v,[])) es clock:=⟨hs,hst,fun x hx=>by
  obtain⟨l,hl⟩:=hk x hx
  exact⟨_,bag hl⟩⟩
 rcases Go.Maps.fit_look cm K ht hz hb F hkey with⟨h1,h2,_⟩|⟨e0,_,h1,h2,h3,_⟩
 · grind
 grind
theorem akd {k e t:TypeId} {b:Nat} {es:Array MapEntry} {clock:Nat} (K:Go.Maps.Keyed P k) (ht:P.underlying t=some (.map k e)) (hb:w.heap[b]? = some (.map es clock)) (hs:es.size<maxLen) (hst:Go.MapKept.Stamped es clock) (hk:∀x∈es.toList,∃l,keyOf P k x.key=some l) {key val:Value} {kl:Lit} (hkey:keyOf P k key=some kl):
 ∃ es' clock',(Instr.mapUpdate t (.map (some b)) key val).run P w=.ok () (Go.ChangeMaps.setBlock w b (.map es' clock'))/\Go.MapKept.Stamped es' clock'/\es'.size<=es.size+1 /\
  (∀x'∈es'.toList,(x'∈es.toList/\x'.key≠key)\/(x'.key=key/\x'.val=val))/\(∃x'∈es'.toList,x'.key=key)/\∀x∈es.toList,∃x'∈es'.toList,x'.key=x.key:=by
 rcases K.find w hkey es.toList hk with⟨h1,h2⟩|⟨j,e0,h1,h2,h3⟩
 · refine ⟨es.push ⟨key,val,clock⟩,clock+1, ?_,Go.MapKept.stamped_push hst h2,by simp, ?_,⟨⟨key,val,clock⟩,by simp,rfl⟩,fun x hx=>⟨x,by simp only[Array.toList_push,btd];exact .inl hx,rfl⟩⟩
   · simp[Instr.mapUpdate,run_underlying ht,MapKept.run_getObj_map hb,K.check w false hkey,h1,MapKept.run_setObj_map _ hb,Result.andThen,Go.ChangeMaps.setBlock]
   grind
 have hj:es[j]? = some e0:=by simpa using h2
 have hjl:j<es.toList.length:=(buw.1 h2).1;have hlist:(es.modify j (fun e'=>{ e' with key:=key,val:=val })).toList=es.toList.set j { e0 with key:=key,val:=val }:=by rw[Array.toList_modify,Go.ChangeMaps.modify_eq_set _ _ _ _ h2]
 have hpw:=((Go.MapKept.stamped_iff es clock).1 hst).2.2
 have hne:∀i x,es.toList[i]? = some x->i≠j->x.key≠key:=fun i x hi hij he=>by
  have hi':=buw.1 hi;have hj':=buw.1 h2;obtain⟨hi1,hi2⟩:=hi';obtain⟨hj1,hj2⟩:=hj'
  rcases Nat.lt_or_gt_of_ne hij with hlt|hgt
  · have:=bv3.1 hpw i j hi1 hj1 hlt
    grind
  have:=bv3.1 hpw j i hj1 hi1 hgt
  grind
 refine⟨es.modify j (fun e'=>{ e' with key:=key,val:=val }),clock, ?_,Go.MapKept.stamped_modify hst _ _ (fun _ _=>rfl) (fun e' _ he'=>by rw[hj]at he';cases he';exact h3.symm),by simp, ?_, ?_, ?_⟩
 · simp[Instr.mapUpdate,run_underlying ht,MapKept.run_getObj_map hb,K.check w false hkey,h1,hj,h3,K.stays w hkey,MapKept.run_setObj_map _ hb,Result.andThen,Go.ChangeMaps.setBlock]
 · intro x hx
   rw[hlist]at hx;obtain⟨i,hi,ex⟩:=btt hx;rw[bvo]at ex;split at ex
   · grind
   rename_i hij;have hi':i<es.toList.length:=by simpa using hi
   exact .inl ⟨ex▸bta hi',hne i x (by rw[bsu hi',ex]) (fun h=>hij h.symm)⟩
 · rw [hlist]
   exact⟨{ e0 with key:=key,val:=val },List.mem_iff_getElem.2 ⟨j,by simpa using hjl,by simp⟩,rfl⟩
 intro x hx;rw[hlist];obtain⟨i,hi,ex⟩:=btt hx;by_cases hij:i=j
 · refine ⟨{ e0 with key:=key,val:=val },List.mem_iff_getElem.2 ⟨j,by simpa using hjl,by simp⟩, ?_⟩
   grind
 exact⟨x,List.mem_iff_getElem.2 ⟨i,by simpa using hi,by rw[bvo,if_neg (fun h=>hij h.symm)];exact ex⟩,rfl⟩
def wa:Nat->List Value:=fun b=>match b with|1=>[.int .u8 0, .int .u8 1, .int .u8 28, .int .u8 2, .int .u8 29, .int .u8 14, .int .u8 24, .int .u8 3, .int .u8 30, .int .u8 22, .int .u8 20, .int .u8 15, .int .u8 25, .int .u8 17, .int .u8 4, .int .u8 8, .int .u8 31, .int .u8 27, .int .u8 13, .int .u8 23, .int .u8 21, .int .u8 19, .int .u8 16, .int .u8 7, .int .u8 26, .int .u8 12, .int .u8 18, .int .u8 6, .int .u8 11, .int .u8 5, .int .u8 10, .int .u8 9]|_=>[]
def bap:Option (Nat×Nat):=some (297,5)
def zd(b off:Nat):Option Value:=(wa b)[off]?
def vq(m:Imm):Prop:=∀b off v,zd b off=some v->j2 m b off=some v
def vq.mono(h:vq m)(hle:Imm.le m m'):vq m':=fun b off v hv=>a2l hle (h b off v hv)
end
end Go.Hx
end
