/- A part of the proof: Hx1 Hx2. -/
import Derived.Below
import Derived.KernelRfl
import Derived.Laws.CopyOwn
import Derived.Laws.MakeOwn
import Derived.Laws.OwnMore
import Derived.Laws.Tables
import Derived.Maps.Keyed
import Derived.Orders
set_option linter.all false
namespace Go.Hx
abbrev bly:=@Option.some.injEq
abbrev blz:=@List.getElem?_eq_getElem
abbrev bm0:=@Nat.le_of_ble_eq_true
abbrev bm1:=@Nat.le_refl
abbrev bm2:=@List.length_append
abbrev bm3:=@Nat.zero_le
abbrev bm4:=@Prod.mk.injEq
abbrev bm5:=@Array.getElem?_eq_some_iff
abbrev bm6:=@Nat.not_lt_zero
abbrev bm7:=@List.getD_eq_getElem?_getD
abbrev bm8:=@Bool.and_eq_true
abbrev bm9:=@List.mem_cons
abbrev bma:=@List.getElem_mem
abbrev bmb:=@Nat.mul_le_mul_right
abbrev bmc:=@Int.toNat_natCast
abbrev bmd:=@List.take_length
abbrev bme:=@Nat.le_trans
abbrev bmf:=@Result.andThen_ok
abbrev bmg:=@List.mem_append
abbrev bmh:=@Bool.eq_false_iff
abbrev bmi:=@List.mem_append_left
abbrev bmj:=@List.getElem_of_mem
abbrev bmk:=@List.range_succ
abbrev bml:=@List.mem_map
abbrev bmm:=@List.mem_range
abbrev bmn:=@List.pairwise_cons
abbrev bmo:=@List.foldl_append
abbrev bmp:=@List.mem_cons_self
abbrev bmq:=@Option.map_some
abbrev bmr:=@List.mem_cons_of_mem
abbrev bms:=@List.all_eq_true
abbrev bmt:=@Nat.eq_of_beq_eq_true
abbrev bmu:=@List.mem_singleton
abbrev bmv:=@List.append_nil
abbrev bmw:=@List.length_take
abbrev bmx:=@List.mem_append_right
abbrev bmy:=@BitVec.getLsbD_and
abbrev bmz:=@Sem.run_bind
abbrev bn0:=@List.length_map
abbrev bn1:=@List.getElem?_map
abbrev bn2:=@Array.length_toList
abbrev bn3:=@BitVec.eq_of_toNat_eq
abbrev bn4:=@List.filter_append
abbrev bn5:=@List.pairwise_iff_getElem
abbrev bn6:=@List.append_assoc
abbrev bn7:=@List.map_append
abbrev bn8:=@Bool.not_eq_true'
abbrev bn9:=@Nat.zero_add
abbrev bna:=@List.length_cons
abbrev bnb:=@List.getElem?_take
abbrev bnc:=@Bool.eq_iff_iff
abbrev bne:=@Nat.min_eq_left
abbrev bnf:=@Bool.or_eq_true
abbrev bng:=@Nat.add_mul
abbrev bnh:=@Sem.run_pure
abbrev bni:=@Int.natCast_nonneg
abbrev bnj:=@BitVec.eq_of_getLsbD_eq
abbrev bnk:=@List.size_toArray
abbrev bnl:=@List.mem_filter
abbrev bnm:=@List.length_filter_le
abbrev bnn:=@List.getElem?_eq_some_iff
abbrev bno:=@Array.getElem?_eq_getElem
abbrev bnp:=@Nat.eq_zero_or_pos
abbrev bnq:=@List.foldl_cons
abbrev bnr:=@List.map_cons
abbrev bns:=@List.eq_nil_of_length_eq_zero
abbrev bnt:=@Nat.add_zero
abbrev bnu:=@Option.getD_some
abbrev bnv:=@List.filter_cons
abbrev bnw:=@List.flatten_append
abbrev bnx:=@BitVec.getLsbD_not
abbrev bny:=@List.getElem_range
abbrev bnz:=@List.ext_getElem
abbrev bo0:=@List.getElem?_range
abbrev bo1:=@List.all_eq_false
abbrev bo2:=@Nat.add_assoc
abbrev bo3:=@List.length_set
abbrev bo4:=@List.findIdx?_eq_some_iff_getElem
abbrev bo5:=@Array.toArray_toList
abbrev bo6:=@List.mem_of_mem_take
abbrev bo7:=@List.getElem_map
abbrev bo8:=@List.take_of_length_le
abbrev bo9:=@Nat.lt_trichotomy
abbrev boa:=@List.any_eq_false
abbrev bob:=@Nat.blt_eq
abbrev boc:=@Nat.shiftRight_eq_div_pow
abbrev bod:=@List.length_singleton
abbrev boe:=@List.getElem_set
abbrev bof:=@Array.toList_map
abbrev bog:=@List.cons_append
abbrev boh:=@List.any_eq_true
abbrev boi:=@BitVec.toNat_ushiftRight
abbrev boj:=@Nat.lt_irrefl
abbrev bok:=@Bool.true_and
abbrev bol:=@Nat.pow_le_pow_right
abbrev bom:=@List.length_take_le
abbrev bon:=@List.flatMap_append
abbrev boo:=@List.getElem?_append_right
abbrev bop:=@Int.fdiv_eq_ediv_of_nonneg
abbrev boq:=@List.drop_eq_getElem_cons
abbrev bor:=@List.length_nil
abbrev bos:=@Int.ofNat_lt
abbrev bot:=@List.ext_getElem?
abbrev bou:=@Classical.not_not
abbrev bov:=@Array.size_append
abbrev bow:=@List.take_add_one
abbrev boy:=@BitVec.toNat_and
abbrev boz:=@List.countP_cons
abbrev bp0:=@List.not_mem_nil
abbrev bp1:=@Nat.mul_le_mul
abbrev bp2:=@Nat.mul_one
abbrev bp3:=@Array.getElem?_eq_none
abbrev bp4:=@Nat.lt_of_lt_of_le
abbrev bp5:=@Nat.le_of_eq
abbrev bp6:=@Bool.false_eq_true
abbrev bp7:=@Bool.and_eq_false_iff
abbrev bp8:=@List.filter_nil
abbrev bp9:=@Array.getElem?_modify
abbrev bpa:=@Array.getElem?_toList
abbrev bpb:=@BitVec.getLsbD_or
abbrev bpc:=@List.length_range
abbrev bpd:=@List.getElem?_append_left
abbrev bpe:=@List.findIdx?_eq_none_iff
abbrev bpf:=@BitVec.getLsbD_of_ge
abbrev bpg:=@Nat.le_succ
abbrev bph:=@List.take_zero
abbrev bpi:=@Nat.mod_eq_of_lt
abbrev bpj:=@List.length_drop
abbrev bpk:=@Nat.lt_or_ge
abbrev bpl:=@Nat.lt_of_not_le
abbrev bpm:=@List.set_eq_of_length_le
abbrev bpn:=@List.map_congr_left
abbrev bpo:=@List.getElem?_drop
abbrev bpp:=@List.drop_eq_nil_of_le
abbrev bpq:=@List.pairwise_lt_range
abbrev bpr:=@World.ownsRow_nil
abbrev bps:=@List.getElem?_eq_none
abbrev bpt:=@Nat.le_of_not_lt
abbrev bpu:=@Int.natCast_ediv
abbrev bpv:=@List.mem_flatMap
end Go.Hx
section
namespace Go.Hx
open Go.RowKit
structure Below (B:Nat) (w w':World):Prop where
 os:w'.os=w.os
 tape:w'.tape=w.tape
 output:w'.output=w.output
 size:w.heap.size<=w'.heap.size
 block:∀k,k<B->w'.heap[k]? = w.heap[k]?
 drawn:w.drawn<=w'.drawn
structure Grw (w w':World) (row:Option Nat):Prop where
 base:w.grownBy w' row
 drawn:w.drawn<=w'.drawn
theorem Grw.refl(w:World)(r:Option Nat):Grw w w r:=⟨World.grownBy.refl w r,bm1 _⟩
theorem Grw.alloc(w:World)(o:Obj)(r:Option Nat):Grw w (w.alloc o) r:=⟨World.grownBy_alloc w o r,bm1 _⟩
theorem Below.refl(B:Nat)(w:World):Below B w w:=⟨rfl,rfl,rfl,bm1 _,fun _ _=>rfl,bm1 _⟩
section
variable {B:Nat}{a:World}
theorem Below.trans {b c:World} (h:Below B a b) (k:Below B b c):Below B a c :=
 ⟨k.os.trans h.os,k.tape.trans h.tape,k.output.trans h.output,bme h.size k.size,fun i hi=>(k.block i hi).trans (h.block i hi),bme h.drawn k.drawn⟩
variable {w:World}
theorem Below.mono{B':Nat}{w':World}(h:Below B w w')(hB:B'<=B):Below B' w w':=⟨h.os,h.tape,h.output,h.size,fun k hk=>h.block k (bp4 hk hB),h.drawn⟩
theorem Below.drew(h:Below B a w):Below B a w.drew:=⟨h.os,h.tape,h.output,h.size,h.block,bme h.drawn (bpg _)⟩
theorem Below.alloc (h:Below B a w) (hB:B<=w.heap.size) (o:Obj):Below B a (w.alloc o) :=
 have q:=Go.RowKit.Below.alloc (B:=B) (a:=a) (w:=w) ⟨h.os,h.tape,h.output,h.size,h.block⟩ hB o
 ⟨q.os,q.tape,q.output,q.size,q.block,h.drawn⟩
theorem Below.heap_alloc(w:World)(o:Obj)(k:Nat)(h:k<w.heap.size):(w.alloc o).heap[k]? = w.heap[k]?:=Go.RowKit.Below.heap_alloc w o k h
def bpw{p:Prop}(h:p:=by omega):p:=h
theorem Below.grown {w':World} {row:Option Nat} (h:Below B a w) (hg:Grw w w' row) (hB:B<=w.heap.size) (hr:∀k,row=some k->B<=k):Below B a w' :=
 h.trans ⟨hg.base.os,hg.base.tape,hg.base.output,hg.base.size,fun k hk=>hg.base.block k bpw (fun e=>by have:=hr k e.symm;omega),hg.drawn⟩
theorem a58 {α:Type}:∀(x:Ask α) (w:World),w.drawn<=(w.ask x).2.drawn
 | .done a,w=>bm1 _
 | .ask what range k,w=>by
  simp only[World.ask];split
  · exact a58 _ _
  have h:=a58 (k ((Question.extern what range).cut (w.tape w.drawn (Question.extern what range)))) { w with drawn:=w.drawn+1 }
  grind
theorem atl (w:World) (c:Sys):w.drawn<=(w.sys c).2.drawn:=by
 have h:=a58 (Kernel.perform c w.os) w;unfold World.sys
 grind
def abw {p:Program} {at_:Addr} {u:TypeId} {k:Addr} {v:Value} {atomic:Bool} {r:World×List Addr} (h:w.viewStore p at_ u k v atomic=.ok r):r.1.drawn=w.drawn:=by
 unfold World.viewStore at h;simp only[bind,Except.bind,pure,Except.pure]at h
 repeat' split at h
 all_goals first|(cases h;done)|(simp only[Except.ok.injEq]at h;subst h;rfl)
def acx{p:Program}{a:Addr}{v:Value}{atomic:Bool}{r:World×List Addr}(h:w.farStore p a v atomic=.ok r):r.1.drawn=w.drawn:=by
 unfold World.farStore at h;split at h
 · split at h
   · rename_i r2 hr
     simp only[Except.ok.injEq]at h;subst h;exact abw hr
   cases h
 cases h
def a6l (w:World) (a:Addr) (n:Nat):(w.freeze a n).drawn=w.drawn:=by
 unfold World.freeze;split<;>rfl
variable {P:Program}
def w4{α:Type}:∀(x:Sem α) {w w':World} {v:α},x.run P w=.ok v w'->w.drawn<=w'.drawn:=by
 intro x
 induction x with
 |pure a=>intro w w' v h;simp only[Sem.run,Result.ok.injEq]at h;obtain⟨_,rfl⟩:=h;exact bm1 _
 | load m a k ih =>
  intro w w' v h;simp only[Sem.run]at h;split at h
  · exact ih _ h
  split at h
  · exact ih _ h
  cases h
 | store m a x k ih =>
  intro w w' v h
  cases x <;> simp only[Sem.run]at h<;>first
   |(cases h;done)
   | (split at h
      · split at h
        · cases h
        have q:=ih h;exact q
      split at h
      · rename_i hf
        exact bme (bp5 (acx hf).symm) (ih h)
      cases h)
 |new o k ih=>intro w w' v h;simp only[Sem.run]at h;have q:=ih _ h;exact q
 |shape r k ih=>intro w w' v h;simp only[Sem.run]at h;exact ih _ h
 |freeze a n k ih=>intro w w' v h;simp only[Sem.run]at h;exact bme (bp5 (a6l w a n).symm) (ih h)
 |frozen a k ih=>intro w w' v h;simp only[Sem.run]at h;exact ih _ h
 | getObj r k ih =>
  intro w w' v h;simp only[Sem.run]at h;split at h
  · cases h
  · exact ih _ h
  cases h
 | setObj r o k ih =>
  intro w w' v h;simp only[Sem.run]at h;split at h
  · cases h
  · have q:=ih h
    exact q
  cases h
 | choose q k ih =>
  intro w w' v h;simp only[Sem.run]at h;split at h
  · exact ih _ h
  have q:=ih _ h;exact bme (bpg w.drawn) q
 |sys c k ih=>intro w w' v h;simp only[Sem.run]at h;exact bme (atl w c) (ih _ h)
 |program k ih=>intro w w' v h;simp only[Sem.run]at h;exact ih _ h
 |mark m k ih=>intro w w' v h;simp only[Sem.run]at h;exact ih h
 |halt hh=>intro w w' v h;simp only[Sem.run]at h;cases h
inductive KK where
 |int (q:IntKind)
 |str
 |pstr (b:Nat)
inductive MK where
 |i (q:IntKind) (n:Int)
 |s (b:ByteArray)
def MK.val:MK->Value
 | .i q n=>.int q n
 | .s b=>.string b
def MK.ok:KK->MK->Prop
 | .int q, .i q' n=>q'=q/\(Lit.int q n).wf=true
 | .str, .s b=>b.size<=maxLen
 | .pstr _, .s b=>b.size<=maxLen
 |_,_=>False
def KK.base:KK->KK
 | .pstr _=>.str
 |k=>k
def KK.has:KK->Nat->Prop
 | .pstr b',b=>b'=b
 |_,_=>True
theorem MK.ok_base{kk:KK}{m:MK}:MK.ok kk.base m<->MK.ok kk m:=by cases kk<;>cases m<;>exact Iff.rfl
def MK.same:MK->MK->Bool
 | .i q n, .i q' n'=>decide (q=q')&&decide (n=n')
 | .s b, .s b'=>decide (b=b')
 |_,_=>false
theorem MK.same_iff {x y:MK}:x.same y=true<->x=y:=by
 cases x<;>cases y<;>simp[MK.same]
theorem MK.val_inj {x y:MK} (h:x.val=y.val):x=y:=by
 cases x<;>cases y<;>simp[MK.val]at h ⊢<;>exact h
inductive PV where
 |raw (v:Value)
 |any
 |sl (n s:Nat) (clip:Bool) (f:Nat->Nat->PV)
 |vp (m:Nat) (f:Nat->PV)
 |fn (g:FuncId) (k:Nat) (caps:Nat->PV)
 |bnd (g:FuncId) (m:Nat) (f:Nat->PV)
 |mp (kk:KK) (n:Nat) (has:MK->Bool) (f:MK->PV)
abbrev Imm:=Nat->Option Obj
def gw (m:Imm) (b off:Nat):Option Value :=
 match m b with
 |some (.cells cs _ _)=>cs[off]?
 |_=>none
def aq (m:Imm):PV->Value->Prop
 | .raw v,u=>u=v/\v.oneCell'=true
 | .any,u=>u.oneCell'=true
 | .sl n s clip f,u=>∃a cap,u=.slice a n cap/\n<=cap/\cap<=maxLen/\(clip=true->cap=n) /\
  (0<n->∃b off,a=some ⟨b,off,none⟩/\∀i j,i<n->j<s->∃x,gw m b (off+(i*s+j))=some x/\aq m (f i j) x)
 | .vp k f,u=>∃b off,u=.pointer (some ⟨b,off,none⟩)/\∀j,j<k->∃x,gw m b (off+j)=some x/\aq m (f j) x
 | .fn g k caps,u=>∃cs:List Value,u=.func (.func g) #[] cs.toArray/\cs.length=k/\∀i,i<k->∃x,cs[i]? = some x/\aq m (caps i) x
 | .bnd g k f,u=>∃cs:List Value,u=.func (.func g) #[.agg cs.toArray] #[]/\cs.length=k/\∀i,i<k->∃x,cs[i]? = some x/\aq m (f i) x
 | .mp kk n has f,u=>∃b es clock,u=.map (some b)/\m b=some (.map es clock)/\Go.MapKept.Stamped es clock/\es.size<=n/\es.size<=maxLen /\
  (∀x∈es.toList,∃key,x.key=key.val/\has key=true/\aq m (f key) x.val)/\∀key,has key=true->MK.ok kk key/\∃x∈es.toList,x.key=key.val
def Imm.le(m m':Imm):Prop:=∀b o,m b=some o->m' b=some o
theorem Imm.le.refl(m:Imm):Imm.le m m:=fun _ _ h=>h
theorem Imm.le.trans{a b c:Imm}(h:Imm.le a b)(k:Imm.le b c):Imm.le a c:=fun x o hx=>k x o (h x o hx)
variable {m m':Imm}
def a0o (h:Imm.le m m') {b off:Nat} {x:Value} (hc:gw m b off=some x):gw m' b off=some x:=by
 unfold gw at *
 cases hb:m b with
 |none=>rw[hb]at hc;cases hc
 |some o=>rw[hb]at hc;rw[h b o hb];exact hc
def aq.mono(h:Imm.le m m'):∀{x:PV} {u:Value},aq m x u->aq m' x u:=by
 intro x
 induction x with
 |raw v=>intro u hu;exact hu
 |any=>intro u hu;exact hu
 | sl n s clip f ih =>
  rintro u ⟨a,cap,h1,h2,h3,h4,h5⟩;refine⟨a,cap,h1,h2,h3,h4,fun hn=>?_⟩;obtain⟨b,off,ha,hc⟩:=h5 hn
  exact ⟨b,off,ha,fun i j hi hj=>by
   obtain⟨x,hx,hr⟩:=hc i j hi hj
   exact⟨x,a0o h hx,ih i j hr⟩⟩
 | vp k f ih =>
  rintro u ⟨b,off,h1,hc⟩
  exact ⟨b,off,h1,fun j hj=>by
   obtain⟨x,hx,hr⟩:=hc j hj
   exact⟨x,a0o h hx,ih j hr⟩⟩
 | fn g k caps ih =>
  rintro u ⟨cs,h1,h2,hc⟩
  exact ⟨cs,h1,h2,fun i hi=>by
   obtain⟨x,hx,hr⟩:=hc i hi
   exact⟨x,hx,ih i hr⟩⟩
 | bnd g k f ih =>
  rintro u ⟨cs,h1,h2,hc⟩
  exact ⟨cs,h1,h2,fun i hi=>by
   obtain⟨x,hx,hr⟩:=hc i hi
   exact⟨x,hx,ih i hr⟩⟩
 | mp kk n has f ih =>
  rintro u ⟨b,es,clock,h1,h2,h3,h4,h5,h6,h7⟩
  exact ⟨b,es,clock,h1,h _ _ h2,h3,h4,h5,fun x hx=>by
   obtain⟨key,k1,k2,k3⟩:=h6 x hx
   exact⟨key,k1,k2,ih key k3⟩,h7⟩
def aq.oneCell {x:PV} {u:Value} (h:aq m x u):u.oneCell'=true:=by
 cases x with
 |raw v=>obtain⟨rfl,h⟩:=h;exact h
 |any=>exact h
 |sl n s clip f=>obtain⟨a,cap,rfl,_⟩:=h;rfl
 |vp k f=>obtain⟨b,off,rfl,_⟩:=h;rfl
 |fn g k caps=>obtain⟨cs,rfl,_⟩:=h;rfl
 |bnd g k f=>obtain⟨cs,rfl,_⟩:=h;rfl
 |mp kk n has f=>obtain⟨b,es,clock,rfl,_⟩:=h;rfl
def f0 (m:Imm):List PV->List Value->Prop
 | [],[]=>True
 |x::xs,u::us=>aq m x u/\f0 m xs us
 |_,_=>False
def f0.length:∀{xs:List PV} {us:List Value},f0 m xs us->us.length=xs.length
 | [],[],_=>rfl
 |x::xs,u::us,h=>by simp[h.2.length]
 | [],_::_,h=>h.elim
 |_::_,[],h=>h.elim
def f0.mono (h:Imm.le m m'):∀{xs:List PV} {us:List Value},f0 m xs us->f0 m' xs us
 | [],[],_=>trivial
 |_::_,_::_,hr=>⟨hr.1.mono h,f0.mono h hr.2⟩
 | [],_::_,hr=>hr.elim
 |_::_,[],hr=>hr.elim
theorem f0.get:∀{xs:List PV} {us:List Value},f0 m xs us->∀(i:Nat) (x:PV),xs[i]? = some x->∃u,us[i]? = some u/\aq m x u
 |_::_,_::_,h,0,x,hx=>by simp at hx;subst hx;exact⟨_,rfl,h.1⟩
 | _::_,_::_,h,i+1,x,hx=>by
  obtain⟨u,hu,hr⟩:=f0.get h.2 i x (by simpa using hx)
  grind
 | [],_,_,i,x,hx=>by simp at hx
 |_::_,[],h,_,_,_=>h.elim
def f0.of_get:∀{xs:List PV} {us:List Value},us.length=xs.length->(∀(i:Nat) (x:PV) (u:Value),xs[i]? = some x->us[i]? = some u->aq m x u)->f0 m xs us
 | [],[],_,_=>trivial
 |x::xs,u::us,hl,h=>⟨h 0 x u rfl rfl,f0.of_get (by simpa using hl) fun i y v hy hv=>h (i+1) y v (by simpa using hy) (by simpa using hv)⟩
 | [],_::_,hl,_=>by simp at hl
 |_::_,[],hl,_=>by simp at hl
inductive PC where
 |one (x:PV)
 |agg (l:List PV)
inductive PR where
 |v (c:PC)
 |tup (l:List PC)
def jm (m:Imm):PC->Value->Prop
 | .one x,u=>aq m x u
 | .agg l,u=>∃us:List Value,u=.agg us.toArray/\f0 m l us
def bz (m:Imm):List PC->List Value->Prop
 | [],[]=>True
 |x::xs,u::us=>jm m x u/\bz m xs us
 |_,_=>False
def oe (m:Imm):PR->Value->Prop
 | .v c,u=>jm m c u
 | .tup l,u=>∃us:List Value,u=.tuple us.toArray/\bz m l us
def jm.mono (h:Imm.le m m') {x:PC} {u:Value} (hr:jm m x u):jm m' x u:=by
 cases x with
 |one x=>exact aq.mono h hr
 |agg l=>obtain⟨us,e,hl⟩:=hr;exact⟨us,e,hl.mono h⟩
def bz.mono (h:Imm.le m m'):∀{xs:List PC} {us:List Value},bz m xs us->bz m' xs us
 | [],[],_=>trivial
 |_::_,_::_,hr=>⟨hr.1.mono h,bz.mono h hr.2⟩
 | [],_::_,hr=>hr.elim
 |_::_,[],hr=>hr.elim
def bz.length:∀{xs:List PC} {us:List Value},bz m xs us->us.length=xs.length
 | [],[],_=>rfl
 |x::xs,u::us,h=>by simp[h.2.length]
 | [],_::_,h=>h.elim
 |_::_,[],h=>h.elim
theorem bz.get:∀{xs:List PC} {us:List Value},bz m xs us->∀(i:Nat) (x:PC),xs[i]? = some x->∃u,us[i]? = some u/\jm m x u
 |_::_,_::_,h,0,x,hx=>by simp at hx;subst hx;exact⟨_,rfl,h.1⟩
 | _::_,_::_,h,i+1,x,hx=>by
  obtain⟨u,hu,hr⟩:=bz.get h.2 i x (by simpa using hx)
  grind
 | [],_,_,i,x,hx=>by simp at hx
 |_::_,[],h,_,_,_=>h.elim
def oe.mono (h:Imm.le m m') {x:PR} {u:Value} (hr:oe m x u):oe m' x u:=by
 cases x with
 |v x=>exact jm.mono h hr
 |tup l=>obtain⟨us,e,hl⟩:=hr;exact⟨us,e,hl.mono h⟩
def b5o {k:TypeId} {x:MapEntry} {l:Lit} (h:keyOf P k x.key=some l):Go.WideElems.rd P k (fun v=>some (DataW.held (H:=Value) v,[])) x=some (l, .held x.val):=by
 obtain⟨k0,v0,b0⟩:=x;exact Go.WideElems.rd_mk (R:=fun v=>some (DataW.held (H:=Value) v,[])) (yv:=(DataW.held v0,[])) h rfl
theorem aag {k e t:TypeId} {b:Nat} {es:Array MapEntry} {clock:Nat} (cm:Bool) (K:Go.Maps.Keyed P k) (ht:P.underlying t=some (.map k e)) {z:Value} (hz:(zeroValue e).run P w=.ok z w) (hb:w.heap[b]? = some (.map es clock)) (hs:es.size<=maxLen) (hst:Go.MapKept.Stamped es clock) (hk:∀x∈es.toList,∃l,keyOf P k x.key=some l) {key:Value} {kl:Lit} (hkey:keyOf P k key=some kl):
 ((Instr.lookup t (.map (some b)) key cm).run P w=.ok (if cm then .tuple #[z, .bool false]else z) w/\∀x∈es.toList,x.key≠key) \/
 ∃e0,e0∈es.toList/\e0.key=key/\(Instr.lookup t (.map (some b)) key cm).run P w=.ok (if cm then .tuple #[e0.val, .bool true]else e0.val) w:=by
 have F:Go.WideElems.Fit P k (fun v=>some (DataW.held (H:=Value) v,[])) es clock:=⟨hs,hst,fun x hx=>by
  obtain⟨l,hl⟩:=hk x hx
  exact⟨_,b5o hl⟩⟩
 rcases Go.Maps.fit_look cm K ht hz hb F hkey with⟨h1,h2,_⟩|⟨e0,_,h1,h2,h3,_⟩
 · grind
 grind
theorem ag1 {k e t:TypeId} {b:Nat} {es:Array MapEntry} {clock:Nat} (K:Go.Maps.Keyed P k) (ht:P.underlying t=some (.map k e)) (hb:w.heap[b]? = some (.map es clock)) (hs:es.size<maxLen) (hst:Go.MapKept.Stamped es clock) (hk:∀x∈es.toList,∃l,keyOf P k x.key=some l) {key val:Value} {kl:Lit} (hkey:keyOf P k key=some kl):
 ∃ es' clock',(Instr.mapUpdate t (.map (some b)) key val).run P w=.ok () (Go.ChangeMaps.setBlock w b (.map es' clock'))/\Go.MapKept.Stamped es' clock'/\es'.size<=es.size+1 /\
  (∀x'∈es'.toList,(x'∈es.toList/\x'.key≠key)\/(x'.key=key/\x'.val=val))/\(∃x'∈es'.toList,x'.key=key)/\∀x∈es.toList,∃x'∈es'.toList,x'.key=x.key:=by
 rcases K.find w hkey es.toList hk with⟨h1,h2⟩|⟨j,e0,h1,h2,h3⟩
 · refine ⟨es.push ⟨key,val,clock⟩,clock+1, ?_,Go.MapKept.stamped_push hst h2,by simp, ?_,⟨⟨key,val,clock⟩,by simp,rfl⟩,fun x hx=>⟨x,by simp only[Array.toList_push,bmg];exact .inl hx,rfl⟩⟩
   · simp[Instr.mapUpdate,run_underlying ht,MapKept.run_getObj_map hb,K.check w false hkey,h1,MapKept.run_setObj_map _ hb,Result.andThen,Go.ChangeMaps.setBlock]
   grind
 have hj:es[j]? = some e0:=by simpa using h2
 have hjl:j<es.toList.length:=(bnn.1 h2).1;have hlist:(es.modify j (fun e'=>{ e' with key:=key,val:=val })).toList=es.toList.set j { e0 with key:=key,val:=val }:=by rw[Array.toList_modify,Go.ChangeMaps.modify_eq_set _ _ _ _ h2]
 have hpw:=((Go.MapKept.stamped_iff es clock).1 hst).2.2
 have hne:∀i x,es.toList[i]? = some x->i≠j->x.key≠key:=fun i x hi hij he=>by
  have hi':=bnn.1 hi;have hj':=bnn.1 h2;obtain⟨hi1,hi2⟩:=hi';obtain⟨hj1,hj2⟩:=hj'
  rcases Nat.lt_or_gt_of_ne hij with hlt|hgt
  · have:=bn5.1 hpw i j hi1 hj1 hlt
    grind
  have:=bn5.1 hpw j i hj1 hi1 hgt
  grind
 refine⟨es.modify j (fun e'=>{ e' with key:=key,val:=val }),clock, ?_,Go.MapKept.stamped_modify hst _ _ (fun _ _=>rfl) (fun e' _ he'=>by rw[hj]at he';cases he';exact h3.symm),by simp, ?_, ?_, ?_⟩
 · simp[Instr.mapUpdate,run_underlying ht,MapKept.run_getObj_map hb,K.check w false hkey,h1,hj,h3,K.stays w hkey,MapKept.run_setObj_map _ hb,Result.andThen,Go.ChangeMaps.setBlock]
 · intro x hx
   rw[hlist]at hx;obtain⟨i,hi,ex⟩:=bmj hx;rw[boe]at ex;split at ex
   · grind
   rename_i hij;have hi':i<es.toList.length:=by simpa using hi
   exact .inl ⟨ex▸bma hi',hne i x (by rw[blz hi',ex]) (fun h=>hij h.symm)⟩
 · rw [hlist]
   exact⟨{ e0 with key:=key,val:=val },List.mem_iff_getElem.2 ⟨j,by simpa using hjl,by simp⟩,rfl⟩
 intro x hx;rw[hlist];obtain⟨i,hi,ex⟩:=bmj hx;by_cases hij:i=j
 · refine ⟨{ e0 with key:=key,val:=val },List.mem_iff_getElem.2 ⟨j,by simpa using hjl,by simp⟩, ?_⟩
   grind
 exact⟨x,List.mem_iff_getElem.2 ⟨i,by simpa using hi,by rw[boe,if_neg (fun h=>hij h.symm)];exact ex⟩,rfl⟩
def ud:Nat->List Value:=fun b=>match b with|0=>[.int .u8 0, .int .u8 1, .int .u8 28, .int .u8 2, .int .u8 29, .int .u8 14, .int .u8 24, .int .u8 3, .int .u8 30, .int .u8 22, .int .u8 20, .int .u8 15, .int .u8 25, .int .u8 17, .int .u8 4, .int .u8 8, .int .u8 31, .int .u8 27, .int .u8 13, .int .u8 23, .int .u8 21, .int .u8 19, .int .u8 16, .int .u8 7, .int .u8 26, .int .u8 12, .int .u8 18, .int .u8 6, .int .u8 11, .int .u8 5, .int .u8 10, .int .u8 9]|_=>[]
def b5k:Option (Nat×Nat):=some (172,5)
def xv(b off:Nat):Option Value:=(ud b)[off]?
def qs(m:Imm):Prop:=∀b off v,xv b off=some v->gw m b off=some v
def qs.mono(h:qs m)(hle:Imm.le m m'):qs m':=fun b off v hv=>a0o hle (h b off v hv)
end
end Go.Hx
end
namespace Go.Hx
section
open Go.RowKit
inductive HV where
 |p (x:PV)
 |ref (id n:Nat)
 |ptr (id off:Nat)
 |eptr (id n i j:Nat)
 |win (id n i m:Nat)
 |clo (g:FuncId) (k:Nat) (caps:Nat->HV)
 |row (id i k:Nat)
 |rptr (id i k r j:Nat)
 |pin (id n:Nat) (ad:Option Addr) (cap:Nat)
inductive HC where
 |one (h:HV)
 |agg (l:List HV)
inductive HR where
 |v (c:HC)
 |tup (l:List HC)
inductive aa where
 |mp (kk:KK) (n:Nat) (f:MK->Option PV)
 |bld (fr:Bool) (T e:TypeId) (l:List Value)
 |ex (d:Nat) (v:Value) (b:Nat) (x:Obj)
 |bun (B:Nat->Option Obj)
 |opq (s:Nat) (e:TypeId) (n:Nat) (R:Value->(Nat->Prop)->(Nat->Option Obj)->Prop)
 |box (l:List HV)
 |arr (wr:Bool) (s:Nat) (e:TypeId) (n:Nat) (f:Nat->Nat->PV)
 |arrh (s:Nat) (e:TypeId) (n:Nat) (ms:List Nat) (f:Nat->Nat->HV)
 |nest (e et:TypeId) (es n:Nat) (m:Nat->Nat) (g:Nat->Nat->Nat->PV) (pd:Option (Nat×Nat))
def aa.dim:aa->Option (Nat×TypeId×Nat)
 | .mp ..=>some (0,0,0)
 | .bld ..=>some (0,1,0)
 | .ex d _ _ _=>some (0,d,0)
 | .bun _=>some (0,3,0)
 | .opq s e n _=>some (s,e,n)
 | .box _=>none
 | .arr _ s e n _=>some (s,e,n)
 | .arrh s e n _ _=>some (s,e,n)
 | .nest e _ _ n _ _ none=>some (1,e,n)
 | .nest e _ _ n _ _ (some _)=>some (1,e,n+1)
abbrev ap:=Nat->Option aa
structure S where
 t:Nat->Option HR
 o:ap
abbrev Old:=Imm×Imm×(Nat->Value)×ap×(Nat->Nat->Value)
structure Ctx where
 old:Old
 imm:Imm
 tab:qs imm
 own:Nat->Value
 blk:Nat->Nat->Prop
 rows:Nat->Nat->Value
abbrev Ctx.frm(c:Ctx):Imm:=c.old.2.1
abbrev Ctx.start(c:Ctx):Ctx:={ old:=c.old,imm:=c.imm,tab:=c.tab,own:=c.old.2.2.1,blk:=c.blk,rows:=c.old.2.2.2.2 }
def b9 (c:Ctx) (o:ap):HV->Value->Prop
 | .p x,u=>aq c.imm x u
 | .ref id k,u=>u.oneCell'=true/\(∀l,o id≠some (.box l))/\∀ob s e n,o id=some ob->ob.dim=some (s,e,n)->k<=n/\(k=n->u=c.own id)
 | .ptr id off,u=>u.oneCell'=true/\(∀ob d,o id=some ob->ob.dim≠some d)/\∀l,o id=some (.box l)->∃b,c.own id=.pointer (some ⟨b,0,none⟩)/\u=.pointer (some ⟨b,off,none⟩)
 | .eptr id k i j,u=>u.oneCell'=true/\(∀l,o id≠some (.box l))/\∀ob s e n,o id=some ob->ob.dim=some (s,e,n)->k<=n/\(k=n->i<n->∃b off cap,c.own id=.slice (some ⟨b,off,none⟩) n cap/\u=.pointer (some ⟨b,off+(i*s+j),none⟩))
 | .win id k i m,u=>u.oneCell'=true/\(∀l,o id≠some (.box l))/\∀ob s e n,o id=some ob->ob.dim=some (s,e,n)->k<=n/\(k=n->∃ad ad' cap,c.own id=.slice ad n cap/\u=.slice ad' m (cap-i)/\i+m<=n/\n<=cap/\cap<=maxLen/\(i<cap->ad'=ad.map (·.add (i*s))))
 | .row id i k,u=>u.oneCell'=true/\∀e et es n m g pd,o id=some (.nest e et es n m g pd)->i<n/\k<=m i/\(k=m i->u=c.rows id i)
 | .rptr id i k r j,u=>u.oneCell'=true/\∀e et es n m g pd,o id=some (.nest e et es n m g pd)->i<n/\k<=m i/\(k=m i->r<k->∃b off cap,c.rows id i=.slice (some ⟨b,off,none⟩) k cap/\u=.pointer (some ⟨b,off+(r*es+j),none⟩))
 | .pin id k ad cap,u=>u=.slice ad k cap/\(∀l,o id≠some (.box l))/\∀ob s e n,o id=some ob->ob.dim=some (s,e,n)->k<=n/\(k=n->u=c.own id)
 | .clo g k caps,u=>∃cs:List Value,u=.func (.func g) #[] cs.toArray/\cs.length=k/\∀i,i<k->∃x,cs[i]? = some x/\b9 c o (caps i) x
def b9.oneCell {c:Ctx} {o:ap} {h:HV} {u:Value} (hr:b9 c o h u):u.oneCell'=true:=by
 cases h with
 |p x=>exact aq.oneCell (m:=c.imm) hr
 |ref id k=>exact hr.1
 |ptr id off=>exact hr.1
 |eptr id k i j=>exact hr.1
 |win id k i m=>exact hr.1
 |row id i k=>exact hr.1
 |rptr id i k r j=>exact hr.1
 |pin id n ad cap=>rw[hr.1];rfl
 |clo g k caps=>obtain⟨cs,rfl,_⟩:=hr;rfl
def b7 (c:Ctx) (o:ap):List HV->List Value->Prop
 | [],[]=>True
 |x::xs,u::us=>b9 c o x u/\b7 c o xs us
 |_,_=>False
def ey (c:Ctx) (o:ap):HC->Value->Prop
 | .one x,u=>b9 c o x u
 | .agg l,u=>∃us:List Value,u=.agg us.toArray/\b7 c o l us
def bu (c:Ctx) (o:ap):List HC->List Value->Prop
 | [],[]=>True
 |x::xs,u::us=>ey c o x u/\bu c o xs us
 |_,_=>False
def ak (c:Ctx) (o:ap):HR->Value->Prop
 | .v x,u=>ey c o x u
 | .tup l,u=>∃us:List Value,u=.tuple us.toArray/\bu c o l us
section
variable {c:Ctx}{o:ap}
def b7.length:∀{xs:List HV} {us:List Value},b7 c o xs us->us.length=xs.length
 | [],[],_=>rfl
 |x::xs,u::us,h=>by simp[h.2.length]
 | [],_::_,h=>h.elim
 |_::_,[],h=>h.elim
theorem b7.get:∀{xs:List HV} {us:List Value},b7 c o xs us->∀(i:Nat) (x:HV),xs[i]? = some x->∃u,us[i]? = some u/\b9 c o x u
 |_::_,_::_,h,0,x,hx=>by simp at hx;subst hx;exact⟨_,rfl,h.1⟩
 | _::_,_::_,h,i+1,x,hx=>by
  obtain⟨u,hu,hr⟩:=b7.get h.2 i x (by simpa using hx)
  grind
 | [],_,_,i,x,hx=>by simp at hx
 |_::_,[],h,_,_,_=>h.elim
def b7.of_get:∀{xs:List HV} {us:List Value},us.length=xs.length->(∀(i:Nat) (x:HV) (u:Value),xs[i]? = some x->us[i]? = some u->b9 c o x u)->b7 c o xs us
 | [],[],_,_=>trivial
 |x::xs,u::us,hl,h=>⟨h 0 x u rfl rfl,b7.of_get (by simpa using hl) fun i y v hy hv=>h (i+1) y v (by simpa using hy) (by simpa using hv)⟩
 | [],_::_,hl,_=>by simp at hl
 |_::_,[],hl,_=>by simp at hl
def b7.oneCell:∀{xs:List HV} {us:List Value},b7 c o xs us->∀u∈us,u.oneCell'=true
 | [],[],_,u,hu=>by cases hu
 | _::_,v::us,h,u,hu=>by
  rcases bm9.1 hu with rfl|hu
  · exact h.1.oneCell
  exact b7.oneCell h.2 u hu
 | [],_::_,h,_,_=>h.elim
 |_::_,[],h,_,_=>h.elim
def b7.append:∀{xs ys:List HV} {us vs:List Value},b7 c o xs us->b7 c o ys vs->b7 c o (xs++ys) (us++vs)
 | [],_,[],_,_,h=>h
 |_::_,_,_::_,_,h,k=>⟨h.1,b7.append h.2 k⟩
 | [],_,_::_,_,h,_=>h.elim
 |_::_,_,[],_,h,_=>h.elim
def b7.take:∀{xs:List HV} {us:List Value} (n:Nat),b7 c o xs us->b7 c o (xs.take n) (us.take n)
 |_,_,0,_=>by simp[b7]
 | [],[],n+1,_=>by simp[b7]
 |_::_,_::_,n+1,h=>⟨h.1,b7.take n h.2⟩
 | [],_::_,_,h=>h.elim
 |_::_,[],_,h=>h.elim
def b7.drop:∀{xs:List HV} {us:List Value} (n:Nat),b7 c o xs us->b7 c o (xs.drop n) (us.drop n)
 |_,_,0,h=>h
 | [],[],n+1,_=>by simp[b7]
 |_::xs,_::us,n+1,h=>b7.drop (xs:=xs) (us:=us) n h.2
 | [],_::_,_,h=>h.elim
 |_::_,[],_,h=>h.elim
def b7.of_P:∀{xs:List PV} {us:List Value},f0 c.imm xs us->b7 c o (xs.map .p) us
 | [],[],_=>trivial
 |_::_,_::_,h=>⟨h.1,b7.of_P h.2⟩
 | [],_::_,h=>h.elim
 |_::_,[],h=>h.elim
def PC.toH:PC->HC
 | .one x=>.one (.p x)
 | .agg l=>.agg (l.map .p)
def PR.toH:PR->HR
 | .v x=>.v x.toH
 | .tup l=>.tup (l.map PC.toH)
def ey.of_P {x:PC} {u:Value} (h:jm c.imm x u):ey c o x.toH u:=by
 cases x with
 |one x=>exact h
 |agg l=>obtain⟨us,e,hl⟩:=h;exact⟨us,e,b7.of_P hl⟩
def bu.of_P:∀{xs:List PC} {us:List Value},bz c.imm xs us->bu c o (xs.map PC.toH) us
 | [],[],_=>trivial
 |_::_,_::_,h=>⟨ey.of_P h.1,bu.of_P h.2⟩
 | [],_::_,h=>h.elim
 |_::_,[],h=>h.elim
def ak.of_P {x:PR} {u:Value} (h:oe c.imm x u):ak c o x.toH u:=by
 cases x with
 |v x=>exact ey.of_P h
 |tup l=>obtain⟨us,e,hl⟩:=h;exact⟨us,e,bu.of_P hl⟩
theorem bu.get:∀{xs:List HC} {us:List Value},bu c o xs us->∀(i:Nat) (x:HC),xs[i]? = some x->∃u,us[i]? = some u/\ey c o x u
 |_::_,_::_,h,0,x,hx=>by simp at hx;subst hx;exact⟨_,rfl,h.1⟩
 | _::_,_::_,h,i+1,x,hx=>by
  obtain⟨u,hu,hr⟩:=bu.get h.2 i x (by simpa using hx)
  grind
 | [],_,_,i,x,hx=>by simp at hx
 |_::_,[],h,_,_,_=>h.elim
end
def HV.men:HV->Nat->Prop
 | .p _,_=>False
 | .ref id _,k=>k=id
 | .ptr id _,k=>k=id
 | .eptr id _ _ _,k=>k=id
 | .win id _ _ _,k=>k=id
 | .clo _ n caps,k=>∃i,i<n/\(caps i).men k
 | .row id _ _,k=>k=id
 | .rptr id _ _ _ _,k=>k=id
 | .pin id _ _ _,k=>k=id
def HC.men:HC->Nat->Prop
 | .one h,k=>h.men k
 | .agg l,k=>∃h∈l,h.men k
def HR.men:HR->Nat->Prop
 | .v x,k=>x.men k
 | .tup l,k=>∃x∈l,x.men k
def aa.men:aa->Nat->Prop
 | .mp ..,_=>False
 | .bld ..,_=>False
 | .ex ..,_=>False
 | .bun _,_=>False
 | .opq ..,_=>False
 | .box l,k=>∃h∈l,h.men k
 | .arr ..,_=>False
 | .arrh _ _ _ ms _,k=>k∈ms
 | .nest _ _ _ _ _ _ (some p),k=>k=p.1
 | .nest _ _ _ _ _ _ none,_=>False
def NM(s:S)(k:Nat):Prop:=(∀d x,s.t d=some x->¬x.men k)/\(∀id ob,s.o id=some ob->¬ob.men k)/\k<1000
def dt (c:Ctx) (ob:aa) (c':Ctx) (ob':aa) (id:Nat):Prop :=
 ∀e et es n m g pd,ob'=.nest e et es n m g pd->∃e0 et0 n0 m0 g0 pd0,ob=.nest e0 et0 es n0 m0 g0 pd0/\n0<=n/\∀i,i<n0->m0 i<=m i/\(m i=m0 i->c'.rows id i=c.rows id i)
def dt.same{c c':Ctx}{ob:aa}{id:Nat}(h:c'.rows id=c.rows id):dt c ob c' ob id:=fun e et es n m g pd hb=>⟨e,et,n,m,g,pd,hb,bm1 _,fun i _=>⟨bm1 _,fun _=>by rw[h]⟩⟩
def Evo (c:Ctx) (o:ap) (c':Ctx) (o':ap) (id:Nat):Prop :=
 o' id=none\/(∃l l',o id=some (.box l)/\o' id=some (.box l')/\c'.own id=c.own id) \/
 (∃ob ob' s e n n',o id=some ob/\ob.dim=some (s,e,n)/\o' id=some ob'/\ob'.dim=some (s,e,n')/\n<=n'/\(n'=n->c'.own id=c.own id)/\dt c ob c' ob' id)
theorem Evo.refl (c:Ctx) (o:ap) (id:Nat):Evo c o c o id:=by
 cases h:o id with
 |none=>exact .inl h
 | some ob =>
  cases ob with
  |box l=>exact .inr (.inl ⟨l,l,h,h,rfl⟩)
  |mp kk n f=>exact .inr (.inr ⟨_,_,0,0,0,0,h,rfl,h,rfl,bm1 _,fun _=>rfl,dt.same rfl⟩)
  |bld fr T e l=>exact .inr (.inr ⟨_,_,0,1,0,0,h,rfl,h,rfl,bm1 _,fun _=>rfl,dt.same rfl⟩)
  |ex d v b x=>exact .inr (.inr ⟨_,_,0,d,0,0,h,rfl,h,rfl,bm1 _,fun _=>rfl,dt.same rfl⟩)
  |bun B=>exact .inr (.inr ⟨_,_,0,3,0,0,h,rfl,h,rfl,bm1 _,fun _=>rfl,dt.same rfl⟩)
  |opq s e n R=>exact .inr (.inr ⟨_,_,s,e,n,n,h,rfl,h,rfl,bm1 _,fun _=>rfl,dt.same rfl⟩)
  |arr wr s e n f=>exact .inr (.inr ⟨_,_,s,e,n,n,h,rfl,h,rfl,bm1 _,fun _=>rfl,dt.same rfl⟩)
  |arrh s e n ms f=>exact .inr (.inr ⟨_,_,s,e,n,n,h,rfl,h,rfl,bm1 _,fun _=>rfl,dt.same rfl⟩)
  |nest e et es n m g pd=>cases pd<;>exact .inr (.inr ⟨_,_,1,e,_,_,h,rfl,h,rfl,bm1 _,fun _=>rfl,dt.same rfl⟩)
theorem Evo.trans {c c' c'':Ctx} {o o' o'':ap} {id:Nat} (h:Evo c o c' o' id) (k:Evo c' o' c'' o'' id):Evo c o c'' o'' id:=by
 rcases k with k|⟨l,l',k1,k2,k3⟩|⟨ob,ob',s,e,n,n',k1,k1',k2,k2',k3,k4,k5⟩
 · exact .inl k
 · rcases h with h|⟨m,m',h1,h2,h3⟩|⟨oa,oa',s,e,n,n',h1,h1',h2,h2',h3,h4,_⟩
   · grind
   · exact .inr (.inl ⟨m,l',h1,k2,k3.trans h3⟩)
   rw[h2]at k1;simp only[bly]at k1;subst k1;cases h2'
 rcases h with h|⟨m,m',h1,h2,h3⟩|⟨oa,oa',s2,e2,m,m',h1,h1',h2,h2',h3,h4,h5⟩
 · grind
 · rw[h2]at k1;simp only[bly]at k1;subst k1;cases k1'
 rw[h2]at k1;simp only[bly]at k1;subst k1;rw[h2']at k1';simp only[bly,bm4]at k1';obtain⟨rfl,rfl,rfl⟩:=k1'
 exact .inr (.inr ⟨oa,ob',_,_,m,n',h1,h1',k2,k2',by omega,fun hn=>by rw[k4 bpw,h4 bpw],fun e et es n m g pd hb=>by
  obtain⟨e0,et0,n0,m0,g0,pd0,q1,q2,q3⟩:=k5 e et es n m g pd hb;obtain⟨e1,et1,n1,m1,g1,pd1,r1,r2,r3⟩:=h5 _ _ _ _ _ _ _ q1;refine⟨e1,et1,n1,m1,g1,pd1,r1,bme r2 q2,fun i hi=>?_⟩;obtain⟨a1,a2⟩:=r3 i hi;obtain⟨b1,b2⟩:=q3 i (bp4 hi r2)
  exact⟨bme a1 b1,fun hm=>by rw[b2 bpw,a2 bpw]⟩⟩)
theorem Evo.of_same {c c':Ctx} {o o':ap} {id:Nat} (h:o' id=o id) (hw:c'.own id=c.own id) (hr:c'.rows id=c.rows id:=by first|rfl|assumption|simp):Evo c o c' o' id:=by
 cases ho:o id with
 |none=>exact .inl (h.trans ho)
 | some ob =>
  cases ob with
  |box l=>exact .inr (.inl ⟨l,l,ho,h.trans ho,hw⟩)
  |mp kk n f=>exact .inr (.inr ⟨_,_,0,0,0,0,ho,rfl,h.trans ho,rfl,bm1 _,fun _=>hw,dt.same hr⟩)
  |bld fr T e l=>exact .inr (.inr ⟨_,_,0,1,0,0,ho,rfl,h.trans ho,rfl,bm1 _,fun _=>hw,dt.same hr⟩)
  |ex d v b x=>exact .inr (.inr ⟨_,_,0,d,0,0,ho,rfl,h.trans ho,rfl,bm1 _,fun _=>hw,dt.same hr⟩)
  |bun B=>exact .inr (.inr ⟨_,_,0,3,0,0,ho,rfl,h.trans ho,rfl,bm1 _,fun _=>hw,dt.same hr⟩)
  |opq s e n R=>exact .inr (.inr ⟨_,_,s,e,n,n,ho,rfl,h.trans ho,rfl,bm1 _,fun _=>hw,dt.same hr⟩)
  |arr wr s e n f=>exact .inr (.inr ⟨_,_,s,e,n,n,ho,rfl,h.trans ho,rfl,bm1 _,fun _=>hw,dt.same hr⟩)
  |arrh s e n ms f=>exact .inr (.inr ⟨_,_,s,e,n,n,ho,rfl,h.trans ho,rfl,bm1 _,fun _=>hw,dt.same hr⟩)
  |nest e et es n m g pd=>cases pd<;>exact .inr (.inr ⟨_,_,1,e,_,_,ho,rfl,h.trans ho,rfl,bm1 _,fun _=>hw,dt.same hr⟩)
section
variable {c c':Ctx}{o o':ap}
theorem b9.evo {h:HV} {u:Value} (hi:Imm.le c.imm c'.imm) (he:∀id,h.men id->Evo c o c' o' id) (hr:b9 c o h u):b9 c' o' h u:=by
 induction h generalizing u with
 |p x=>exact aq.mono hi hr
 | ref id k =>
  obtain⟨h1,h2,h3⟩:=hr
  rcases he id rfl with h|⟨l,l',hl,hl',_⟩|⟨oa,ob,s,e,n,n',ha,hd,ha',hd',hn,hw,_⟩
  · exact⟨h1,fun l=>by simp[h],fun ob s e n hob=>by simp[h]at hob⟩
  · grind
  refine⟨h1,fun l hl=>?_,fun ob2 s2 e2 n2 h hd2=>?_⟩
  · rw[ha']at hl;simp only[bly]at hl;subst hl;cases hd'
  grind
 | ptr id off =>
  obtain⟨h1,h2,h3⟩:=hr
  rcases he id rfl with h|⟨l,l',hl,hl',hw⟩|⟨oa,ob,s,e,n,n',ha,hd,ha',hd',hn,hw,_⟩
  · exact⟨h1,fun ob d hob=>by simp[h]at hob,fun l=>by simp[h]⟩
  · refine ⟨h1,fun ob d hob=>by rw[hl']at hob;simp only[bly]at hob;subst hob;simp[aa.dim],fun l2 h=>?_⟩
    grind
  grind
 | eptr id k i j =>
  obtain⟨h1,h2,h3⟩:=hr
  rcases he id rfl with h|⟨l,l',hl,hl',_⟩|⟨oa,ob,s,e,n,n',ha,hd,ha',hd',hn,hw,_⟩
  · exact⟨h1,fun l=>by simp[h],fun ob s e n hob=>by simp[h]at hob⟩
  · grind
  refine⟨h1,fun l hl=>?_,fun ob2 s2 e2 n2 h hd2=>?_⟩
  · rw[ha']at hl;simp only[bly]at hl;subst hl;cases hd'
  grind
 | win id k i m =>
  obtain⟨h1,h2,h3⟩:=hr
  rcases he id rfl with h|⟨l,l',hl,hl',_⟩|⟨oa,ob,s,e,n,n',ha,hd,ha',hd',hn,hw,_⟩
  · exact⟨h1,fun l=>by simp[h],fun ob s e n hob=>by simp[h]at hob⟩
  · grind
  refine⟨h1,fun l hl=>?_,fun ob2 s2 e2 n2 h hd2=>?_⟩
  · rw[ha']at hl;simp only[bly]at hl;subst hl;cases hd'
  rw[ha']at h;simp only[bly]at h
  grind
 | row id i k =>
  obtain⟨h1,h2⟩:=hr;refine⟨h1,fun e et es n m g pd hn=>?_⟩
  rcases he id rfl with h|⟨l,l',hl,hl',_⟩|⟨oa,ob,s,e,n,n',ha,hd,ha',hd',_,_,hk⟩
  · grind
  · grind
  rw[ha']at hn;simp only[bly]at hn;obtain⟨e0,et0,n0,m0,g0,pd0,q1,q2,q3⟩:=hk _ _ _ _ _ _ _ hn
  grind
 | rptr id i k r j =>
  obtain⟨h1,h2⟩:=hr;refine⟨h1,fun e et es n m g pd hn=>?_⟩
  rcases he id rfl with h|⟨l,l',hl,hl',_⟩|⟨oa,ob,s,e,n,n',ha,hd,ha',hd',_,_,hk⟩
  · grind
  · grind
  rw[ha']at hn;simp only[bly]at hn;obtain⟨e0,et0,n0,m0,g0,pd0,q1,q2,q3⟩:=hk _ _ _ _ _ _ _ hn
  grind
 | pin id k ad cap =>
  obtain⟨h1,h2,h3⟩:=hr
  rcases he id rfl with h|⟨l,l',hl,hl',_⟩|⟨oa,ob,s,e,n,n',ha,hd,ha',hd',hn,hw,_⟩
  · exact⟨h1,fun l=>by simp[h],fun ob s e n hob=>by simp[h]at hob⟩
  · grind
  refine⟨h1,fun l hl=>?_,fun ob2 s2 e2 n2 h hd2=>?_⟩
  · rw[ha']at hl;simp only[bly]at hl;subst hl;cases hd'
  grind
 | clo g k caps ih =>
  obtain⟨cs,rfl,h2,h3⟩:=hr
  exact ⟨cs,rfl,h2,fun i hi=>by
   obtain⟨x,hx,hrx⟩:=h3 i hi
   exact⟨x,hx,ih i (fun id hm=>he id ⟨i,hi,hm⟩) hrx⟩⟩
def b7.evo (hi:Imm.le c.imm c'.imm):∀{xs:List HV} {us:List Value},(∀id,(∃h∈xs,h.men id)->Evo c o c' o' id)->b7 c o xs us->b7 c' o' xs us
 | [],[],_,_=>trivial
 |x::xs,u::us,he,h=>⟨h.1.evo hi fun id hm=>he id ⟨x,by simp,hm⟩,b7.evo hi (fun id ⟨y,hy,hm⟩=>he id ⟨y,by simp[hy],hm⟩) h.2⟩
 | [],_::_,_,h=>h.elim
 |_::_,[],_,h=>h.elim
def ey.evo {x:HC} {u:Value} (hi:Imm.le c.imm c'.imm) (he:∀id,x.men id->Evo c o c' o' id) (hr:ey c o x u):ey c' o' x u:=by
 cases x with
 |one h=>exact b9.evo hi he hr
 |agg l=>obtain⟨us,e,hl⟩:=hr;exact⟨us,e,b7.evo hi he hl⟩
def bu.evo (hi:Imm.le c.imm c'.imm):∀{xs:List HC} {us:List Value},(∀id,(∃h∈xs,h.men id)->Evo c o c' o' id)->bu c o xs us->bu c' o' xs us
 | [],[],_,_=>trivial
 |x::xs,u::us,he,h=>⟨h.1.evo hi fun id hm=>he id ⟨x,by simp,hm⟩,bu.evo hi (fun id ⟨y,hy,hm⟩=>he id ⟨y,by simp[hy],hm⟩) h.2⟩
 | [],_::_,_,h=>h.elim
 |_::_,[],_,h=>h.elim
def ak.evo {x:HR} {u:Value} (hi:Imm.le c.imm c'.imm) (he:∀id,x.men id->Evo c o c' o' id) (hr:ak c o x u):ak c' o' x u:=by
 cases x with
 |v x=>exact ey.evo hi he hr
 |tup l=>obtain⟨us,e,hl⟩:=hr;exact⟨us,e,bu.evo hi he hl⟩
end
def noB:Nat->Prop:=fun _=>False
def wk(b:Nat):Nat->Prop:=fun b'=>b'=b
def bgh (base:Nat) (c:Ctx) (w:World) (id:Nat) (kk:KK) (n:Nat) (f:MK->Option PV):Prop :=
 ∃ b es clock,c.own id=.map (some b)/\c.blk id=wk b/\(base<=b/\kk.has b)/\w.heap[b]? = some (.map es clock)/\Go.MapKept.Stamped es clock/\es.size<=n/\es.size<=maxLen /\
  (∀x∈es.toList,∃key y,x.key=key.val/\f key=some y/\aq c.imm y x.val)/\∀key y,f key=some y->MK.ok kk key/\∃x∈es.toList,x.key=key.val
def so:Obj->Bool
 | .cells ..=>true
 | .map ..=>true
 | .mapIter ..=>true
 |_=>false
def bfc(base:Nat)(c:Ctx)(w:World)(id:Nat)(B:Nat->Option Obj):Prop:=(∀b,c.blk id b->B b≠none)/\∀b x,B b=some x->c.blk id b/\base<=b/\w.heap[b]? = some x/\so x=true
noncomputable def onB (bk:Nat->Prop) (w:World):Nat->Option Obj:=fun b=>by
 classical exact if bk b then w.heap[b]? else none
section
variable {b:Nat}{w:World}
def a23 {bk:Nat->Prop} (h:bk b):onB bk w b=w.heap[b]?:=by
 unfold onB;exact if_pos h
variable {w':World}
theorem awt {bk:Nat->Prop} (h:∀b,bk b->w'.heap[b]? = w.heap[b]?):onB bk w'=onB bk w:=by
 funext b;unfold onB
 grind
def bfy (base:Nat) (c:Ctx) (w:World) (id:Nat) (R:Value->(Nat->Prop)->(Nat->Option Obj)->Prop):Prop :=
 (∀b,c.blk id b->base<=b/\∃x,w.heap[b]? = some x/\so x=true)/\(c.own id).oneCell'=true/\R (c.own id) (c.blk id) (onB (c.blk id) w)
def bi7(base:Nat)(c:Ctx)(w:World)(id:Nat)(v:Value)(b:Nat)(x:Obj):Prop:=c.own id=v/\c.blk id=wk b/\base<=b/\w.heap[b]? = some x/\so x=true
def cg:Value->Option Nat
 | .pointer (some a)=>some a.block
 | .slice (some a) _ _=>some a.block
 |_=>none
def ep(v:Value):Nat->Prop:=fun b=>cg v=some b
variable {v:Value}
def afr (h:cg v=none):ep v=noB:=by
 funext b;simp[ep,noB,h]
def b1v (base:Nat) (c:Ctx) (w:World) (id:Nat) (fr:Bool) (T e:TypeId) (l:List Value):Prop :=
 ∃ b p v,c.own id=.pointer (some ⟨b,0,none⟩)/\base<=b/\w.heap[b]? = some (.cells #[p,v] T (0,0))/\(p=.pointer none\/p=.pointer (some ⟨b,0,none⟩))/\w.ownsRow base e 1 v l.length l/\cg v≠some b /\
  (∀k,c.blk id k<->k=b\/cg v=some k)/\(fr=true->p=.pointer none/\v=.slice none 0 0)
def mj:Option (Nat×Nat)->Nat
 |none=>0
 |some _=>1
def au:Value->Option Nat
 | .slice (some a) _ cap=>if cap=0 then none else some a.block
 |_=>none
variable {g:Nat->Nat->Nat->PV}{n:Nat}{pd:Option (Nat×Nat)}
def a3u{e et:TypeId}{es:Nat}{m:Nat->Nat}:(aa.nest e et es n m g pd).dim=some (1,e,n+mj pd):=by cases pd<;>rfl
structure jt (base:Nat) (c:Ctx) (o:ap) (w:World) (id:Nat) (e et:TypeId) (es n:Nat) (m:Nat->Nat) (g:Nat->Nat->Nat->PV) (pd:Option (Nat×Nat)):Prop where
 pos:0<es
 len:n+mj pd<=maxLen
 lens:∀i,i<n->m i<=maxLen
 blks:∀b,c.blk id b<->(au (c.own id)=some b\/∃i,i<n/\au (c.rows id i)=some b)
 apart:∀i b,i<n->au (c.rows id i)=some b->au (c.own id)≠some b/\∀i',i'<n->au (c.rows id i')=some b->i'=i
 row:∀i,i<n->(m i=0/\∃a,c.rows id i=.slice a 0 0)\/∃ys,w.ownsRow base et es (c.rows id i) (m i) ys/\∀r j,r<m i->j<es->∃x,ys[r*es+j]? = some x/\aq c.imm (g i r j) x
 top:(n+mj pd=0/\∃a,c.own id=.slice a 0 0)\/∃xs,w.ownsRow base e 1 (c.own id) (n+mj pd) xs/\(∀i,i<n->xs[i]? = some (c.rows id i))/\∀p,pd=some p->∃x,xs[n]? = some x/\b9 c o (.ref p.1 p.2) x
def dq(base:Nat)(c:Ctx)(o:ap)(w:World)(id:Nat):aa->Prop
 | .nest e et es n m g pd=>jt base c o w id e et es n m g pd
 | .mp kk n f=>bgh base c w id kk n f
 | .bld fr T e l=>b1v base c w id fr T e l
 | .ex _ v b x=>bi7 base c w id v b x
 | .bun B=>bfc base c w id B
 | .opq _ _ _ R=>bfy base c w id R
 | .box l=>∃b C e,c.own id=.pointer (some ⟨b,0,none⟩)/\c.blk id=wk b/\base<=b/\w.heap[b]? = some (.cells C e (0,0))/\b7 c o l C.toList
 | .arr wr s e n f=>0<s/\n<=maxLen /\
  ((c.blk id=ep (c.own id)/\∃xs,w.ownsRow base e s (c.own id) n xs/\∀i j,i<n->j<s->∃x,xs[i*s+j]? = some x/\aq c.imm (f i j) x) \/
   ((wr=false\/n=0)/\c.blk id=noB/\aq c.imm (.sl n s true f) (c.own id)))
 | .arrh s e n ms f=>0<s/\n<=maxLen/\(∀i j k,i<n->j<s->(f i j).men k->k∈ms) /\
  ((c.blk id=ep (c.own id)/\∃xs,w.ownsRow base e s (c.own id) n xs/\∀i j,i<n->j<s->∃x,xs[i*s+j]? = some x/\b9 c o (f i j) x) \/
   (n=0/\c.blk id=noB/\aq c.imm (.sl 0 s true fun _ _=>.any) (c.own id)))
variable {base:Nat}{xs:List Value}
def mt {e s:Nat} (h:w.ownsRow base e s v n xs) (hb:∀b,cg v=some b->w'.heap[b]? = w.heap[b]?):w'.ownsRow base e s v n xs:=by
 refine⟨h.1, ?_⟩
 rcases h.2 with h2|⟨g,cap,cur,hv,hg,hh,r⟩
 · exact .inl h2
 exact .inr ⟨g,cap,cur,hv,hg,(hb g (by rw[hv];rfl)).trans hh,r⟩
theorem fh {e s:Nat} (h:w.ownsRow base e s v n xs):(n=0/\∃a,v=.slice a 0 0)\/∃b cap,v=.slice (some ⟨b,0,none⟩) n cap/\au v=some b:=by
 rcases h.2 with⟨h2,h3⟩|⟨g,cap,cur,hv,hg,hh,hc,r⟩
 · grind
 by_cases h0:cap=0
 · grind
 refine .inr ⟨g,cap,hv, ?_⟩;rw[hv];simp[au,h0]
variable {id:Nat}
theorem dq.keep {c c':Ctx} {o o':ap} {ob:aa} (h:dq base c o w id ob) (hi:Imm.le c.imm c'.imm) (hw:c'.own id=c.own id) (hk:c'.blk id=c.blk id) (he:∀k,ob.men k->Evo c o c' o' k) (hb:∀b,c.blk id b->w'.heap[b]? = w.heap[b]?) (hrs:c'.rows id=c.rows id:=by first|rfl|assumption|simp):dq base c' o' w' id ob:=by
 cases ob with
 | nest e et es n m g pd =>
  obtain⟨q1,q2,q3,q4,q5,q6,q789⟩:=h;refine⟨q1,q2,q3,by rw[hw,hk,hrs];exact q4,by rw[hw,hrs];exact q5,fun i hi'=>?_, ?_⟩
  · rw [hrs]
    rcases q6 i hi' with r0|⟨ys,r1,r2⟩
    · exact .inl r0
    rcases fh r1 with r0|⟨b,cap,rv,rb⟩
    · exact .inl r0
    refine .inr ⟨ys,mt r1 fun b' hbb=>?_,fun r j hr hj=>?_⟩
    · rw [rv]at hbb
      simp only[cg,bly]at hbb
      grind
    obtain⟨x,hx,hxr⟩:=r2 r j hr hj;exact⟨x,hx,hxr.mono hi⟩
  rw[hw,hrs]
  rcases q789 with r0|⟨xs,q7,q8,q9⟩
  · exact .inl r0
  rcases fh q7 with r0|⟨b,cap,rv,rb⟩
  · exact .inl r0
  refine .inr ⟨xs,mt q7 fun b' hbb=>?_,q8,fun p hp=>?_⟩
  · rw [rv]at hbb
    simp only[cg,bly]at hbb
    grind
  obtain⟨x,hx,hxr⟩:=q9 p hp;subst hp;exact⟨x,hx,hxr.evo hi fun k hkm=>he k hkm⟩
 | mp kk n f =>
  obtain⟨b,es,clock,h1,h2,h3,h4,h5,h6,h7,h8,h9⟩:=h
  exact ⟨b,es,clock,hw.trans h1,hk.trans h2,h3,(hb b (by rw[h2];rfl)).trans h4,h5,h6,h7,fun x hx=>by
   obtain⟨key,y,q1,q2,q3⟩:=h8 x hx
   exact⟨key,y,q1,q2,q3.mono hi⟩,h9⟩
 | ex d v b' x =>
  obtain⟨h1,h2,h3,h4,h5⟩:=h;exact⟨hw.trans h1,hk.trans h2,h3,(hb b' (by rw[h2];rfl)).trans h4,h5⟩
 | bun B =>
  obtain⟨h1,h2⟩:=h
  exact ⟨fun b hbb=>h1 b (by rwa [hk]at hbb),fun b x hB=>by
   obtain⟨q1,q2,q3,q4⟩:=h2 b x hB
   exact⟨by rw[hk];exact q1,q2,(hb b q1).trans q3,q4⟩⟩
 | opq s e n R =>
  obtain⟨h1,h2,h3⟩:=h;refine⟨fun b hbb=>?_,by rw[hw];exact h2, ?_⟩
  · simp_all
  rw[hw,hk,awt hb];exact h3
 | bld fr T e l =>
  obtain⟨b,p,v,h1,h2,h3,h4,h5,h6,h7,h8⟩:=h;exact⟨b,p,v,hw.trans h1,h2,(hb b ((h7 b).2 (.inl rfl))).trans h3,h4,mt h5 fun k hk=>hb k ((h7 k).2 (.inr hk)),h6,(fun k=>by rw[hk];exact h7 k),h8⟩
 | box l =>
  obtain⟨b,C,e,h1,h1',h2,h3,h4⟩:=h;exact⟨b,C,e,hw.trans h1,hk.trans h1',h2,(hb b (by rw[h1'];rfl)).trans h3,h4.evo hi he⟩
 | arr wr s e n f =>
  obtain⟨h0,h1,h5⟩:=h;refine⟨h0,h1, ?_⟩
  rcases h5 with⟨h6,xs,h2,h3⟩|⟨h6,h7,h8⟩
  · refine .inl ⟨by rw[hw,hk,h6],xs, ?_,fun i j hi' hj=>by
     obtain⟨x,hx,hr⟩:=h3 i j hi' hj
     exact⟨x,hx,hr.mono hi⟩⟩
    rw[hw];refine⟨h2.1, ?_⟩
    rcases h2.2 with h2|⟨g,cap,cur,hv,hg,hh,r⟩
    · exact .inl h2
    exact .inr ⟨g,cap,cur,hv,hg,(hb g (by rw[h6,hv];rfl)).trans hh,r⟩
  exact .inr ⟨h6,hk.trans h7,by rw[hw];exact aq.mono hi h8⟩
 | arrh s e n ms f =>
  obtain⟨h0,h1,h7,h8⟩:=h;refine⟨h0,h1,h7, ?_⟩
  rcases h8 with⟨h6,xs,h2,h3⟩|⟨h6,h9,h8⟩
  · refine .inl ⟨by rw[hw,hk,h6],xs, ?_,fun i j hi' hj=>by
     obtain⟨x,hx,hr⟩:=h3 i j hi' hj
     exact⟨x,hx,hr.evo hi fun k hk=>he k (h7 i j k hi' hj hk)⟩⟩
    rw[hw];refine⟨h2.1, ?_⟩
    rcases h2.2 with h2|⟨g,cap,cur,hv,hg,hh,r⟩
    · exact .inl h2
    exact .inr ⟨g,cap,cur,hv,hg,(hb g (by rw[h6,hv];rfl)).trans hh,r⟩
  exact .inr ⟨h6,hk.trans h9,by rw[hw];exact aq.mono hi h8⟩
theorem vm {e s:Nat} (h:w.ownsRow base e s v n xs) (hb:cg v=some b):base<=b/\∃cs fr,w.heap[b]? = some (.cells cs e fr):=by
 rcases h.2 with⟨h2,_⟩|⟨g,cap,cur,hv,hg,hh,r⟩
 · rw[h2]at hb;cases hb
 rw[hv]at hb;simp only[cg,bly]at hb
 grind
theorem jt.block {c:Ctx} {o:ap} {e et:TypeId} {es:Nat} {m:Nat->Nat} (h:jt base c o w id e et es n m g pd) (hb:c.blk id b):base<=b/\∃cs e fr,w.heap[b]? = some (.cells cs e fr):=by
 rcases(h.blks b).1 hb with h1|⟨i,hi,h1⟩
 · rcases h.top with⟨_,a,h2⟩|⟨xs,h2,_⟩
   · rw [h2]at h1
     cases a<;>simp[au]at h1
   have h3:cg (c.own id)=some b:=by
    rcases fh h2 with⟨_,a,rv⟩|⟨b',cap,rv,rb⟩
    · rw [rv]at h1
      cases a<;>simp[au]at h1
    rw[rb]at h1;cases h1;rw[rv];rfl
   obtain⟨r1,cs,fr,r2⟩:=vm h2 h3
   grind
 rcases h.row i hi with⟨_,a,h2⟩|⟨ys,h2,_⟩
 · rw [h2]at h1
   cases a<;>simp[au]at h1
 have h3:cg (c.rows id i)=some b:=by
  rcases fh h2 with⟨_,a,rv⟩|⟨b',cap,rv,rb⟩
  · rw [rv]at h1
    cases a<;>simp[au]at h1
  rw[rb]at h1;cases h1;rw[rv];rfl
 obtain⟨r1,cs,fr,r2⟩:=vm h2 h3
 grind
theorem dq.blk {c:Ctx} {o:ap} {ob:aa} (h:dq base c o w id ob) (hb:c.blk id b):base<=b/\b<w.heap.size:=by
 cases ob with
 | nest e et es n m g pd =>
  obtain⟨h1,cs,e,fr,h2⟩:=jt.block h hb
  grind
 | mp kk n f =>
  obtain⟨b',es,clock,h1,h2,h3,h4,_⟩:=h;rw[h2]at hb;have hb:b=b':=hb
  grind
 | ex d v b' x =>
  obtain⟨h1,h2,h3,h4,_⟩:=h;rw[h2]at hb;have hb:b=b':=hb
  grind
 | opq s e n R =>
  obtain⟨q1,x,q2,q3⟩:=h.1 b hb
  grind
 | bun B =>
  cases hB:B b with
  |none=>exact absurd hB (h.1 b hb)
  | some x =>
   obtain⟨_,q2,q3,_⟩:=h.2 b x hB
   grind
 | bld fr T e l =>
  obtain⟨b',p,v,h1,h2,h3,h4,h5,h6,h7,_⟩:=h
  rcases(h7 b).1 hb with rfl|hb
  · grind
  obtain⟨q1,cs,fr,q2⟩:=vm h5 hb
  grind
 | box l =>
  obtain⟨b',C,e,h1,h1',h2,h3,h4⟩:=h;rw[h1']at hb;have hb:b=b':=hb
  grind
 | arr wr s e n f =>
  obtain⟨h0,h1,h5⟩:=h
  rcases h5 with⟨h6,xs,h2,h3⟩|⟨h6,h7,h8⟩
  · rw [h6]at hb
    rcases h2.2 with⟨h2,_⟩|⟨g,cap,cur,hv,hg,hh,r⟩
    · rw[h2]at hb;cases hb
    rw[hv]at hb;simp only[ep,cg,bly]at hb
    grind
  rw[h7]at hb;exact hb.elim
 | arrh s e n ms f =>
  obtain⟨h0,h1,h7,h8⟩:=h
  rcases h8 with⟨h6,xs,h2,h3⟩|⟨h6,h9,h8⟩
  · rw [h6]at hb
    rcases h2.2 with⟨h2,_⟩|⟨g,cap,cur,hv,hg,hh,r⟩
    · rw[h2]at hb;cases hb
    rw[hv]at hb;simp only[ep,cg,bly]at hb
    grind
  rw[h9]at hb;exact hb.elim
theorem dq.data {c:Ctx} {o:ap} {ob:aa} (h:dq base c o w id ob) (hb:c.blk id b):∃x,w.heap[b]? = some x/\so x=true:=by
 cases ob with
 | nest e et es n m g pd =>
  obtain⟨h1,cs,e,fr,h2⟩:=jt.block h hb;exact⟨_,h2,rfl⟩
 | mp kk n f =>
  obtain⟨b',es,clock,h1,h2,h3,h4,_⟩:=h;rw[h2]at hb;have hb:b=b':=hb;subst hb;exact⟨_,h4,rfl⟩
 | ex d v b' x =>
  obtain⟨h1,h2,h3,h4,h5⟩:=h;rw[h2]at hb;have hb:b=b':=hb
  grind
 | opq s e n R =>
  obtain⟨q1,x,q2,q3⟩:=h.1 b hb
  grind
 | bun B =>
  cases hB:B b with
  |none=>exact absurd hB (h.1 b hb)
  | some x =>
   obtain⟨_,_,q3,q4⟩:=h.2 b x hB
   grind
 | bld fr T e l =>
  obtain⟨b',p,v,h1,h2,h3,h4,h5,h6,h7,_⟩:=h
  rcases(h7 b).1 hb with rfl|hb
  · exact⟨_,h3,rfl⟩
  obtain⟨q1,cs,fr,q2⟩:=vm h5 hb;exact⟨_,q2,rfl⟩
 | box l =>
  obtain⟨b',C,e,h1,h1',h2,h3,h4⟩:=h;rw[h1']at hb;have hb:b=b':=hb;subst hb;exact⟨_,h3,rfl⟩
 | arr wr s e n f =>
  obtain⟨h0,h1,h5⟩:=h
  rcases h5 with⟨h6,xs,h2,h3⟩|⟨h6,h7,h8⟩
  · rw [h6]at hb
    rcases h2.2 with⟨h2,_⟩|⟨g,cap,cur,hv,hg,hh,r⟩
    · rw[h2]at hb;cases hb
    rw[hv]at hb;simp only[ep,cg,bly]at hb;subst hb;exact⟨_,hh,rfl⟩
  rw[h7]at hb;exact hb.elim
 | arrh s e n ms f =>
  obtain⟨h0,h1,h7,h8⟩:=h
  rcases h8 with⟨h6,xs,h2,h3⟩|⟨h6,h9,h8⟩
  · rw [h6]at hb
    rcases h2.2 with⟨h2,_⟩|⟨g,cap,cur,hv,hg,hh,r⟩
    · rw[h2]at hb;cases hb
    rw[hv]at hb;simp only[ep,cg,bly]at hb;subst hb;exact⟨_,hh,rfl⟩
  rw[h9]at hb;exact hb.elim
def py (w0:World) (imm frm:Imm) (l:List Deferred) (w:World):Prop :=
 l.Pairwise (·≠·)/\∀d∈l,∃D,d={ target:=.collected D,args:=#[] }/\w.heap[D]? = some (.deferred (some []))/\imm D=none/\frm D=none/\w0.heap.size<=D
def py.nil(w0:World)(imm frm:Imm)(w:World):py w0 imm frm [] w:=⟨List.Pairwise.nil,fun _ h=>by cases h⟩
def py.keep {w0:World} {imm imm' frm:Imm} {l:List Deferred} (h:py w0 imm frm l w) (hb:∀D:Nat,w.heap[D]? = some (.deferred (some []))->w'.heap[D]? = w.heap[D]?) (hi:∀D:Nat,imm D=none->w.heap[D]? = some (.deferred (some []))->imm' D=none):py w0 imm' frm l w' :=
 ⟨h.1,fun d hd=>by
  obtain⟨D,h1,h2,h3,h4⟩:=h.2 d hd
  exact⟨D,h1,(hb D h2).trans h2,hi D h3 h2,h4⟩⟩
structure ag (w0:World) (nt:Nat) (c:Ctx) (s:S) (a:Act) (w:World):Prop where
 defers:py w0 c.imm c.frm a.defers w
 size:a.tmps.size=nt
 below:Below 0 w0 w
 tmps:∀d x,s.t d=some x->ak c s.o x (a.tmps.getD d undef)
 objs:∀id ob,s.o id=some ob->dq 0 c s.o w id ob
 inj:∀id id' ob ob' b,s.o id=some ob->s.o id'=some ob'->c.blk id b->c.blk id' b->id=id'
 imm:∀b ob,c.imm b=some ob->w.heap[b]? = some ob
 sep:∀id ob b,s.o id=some ob->c.blk id b->c.imm b=none
 was:∀b,c.frm b≠none->c.imm b=c.old.1 b
 frm:∀b ob,c.frm b=some ob->w.heap[b]? = some ob
 fsep:∀id ob b,s.o id=some ob->c.blk id b->c.frm b=none
 fixed:∀id,1000<=id->Evo c.start c.old.2.2.2.1 c s.o id
def Rel(w0:World)(m0:Old)(nt:Nat)(s:S)(a:Act)(w:World):Prop:=∃c,c.old=m0/\ag w0 nt c s a w
def S.put(s:S)(d:Nat)(x:Option HR):S:={ s with t:=fun k=>if k=d then x else s.t k }
def S.putD(s:S)(d:Option Tmp)(x:Option HR):S:=match d with|some d=>s.put d x|none=>s
def S.setO(s:S)(id:Nat)(ob:Option aa):S:={ s with o:=fun k=>if k=id then ob else s.o k }
end
section
variable {w0:World}{nt:Nat}{c:Ctx}{s:S}{a:Act}{w:World}
def ag.put(h:ag w0 nt c s a w)(d:Nat)(hd:d<nt)(x:Option HR)(v:Value)(hx:∀y,x=some y->ak c s.o y v):ag w0 nt c (s.put d x) (a.put (some d) v) w:=by
 refine⟨h.defers,by simp[Act.put,h.size],h.below,fun k y hy=>?_,h.objs,h.inj,h.imm,h.sep,h.was,h.frm,h.fsep,h.fixed⟩;simp only[S.put]at hy;by_cases hk:k=d
 · subst hk
   rw[if_pos rfl]at hy;have hs:k<a.tmps.size:=by rw[h.size];exact hd
   have:(a.put (some k) v).tmps.getD k undef=v:=by simp[Act.put,hs]
   rw[this];exact hx y hy
 rw[if_neg hk]at hy
 have:(a.put (some d) v).tmps.getD k undef=a.tmps.getD k undef:=by
  simp[Act.put,Array.getElem?_setIfInBounds_ne (Ne.symm hk)]
 rw[this];exact h.tmps k y hy
def ag.putD (h:ag w0 nt c s a w) (d:Option Tmp) (hd:∀k,d=some k->k<nt) (x:Option HR) (v:Value) (hx:∀y,x=some y->ak c s.o y v):ag w0 nt c (s.putD d x) (a.put d v) w:=by
 cases d with
 |none=>exact h
 |some d=>exact h.put d (hd d rfl) x v hx
def ag.drew (h:ag w0 nt c s a w):ag w0 nt c s a { w with drawn:=w.drawn+1 } :=
 ⟨h.defers,h.size,h.below.drew,h.tmps,fun id ob ho=>(h.objs id ob ho).keep (Imm.le.refl _) rfl rfl (fun _ _=>Evo.refl _ _ _) (fun _ _=>rfl),h.inj,h.imm,h.sep,h.was,h.frm,h.fsep,h.fixed⟩
theorem ag.fresh (h:ag w0 nt c s a w) (id:Nat) (hm:NM s id) (hn:s.o id=none) (ob:aa) (w':World) (v:Value) (bk:Nat->Prop)
 (hg:Grw w w' none) (hv:∀b,bk b->w.heap.size<=b)
 (hk:dq 0 { old:=c.old,imm:=c.imm,tab:=c.tab,own:=fun k=>if k=id then v else c.own k,blk:=fun k=>if k=id then bk else c.blk k,rows:=c.rows } (s.setO id (some ob)).o w' id ob) :
 ag w0 nt { old:=c.old,imm:=c.imm,tab:=c.tab,own:=fun k=>if k=id then v else c.own k,blk:=fun k=>if k=id then bk else c.blk k,rows:=c.rows } (s.setO id (some ob)) a w':=by
 have _:=hn;have ho:∀k,k≠id->(s.setO id (some ob)).o k=s.o k:=fun k hk=>by simp[S.setO,hk]
 have hevo:∀k,k≠id->Evo c s.o { old:=c.old,imm:=c.imm,tab:=c.tab,own:=fun k=>if k=id then v else c.own k,blk:=fun k=>if k=id then bk else c.blk k,rows:=c.rows } (s.setO id (some ob)).o k:=fun k hk=>Evo.of_same (ho k hk) (by simp[hk]);refine⟨h.defers.keep (fun D hD=>hg.base.block D (bm5.1 hD).1 (fun e=>by cases e)) (fun D hD _=>hD),h.size,h.below.grown hg (bm3 _) (fun _ e=>by cases e),fun d x hx=>?_,fun k obk hobk=>?_,fun i i' obi obi' b hi hi' hb hb'=>?_,fun b obb hb=>?_,fun k obk b hobk hb=>?_,h.was,fun b obb hb=>?_,fun k obk b hobk hb=>?_,fun k hk=>?_⟩
 · exact(h.tmps d x hx).evo (Imm.le.refl c.imm) fun k hkm=>hevo k (by rintro rfl;exact hm.1 d x hx hkm)
 · by_cases hki:k=id
   · subst hki
     have:obk=ob:=by simpa [S.setO]using hobk.symm
     grind
   rw[ho k hki]at hobk;refine(h.objs k obk hobk).keep (Imm.le.refl c.imm) (by simp[hki]) (by simp[hki]) (fun j hj=>hevo j (by rintro rfl;exact hm.2.1 k obk hobk hj)) fun b hb=>?_;exact hg.base.block b ((h.objs k obk hobk).blk hb).2 (fun e=>by cases e)
 · have hold:∀k obk b,k≠id->(s.setO id (some ob)).o k=some obk->c.blk k b->bk b->False:=fun k obk b hk hok hbk hbv=>by
    rw[ho k hk]at hok;have:=((h.objs k obk hok).blk hbk).2
    grind
   by_cases h1:i=id
   · grind
   by_cases h2:i'=id
   · grind
   rw[ho i h1]at hi;rw[ho i' h2]at hi';simp only[h1,h2,if_false]at hb hb';exact h.inj i i' obi obi' b hi hi' hb hb'
 · have hb':=h.imm b obb hb
   rw[hg.base.block b (bm5.1 hb').1 (fun e=>by cases e)];exact hb'
 · by_cases hki:k=id
   · subst hki
     simp only[if_true]at hb;have:=hv b hb
     cases hi:c.imm b with
     |none=>rfl
     | some obb =>
      have:=(bm5.1 (h.imm b obb hi)).1;omega
   rw[ho k hki]at hobk;simp only[hki,if_false]at hb;exact h.sep k obk b hobk hb
 · have hb':=h.frm b obb hb
   rw[hg.base.block b (bm5.1 hb').1 (fun e=>by cases e)];exact hb'
 · by_cases hki:k=id
   · subst hki
     simp only[if_true]at hb;have:=hv b hb
     cases hi:c.frm b with
     |none=>rfl
     | some obb =>
      have:=(bm5.1 (h.frm b obb hi)).1;omega
   rw[ho k hki]at hobk;simp only[hki,if_false]at hb;exact h.fsep k obk b hobk hb
 exact(h.fixed k hk).trans (hevo k (by have:=hm.2.2;omega))
theorem ag.write (h:ag w0 nt c s a w) (id:Nat) (ob:aa) (hn:s.o id=some ob) (ob':aa) (w':World) (v':Value) (bk:Nat->Prop) (row:Option Nat)
 (hg:Grw w w' row) (hrow:∀b,row=some b->c.blk id b)
 (hev:Evo c s.o { old:=c.old,imm:=c.imm,tab:=c.tab,own:=fun k=>if k=id then v' else c.own k,blk:=fun k=>if k=id then bk else c.blk k,rows:=c.rows } (s.setO id (some ob')).o id)
 (hblk:∀b,bk b->c.blk id b\/w.heap.size<=b)
 (hk:dq 0 { old:=c.old,imm:=c.imm,tab:=c.tab,own:=fun k=>if k=id then v' else c.own k,blk:=fun k=>if k=id then bk else c.blk k,rows:=c.rows } (s.setO id (some ob')).o w' id ob') :
 ag w0 nt { old:=c.old,imm:=c.imm,tab:=c.tab,own:=fun k=>if k=id then v' else c.own k,blk:=fun k=>if k=id then bk else c.blk k,rows:=c.rows } (s.setO id (some ob')) a w':=by
 have ho:∀k,k≠id->(s.setO id (some ob')).o k=s.o k:=fun k hk=>by simp[S.setO,hk]
 have hevo:∀k,Evo c s.o { old:=c.old,imm:=c.imm,tab:=c.tab,own:=fun k=>if k=id then v' else c.own k,blk:=fun k=>if k=id then bk else c.blk k,rows:=c.rows } (s.setO id (some ob')).o k:=fun k=>by
  by_cases hki:k=id
  · grind
  exact Evo.of_same (ho k hki) (by simp[hki])
 refine ⟨h.defers.keep (fun D hD=>hg.base.block D (bm5.1 hD).1 (fun e=>by
  obtain⟨x1,hc,hdt⟩:=(h.objs id ob hn).data (hrow _ e.symm);rw[hD]at hc;cases hc
  cases hdt)) (fun D hD _=>hD),h.size,h.below.grown hg (bm3 _) (fun _ _=>bm3 _),fun d x hx=>?_,fun k obk hobk=>?_,fun i i' obi obi' b hi hi' hb hb'=>?_,fun b obb hb=>?_,fun k obk b hobk hb=>?_,h.was,fun b obb hb=>?_,fun k obk b hobk hb=>?_,fun k hk=>?_⟩
 · exact(h.tmps d x hx).evo (Imm.le.refl c.imm) fun k _=>hevo k
 · by_cases hki:k=id
   · subst hki
     have:obk=ob':=by simpa [S.setO]using hobk.symm
     grind
   rw[ho k hki]at hobk;refine(h.objs k obk hobk).keep (Imm.le.refl c.imm) (by simp[hki]) (by simp[hki]) (fun j _=>hevo j) fun b hb=>?_;refine hg.base.block b ((h.objs k obk hobk).blk hb).2 fun e=>hki (h.inj k id obk ob b hobk hn hb (hrow _ e.symm))
 · have hold:∀k obk b,k≠id->(s.setO id (some ob')).o k=some obk->c.blk k b->bk b->False:=fun k obk b hk hok hbk hbv=>by
    rw[ho k hk]at hok
    rcases hblk b hbv with h'|h'
    · exact hk (h.inj k id obk ob b hok hn hbk h')
    have:=((h.objs k obk hok).blk hbk).2;omega
   by_cases h1:i=id
   · grind
   by_cases h2:i'=id
   · grind
   rw[ho i h1]at hi;rw[ho i' h2]at hi';simp only[h1,h2,if_false]at hb hb';exact h.inj i i' obi obi' b hi hi' hb hb'
 · have hb':=h.imm b obb hb
   rw [hg.base.block b (bm5.1 hb').1 fun e=>by
    have:=h.sep id ob b hn (hrow _ e.symm);rw[this]at hb
    cases hb]
   exact hb'
 · by_cases hki:k=id
   · subst hki
     simp only[if_true]at hb
     rcases hblk b hb with h'|h'
     · exact h.sep k ob b hn h'
     cases hi:c.imm b with
     |none=>rfl
     | some obb =>
      have:=(bm5.1 (h.imm b obb hi)).1;omega
   rw[ho k hki]at hobk;simp only[hki,if_false]at hb;exact h.sep k obk b hobk hb
 · have hb':=h.frm b obb hb
   rw [hg.base.block b (bm5.1 hb').1 fun e=>by
    have:=h.fsep id ob b hn (hrow _ e.symm);rw[this]at hb
    cases hb]
   exact hb'
 · by_cases hki:k=id
   · subst hki
     simp only[if_true]at hb
     rcases hblk b hb with h'|h'
     · exact h.fsep k ob b hn h'
     cases hi:c.frm b with
     |none=>rfl
     | some obb =>
      have:=(bm5.1 (h.frm b obb hi)).1;omega
   rw[ho k hki]at hobk;simp only[hki,if_false]at hb;exact h.fsep k obk b hobk hb
 exact(h.fixed k hk).trans (hevo k)
def aw1 (h:ag w0 nt c s a w) {imm':Imm} (h1:∀b,b<w.heap.size->imm' b=c.imm b):Imm.le c.imm imm':=fun b ob hb'=>by
 rw[h1 b (bm5.1 (h.imm b ob hb')).1];exact hb'
def at2(h:ag w0 nt c s a w){imm':Imm}(h1:∀b,b<w.heap.size->imm' b=c.imm b):qs imm':=c.tab.mono (aw1 h h1)
def ag.later(h:ag w0 nt c s a w)(w':World)(hb:Below w.heap.size w w')(imm':Imm)(h1:∀b,b<w.heap.size->imm' b=c.imm b)(h2:∀b ob,imm' b=some ob->w'.heap[b]? = some ob) :
 ag w0 nt { old:=c.old,imm:=imm',tab:=at2 h h1,own:=c.own,blk:=c.blk,rows:=c.rows } s a w':=by
 have hle:Imm.le c.imm imm':=fun b ob hb'=>by
  rw[h1 b (bm5.1 (h.imm b ob hb')).1];exact hb'
 refine ⟨h.defers.keep (fun D hD=>hb.block D (bm5.1 hD).1) (fun D hD hb'=>by
  show imm' D=none
  rw[h1 D (bm5.1 hb').1];exact hD),h.size,h.below.trans (hb.mono (bm3 _)),fun d x hx=>(h.tmps d x hx).evo hle fun k _=>Evo.of_same rfl rfl,fun k ob hob=>?_,h.inj,h2,fun k ob b hob hbk=>?_,fun b hb'=>?_,fun b ob hbo=>?_,h.fsep,h.fixed⟩
 · exact(h.objs k ob hob).keep hle rfl rfl (fun j _=>Evo.of_same rfl rfl) fun b hbk=>hb.block b ((h.objs k ob hob).blk hbk).2
 · show imm' b=none
   rw[h1 b ((h.objs k ob hob).blk hbk).2];exact h.sep k ob b hob hbk
 · show imm' b=c.old.1 b
   have hb':c.frm b≠none:=hb'
   cases hf:c.frm b with
   |none=>exact absurd hf hb'
   |some ob=>rw[h1 b (bm5.1 (h.frm b ob hf)).1];exact h.was b hb'
 have hbo:c.frm b=some ob:=hbo;rw[hb.block b (bm5.1 (h.frm b ob hbo)).1];exact h.frm b ob hbo
def ag.weaken (h:ag w0 nt c s a w) (s':S) (ht:∀d x,s'.t d=some x->s.t d=some x) (ho:∀id ob,s'.o id=some ob->s.o id=some ob):ag w0 nt c s' a w:=by
 have hevo:∀k,Evo c s.o c s'.o k:=fun k=>by
  cases hk:s'.o k with
  |none=>exact .inl hk
  |some ob=>exact Evo.of_same (hk.trans (ho k ob hk).symm) rfl
 exact ⟨h.defers,h.size,h.below,fun d x hx=>(h.tmps d x (ht d x hx)).evo (Imm.le.refl _) fun k _=>hevo k,
  fun k ob hob=>(h.objs k ob (ho k ob hob)).keep (Imm.le.refl _) rfl rfl (fun j _=>hevo j) (fun _ _=>rfl),
  fun i i' obi obi' b hi hi'=>h.inj i i' obi obi' b (ho _ _ hi) (ho _ _ hi'),h.imm,fun k ob b hob=>h.sep k ob b (ho k ob hob),h.was,h.frm,fun k ob b hob=>h.fsep k ob b (ho k ob hob),fun k hk=>(h.fixed k hk).trans (hevo k)⟩
end
end
end Go.Hx
