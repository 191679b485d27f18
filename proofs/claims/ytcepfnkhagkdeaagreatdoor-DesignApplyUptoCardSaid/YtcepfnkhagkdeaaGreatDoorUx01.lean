/- A part of the proof: Hx1 Hx2 Hx3 Hx4. -/
import Derived.Below
import Derived.IntWalk
import Derived.KernelRfl
import Derived.Laws.CopyOwn
import Derived.Laws.Cover1
import Derived.Laws.MakeOwn
import Derived.Laws.OwnMore
import Derived.Laws.StructEq
import Derived.Laws.Tables
import Derived.Maps.Keyed
import Derived.Orders
set_option linter.all false
namespace Go.Hx
theorem Aa:True:=trivial
abbrev Ba:=@if_pos
abbrev Ca:=@if_neg
abbrev Da:=@congrArg
abbrev Ea:=@absurd
abbrev Fa:=@decide_eq_true
abbrev Ga:=@of_decide_eq_true
abbrev Ha:=@decide_eq_false
abbrev Ia:=@decide_eq_true_iff
abbrev Ja:=@decide_eq_true_eq
abbrev Ka:=@Value.slice.injEq
abbrev La:=@Classical.byContradiction
abbrev Ma:=@if_true
abbrev Na:=@if_false
abbrev Oa:=@Iff.rfl
abbrev Pa:=@List.getElem?_eq_getElem
abbrev Qa:=@of_decide_eq_false
abbrev Bb:=@Option.some.injEq
abbrev Hc:=@List.getElem?_eq_getElem
abbrev Oc:=@List.getD_eq_getElem?_getD
abbrev Yb:=@Nat.le_refl
abbrev Uc:=@List.length_append
abbrev Zb:=@Nat.zero_le
abbrev Re:=@Nat.le_of_ble_eq_true
abbrev Ud:=@Nat.not_lt_zero
abbrev Le:=@Array.getElem?_eq_some_iff
abbrev Tc:=@Prod.mk.injEq
abbrev Id:=@List.take_length
abbrev Od:=@Bool.and_eq_true
abbrev Ae:=@List.length_take
abbrev Ad:=@List.mem_map
abbrev Ie:=@Bool.eq_false_iff
abbrev Yd:=@List.length_map
abbrev De:=@List.getElem_mem
abbrev Jd:=@List.mem_cons
abbrev Ve:=@Nat.mul_le_mul_right
abbrev Qe:=@Int.toNat_natCast
abbrev Nd:=@Nat.le_trans
abbrev Pe:=@List.getElem?_map
abbrev Fe:=@List.mem_range
abbrev Bf:=@List.mem_singleton
abbrev Ze:=@List.all_eq_true
abbrev Ig:=@List.mem_append_left
abbrev Zf:=@List.length_cons
abbrev Fg:=@List.getElem_of_mem
abbrev Rf:=@Result.andThen_ok
abbrev Af:=@List.mem_append
abbrev Hg:=@BitVec.getLsbD_and
abbrev Bh:=@List.mem_append_right
abbrev Oe:=@Nat.zero_add
abbrev Yf:=@List.any_eq_true
abbrev Vf:=@Option.map_some
abbrev Jh:=@List.mem_cons_of_mem
abbrev Ug:=@List.append_assoc
abbrev Mg:=@List.append_nil
abbrev Ih:=@List.getElem?_take
abbrev Hh:=@List.pairwise_cons
abbrev Nf:=@Sem.run_bind
abbrev Qi:=@BitVec.eq_of_toNat_eq
abbrev Zh:=@Array.length_toList
abbrev Hi:=@List.getElem?_range
abbrev Vi:=@Nat.eq_of_beq_eq_true
abbrev Yh:=@List.mem_cons_self
abbrev Nh:=@Bool.not_eq_true'
abbrev Jk:=@List.getElem?_append_right
abbrev Mf:=@Nat.add_mul
abbrev Xh:=@Option.getD_some
abbrev Zk:=@List.pairwise_iff_getElem
abbrev Vl:=@List.eq_nil_of_length_eq_zero
abbrev Pi:=@List.size_toArray
abbrev Oi:=@List.foldl_append
abbrev Gi:=@Nat.min_eq_left
abbrev Nj:=@Bool.false_eq_true
abbrev Mj:=@Nat.eq_zero_or_pos
abbrev Ni:=@List.length_set
abbrev Ul:=@List.getElem?_append_left
abbrev Mi:=@List.map_append
abbrev Yk:=@List.length_singleton
abbrev Lj:=@List.flatMap_cons
abbrev Ek:=@List.filter_append
abbrev Wh:=@List.map_cons
abbrev Mh:=@Sem.run_pure
abbrev Tl:=@BitVec.eq_of_getLsbD_eq
abbrev Km:=@Array.getElem?_eq_getElem
abbrev Dk:=@List.any_eq_false
abbrev Ck:=@List.length_drop
abbrev Bk:=@List.filter_cons
abbrev Kj:=@Bool.or_eq_true
abbrev Fi:=@Nat.add_zero
abbrev On:=@List.getElem?_eq_some_iff
abbrev Ak:=@List.range_succ
abbrev Jl:=@BitVec.getLsbD_not
abbrev Aj:=@Bool.true_and
abbrev Nn:=@List.length_nil
abbrev Sl:=@Int.natCast_nonneg
abbrev Rl:=@BitVec.getLsbD_or
abbrev Kv:=@List.findIdx?_eq_some_iff_getElem
abbrev Ql:=@List.cons_append
abbrev Mn:=@List.map_congr_left
abbrev To:=@Array.getElem?_toList
abbrev So:=@List.length_filter_le
abbrev Jm:=@List.length_range
abbrev Xk:=@Nat.add_assoc
abbrev Ln:=@Nat.lt_of_lt_of_le
abbrev Zj:=@Nat.mul_one
abbrev Ss:=@List.drop_eq_getElem_cons
abbrev Ro:=@List.flatMap_append
abbrev Im:=@List.foldl_cons
abbrev Qo:=@List.getElem?_drop
abbrev Po:=@Nat.lt_or_eq_of_le
abbrev Oo:=@List.find?_eq_none
abbrev Jq:=@Array.toArray_toList
abbrev Pl:=@Nat.lt_irrefl
abbrev Jv:=@BitVec.getLsbD_ushiftRight
abbrev Rs:=@Array.getElem?_eq_none
abbrev No:=@List.ext_getElem?
abbrev Kn:=@List.nil_append
abbrev Jn:=@List.filter_nil
abbrev Qs:=@Array.getElem?_modify
abbrev Mo:=@Array.toList_map
abbrev Lo:=@List.countP_cons
abbrev Iv:=@List.pairwise_mergeSort
abbrev Iq:=@Nat.le_of_lt_succ
abbrev Ko:=@Bool.eq_iff_iff
abbrev Jo:=@List.mem_filter
abbrev Hv:=@List.drop_eq_nil_of_le
abbrev Gq:=@List.prefix_refl
abbrev Pz:=@List.mem_of_find?_eq_some
abbrev Hm:=@Nat.le_succ
abbrev Hn:=@Nat.le_of_eq
abbrev Gv:=@Nat.pow_le_pow_right
abbrev Fv:=@Int.toNat_of_nonneg
abbrev Ns:=@BitVec.toNat_and
abbrev Gm:=@Nat.mod_lt
abbrev Oz:=@List.take_of_length_le
abbrev Io:=@Nat.lt_or_ge
abbrev Ho:=@Nat.sub_zero
abbrev Nz:=@List.getElem?_eq_none
abbrev Mz:=@Bool.and_eq_false_iff
abbrev Lz:=@List.take_append_drop
abbrev Kz:=@List.length_mergeSort
abbrev vC:=@List.findSome?_eq_none_iff
abbrev Dv:=@World.ownsRow_nil
abbrev Cv:=@Nat.lt_trichotomy
abbrev Bv:=@Array.size_append
abbrev Av:=@List.pairwise_map
abbrev Jz:=@List.pairwise_append
abbrev uC:=@List.findIdx?_eq_none_iff
abbrev Ls:=@Bool.not_false
abbrev Dq:=@Nat.sub_self
abbrev YF:=@List.take_succ_eq_append_getElem
abbrev qC:=@List.set_eq_of_length_le
abbrev XF:=@List.exists_of_findSome?_eq_some
abbrev Ks:=@Bool.not_true
abbrev Yu:=@List.cons.injEq
abbrev Eo:=@Nat.blt_eq
abbrev Iz:=@Bool.false_ne_true
abbrev Xu:=@List.find?_some
abbrev pC:=@List.filter_eq_nil_iff
abbrev oC:=@Nat.div_lt_iff_lt_mul
abbrev nC:=@List.findSome?_append
abbrev Js:=@List.map_map
abbrev Wu:=@List.foldl_nil
abbrev Is:=@Int.ofNat_lt
abbrev Hz:=@Bool.not_eq_true
abbrev Gz:=@Nat.mod_eq_of_lt
abbrev Fz:=@Nat.le_of_not_lt
abbrev Ez:=@List.ext_getElem
abbrev Dz:=@List.flatMap_nil
end Go.Hx
section
namespace Go.Hx
open Go.RowKit
structure Below (B:Nat) (w w':World):Prop where
 os:w'.os=w.os
 tape:w'.tape=w.tape
 output:w'.output=w.output
 size:w.heap.size<=w'.heap.size
 block:∀k,k<B->w'.heap[k]? = w.heap[k]?
 drawn:w.drawn<=w'.drawn
structure Wf (w w':World) (row:Option Nat):Prop where
 base:w.grownBy w' row
 drawn:w.drawn<=w'.drawn
theorem Wf.refl(w:World)(r:Option Nat):Wf w w r:=⟨World.grownBy.refl w r,Yb _⟩
theorem Wf.alloc(w:World)(o:Obj)(r:Option Nat):Wf w (w.alloc o) r:=⟨World.grownBy_alloc w o r,Yb _⟩
theorem Below.refl(B:Nat)(w:World):Below B w w:=⟨rfl,rfl,rfl,Yb _,λ_ _=>rfl,Yb _⟩
section
variable {B:Nat}{a:World}
theorem Below.trans {b c:World} (h:Below B a b) (k:Below B b c):Below B a c :=
 ⟨k.os.trans h.os,k.tape.trans h.tape,k.output.trans h.output,Nd h.size k.size,λi hi=>(k.block i hi).trans (h.block i hi),Nd h.drawn k.drawn⟩
variable {w:World}
theorem Below.mono{B':Nat}{w':World}(h:Below B w w')(hB:B'<=B):Below B' w w':=⟨h.os,h.tape,h.output,h.size,λk hk=>h.block k (Ln hk hB),h.drawn⟩
theorem Below.drew(h:Below B a w):Below B a w.drew:=⟨h.os,h.tape,h.output,h.size,h.block,Nd h.drawn (Hm _)⟩
theorem Below.alloc (h:Below B a w) (hB:B<=w.heap.size) (o:Obj):Below B a (w.alloc o) :=
 have q:=Go.RowKit.Below.alloc (B:=B) (a:=a) (w:=w) ⟨h.os,h.tape,h.output,h.size,h.block⟩ hB o
 ⟨q.os,q.tape,q.output,q.size,q.block,h.drawn⟩
def Za{p:Prop}(h:p:=by omega):p:=h
theorem Below.grown {w':World} {row:Option Nat} (h:Below B a w) (hg:Wf w w' row) (hB:B<=w.heap.size) (hr:∀k,row=some k->B<=k):Below B a w' :=
 h.trans ⟨hg.base.os,hg.base.tape,hg.base.output,hg.base.size,λk hk=>hg.base.block k Za (λe=>by have:=hr k e.symm;omega),hg.drawn⟩
theorem FK {α:Type}:∀(x:Ask α) (w:World),w.drawn<=(w.ask x).2.drawn
 | .done a,w=>Yb _
 | .ask what range k,w=>by
  simp only[World.ask];split
  .exact FK _ _
  have h:=FK (k ((Question.extern what range).cut (w.tape w.drawn (Question.extern what range)))) { w with drawn:=w.drawn+1 }
  grind
theorem azz (w:World) (c:Sys):w.drawn<=(w.sys c).2.drawn:=by
 have h:=FK (Kernel.perform c w.os) w;unfold World.sys
 grind
def af2 {p:Program} {at_:Addr} {u:TypeId} {k:Addr} {v:Value} {atomic:Bool} {r:World×List Addr} (h:w.viewStore p at_ u k v atomic=.ok r):r.1.drawn=w.drawn:=by
 unfold World.viewStore at h;simp only[bind,Except.bind,pure,Except.pure]at h
 repeat' split at h
 all_goals first|(cases h;done)|(simp only[Except.ok.injEq]at h;subst h;rfl)
def ait{p:Program}{a:Addr}{v:Value}{atomic:Bool}{r:World×List Addr}(h:w.farStore p a v atomic=.ok r):r.1.drawn=w.drawn:=by
 unfold World.farStore at h;split at h
 .split at h
  .rename_i r2 hr
   simp only[Except.ok.injEq]at h;subst h;exact af2 hr
  cases h
 cases h
def QW (w:World) (a:Addr) (n:Nat):(w.freeze a n).drawn=w.drawn:=by
 unfold World.freeze;split<;>rfl
variable {P:Program}
def xz{α:Type}:∀(x:Sem α) {w w':World} {v:α},x.run P w=.ok v w'->w.drawn<=w'.drawn:=by
 intro x
 induction x with
 |pure a=>intro w w' v h;simp only[Sem.run,Result.ok.injEq]at h;obtain⟨_,rfl⟩:=h;exact Yb _
 | load m a k ih =>
  intro w w' v h;simp only[Sem.run]at h;split at h
  .exact ih _ h
  split at h
  .exact ih _ h
  cases h
 | store m a x k ih =>
  intro w w' v h
  cases x <;> simp only[Sem.run]at h<;>first
   |(cases h;done)
   | (split at h
      .split at h
       .cases h
       have q:=ih h;exact q
      split at h
      .rename_i hf
       exact Nd (Hn (ait hf).symm) (ih h)
      cases h)
 |new o k ih=>intro w w' v h;simp only[Sem.run]at h;have q:=ih _ h;exact q
 |shape r k ih=>intro w w' v h;simp only[Sem.run]at h;exact ih _ h
 |freeze a n k ih=>intro w w' v h;simp only[Sem.run]at h;exact Nd (Hn (QW w a n).symm) (ih h)
 |frozen a k ih=>intro w w' v h;simp only[Sem.run]at h;exact ih _ h
 | getObj r k ih =>
  intro w w' v h;simp only[Sem.run]at h;split at h
  .cases h
  .exact ih _ h
  cases h
 | setObj r o k ih =>
  intro w w' v h;simp only[Sem.run]at h;split at h
  .cases h
  .have q:=ih h
   exact q
  cases h
 | choose q k ih =>
  intro w w' v h;simp only[Sem.run]at h;split at h
  .exact ih _ h
  have q:=ih _ h;exact Nd (Hm w.drawn) q
 |sys c k ih=>intro w w' v h;simp only[Sem.run]at h;exact Nd (azz w c) (ih _ h)
 |program k ih=>intro w w' v h;simp only[Sem.run]at h;exact ih _ h
 |mark m k ih=>intro w w' v h;simp only[Sem.run]at h;exact ih h
 |halt hh=>intro w w' v h;simp only[Sem.run]at h;cases h
inductive KK where
 |int (q:IntKind)
 |str
 |pstr (b:Nat)
inductive MK where
 |i (q:IntKind) (n:Int)
 |s (b:ByteArray)
def MK.val:MK->Value
 | .i q n=>.int q n
 | .s b=>.string b
def MK.ok:KK->MK->Prop
 | .int q, .i q' n=>q'=q/\(Lit.int q n).wf=true
 | .str, .s b=>b.size<=maxLen
 | .pstr _, .s b=>b.size<=maxLen
 |_,_=>False
def KK.base:KK->KK
 | .pstr _=>.str
 |k=>k
def KK.has:KK->Nat->Prop
 | .pstr b',b=>b'=b
 |_,_=>True
theorem MK.ok_base{kk:KK}{m:MK}:MK.ok kk.base m<->MK.ok kk m:=by cases kk<;>cases m<;>exact Iff.rfl
def MK.same:MK->MK->Bool
 | .i q n, .i q' n'=>decide (q=q')&&decide (n=n')
 | .s b, .s b'=>decide (b=b')
 |_,_=>false
theorem MK.same_iff {x y:MK}:x.same y=true<->x=y:=by
 cases x<;>cases y<;>simp[MK.same]
theorem MK.val_inj {x y:MK} (h:x.val=y.val):x=y:=by
 cases x<;>cases y<;>simp[MK.val]at h ⊢<;>exact h
inductive PV where
 |raw (v:Value)
 |any
 |sl (n s:Nat) (clip:Bool) (f:Nat->Nat->PV)
 |vp (m:Nat) (f:Nat->PV)
 |fn (g:FuncId) (k:Nat) (caps:Nat->PV)
 |bnd (g:FuncId) (m:Nat) (f:Nat->PV)
 |mp (kk:KK) (n:Nat) (has:MK->Bool) (f:MK->PV)
abbrev Dc:=Nat->Option Obj
def gz (m:Dc) (b off:Nat):Option Value :=
 match m b with
 |some (.cells cs _ _)=>cs[off]?
 |_=>none
def aq (m:Dc):PV->Value->Prop
 | .raw v,u=>u=v/\v.oneCell'=true
 | .any,u=>u.oneCell'=true
 | .sl n s clip f,u=>∃a cap,u=.slice a n cap/\n<=cap/\cap<=maxLen/\(clip=true->cap=n) /\
  (0<n->∃b off,a=some ⟨b,off,none⟩/\∀i j,i<n->j<s->∃x,gz m b (off+(i*s+j))=some x/\aq m (f i j) x)
 | .vp k f,u=>∃b off,u=.pointer (some ⟨b,off,none⟩)/\∀j,j<k->∃x,gz m b (off+j)=some x/\aq m (f j) x
 | .fn g k caps,u=>∃cs:List Value,u=.func (.func g) #[] cs.toArray/\cs.length=k/\∀i,i<k->∃x,cs[i]? = some x/\aq m (caps i) x
 | .bnd g k f,u=>∃cs:List Value,u=.func (.func g) #[.agg cs.toArray] #[]/\cs.length=k/\∀i,i<k->∃x,cs[i]? = some x/\aq m (f i) x
 | .mp kk n has f,u=>∃b es clock,u=.map (some b)/\m b=some (.map es clock)/\Go.MapKept.Stamped es clock/\es.size<=n/\es.size<=maxLen /\
  (∀x∈es.toList,∃key,x.key=key.val/\has key=true/\aq m (f key) x.val)/\∀key,has key=true->MK.ok kk key/\∃x∈es.toList,x.key=key.val
def Dc.le(m m':Dc):Prop:=∀b o,m b=some o->m' b=some o
theorem Dc.le.refl(m:Dc):Dc.le m m:=λ_ _ h=>h
theorem Dc.le.trans{a b c:Dc}(h:Dc.le a b)(k:Dc.le b c):Dc.le a c:=λx o hx=>k x o (h x o hx)
variable {m m':Dc}
def PL (h:Dc.le m m') {b off:Nat} {x:Value} (hc:gz m b off=some x):gz m' b off=some x:=by
 unfold gz at *
 cases hb:m b with
 |none=>rw[hb]at hc;cases hc
 |some o=>rw[hb]at hc;rw[h b o hb];exact hc
def aq.mono(h:Dc.le m m'):∀{x:PV} {u:Value},aq m x u->aq m' x u:=by
 intro x
 induction x with
 |raw v=>intro u hu;exact hu
 |any=>intro u hu;exact hu
 | sl n s clip f ih =>
  rintro u ⟨a,cap,h1,h2,h3,h4,h5⟩;refine⟨a,cap,h1,h2,h3,h4,λhn=>?_⟩;obtain⟨b,off,ha,hc⟩:=h5 hn
  exact ⟨b,off,ha,λi j hi hj=>by
   obtain⟨x,hx,hr⟩:=hc i j hi hj
   exact⟨x,PL h hx,ih i j hr⟩⟩
 | vp k f ih =>
  rintro u ⟨b,off,h1,hc⟩
  exact ⟨b,off,h1,λj hj=>by
   obtain⟨x,hx,hr⟩:=hc j hj
   exact⟨x,PL h hx,ih j hr⟩⟩
 | fn g k caps ih =>
  rintro u ⟨cs,h1,h2,hc⟩
  exact ⟨cs,h1,h2,λi hi=>by
   obtain⟨x,hx,hr⟩:=hc i hi
   exact⟨x,hx,ih i hr⟩⟩
 | bnd g k f ih =>
  rintro u ⟨cs,h1,h2,hc⟩
  exact ⟨cs,h1,h2,λi hi=>by
   obtain⟨x,hx,hr⟩:=hc i hi
   exact⟨x,hx,ih i hr⟩⟩
 | mp kk n has f ih =>
  rintro u ⟨b,es,clock,h1,h2,h3,h4,h5,h6,h7⟩
  exact ⟨b,es,clock,h1,h _ _ h2,h3,h4,h5,λx hx=>by
   obtain⟨key,k1,k2,k3⟩:=h6 x hx
   exact⟨key,k1,k2,ih key k3⟩,h7⟩
def aq.oneCell {x:PV} {u:Value} (h:aq m x u):u.oneCell'=true:=by
 cases x with
 |raw v=>obtain⟨rfl,h⟩:=h;exact h
 |any=>exact h
 |sl n s clip f=>obtain⟨a,cap,rfl,_⟩:=h;rfl
 |vp k f=>obtain⟨b,off,rfl,_⟩:=h;rfl
 |fn g k caps=>obtain⟨cs,rfl,_⟩:=h;rfl
 |bnd g k f=>obtain⟨cs,rfl,_⟩:=h;rfl
 |mp kk n has f=>obtain⟨b,es,clock,rfl,_⟩:=h;rfl
def fv (m:Dc):List PV->List Value->Prop
 | [],[]=>True
 |x::xs,u::us=>aq m x u/\fv m xs us
 |_,_=>False
def fv.length:∀{xs:List PV} {us:List Value},fv m xs us->us.length=xs.length
 | [],[],_=>rfl
 |x::xs,u::us,h=>by simp[h.2.length]
 | [],_::_,h=>h.elim
 |_::_,[],h=>h.elim
def fv.mono (h:Dc.le m m'):∀{xs:List PV} {us:List Value},fv m xs us->fv m' xs us
 | [],[],_=>trivial
 |_::_,_::_,hr=>⟨hr.1.mono h,fv.mono h hr.2⟩
 | [],_::_,hr=>hr.elim
 |_::_,[],hr=>hr.elim
theorem fv.get:∀{xs:List PV} {us:List Value},fv m xs us->∀(i:Nat) (x:PV),xs[i]? = some x->∃u,us[i]? = some u/\aq m x u
 |_::_,_::_,h,0,x,hx=>by simp at hx;subst hx;exact⟨_,rfl,h.1⟩
 | _::_,_::_,h,i+1,x,hx=>by
  obtain⟨u,hu,hr⟩:=fv.get h.2 i x (by simpa using hx)
  grind
 | [],_,_,i,x,hx=>by simp at hx
 |_::_,[],h,_,_,_=>h.elim
def fv.of_get:∀{xs:List PV} {us:List Value},us.length=xs.length->(∀(i:Nat) (x:PV) (u:Value),xs[i]? = some x->us[i]? = some u->aq m x u)->fv m xs us
 | [],[],_,_=>trivial
 |x::xs,u::us,hl,h=>⟨h 0 x u rfl rfl,fv.of_get (by simpa using hl) λi y v hy hv=>h (i+1) y v (by simpa using hy) (by simpa using hv)⟩
 | [],_::_,hl,_=>by simp at hl
 |_::_,[],hl,_=>by simp at hl
inductive PC where
 |one (x:PV)
 |agg (l:List PV)
inductive PR where
 |v (c:PC)
 |tup (l:List PC)
def mr (m:Dc):PC->Value->Prop
 | .one x,u=>aq m x u
 | .agg l,u=>∃us:List Value,u=.agg us.toArray/\fv m l us
def ck (m:Dc):List PC->List Value->Prop
 | [],[]=>True
 |x::xs,u::us=>mr m x u/\ck m xs us
 |_,_=>False
def qj (m:Dc):PR->Value->Prop
 | .v c,u=>mr m c u
 | .tup l,u=>∃us:List Value,u=.tuple us.toArray/\ck m l us
def mr.mono (h:Dc.le m m') {x:PC} {u:Value} (hr:mr m x u):mr m' x u:=by
 cases x with
 |one x=>exact aq.mono h hr
 |agg l=>obtain⟨us,e,hl⟩:=hr;exact⟨us,e,hl.mono h⟩
def ck.mono (h:Dc.le m m'):∀{xs:List PC} {us:List Value},ck m xs us->ck m' xs us
 | [],[],_=>trivial
 |_::_,_::_,hr=>⟨hr.1.mono h,ck.mono h hr.2⟩
 | [],_::_,hr=>hr.elim
 |_::_,[],hr=>hr.elim
def ck.length:∀{xs:List PC} {us:List Value},ck m xs us->us.length=xs.length
 | [],[],_=>rfl
 |x::xs,u::us,h=>by simp[h.2.length]
 | [],_::_,h=>h.elim
 |_::_,[],h=>h.elim
theorem ck.get:∀{xs:List PC} {us:List Value},ck m xs us->∀(i:Nat) (x:PC),xs[i]? = some x->∃u,us[i]? = some u/\mr m x u
 |_::_,_::_,h,0,x,hx=>by simp at hx;subst hx;exact⟨_,rfl,h.1⟩
 | _::_,_::_,h,i+1,x,hx=>by
  obtain⟨u,hu,hr⟩:=ck.get h.2 i x (by simpa using hx)
  grind
 | [],_,_,i,x,hx=>by simp at hx
 |_::_,[],h,_,_,_=>h.elim
def qj.mono (h:Dc.le m m') {x:PR} {u:Value} (hr:qj m x u):qj m' x u:=by
 cases x with
 |v x=>exact mr.mono h hr
 |tup l=>obtain⟨us,e,hl⟩:=hr;exact⟨us,e,hl.mono h⟩
def bdz {k:TypeId} {x:MapEntry} {l:Lit} (h:keyOf P k x.key=some l):Go.WideElems.rd P k (λv=>some (DataW.held (H:=Value) v,[])) x=some (l, .held x.val):=by
 obtain⟨k0,v0,b0⟩:=x;exact Go.WideElems.rd_mk (R:=λv=>some (DataW.held (H:=Value) v,[])) (yv:=(DataW.held v0,[])) h rfl
theorem MT {k e t:TypeId} {b:Nat} {es:Array MapEntry} {clock:Nat} (cm:Bool) (K:Go.Maps.Keyed P k) (ht:P.underlying t=some (.map k e)) {z:Value} (hz:(zeroValue e).run P w=.ok z w) (hb:w.heap[b]? = some (.map es clock)) (hs:es.size<=maxLen) (hst:Go.MapKept.Stamped es clock) (hk:∀x∈es.toList,∃l,keyOf P k x.key=some l) {key:Value} {kl:Lit} (hkey:keyOf P k key=some kl):
 ((Instr.lookup t (.map (some b)) key cm).run P w=.ok (if cm then .tuple #[z, .bool false]else z) w/\∀x∈es.toList,x.key≠key) \/
 ∃e0,e0∈es.toList/\e0.key=key/\(Instr.lookup t (.map (some b)) key cm).run P w=.ok (if cm then .tuple #[e0.val, .bool true]else e0.val) w:=by
 have F:Go.WideElems.Fit P k (λv=>some (DataW.held (H:=Value) v,[])) es clock:=⟨hs,hst,λx hx=>by
  obtain⟨l,hl⟩:=hk x hx
  exact⟨_,bdz hl⟩⟩
 rcases Go.Maps.fit_look cm K ht hz hb F hkey with⟨h1,h2,_⟩|⟨e0,_,h1,h2,h3,_⟩
 .grind
 grind
theorem gV {k e t:TypeId} {b:Nat} {es:Array MapEntry} {clock:Nat} (K:Go.Maps.Keyed P k) (ht:P.underlying t=some (.map k e)) (hb:w.heap[b]? = some (.map es clock)) (hs:es.size<maxLen) (hst:Go.MapKept.Stamped es clock) (hk:∀x∈es.toList,∃l,keyOf P k x.key=some l) {key val:Value} {kl:Lit} (hkey:keyOf P k key=some kl):
 ∃ es' clock',(Instr.mapUpdate t (.map (some b)) key val).run P w=.ok () (Go.ChangeMaps.setBlock w b (.map es' clock'))/\Go.MapKept.Stamped es' clock'/\es'.size<=es.size+1 /\
  (∀x'∈es'.toList,(x'∈es.toList/\x'.key≠key)\/(x'.key=key/\x'.val=val))/\(∃x'∈es'.toList,x'.key=key)/\∀x∈es.toList,∃x'∈es'.toList,x'.key=x.key:=by
 rcases K.find w hkey es.toList hk with⟨h1,h2⟩|⟨j,e0,h1,h2,h3⟩
 .refine ⟨es.push ⟨key,val,clock⟩,clock+1, ?_,Go.MapKept.stamped_push hst h2,by simp, ?_,⟨⟨key,val,clock⟩,by simp,rfl⟩,λx hx=>⟨x,by simp only[Array.toList_push,Af];exact .inl hx,rfl⟩⟩
  .simp[Instr.mapUpdate,run_underlying ht,MapKept.run_getObj_map hb,K.check w false hkey,h1,MapKept.run_setObj_map _ hb,Result.andThen,Go.ChangeMaps.setBlock]
  grind
 have hj:es[j]? = some e0:=by simpa using h2
 have hjl:j<es.toList.length:=(On.1 h2).1;have hlist:(es.modify j (λe'=>{ e' with key:=key,val:=val })).toList=es.toList.set j { e0 with key:=key,val:=val }:=by rw[Array.toList_modify,Go.ChangeMaps.modify_eq_set _ _ _ _ h2]
 have hpw:=((Go.MapKept.stamped_iff es clock).1 hst).2.2
 have hne:∀i x,es.toList[i]? = some x->i≠j->x.key≠key:=λi x hi hij he=>by
  have hi':=On.1 hi;have hj':=On.1 h2;obtain⟨hi1,hi2⟩:=hi';obtain⟨hj1,hj2⟩:=hj'
  rcases Nat.lt_or_gt_of_ne hij with hlt|hgt
  .have:=Zk.1 hpw i j hi1 hj1 hlt
   grind
  have:=Zk.1 hpw j i hj1 hi1 hgt
  grind
 refine⟨es.modify j (λe'=>{ e' with key:=key,val:=val }),clock, ?_,Go.MapKept.stamped_modify hst _ _ (λ_ _=>rfl) (λe' _ he'=>by rw[hj]at he';cases he';exact h3.symm),by simp, ?_, ?_, ?_⟩
 .simp[Instr.mapUpdate,run_underlying ht,MapKept.run_getObj_map hb,K.check w false hkey,h1,hj,h3,K.stays w hkey,MapKept.run_setObj_map _ hb,Result.andThen,Go.ChangeMaps.setBlock]
 .intro x hx
  rw[hlist]at hx;obtain⟨i,hi,ex⟩:=Fg hx;rw[List.getElem_set]at ex;split at ex
  .grind
  rename_i hij;have hi':i<es.toList.length:=by simpa using hi
  exact .inl ⟨ex▸De hi',hne i x (by rw[Hc hi',ex]) (λh=>hij h.symm)⟩
 .rw [hlist]
  exact⟨{ e0 with key:=key,val:=val },List.mem_iff_getElem.2 ⟨j,by simpa using hjl,by simp⟩,rfl⟩
 intro x hx;rw[hlist];obtain⟨i,hi,ex⟩:=Fg hx;by_cases hij:i=j
 .refine ⟨{ e0 with key:=key,val:=val },List.mem_iff_getElem.2 ⟨j,by simpa using hjl,by simp⟩, ?_⟩
  grind
 exact⟨x,List.mem_iff_getElem.2 ⟨i,by simpa using hi,by rw[List.getElem_set,if_neg (λh=>hij h.symm)];exact ex⟩,rfl⟩
def wn:Nat->List Value:=λb=>match b with|0=>[.int .u8 0, .int .u8 1, .int .u8 28, .int .u8 2, .int .u8 29, .int .u8 14, .int .u8 24, .int .u8 3, .int .u8 30, .int .u8 22, .int .u8 20, .int .u8 15, .int .u8 25, .int .u8 17, .int .u8 4, .int .u8 8, .int .u8 31, .int .u8 27, .int .u8 13, .int .u8 23, .int .u8 21, .int .u8 19, .int .u8 16, .int .u8 7, .int .u8 26, .int .u8 12, .int .u8 18, .int .u8 6, .int .u8 11, .int .u8 5, .int .u8 10, .int .u8 9]|_=>[]
def bao:Option (Nat×Nat):=some (114,5)
def Sy(b off:Nat):Option Value:=(wn b)[off]?
def vk(m:Dc):Prop:=∀b off v,Sy b off=some v->gz m b off=some v
def vk.mono(h:vk m)(hle:Dc.le m m'):vk m':=λb off v hv=>PL hle (h b off v hv)
end
end Go.Hx
end
namespace Go.Hx
section
open Go.RowKit
inductive HV where
 |p (x:PV)
 |ref (id n:Nat)
 |ptr (id off:Nat)
 |eptr (id n i j:Nat)
 |win (id n i m:Nat)
 |clo (g:FuncId) (k:Nat) (caps:Nat->HV)
 |row (id i k:Nat)
 |rptr (id i k r j:Nat)
 |pin (id n:Nat) (ad:Option Addr) (cap:Nat)
inductive HC where
 |one (h:HV)
 |agg (l:List HV)
inductive HR where
 |v (c:HC)
 |tup (l:List HC)
inductive a8 where
 |mp (kk:KK) (n:Nat) (f:MK->Option PV)
 |bld (fr:Bool) (T e:TypeId) (l:List Value)
 |ex (d:Nat) (v:Value) (b:Nat) (x:Obj)
 |bun (B:Nat->Option Obj)
 |opq (s:Nat) (e:TypeId) (n:Nat) (R:Value->(Nat->Prop)->(Nat->Option Obj)->Prop)
 |box (l:List HV)
 |arr (wr:Bool) (s:Nat) (e:TypeId) (n:Nat) (f:Nat->Nat->PV)
 |arrh (s:Nat) (e:TypeId) (n:Nat) (ms:List Nat) (f:Nat->Nat->HV)
 |nest (e et:TypeId) (es n:Nat) (m:Nat->Nat) (g:Nat->Nat->Nat->PV) (pd:Option (Nat×Nat))
def a8.dim:a8->Option (Nat×TypeId×Nat)
 | .mp ..=>some (0,0,0)
 | .bld ..=>some (0,1,0)
 | .ex d _ _ _=>some (0,d,0)
 | .bun _=>some (0,3,0)
 | .opq s e n _=>some (s,e,n)
 | .box _=>none
 | .arr _ s e n _=>some (s,e,n)
 | .arrh s e n _ _=>some (s,e,n)
 | .nest e _ _ n _ _ none=>some (1,e,n)
 | .nest e _ _ n _ _ (some _)=>some (1,e,n+1)
abbrev av:=Nat->Option a8
structure S where
 t:Nat->Option HR
 o:av
abbrev Wm:=Dc×Dc×(Nat->Value)×av×(Nat->Nat->Value)
structure Pc where
 old:Wm
 imm:Dc
 tab:vk imm
 own:Nat->Value
 blk:Nat->Nat->Prop
 rows:Nat->Nat->Value
abbrev Pc.frm(c:Pc):Dc:=c.old.2.1
abbrev Pc.start(c:Pc):Pc:={ old:=c.old,imm:=c.imm,tab:=c.tab,own:=c.old.2.2.1,blk:=c.blk,rows:=c.old.2.2.2.2 }
def bc (c:Pc) (o:av):HV->Value->Prop
 | .p x,u=>aq c.imm x u
 | .ref id k,u=>u.oneCell'=true/\(∀l,o id≠some (.box l))/\∀ob s e n,o id=some ob->ob.dim=some (s,e,n)->k<=n/\(k=n->u=c.own id)
 | .ptr id off,u=>u.oneCell'=true/\(∀ob d,o id=some ob->ob.dim≠some d)/\∀l,o id=some (.box l)->∃b,c.own id=.pointer (some ⟨b,0,none⟩)/\u=.pointer (some ⟨b,off,none⟩)
 | .eptr id k i j,u=>u.oneCell'=true/\(∀l,o id≠some (.box l))/\∀ob s e n,o id=some ob->ob.dim=some (s,e,n)->k<=n/\(k=n->i<n->∃b off cap,c.own id=.slice (some ⟨b,off,none⟩) n cap/\u=.pointer (some ⟨b,off+(i*s+j),none⟩))
 | .win id k i m,u=>u.oneCell'=true/\(∀l,o id≠some (.box l))/\∀ob s e n,o id=some ob->ob.dim=some (s,e,n)->k<=n/\(k=n->∃ad ad' cap,c.own id=.slice ad n cap/\u=.slice ad' m (cap-i)/\i+m<=n/\n<=cap/\cap<=maxLen/\(i<cap->ad'=ad.map (·.add (i*s))))
 | .row id i k,u=>u.oneCell'=true/\∀e et es n m g pd,o id=some (.nest e et es n m g pd)->i<n/\k<=m i/\(k=m i->u=c.rows id i)
 | .rptr id i k r j,u=>u.oneCell'=true/\∀e et es n m g pd,o id=some (.nest e et es n m g pd)->i<n/\k<=m i/\(k=m i->r<k->∃b off cap,c.rows id i=.slice (some ⟨b,off,none⟩) k cap/\u=.pointer (some ⟨b,off+(r*es+j),none⟩))
 | .pin id k ad cap,u=>u=.slice ad k cap/\(∀l,o id≠some (.box l))/\∀ob s e n,o id=some ob->ob.dim=some (s,e,n)->k<=n/\(k=n->u=c.own id)
 | .clo g k caps,u=>∃cs:List Value,u=.func (.func g) #[] cs.toArray/\cs.length=k/\∀i,i<k->∃x,cs[i]? = some x/\bc c o (caps i) x
def bc.oneCell {c:Pc} {o:av} {h:HV} {u:Value} (hr:bc c o h u):u.oneCell'=true:=by
 cases h with
 |p x=>exact aq.oneCell (m:=c.imm) hr
 |ref id k=>exact hr.1
 |ptr id off=>exact hr.1
 |eptr id k i j=>exact hr.1
 |win id k i m=>exact hr.1
 |row id i k=>exact hr.1
 |rptr id i k r j=>exact hr.1
 |pin id n ad cap=>rw[hr.1];rfl
 |clo g k caps=>obtain⟨cs,rfl,_⟩:=hr;rfl
def b7 (c:Pc) (o:av):List HV->List Value->Prop
 | [],[]=>True
 |x::xs,u::us=>bc c o x u/\b7 c o xs us
 |_,_=>False
def gp (c:Pc) (o:av):HC->Value->Prop
 | .one x,u=>bc c o x u
 | .agg l,u=>∃us:List Value,u=.agg us.toArray/\b7 c o l us
def cb (c:Pc) (o:av):List HC->List Value->Prop
 | [],[]=>True
 |x::xs,u::us=>gp c o x u/\cb c o xs us
 |_,_=>False
def ap (c:Pc) (o:av):HR->Value->Prop
 | .v x,u=>gp c o x u
 | .tup l,u=>∃us:List Value,u=.tuple us.toArray/\cb c o l us
section
variable {c:Pc}{o:av}
def b7.length:∀{xs:List HV} {us:List Value},b7 c o xs us->us.length=xs.length
 | [],[],_=>rfl
 |x::xs,u::us,h=>by simp[h.2.length]
 | [],_::_,h=>h.elim
 |_::_,[],h=>h.elim
theorem b7.get:∀{xs:List HV} {us:List Value},b7 c o xs us->∀(i:Nat) (x:HV),xs[i]? = some x->∃u,us[i]? = some u/\bc c o x u
 |_::_,_::_,h,0,x,hx=>by simp at hx;subst hx;exact⟨_,rfl,h.1⟩
 | _::_,_::_,h,i+1,x,hx=>by
  obtain⟨u,hu,hr⟩:=b7.get h.2 i x (by simpa using hx)
  grind
 | [],_,_,i,x,hx=>by simp at hx
 |_::_,[],h,_,_,_=>h.elim
def b7.of_get:∀{xs:List HV} {us:List Value},us.length=xs.length->(∀(i:Nat) (x:HV) (u:Value),xs[i]? = some x->us[i]? = some u->bc c o x u)->b7 c o xs us
 | [],[],_,_=>trivial
 |x::xs,u::us,hl,h=>⟨h 0 x u rfl rfl,b7.of_get (by simpa using hl) λi y v hy hv=>h (i+1) y v (by simpa using hy) (by simpa using hv)⟩
 | [],_::_,hl,_=>by simp at hl
 |_::_,[],hl,_=>by simp at hl
def b7.oneCell:∀{xs:List HV} {us:List Value},b7 c o xs us->∀u∈us,u.oneCell'=true
 | [],[],_,u,hu=>by cases hu
 | _::_,v::us,h,u,hu=>by
  rcases Jd.1 hu with rfl|hu
  .exact h.1.oneCell
  exact b7.oneCell h.2 u hu
 | [],_::_,h,_,_=>h.elim
 |_::_,[],h,_,_=>h.elim
def b7.append:∀{xs ys:List HV} {us vs:List Value},b7 c o xs us->b7 c o ys vs->b7 c o (xs++ys) (us++vs)
 | [],_,[],_,_,h=>h
 |_::_,_,_::_,_,h,k=>⟨h.1,b7.append h.2 k⟩
 | [],_,_::_,_,h,_=>h.elim
 |_::_,_,[],_,h,_=>h.elim
def b7.take:∀{xs:List HV} {us:List Value} (n:Nat),b7 c o xs us->b7 c o (xs.take n) (us.take n)
 |_,_,0,_=>by simp[b7]
 | [],[],n+1,_=>by simp[b7]
 |_::_,_::_,n+1,h=>⟨h.1,b7.take n h.2⟩
 | [],_::_,_,h=>h.elim
 |_::_,[],_,h=>h.elim
def b7.drop:∀{xs:List HV} {us:List Value} (n:Nat),b7 c o xs us->b7 c o (xs.drop n) (us.drop n)
 |_,_,0,h=>h
 | [],[],n+1,_=>by simp[b7]
 |_::xs,_::us,n+1,h=>b7.drop (xs:=xs) (us:=us) n h.2
 | [],_::_,_,h=>h.elim
 |_::_,[],_,h=>h.elim
def b7.of_P:∀{xs:List PV} {us:List Value},fv c.imm xs us->b7 c o (xs.map .p) us
 | [],[],_=>trivial
 |_::_,_::_,h=>⟨h.1,b7.of_P h.2⟩
 | [],_::_,h=>h.elim
 |_::_,[],h=>h.elim
def PC.toH:PC->HC
 | .one x=>.one (.p x)
 | .agg l=>.agg (l.map .p)
def PR.toH:PR->HR
 | .v x=>.v x.toH
 | .tup l=>.tup (l.map PC.toH)
def gp.of_P {x:PC} {u:Value} (h:mr c.imm x u):gp c o x.toH u:=by
 cases x with
 |one x=>exact h
 |agg l=>obtain⟨us,e,hl⟩:=h;exact⟨us,e,b7.of_P hl⟩
def cb.of_P:∀{xs:List PC} {us:List Value},ck c.imm xs us->cb c o (xs.map PC.toH) us
 | [],[],_=>trivial
 |_::_,_::_,h=>⟨gp.of_P h.1,cb.of_P h.2⟩
 | [],_::_,h=>h.elim
 |_::_,[],h=>h.elim
def ap.of_P {x:PR} {u:Value} (h:qj c.imm x u):ap c o x.toH u:=by
 cases x with
 |v x=>exact gp.of_P h
 |tup l=>obtain⟨us,e,hl⟩:=h;exact⟨us,e,cb.of_P hl⟩
theorem cb.get:∀{xs:List HC} {us:List Value},cb c o xs us->∀(i:Nat) (x:HC),xs[i]? = some x->∃u,us[i]? = some u/\gp c o x u
 |_::_,_::_,h,0,x,hx=>by simp at hx;subst hx;exact⟨_,rfl,h.1⟩
 | _::_,_::_,h,i+1,x,hx=>by
  obtain⟨u,hu,hr⟩:=cb.get h.2 i x (by simpa using hx)
  grind
 | [],_,_,i,x,hx=>by simp at hx
 |_::_,[],h,_,_,_=>h.elim
end
def HV.men:HV->Nat->Prop
 | .p _,_=>False
 | .ref id _,k=>k=id
 | .ptr id _,k=>k=id
 | .eptr id _ _ _,k=>k=id
 | .win id _ _ _,k=>k=id
 | .clo _ n caps,k=>∃i,i<n/\(caps i).men k
 | .row id _ _,k=>k=id
 | .rptr id _ _ _ _,k=>k=id
 | .pin id _ _ _,k=>k=id
def HC.men:HC->Nat->Prop
 | .one h,k=>h.men k
 | .agg l,k=>∃h∈l,h.men k
def HR.men:HR->Nat->Prop
 | .v x,k=>x.men k
 | .tup l,k=>∃x∈l,x.men k
def a8.men:a8->Nat->Prop
 | .mp ..,_=>False
 | .bld ..,_=>False
 | .ex ..,_=>False
 | .bun _,_=>False
 | .opq ..,_=>False
 | .box l,k=>∃h∈l,h.men k
 | .arr ..,_=>False
 | .arrh _ _ _ ms _,k=>k∈ms
 | .nest _ _ _ _ _ _ (some p),k=>k=p.1
 | .nest _ _ _ _ _ _ none,_=>False
def NM(s:S)(k:Nat):Prop:=(∀d x,s.t d=some x->¬x.men k)/\(∀id ob,s.o id=some ob->¬ob.men k)/\k<1000
def ge (c:Pc) (ob:a8) (c':Pc) (ob':a8) (id:Nat):Prop :=
 ∀e et es n m g pd,ob'=.nest e et es n m g pd->∃e0 et0 n0 m0 g0 pd0,ob=.nest e0 et0 es n0 m0 g0 pd0/\n0<=n/\∀i,i<n0->m0 i<=m i/\(m i=m0 i->c'.rows id i=c.rows id i)
def ge.same{c c':Pc}{ob:a8}{id:Nat}(h:c'.rows id=c.rows id):ge c ob c' ob id:=λe et es n m g pd hb=>⟨e,et,n,m,g,pd,hb,Yb _,λi _=>⟨Yb _,λ_=>by rw[h]⟩⟩
def Vc (c:Pc) (o:av) (c':Pc) (o':av) (id:Nat):Prop :=
 o' id=none\/(∃l l',o id=some (.box l)/\o' id=some (.box l')/\c'.own id=c.own id) \/
 (∃ob ob' s e n n',o id=some ob/\ob.dim=some (s,e,n)/\o' id=some ob'/\ob'.dim=some (s,e,n')/\n<=n'/\(n'=n->c'.own id=c.own id)/\ge c ob c' ob' id)
theorem Vc.refl (c:Pc) (o:av) (id:Nat):Vc c o c o id:=by
 cases h:o id with
 |none=>exact .inl h
 | some ob =>
  cases ob with
  |box l=>exact .inr (.inl ⟨l,l,h,h,rfl⟩)
  |mp kk n f=>exact .inr (.inr ⟨_,_,0,0,0,0,h,rfl,h,rfl,Yb _,λ_=>rfl,ge.same rfl⟩)
  |bld fr T e l=>exact .inr (.inr ⟨_,_,0,1,0,0,h,rfl,h,rfl,Yb _,λ_=>rfl,ge.same rfl⟩)
  |ex d v b x=>exact .inr (.inr ⟨_,_,0,d,0,0,h,rfl,h,rfl,Yb _,λ_=>rfl,ge.same rfl⟩)
  |bun B=>exact .inr (.inr ⟨_,_,0,3,0,0,h,rfl,h,rfl,Yb _,λ_=>rfl,ge.same rfl⟩)
  |opq s e n R=>exact .inr (.inr ⟨_,_,s,e,n,n,h,rfl,h,rfl,Yb _,λ_=>rfl,ge.same rfl⟩)
  |arr wr s e n f=>exact .inr (.inr ⟨_,_,s,e,n,n,h,rfl,h,rfl,Yb _,λ_=>rfl,ge.same rfl⟩)
  |arrh s e n ms f=>exact .inr (.inr ⟨_,_,s,e,n,n,h,rfl,h,rfl,Yb _,λ_=>rfl,ge.same rfl⟩)
  |nest e et es n m g pd=>cases pd<;>exact .inr (.inr ⟨_,_,1,e,_,_,h,rfl,h,rfl,Yb _,λ_=>rfl,ge.same rfl⟩)
theorem Vc.trans {c c' c'':Pc} {o o' o'':av} {id:Nat} (h:Vc c o c' o' id) (k:Vc c' o' c'' o'' id):Vc c o c'' o'' id:=by
 rcases k with k|⟨l,l',k1,k2,k3⟩|⟨ob,ob',s,e,n,n',k1,k1',k2,k2',k3,k4,k5⟩
 .exact .inl k
 .rcases h with h|⟨m,m',h1,h2,h3⟩|⟨oa,oa',s,e,n,n',h1,h1',h2,h2',h3,h4,_⟩
  .grind
  .exact .inr (.inl ⟨m,l',h1,k2,k3.trans h3⟩)
  rw[h2]at k1;simp only[Bb]at k1;subst k1;cases h2'
 rcases h with h|⟨m,m',h1,h2,h3⟩|⟨oa,oa',s2,e2,m,m',h1,h1',h2,h2',h3,h4,h5⟩
 .grind
 .rw[h2]at k1;simp only[Bb]at k1;subst k1;cases k1'
 rw[h2]at k1;simp only[Bb]at k1;subst k1;rw[h2']at k1';simp only[Bb,Tc]at k1';obtain⟨rfl,rfl,rfl⟩:=k1'
 exact .inr (.inr ⟨oa,ob',_,_,m,n',h1,h1',k2,k2',by omega,λhn=>by rw[k4 Za,h4 Za],λe et es n m g pd hb=>by
  obtain⟨e0,et0,n0,m0,g0,pd0,q1,q2,q3⟩:=k5 e et es n m g pd hb;obtain⟨e1,et1,n1,m1,g1,pd1,r1,r2,r3⟩:=h5 _ _ _ _ _ _ _ q1;refine⟨e1,et1,n1,m1,g1,pd1,r1,Nd r2 q2,λi hi=>?_⟩;obtain⟨a1,a2⟩:=r3 i hi;obtain⟨b1,b2⟩:=q3 i (Ln hi r2)
  exact⟨Nd a1 b1,λhm=>by rw[b2 Za,a2 Za]⟩⟩)
theorem Vc.of_same {c c':Pc} {o o':av} {id:Nat} (h:o' id=o id) (hw:c'.own id=c.own id) (hr:c'.rows id=c.rows id:=by first|rfl|assumption|simp):Vc c o c' o' id:=by
 cases ho:o id with
 |none=>exact .inl (h.trans ho)
 | some ob =>
  cases ob with
  |box l=>exact .inr (.inl ⟨l,l,ho,h.trans ho,hw⟩)
  |mp kk n f=>exact .inr (.inr ⟨_,_,0,0,0,0,ho,rfl,h.trans ho,rfl,Yb _,λ_=>hw,ge.same hr⟩)
  |bld fr T e l=>exact .inr (.inr ⟨_,_,0,1,0,0,ho,rfl,h.trans ho,rfl,Yb _,λ_=>hw,ge.same hr⟩)
  |ex d v b x=>exact .inr (.inr ⟨_,_,0,d,0,0,ho,rfl,h.trans ho,rfl,Yb _,λ_=>hw,ge.same hr⟩)
  |bun B=>exact .inr (.inr ⟨_,_,0,3,0,0,ho,rfl,h.trans ho,rfl,Yb _,λ_=>hw,ge.same hr⟩)
  |opq s e n R=>exact .inr (.inr ⟨_,_,s,e,n,n,ho,rfl,h.trans ho,rfl,Yb _,λ_=>hw,ge.same hr⟩)
  |arr wr s e n f=>exact .inr (.inr ⟨_,_,s,e,n,n,ho,rfl,h.trans ho,rfl,Yb _,λ_=>hw,ge.same hr⟩)
  |arrh s e n ms f=>exact .inr (.inr ⟨_,_,s,e,n,n,ho,rfl,h.trans ho,rfl,Yb _,λ_=>hw,ge.same hr⟩)
  |nest e et es n m g pd=>cases pd<;>exact .inr (.inr ⟨_,_,1,e,_,_,ho,rfl,h.trans ho,rfl,Yb _,λ_=>hw,ge.same hr⟩)
section
variable {c c':Pc}{o o':av}
theorem bc.evo {h:HV} {u:Value} (hi:Dc.le c.imm c'.imm) (he:∀id,h.men id->Vc c o c' o' id) (hr:bc c o h u):bc c' o' h u:=by
 induction h generalizing u with
 |p x=>exact aq.mono hi hr
 | ref id k =>
  obtain⟨h1,h2,h3⟩:=hr
  rcases he id rfl with h|⟨l,l',hl,hl',_⟩|⟨oa,ob,s,e,n,n',ha,hd,ha',hd',hn,hw,_⟩
  .exact⟨h1,λl=>by simp[h],λob s e n hob=>by simp[h]at hob⟩
  .grind
  refine⟨h1,λl hl=>?_,λob2 s2 e2 n2 h hd2=>?_⟩
  .rw[ha']at hl;simp only[Bb]at hl;subst hl;cases hd'
  grind
 | ptr id off =>
  obtain⟨h1,h2,h3⟩:=hr
  rcases he id rfl with h|⟨l,l',hl,hl',hw⟩|⟨oa,ob,s,e,n,n',ha,hd,ha',hd',hn,hw,_⟩
  .exact⟨h1,λob d hob=>by simp[h]at hob,λl=>by simp[h]⟩
  .refine ⟨h1,λob d hob=>by rw[hl']at hob;simp only[Bb]at hob;subst hob;simp[a8.dim],λl2 h=>?_⟩
   grind
  grind
 | eptr id k i j =>
  obtain⟨h1,h2,h3⟩:=hr
  rcases he id rfl with h|⟨l,l',hl,hl',_⟩|⟨oa,ob,s,e,n,n',ha,hd,ha',hd',hn,hw,_⟩
  .exact⟨h1,λl=>by simp[h],λob s e n hob=>by simp[h]at hob⟩
  .grind
  refine⟨h1,λl hl=>?_,λob2 s2 e2 n2 h hd2=>?_⟩
  .rw[ha']at hl;simp only[Bb]at hl;subst hl;cases hd'
  grind
 | win id k i m =>
  obtain⟨h1,h2,h3⟩:=hr
  rcases he id rfl with h|⟨l,l',hl,hl',_⟩|⟨oa,ob,s,e,n,n',ha,hd,ha',hd',hn,hw,_⟩
  .exact⟨h1,λl=>by simp[h],λob s e n hob=>by simp[h]at hob⟩
  .grind
  refine⟨h1,λl hl=>?_,λob2 s2 e2 n2 h hd2=>?_⟩
  .rw[ha']at hl;simp only[Bb]at hl;subst hl;cases hd'
  rw[ha']at h;simp only[Bb]at h
  grind
 | row id i k =>
  obtain⟨h1,h2⟩:=hr;refine⟨h1,λe et es n m g pd hn=>?_⟩
  rcases he id rfl with h|⟨l,l',hl,hl',_⟩|⟨oa,ob,s,e,n,n',ha,hd,ha',hd',_,_,hk⟩
  .grind
  .grind
  rw[ha']at hn;simp only[Bb]at hn;obtain⟨e0,et0,n0,m0,g0,pd0,q1,q2,q3⟩:=hk _ _ _ _ _ _ _ hn
  grind
 | rptr id i k r j =>
  obtain⟨h1,h2⟩:=hr;refine⟨h1,λe et es n m g pd hn=>?_⟩
  rcases he id rfl with h|⟨l,l',hl,hl',_⟩|⟨oa,ob,s,e,n,n',ha,hd,ha',hd',_,_,hk⟩
  .grind
  .grind
  rw[ha']at hn;simp only[Bb]at hn;obtain⟨e0,et0,n0,m0,g0,pd0,q1,q2,q3⟩:=hk _ _ _ _ _ _ _ hn
  grind
 | pin id k ad cap =>
  obtain⟨h1,h2,h3⟩:=hr
  rcases he id rfl with h|⟨l,l',hl,hl',_⟩|⟨oa,ob,s,e,n,n',ha,hd,ha',hd',hn,hw,_⟩
  .exact⟨h1,λl=>by simp[h],λob s e n hob=>by simp[h]at hob⟩
  .grind
  refine⟨h1,λl hl=>?_,λob2 s2 e2 n2 h hd2=>?_⟩
  .rw[ha']at hl;simp only[Bb]at hl;subst hl;cases hd'
  grind
 | clo g k caps ih =>
  obtain⟨cs,rfl,h2,h3⟩:=hr
  exact ⟨cs,rfl,h2,λi hi=>by
   obtain⟨x,hx,hrx⟩:=h3 i hi
   exact⟨x,hx,ih i (λid hm=>he id ⟨i,hi,hm⟩) hrx⟩⟩
def b7.evo (hi:Dc.le c.imm c'.imm):∀{xs:List HV} {us:List Value},(∀id,(∃h∈xs,h.men id)->Vc c o c' o' id)->b7 c o xs us->b7 c' o' xs us
 | [],[],_,_=>trivial
 |x::xs,u::us,he,h=>⟨h.1.evo hi λid hm=>he id ⟨x,by simp,hm⟩,b7.evo hi (λid ⟨y,hy,hm⟩=>he id ⟨y,by simp[hy],hm⟩) h.2⟩
 | [],_::_,_,h=>h.elim
 |_::_,[],_,h=>h.elim
def gp.evo {x:HC} {u:Value} (hi:Dc.le c.imm c'.imm) (he:∀id,x.men id->Vc c o c' o' id) (hr:gp c o x u):gp c' o' x u:=by
 cases x with
 |one h=>exact bc.evo hi he hr
 |agg l=>obtain⟨us,e,hl⟩:=hr;exact⟨us,e,b7.evo hi he hl⟩
def cb.evo (hi:Dc.le c.imm c'.imm):∀{xs:List HC} {us:List Value},(∀id,(∃h∈xs,h.men id)->Vc c o c' o' id)->cb c o xs us->cb c' o' xs us
 | [],[],_,_=>trivial
 |x::xs,u::us,he,h=>⟨h.1.evo hi λid hm=>he id ⟨x,by simp,hm⟩,cb.evo hi (λid ⟨y,hy,hm⟩=>he id ⟨y,by simp[hy],hm⟩) h.2⟩
 | [],_::_,_,h=>h.elim
 |_::_,[],_,h=>h.elim
def ap.evo {x:HR} {u:Value} (hi:Dc.le c.imm c'.imm) (he:∀id,x.men id->Vc c o c' o' id) (hr:ap c o x u):ap c' o' x u:=by
 cases x with
 |v x=>exact gp.evo hi he hr
 |tup l=>obtain⟨us,e,hl⟩:=hr;exact⟨us,e,cb.evo hi he hl⟩
end
def Cg:Nat->Prop:=λ_=>False
def yn(b:Nat):Nat->Prop:=λb'=>b'=b
def oY (base:Nat) (c:Pc) (w:World) (id:Nat) (kk:KK) (n:Nat) (f:MK->Option PV):Prop :=
 ∃ b es clock,c.own id=.map (some b)/\c.blk id=yn b/\(base<=b/\kk.has b)/\w.heap[b]? = some (.map es clock)/\Go.MapKept.Stamped es clock/\es.size<=n/\es.size<=maxLen /\
  (∀x∈es.toList,∃key y,x.key=key.val/\f key=some y/\aq c.imm y x.val)/\∀key y,f key=some y->MK.ok kk key/\∃x∈es.toList,x.key=key.val
def eB:Obj->Bool
 | .cells ..=>true
 | .map ..=>true
 | .mapIter ..=>true
 |_=>false
def G2(base:Nat)(c:Pc)(w:World)(id:Nat)(B:Nat->Option Obj):Prop:=(∀b,c.blk id b->B b≠none)/\∀b x,B b=some x->c.blk id b/\base<=b/\w.heap[b]? = some x/\eB x=true
noncomputable def Ml (bk:Nat->Prop) (w:World):Nat->Option Obj:=λb=>by
 classical exact if bk b then w.heap[b]? else none
section
variable {b:Nat}{w:World}
def YD {bk:Nat->Prop} (h:bk b):Ml bk w b=w.heap[b]?:=by
 unfold Ml;exact if_pos h
variable {w':World}
theorem b32 {bk:Nat->Prop} (h:∀b,bk b->w'.heap[b]? = w.heap[b]?):Ml bk w'=Ml bk w:=by
 funext b;unfold Ml
 grind
def U1 (base:Nat) (c:Pc) (w:World) (id:Nat) (R:Value->(Nat->Prop)->(Nat->Option Obj)->Prop):Prop :=
 (∀b,c.blk id b->base<=b/\∃x,w.heap[b]? = some x/\eB x=true)/\(c.own id).oneCell'=true/\R (c.own id) (c.blk id) (Ml (c.blk id) w)
def TX(base:Nat)(c:Pc)(w:World)(id:Nat)(v:Value)(b:Nat)(x:Obj):Prop:=c.own id=v/\c.blk id=yn b/\base<=b/\w.heap[b]? = some x/\eB x=true
def d5:Value->Option Nat
 | .pointer (some a)=>some a.block
 | .slice (some a) _ _=>some a.block
 |_=>none
def fq(v:Value):Nat->Prop:=λb=>d5 v=some b
variable {v:Value}
def RU (h:d5 v=none):fq v=Cg:=by
 funext b;simp[fq,Cg,h]
def UN (base:Nat) (c:Pc) (w:World) (id:Nat) (fr:Bool) (T e:TypeId) (l:List Value):Prop :=
 ∃ b p v,c.own id=.pointer (some ⟨b,0,none⟩)/\base<=b/\w.heap[b]? = some (.cells #[p,v] T (0,0))/\(p=.pointer none\/p=.pointer (some ⟨b,0,none⟩))/\w.ownsRow base e 1 v l.length l/\d5 v≠some b /\
  (∀k,c.blk id k<->k=b\/d5 v=some k)/\(fr=true->p=.pointer none/\v=.slice none 0 0)
def ng:Option (Nat×Nat)->Nat
 |none=>0
 |some _=>1
def ay:Value->Option Nat
 | .slice (some a) _ cap=>if cap=0 then none else some a.block
 |_=>none
variable {g:Nat->Nat->Nat->PV}{n:Nat}{pd:Option (Nat×Nat)}
def oF{e et:TypeId}{es:Nat}{m:Nat->Nat}:(a8.nest e et es n m g pd).dim=some (1,e,n+ng pd):=by cases pd<;>rfl
structure lh (base:Nat) (c:Pc) (o:av) (w:World) (id:Nat) (e et:TypeId) (es n:Nat) (m:Nat->Nat) (g:Nat->Nat->Nat->PV) (pd:Option (Nat×Nat)):Prop where
 pos:0<es
 len:n+ng pd<=maxLen
 lens:∀i,i<n->m i<=maxLen
 blks:∀b,c.blk id b<->(ay (c.own id)=some b\/∃i,i<n/\ay (c.rows id i)=some b)
 apart:∀i b,i<n->ay (c.rows id i)=some b->ay (c.own id)≠some b/\∀i',i'<n->ay (c.rows id i')=some b->i'=i
 row:∀i,i<n->(m i=0/\∃a,c.rows id i=.slice a 0 0)\/∃ys,w.ownsRow base et es (c.rows id i) (m i) ys/\∀r j,r<m i->j<es->∃x,ys[r*es+j]? = some x/\aq c.imm (g i r j) x
 top:(n+ng pd=0/\∃a,c.own id=.slice a 0 0)\/∃xs,w.ownsRow base e 1 (c.own id) (n+ng pd) xs/\(∀i,i<n->xs[i]? = some (c.rows id i))/\∀p,pd=some p->∃x,xs[n]? = some x/\bc c o (.ref p.1 p.2) x
def eq(base:Nat)(c:Pc)(o:av)(w:World)(id:Nat):a8->Prop
 | .nest e et es n m g pd=>lh base c o w id e et es n m g pd
 | .mp kk n f=>oY base c w id kk n f
 | .bld fr T e l=>UN base c w id fr T e l
 | .ex _ v b x=>TX base c w id v b x
 | .bun B=>G2 base c w id B
 | .opq _ _ _ R=>U1 base c w id R
 | .box l=>∃b C e,c.own id=.pointer (some ⟨b,0,none⟩)/\c.blk id=yn b/\base<=b/\w.heap[b]? = some (.cells C e (0,0))/\b7 c o l C.toList
 | .arr wr s e n f=>0<s/\n<=maxLen /\
  ((c.blk id=fq (c.own id)/\∃xs,w.ownsRow base e s (c.own id) n xs/\∀i j,i<n->j<s->∃x,xs[i*s+j]? = some x/\aq c.imm (f i j) x) \/
   ((wr=false\/n=0)/\c.blk id=Cg/\aq c.imm (.sl n s true f) (c.own id)))
 | .arrh s e n ms f=>0<s/\n<=maxLen/\(∀i j k,i<n->j<s->(f i j).men k->k∈ms) /\
  ((c.blk id=fq (c.own id)/\∃xs,w.ownsRow base e s (c.own id) n xs/\∀i j,i<n->j<s->∃x,xs[i*s+j]? = some x/\bc c o (f i j) x) \/
   (n=0/\c.blk id=Cg/\aq c.imm (.sl 0 s true λ_ _=>.any) (c.own id)))
variable {base:Nat}{xs:List Value}
def o3 {e s:Nat} (h:w.ownsRow base e s v n xs) (hb:∀b,d5 v=some b->w'.heap[b]? = w.heap[b]?):w'.ownsRow base e s v n xs:=by
 refine⟨h.1, ?_⟩
 rcases h.2 with h2|⟨g,cap,cur,hv,hg,hh,r⟩
 .exact .inl h2
 exact .inr ⟨g,cap,cur,hv,hg,(hb g (by rw[hv];rfl)).trans hh,r⟩
theorem gh {e s:Nat} (h:w.ownsRow base e s v n xs):(n=0/\∃a,v=.slice a 0 0)\/∃b cap,v=.slice (some ⟨b,0,none⟩) n cap/\ay v=some b:=by
 rcases h.2 with⟨h2,h3⟩|⟨g,cap,cur,hv,hg,hh,hc,r⟩
 .grind
 by_cases h0:cap=0
 .grind
 refine .inr ⟨g,cap,hv, ?_⟩;rw[hv];simp[ay,h0]
variable {id:Nat}
theorem eq.keep {c c':Pc} {o o':av} {ob:a8} (h:eq base c o w id ob) (hi:Dc.le c.imm c'.imm) (hw:c'.own id=c.own id) (hk:c'.blk id=c.blk id) (he:∀k,ob.men k->Vc c o c' o' k) (hb:∀b,c.blk id b->w'.heap[b]? = w.heap[b]?) (hrs:c'.rows id=c.rows id:=by first|rfl|assumption|simp):eq base c' o' w' id ob:=by
 cases ob with
 | nest e et es n m g pd =>
  obtain⟨q1,q2,q3,q4,q5,q6,q789⟩:=h;refine⟨q1,q2,q3,by rw[hw,hk,hrs];exact q4,by rw[hw,hrs];exact q5,λi hi'=>?_, ?_⟩
  .rw [hrs]
   rcases q6 i hi' with r0|⟨ys,r1,r2⟩
   .exact .inl r0
   rcases gh r1 with r0|⟨b,cap,rv,rb⟩
   .exact .inl r0
   refine .inr ⟨ys,o3 r1 λb' hbb=>?_,λr j hr hj=>?_⟩
   .rw [rv]at hbb
    simp only[d5,Bb]at hbb
    grind
   obtain⟨x,hx,Be⟩:=r2 r j hr hj;exact⟨x,hx,Be.mono hi⟩
  rw[hw,hrs]
  rcases q789 with r0|⟨xs,q7,q8,q9⟩
  .exact .inl r0
  rcases gh q7 with r0|⟨b,cap,rv,rb⟩
  .exact .inl r0
  refine .inr ⟨xs,o3 q7 λb' hbb=>?_,q8,λp hp=>?_⟩
  .rw [rv]at hbb
   simp only[d5,Bb]at hbb
   grind
  obtain⟨x,hx,Be⟩:=q9 p hp;subst hp;exact⟨x,hx,Be.evo hi λk hkm=>he k hkm⟩
 | mp kk n f =>
  obtain⟨b,es,clock,h1,h2,h3,h4,h5,h6,h7,h8,h9⟩:=h
  exact ⟨b,es,clock,hw.trans h1,hk.trans h2,h3,(hb b (by rw[h2];rfl)).trans h4,h5,h6,h7,λx hx=>by
   obtain⟨key,y,q1,q2,q3⟩:=h8 x hx
   exact⟨key,y,q1,q2,q3.mono hi⟩,h9⟩
 | ex d v b' x =>
  obtain⟨h1,h2,h3,h4,h5⟩:=h;exact⟨hw.trans h1,hk.trans h2,h3,(hb b' (by rw[h2];rfl)).trans h4,h5⟩
 | bun B =>
  obtain⟨h1,h2⟩:=h
  exact ⟨λb hbb=>h1 b (by rwa [hk]at hbb),λb x hB=>by
   obtain⟨q1,q2,q3,q4⟩:=h2 b x hB
   exact⟨by rw[hk];exact q1,q2,(hb b q1).trans q3,q4⟩⟩
 | opq s e n R =>
  obtain⟨h1,h2,h3⟩:=h;refine⟨λb hbb=>?_,by rw[hw];exact h2, ?_⟩
  .simp_all
  rw[hw,hk,b32 hb];exact h3
 | bld fr T e l =>
  obtain⟨b,p,v,h1,h2,h3,h4,h5,h6,h7,h8⟩:=h;exact⟨b,p,v,hw.trans h1,h2,(hb b ((h7 b).2 (.inl rfl))).trans h3,h4,o3 h5 λk hk=>hb k ((h7 k).2 (.inr hk)),h6,(λk=>by rw[hk];exact h7 k),h8⟩
 | box l =>
  obtain⟨b,C,e,h1,h1',h2,h3,h4⟩:=h;exact⟨b,C,e,hw.trans h1,hk.trans h1',h2,(hb b (by rw[h1'];rfl)).trans h3,h4.evo hi he⟩
 | arr wr s e n f =>
  obtain⟨h0,h1,h5⟩:=h;refine⟨h0,h1, ?_⟩
  rcases h5 with⟨h6,xs,h2,h3⟩|⟨h6,h7,h8⟩
  .refine .inl ⟨by rw[hw,hk,h6],xs, ?_,λi j hi' hj=>by
    obtain⟨x,hx,hr⟩:=h3 i j hi' hj
    exact⟨x,hx,hr.mono hi⟩⟩
   rw[hw];refine⟨h2.1, ?_⟩
   rcases h2.2 with h2|⟨g,cap,cur,hv,hg,hh,r⟩
   .exact .inl h2
   exact .inr ⟨g,cap,cur,hv,hg,(hb g (by rw[h6,hv];rfl)).trans hh,r⟩
  exact .inr ⟨h6,hk.trans h7,by rw[hw];exact aq.mono hi h8⟩
 | arrh s e n ms f =>
  obtain⟨h0,h1,h7,h8⟩:=h;refine⟨h0,h1,h7, ?_⟩
  rcases h8 with⟨h6,xs,h2,h3⟩|⟨h6,h9,h8⟩
  .refine .inl ⟨by rw[hw,hk,h6],xs, ?_,λi j hi' hj=>by
    obtain⟨x,hx,hr⟩:=h3 i j hi' hj
    exact⟨x,hx,hr.evo hi λk hk=>he k (h7 i j k hi' hj hk)⟩⟩
   rw[hw];refine⟨h2.1, ?_⟩
   rcases h2.2 with h2|⟨g,cap,cur,hv,hg,hh,r⟩
   .exact .inl h2
   exact .inr ⟨g,cap,cur,hv,hg,(hb g (by rw[h6,hv];rfl)).trans hh,r⟩
  exact .inr ⟨h6,hk.trans h9,by rw[hw];exact aq.mono hi h8⟩
theorem xr {e s:Nat} (h:w.ownsRow base e s v n xs) (hb:d5 v=some b):base<=b/\∃cs fr,w.heap[b]? = some (.cells cs e fr):=by
 rcases h.2 with⟨h2,_⟩|⟨g,cap,cur,hv,hg,hh,r⟩
 .rw[h2]at hb;cases hb
 rw[hv]at hb;simp only[d5,Bb]at hb
 grind
theorem lh.block {c:Pc} {o:av} {e et:TypeId} {es:Nat} {m:Nat->Nat} (h:lh base c o w id e et es n m g pd) (hb:c.blk id b):base<=b/\∃cs e fr,w.heap[b]? = some (.cells cs e fr):=by
 rcases(h.blks b).1 hb with h1|⟨i,hi,h1⟩
 .rcases h.top with⟨_,a,h2⟩|⟨xs,h2,_⟩
  .rw [h2]at h1
   cases a<;>simp[ay]at h1
  have h3:d5 (c.own id)=some b:=by
   rcases gh h2 with⟨_,a,rv⟩|⟨b',cap,rv,rb⟩
   .rw [rv]at h1
    cases a<;>simp[ay]at h1
   rw[rb]at h1;cases h1;rw[rv];rfl
  obtain⟨r1,cs,fr,r2⟩:=xr h2 h3
  grind
 rcases h.row i hi with⟨_,a,h2⟩|⟨ys,h2,_⟩
 .rw [h2]at h1
  cases a<;>simp[ay]at h1
 have h3:d5 (c.rows id i)=some b:=by
  rcases gh h2 with⟨_,a,rv⟩|⟨b',cap,rv,rb⟩
  .rw [rv]at h1
   cases a<;>simp[ay]at h1
  rw[rb]at h1;cases h1;rw[rv];rfl
 obtain⟨r1,cs,fr,r2⟩:=xr h2 h3
 grind
theorem eq.blk {c:Pc} {o:av} {ob:a8} (h:eq base c o w id ob) (hb:c.blk id b):base<=b/\b<w.heap.size:=by
 cases ob with
 | nest e et es n m g pd =>
  obtain⟨h1,cs,e,fr,h2⟩:=lh.block h hb
  grind
 | mp kk n f =>
  obtain⟨b',es,clock,h1,h2,h3,h4,_⟩:=h;rw[h2]at hb;have hb:b=b':=hb
  grind
 | ex d v b' x =>
  obtain⟨h1,h2,h3,h4,_⟩:=h;rw[h2]at hb;have hb:b=b':=hb
  grind
 | opq s e n R =>
  obtain⟨q1,x,q2,q3⟩:=h.1 b hb
  grind
 | bun B =>
  cases hB:B b with
  |none=>exact absurd hB (h.1 b hb)
  | some x =>
   obtain⟨_,q2,q3,_⟩:=h.2 b x hB
   grind
 | bld fr T e l =>
  obtain⟨b',p,v,h1,h2,h3,h4,h5,h6,h7,_⟩:=h
  rcases(h7 b).1 hb with rfl|hb
  .grind
  obtain⟨q1,cs,fr,q2⟩:=xr h5 hb
  grind
 | box l =>
  obtain⟨b',C,e,h1,h1',h2,h3,h4⟩:=h;rw[h1']at hb;have hb:b=b':=hb
  grind
 | arr wr s e n f =>
  obtain⟨h0,h1,h5⟩:=h
  rcases h5 with⟨h6,xs,h2,h3⟩|⟨h6,h7,h8⟩
  .rw [h6]at hb
   rcases h2.2 with⟨h2,_⟩|⟨g,cap,cur,hv,hg,hh,r⟩
   .rw[h2]at hb;cases hb
   rw[hv]at hb;simp only[fq,d5,Bb]at hb
   grind
  rw[h7]at hb;exact hb.elim
 | arrh s e n ms f =>
  obtain⟨h0,h1,h7,h8⟩:=h
  rcases h8 with⟨h6,xs,h2,h3⟩|⟨h6,h9,h8⟩
  .rw [h6]at hb
   rcases h2.2 with⟨h2,_⟩|⟨g,cap,cur,hv,hg,hh,r⟩
   .rw[h2]at hb;cases hb
   rw[hv]at hb;simp only[fq,d5,Bb]at hb
   grind
  rw[h9]at hb;exact hb.elim
theorem eq.data {c:Pc} {o:av} {ob:a8} (h:eq base c o w id ob) (hb:c.blk id b):∃x,w.heap[b]? = some x/\eB x=true:=by
 cases ob with
 | nest e et es n m g pd =>
  obtain⟨h1,cs,e,fr,h2⟩:=lh.block h hb;exact⟨_,h2,rfl⟩
 | mp kk n f =>
  obtain⟨b',es,clock,h1,h2,h3,h4,_⟩:=h;rw[h2]at hb;have hb:b=b':=hb;subst hb;exact⟨_,h4,rfl⟩
 | ex d v b' x =>
  obtain⟨h1,h2,h3,h4,h5⟩:=h;rw[h2]at hb;have hb:b=b':=hb
  grind
 | opq s e n R =>
  obtain⟨q1,x,q2,q3⟩:=h.1 b hb
  grind
 | bun B =>
  cases hB:B b with
  |none=>exact absurd hB (h.1 b hb)
  | some x =>
   obtain⟨_,_,q3,q4⟩:=h.2 b x hB
   grind
 | bld fr T e l =>
  obtain⟨b',p,v,h1,h2,h3,h4,h5,h6,h7,_⟩:=h
  rcases(h7 b).1 hb with rfl|hb
  .exact⟨_,h3,rfl⟩
  obtain⟨q1,cs,fr,q2⟩:=xr h5 hb;exact⟨_,q2,rfl⟩
 | box l =>
  obtain⟨b',C,e,h1,h1',h2,h3,h4⟩:=h;rw[h1']at hb;have hb:b=b':=hb;subst hb;exact⟨_,h3,rfl⟩
 | arr wr s e n f =>
  obtain⟨h0,h1,h5⟩:=h
  rcases h5 with⟨h6,xs,h2,h3⟩|⟨h6,h7,h8⟩
  .rw [h6]at hb
   rcases h2.2 with⟨h2,_⟩|⟨g,cap,cur,hv,hg,hh,r⟩
   .rw[h2]at hb;cases hb
   rw[hv]at hb;simp only[fq,d5,Bb]at hb;subst hb;exact⟨_,hh,rfl⟩
  rw[h7]at hb;exact hb.elim
 | arrh s e n ms f =>
  obtain⟨h0,h1,h7,h8⟩:=h
  rcases h8 with⟨h6,xs,h2,h3⟩|⟨h6,h9,h8⟩
  .rw [h6]at hb
   rcases h2.2 with⟨h2,_⟩|⟨g,cap,cur,hv,hg,hh,r⟩
   .rw[h2]at hb;cases hb
   rw[hv]at hb;simp only[fq,d5,Bb]at hb;subst hb;exact⟨_,hh,rfl⟩
  rw[h9]at hb;exact hb.elim
def vg (w0:World) (imm frm:Dc) (l:List Deferred) (w:World):Prop :=
 l.Pairwise (·≠·)/\∀d∈l,∃D,d={ target:=.collected D,args:=#[] }/\w.heap[D]? = some (.deferred (some []))/\imm D=none/\frm D=none/\w0.heap.size<=D
def vg.nil(w0:World)(imm frm:Dc)(w:World):vg w0 imm frm [] w:=⟨List.Pairwise.nil,λ_ h=>by cases h⟩
def vg.keep {w0:World} {imm imm' frm:Dc} {l:List Deferred} (h:vg w0 imm frm l w) (hb:∀D:Nat,w.heap[D]? = some (.deferred (some []))->w'.heap[D]? = w.heap[D]?) (hi:∀D:Nat,imm D=none->w.heap[D]? = some (.deferred (some []))->imm' D=none):vg w0 imm' frm l w' :=
 ⟨h.1,λd hd=>by
  obtain⟨D,h1,h2,h3,h4⟩:=h.2 d hd
  exact⟨D,h1,(hb D h2).trans h2,hi D h3 h2,h4⟩⟩
structure ah (w0:World) (nt:Nat) (c:Pc) (s:S) (a:Act) (w:World):Prop where
 defers:vg w0 c.imm c.frm a.defers w
 size:a.tmps.size=nt
 below:Below 0 w0 w
 tmps:∀d x,s.t d=some x->ap c s.o x (a.tmps.getD d undef)
 objs:∀id ob,s.o id=some ob->eq 0 c s.o w id ob
 inj:∀id id' ob ob' b,s.o id=some ob->s.o id'=some ob'->c.blk id b->c.blk id' b->id=id'
 imm:∀b ob,c.imm b=some ob->w.heap[b]? = some ob
 sep:∀id ob b,s.o id=some ob->c.blk id b->c.imm b=none
 was:∀b,c.frm b≠none->c.imm b=c.old.1 b
 frm:∀b ob,c.frm b=some ob->w.heap[b]? = some ob
 fsep:∀id ob b,s.o id=some ob->c.blk id b->c.frm b=none
 fixed:∀id,1000<=id->Vc c.start c.old.2.2.2.1 c s.o id
def Sf(w0:World)(m0:Wm)(nt:Nat)(s:S)(a:Act)(w:World):Prop:=∃c,c.old=m0/\ah w0 nt c s a w
def S.put(s:S)(d:Nat)(x:Option HR):S:={ s with t:=λk=>if k=d then x else s.t k }
def S.putD(s:S)(d:Option Tmp)(x:Option HR):S:=match d with|some d=>s.put d x|none=>s
def S.setO(s:S)(id:Nat)(ob:Option a8):S:={ s with o:=λk=>if k=id then ob else s.o k }
end
section
variable {w0:World}{nt:Nat}{c:Pc}{s:S}{a:Act}{w:World}
def ah.put(h:ah w0 nt c s a w)(d:Nat)(hd:d<nt)(x:Option HR)(v:Value)(hx:∀y,x=some y->ap c s.o y v):ah w0 nt c (s.put d x) (a.put (some d) v) w:=by
 refine⟨h.defers,by simp[Act.put,h.size],h.below,λk y hy=>?_,h.objs,h.inj,h.imm,h.sep,h.was,h.frm,h.fsep,h.fixed⟩;simp only[S.put]at hy;by_cases hk:k=d
 .subst hk
  rw[if_pos rfl]at hy;have hs:k<a.tmps.size:=by rw[h.size];exact hd
  have:(a.put (some k) v).tmps.getD k undef=v:=by simp[Act.put,hs]
  rw[this];exact hx y hy
 rw[if_neg hk]at hy
 have:(a.put (some d) v).tmps.getD k undef=a.tmps.getD k undef:=by
  simp[Act.put,Array.getElem?_setIfInBounds_ne (Ne.symm hk)]
 rw[this];exact h.tmps k y hy
def ah.putD (h:ah w0 nt c s a w) (d:Option Tmp) (hd:∀k,d=some k->k<nt) (x:Option HR) (v:Value) (hx:∀y,x=some y->ap c s.o y v):ah w0 nt c (s.putD d x) (a.put d v) w:=by
 cases d with
 |none=>exact h
 |some d=>exact h.put d (hd d rfl) x v hx
def ah.drew (h:ah w0 nt c s a w):ah w0 nt c s a { w with drawn:=w.drawn+1 } :=
 ⟨h.defers,h.size,h.below.drew,h.tmps,λid ob ho=>(h.objs id ob ho).keep (Dc.le.refl _) rfl rfl (λ_ _=>Vc.refl _ _ _) (λ_ _=>rfl),h.inj,h.imm,h.sep,h.was,h.frm,h.fsep,h.fixed⟩
theorem ah.fresh (h:ah w0 nt c s a w) (id:Nat) (hm:NM s id) (hn:s.o id=none) (ob:a8) (w':World) (v:Value) (bk:Nat->Prop)
 (hg:Wf w w' none) (hv:∀b,bk b->w.heap.size<=b)
 (hk:eq 0 { old:=c.old,imm:=c.imm,tab:=c.tab,own:=λk=>if k=id then v else c.own k,blk:=λk=>if k=id then bk else c.blk k,rows:=c.rows } (s.setO id (some ob)).o w' id ob) :
 ah w0 nt { old:=c.old,imm:=c.imm,tab:=c.tab,own:=λk=>if k=id then v else c.own k,blk:=λk=>if k=id then bk else c.blk k,rows:=c.rows } (s.setO id (some ob)) a w':=by
 have _:=hn;have ho:∀k,k≠id->(s.setO id (some ob)).o k=s.o k:=λk hk=>by simp[S.setO,hk]
 have hevo:∀k,k≠id->Vc c s.o { old:=c.old,imm:=c.imm,tab:=c.tab,own:=λk=>if k=id then v else c.own k,blk:=λk=>if k=id then bk else c.blk k,rows:=c.rows } (s.setO id (some ob)).o k:=λk hk=>Vc.of_same (ho k hk) (by simp[hk]);refine⟨h.defers.keep (λD hD=>hg.base.block D (Le.1 hD).1 (λe=>by cases e)) (λD hD _=>hD),h.size,h.below.grown hg (Zb _) (λ_ e=>by cases e),λd x hx=>?_,λk obk hobk=>?_,λi i' obi obi' b hi hi' hb hb'=>?_,λb obb hb=>?_,λk obk b hobk hb=>?_,h.was,λb obb hb=>?_,λk obk b hobk hb=>?_,λk hk=>?_⟩
 .exact(h.tmps d x hx).evo (Dc.le.refl c.imm) λk hkm=>hevo k (by rintro rfl;exact hm.1 d x hx hkm)
 .by_cases hki:k=id
  .subst hki
   have:obk=ob:=by simpa [S.setO]using hobk.symm
   grind
  rw[ho k hki]at hobk;refine(h.objs k obk hobk).keep (Dc.le.refl c.imm) (by simp[hki]) (by simp[hki]) (λj hj=>hevo j (by rintro rfl;exact hm.2.1 k obk hobk hj)) λb hb=>?_;exact hg.base.block b ((h.objs k obk hobk).blk hb).2 (λe=>by cases e)
 .have hold:∀k obk b,k≠id->(s.setO id (some ob)).o k=some obk->c.blk k b->bk b->False:=λk obk b hk hok hbk hbv=>by
   rw[ho k hk]at hok;have:=((h.objs k obk hok).blk hbk).2
   grind
  by_cases h1:i=id
  .grind
  by_cases h2:i'=id
  .grind
  rw[ho i h1]at hi;rw[ho i' h2]at hi';simp only[h1,h2,if_false]at hb hb';exact h.inj i i' obi obi' b hi hi' hb hb'
 .have hb':=h.imm b obb hb
  rw[hg.base.block b (Le.1 hb').1 (λe=>by cases e)];exact hb'
 .by_cases hki:k=id
  .subst hki
   simp only[if_true]at hb;have:=hv b hb
   cases hi:c.imm b with
   |none=>rfl
   | some obb =>
    have:=(Le.1 (h.imm b obb hi)).1;omega
  rw[ho k hki]at hobk;simp only[hki,if_false]at hb;exact h.sep k obk b hobk hb
 .have hb':=h.frm b obb hb
  rw[hg.base.block b (Le.1 hb').1 (λe=>by cases e)];exact hb'
 .by_cases hki:k=id
  .subst hki
   simp only[if_true]at hb;have:=hv b hb
   cases hi:c.frm b with
   |none=>rfl
   | some obb =>
    have:=(Le.1 (h.frm b obb hi)).1;omega
  rw[ho k hki]at hobk;simp only[hki,if_false]at hb;exact h.fsep k obk b hobk hb
 exact(h.fixed k hk).trans (hevo k (by have:=hm.2.2;omega))
theorem ah.write (h:ah w0 nt c s a w) (id:Nat) (ob:a8) (hn:s.o id=some ob) (ob':a8) (w':World) (v':Value) (bk:Nat->Prop) (row:Option Nat)
 (hg:Wf w w' row) (hrow:∀b,row=some b->c.blk id b)
 (hev:Vc c s.o { old:=c.old,imm:=c.imm,tab:=c.tab,own:=λk=>if k=id then v' else c.own k,blk:=λk=>if k=id then bk else c.blk k,rows:=c.rows } (s.setO id (some ob')).o id)
 (hblk:∀b,bk b->c.blk id b\/w.heap.size<=b)
 (hk:eq 0 { old:=c.old,imm:=c.imm,tab:=c.tab,own:=λk=>if k=id then v' else c.own k,blk:=λk=>if k=id then bk else c.blk k,rows:=c.rows } (s.setO id (some ob')).o w' id ob') :
 ah w0 nt { old:=c.old,imm:=c.imm,tab:=c.tab,own:=λk=>if k=id then v' else c.own k,blk:=λk=>if k=id then bk else c.blk k,rows:=c.rows } (s.setO id (some ob')) a w':=by
 have ho:∀k,k≠id->(s.setO id (some ob')).o k=s.o k:=λk hk=>by simp[S.setO,hk]
 have hevo:∀k,Vc c s.o { old:=c.old,imm:=c.imm,tab:=c.tab,own:=λk=>if k=id then v' else c.own k,blk:=λk=>if k=id then bk else c.blk k,rows:=c.rows } (s.setO id (some ob')).o k:=λk=>by
  by_cases hki:k=id
  .grind
  exact Vc.of_same (ho k hki) (by simp[hki])
 refine ⟨h.defers.keep (λD hD=>hg.base.block D (Le.1 hD).1 (λe=>by
  obtain⟨x1,hc,hdt⟩:=(h.objs id ob hn).data (hrow _ e.symm);rw[hD]at hc;cases hc
  cases hdt)) (λD hD _=>hD),h.size,h.below.grown hg (Zb _) (λ_ _=>Zb _),λd x hx=>?_,λk obk hobk=>?_,λi i' obi obi' b hi hi' hb hb'=>?_,λb obb hb=>?_,λk obk b hobk hb=>?_,h.was,λb obb hb=>?_,λk obk b hobk hb=>?_,λk hk=>?_⟩
 .exact(h.tmps d x hx).evo (Dc.le.refl c.imm) λk _=>hevo k
 .by_cases hki:k=id
  .subst hki
   have:obk=ob':=by simpa [S.setO]using hobk.symm
   grind
  rw[ho k hki]at hobk;refine(h.objs k obk hobk).keep (Dc.le.refl c.imm) (by simp[hki]) (by simp[hki]) (λj _=>hevo j) λb hb=>?_;refine hg.base.block b ((h.objs k obk hobk).blk hb).2 λe=>hki (h.inj k id obk ob b hobk hn hb (hrow _ e.symm))
 .have hold:∀k obk b,k≠id->(s.setO id (some ob')).o k=some obk->c.blk k b->bk b->False:=λk obk b hk hok hbk hbv=>by
   rw[ho k hk]at hok
   rcases hblk b hbv with h'|h'
   .exact hk (h.inj k id obk ob b hok hn hbk h')
   have:=((h.objs k obk hok).blk hbk).2;omega
  by_cases h1:i=id
  .grind
  by_cases h2:i'=id
  .grind
  rw[ho i h1]at hi;rw[ho i' h2]at hi';simp only[h1,h2,if_false]at hb hb';exact h.inj i i' obi obi' b hi hi' hb hb'
 .have hb':=h.imm b obb hb
  rw [hg.base.block b (Le.1 hb').1 λe=>by
   have:=h.sep id ob b hn (hrow _ e.symm);rw[this]at hb
   cases hb]
  exact hb'
 .by_cases hki:k=id
  .subst hki
   simp only[if_true]at hb
   rcases hblk b hb with h'|h'
   .exact h.sep k ob b hn h'
   cases hi:c.imm b with
   |none=>rfl
   | some obb =>
    have:=(Le.1 (h.imm b obb hi)).1;omega
  rw[ho k hki]at hobk;simp only[hki,if_false]at hb;exact h.sep k obk b hobk hb
 .have hb':=h.frm b obb hb
  rw [hg.base.block b (Le.1 hb').1 λe=>by
   have:=h.fsep id ob b hn (hrow _ e.symm);rw[this]at hb
   cases hb]
  exact hb'
 .by_cases hki:k=id
  .subst hki
   simp only[if_true]at hb
   rcases hblk b hb with h'|h'
   .exact h.fsep k ob b hn h'
   cases hi:c.frm b with
   |none=>rfl
   | some obb =>
    have:=(Le.1 (h.frm b obb hi)).1;omega
  rw[ho k hki]at hobk;simp only[hki,if_false]at hb;exact h.fsep k obk b hobk hb
 exact(h.fixed k hk).trans (hevo k)
def ayt (h:ah w0 nt c s a w) {imm':Dc} (h1:∀b,b<w.heap.size->imm' b=c.imm b):Dc.le c.imm imm':=λb ob hb'=>by
 rw[h1 b (Le.1 (h.imm b ob hb')).1];exact hb'
def azc(h:ah w0 nt c s a w){imm':Dc}(h1:∀b,b<w.heap.size->imm' b=c.imm b):vk imm':=c.tab.mono (ayt h h1)
def ah.later(h:ah w0 nt c s a w)(w':World)(hb:Below w.heap.size w w')(imm':Dc)(h1:∀b,b<w.heap.size->imm' b=c.imm b)(h2:∀b ob,imm' b=some ob->w'.heap[b]? = some ob) :
 ah w0 nt { old:=c.old,imm:=imm',tab:=azc h h1,own:=c.own,blk:=c.blk,rows:=c.rows } s a w':=by
 have hle:Dc.le c.imm imm':=λb ob hb'=>by
  rw[h1 b (Le.1 (h.imm b ob hb')).1];exact hb'
 refine ⟨h.defers.keep (λD hD=>hb.block D (Le.1 hD).1) (λD hD hb'=>by
  show imm' D=none
  rw[h1 D (Le.1 hb').1];exact hD),h.size,h.below.trans (hb.mono (Zb _)),λd x hx=>(h.tmps d x hx).evo hle λk _=>Vc.of_same rfl rfl,λk ob hob=>?_,h.inj,h2,λk ob b hob hbk=>?_,λb hb'=>?_,λb ob hbo=>?_,h.fsep,h.fixed⟩
 .exact(h.objs k ob hob).keep hle rfl rfl (λj _=>Vc.of_same rfl rfl) λb hbk=>hb.block b ((h.objs k ob hob).blk hbk).2
 .show imm' b=none
  rw[h1 b ((h.objs k ob hob).blk hbk).2];exact h.sep k ob b hob hbk
 .show imm' b=c.old.1 b
  have hb':c.frm b≠none:=hb'
  cases hf:c.frm b with
  |none=>exact absurd hf hb'
  |some ob=>rw[h1 b (Le.1 (h.frm b ob hf)).1];exact h.was b hb'
 have hbo:c.frm b=some ob:=hbo;rw[hb.block b (Le.1 (h.frm b ob hbo)).1];exact h.frm b ob hbo
end
end
section
open Go.RowKit
inductive TK where
 |int (k:IntKind)
 |bool
 |string
 |slice (e:TypeId)
 |struct (fs:List (Nat×TypeId×Bool))
 |pointer (e:TypeId)
 |map (k e:TypeId)
 |array (n:Nat) (e:TypeId)
 |func
 |other
structure TI where
 k:TK
 size:Nat
 bytes:Nat
 zero:Option (List Value)
 stood:Bool
 eqg:Bool
 zone:Bool
def j1:TypeDesc->TK
 | .int k=>.int k
 | .bool=>.bool
 | .string=>.string
 | .slice e=>.slice e
 | .struct fs => .struct (fs.toList.map λf => (f.offset, f.type, f.name == "_"))
 | .pointer e=>.pointer e
 | .map k e=>.map k e
 | .array n e=>.array n e
 | .func ..=>.func
 |_=>.other
def Pm (P:Program) (t:TypeId):Option TI :=
 match P.info? t,P.underlying t with
 |some i,some d=>some ⟨j1 d,i.size,i.bytes,i.zero.map (·.cells.toList),P.stoodInHeld t,P.eqGuardType P.depth t,match i.zero with|some z=>z.oneCell'|none=>false⟩
 |_,_=>none
abbrev Xc:=Nat->Option TI
def dl(P:Program)(E:Xc):Prop:=∀t i,E t=some i->Pm P t=some i
def TK.isAgg:TK->Bool
 | .struct _ | .array _ _=>true
 |_=>false
section
variable {P:Program}{E:Xc}{t:TypeId}{i:TI}
theorem az (h:Pm P t=some i):∃ii d,P.info? t=some ii/\P.underlying t=some d/\i.k=j1 d/\i.size=ii.size/\i.bytes=ii.bytes/\i.zero=ii.zero.map (·.cells.toList) /\
 i.stood=P.stoodInHeld t/\i.eqg=P.eqGuardType P.depth t:=by
 unfold Pm at h
 grind
def azy(h:Pm P t=some i)(hz:i.zone=true){z:Value}(hl:i.zero=some [z])(w:World):(zeroValue t).run P w=.ok z w/\z.oneCell'=true:=by
 unfold Pm at h;split at h
 .rename_i ii d h1 h2
  simp only[Bb]at h;subst h;dsimp only at hz hl
  cases hiz:ii.zero with
  |none=>rw[hiz]at hl;cases hl
  | some zv =>
   rw[hiz]at hz hl;dsimp only at hz;simp only[Vf,Bb]at hl;have e:zv.cells=#[zv]:=by cases zv<;>simp_all [Value.cells,Value.oneCell']
   rw[e]at hl;simp only[Yu,and_true]at hl;subst hl;exact⟨by simp[zeroValue,typeInfo,h1,hiz],hz⟩
 cases h
def f5 (h:Pm P t=some i) (w:World):(sizeOf t).run P w=.ok i.size w:=by
 obtain⟨ii,d,h1,h2,h3,h4,_⟩:=az h;simp[sizeOf,typeInfo,h1,h4]
def QL (h:Pm P t=some i) (w:World):(isAgg t).run P w=.ok i.k.isAgg w:=by
 obtain⟨ii,d,h1,h2,h3,h4,_⟩:=az h;unfold isAgg;rw[Nf,run_underlying h2 w,h3];cases d<;>simp[j1,TK.isAgg]
def kX(h:Pm P t=some i)(w:World)(a:Addr)(us:List Value)(hl:us.length=i.size)(hc:∀(j:Nat) v,us[j]? = some v->w.cell? (a.add j)=some v)
 (h1:i.k.isAgg=false->i.size=1) :
 (loadVar t a).run P w=.ok (if i.k.isAgg then .agg us.toArray else us.getD 0 undef) w:=by
 unfold loadVar;simp only[Nf,QL h w,Rf]
 cases hb:i.k.isAgg with
 | true =>
  have:=run_loadCells_list (P:=P) w a us hc;rw[hl]at this;simp[f5 h w,this]
 | false =>
  have hs:=h1 hb
  match us,hl.trans hs with
  | [u],_ =>
   have:=hc 0 u rfl;simp only[Addr.add,if_true]at this;simp_all
end
def io:Value->PV
 | .slice none 0 0=>.sl 0 0 true λ_ _=>.any
 |v=>.raw v
def oz (m:Dc) (v:Value) (h:v.oneCell'=true):aq m (io v) v:=by
 unfold io;split
 .exact⟨none,0,rfl,Yb _,by simp[maxLen],λ_=>rfl,λh=>by omega⟩
 exact⟨rfl,h⟩
def re:List Value->Bool
 | []=>true
 | .agg _::_=>false
 | .tuple _::_=>false
 |_::r=>re r
def jt:∀{l:List Value},re l=true->∀v∈l,v.oneCell'=true
 | [],_,v,hv=>by cases hv
 | u::r,h,v,hv=>by
  have h2:u.oneCell'=true/\re r=true:=by cases u<;>simp_all [re,Value.oneCell']
  rcases Jd.1 hv with rfl|hv
  .exact h2.1
  exact jt h2.2 v hv
def wD:Value->Option HR
 | .agg cs=>if re cs.toList then some (.v (.agg (cs.toList.map λc=>.p (io c))))else none
 | .tuple _=>none
 |v=>some (.v (.one (.p (io v))))
def Ec{p:Prop}(h:p:=by simp):p:=h
def vw (c:Pc) (o:av):∀(l:List Value),(∀v∈l,v.oneCell'=true)->b7 c o (l.map λc=>.p (io c)) l
 | [],_=>trivial
 |v::l,h=>⟨oz _ v (h v Ec),vw c o l λu hu=>h u (by simp[hu])⟩
def apc(c:Pc)(o:av){v:Value}{r:HR}(h:wD v=some r):ap c o r v:=by
 unfold wD at h;split at h
 .rename_i cs
  split at h
  .rename_i ha
   simp only[Bb]at h;subst h;exact⟨cs.toList,rfl,vw c o _ (jt ha)⟩
  cases h
 .cases h
 rename_i h1 h2;simp only[Bb]at h;subst h;refine oz _ v ?_;cases v<;>simp_all [Value.oneCell']
def ev (s:S):Operand->Option HR
 | .tmp d=>s.t d
 | .const v=>wD v
 | .func f=>some (.v (.one (.p (.fn f 0 λ_=>.any))))
 | .global g=>if(wn g).all Value.oneCell'=true then some (.v (.one (.p (.vp (wn g).length λj=>.raw ((wn g).getD j undef)))))else none
section
variable {w0:World}{nt:Nat}{c:Pc}{s:S}{a:Act}{w:World}
theorem ae (h:ah w0 nt c s a w) {x:Operand} {r:HR} (hx:ev s x=some r):ap c s.o r (a.eval x):=by
 cases x with
 |tmp d=>exact h.tmps d r hx
 |const v=>exact apc c s.o hx
 | global g =>
  simp only[ev]at hx;split at hx
  .rename_i hall
   simp only[Bb]at hx;subst hx;refine⟨g,0,rfl,λj hj=>?_⟩
   have e:Sy g j=some ((wn g).getD j undef):=by
    unfold Sy
    grind
   refine⟨_,by rw[Oe];exact c.tab g j _ e,rfl, ?_⟩
   grind
  cases hx
 | func f =>
  simp only[ev,Bb]at hx;subst hx;exact⟨[],rfl,rfl,λi hi=>by omega⟩
end
structure Ge where
 pre:Prop
 val:HR
abbrev Ev:=Operand->Option HR
def one(h:HV):HR:=.v (.one h)
def bu(x:PV):HR:=.v (.one (.p x))
def nq (f:Nat->HV):Nat->Nat->List HV
 |0,_=>[]
 |n+1,i=>f i::nq f n (i+1)
def gX (f:Nat->HV):∀n i,(nq f n i).length=n
 |0,_=>rfl
 |n+1,i=>by simp[nq,gX f n]
def LW (f:Nat->HV):∀n i j,j<n->(nq f n i)[j]? = some (f (i+j))
 |n+1,i,0,_=>by simp[nq]
 | n+1,i,j+1,h=>by
  have:=LW f n (i+1) j Za;simp[nq,this,Xk,Nat.add_comm 1 j]
def Sk (o:av):HV->Option (Prop×Nat×(Nat->HV))
 | .p (.vp m f)=>some (True,m,λj=>.p (f j))
 | .ptr id off =>
  match o id with
  |some (.box l)=>some (True,l.length-off,λj=>l.getD (off+j) (.p .any))
  |_=>none
 | .eptr id n i j =>
  match o id with
  |some (.arr _ s _ n' f)=>some (n'=n/\i<n,s-j,λk=>.p (f i (j+k)))
  |some (.arrh s _ n' _ f)=>some (n'=n/\i<n,s-j,λk=>f i (j+k))
  |some (.nest _ _ _ n' m _ none)=>some (n'=n/\i<n,1-j,λ_=>.row id i (m i))
  |_=>none
 | .rptr id i k r j =>
  match o id with
  |some (.nest _ _ es n m g _)=>some (i<n/\m i=k/\r<k,es-j,λq=>.p (g i r (j+q)))
  |_=>none
 |_=>none
section
variable {P:Program}{E:Xc}{w0:World}{nt:Nat}{c:Pc}{s:S}{a:Act}{w:World}
def add_lit(b off n:Nat):(⟨b,off,none⟩:Addr).add n=⟨b,off+n,none⟩:=by unfold Addr.add;split<;>simp_all
def xi (h:ah w0 nt c s a w) {b off:Nat} {x:Value} (hc:gz c.imm b off=some x):w.cell? ⟨b,off,none⟩=some x:=by
 unfold gz at hc
 cases hb:c.imm b with
 |none=>rw[hb]at hc;cases hc
 | some ob =>
  rw[hb]at hc;have:=h.imm b ob hb;cases ob<;>simp at hc;simp[World.cell?,this,hc]
section
variable {base es id n:Nat}{c:Pc}{e et:TypeId}{g:Nat->Nat->Nat->PV}{m:Nat->Nat}{o:av}{pd:Option (Nat×Nat)}{w:World}
def CJ (h:eq base c o w id (.nest e et es n m g pd)) {i:Nat} (hi:i<n) (hm:0<m i):
 ∃b cap ys,c.rows id i=.slice (some ⟨b,0,none⟩) (m i) cap/\ay (c.rows id i)=some b/\w.ownsRow base et es (c.rows id i) (m i) ys/\∀r j,r<m i->j<es->∃x,ys[r*es+j]? = some x/\w.cell? ⟨b,r*es+j,none⟩=some x/\aq c.imm (g i r j) x:=by
 rcases lh.row h i hi with⟨h0,_⟩|⟨ys,h1,h2⟩
 .omega
 rcases gh h1 with⟨h0,_⟩|⟨b,cap,rv,rb⟩
 .omega
 refine⟨b,cap,ys,rv,rb,h1,λr j hr hj=>?_⟩;obtain⟨x,hx,Be⟩:=h2 r j hr hj;refine⟨x,hx, ?_,Be⟩;have:=h1.cells (g:=b) (by rw[rv];rfl) _ _ hx;rwa [add_lit,Oe]at this
theorem IJ (h:eq base c o w id (.nest e et es n m g pd)):
 ∃ad cap,c.own id=.slice ad (n+ng pd) cap/\n+ng pd<=cap/\cap<=maxLen/\(0<n+ng pd->∃b,ad=some ⟨b,0,none⟩/\∀i,i<n->w.cell? ⟨b,i,none⟩=some (c.rows id i)):=by
 rcases lh.top h with⟨h0,a,hv⟩|⟨xs,h1,h2,_⟩
 .grind
 rcases h1.2 with⟨hv,hz⟩|⟨b,cap,cur,hv,_,_,hcap,hmax,_⟩
 .grind
 refine⟨_,cap,hv,hcap,hmax,λhp=>⟨b,rfl,λi hi=>?_⟩⟩;have:=h1.cells (g:=b) (by rw[hv];rfl) _ _ (h2 i hi);rwa [add_lit,Oe]at this
theorem oV (h:eq base c o w id (.nest e et es n m g pd)) {i:Nat} (hi:i<n):∃ad cap,c.rows id i=.slice ad (m i) cap/\m i<=cap/\cap<=maxLen:=by
 rcases lh.row h i hi with⟨h0,a,h2⟩|⟨ys,h1,_⟩
 .grind
 rcases h1.2 with⟨hv,h0⟩|⟨b,cap,cur,hv,_,_,hc,hm,_⟩
 .grind
 grind
theorem b0o (ho:o id=some (.nest e et es n m g pd)) (h:eq base c o w id (.nest e et es n m g pd)) {i:Nat} (hi:i<n):bc c o (.row id i (m i)) (c.rows id i):=by
 refine⟨?_,λe2 et2 es2 n2 m2 g2 pd2 ho2=>?_⟩
 .rcases lh.row h i hi with⟨_,a,h2⟩|⟨ys,h1,_⟩
  .rw[h2];rfl
  rcases h1.2 with⟨hv,_⟩|⟨b,cap,cur,hv,_⟩<;>(rw[hv];rfl)
 grind
theorem yi(h:ah w0 nt c s a w){x:HV}{u:Value}(hu:bc c s.o x u){pre:Prop}{m:Nat}{g:Nat->HV}(ht:Sk s.o x=some (pre,m,g))(hp:pre) :
 ∃ad:Addr,u=.pointer (some ad)/\∀j,j<m->∃v,w.cell? (ad.add j)=some v/\bc c s.o (g j) v:=by
 unfold Sk at ht;split at ht
 .rename_i m' f
  simp only[Bb,Tc]at ht;obtain⟨rfl,rfl,rfl⟩:=ht;obtain⟨b,off,rfl,hc⟩:=hu
  exact ⟨⟨b,off,none⟩,rfl,λj hj=>by
   obtain⟨v,hv,hr⟩:=hc j hj
   exact⟨v,by rw[add_lit];exact xi h hv,hr⟩⟩
 .rename_i id off
  split at ht
  .rename_i l hl
   simp only[Bb,Tc]at ht;obtain⟨rfl,rfl,rfl⟩:=ht;obtain⟨_,_,h3⟩:=hu;obtain⟨b,hb,rfl⟩:=h3 l hl;obtain⟨b',C,e,h1,_,h2,h4,h5⟩:=h.objs id _ hl;rw[hb]at h1;simp only[Value.pointer.injEq,Bb,Addr.mk.injEq,and_true]at h1;subst h1
   exact ⟨⟨b,off,none⟩,rfl,λj hj=>by
    have hlt:off+j<l.length:=by omega
    obtain⟨v,hv,hr⟩:=h5.get (off+j) l[off+j] (Hc hlt);refine⟨v, ?_,by simpa [List.getD,Hc hlt]using hr⟩;rw[add_lit,cell_of_row w b (off+j) C e (0,0) h4]
    simpa using hv⟩
  cases ht
 .rename_i id n i j
  split at ht
  .rename_i wr s' e n' f ho
   simp only[Bb,Tc]at ht;obtain⟨rfl,rfl,rfl⟩:=ht;obtain⟨rfl,hi⟩:=hp;obtain⟨_,_,h3⟩:=hu;obtain⟨b,off,cap,hb,rfl⟩:=(h3 _ _ _ _ ho rfl).2 rfl hi;obtain⟨h0,h1,h5⟩:=h.objs id _ ho;refine⟨⟨b,off+(i*s'+j),none⟩,rfl,λk hk=>?_⟩
   rcases h5 with⟨h6,xs,h2,h4⟩|⟨h6,h7,ad,cap',hv,hc1,hc2,hc3,hcell⟩
   .have hcells:=h2.cells (g:=b) (by rw[hb];rfl)
    have hz:off=0:=by
     rcases h2.2 with⟨hv,_⟩|⟨g,cap,cur,hv,_⟩
     .grind
     grind
    subst hz;obtain⟨v,hv,hr⟩:=h4 i (j+k) hi Za;refine⟨v, ?_,hr⟩;have:=hcells _ v hv;rw[add_lit]at this ⊢
    grind
   rw[hv]at hb;simp only[Value.slice.injEq,true_and]at hb;obtain⟨rfl,rfl⟩:=hb;obtain⟨b',off',he,hcc⟩:=hcell Za;simp only[Bb,Addr.mk.injEq,and_true]at he;obtain⟨rfl,rfl⟩:=he;obtain⟨v,hv',hr⟩:=hcc i (j+k) hi Za;refine⟨v, ?_,hr⟩;rw[add_lit,Xk off,Xk (i*s')];exact xi h hv'
  .rename_i s' e n' ms f ho
   simp only[Bb,Tc]at ht;obtain⟨rfl,rfl,rfl⟩:=ht;obtain⟨rfl,hi⟩:=hp;obtain⟨_,_,h3⟩:=hu;obtain⟨b,off,cap,hb,rfl⟩:=(h3 _ _ _ _ ho rfl).2 rfl hi;obtain⟨h0,h1,h7,⟨h6,xs,h2,h4⟩|⟨h6,_,_⟩⟩:=h.objs id _ ho
   case inr=>omega
   refine⟨⟨b,off+(i*s'+j),none⟩,rfl,λk hk=>?_⟩;have hcells:=h2.cells (g:=b) (by rw[hb];rfl)
   have hz:off=0:=by
    rcases h2.2 with⟨hv,_⟩|⟨g,cap,cur,hv,_⟩
    .grind
    grind
   subst hz;obtain⟨v,hv,hr⟩:=h4 i (j+k) hi Za;refine⟨v, ?_,hr⟩;have:=hcells _ v hv;rw[add_lit]at this ⊢
   grind
  .rename_i e et es n' m g0 ho
   simp only[Bb,Tc]at ht;obtain⟨rfl,rfl,rfl⟩:=ht;obtain⟨rfl,hi⟩:=hp;obtain⟨_,_,h3⟩:=hu;obtain⟨b,off,cap,hb,rfl⟩:=(h3 _ _ _ _ ho rfl).2 rfl hi;have hob:=h.objs id _ ho;obtain⟨ad,cap',hv,_,_,hc⟩:=IJ hob;obtain⟨b',rfl,hc2⟩:=hc (by show 0<n'+0;omega);rw[hb]at hv;simp only[Value.slice.injEq,Bb,Addr.mk.injEq,and_true]at hv;obtain⟨⟨rfl,rfl⟩,_⟩:=hv;refine⟨⟨b,0+(i*1+j),none⟩,rfl,λk hk=>?_⟩;obtain rfl:j=0:=by omega
   obtain rfl:k=0:=by omega
   refine⟨c.rows id i, ?_,b0o ho hob hi⟩;rw[add_lit]
   grind
  cases ht
 .rename_i id i k r j
  split at ht
  .rename_i e et es n m g0 pd ho
   simp only[Bb,Tc]at ht;obtain⟨rfl,rfl,rfl⟩:=ht;obtain⟨hi,rfl,hr⟩:=hp;obtain⟨_,h3⟩:=hu;obtain⟨_,_,h4⟩:=h3 _ _ _ _ _ _ _ ho;obtain⟨b,off,cap,hb,rfl⟩:=h4 rfl hr;obtain⟨b',cap',ys,q1,_,_,q2⟩:=CJ (h.objs id _ ho) hi Za;rw[hb]at q1;simp only[Value.slice.injEq,Bb,Addr.mk.injEq,and_true,true_and]at q1;obtain⟨⟨rfl,rfl⟩,rfl⟩:=q1;refine⟨_,rfl,λq hq=>?_⟩;obtain⟨x,_,hx,Be⟩:=q2 r (j+q) hr Za;refine⟨x, ?_,Be⟩;rw[add_lit,Oe,Xk];exact hx
  cases ht
 cases ht
def nx(E:Xc)(o:av)(e:Ev)(t:TypeId)(x:Operand):Option Ge :=
 match E t with
 |none=>none
 | some i =>
  match e x with
  | some (.v (.one h)) =>
   match Sk o h with
   | some (pre,m,g) =>
    match i.k.isAgg with
    |true=>some ⟨pre/\i.size<=m, .v (.agg (nq g i.size 0))⟩
    |false=>if i.size=1 then some ⟨pre/\1<=m, .v (.one (g 0))⟩else none
   |none=>none
  |_=>none
theorem ave {m:Nat} {g:Nat->HV} {ad:Addr} (hc:∀j,j<m->∃v,w.cell? (ad.add j)=some v/\bc c s.o (g j) v) (n:Nat) (hn:n<=m) :
 ∃us:List Value,us.length=n/\(∀(j:Nat) v,us[j]? = some v->w.cell? (ad.add j)=some v)/\b7 c s.o (nq g n 0) us:=by
 let F:Nat->Value:=λj=>(w.cell? (ad.add j)).getD undef
 refine⟨(List.range n).map F,by simp,λj v hv=>?_, ?_⟩
 .have hj:j<n:=by
   grind
  rw[Pe,Hi hj]at hv;simp only[Vf,Bb]at hv;obtain⟨u,hu,_⟩:=hc j Za
  grind
 refine b7.of_get (by simp[gX]) λj x u hx hu=>?_
 have hj:j<n:=by
  grind
 rw[LW g n 0 j hj]at hx;rw[Pe,Hi hj]at hu;simp only[Vf,Bb,Oe]at hu hx;obtain⟨v,hv,hr⟩:=hc j Za
 grind
variable {out:Ge}{t:TypeId}{x:Operand}
def RW(hE:dl P E)(h:ah w0 nt c s a w)(hq:nx E s.o (ev s) t x=some out)(hp:out.pre):
 ∃v,(Instr.loadAt t (a.eval x)).run P w=.ok v w/\ap c s.o out.val v:=by
 unfold nx at hq;split at hq
 .cases hq
 rename_i i hi;have hti:=hE t i hi;split at hq
 .rename_i hv he
  have hu:=ae h he;split at hq
  .rename_i pre m g ht
   split at hq
   .rename_i hagg
    simp only[Bb]at hq;subst hq;obtain⟨ad,ha,hc⟩:=yi h hu ht hp.1;obtain⟨us,hl,hcs,hr⟩:=ave (c:=c) (s:=s) (w:=w) hc i.size hp.2;refine⟨.agg us.toArray, ?_,us,rfl,hr⟩;have:=kX hti w ad us hl hcs (λh0=>by rw[hagg]at h0;cases h0);rw[hagg]at this;simp[Instr.loadAt,ha,Instr.sureAddr,this]
   rename_i hagg;split at hq
   .rename_i hs
    simp only[Bb]at hq;subst hq;obtain⟨ad,ha,hc⟩:=yi h hu ht hp.1;obtain⟨v,hv,hr⟩:=hc 0 hp.2;refine⟨v, ?_,hr⟩
    have:=kX hti w ad [v] (by simp[hs]) (λj u hju=>by
     cases j with
     |zero=>simp at hju;subst hju;exact hv
     |succ j=>simp at hju) (λ_=>hs)
    rw[hagg]at this;simp[Instr.loadAt,ha,Instr.sureAddr,this]
   cases hq
  cases hq
 cases hq
def shift (n:Nat):HV->Option (Prop×HV)
 | .p (.vp m f)=>some (n<=m, .p (.vp (m-n) λj=>f (n+j)))
 | .ptr id off=>some (True, .ptr id (off+n))
 | .eptr id k i j=>some (True, .eptr id k i (j+n))
 |_=>none
def gl(E:Xc)(o:av)(e:Ev)(t:TypeId)(x:Operand)(k:Nat):Option Ge :=
 match E t with
 | some i =>
  match i.k with
  | .struct fs =>
   match fs[k]? with
   | some (off,ft,_) =>
    match E ft with
    | some fi =>
     match e x with
     | some (.v (.one h)) =>
      match Sk o h,shift off h with
      |some (p0,_,_),some (p1,y)=>if fi.size=0 then none else some ⟨p0/\p1, .v (.one y)⟩
      |_,_=>none
     |_=>none
    |none=>none
   |none=>none
  |_=>none
 |none=>none
theorem EW {x:HV} {u:Value} (hu:bc c s.o x u) {pre:Prop} {y:HV} (hs:shift n x=some (pre,y)) (hp:pre) (hok:∃ad:Addr,u=.pointer (some ad)):
 ∃ad:Addr,u=.pointer (some ad)/\bc c s.o y (.pointer (some (ad.add n))):=by
 unfold shift at hs;split at hs
 .rename_i m f
  simp only[Bb,Tc]at hs;obtain⟨rfl,rfl⟩:=hs;obtain⟨b,off,rfl,hc⟩:=hu;refine⟨_,rfl,b,off+n,by rw[add_lit],λj hj=>?_⟩;obtain⟨v,hv,hr⟩:=hc (n+j) Za
  grind
 .rename_i id off
  simp only[Bb,Tc]at hs;obtain⟨rfl,rfl⟩:=hs;obtain⟨ad,rfl⟩:=hok;obtain⟨h1,h2,h3⟩:=hu;refine⟨ad,rfl,rfl,h2,λl hl=>?_⟩;obtain⟨b,hb,he⟩:=h3 l hl;simp only[Value.pointer.injEq,Bb]at he;subst he;exact⟨b,hb,by rw[add_lit]⟩
 .rename_i id k i j
  simp only[Bb,Tc]at hs;obtain⟨rfl,rfl⟩:=hs;obtain⟨ad,rfl⟩:=hok;obtain⟨h1,h2,h3⟩:=hu;refine⟨ad,rfl,rfl,h2,λob s' e n' ho hdm=>?_⟩;obtain⟨hk,hu⟩:=h3 ob s' e n' ho hdm;refine⟨hk,λhkn hi=>?_⟩;obtain⟨b,off,cap,hb,he⟩:=hu hkn hi;simp only[Value.pointer.injEq,Bb]at he;subst he;exact⟨b,off,cap,hb,by rw[add_lit,Xk,Xk]⟩
 cases hs
variable {d:TypeDesc}
theorem xo {fs: List (Nat × TypeId × Bool)} (h : j1 d = .struct fs): ∃ fa : Array Field, d = .struct fa /\ fs = fa.toList.map λf => (f.offset, f.type, f.name == "_") := by
 cases d<;>simp[j1]at h
 grind
def ez (h:j1 d=.slice e):d=.slice e:=by
 cases d<;>simp[j1]at h;rw[h]
def ab5 (hE:dl P E) (h:ah w0 nt c s a w) {k:Nat} (hq:gl E s.o (ev s) t x k=some out) (hp:out.pre):
 ∃v,(Instr.fieldAt t (a.eval x) k).run P w=.ok v w/\ap c s.o out.val v:=by
 unfold gl at hq;split at hq<;>try(cases hq;done)
 rename_i i hi;split at hq<;>try(cases hq;done)
 rename_i fs hfs;split at hq<;>try(cases hq;done)
 rename_i off ft bl hf;split at hq<;>try(cases hq;done)
 rename_i fi hfi;split at hq<;>try(cases hq;done)
 rename_i hv he;split at hq<;>try(cases hq;done)
 rename_i p0 m g p1 y htg hsh;split at hq
 .cases hq
 rename_i hsz;simp only[Bb]at hq;subst hq;have hu:=ae h he;obtain⟨ad,ha,_⟩:=yi h hu htg hp.1;obtain⟨ad',ha',hy⟩:=EW hu hsh hp.2 ⟨ad,ha⟩;obtain⟨ii,d,h1,h2,h3,_⟩:=az (hE t i hi);obtain⟨fa,rfl,hfa⟩:=xo (h3.symm.trans hfs);rw[hfa,Pe]at hf
 cases hff:fa.toList[k]? with
 |none=>rw[hff]at hf;cases hf
 | some f =>
  rw[hff]at hf;simp only[Vf,Bb,Tc]at hf;obtain⟨hoff,hft,_⟩:=hf;have hfk:fa[k]? = some f:=by simpa using hff
  refine⟨_, ?_,hy⟩;have hsz':(sizeOf f.type).run P w=.ok fi.size w:=by rw[hft];exact f5 (hE ft fi hfi) w
  simp[Instr.fieldAt,run_underlying h2 w,hfk,ha',Instr.sureAddr,fieldPlace,hsz',hsz,hoff]
def Iy(E:Xc)(e:Ev)(t:TypeId)(x:Operand)(k:Nat):Option Ge :=
 match E t with
 | some i =>
  match i.k with
  | .struct fs =>
   match fs[k]? with
   | some (off,ft,_) =>
    match E ft with
    | some fi =>
     match e x with
     | some (.v (.agg l)) =>
      match fi.k.isAgg with
      |true=>some ⟨True, .v (.agg ((l.drop off).take fi.size))⟩
      | false =>
       match l[off]? with
       |some h=>some ⟨True, .v (.one h)⟩
       |none=>none
     |_=>none
    |none=>none
   |none=>none
  |_=>none
 |none=>none
def Zc{p:Prop}(h:p:=by decide):p:=h
def HL{i:TI}(h:Pm P t=some i)(us:List Value)(off:Nat)(w:World):
 ∃r,(part t us.toArray off).run P w=(if i.k.isAgg then .ok (.agg ((us.drop off).take i.size).toArray) w else match us[off]? with|some v=>.ok v w|none=>r):=by
 refine⟨(part t us.toArray off).run P w, ?_⟩
 cases hk:i.k.isAgg with
 | true =>
  rw[if_pos rfl];unfold part;simp only[Nf,QL h w,Rf,hk];simp[f5 h w]
 | false =>
  rw[if_neg Zc]
  cases hu:us[off]? with
  |none=>rfl
  | some v =>
   unfold part;simp only[Nf,QL h w,Rf,hk];simp[hu]
def akx(hE:dl P E)(h:ah w0 nt c s a w){k:Nat}(hq:Iy E (ev s) t x k=some out):
 ∃v,(Instr.field t (a.eval x) k).run P w=.ok v w/\ap c s.o out.val v:=by
 unfold Iy at hq;split at hq<;>try(cases hq;done)
 rename_i i hi;split at hq<;>try(cases hq;done)
 rename_i fs hfs;split at hq<;>try(cases hq;done)
 rename_i off ft bl hf;split at hq<;>try(cases hq;done)
 rename_i fi hfi;split at hq<;>try(cases hq;done)
 rename_i l he;obtain⟨us,hus,hl⟩:=ae h he;obtain⟨ii,d,h1,h2,h3,_⟩:=az (hE t i hi);obtain⟨fa,rfl,hfa⟩:=xo (h3.symm.trans hfs);rw[hfa,Pe]at hf
 cases hff:fa.toList[k]? with
 |none=>rw[hff]at hf;cases hf
 | some f =>
  rw[hff]at hf;simp only[Vf,Bb,Tc]at hf;obtain⟨hoff,hft,_⟩:=hf;have hfk:fa[k]? = some f:=by simpa using hff
  obtain⟨pm,hpart⟩:=HL (P:=P) (hE ft fi hfi) us off w;rw[<- hoff,<- hft]at hpart;split at hq
  .rename_i hagg
   simp only[Bb]at hq;subst hq;rw[hagg]at hpart;refine⟨_, ?_,_,rfl,(hl.drop off).take fi.size⟩;subst hoff;simp only[Instr.field,Nf,run_underlying h2 w,Rf,hfk,hus,asAgg,Mh,hpart,if_true]
  rename_i hagg;rw[hagg]at hpart;split at hq<;>try(cases hq;done)
  rename_i hh hlo;simp only[Bb]at hq;subst hq;obtain⟨v,hv,hr⟩:=hl.get off hh hlo;rw[<- hoff]at hv;refine⟨v, ?_,hr⟩;simp only[Instr.field,Nf,run_underlying h2 w,Rf,hfk,hus,asAgg,Mh,hpart,hv];rfl
variable {sz:Nat}
theorem SS {wr:Bool} {f:Nat->Nat->PV} (h:eq base c o w id (.arr wr sz e n f)) (hn:0<n):
 ∃g off cap,c.own id=.slice (some ⟨g,off,none⟩) n cap/\n<=cap:=by
 obtain⟨_,_,h5⟩:=h
 rcases h5 with⟨h6,xs,h2,h4⟩|⟨h6,h7,ad,cap',hv,hc1,hc2,hc3,hcell⟩
 .rcases h2.2 with⟨hv,hz⟩|⟨g,cap,cur,hv,_,_,hcap,_⟩
  .omega
  grind
 grind
theorem zm {wr:Bool} {f:Nat->Nat->PV} (h:eq base c o w id (.arr wr sz e n f)):
 ∃ad cap,c.own id=.slice ad n cap/\n<=cap/\cap<=maxLen:=by
 obtain⟨_,_,h5⟩:=h
 rcases h5 with⟨h6,xs,h2,h4⟩|⟨h6,h7,ad,cap',hv,hc1,hc2,hc3,hcell⟩
 .rcases h2.2 with⟨hv,hz⟩|⟨g,cap,cur,hv,_,_,hcap,hm,_⟩
  .grind
  grind
 grind
theorem XU {ms:List Nat} {f:Nat->Nat->HV} (h:eq base c o w id (.arrh sz e n ms f)) (hn:0<n):
 ∃g off cap,c.own id=.slice (some ⟨g,off,none⟩) n cap/\n<=cap:=by
 obtain⟨_,_,h7,⟨h6,xs,h2,h4⟩|⟨h6,_,_⟩⟩:=h
 case inr=>omega
 rcases h2.2 with⟨hv,hz⟩|⟨g,cap,cur,hv,_,_,hcap,_⟩
 .omega
 grind
theorem UJ {ms:List Nat} {f:Nat->Nat->HV} (h:eq base c o w id (.arrh sz e n ms f)):
 ∃ad cap,c.own id=.slice ad n cap/\n<=cap/\cap<=maxLen:=by
 obtain⟨_,_,h7,⟨h6,xs,h2,h4⟩|⟨rfl,_,ad,cap,hv,hc1,hc2,_⟩⟩:=h
 .rcases h2.2 with⟨hv,hz⟩|⟨g,cap,cur,hv,_,_,hcap,hm,_⟩
  .grind
  grind
 grind
def Et (o:av) (size:Nat) (iv:Int):HV->Option Ge
 | .p (.sl n sz _ f)=>some ⟨size=sz/\0<=iv/\iv<n,bu (.vp sz (f iv.toNat))⟩
 | .ref id n =>
  match o id with
  |some (.arr _ sz _ n' _)=>some ⟨n'=n/\size=sz/\0<=iv/\iv<n, .v (.one (.eptr id n iv.toNat 0))⟩
  |some (.arrh sz _ n' _ _)=>some ⟨n'=n/\size=sz/\0<=iv/\iv<n, .v (.one (.eptr id n iv.toNat 0))⟩
  |some (.nest _ _ _ n' _ _ none)=>some ⟨n'=n/\size=1/\0<=iv/\iv<n, .v (.one (.eptr id n iv.toNat 0))⟩
  |_=>none
 | .row id i k =>
  match o id with
  |some (.nest _ _ es n m _ _)=>some ⟨(i<n/\m i=k)/\size=es/\0<=iv/\iv<k, .v (.one (.rptr id i k iv.toNat 0))⟩
  |_=>none
 | .win id n i m =>
  match o id with
  |some (.arr _ sz _ n' _)=>some ⟨n'=n/\size=sz/\0<=iv/\iv<m, .v (.one (.eptr id n (i+iv.toNat) 0))⟩
  |some (.arrh sz _ n' _ _)=>some ⟨n'=n/\size=sz/\0<=iv/\iv<m, .v (.one (.eptr id n (i+iv.toNat) 0))⟩
  |_=>none
 |_=>none
def oo(E:Xc)(o:av)(e:Ev)(len:Nat)(el:TypeId)(x ix:Operand):Option Ge :=
 match E el with
 | some ei =>
  match e x with
  | some (.v (.one h)) =>
   match e ix with
   | some (.v (.one (.p (.raw (.int _ iv))))) =>
    match Sk o h,shift (iv.toNat*ei.size) h with
    |some (p0,_,_),some (p1,y)=>some ⟨p0/\p1/\0<=iv/\iv<len, .v (.one y)⟩
    |_,_=>none
   |_=>none
  |_=>none
 |none=>none
def jW (h:j1 d=.array n e):d=.array n e:=by
 cases d<;>simp[j1]at h;rw[h.1,h.2]
def ac7 (hE:dl P E) (h:ah w0 nt c s a w) {len:Nat} {el:TypeId} (hd:P.underlying t=some (.array len el)) {ix:Operand} (hq:oo E s.o (ev s) len el x ix=some out) (hp:out.pre):
 ∃v,(Instr.indexAt t (a.eval x) (a.eval ix)).run P w=.ok v w/\ap c s.o out.val v:=by
 unfold oo at hq;split at hq<;>try(cases hq;done)
 rename_i ei hei;have hsz:=f5 (hE el ei hei) w;split at hq<;>try(cases hq;done)
 rename_i hv0 hx;split at hq<;>try(cases hq;done)
 rename_i kk iv hix;split at hq<;>try(cases hq;done)
 rename_i p0 m g p1 y htg hsh;simp only[Bb]at hq;subst hq;obtain⟨hp0,hp1,h0,hn⟩:=hp;have hu:=ae h hx;obtain⟨ad,ha,_⟩:=yi h hu htg hp0;obtain⟨ad',ha',hy⟩:=EW hu hsh hp1 ⟨ad,ha⟩;obtain⟨hu2,_⟩:=ae h hix;refine⟨_, ?_,hy⟩;simp[Instr.indexAt,Instr.sureAddr,ha',hu2,asIntOf,run_underlying hd w,h0,hn,hsz]
def i7(E:Xc)(o:av)(e:Ev)(t:TypeId)(x ix:Operand):Option Ge :=
 match E t with
 | some i =>
  match i.k with
  | .array len el=>oo E o e len el x ix
  | .slice el =>
   match E el with
   | some ei =>
    match e x with
    | some (.v (.one h)) =>
     match e ix with
     |some (.v (.one (.p (.raw (.int _ iv)))))=>Et o ei.size iv h
     |_=>none
    |_=>none
   |none=>none
  |_=>none
 |none=>none
def ab3(hE:dl P E)(h:ah w0 nt c s a w){ix:Operand}(hq:i7 E s.o (ev s) t x ix=some out)(hp:out.pre):
 ∃v,(Instr.indexAt t (a.eval x) (a.eval ix)).run P w=.ok v w/\ap c s.o out.val v:=by
 unfold i7 at hq;split at hq<;>try(cases hq;done)
 rename_i i hi;split at hq<;>try(cases hq;done)
 .rename_i len el hel
  obtain⟨ii,d,h1,h2,h3,_⟩:=az (hE t i hi);obtain rfl:=jW (h3.symm.trans hel);exact ac7 hE h h2 hq hp
 rename_i el hel;split at hq<;>try(cases hq;done)
 rename_i ei hei;obtain⟨ii,d,h1,h2,h3,_⟩:=az (hE t i hi);obtain rfl:=ez (h3.symm.trans hel);have hsz:=f5 (hE el ei hei) w;split at hq<;>try(cases hq;done)
 rename_i hv0 hx;split at hq<;>try(cases hq;done)
 rename_i kk iv hix;unfold Et at hq;split at hq<;>try(cases hq;done)
 .rename_i n sz cl f
  simp only[Bb]at hq;subst hq;obtain⟨hs,h0,hn⟩:=hp;obtain⟨ad,cap,hu,_,_,_,hc⟩:=ae h hx;obtain⟨hu2,_⟩:=ae h hix;obtain⟨b,off,rfl,hcell⟩:=hc Za;refine⟨.pointer (some ⟨b,off+iv.toNat*sz,none⟩), ?_,b,off+iv.toNat*sz,rfl,λj hj=>?_⟩
  .simp[Instr.indexAt,hu,hu2,asIntOf,run_underlying h2 w,h0,hn,hsz,hs,add_lit]
  obtain⟨v,hv,hr⟩:=hcell iv.toNat j Za hj;exact⟨v,by rw[Xk];exact hv,hr⟩
 .rename_i id n
  have key:∀(ob:a8) (sz:Nat) (e:TypeId) (n':Nat),s.o id=some ob->ob.dim=some (sz,e,n')->(0<n'->∃g off cap,c.own id=.slice (some ⟨g,off,none⟩) n' cap/\n'<=cap) ->
   n'=n/\ei.size=sz/\0<=iv/\iv<n->∃v,(Instr.indexAt t (a.eval x) (a.eval ix)).run P w=.ok v w/\ap c s.o (.v (.one (.eptr id n iv.toNat 0))) v:=by
   rintro ob sz e n' ho hdm hform ⟨rfl,hs,h0,hn⟩;obtain⟨h1',h2',h3'⟩:=ae h hx;obtain⟨hu2,_⟩:=ae h hix;obtain⟨_,hown⟩:=h3' _ _ _ _ ho hdm;have hu:=hown rfl;obtain⟨g,off,cap,hv,_⟩:=hform Za;rw[hv]at hu;have hlt:iv.toNat<n':=by omega
   refine⟨.pointer (some ⟨g,off+iv.toNat*sz,none⟩), ?_,rfl,h2',λob2 sz2 e2 n2 ho2 hd2=>?_⟩
   .simp[Instr.indexAt,hu,hu2,asIntOf,run_underlying h2 w,h0,hn,hsz,hs,add_lit]
   rw[ho]at ho2;simp only[Bb]at ho2;subst ho2;rw[hdm]at hd2;simp only[Bb,Tc]at hd2;obtain⟨rfl,rfl,rfl⟩:=hd2;exact⟨Yb _,λ_ _=>⟨g,off,cap,hv,by simp⟩⟩
  split at hq<;>try(cases hq;done)
  .rename_i wr sz e n' f ho
   simp only[Bb]at hq;subst hq;exact key _ _ _ _ ho rfl (λhn=>SS (h.objs id _ ho) hn) hp
  .rename_i sz e n' ms f ho
   simp only[Bb]at hq;subst hq;exact key _ _ _ _ ho rfl (λhn=>XU (h.objs id _ ho) hn) hp
  rename_i e et es n' m g0 ho;simp only[Bb]at hq;subst hq;refine key _ _ _ _ ho rfl (λhn=>?_) hp;obtain⟨ad,cap',hv,hcap,_,hc⟩:=IJ (h.objs id _ ho);obtain⟨b',rfl,_⟩:=hc hn;exact⟨b',0,cap',hv,hcap⟩
 .rename_i id ri k
  split at hq<;>try(cases hq;done)
  rename_i e et es n m g0 pd ho;simp only[Bb]at hq;subst hq;obtain⟨⟨hri,rfl⟩,hs,h0,hn⟩:=hp;obtain⟨_,h3'⟩:=ae h hx;obtain⟨hu2,_⟩:=ae h hix;obtain⟨_,_,hrow⟩:=h3' _ _ _ _ _ _ _ ho;have hu:=hrow rfl;obtain⟨b,cap,ys,q1,_⟩:=CJ (h.objs id _ ho) hri Za;rw[q1]at hu;refine⟨.pointer (some ⟨b,0+iv.toNat*es,none⟩), ?_,rfl,λe2 et2 es2 n2 m2 g2 pd2 ho2=>?_⟩
  .simp[Instr.indexAt,hu,hu2,asIntOf,run_underlying h2 w,h0,hn,hsz,hs,add_lit]
  rw[ho]at ho2;simp only[Bb,a8.nest.injEq]at ho2;obtain⟨rfl,rfl,rfl,rfl,rfl,rfl,rfl⟩:=ho2;exact⟨hri,Yb _,λ_ _=>⟨b,0,cap,q1,by simp⟩⟩
 rename_i id n wi wm
 have key:∀(ob:a8) (sz:Nat) (e:TypeId) (n':Nat),s.o id=some ob->ob.dim=some (sz,e,n')->(0<n'->∃g off cap,c.own id=.slice (some ⟨g,off,none⟩) n' cap/\n'<=cap) ->
  n'=n/\ei.size=sz/\0<=iv/\iv<wm->∃v,(Instr.indexAt t (a.eval x) (a.eval ix)).run P w=.ok v w/\ap c s.o (.v (.one (.eptr id n (wi+iv.toNat) 0))) v:=by
  rintro ob sz e n' ho hdm hform ⟨rfl,hs,h0,hn⟩;obtain⟨h1',h2',h3'⟩:=ae h hx;obtain⟨hu2,_⟩:=ae h hix;obtain⟨_,hown⟩:=h3' _ _ _ _ ho hdm;obtain⟨ad,ad',cap0,hv0,hu,h5,h6,_,h7⟩:=hown rfl;obtain⟨g,off,cap,hv,_⟩:=hform Za;rw[hv]at hv0;simp only[Value.slice.injEq]at hv0;obtain⟨rfl,_,rfl⟩:=hv0;obtain rfl:=h7 Za;simp only[Vf,add_lit]at hu;refine⟨.pointer (some ⟨g,off+(wi+iv.toNat)*sz,none⟩), ?_,rfl,h2',λob2 sz2 e2 n2 ho2 hd2=>?_⟩
  .simp[Instr.indexAt,hu,hu2,asIntOf,run_underlying h2 w,h0,hn,hsz,hs,add_lit,Mf,Xk]
  rw[ho]at ho2;simp only[Bb]at ho2;subst ho2;rw[hdm]at hd2;simp only[Bb,Tc]at hd2;obtain⟨rfl,rfl,rfl⟩:=hd2;exact⟨Yb _,λ_ _=>⟨g,off,cap,hv,by simp⟩⟩
 split at hq<;>try(cases hq;done)
 .rename_i wr sz e n' f ho
  simp only[Bb]at hq;subst hq;exact key _ _ _ _ ho rfl (λhn=>SS (h.objs id _ ho) hn) hp
 rename_i sz e n' ms f ho;simp only[Bb]at hq;subst hq;exact key _ _ _ _ ho rfl (λhn=>XU (h.objs id _ ho) hn) hp
end
end
end
section
open Go.RowKit
def yw:IntKind->Int
 | .i8=>-128 | .i16=>-32768 | .i32=>-2147483648 | .i64=>-9223372036854775808|_=>0
def Un:IntKind->Int
 | .i8=>127 | .i16=>32767 | .i32=>2147483647 | .i64=>9223372036854775807
 | .u8=>255 | .u16=>65535 | .u32=>4294967295 | .u64=>18446744073709551615
def Nl(k:IntKind)(n:Int):Prop:=yw k<=n/\n<=Un k
def wo {k:IntKind} {n:Int} (h:Nl k n):k.wrap n=n:=by
 cases k<;>simp only[Nl,yw,Un]at h
 .exact IntWalk.i8_in n h
 .exact IntWalk.i16_in n h
 .exact IntWalk.i32_in n h
 .exact IntWalk.i64_in n h
 .exact IntWalk.u8_in n h
 .exact IntWalk.u16_in n h
 .exact IntWalk.u32_in n h
 exact IntWalk.u64_in n h
def bq (op:BinOp) (k:IntKind) (x y:Int):Int :=
 match op with
 | .and=>k.wrap (BitVec.ofInt k.bits x&&&BitVec.ofInt k.bits y).toNat
 | .or=>k.wrap (BitVec.ofInt k.bits x|||BitVec.ofInt k.bits y).toNat
 | .xor=>k.wrap (BitVec.ofInt k.bits x ^^^ BitVec.ofInt k.bits y).toNat
 |_=>k.wrap (BitVec.ofInt k.bits x&&&~~~BitVec.ofInt k.bits y).toNat
def l3 (ex:Bool) (k:IntKind) (n:Int):Prop×Value :=
 match ex with
 |true=>(Nl k n, .int k n)
 |false=>(True, .int k (k.wrap n))
def Yz (ex:Bool) (op:BinOp) (k:IntKind) (a b:Int):Option (Prop×Value) :=
 match op with
 | .add=>some (l3 ex k (a+b))
 | .sub=>some (l3 ex k (a-b))
 | .mul=>some (l3 ex k (a*b))
 | .quo =>
  match ex with
  |true=>some (0<=a/\0<b/\Nl k a, .int k (a/b))
  |false=>some (b≠0, .int k (k.wrap (a.tdiv b)))
 | .rem =>
  match ex with
  |true=>some (0<=a/\0<b, .int k (a%b))
  |false=>some (b≠0, .int k (a.tmod b))
 | .and=>some (True, .int k (bq .and k a b))
 | .or=>some (True, .int k (bq .or k a b))
 | .xor=>some (True, .int k (bq .xor k a b))
 | .andNot=>some (True, .int k (bq .andNot k a b))
 | .eql=>some (True, .bool (decide (a=b)))
 | .neq=>some (True, .bool (!decide (a=b)))
 | .lss=>some (True, .bool (decide (a<b)))
 | .leq=>some (True, .bool (decide (a<=b)))
 | .gtr=>some (True, .bool (decide (b<a)))
 | .geq=>some (True, .bool (decide (b<=a)))
 |_=>none
def tM (op:BinOp) (a b:ByteArray):Option (Prop×Value) :=
 match op with
 | .add=>some (a.size+b.size<=9223372036854775807, .string (a++b))
 | .eql=>some (True, .bool (decide (a=b)))
 | .neq=>some (True, .bool (!decide (a=b)))
 | .lss=>some (True, .bool (Op.bytesLess a.toList b.toList))
 | .leq=>some (True, .bool (Op.bytesLess a.toList b.toList||decide (a=b)))
 | .gtr=>some (True, .bool (!(Op.bytesLess a.toList b.toList||decide (a=b))))
 | .geq=>some (True, .bool (!Op.bytesLess a.toList b.toList))
 |_=>none
def lG(E:Xc)(ex:Bool)(op:BinOp)(t:TypeId)(u v:Value):Option (Prop×Value) :=
 match u,v with
 | .int k a, .int k' b =>
  match op with
  | .shl=>some (0<=b, .int k (k.wrap (a*2^(min b.toNat k.bits))))
  | .shr=>some (0<=b, .int k (a.fdiv (2^(min b.toNat k.bits))))
  |op=>match decide (k=k') with|true=>Yz ex op k a b|false=>none
 | .string a, .string b=>tM op a b
 | .bool a, .bool b =>
  match E t with
  | some i =>
   match i.k,op with
   | .bool, .eql=>some (True, .bool (a==b))
   | .bool, .neq=>some (True, .bool (!(a==b)))
   |_,_=>none
  |none=>none
 |_,_=>none
def pX (a b:ByteArray):(a.toList==b.toList)=decide (a=b):=by
 rw[Ko,ByteArray.toList_eq,ByteArray.toList_eq];simp only[beq_iff_eq,decide_eq_true_eq];exact⟨λh=>ByteArray.ext (Array.ext' h),λh=>by rw[h]⟩
section
variable {pre:Prop}
def awe{P:Program}{ex:Bool}{op:BinOp}{k:IntKind}{a b:Int}{t:TypeId}{v:Value}(h:Yz ex op k a b=some (pre,v))(hp:pre)(w:World):
 (binOp op t (.int k a) (.int k b)).run P w=.ok v w:=by
 cases op<;>simp only[Yz]at h<;>try(cases h;done)
 case add|sub|mul =>
  cases ex<;>simp only[l3,Bb,Tc]at h<;>obtain⟨rfl,rfl⟩:=h<;>simp[binOp,Op.intArith,wo,hp]
 case quo =>
  cases ex
  .simp only [Bb,Tc]at h
   obtain⟨rfl,rfl⟩:=h;simp[binOp,Op.intDiv,hp]
  simp only[Bb,Tc]at h;obtain⟨rfl,rfl⟩:=h;obtain⟨h0,h1,h2⟩:=hp;have hne:b≠0:=by omega
  have hd:a.tdiv b=a/b:=Int.tdiv_eq_ediv_of_nonneg h0
  have hw:k.wrap (a/b)=a/b:=wo (by
   have e1:0<=a/b:=Int.ediv_nonneg h0 Za;have e2:a/b<=a:=Int.ediv_le_self b h0;have e3:yw k<=0:=by cases k<;>simp[yw]
   exact⟨by omega,by have:=h2.2;omega⟩)
  simp[binOp,Op.intDiv,hne,hd,hw]
 case rem =>
  cases ex
  .simp only [Bb,Tc]at h
   obtain⟨rfl,rfl⟩:=h;simp[binOp,Op.intDiv,hp]
  simp only[Bb,Tc]at h;obtain⟨rfl,rfl⟩:=h;obtain⟨h0,h1⟩:=hp;have hne:b≠0:=by omega
  have hd:a.tmod b=a%b:=Int.tmod_eq_emod_of_nonneg h0;simp[binOp,Op.intDiv,hne,hd]
 case and|or|xor|andNot =>
  simp only[Bb,Tc]at h;obtain⟨rfl,rfl⟩:=h;simp[binOp,Op.intBits,bq]
 all_goals
  simp only[Bb,Tc]at h;obtain⟨rfl,rfl⟩:=h;simp[binOp,Op.intCmp]
  try first|rfl|(by_cases e:a=b<;>simp[e])
def b2s {ex:Bool} {op:BinOp} {k:IntKind} {a b:Int} {v:Value} (h:Yz ex op k a b=some (pre,v)):v.oneCell'=true:=by
 cases op<;>cases ex<;>simp only[Yz,l3]at h<;>first|(cases h;done)|(simp only[Bb,Tc]at h;rw[<- h.2];rfl)
def awi{P:Program}{E:Xc}(hE:dl P E){ex:Bool}{op:BinOp}{t:TypeId}{x y:Operand}{u u':Value}{v:Value}(h:lG E ex op t u u'=some (pre,v))(hp:pre)(w:World):
 (do eqGuard op t x y u u';binOp op t u u':Sem Value).run P w=.ok v w/\v.oneCell'=true:=by
 unfold lG at h;split at h<;>try(cases h;done)
 .rename_i k a k' b
  have hg:(eqGuard op t x y (.int k a) (.int k' b)).run P w=.ok () w:=by cases op<;>simp[eqGuard]
  have h1:v.oneCell'=true:=by
   split at h
   .simp only[Bb,Tc]at h;rw[<- h.2];rfl
   .simp only[Bb,Tc]at h;rw[<- h.2];rfl
   split at h
   .exact b2s h
   cases h
  refine⟨?_,h1⟩;rw[Nf,hg,Rf];split at h
  .simp only [Bb,Tc]at h
   obtain⟨rfl,rfl⟩:=h;have:¬b<0:=by omega
   simp[binOp,Op.shift,this]
  .simp only [Bb,Tc]at h
   obtain⟨rfl,rfl⟩:=h;have:¬b<0:=by omega
   simp[binOp,Op.shift,this]
  split at h
  .rename_i hk
   have hk:=of_decide_eq_true hk;subst hk;exact awe h hp w
  cases h
 .rename_i a b
  have hg:(eqGuard op t x y (.string a) (.string b)).run P w=.ok () w:=by cases op<;>simp[eqGuard]
  rw[Nf,hg,Rf];cases op<;>simp only[tM]at h<;>try(cases h;done)
  case add =>
   simp only[Bb,Tc]at h;obtain⟨rfl,rfl⟩:=h;refine⟨?_,rfl⟩;have hm:IntKind.i64.max=9223372036854775807:=by decide
   simp only[binOp,Op.stringOp,hm,Sem.run_ite,Mh];rw[if_neg Za]
  all_goals
   simp only[Bb,Tc]at h;obtain⟨rfl,rfl⟩:=h;refine⟨?_,rfl⟩;simp only[binOp,Op.stringOp,pX,Mh]
 rename_i a b;split at h<;>try(cases h;done)
 rename_i i hi;obtain⟨ii,d,h1,h2,h3,_⟩:=az (hE t i hi);have hg:(eqGuard op t x y (.bool a) (.bool b)).run P w=.ok () w:=by cases op<;>simp[eqGuard]
 rw[Nf,hg,Rf];split at h<;>try(cases h;done)
 .rename_i hb
  have hd:d=.bool:=by cases d<;>simp_all [j1]
  subst hd;simp only[Bb,Tc]at h;obtain⟨rfl,rfl⟩:=h;exact⟨run_eql_bool w t a b h2,rfl⟩
 rename_i hb;have hd:d=.bool:=by cases d<;>simp_all [j1]
 subst hd;simp only[Bb,Tc]at h;obtain⟨rfl,rfl⟩:=h;exact⟨run_neq_bool w t a b h2,rfl⟩
end
end
end Go.Hx
