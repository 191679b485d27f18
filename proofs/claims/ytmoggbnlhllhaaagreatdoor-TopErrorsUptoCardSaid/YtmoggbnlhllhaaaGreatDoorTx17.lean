/- A part of the proof: Cs18 Cs19 Hx20 Cs20 Cs21 Cs22 Cs23 Hx21. -/
import Derived.ChangeArms
import Derived.OpenShut
import Derived.ProofKit
import Derived.WalkKit
import Derived.WideKeyArgs
import Derived.Test.YtmoggbnlhllhaaaGreatDoorTx16
set_option linter.all false
set_option maxRecDepth 100000
namespace Go.Hx
section
def b6r(l:List Fd)(p:AS):Int:=if cg 16 l=0 then(if 8<bsz p then 3 else if p>>>16=0 then 0 else 1)else cg 16 l
def bh6(l:List Fd)(p:AS):Fd:=if b6r l p=0 then afw l p else⟨0,0⟩
def bgj(l:List Fd)(p:AS):Bool:=decide (b6r l p=0)&&vv l p
def bcP(n:Int)(l:List Fd)(f:Fd):Bool:=decide (f.rhs&&&~~~f.lhs≠0)&&decide (clo l f.lhs≠aj n)
def bcS(n:Int)(l:List Fd):Bool:=decide (cg n l=0)&&!l.any (bcP n l)
def ao4(n:Int)(l:List Fd):List AS:=if a8c n l 8=0 then(d8 (aj n)).filter fun s=>!vv l s else[]
end
section
def ayy(l:List Fd)(p z:AS):AS:=(p&&&clo l (z&&&p))&&&~~~z
def baj(l:List Fd)(z p:AS):Bool:=decide (ayy l p z≠0)
def aw2 (l:List Fd) (ps:List AS):Nat->AS->AS
 |0,z=>z
 | n+1,z=>match ps.find? (baj l z) with
  |none=>z
  |some p=>aw2 l ps n (z|||ayy l p z)
def avc(l:List Fd)(ps:List AS)(z:AS):AS:=aw2 l ps 4294967297 z
def ao2(l:List Fd)(ps:List AS)(f:Fd):Bool:=decide (sub f.rhs (avc l ps f.lhs))
def bgo(l:List Fd)(ps:List AS)(z0:AS)(x:Nat×List Nat×AS):Prop:=aw2 l ps x.1 x.2.2=avc l ps z0/\4294967296<x.1+x.2.2.toNat/\x.2.1.length+x.1=4294967297
def bg8(l:List Fd)(ps:List AS)(i:Nat):List Nat:=(List.range i).filter fun j=>!ao2 l ps (l.getD j default)
def awu(l:List Fd)(ps:List AS):Bool:=(List.range l.length).all fun j=>ao2 l ps (l.getD j default)
end
section
open Go.RowKit
def bfm (P:Program) (g:FuncId) (caps:List PC) (n:Nat) (xs:Nat->List PC):Prop :=
 ∀ (imm:Imm) (_:rp imm) (us:List Value) (W:World) (l:Nat) (J:Nat->World->Prop),bw imm caps us ->
  (∀i A,J i A->∀b ob,imm b=some ob->A.heap[b]? = some ob) ->
  (∀i A A',J i A->Below A.heap.size A A'->J i A') ->
  (∀i A vs,i<n->J i A->bw imm (xs i) vs->YieldAt (rf none) 0 P l vs.toArray A fun e A'=>e=.returned (.bool true)/\J (i+1) A') ->
  J 0 W->CallsIn (rf none) 0 P g (#[.func (.yield l) #[] #[]]++us.toArray) W fun e W'=>(∃v,e=.returned v)/\J n W'
section
variable {P:Program}{nt:Nat}{c:Ctx}{s:S}{a:Act}{w w0:World}
end
def b8w (r:Nat->Nat):List (Nat×Option HR)->List (Nat×Option HR)
 | []=>[]
 |(d,some x)::l=>(d,some (x.ren r))::b8w r l
 |(d,none)::l=>(d,none)::b8w r l
def rgB (r:Nat->Nat) (T:List (Nat×Option HR)) (o1 o2:List (Nat×ae)) (fx:List Nat):Bool :=
 (fx.all fun id=>Nat.ble 1000 (r id))&&((keys o2).all fun id=>(sm fx id&&sm (keys o1) id)||(Nat.blt id 1000&&nmT id T))&&(a8l o2).all (sm (keys o2))
def bic(P:Program)(nt l:Nat)(body:Code)(Q:HSt->Prop)(e:Exit)(st:HSt):Prop:=e=.normal/\HW (ro:=some l) P nt body st fun e st=>e=.normal/\Q st
section
variable {P:Program}{E:Env}{nt:Nat}{ops:Array Oper}{i:Nat}{o:Oper}{Q:Exit->Act->World->Prop}{a:Act}{A:World}{imm:Imm}
def b8d(d:Option Tmp)(x:HR)(t:List (Nat×Option HR)):List (Nat×Option HR):=match d with|some d=>(d,some x)::t|none=>t
class TabC (imm:Imm):Prop where
 ok:rp imm
def cI(imm:Imm)(A:World)[ht:TabC imm]:Ctx:={ old:=(imm,dm A,(fun _=>undef),(fun _=>none),fun _ _=>undef),imm:=imm,tab:=ht.ok,own:=fun _=>undef,blk:=fun _=>noB,rows:=fun _ _=>undef }
variable [TabC imm]
structure It (imm:Imm) [TabC imm] (nt:Nat) (t:List (Nat×Option HR)) (a:Act) (A:World):Prop where
 defers:a.defers=[]
 rel:ai A nt (cI imm A) ⟨b6 t,fun _=>none⟩ a A
section
variable {t:List (Nat×Option HR)}
theorem It.sub {t':List (Nat×Option HR)} (h:It imm nt t a A) (hs:p8 t' t):It imm nt t' a A :=
 ⟨h.defers,h.rel.relax ⟨b6 t',fun _=>none⟩ (fun d x hx=>yd hs d x hx) (fun id ob ho=>by cases ho)⟩
theorem It.move {A':World} (h:It imm nt t a A) (hi:∀b ob,imm b=some ob->A'.heap[b]? = some ob):It imm nt t a A':=by
 refine⟨h.defers,by rw[h.defers];exact rt.nil _ _ _ _,h.rel.size,Below.refl _ _,fun d x hx=>?_,(fun id ob ho=>by cases ho),(fun i i' ob ob' b ho=>by cases ho),hi,(fun id ob b ho=>by cases ho),fun b _=>rfl,fun b ob hb=>hb,(fun id ob b ho=>by cases ho),fun id _=>.inl rfl⟩;exact al.evo (c:=cI imm A) (o:=fun _=>none) (Imm.le.refl imm) (fun _ _=>.inl rfl) (h.rel.tmps d x hx)
theorem It.put (h:It imm nt t a A) {d:Option Tmp} (hd:c7 nt d=true) (x:HR) (v:Value) (hx:al (cI imm A) (fun _=>none) x v):It imm nt (b8d d x t) (a.put d v) A:=by
 cases d with
 |none=>exact h
 | some d =>
  have:=h.rel.put d (of_decide_eq_true hd) (some x) v (fun y hy=>by cases hy;exact hx);refine⟨h.defers, ?_⟩
  have e:(S.put ⟨b6 t,fun _=>none⟩ d (some x))=⟨b6 ((d,some x)::t),fun _=>none⟩:=by
   unfold S.put;simp[ay]
  rw[e]at this;exact this
def b2d(h:It imm nt t a A){x:Operand}{r:HR}(hx:ev ⟨b6 t,fun _=>none⟩ x=some r):al (cI imm A) (fun _=>none) r (a.eval x):=af h.rel hx
def iy {L:List Nat} {cl:Call} {f:Operand} {l:Nat} {R:World->Prop} (h:It imm nt t a A) (hi:ops[i]? = some o) (hw:ax ops ⟨b6 t,fun _=>none⟩ o=some true) (hd:c7 nt o.dst=true) (ho:o.op=.call cl) (hcl:cl.callee=.value f) (hf:ev ⟨b6 t,fun _=>none⟩ f=some (bo (.raw (.func (.yield l) #[] #[])))) (hy:YieldAt (rf none) 0 P l (cl.args.toList.map a.eval).toArray A fun e A'=>e=.returned (.bool true)/\R A') (him:∀A',R A'->∀b ob,imm b=some ob->A'.heap[b]? = some ob) (hK:∀a' A',R A'->It imm nt (b8d o.dst (bo (.raw (.bool true))) t) a' A'->wpOpsIn (rf none) 0 P ops Q L a' A'):wpOpsIn (rf none) 0 P ops Q (i::L) a A:=by
 rw[wpOpsIn_cons];unfold wpOpIn;simp only[hi];rw[if_pos (dz h.rel hw)];obtain⟨fn,tmps,assign,body,hyr,hround⟩:=hy;have hfe:a.eval f=.func (.yield l) #[] #[]:=(b2d h hf).1;refine⟨fun _ _=>trivial, ?_⟩;have hsem:Oper.semAt (rf none).round a.eval o=execOp a.eval o:=rfl;rw[hsem];have hma:(cl.args.toList.map a.eval).toArray=cl.args.map a.eval:=by apply Array.toList_inj.1;rw[bl2]
 rw[hma]at hyr
 have hrun:(execOp a.eval o).run P A=.ok (.round l fn tmps assign body) A:=by
  simp only[execOp,ho,resolve,hcl,hfe,bjk,Deferred.ofValue,bjz,bj4,invoke];simpa using hyr
 rw[hrun,Oper.uponIn_round];refine⟨fun hh=>absurd hh (by simp[rf]),hround.mono ?_⟩;rintro e A' ⟨rfl,hR⟩;exact hK _ A' hR ((h.move (him A' hR)).put hd (bo (.raw (.bool true))) (.bool true) ⟨rfl,rfl⟩)
end
end
theorem CoP.vp {k k':Nat} {f f':Nat->PV} (hk:k'=k) (hf:∀j,j<k->CoP (f j) (f' j)):CoP (.vp k f) (.vp k' f'):=by
 subst hk;rintro m u ⟨b,off,rfl,h⟩
 exact ⟨b,off,rfl,fun j hj=>by
  obtain⟨x,hx,hr⟩:=h j hj
  exact⟨x,hx,hf j hj m x hr⟩⟩
theorem CoP.fn {g:FuncId} {k k':Nat} {f f':Nat->PV} (hk:k'=k) (hf:∀j,j<k->CoP (f j) (f' j)):CoP (.fn g k f) (.fn g k' f'):=by
 subst hk;rintro m u ⟨cs,rfl,hl,h⟩
 exact ⟨cs,rfl,hl,fun j hj=>by
  obtain⟨x,hx,hr⟩:=h j hj
  exact⟨x,hx,hf j hj m x hr⟩⟩
def RN (P:Program) (nt:Nat) (ops:Array Oper) (L:List Nat) (st:HSt) (Q:HSt->Prop):Prop :=
 ∀(ro:Option Nat) (n:Nat) w0 m0 a w (QQ:Exit->Act->World->Prop),Rel w0 m0 nt st.den a w->(∀st' a' w',Q st'->Rel w0 m0 nt st'.den a' w'->QQ .normal a' w')->wpOpsIn (rf ro) n P ops QQ L a w
section
variable {P:Program}{E:Env}{nt:Nat}{ops:Array Oper}{st:HSt}
def a7d (hE:cb P E) {ro:Option Nat} {n:Nat} {w0:World} {m0:Old} {sf:S} {L2:List Nat} {QQ:Exit->Act->World->Prop} (hQ:∀a' w',Rel w0 m0 nt sf a' w'->wpOpsIn (rf ro) n P ops QQ L2 a' w') :
 ∀(T:List Tr) (s:S) (a:Act) (w:World),m7 P E nt ops T s sf->Rel w0 m0 nt s a w->wpOpsIn (rf ro) n P ops QQ (T.map (·.i)++L2) a w
 | [],s,a,w,hT,hr=>by
  cases hT;exact hQ _ _ hr
 | t::T,s,a,w,hT,hr=>by
  cases hT with
  |cons hi he hR hO hF hrest =>
  rw[bk4,bku,wpOpsIn_cons];exact a4o hE he hr hi fun a' w' hr'=>a7d hE hQ T _ a' w' hrest hr'
section
variable {Q:HSt->Prop}
def ct (hE:cb P E) {L1 L2:List Nat} (h:Reg P E nt ops L1 st fun _ sf=>RN P nt ops L2 sf Q):RN P nt ops (L1++L2) st Q:=fun ro n w0 m0 a w QQ hr hQ=>by
 obtain⟨T,sf,hl,hT,h⟩:=h;rw[<- hl];exact a7d hE (fun a' w' hr'=>h ro n w0 m0 a' w' QQ hr' hQ) T _ a w hT hr
def f0(h:Q st):RN P nt ops [] st Q:=fun ro n w0 m0 a w QQ hr hQ=>hQ st a w h hr
def sd {L:List Nat} (h:HE nt st fun st'=>RN P nt ops L st' Q):RN P nt ops L st Q:=fun ro n w0 m0 a w QQ hr hQ=>by
 obtain⟨st',h1,h2⟩:=h w0 m0 a w hr;exact h1 ro n w0 m0 a w QQ h2 hQ
def cr {ro:Option Nat} {Q:Exit->HSt->Prop} {id:Nat} (L1 L2:List Nat) (hl:List.range ops.size=L1++L2) (h:RN P nt ops (L1++L2) st (Q .normal)):HW (ro:=ro) P nt (.region id ops false) st Q:=fun w0 m0 a w hr=>by
 refine wpIn_region ?_;rw[hl];exact h ro 0 w0 m0 a w _ hr fun st' a' w' hq hr'=>⟨st',hq,hr'⟩
def aaj(st1:HSt)(d:Nat)(x:HR)(hs:∀w0 m0 a w,Rel w0 m0 nt st.den a w->∃cc,cc.old=m0/\ai w0 nt cc st1.den a w/\al cc st1.den.o x (a.tmps.getD d undef))(h:HE nt ⟨(d,some x)::st1.t,st1.o⟩ Q):HE nt st Q:=fun w0 m0 a w hr=>by
 obtain⟨cc,hold,hrr,hx⟩:=hs w0 m0 a w hr;refine h w0 m0 a w ⟨cc,hold,hrr.defers,hrr.size,hrr.below,fun k y hy=>?_,hrr.objs,hrr.inj,hrr.imm,hrr.sep,hrr.was,hrr.frm,hrr.fsep,hrr.fixed⟩;simp only[HSt.den]at hy;rw[ay]at hy;dsimp only at hy;split at hy
 · rename_i hk
   subst hk;simp only[bij]at hy;subst hy;exact hx
 exact hrr.tmps k y hy
def aqf (d:Nat) {id n n' s:Nat} {wr:Bool} {e:TypeId} {f:Nat->Nat->PV} (hd:b6 st.t d=some (.v (.one (.ref id n)))) (ho:b6 st.o id=some (.arr wr s e n' f)) (hn:n'=n) (h:HE nt ⟨(d,some (bo (.sl n s false f)))::st.t,(id,none)::st.o⟩ Q):HE nt st Q:=by
 subst hn;refine aaj ⟨st.t,(id,none)::st.o⟩ d (bo (.sl n' s false f)) (fun w0 m0 a w hr=>?_) h;obtain⟨cc,hold,hrr⟩:=hr;refine⟨_, ?_,by rw[xd];exact hrr.freeze ho, ?_⟩
 · exact hold
 obtain⟨_,_,h3⟩:=hrr.tmps d _ hd;have:=(h3 _ _ _ _ ho rfl).2 rfl;rw[this];exact vi hrr ho
end
end
end
section
def orL(ps:List AS):AS:=ps.foldl (·|||·) 0
def bc8(n:Int)(l:List Fd)(ps:List AS):Bool:=decide (orL ps=aj n)&&awu l ps&&ps.any (mw n l)
def bc4(n:Int)(l:List Fd)(ps:List AS)(s:AS):List AS:=if bc8 n l (ps.eraseIdx (idx (fun x=>decide (x=s)) ps).toNat)=true then ps.eraseIdx (idx (fun x=>decide (x=s)) ps).toNat else ps
def aq3 (n:Int) (l:List Fd) (p0:List AS):Nat->List AS
 |0=>p0
 |i+1=>bc4 n l (aq3 n l p0 i) (p0.getD (p0.length-1-i) default)
def an6(n:Int)(l:List Fd):Bool:=awu l (ao4 n l)
def bfo(n:Int)(l:List Fd):List AS:=if a8c n l 8=0/\an6 n l=true then aq3 n l (nf (ao4 n l)) (nf (ao4 n l)).length else[]
def bg6(n:Int)(l:List Fd):Bool:=decide (a8c n l 8=0)&&an6 n l
def bgi(n:Int)(l:List Fd)(p0:List AS)(i:Nat)(ps:List AS):Prop:=ps=aq3 n l p0 i/\ps.length<=p0.length/\∀j,j<p0.length-i->p0.getD j default∈ps
def b7p(n:Int)(l:List Fd):Option Fd:=(zx n l).find? fun f=>!ao2 l (ao4 n l) f
def bht(n:Int)(l:List Fd):Int:=if a8c n l 8=0 then(match b7p n l with|some _=>0|none=>4)else a8c n l 8
def bh8(n:Int)(l:List Fd):Fd:=if a8c n l 8=0 then(match b7p n l with|some f=>f|none=>⟨0,0⟩) else⟨0,0⟩
end
section
def spA(l:List Fd)(s:AS):AS:=(afw l s).lhs|||(afw l s).rhs
def spB(l:List Fd)(s:AS):AS:=s&&&~~~(afw l s).rhs
def aob (l:List Fd):Nat->List AS->List AS->List AS
 |0,_,out=>out
 | n+1,todo,out =>
  if todo.length=0 then out
  else if vv l (todo.getD (todo.length-1) default)=true then aob l n (todo.take (todo.length-1)++[spA l (todo.getD (todo.length-1) default),spB l (todo.getD (todo.length-1) default)]) out
  else aob l n (todo.take (todo.length-1)) (out++[todo.getD (todo.length-1) default])
def ba1(n:Int)(l:List Fd):List AS:=aob l 6562 [aj n] []
def bgs(n:Int)(l:List Fd):List AS:=if a8c n l 8=0 then nf (ba1 n l) else[]
def b8p(todo:List AS):Nat:=(todo.map fun s=>3^bsz s).sum
def bh1(n:Int)(l:List Fd)(x:Nat×List AS×List AS):Prop:=aob l x.1 x.2.1 x.2.2=ba1 n l/\b8p x.2.1<x.1/\x.2.2.length+x.1<=6562
end
section
open Go.Proofs
def bfl:List Fd:=[⟨1,2⟩,⟨2,4⟩]
def bg3:List Fd:=[⟨3,4⟩,⟨4,1⟩]
end
section
open Go.Proofs
def w1(l:List Fd)(p:AS):Int:=if cg 16 l=0/\(8:Int)<bsz p then 3 else cg 16 l
section
variable {l:List Fd}{p:AS}
end
section
variable {n:Int}{l:List Fd}
end
end
section
open Go.RowKit Go.ChangeShapes Go.WideShapes Go.ChangeAt
def Rd (P:Program) (t:TypeId) (n:Nat) {α:Type} (c:α->Nat->PV):Prop :=
 ∀ (H:Type) (enc:TypeId×Value->H) (w:World) (sp:Nat->Bool) (held:Bool) (fuel:Nat) (cs:List Value) (x:DataW H×List MemPlace),DataW.trod enc P w 0 sp held fuel t cs=some x ->
  cs.length=n/\∃a:α,∀j,j<n->∃v,cs[j]? = some v/\aq (dm w) (c a j) v
section
variable {P:Program}{t e:TypeId}
def bi4(k:IntKind)(z:Int):Nat->PV:=fun _=>.raw (.int k z)
def bge(b:Bool):Nat->PV:=fun _=>.raw (.bool b)
def bfy(s:ByteArray):Nat->PV:=fun _=>.raw (.string s)
def u8P(u:UInt8):Nat->PV:=fun _=>.raw (.int .u8 (u.toNat:Int))
def aza (ht:P.underlying t=some (.int .u8)):Rd P t 1 u8P:=by
 intro H enc w sp held fuel cs x h;obtain⟨n,rfl,_,hw⟩:=DataW.trod_int ht h;have hx:0<=n/\n<=255:=by simpa [Lit.wf,IntKind.min,IntKind.max,IntKind.signed,IntKind.bits]using hw
 refine⟨rfl,UInt8.ofNat n.toNat,fun j hj=>?_⟩;obtain rfl:j=0:=by omega
 refine⟨_,rfl, ?_,rfl⟩
 have:(UInt8.ofNat n.toNat).toNat=n.toNat:=by
  rw[UInt8.toNat_ofNat'];omega
 rw[this];congr 1;omega
theorem Rd.co {n:Nat} {α β:Type} {c:α->Nat->PV} {c':β->Nat->PV} (h:Rd P t n c) (f:α->β) (hc:∀a j,j<n->CoP (c a j) (c' (f a) j)):Rd P t n c':=by
 intro H enc w sp held fuel cs x hx;obtain⟨h1,a,h2⟩:=h _ enc w sp held fuel cs x hx;refine⟨h1,f a,fun j hj=>?_⟩;obtain⟨v,h3,h4⟩:=h2 j hj;exact⟨v,h3,hc a j hj _ _ h4⟩
def avy{α:Type}[Inhabited α](s:Nat)(c:α->Nat->PV)(l:List α):Nat->PV:=fun _=>psl s c l
def auz{s:Nat}{α:Type}[Inhabited α]{c:α->Nat->PV}(ht:P.underlying t=some (.slice e))(hc:P.cellsOf e=s)(hs:0<s)(h:Rd P e s c):Rd P t 1 (avy s c):=by
 classical
 intro H enc w sp held fuel cs x hx
 rcases DataW.trod_slice ht hx with⟨rfl,_⟩|⟨a,len,cap,elems,rest,n,rfl,rfl,_,hb,hl,hm,hlen,hel,_,_⟩
 · refine ⟨rfl,[],fun j hj=>?_⟩
   obtain rfl:j=0:=by omega
   exact⟨_,rfl,none,0,rfl,bil _,bio _,(fun hh=>by cases hh),fun hh=>absurd hh (bl7 0)⟩
 have each:∀i,i<len->∃q:α,∀j,j<s->∃v,w.cell? (a.add (i*s+j))=some v/\aq (dm w) (c q j) v:=by
  intro i hi;have h1:=hel i hi;rw[hc]at h1;rw[bik bmq]at h1;obtain⟨cs',h2,h3⟩:=Option.bind_eq_some_iff.1 h1;obtain⟨_,h4,h5⟩:=World.cells?_some h2;obtain⟨_,q,h6⟩:=h _ enc w sp held n cs' _ h3;refine⟨q,fun j hj=>?_⟩;obtain⟨v,h7,h8⟩:=h6 j hj;refine⟨v, ?_,h8⟩;have:=h5 j hj;rw[h7]at this;rw[<- this];congr 1;unfold Addr.add;by_cases hj0:j=0
  · subst hj0
    simp
  by_cases hi0:i*s=0
  · simp[hi0,hj0]
  have:¬(i*s+j=0):=by omega
  simp only[hj0,hi0,this,if_false];congr 1;omega
 refine⟨rfl,(List.range len).map fun i=>if hi:i<len then Classical.choose (each i hi)else default,fun j hj=>?_⟩;obtain rfl:j=0:=by omega
 refine⟨_,rfl,some a,cap,by simp,by simpa using hl,hm,(fun hh=>by cases hh),fun hn=>?_⟩;have hn:0<len:=by simpa using hn
 have hspot:a.spot=none:=by
  obtain⟨q,hq⟩:=each 0 hn;obtain⟨v,hv,_⟩:=hq 0 hs;have:a.add (0*s+0)=a:=by simp[Addr.add]
  rw[this]at hv;unfold World.cell? at hv;split at hv
  · split at hv
    · cases hv
    rename_i hsp;simpa using hsp
  cases hv
 refine⟨a.block,a.off, ?_,fun i j hi hj=>?_⟩
 · obtain ⟨b,o,spo⟩:=a
   simp only at hspot;subst hspot;rfl
 have hi:i<len:=by simpa using hi
 have hch:=Classical.choose_spec (each i hi);obtain⟨v,hv,hr⟩:=hch j hj;refine⟨v, ?_, ?_⟩
 · unfold World.cell? at hv
   have hblk:(a.add (i*s+j)).block=a.block:=by unfold Addr.add;split<;>rfl
   have hoff:(a.add (i*s+j)).off=a.off+(i*s+j):=by
    unfold Addr.add;split
    · rename_i h0;rw[h0];rfl
    rfl
   rw[hblk,hoff]at hv;unfold gq dm;split at hv
   · rename_i hb'
     rw[hb'];split at hv
     · cases hv
     exact hv
   cases hv
 have:lf c ((List.range len).map fun i=>if hi:i<len then Classical.choose (each i hi)else default) i j=c (Classical.choose (each i hi)) j:=by
  unfold lf;simp[List.getD,hi]
 rw[this];exact hr
def ary {H:Type} {enc:TypeId×Value->H} {w:World} {sp:Nat->Bool} {held:Bool} {fuel:Nat} {cs:List Value} {x:DataW H×List MemPlace} {fs:Array Field} (ht:P.underlying t=some (.struct fs)) (h:DataW.trod enc P w 0 sp held fuel t cs=some x) :
 cs.length=P.cellsOf t/\∃n,∀(i:Nat) (f:Field),fs[i]? = some f->∃y,DataW.trod enc P w 0 sp held n f.type ((cs.drop f.offset).take (P.cellsOf f.type))=some y:=by
 obtain⟨xs,n,_,_,h1,h2,h3⟩:=DataW.trod_struct ht h;refine⟨h1,n,fun i f hf=>?_⟩;have:=h3 i f hf;rw[this];have hi:i<xs.length:=by rw[h2];exact(biu.1 hf).1
 exact⟨_,bik hi⟩
def agw {H:Type} {enc:TypeId×Value->H} {w:World} {sp:Nat->Bool} {held:Bool} {n off s:Nat} {ft:TypeId} {cs:List Value} {y:DataW H×List MemPlace} {α:Type} {c:α->Nat->PV} (h:Rd P ft s c) (hy:DataW.trod enc P w 0 sp held n ft ((cs.drop off).take (P.cellsOf ft))=some y) :
 ∃a:α,∀j,j<s->∃v,cs[off+j]? = some v/\aq (dm w) (c a j) v:=by
 obtain⟨h1,a,h2⟩:=h _ enc w sp held n _ y hy;refine⟨a,fun j hj=>?_⟩;obtain⟨v,h3,h4⟩:=h2 j hj;refine⟨v, ?_,h4⟩;rw[bjs]at h3;split at h3
 · rwa [bmb]at h3
 cases h3
end
def afa {W W':World} (hb:Below W.heap.size W W') (may:MemPlace->Prop):W.keptBut W' may:=by
 refine⟨hb.os,hb.output,fun i hi=>?_⟩;rw[hb.block i hi]
 cases W.heap[i]? with
 |none=>exact rfl
 |some o=>cases o<;>first|exact⟨rfl,rfl,rfl,fun _ _=>rfl⟩|exact .inr ⟨rfl,rfl⟩|exact rfl
def afd {W W':World} (hb:Below W.heap.size W W') (p:MemPlace) (hp:p.block<W.heap.size):W.sameAt W' p:=by
 cases p with
 |cell b off=>show W'.cell? _=W.cell? _;unfold World.cell?;rw[hb.block b hp]
 |map b=>exact hb.block b hp
section
variable {H:Type}{enc:TypeId×Value->H}{P:Program}
def a35 (hl:laidOutB P=true) {W W':World} {sp':Nat->Bool}:∀{ts:List TypeId} {vs:List Value} {ds:List (DataW H)} {ps:List MemPlace},(∀t∈ts,P.readableRec t=true/\t<P.types.size)->DataW.TrodAll enc P W 0 (fun _=>true) true ts vs ds ps ->
 (∀p∈ps,W.sameAt W' p)->(∀p∈ps,sp' p.block=true)->DataW.TrodAll enc P W' 0 sp' true ts vs ds ps
 | [],[],[],ps,_,h,_,_=>h
 | t::ts,v::vs,d::ds,ps,ht,⟨p,q,h1,h2,e⟩,hs,hsp=>by
  subst e;refine⟨p,q,WideElems.Trod_stays hl (ht t bmu).1 (ht t bmu).2 h1 (fun z hz=>hs z (by simp[hz])) (fun z hz=>hsp z (by simp[hz])), ?_,rfl⟩;exact a35 hl (fun t ht'=>ht t (by simp[ht'])) h2 (fun z hz=>hs z (by simp[hz])) (fun z hz=>hsp z (by simp[hz]))
 | [],_::_,_,_,_,h,_,_=>h.elim
 | [],[],_::_,_,_,h,_,_=>h.elim
 |_::_,[],_,_,_,h,_,_=>h.elim
 |_::_,_::_,[],_,_,h,_,_=>h.elim
def ax6{f:Func}{s:ChangeSpec}{W W':World}{args:Array Value}{ds:List (DataW H)}{before:List MemPlace}{tb:TypeId}(hl:laidOutB P=true)(hpar:∀t∈f.params.toList,P.readableRec t=true/\t<P.types.size)
 (hres:f.resultTypes=#[tb]) (htb:P.underlying tb=some .bool) (hv:s.vars=[]) (hfn:s.fn H ds={ results:=[.lit (.bool true)],args:=ds })
 (hW:DataW.Whole enc P f.params.toList s.vars false W args.toList ds [] before) (hb:Below W.heap.size W W'):s.post enc P f false true false false W args (.bool true) W':=by
 have hW':=hW;have hlt:∀p∈before,p.block<W.heap.size:=fun p hp=>hW.lt p hp;obtain⟨p,q,hA,hV,rfl,hfz,hnd⟩:=hW;rw[hv]at hV;obtain⟨_,rfl⟩:=trodVars_none hV;have hfn':s.fn H (ds++[])={ results:=[.lit (.bool true)],args:=ds }:=by rw[bjn];exact hfn
 have hargs:∀sp:Nat->Bool,(∀z∈p++[],sp z.block=true)->DataW.TrodAll enc P W' 0 sp true f.params.toList args.toList (s.fn H (ds++[])).args p:=fun sp hsp=>by
  rw[hfn'];exact a35 hl hpar hA (fun z hz=>afd hb z (hlt z (by simpa using hz))) (fun z hz=>hsp z (by simpa using hz))
 have hrs:∀(b:Nat) (sp:Nat->Bool) (hd:Bool),DataW.TrodAll enc P W' b sp hd f.resultTypes.toList ((Value.bool true).resultList f.resultTypes.size) (s.fn H (ds++[])).results []:=fun b sp hd=>by
  rw[hfn',hres];exact trodAll_cons_mk (shut_bool htb _) trodAll_mk0
 have hok:∀(j:Nat) (t:TypeId) (r:Value),f.resultTypes[j]? = some t->((Value.bool true).resultList f.resultTypes.size)[j]? = some r->Value.okWide P W' .any 0 t r:=ok_one hres rfl (okWide_bool_mk htb _)
 have hvars:∀sp:Nat->Bool,(∀z∈p++[],sp z.block=true)->DataW.TrodVars enc P W' sp s.vars (s.fn H (ds++[])).vars []:=fun sp _=>by
  rw[hfn',hv];exact rfl
 have hold:∀z∈p++[],(fun b=>decide (b<W.heap.size)) z.block=true:=fun z hz=>by simpa using hlt z hz
 refine⟨ds,[],p++[],[],p,[],hW',hrs _ _ _,hargs _ hold,hvars _ hold,World.keptBut_mono (fun z hz=>⟨hz, ?_⟩) (afa hb (·∈p++[])),fun _=>?_⟩
 · exact Or.inr (by simpa using hz)
 refine⟨hok,_,_,([]++p)++[],⟨[]++p,[],trodAll_append (hargs _ (fun _ _=>rfl)) (hrs _ _ _),hvars _ (fun _ _=>rfl),rfl, ?_, ?_⟩, ?_⟩
 · intro b off hp
   have hp':MemPlace.cell b off∈p++[]:=by simpa using hp
   have:=hfz b off hp';unfold World.frozen? at this ⊢;rw[hb.block b (hlt _ hp')];exact this
 · intro ha;cases ha
 intro z hz _;simpa using hz
end
def at6 {P:Program} {f:FuncId} {args:List PC} {us:List Value} {W:World} {R:Ending->World->Prop} (ht:rp (dm W)) (h:aa P f args (ag [.one (.raw (.bool true))])) (hr:bw (dm W) args us) (hR:∀W',Below W.heap.size W W'->R (.returned (.bool true)) W'):Calls P f us.toArray W R:=by
 refine(h W (dm W) us ht (fun _ _ hh=>hh) hr).mono ?_;rintro e w' ⟨v,imm',rfl,hv,_,_,hb⟩;obtain⟨rfl,_⟩:=hv;exact hR w' hb
end
end Go.Hx
