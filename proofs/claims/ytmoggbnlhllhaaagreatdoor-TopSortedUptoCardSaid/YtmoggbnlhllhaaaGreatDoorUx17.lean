/- A part of the proof: V15 Cs18 Cs19 Hx20 Cs20 Cs21 Cs22 Cs23 Hx21. -/
import Derived.ChangeArms
import Derived.OpenShut
import Derived.ProofKit
import Derived.WalkKit
import Derived.WideKeyArgs
import Derived.Test.YtmoggbnlhllhaaaGreatDoorUx16
set_option linter.all false
set_option maxRecDepth 100000
namespace Go.Hx
section
open Go.Proofs
def aty(l:List AS):dg bqh 177 [.one (.ref 900 l.length)] [(900, .arr true 1 35 l.length (lf sC l))] (.v (.one (.ref 901 (jg l).length))) [(901, .arr true 1 35 (jg l).length (lf sC (jg l)))] []:=by
 refine hfx (nt:=61) Tryz.func177 ?_;refine eq ?_;refine ah3 900 rfl fun hlen=>?_;refine eu ?_;refine hcd ?_ ?_<;>intro h0
 · refine w_5 ?_;refine age 2 901 rfl rfl rfl rfl ?_;refine hrr ?_;have he:=alu (l:=l) (k:=l.length) (bm1 _) (fun j h1 h2=>by omega);exact⟨_,_,rfl,bpy,fe (by rw[he]),⟨⟨_,rfl,ja he (by rw[he])⟩,trivial⟩⟩
 refine w_7 ?_;refine ar (ι:=Nat) (ka 0 kn) (kb 900 km) (fun k=>⟨[(3,some (vI k))],[]⟩) (fun k=>1<=k/\k<=l.length/\∀j,0<j->j<k->¬l.getD j default=l.getD (j-1) default) (fun k=>l.length-k) (1) (⟨bm1 _,by omega,fun j h1 h2=>by omega⟩) kk ?_;rintro k ⟨hk1,hk,hI⟩;refine w_8 ?_;refine hcd ?_ ?_<;>intro h1
 ·
  refine sb ?_;refine hcd ?_ ?_<;>intro h2
  ·
   refine l5 ?_;refine ar (ι:=Nat×Nat×List AS) (ka 0 (ka 4 kn)) km (fun x=>⟨[(3,some (vI x.1)),(5,some (vI ((x.2.1:Int)-k)))],[(900,some (.arr true 1 35 l.length (lf sC x.2.2)))]⟩) (fun x=>CpI l k x.1 x.2.1 x.2.2) (fun x=>l.length-x.2.1) ((k,k+1,l)) (CpI.start hk1 bpw hI (xm bpx rfl bpw)) ⟨⟨zy,⟨_,rfl,(coi bq0)⟩,trivial⟩,uu⟩ ?_;rintro⟨p,q,m⟩ hC;have hC0:=hC;obtain⟨hml,hkq,hpq,hql,_,_⟩:=hC0;dsimp only at hC hml hkq hpq hql;refine w_8 ?_;refine hcd ?_ ?_<;>intro h3
   ·
    simp only[eo,c5,bmc]at h3;refine sb ?_;refine hcn ?_ ?_<;>intro h4
    ·
     refine aqu ?_
     first | (refine lpz (p+1, q+1, m.set p (m.getD q default)) ⟨⟨⟨_, rfl, (coi bq3)⟩, ⟨_, rfl, (coi bq3)⟩, tt⟩, ⟨⟨_, rfl, (sn id hml.symm bpw (by dsimp only; omega) bq7)⟩, trivial⟩⟩ ?_; exact hC.keep bpw (xr bpx bq7 bq7))
           |(refine lpz (p,q+1,m) ⟨⟨⟨_,rfl,(coi bq0)⟩,⟨_,rfl,(coi bq0)⟩,tt⟩,uu⟩ ?_;exact hC.skip bpw (xm bpx bq9 bq9))
    refine w_6 ?_
    first | (refine lpz (p+1, q+1, m.set p (m.getD q default)) ⟨⟨⟨_, rfl, (coi bq3)⟩, ⟨_, rfl, (coi bq3)⟩, tt⟩, ⟨⟨_, rfl, (sn id hml.symm bpw (by dsimp only; omega) bq7)⟩, trivial⟩⟩ ?_; exact hC.keep bpw (xr bpx bq7 bq7))
          |(refine lpz (p,q+1,m) ⟨⟨⟨_,rfl,(coi bq0)⟩,⟨_,rfl,(coi bq0)⟩,tt⟩,uu⟩ ?_;exact hC.skip bpw (xm bpx bq9 bq9))
   simp only[eo,c5,bmc]at h3;refine w_6 ?_;refine rz9 0 true ?_;refine w_8 ?_;refine az7 2 901 rfl rfl rfl rfl (by simp only[eo,c5,bmc];omega) rfl ?_;refine hrr ?_;have he:=(afl hC bpw).1;exact⟨_,_,rfl,bpy,fe (by rw[he];simp[eo,c5]),⟨⟨_,rfl,b3e hC bpw (by simp[c5]) (by simp[eo,c5])⟩,trivial⟩⟩
  refine w_6 ?_;refine lpz (k+1) kk ?_;refine⟨by omega,by show k+1<=_;omega,fun j h1 h2=>?_⟩
  rcases Nat.lt_or_eq_of_le (Nat.le_of_lt_succ h2)with h|h
  · exact hI j h1 h
  subst h;exact xr bpx rfl bpw
 refine w_6 ?_;refine age 2 901 rfl rfl rfl rfl ?_;refine hrr ?_;have he:=alu (l:=l) (k:=k) bpw hI;exact⟨_,_,rfl,bpy,fe (by rw[he]),⟨⟨_,rfl,ja he (by rw[he])⟩,trivial⟩⟩
def ap1 (l:List AS) (hl:l.length<=8589934592):dg bqh 108 [.one (.p (asl l))] [] (.v (.one (.ref 901 (ord l).length))) [(901, .arr true 1 35 (ord l).length (lf sC (ord l)))] []:=by
 refine hfx (nt:=10) Tryz.func108 ?_;refine w_7 ?_;refine fc9 ad5 (ad7 l.length false (lf sC l) bpw) trivial ?_;refine w_5 ?_;refine fc9 ao9 (b0v 0 _ l hl) uu ?_;refine w_4 ?_;refine nj rfl rfl rfl rfl rfl rfl ap2 ((aty (srt l)).swap 900 0) (⟨congrArg (HV.ref 0) (a6x l).symm,trivial⟩) ⟨⟨_,rfl,ja rfl (a6x l).symm⟩,trivial⟩ rfl rfl ?_;refine w_2 ?_;refine hrr ?_;exact⟨_,_,rfl,bpy,fe (by rw[a34]),⟨⟨_,rfl,ja (a34 _).symm (by rw[a34])⟩,trivial⟩⟩
def bbf (s:AS):dg bqh 54 [.one (.p (asC s))] [] (.v (.one (.ref 901 (ct s).length))) [(901, .arr true 1 35 (ct s).length (lf sC (ct s)))] []:=by
 refine hfx (nt:=23) Tryz.func54 ?_;refine w_8 ?_;refine qcx a0w (acj s) ?_;refine w_2 ?_;refine hcd ?_ ?_<;>intro h0
 · refine w_4 ?_;refine cr 2 901 true 1 35 (lf sC []) bq4 rfl (CoP.sl rfl (.inr rfl) (fun h=>h) (fun i j hi _=>absurd hi (bm6 i))) (.inr rfl) rfl ?_;refine hrr ?_;exact⟨_,_,rfl,bpy,fe (by rw[a7v h0];rfl),⟨⟨_,rfl,ja (a7v h0) (by rw[a7v h0];rfl)⟩,trivial⟩⟩
 refine w_4 ?_;refine m9 0 ?_;refine w_9 ?_;refine ar (ι:=List AS×AS) (ka 0 kn) km (fun y=>⟨[(3,some (.v (.one (.ref 0 y.1.length)))),(4,some (vA y.2))],[(0,some (.arr true 1 35 y.1.length (lf sC y.1)))]⟩) (fun y=>a7y s y) (fun y=>y.2.toNat) (([s],s)) (afq s) ⟨tt,⟨⟨_,rfl,(np (CoP.refl _))⟩,trivial⟩⟩ ?_;rintro y hy;have hlen:=hy.2.1;have hsl:=s.isLt;refine w_6 ?_;refine hcn ?_ ?_<;>intro h1
 ·
  have hne:y.2≠0:=fun e=>h1 (by rw[e];rfl);refine w_5 ?_;refine rq rfl rfl rfl rfl rfl ?_ (hp:=(a2k hne));refine w_7 ?_;refine m9 1 ?_;refine rz9 2 true ?_;refine w_2 ?_;refine⟨(y.1++[(y.2-1)&&&s],(y.2-1)&&&s), ?_, ?_, ?_⟩
  · exact afh hy hne
  · exact xi hne
  exact⟨⟨⟨_,rfl,(bj rfl)⟩,⟨_,rfl,(nq (a3z hne))⟩,tt⟩,⟨⟨_,rfl,(bm rfl (CoP.of_eq (by rw[a3z hne];rfl)))⟩,trivial⟩⟩
 have hz:y.2=0:=d7.1 h1;refine w_2 ?_;refine be 3 rfl rfl rfl ?_;refine w_2 ?_;refine fc9 a0t (ap1 y.1 bpw) trivial ?_;refine w_2 ?_;refine hrr ?_;have he:=(ali hy hz).trans (aet h0).symm;exact⟨_,_,rfl,bpy,fe (by rw[he]),⟨⟨_,rfl,ja he.symm (by rw[he])⟩,trivial⟩⟩
end
section
def b7j(l:List Fd)(p:AS):Int:=if cn 16 l=0 then(if 8<bsz p then 3 else if p>>>16=0 then 0 else 1)else cn 16 l
def bli(l:List Fd)(p:AS):Fd:=if b7j l p=0 then ah5 l p else⟨0,0⟩
def bjg(l:List Fd)(p:AS):Bool:=decide (b7j l p=0)&&x6 l p
def bcP(n:Int)(l:List Fd)(f:Fd):Bool:=decide (f.rhs&&&~~~f.lhs≠0)&&decide (clo l f.lhs≠ah n)
def bcS(n:Int)(l:List Fd):Bool:=decide (cn n l=0)&&!l.any (bcP n l)
def arf(n:Int)(l:List Fd):List AS:=if a9a n l 8=0 then(ct (ah n)).filter fun s=>!x6 l s else[]
end
section
def b1u(l:List Fd)(p z:AS):AS:=(p&&&clo l (z&&&p))&&&~~~z
def bfw(l:List Fd)(z p:AS):Bool:=decide (b1u l p z≠0)
def aw4 (l:List Fd) (ps:List AS):Nat->AS->AS
 |0,z=>z
 | n+1,z=>match ps.find? (bfw l z) with
  |none=>z
  |some p=>aw4 l ps n (z|||b1u l p z)
def awb(l:List Fd)(ps:List AS)(z:AS):AS:=aw4 l ps 4294967297 z
def aqk(l:List Fd)(ps:List AS)(f:Fd):Bool:=decide (sub f.rhs (awb l ps f.lhs))
def bkh(l:List Fd)(ps:List AS)(z0:AS)(x:Nat×List Nat×AS):Prop:=aw4 l ps x.1 x.2.2=awb l ps z0/\4294967296<x.1+x.2.2.toNat/\x.2.1.length+x.1=4294967297
def bjh(l:List Fd)(ps:List AS)(i:Nat):List Nat:=(List.range i).filter fun j=>!aqk l ps (l.getD j default)
def aye(l:List Fd)(ps:List AS):Bool:=(List.range l.length).all fun j=>aqk l ps (l.getD j default)
end
section
open Go.RowKit
def b1d (P:Program) (g:FuncId) (caps:List PC) (n:Nat) (xs:Nat->List PC):Prop :=
 ∀ (imm:Imm) (_:qs imm) (us:List Value) (W:World) (l:Nat) (J:Nat->World->Prop),bz imm caps us ->
  (∀i A,J i A->∀b ob,imm b=some ob->A.heap[b]? = some ob) ->
  (∀i A A',J i A->Below A.heap.size A A'->J i A') ->
  (∀i A vs,i<n->J i A->bz imm (xs i) vs->YieldAt (rf none) 0 P l vs.toArray A fun e A'=>e=.returned (.bool true)/\J (i+1) A') ->
  J 0 W->CallsIn (rf none) 0 P g (#[.func (.yield l) #[] #[]]++us.toArray) W fun e W'=>(∃v,e=.returned v)/\J n W'
section
variable {P:Program}{nt:Nat}{c:Ctx}{s:S}{a:Act}{w w0:World}
def w6 {l b:Nat} {o:Obj} (hb:b≠l):(w.putObj l o).heap[b]? = w.heap[b]?:=by
 show(w.heap.setIfInBounds l _)[b]? = _;rw[Array.getElem?_setIfInBounds_ne (Ne.symm hb)]
def afu {l:Nat} {o o1:Obj} (hl:w.heap[l]? = some o1):(w.putObj l o).heap[l]? = some o:=by
 show(w.heap.setIfInBounds l _)[l]? = _;rw[Array.getElem?_setIfInBounds_self_of_lt (bm5.1 hl).1]
def ag.turn(h:ag w0 nt c s a w){l:Nat}{o1:Obj}(o2:Obj)(fo:Option Obj)(hl:w.heap[l]? = some o1)(hc:so o1=false)(hd:∀ds,o1≠.deferred ds)(hi:c.imm l=none)(hi0:fo≠none->c.old.1 l=none)(hfo:fo=none\/fo=some o2) :
 ag w0 nt { old:=(c.old.1,fun b=>if b=l then fo else c.frm b,c.old.2.2),imm:=c.imm,tab:=c.tab,own:=c.own,blk:=c.blk,rows:=c.rows } s a (w.putObj l o2):=by
 have hblk:∀id ob b,s.o id=some ob->c.blk id b->b≠l:=fun id ob b ho hb e=>by
  obtain⟨x1,hcc,hdt⟩:=(h.objs id ob ho).data hb;rw[e,hl]at hcc;simp only[bly]at hcc;rw[<- hcc,hc]at hdt;cases hdt
 have hil:∀b ob,c.imm b=some ob->b≠l:=fun b ob hb e=>by rw[e,hi]at hb;cases hb
 refine⟨⟨h.defers.1,fun d hdd=>?_⟩,h.size, ?_,fun d x hx=>ak.evo (c:=c) (o:=s.o) (Imm.le.refl c.imm) (fun _ _=>Evo.of_same rfl rfl) (h.tmps d x hx),fun id ob ho=>?_,h.inj,fun b ob hb=>(w6 (hil b ob hb)).trans (h.imm b ob hb),h.sep,fun b hb=>?_,fun b ob hb=>?_,fun id ob b ho hb=>?_,fun id hid=>h.fixed id hid⟩
 · obtain ⟨D,e,g1,g2,g3,g4⟩:=h.defers.2 d hdd
   have hne:D≠l:=fun e=>by
    rw[e,hl]at g1;simp only[bly]at g1;exact hd _ g1
   exact⟨D,e,(w6 hne).trans g1,g2,by show(if D=l then fo else c.frm D)=none;rw[if_neg hne];exact g3,g4⟩
 · have hb:=h.below
   exact⟨hb.os,hb.tape,hb.output,by show _<=(w.heap.setIfInBounds l _).size;rw[Array.size_setIfInBounds];exact hb.size,fun k hk=>absurd hk (bm6 k),hb.drawn⟩
 · exact(h.objs id ob ho).keep (Imm.le.refl c.imm) rfl rfl (fun _ _=>Evo.of_same rfl rfl) fun b hb=>w6 (hblk id ob b ho hb)
 · have hb:(if b=l then fo else c.frm b)≠none:=hb
   show c.imm b=c.old.1 b;by_cases e:b=l
   · subst e
     rw[if_pos rfl]at hb;rw[hi,hi0 hb]
   rw[if_neg e]at hb;exact h.was b hb
 · have hb:(if b=l then fo else c.frm b)=some ob:=hb
   by_cases e:b=l
   · subst e
     rw[if_pos rfl]at hb
     rcases hfo with rfl|rfl
     · cases hb
     rw[afu hl];exact hb
   rw[if_neg e]at hb;exact(w6 e).trans (h.frm b ob hb)
 show(if b=l then fo else c.frm b)=none;rw[if_neg (hblk id ob b ho hb)];exact h.fsep id ob b ho hb
def ag.turn0 (h:ag w0 nt c s a w) {l:Nat} {o1:Obj} (o2:Obj) (hl:w.heap[l]? = some o1) (hc:so o1=false) (hd:∀ds,o1≠.deferred ds) (hi:c.imm l=none) (hf:c.frm l=none):ag w0 nt c s a (w.putObj l o2):=by
 have:=h.turn o2 none hl hc hd hi (fun e=>absurd rfl e) (.inl rfl)
 have e:(fun b=>if b=l then none else c.frm b)=c.frm:=by
  funext b;by_cases hb:b=l
  · rw[if_pos hb,hb,hf]
  rw[if_neg hb]
 rw[e]at this;exact this
end
def yk (r:Nat->Nat):List (Nat×Option HR)->List (Nat×Option HR)
 | []=>[]
 |(d,some x)::l=>(d,some (x.ren r))::yk r l
 |(d,none)::l=>(d,none)::yk r l
def a59 (r:Nat->Nat):∀(l:List (Nat×Option HR)) (d:Nat),b6 (yk r l) d=(b6 l d).map (HR.ren r)
 | [],d=>rfl
 | (e,some x)::l,d=>by
  simp only[yk,b6]
  cases Nat.beq e d with
  |true=>rfl
  |false=>simpa using a59 r l d
 | (e,none)::l,d=>by
  simp only[yk,b6]
  cases Nat.beq e d with
  |true=>rfl
  |false=>simpa using a59 r l d
def rgB (r:Nat->Nat) (T:List (Nat×Option HR)) (o1 o2:List (Nat×aa)) (fx:List Nat):Bool :=
 (fx.all fun id=>Nat.ble 1000 (r id))&&((keys o2).all fun id=>(um fx id&&um (keys o1) id)||(Nat.blt id 1000&&nmT id T))&&(a9x o2).all (um (keys o2))
def az1{r:Nat->Nat}{T:List (Nat×Option HR)}{o1 o2:List (Nat×aa)}{fx:List Nat}(h:rgB r T o1 o2 fx=true) :
 (∀id∈fx,1000<=r id)/\(∀id∈keys o2,id∉fx\/id∉keys o1->id<1000/\nmT id T=true)/\(∀id ob,lk o2 id=some ob->∀k,ob.men k->k∈keys o2):=by
 simp only[rgB,bm8,bms]at h;obtain⟨⟨h1,h2⟩,h3⟩:=h;refine⟨fun id hid=>bm0 (h1 id hid),fun id hid hor=>?_,fun id ob hid k hk=>?_⟩
 · have:=h2 id hid
   simp only[bnf,bm8]at this
   rcases this with⟨q1,q2⟩|⟨q1,q2⟩
   · rcases hor with e|e
     · exact absurd (j6.1 q1) e
     exact absurd (j6.1 q2) e
   exact⟨by simpa [bob]using q1,q2⟩
 have hmem:∀{l:List (Nat×aa)},lk l id=some ob->(id,ob)∈l:=by
  intro l
  induction l with
  |nil=>intro h;cases h
  | cons p l ih =>
   obtain⟨e,x⟩:=p;intro h;simp only[lk]at h
   cases hb:Nat.beq e id with
   | true =>
    rw[hb]at h;simp only[cond_true,bly]at h;rw[<- bmt hb,h];exact bmp
   | false =>
    rw[hb]at h;exact bmr _ (ih (by simpa using h))
 exact j6.1 (h3 k (a2u (hmem hid) (aa.men_ids hk)))
def bgg(P:Program)(nt l:Nat)(body:Code)(Q:HSt->Prop)(e:Exit)(st:HSt):Prop:=e=.normal/\HW (ro:=some l) P nt body st fun e st=>e=.normal/\Q st
section
variable {P:Program}{E:Env}{nt:Nat}{ops:Array Oper}{i:Nat}{o:Oper}{Q:Exit->Act->World->Prop}{a:Act}{A:World}{imm:Imm}
def azf(d:Option Tmp)(x:HR)(t:List (Nat×Option HR)):List (Nat×Option HR):=match d with|some d=>(d,some x)::t|none=>t
class TabC (imm:Imm):Prop where
 ok:qs imm
def cI(imm:Imm)(A:World)[ht:TabC imm]:Ctx:={ old:=(imm,ec A,(fun _=>undef),(fun _=>none),fun _ _=>undef),imm:=imm,tab:=ht.ok,own:=fun _=>undef,blk:=fun _=>noB,rows:=fun _ _=>undef }
variable [TabC imm]
structure It (imm:Imm) [TabC imm] (nt:Nat) (t:List (Nat×Option HR)) (a:Act) (A:World):Prop where
 defers:a.defers=[]
 rel:ag A nt (cI imm A) ⟨b6 t,fun _=>none⟩ a A
def axw{us:List Value}{args:List PC}(hi:∀b ob,imm b=some ob->A.heap[b]? = some ob)(hr:bz imm args us)(hn:args.length<=nt):It imm nt (zm 0 args) { tmps:=us.toArray++Array.replicate (nt-us.toArray.size) undef,defers:=[] } A:=by
 have hul:=hr.length;refine⟨rfl,py.nil _ _ _ _, ?_,Below.refl _ _,fun d x hx=>?_,(fun id ob ho=>by cases ho),(fun i i' ob ob' b ho=>by cases ho),hi,(fun id ob b ho=>by cases ho),fun b _=>rfl,fun b ob hb=>hb,(fun id ob b ho=>by cases ho),fun id _=>.inl rfl⟩
 · simp only[bov,Array.size_replicate,bnk];omega
 obtain⟨y,_,hy,rfl⟩:=a3v args 0 d x hx;simp only[Nat.sub_zero]at hy;obtain⟨u,hu,hr⟩:=hr.get d y hy;have hd:d<us.length:=(bnn.1 hu).1
 have:(us.toArray++Array.replicate (nt-us.toArray.size) undef).getD d undef=u:=by
  have e1:(us.toArray++Array.replicate (nt-us.toArray.size) undef)[d]? = some u:=by
   rw[Array.getElem?_append_left (by simpa using hd)];simpa using hu
  rw[Array.getD_eq_getD_getElem?,e1];rfl
 show ak (cI imm A) _ _ _;rw[this];exact ey.of_P (c:=cI imm A) hr
section
variable {t:List (Nat×Option HR)}
theorem It.sub {t':List (Nat×Option HR)} (h:It imm nt t a A) (hs:qf t' t):It imm nt t' a A :=
 ⟨h.defers,h.rel.relax ⟨b6 t',fun _=>none⟩ (fun d x hx=>wd hs d x hx) (fun id ob ho=>by cases ho)⟩
theorem It.move {A':World} (h:It imm nt t a A) (hi:∀b ob,imm b=some ob->A'.heap[b]? = some ob):It imm nt t a A':=by
 refine⟨h.defers,by rw[h.defers];exact py.nil _ _ _ _,h.rel.size,Below.refl _ _,fun d x hx=>?_,(fun id ob ho=>by cases ho),(fun i i' ob ob' b ho=>by cases ho),hi,(fun id ob b ho=>by cases ho),fun b _=>rfl,fun b ob hb=>hb,(fun id ob b ho=>by cases ho),fun id _=>.inl rfl⟩;exact ak.evo (c:=cI imm A) (o:=fun _=>none) (Imm.le.refl imm) (fun _ _=>.inl rfl) (h.rel.tmps d x hx)
theorem It.put (h:It imm nt t a A) {d:Option Tmp} (hd:cj nt d=true) (x:HR) (v:Value) (hx:ak (cI imm A) (fun _=>none) x v):It imm nt (azf d x t) (a.put d v) A:=by
 cases d with
 |none=>exact h
 | some d =>
  have:=h.rel.put d (of_decide_eq_true hd) (some x) v (fun y hy=>by cases hy;exact hx);refine⟨h.defers, ?_⟩
  have e:(S.put ⟨b6 t,fun _=>none⟩ d (some x))=⟨b6 ((d,some x)::t),fun _=>none⟩:=by
   unfold S.put;simp[az]
  rw[e]at this;exact this
def a81(h:It imm nt t a A){x:Operand}{r:HR}(hx:ev ⟨b6 t,fun _=>none⟩ x=some r):ak (cI imm A) (fun _=>none) r (a.eval x):=ae h.rel hx
def iq (hE:ck P E) {L:List Nat} {out:Out} {gb:Bool} (h:It imm nt t a A) (hi:ops[i]? = some o) (hw:b5 ops ⟨b6 t,fun _=>none⟩ o=some gb) (hd:cj nt o.dst=true) (hq':hq E true (fun _=>none) (ev ⟨b6 t,fun _=>none⟩) o.op=some out) (hnd:(match o.op with | .defer _=>false|_=>true)=true) (hg:gb=true) (hK:∀a',It imm nt (azf o.dst out.val t) a' A->wpOpsIn (rf none) 0 P ops Q L a' A) (hp:out.pre:=by first|exact trivial|(simp only[j4,inR,l8,ml];omega)|exact⟨trivial,trivial⟩|exact⟨trivial,bm0 rfl⟩|(try dsimp only)<;>((repeat' apply And.intro)<;>first|trivial|rfl|omega|assumption|exact bm0 rfl)):wpOpsIn (rf none) 0 P ops Q (i::L) a A:=by
 rw[wpOpsIn_cons];unfold wpOpIn;simp only[hi];rw[if_pos (dy h.rel (by rw[hw,hg]))];obtain⟨v,h1,h2⟩:=alc hE h.rel hq' hp;have hnd':∀c,o.op≠.defer c:=fun c hc=>by rw[hc]at hnd;cases hnd
 refine vk hnd' ?_;unfold Oper.wp;rw[h1];exact hK _ (h.put hd out.val v h2)
def iy {L:List Nat} {cl:Call} {f:Operand} {l:Nat} {R:World->Prop} (h:It imm nt t a A) (hi:ops[i]? = some o) (hw:b5 ops ⟨b6 t,fun _=>none⟩ o=some true) (hd:cj nt o.dst=true) (ho:o.op=.call cl) (hcl:cl.callee=.value f) (hf:ev ⟨b6 t,fun _=>none⟩ f=some (br (.raw (.func (.yield l) #[] #[])))) (hy:YieldAt (rf none) 0 P l (cl.args.toList.map a.eval).toArray A fun e A'=>e=.returned (.bool true)/\R A') (him:∀A',R A'->∀b ob,imm b=some ob->A'.heap[b]? = some ob) (hK:∀a' A',R A'->It imm nt (azf o.dst (br (.raw (.bool true))) t) a' A'->wpOpsIn (rf none) 0 P ops Q L a' A'):wpOpsIn (rf none) 0 P ops Q (i::L) a A:=by
 rw[wpOpsIn_cons];unfold wpOpIn;simp only[hi];rw[if_pos (dy h.rel hw)];obtain⟨fn,tmps,assign,body,hyr,hround⟩:=hy;have hfe:a.eval f=.func (.yield l) #[] #[]:=(a81 h hf).1;refine⟨fun _ _=>trivial, ?_⟩;have hsem:Oper.semAt (rf none).round a.eval o=execOp a.eval o:=rfl;rw[hsem];have hma:(cl.args.toList.map a.eval).toArray=cl.args.map a.eval:=by apply Array.toList_inj.1;rw[bof]
 rw[hma]at hyr
 have hrun:(execOp a.eval o).run P A=.ok (.round l fn tmps assign body) A:=by
  simp only[execOp,ho,resolve,hcl,hfe,bmz,Deferred.ofValue,bnh,bmf,invoke];simpa using hyr
 rw[hrun,Oper.uponIn_round];refine⟨fun hh=>absurd hh (by simp[rf]),hround.mono ?_⟩;rintro e A' ⟨rfl,hR⟩;exact hK _ A' hR ((h.move (him A' hR)).put hd (br (.raw (.bool true))) (.bool true) ⟨rfl,rfl⟩)
end
end
theorem CoP.vp {k k':Nat} {f f':Nat->PV} (hk:k'=k) (hf:∀j,j<k->CoP (f j) (f' j)):CoP (.vp k f) (.vp k' f'):=by
 subst hk;rintro m u ⟨b,off,rfl,h⟩
 exact ⟨b,off,rfl,fun j hj=>by
  obtain⟨x,hx,hr⟩:=h j hj
  exact⟨x,hx,hf j hj m x hr⟩⟩
theorem CoP.fn {g:FuncId} {k k':Nat} {f f':Nat->PV} (hk:k'=k) (hf:∀j,j<k->CoP (f j) (f' j)):CoP (.fn g k f) (.fn g k' f'):=by
 subst hk;rintro m u ⟨cs,rfl,hl,h⟩
 exact ⟨cs,rfl,hl,fun j hj=>by
  obtain⟨x,hx,hr⟩:=h j hj
  exact⟨x,hx,hf j hj m x hr⟩⟩
def RN (P:Program) (nt:Nat) (ops:Array Oper) (L:List Nat) (st:HSt) (Q:HSt->Prop):Prop :=
 ∀(ro:Option Nat) (n:Nat) w0 m0 a w (QQ:Exit->Act->World->Prop),Rel w0 m0 nt st.den a w->(∀st' a' w',Q st'->Rel w0 m0 nt st'.den a' w'->QQ .normal a' w')->wpOpsIn (rf ro) n P ops QQ L a w
section
variable {P:Program}{E:Env}{nt:Nat}{ops:Array Oper}{st:HSt}
def a8x (hE:ck P E) {ro:Option Nat} {n:Nat} {w0:World} {m0:Old} {sf:S} {L2:List Nat} {QQ:Exit->Act->World->Prop} (hQ:∀a' w',Rel w0 m0 nt sf a' w'->wpOpsIn (rf ro) n P ops QQ L2 a' w') :
 ∀(T:List Tr) (s:S) (a:Act) (w:World),mi P E nt ops T s sf->Rel w0 m0 nt s a w->wpOpsIn (rf ro) n P ops QQ (T.map (·.i)++L2) a w
 | [],s,a,w,hT,hr=>by
  cases hT;exact hQ _ _ hr
 | t::T,s,a,w,hT,hr=>by
  cases hT with
  |cons hi he hR hO hF hrest =>
  rw[bnr,bog,wpOpsIn_cons];exact a4i hE he hr hi fun a' w' hr'=>a8x hE hQ T _ a' w' hrest hr'
section
variable {Q:HSt->Prop}
def d9 (hE:ck P E) {L1 L2:List Nat} (h:Reg P E nt ops L1 st fun _ sf=>RN P nt ops L2 sf Q):RN P nt ops (L1++L2) st Q:=fun ro n w0 m0 a w QQ hr hQ=>by
 obtain⟨T,sf,hl,hT,h⟩:=h;rw[<- hl];exact a8x hE (fun a' w' hr'=>h ro n w0 m0 a' w' QQ hr' hQ) T _ a w hT hr
def gk(h:Q st):RN P nt ops [] st Q:=fun ro n w0 m0 a w QQ hr hQ=>hQ st a w h hr
def xg {L:List Nat} (h:HE nt st fun st'=>RN P nt ops L st' Q):RN P nt ops L st Q:=fun ro n w0 m0 a w QQ hr hQ=>by
 obtain⟨st',h1,h2⟩:=h w0 m0 a w hr;exact h1 ro n w0 m0 a w QQ h2 hQ
def db {ro:Option Nat} {Q:Exit->HSt->Prop} {id:Nat} (L1 L2:List Nat) (hl:List.range ops.size=L1++L2) (h:RN P nt ops (L1++L2) st (Q .normal)):HW (ro:=ro) P nt (.region id ops false) st Q:=fun w0 m0 a w hr=>by
 refine wpIn_region ?_;rw[hl];exact h ro 0 w0 m0 a w _ hr fun st' a' w' hq hr'=>⟨st',hq,hr'⟩
def ahf(st1:HSt)(d:Nat)(x:HR)(hs:∀w0 m0 a w,Rel w0 m0 nt st.den a w->∃cc,cc.old=m0/\ag w0 nt cc st1.den a w/\ak cc st1.den.o x (a.tmps.getD d undef))(h:HE nt ⟨(d,some x)::st1.t,st1.o⟩ Q):HE nt st Q:=fun w0 m0 a w hr=>by
 obtain⟨cc,hold,hrr,hx⟩:=hs w0 m0 a w hr;refine h w0 m0 a w ⟨cc,hold,hrr.defers,hrr.size,hrr.below,fun k y hy=>?_,hrr.objs,hrr.inj,hrr.imm,hrr.sep,hrr.was,hrr.frm,hrr.fsep,hrr.fixed⟩;simp only[HSt.den]at hy;rw[az]at hy;dsimp only at hy;split at hy
 · rename_i hk
   subst hk;simp only[bly]at hy;subst hy;exact hx
 exact hrr.tmps k y hy
end
end
end
section
def orL(ps:List AS):AS:=ps.foldl (·|||·) 0
def bev(n:Int)(l:List Fd)(ps:List AS):Bool:=decide (orL ps=ah n)&&aye l ps&&ps.any (ng n l)
def bdt(n:Int)(l:List Fd)(ps:List AS)(s:AS):List AS:=if bev n l (ps.eraseIdx (idx (fun x=>decide (x=s)) ps).toNat)=true then ps.eraseIdx (idx (fun x=>decide (x=s)) ps).toNat else ps
def aql (n:Int) (l:List Fd) (p0:List AS):Nat->List AS
 |0=>p0
 |i+1=>bdt n l (aql n l p0 i) (p0.getD (p0.length-1-i) default)
def aos(n:Int)(l:List Fd):Bool:=aye l (arf n l)
def biw(n:Int)(l:List Fd):List AS:=if a9a n l 8=0/\aos n l=true then aql n l (o8 (arf n l)) (o8 (arf n l)).length else[]
def bj6(n:Int)(l:List Fd):Bool:=decide (a9a n l 8=0)&&aos n l
def bis(n:Int)(l:List Fd)(p0:List AS)(i:Nat)(ps:List AS):Prop:=ps=aql n l p0 i/\ps.length<=p0.length/\∀j,j<p0.length-i->p0.getD j default∈ps
def b8v(n:Int)(l:List Fd):Option Fd:=(a0i n l).find? fun f=>!aqk l (arf n l) f
def blg(n:Int)(l:List Fd):Int:=if a9a n l 8=0 then(match b8v n l with|some _=>0|none=>4)else a9a n l 8
def bjm(n:Int)(l:List Fd):Fd:=if a9a n l 8=0 then(match b8v n l with|some f=>f|none=>⟨0,0⟩) else⟨0,0⟩
end
section
def spA(l:List Fd)(s:AS):AS:=(ah5 l s).lhs|||(ah5 l s).rhs
def spB(l:List Fd)(s:AS):AS:=s&&&~~~(ah5 l s).rhs
def arz (l:List Fd):Nat->List AS->List AS->List AS
 |0,_,out=>out
 | n+1,todo,out =>
  if todo.length=0 then out
  else if x6 l (todo.getD (todo.length-1) default)=true then arz l n (todo.take (todo.length-1)++[spA l (todo.getD (todo.length-1) default),spB l (todo.getD (todo.length-1) default)]) out
  else arz l n (todo.take (todo.length-1)) (out++[todo.getD (todo.length-1) default])
def b97(n:Int)(l:List Fd):List AS:=arz l 6562 [ah n] []
def bjs(n:Int)(l:List Fd):List AS:=if a9a n l 8=0 then o8 (b97 n l) else[]
def b9t(todo:List AS):Nat:=(todo.map fun s=>3^bsz s).sum
def bkn(n:Int)(l:List Fd)(x:Nat×List AS×List AS):Prop:=arz l x.1 x.2.1 x.2.2=b97 n l/\b9t x.2.1<x.1/\x.2.2.length+x.1<=6562
def atu{k:Nat}(h:k<=32):bsz (tj k)<=k:=by
 unfold bsz
 have e:(List.range 32).countP (fun i=>(tj k).getLsbD i)=(List.range 32).countP fun i=>decide (i<k):=by
  apply List.countP_congr;intro i hi;rw[bmm]at hi;rw[sg k i hi]
 have h2:∀m,(List.range m).countP (fun i=>decide (i<k))<=k/\(List.range m).countP (fun i=>decide (i<k))<=m:=by
  intro m
  induction m with
  |zero=>simp
  | succ m ih =>
   rw[bmk,List.countP_append];simp only[boz,List.countP_nil];by_cases hm:m<k
   · rw[if_pos (decide_eq_true hm)];omega
   rw[if_neg (by simpa using hm)];omega
 rw[e];exact(h2 32).1
def ayp {n:Int} {m:Nat} (h:n<=m) (hm:m<=32):bsz (ah n)<=m:=by
 unfold ah;exact bme (atu (Nat.min_le_right _ _)) bpw
end
section
open Go.Proofs
def bib:List Fd:=[⟨1,2⟩,⟨2,4⟩]
def bj3:List Fd:=[⟨3,4⟩,⟨4,1⟩]
end
section
open Go.Proofs
def w1(l:List Fd)(p:AS):Int:=if cn 16 l=0/\(8:Int)<bsz p then 3 else cn 16 l
section
variable {l:List Fd}{p:AS}
end
section
variable {n:Int}{l:List Fd}
end
end
section
open Go.RowKit Go.ChangeShapes Go.WideShapes Go.ChangeAt
def Rd (P:Program) (t:TypeId) (n:Nat) {α:Type} (c:α->Nat->PV):Prop :=
 ∀ (H:Type) (enc:TypeId×Value->H) (w:World) (sp:Nat->Bool) (held:Bool) (fuel:Nat) (cs:List Value) (x:DataW H×List MemPlace),DataW.trod enc P w 0 sp held fuel t cs=some x ->
  cs.length=n/\∃a:α,∀j,j<n->∃v,cs[j]? = some v/\aq (ec w) (c a j) v
section
variable {P:Program}{t e:TypeId}
def bkk(k:IntKind)(z:Int):Nat->PV:=fun _=>.raw (.int k z)
def bix(b:Bool):Nat->PV:=fun _=>.raw (.bool b)
def bit(s:ByteArray):Nat->PV:=fun _=>.raw (.string s)
def u8P(u:UInt8):Nat->PV:=fun _=>.raw (.int .u8 (u.toNat:Int))
def bdh (ht:P.underlying t=some (.int .u8)):Rd P t 1 u8P:=by
 intro H enc w sp held fuel cs x h;obtain⟨n,rfl,_,hw⟩:=DataW.trod_int ht h;have hx:0<=n/\n<=255:=by simpa [Lit.wf,IntKind.min,IntKind.max,IntKind.signed,IntKind.bits]using hw
 refine⟨rfl,UInt8.ofNat n.toNat,fun j hj=>?_⟩;obtain rfl:j=0:=by omega
 refine⟨_,rfl, ?_,rfl⟩
 have:(UInt8.ofNat n.toNat).toNat=n.toNat:=by
  rw[UInt8.toNat_ofNat'];omega
 rw[this];congr 1;omega
theorem Rd.co {n:Nat} {α β:Type} {c:α->Nat->PV} {c':β->Nat->PV} (h:Rd P t n c) (f:α->β) (hc:∀a j,j<n->CoP (c a j) (c' (f a) j)):Rd P t n c':=by
 intro H enc w sp held fuel cs x hx;obtain⟨h1,a,h2⟩:=h _ enc w sp held fuel cs x hx;refine⟨h1,f a,fun j hj=>?_⟩;obtain⟨v,h3,h4⟩:=h2 j hj;exact⟨v,h3,hc a j hj _ _ h4⟩
def azr{α:Type}[Inhabited α](s:Nat)(c:α->Nat->PV)(l:List α):Nat->PV:=fun _=>psl s c l
def awh{s:Nat}{α:Type}[Inhabited α]{c:α->Nat->PV}(ht:P.underlying t=some (.slice e))(hc:P.cellsOf e=s)(hs:0<s)(h:Rd P e s c):Rd P t 1 (azr s c):=by
 classical
 intro H enc w sp held fuel cs x hx
 rcases DataW.trod_slice ht hx with⟨rfl,_⟩|⟨a,len,cap,elems,rest,n,rfl,rfl,_,hb,hl,hm,hlen,hel,_,_⟩
 · refine ⟨rfl,[],fun j hj=>?_⟩
   obtain rfl:j=0:=by omega
   exact⟨_,rfl,none,0,rfl,bm1 _,bm3 _,(fun hh=>by cases hh),fun hh=>absurd hh (boj 0)⟩
 have each:∀i,i<len->∃q:α,∀j,j<s->∃v,w.cell? (a.add (i*s+j))=some v/\aq (ec w) (c q j) v:=by
  intro i hi;have h1:=hel i hi;rw[hc]at h1;rw[blz bpw]at h1;obtain⟨cs',h2,h3⟩:=Option.bind_eq_some_iff.1 h1;obtain⟨_,h4,h5⟩:=World.cells?_some h2;obtain⟨_,q,h6⟩:=h _ enc w sp held n cs' _ h3;refine⟨q,fun j hj=>?_⟩;obtain⟨v,h7,h8⟩:=h6 j hj;refine⟨v, ?_,h8⟩;have:=h5 j hj;rw[h7]at this;rw[<- this];congr 1;unfold Addr.add;by_cases hj0:j=0
  · subst hj0
    simp
  by_cases hi0:i*s=0
  · simp[hi0,hj0]
  have:¬(i*s+j=0):=by omega
  simp only[hj0,hi0,this,if_false];congr 1;omega
 refine⟨rfl,(List.range len).map fun i=>if hi:i<len then Classical.choose (each i hi)else default,fun j hj=>?_⟩;obtain rfl:j=0:=by omega
 refine⟨_,rfl,some a,cap,by simp,by simpa using hl,hm,(fun hh=>by cases hh),fun hn=>?_⟩;have hn:0<len:=by simpa using hn
 have hspot:a.spot=none:=by
  obtain⟨q,hq⟩:=each 0 hn;obtain⟨v,hv,_⟩:=hq 0 hs;have:a.add (0*s+0)=a:=by simp[Addr.add]
  rw[this]at hv;unfold World.cell? at hv;split at hv
  · split at hv
    · cases hv
    rename_i hsp;simpa using hsp
  cases hv
 refine⟨a.block,a.off, ?_,fun i j hi hj=>?_⟩
 · obtain ⟨b,o,spo⟩:=a
   simp only at hspot;subst hspot;rfl
 have hi:i<len:=by simpa using hi
 have hch:=Classical.choose_spec (each i hi);obtain⟨v,hv,hr⟩:=hch j hj;refine⟨v, ?_, ?_⟩
 · unfold World.cell? at hv
   have hblk:(a.add (i*s+j)).block=a.block:=by unfold Addr.add;split<;>rfl
   have hoff:(a.add (i*s+j)).off=a.off+(i*s+j):=by
    unfold Addr.add;split
    · rename_i h0;rw[h0];rfl
    rfl
   rw[hblk,hoff]at hv;unfold gw ec;split at hv
   · rename_i hb'
     rw[hb'];split at hv
     · cases hv
     exact hv
   cases hv
 have:lf c ((List.range len).map fun i=>if hi:i<len then Classical.choose (each i hi)else default) i j=c (Classical.choose (each i hi)) j:=by
  unfold lf;simp[List.getD,hi]
 rw[this];exact hr
def avr {H:Type} {enc:TypeId×Value->H} {w:World} {sp:Nat->Bool} {held:Bool} {fuel:Nat} {cs:List Value} {x:DataW H×List MemPlace} {fs:Array Field} (ht:P.underlying t=some (.struct fs)) (h:DataW.trod enc P w 0 sp held fuel t cs=some x) :
 cs.length=P.cellsOf t/\∃n,∀(i:Nat) (f:Field),fs[i]? = some f->∃y,DataW.trod enc P w 0 sp held n f.type ((cs.drop f.offset).take (P.cellsOf f.type))=some y:=by
 obtain⟨xs,n,_,_,h1,h2,h3⟩:=DataW.trod_struct ht h;refine⟨h1,n,fun i f hf=>?_⟩;have:=h3 i f hf;rw[this];have hi:i<xs.length:=by rw[h2];exact(bm5.1 hf).1
 exact⟨_,blz hi⟩
def aii {H:Type} {enc:TypeId×Value->H} {w:World} {sp:Nat->Bool} {held:Bool} {n off s:Nat} {ft:TypeId} {cs:List Value} {y:DataW H×List MemPlace} {α:Type} {c:α->Nat->PV} (h:Rd P ft s c) (hy:DataW.trod enc P w 0 sp held n ft ((cs.drop off).take (P.cellsOf ft))=some y) :
 ∃a:α,∀j,j<s->∃v,cs[off+j]? = some v/\aq (ec w) (c a j) v:=by
 obtain⟨h1,a,h2⟩:=h _ enc w sp held n _ y hy;refine⟨a,fun j hj=>?_⟩;obtain⟨v,h3,h4⟩:=h2 j hj;refine⟨v, ?_,h4⟩;rw[bnb]at h3;split at h3
 · rwa [bpo]at h3
 cases h3
end
def ags {W W':World} (hb:Below W.heap.size W W') (may:MemPlace->Prop):W.keptBut W' may:=by
 refine⟨hb.os,hb.output,fun i hi=>?_⟩;rw[hb.block i hi]
 cases W.heap[i]? with
 |none=>exact rfl
 |some o=>cases o<;>first|exact⟨rfl,rfl,rfl,fun _ _=>rfl⟩|exact .inr ⟨rfl,rfl⟩|exact rfl
def agw {W W':World} (hb:Below W.heap.size W W') (p:MemPlace) (hp:p.block<W.heap.size):W.sameAt W' p:=by
 cases p with
 |cell b off=>show W'.cell? _=W.cell? _;unfold World.cell?;rw[hb.block b hp]
 |map b=>exact hb.block b hp
section
variable {H:Type}{enc:TypeId×Value->H}{P:Program}
def a4a (hl:laidOutB P=true) {W W':World} {sp':Nat->Bool}:∀{ts:List TypeId} {vs:List Value} {ds:List (DataW H)} {ps:List MemPlace},(∀t∈ts,P.readableRec t=true/\t<P.types.size)->DataW.TrodAll enc P W 0 (fun _=>true) true ts vs ds ps ->
 (∀p∈ps,W.sameAt W' p)->(∀p∈ps,sp' p.block=true)->DataW.TrodAll enc P W' 0 sp' true ts vs ds ps
 | [],[],[],ps,_,h,_,_=>h
 | t::ts,v::vs,d::ds,ps,ht,⟨p,q,h1,h2,e⟩,hs,hsp=>by
  subst e;refine⟨p,q,WideElems.Trod_stays hl (ht t bpz).1 (ht t bpz).2 h1 (fun z hz=>hs z (by simp[hz])) (fun z hz=>hsp z (by simp[hz])), ?_,rfl⟩;exact a4a hl (fun t ht'=>ht t (by simp[ht'])) h2 (fun z hz=>hs z (by simp[hz])) (fun z hz=>hsp z (by simp[hz]))
 | [],_::_,_,_,_,h,_,_=>h.elim
 | [],[],_::_,_,_,h,_,_=>h.elim
 |_::_,[],_,_,_,h,_,_=>h.elim
 |_::_,_::_,[],_,_,h,_,_=>h.elim
def azj{f:Func}{s:ChangeSpec}{W W':World}{args:Array Value}{ds:List (DataW H)}{before:List MemPlace}{tb:TypeId}(hl:laidOutB P=true)(hpar:∀t∈f.params.toList,P.readableRec t=true/\t<P.types.size)
 (hres:f.resultTypes=#[tb]) (htb:P.underlying tb=some .bool) (hv:s.vars=[]) (hfn:s.fn H ds={ results:=[.lit (.bool true)],args:=ds })
 (hW:DataW.Whole enc P f.params.toList s.vars false W args.toList ds [] before) (hb:Below W.heap.size W W'):s.post enc P f false true false false W args (.bool true) W':=by
 have hW':=hW;have hlt:∀p∈before,p.block<W.heap.size:=fun p hp=>hW.lt p hp;obtain⟨p,q,hA,hV,rfl,hfz,hnd⟩:=hW;rw[hv]at hV;obtain⟨_,rfl⟩:=trodVars_none hV;have hfn':s.fn H (ds++[])={ results:=[.lit (.bool true)],args:=ds }:=by rw[bmv];exact hfn
 have hargs:∀sp:Nat->Bool,(∀z∈p++[],sp z.block=true)->DataW.TrodAll enc P W' 0 sp true f.params.toList args.toList (s.fn H (ds++[])).args p:=fun sp hsp=>by
  rw[hfn'];exact a4a hl hpar hA (fun z hz=>agw hb z (hlt z (by simpa using hz))) (fun z hz=>hsp z (by simpa using hz))
 have hrs:∀(b:Nat) (sp:Nat->Bool) (hd:Bool),DataW.TrodAll enc P W' b sp hd f.resultTypes.toList ((Value.bool true).resultList f.resultTypes.size) (s.fn H (ds++[])).results []:=fun b sp hd=>by
  rw[hfn',hres];exact trodAll_cons_mk (shut_bool htb _) trodAll_mk0
 have hok:∀(j:Nat) (t:TypeId) (r:Value),f.resultTypes[j]? = some t->((Value.bool true).resultList f.resultTypes.size)[j]? = some r->Value.okWide P W' .any 0 t r:=ok_one hres rfl (okWide_bool_mk htb _)
 have hvars:∀sp:Nat->Bool,(∀z∈p++[],sp z.block=true)->DataW.TrodVars enc P W' sp s.vars (s.fn H (ds++[])).vars []:=fun sp _=>by
  rw[hfn',hv];exact rfl
 have hold:∀z∈p++[],(fun b=>decide (b<W.heap.size)) z.block=true:=fun z hz=>by simpa using hlt z hz
 refine⟨ds,[],p++[],[],p,[],hW',hrs _ _ _,hargs _ hold,hvars _ hold,World.keptBut_mono (fun z hz=>⟨hz, ?_⟩) (ags hb (·∈p++[])),fun _=>?_⟩
 · exact Or.inr (by simpa using hz)
 refine⟨hok,_,_,([]++p)++[],⟨[]++p,[],trodAll_append (hargs _ (fun _ _=>rfl)) (hrs _ _ _),hvars _ (fun _ _=>rfl),rfl, ?_, ?_⟩, ?_⟩
 · intro b off hp
   have hp':MemPlace.cell b off∈p++[]:=by simpa using hp
   have:=hfz b off hp';unfold World.frozen? at this ⊢;rw[hb.block b (hlt _ hp')];exact this
 · intro ha;cases ha
 intro z hz _;simpa using hz
end
def avb {P:Program} {f:FuncId} {args:List PC} {us:List Value} {W:World} {R:Ending->World->Prop} (ht:qs (ec W)) (h:a7 P f args (af [.one (.raw (.bool true))])) (hr:bz (ec W) args us) (hR:∀W',Below W.heap.size W W'->R (.returned (.bool true)) W'):Calls P f us.toArray W R:=by
 refine(h W (ec W) us ht (fun _ _ hh=>hh) hr).mono ?_;rintro e w' ⟨v,imm',rfl,hv,_,_,hb⟩;obtain⟨rfl,_⟩:=hv;exact hR w' hb
end
end Go.Hx
