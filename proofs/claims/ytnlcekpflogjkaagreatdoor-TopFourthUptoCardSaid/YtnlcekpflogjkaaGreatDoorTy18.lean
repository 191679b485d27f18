/- A part of the proof: Hx24 Cs17 V15 Cs18 Cs19 Hx20 Cs20 Cs21 Cs22 Cs23 Hx21. -/
import Derived.ChangeArms
import Derived.OpenShut
import Derived.ProofKit
import Derived.WalkKit
import Derived.WideKeyArgs
import Derived.Test.YtnlcekpflogjkaaGreatDoorTy17
set_option linter.all false
set_option maxRecDepth 100000
namespace Go.Hx
section
open Go.RowKit
section
variable {w0:World}{nt:Nat}{c:Ctx}{s:S}{a:Act}{w:World}
def ah.short(h:ah w0 nt c s a w){id id' sz n m:Nat}{el:TypeId}{f:Nat->Nat->PV}(ho:s.o id=some (.arr true sz el n f))(hm:m<=n)(hnm:NM s id')(hno:s.o id'=none){u:Value}(hu:bj c s.o (.win id n 0 m) u) :
 ∃c',c'.old=c.old/\ah w0 nt c' ((s.setO id none).setO id' (some (.arr true sz el m f))) a w/\ar c' ((s.setO id none).setO id' (some (.arr true sz el m f))).o (.v (.one (.ref id' m))) u:=by
 have hne:id≠id':=fun e=>by rw[<- e,ho]at hno;cases hno
 obtain⟨ad,ad',cap,q1,q2,q3,q4,q5,q6⟩:=zc hu ho rfl;obtain⟨h0,h1,h5⟩:=h.objs id _ ho
 have hold:∀k ob,((s.setO id none).setO id' (some (.arr true sz el m f))).o k=some ob->k≠id'->s.o k=some ob/\k≠id:=fun k ob hk hk'=>by
  simp only[S.setO,if_neg hk']at hk;by_cases hki:k=id
  · subst hki;simp at hk
  rw[if_neg hki]at hk;exact⟨hk,hki⟩
 obtain ⟨bk,hbk,hok⟩:∃bk:Nat->Prop,(∀b,bk b->c.blk id b)/\∀c':Ctx,c'.imm=c.imm->c'.own id'=u->c'.blk id'=bk->∀o':au,eg 0 c' o' w id' (.arr true sz el m f):=by
  rcases h5 with⟨h6,xs,h2,h4⟩|⟨h6|h6,h7,h8⟩
  · obtain ⟨hxl,hrow⟩:=h2
    rcases hrow with⟨hv0,hz⟩|⟨g,cap',cur,hown,hbase,hheap,hnc,hcm,hcs,htake⟩
    · rw [hv0]at q1
      simp only[Value.slice.injEq]at q1;obtain⟨rfl,_,rfl⟩:=q1;obtain rfl:n=0:=by omega
      obtain rfl:m=0:=by omega
      refine⟨noB,fun b hb=>hb.elim,fun c' e1 e2 e3 o'=>⟨h0,bsx _, .inr ⟨.inr rfl,e3, ?_⟩⟩⟩;rw[e2,q2];exact⟨ad',0,rfl,bsw _,bsx _,fun _=>rfl,fun h=>absurd h (bvd 0)⟩
    rw[hown]at q1;simp only[Value.slice.injEq,true_and]at q1;obtain⟨rfl,rfl⟩:=q1;by_cases hcap:cap'=0
    · subst hcap
      obtain rfl:m=0:=by omega
      refine⟨noB,fun b hb=>hb.elim,fun c' e1 e2 e3 o'=>⟨h0,bsx _, .inr ⟨.inr rfl,e3, ?_⟩⟩⟩;rw[e2,q2];exact⟨ad',0,rfl,bsw _,bsx _,fun _=>rfl,fun h=>absurd h (bvd 0)⟩
    obtain rfl:=q6 bww;simp only[btr,dm,Nat.zero_mul,bur,Nat.sub_zero]at q2;have hmul:m*sz<=n*sz:=bt9 _ hm;refine⟨ew u,fun b hb=>by rw[h6,hown];rw[q2]at hb;exact hb,fun c' e1 e2 e3 o'=>⟨h0,btc hm h1, .inl ⟨by rw[e2,e3],xs.take (m*sz),⟨by rw[bt4,hxl,btz hmul], .inr ⟨g,cap',cur,by rw[e2,q2],hbase,hheap,by omega,hcm,hcs, ?_⟩⟩,fun i j hi hj=>?_⟩⟩⟩
    · rw[<- htake,List.take_take,btz hmul]
    obtain⟨x,hx,hr⟩:=h4 i j bww hj;refine⟨x, ?_,by rw[e1];exact hr⟩;rw[btx,if_pos (a9o hi hj)];exact hx
  · cases h6
  subst h6;obtain rfl:m=0:=by omega
  refine⟨noB,fun b hb=>hb.elim,fun c' e1 e2 e3 o'=>⟨h0,bsx _, .inr ⟨.inr rfl,e3, ?_⟩⟩⟩;obtain⟨ad2,cap2,r1,r2,r3,r4,_⟩:=h8;rw[q1]at r1;simp only[Value.slice.injEq,true_and]at r1;obtain⟨rfl,rfl⟩:=r1;obtain rfl:cap=0:=r4 rfl;rw[e2,q2];exact⟨ad',0,rfl,bsw _,bsx _,fun _=>rfl,fun h=>absurd h (bvd 0)⟩
 have hevo:∀k,k≠id'->Evo c s.o { c with own:=fun k=>if k=id' then u else c.own k,blk:=fun k=>if k=id' then bk else c.blk k } ((s.setO id none).setO id' (some (.arr true sz el m f))).o k:=fun k hk=>by
  by_cases hki:k=id
  · subst hki
    exact .inl (by simp[S.setO,hk])
  exact Evo.of_same (by simp[S.setO,hk,hki]) (by simp[hk])
 refine⟨{ c with own:=fun k=>if k=id' then u else c.own k,blk:=fun k=>if k=id' then bk else c.blk k },rfl,⟨h.defers,h.size,h.below,fun d x hx=>?_,fun k ob hk=>?_,fun i i' obi obi' b hi hi' hb hb'=>?_,h.imm,fun k ob b hk hb=>?_,h.was,h.frm,fun k ob b hk hb=>?_,fun k hk=>?_⟩, ?_⟩
 · exact(h.tmps d x hx).evo (Imm.le.refl c.imm) fun k hkm=>hevo k (by rintro rfl;exact hnm.1 d x hx hkm)
 · by_cases hk':k=id'
   · subst hk'
     obtain rfl:ob=.arr true sz el m f:=by simpa [S.setO]using hk.symm
     refine hok _ ?_ ?_ ?_ _<;>first|rfl|exact if_pos rfl
   obtain⟨hk1,hk2⟩:=hold k ob hk hk';exact(h.objs k ob hk1).keep (Imm.le.refl c.imm) (by simp[hk']) (by simp[hk']) (fun j hj=>hevo j (by rintro rfl;exact hnm.2.1 k ob hk1 hj)) fun b _=>rfl
 · have hone:∀k ob b,k≠id'->((s.setO id none).setO id' (some (.arr true sz el m f))).o k=some ob->c.blk k b->bk b->False:=fun k ob b hk' hk hb hbb=>by
    obtain⟨hk1,hk2⟩:=hold k ob hk hk';exact hk2 (h.inj k id ob _ b hk1 ho hb (hbk b hbb))
   by_cases e1:i=id'
   · by_cases e2:i'=id'
     · rw[e1,e2]
     exact(hone i' obi' b e2 hi' (by simpa [e2]using hb') (by simpa [e1]using hb)).elim
   by_cases e2:i'=id'
   · exact(hone i obi b e1 hi (by simpa [e1]using hb) (by simpa [e2]using hb')).elim
   exact h.inj i i' obi obi' b (hold i obi hi e1).1 (hold i' obi' hi' e2).1 (by simpa [e1]using hb) (by simpa [e2]using hb')
 · by_cases hk':k=id'
   · exact h.sep id _ b ho (hbk b (by simpa [hk']using hb))
   exact h.sep k ob b (hold k ob hk hk').1 (by simpa [hk']using hb)
 · by_cases hk':k=id'
   · exact h.fsep id _ b ho (hbk b (by simpa [hk']using hb))
   exact h.fsep k ob b (hold k ob hk hk').1 (by simpa [hk']using hb)
 · exact(h.fixed k hk).trans (hevo k (by have:=hnm.2.2;omega))
 refine⟨hu.1,fun l=>by simp[S.setO],fun ob2 s2 e2 n2 ho2 hd2=>?_⟩;simp only[S.setO,if_true,bst]at ho2;subst ho2;simp only[a7.dim,bst,bt2]at hd2;obtain⟨rfl,rfl,rfl⟩:=hd2;exact⟨bsw _,fun _=>by simp⟩
end
section
variable {ro:Option Nat}{P:Program}{nt:Nat}{st:HSt}{Q:Exit->HSt->Prop}
def aon {c:Code} (d id2:Nat) {id n n' i m s:Nat} {e:TypeId} {f:Nat->Nat->PV} (hd:ay st.t d=some (.v (.one (.win id n i m)))) (ho:ay st.o id=some (.arr true s e n' f)) (hn:n'=n) (hi:i=0) (hm:m<=n) (hnew:jp id2 st=true)
 (h:HW (ro:=ro) P nt c ⟨(d,some (.v (.one (.ref id2 m))))::st.t,(id2,some (.arr true s e m f))::(id,none)::st.o⟩ Q):HW (ro:=ro) P nt c st Q:=by
 subst hn hi;obtain⟨hnm,hno⟩:=ek hnew;refine ve ⟨st.t,(id2,some (.arr true s e m f))::(id,none)::st.o⟩ d (.v (.one (.ref id2 m))) (fun w0 m0 a w hr=>?_) h;obtain⟨cc,hold,hrr⟩:=hr;obtain⟨c',e1,e2,e3⟩:=hrr.short ho hm hnm hno (hrr.tmps d _ hd)
 have e4:(HSt.den ⟨st.t,(id2,some (.arr true s e m f))::(id,none)::st.o⟩)=(st.den.setO id none).setO id2 (some (.arr true s e m f)):=by
  unfold HSt.den S.setO;simp[aw]
 exact⟨c',e1.trans hold,by rw[e4];exact e2,by rw[e4];exact e3⟩
def xq {c:Code} (d id2:Nat) {id n n' s:Nat} {e:TypeId} {f:Nat->Nat->PV} (hd:ay st.t d=some (.v (.one (.ref id n)))) (ho:ay st.o id=some (.arr true s e n' f)) (hn:n'=n) (hnew:jp id2 st=true)
 (h:HW (ro:=ro) P nt c ⟨(d,some (.v (.one (.ref id2 n))))::st.t,(id2,some (.arr true s e n f))::(id,none)::st.o⟩ Q):HW (ro:=ro) P nt c st Q:=by
 subst hn;obtain⟨hnm,hno⟩:=ek hnew;refine ve ⟨st.t,(id2,some (.arr true s e n' f))::(id,none)::st.o⟩ d (.v (.one (.ref id2 n'))) (fun w0 m0 a w hr=>?_) h;obtain⟨cc,hold,hrr⟩:=hr;have hu:bj cc st.den.o (.ref id n') (a.tmps.getD d undef):=hrr.tmps d _ hd
 have hw:bj cc st.den.o (.win id n' 0 n') (a.tmps.getD d undef):=by
  refine⟨hu.1,hu.2.1,fun ob s2 e2 n2 ho2 hd2=>⟨(hu.2.2 _ _ _ _ ho2 hd2).1,fun hk=>?_⟩⟩;have he:=(hu.2.2 _ _ _ _ ho2 hd2).2 hk;obtain rfl:ob=.arr true s e n' f:=Option.some.inj (ho2.symm.trans ho);simp only[a7.dim,bst,bt2]at hd2;obtain⟨rfl,rfl,rfl⟩:=hd2;obtain⟨ad,cap,hv,hc1,hc2⟩:=zf (hrr.objs _ _ ho2);exact⟨ad,ad,cap,hv,by rw[he,hv];rfl,by omega,hc1,hc2,fun _=>by cases ad<;>simp[pg]⟩
 obtain⟨c',e1,e2,e3⟩:=hrr.short ho (bsw _) hnm hno hw
 have e4:(HSt.den ⟨st.t,(id2,some (.arr true s e n' f))::(id,none)::st.o⟩)=(st.den.setO id none).setO id2 (some (.arr true s e n' f)):=by
  unfold HSt.den S.setO;simp[aw]
 exact⟨c',e1.trans hold,by rw[e4];exact e2,by rw[e4];exact e3⟩
end
end
section
def apl {l:List AS} {k:Nat} (hk:l.length<=k) (h:∀j,0<j->j<k->¬l.getD j default=l.getD (j-1) default):gi l=l:=by
 have:=qc (bsw l.length) fun j h1 h2=>h j h1 bww;rw[bt6]at this;exact this
def ajw {l m:List AS} {k p q:Nat} (hC:CpI l k p q m) (hq:¬q<l.length):(gi l).length=p/\m.take p=gi l:=by
 have e:=hC.pre;have h1:=hC.ql;have h2:=hC.len;have h3:=hC.pq;rw[show q=l.length by omega,bt6]at e;exact⟨by rw[<- e];simp;omega,e⟩
def bak {l m:List AS} {k p q n a d:Nat} {z:List Value} {e:TypeId} (hC:CpI l k p q m) (hq:¬q<l.length) (ha:p<=a) (hn:n=p):CoO (.arr true 1 e n (o5 (lf sC m) a d z)) (.arr true 1 e (gi l).length (lf sC (gi l))):=by
 obtain⟨h1,h2⟩:=ajw hC hq;subst hn;refine⟨fun h=>h,rfl,rfl,h1,fun i j hi hj=>CoP.of_eq ?_⟩;show o5 (lf sC m) a d z i j=lf sC (gi l) i j;unfold o5;rw[if_neg bww];simp only[lf,List.getD];have e:(gi l)[i]? = m[i]?:=by rw[<- h2,btx,if_pos hi]
 rw[e]
def fb{id n m:Nat}(h:n=m):CoR (.v (.one (.ref id n))) (.v (.one (.ref id m))):=by rw[h];exact CoR.refl _
end
section
open Go.Proofs
def b27(l:List AS):d9 bxn 171 [.one (.ref 900 l.length)] [(900, .arr true 1 50 l.length (lf sC l))] (.v (.one (.ref 901 (gi l).length))) [(901, .arr true 1 50 (gi l).length (lf sC (gi l)))] []:=by
 refine hfx (nt:=61) Tryz.func171 ?_;refine d5 ?_;refine aa5 900 rfl fun hlen=>?_;refine da ?_;refine hcd ?_ ?_<;>intro h0
 · refine w_5 ?_;refine xq 2 901 rfl rfl rfl rfl ?_;refine hrr ?_;have he:=apl (l:=l) (k:=l.length) (bsw _) (fun j h1 h2=>by omega);exact⟨_,_,rfl,bwy,fb (by rw[he]),⟨⟨_,rfl,jw he (by rw[he])⟩,trivial⟩⟩
 refine w_7 ?_;refine ai (ι:=Nat) (ka 0 kn) (kb 900 km) (fun k=>⟨[(3,some (vI k))],[]⟩) (fun k=>1<=k/\k<=l.length/\∀j,0<j->j<k->¬l.getD j default=l.getD (j-1) default) (fun k=>l.length-k) (1) (⟨bsw _,by omega,fun j h1 h2=>by omega⟩) kk ?_;rintro k ⟨hk1,hk,hI⟩;refine w_8 ?_;refine hcd ?_ ?_<;>intro h1
 ·
  refine sv ?_;refine hcd ?_ ?_<;>intro h2
  ·
   refine jo ?_;refine ai (ι:=Nat×Nat×List AS) (ka 0 (ka 4 kn)) km (fun x=>⟨[(3,some (vI x.1)),(5,some (vI ((x.2.1:Int)-k)))],[(900,some (.arr true 1 50 l.length (lf sC x.2.2)))]⟩) (fun x=>CpI l k x.1 x.2.1 x.2.2) (fun x=>l.length-x.2.1) ((k,k+1,l)) (CpI.start hk1 bww hI (zh bwx rfl bww)) ⟨⟨zy,⟨_,rfl,(coi bwz)⟩,trivial⟩,uu⟩ ?_;rintro⟨p,q,m⟩ hC;have hC0:=hC;obtain⟨hml,hkq,hpq,hql,_,_⟩:=hC0;dsimp only at hC hml hkq hpq hql;refine w_8 ?_;refine hcd ?_ ?_<;>intro h3
   ·
    simp only[dv,b7,bt8]at h3;refine sv ?_;refine hcn ?_ ?_<;>intro h4
    ·
     refine a5y ?_
     first | (refine lpz (p+1, q+1, m.set p (m.getD q default)) ⟨⟨⟨_, rfl, (coi bx1)⟩, ⟨_, rfl, (coi bx1)⟩, tt⟩, ⟨⟨_, rfl, (pl id hml.symm bww bxf bx4)⟩, trivial⟩⟩ ?_; exact hC.keep bww (za bwx bx4 bx4))
           |(refine lpz (p,q+1,m) ⟨⟨⟨_,rfl,(coi bwz)⟩,⟨_,rfl,(coi bwz)⟩,tt⟩,uu⟩ ?_;exact hC.skip bww (zh bwx bx6 bx6))
    refine w_6 ?_
    first | (refine lpz (p+1, q+1, m.set p (m.getD q default)) ⟨⟨⟨_, rfl, (coi bx1)⟩, ⟨_, rfl, (coi bx1)⟩, tt⟩, ⟨⟨_, rfl, (pl id hml.symm bww bxf bx4)⟩, trivial⟩⟩ ?_; exact hC.keep bww (za bwx bx4 bx4))
          |(refine lpz (p,q+1,m) ⟨⟨⟨_,rfl,(coi bwz)⟩,⟨_,rfl,(coi bwz)⟩,tt⟩,uu⟩ ?_;exact hC.skip bww (zh bwx bx6 bx6))
   simp only[dv,b7,bt8]at h3;refine w_6 ?_;refine r9 0 true ?_;refine w_8 ?_;refine aon 2 901 rfl rfl rfl rfl (by simp only[dv,b7,bt8];omega) rfl ?_;refine hrr ?_;have he:=(ajw hC bww).1;exact⟨_,_,rfl,bwy,fb (by rw[he];simp[dv,b7]),⟨⟨_,rfl,bak hC bww (by simp[b7]) (by simp[dv,b7])⟩,trivial⟩⟩
  refine w_6 ?_;refine lpz (k+1) kk ?_;refine⟨by omega,by show k+1<=_;omega,fun j h1 h2=>?_⟩
  rcases bvr (bvv h2)with h|h
  · exact hI j h1 h
  subst h;exact za bwx rfl bww
 refine w_6 ?_;refine xq 2 901 rfl rfl rfl rfl ?_;refine hrr ?_;have he:=apl (l:=l) (k:=k) bww hI;exact⟨_,_,rfl,bwy,fb (by rw[he]),⟨⟨_,rfl,jw he (by rw[he])⟩,trivial⟩⟩
def bb8 (l:List AS) (hl:l.length<=8589934592):d9 bxn 115 [.one (.p (asl l))] [] (.v (.one (.ref 901 (ord l).length))) [(901, .arr true 1 50 (ord l).length (lf sC (ord l)))] []:=by
 refine hfx (nt:=10) Tryz.func115 ?_;refine w_7 ?_;refine fc9 aph (agk l.length false (lf sC l) bww) trivial ?_;refine w_5 ?_;refine fc9 atb (b99 0 _ l hl) uu ?_;refine w_4 ?_;refine j7 rfl rfl rfl rfl rfl rfl (wgx Tryz.func171) ((b27 (srt l)).swap 900 0) (⟨congrArg (HV.ref 0) (a9b l).symm,trivial⟩) ⟨⟨_,rfl,jw rfl (a9b l).symm⟩,trivial⟩ rfl rfl ?_;refine w_2 ?_;refine hrr ?_;exact⟨_,_,rfl,bwy,fb (by rw[a5h]),⟨⟨_,rfl,jw (a5h _).symm (by rw[a5h])⟩,trivial⟩⟩
end
section
def bgk(l:List Fd)(p:AS):Int:=if cb 16 l=0 then(if 8<bsz p then 3 else if p>>>16=0 then 0 else 1)else cb 16 l
def bsh(l:List Fd)(p:AS):Fd:=if bgk l p=0 then al3 l p else⟨0,0⟩
def br9(l:List Fd)(p:AS):Bool:=decide (bgk l p=0)&&yo l p
def bcP(n:Int)(l:List Fd)(f:Fd):Bool:=decide (f.rhs&&&~~~f.lhs≠0)&&decide (clo l f.lhs≠aa n)
def bcS(n:Int)(l:List Fd):Bool:=decide (cb n l=0)&&!l.any (bcP n l)
def ax2(n:Int)(l:List Fd):List AS:=if abr n l 8=0 then(c8 (aa n)).filter fun s=>!yo l s else[]
end
section
def b8c(l:List Fd)(p z:AS):AS:=(p&&&clo l (z&&&p))&&&~~~z
def bm7(l:List Fd)(z p:AS):Bool:=decide (b8c l p z≠0)
def b4l (l:List Fd) (ps:List AS):Nat->AS->AS
 |0,z=>z
 | n+1,z=>match ps.find? (bm7 l z) with
  |none=>z
  |some p=>b4l l ps n (z|||b8c l p z)
def b7i(l:List Fd)(ps:List AS)(z:AS):AS:=b4l l ps 4294967297 z
def axa(l:List Fd)(ps:List AS)(f:Fd):Bool:=decide (sub f.rhs (b7i l ps f.lhs))
def bs7(l:List Fd)(ps:List AS)(z0:AS)(x:Nat×List Nat×AS):Prop:=b4l l ps x.1 x.2.2=b7i l ps z0/\4294967296<x.1+x.2.2.toNat/\x.2.1.length+x.1=4294967297
def bqs(l:List Fd)(ps:List AS)(i:Nat):List Nat:=(List.range i).filter fun j=>!axa l ps (l.getD j default)
def b5e(l:List Fd)(ps:List AS):Bool:=(List.range l.length).all fun j=>axa l ps (l.getD j default)
end
section
open Go.RowKit
def br2 (P:Program) (g:FuncId) (caps:List PC) (n:Nat) (xs:Nat->List PC):Prop :=
 ∀ (imm:Imm) (_:vq imm) (us:List Value) (W:World) (l:Nat) (J:Nat->World->Prop),d8 imm caps us ->
  (∀i A,J i A->∀b ob,imm b=some ob->A.heap[b]? = some ob) ->
  (∀i A A',J i A->Below A.heap.size A A'->J i A') ->
  (∀i A vs,i<n->J i A->d8 imm (xs i) vs->YieldAt (rf none) 0 P l vs.toArray A fun e A'=>e=.returned (.bool true)/\J (i+1) A') ->
  J 0 W->CallsIn (rf none) 0 P g (#[.func (.yield l) #[] #[]]++us.toArray) W fun e W'=>(∃v,e=.returned v)/\J n W'
section
variable {P:Program}{nt:Nat}{c:Ctx}{s:S}{a:Act}{w w0:World}
end
def bh9 (r:Nat->Nat):List (Nat×Option HR)->List (Nat×Option HR)
 | []=>[]
 |(d,some x)::l=>(d,some (x.ren r))::bh9 r l
 |(d,none)::l=>(d,none)::bh9 r l
def rgB (r:Nat->Nat) (T:List (Nat×Option HR)) (o1 o2:List (Nat×a7)) (fx:List Nat):Bool :=
 (fx.all fun id=>Nat.ble 1000 (r id))&&((keys o2).all fun id=>(wg fx id&&wg (keys o1) id)||(Nat.blt id 1000&&nmT id T))&&(adj o2).all (wg (keys o2))
def brl(P:Program)(nt l:Nat)(body:Code)(Q:HSt->Prop)(e:Exit)(st:HSt):Prop:=e=.normal/\HW (ro:=some l) P nt body st fun e st=>e=.normal/\Q st
section
variable {P:Program}{E:Env}{nt:Nat}{ops:Array Oper}{i:Nat}{o:Oper}{Q:Exit->Act->World->Prop}{a:Act}{A:World}{imm:Imm}
def bhc(d:Option Tmp)(x:HR)(t:List (Nat×Option HR)):List (Nat×Option HR):=match d with|some d=>(d,some x)::t|none=>t
class TabC (imm:Imm):Prop where
 ok:vq imm
def cI(imm:Imm)(A:World)[ht:TabC imm]:Ctx:={ old:=(imm,fw A,(fun _=>undef),(fun _=>none),fun _ _=>undef),imm:=imm,tab:=ht.ok,own:=fun _=>undef,blk:=fun _=>noB,rows:=fun _ _=>undef }
variable [TabC imm]
structure It (imm:Imm) [TabC imm] (nt:Nat) (t:List (Nat×Option HR)) (a:Act) (A:World):Prop where
 defers:a.defers=[]
 rel:ah A nt (cI imm A) ⟨ay t,fun _=>none⟩ a A
section
variable {t:List (Nat×Option HR)}
theorem It.sub {t':List (Nat×Option HR)} (h:It imm nt t a A) (hs:sj t' t):It imm nt t' a A :=
 ⟨h.defers,h.rel.relax ⟨ay t',fun _=>none⟩ (fun d x hx=>a1w hs d x hx) (fun id ob ho=>by cases ho)⟩
theorem It.move {A':World} (h:It imm nt t a A) (hi:∀b ob,imm b=some ob->A'.heap[b]? = some ob):It imm nt t a A':=by
 refine⟨h.defers,by rw[h.defers];exact th.nil _ _ _ _,h.rel.size,Below.refl _ _,fun d x hx=>?_,(fun id ob ho=>by cases ho),(fun i i' ob ob' b ho=>by cases ho),hi,(fun id ob b ho=>by cases ho),fun b _=>rfl,fun b ob hb=>hb,(fun id ob b ho=>by cases ho),fun id _=>.inl rfl⟩;exact ar.evo (c:=cI imm A) (o:=fun _=>none) (Imm.le.refl imm) (fun _ _=>.inl rfl) (h.rel.tmps d x hx)
theorem It.put (h:It imm nt t a A) {d:Option Tmp} (hd:d6 nt d=true) (x:HR) (v:Value) (hx:ar (cI imm A) (fun _=>none) x v):It imm nt (bhc d x t) (a.put d v) A:=by
 cases d with
 |none=>exact h
 | some d =>
  have:=h.rel.put d (of_decide_eq_true hd) (some x) v (fun y hy=>by cases hy;exact hx);refine⟨h.defers, ?_⟩
  have e:(S.put ⟨ay t,fun _=>none⟩ d (some x))=⟨ay ((d,some x)::t),fun _=>none⟩:=by
   unfold S.put;simp[aw]
  rw[e]at this;exact this
def bb1(h:It imm nt t a A){x:Operand}{r:HR}(hx:ev ⟨ay t,fun _=>none⟩ x=some r):ar (cI imm A) (fun _=>none) r (a.eval x):=af h.rel hx
def iy {L:List Nat} {cl:Call} {f:Operand} {l:Nat} {R:World->Prop} (h:It imm nt t a A) (hi:ops[i]? = some o) (hw:be ops ⟨ay t,fun _=>none⟩ o=some true) (hd:d6 nt o.dst=true) (ho:o.op=.call cl) (hcl:cl.callee=.value f) (hf:ev ⟨ay t,fun _=>none⟩ f=some (bp (.raw (.func (.yield l) #[] #[])))) (hy:YieldAt (rf none) 0 P l (cl.args.toList.map a.eval).toArray A fun e A'=>e=.returned (.bool true)/\R A') (him:∀A',R A'->∀b ob,imm b=some ob->A'.heap[b]? = some ob) (hK:∀a' A',R A'->It imm nt (bhc o.dst (bp (.raw (.bool true))) t) a' A'->wpOpsIn (rf none) 0 P ops Q L a' A'):wpOpsIn (rf none) 0 P ops Q (i::L) a A:=by
 rw[wpOpsIn_cons];unfold wpOpIn;simp only[hi];rw[if_pos (fc h.rel hw)];obtain⟨fn,tmps,assign,body,hyr,hround⟩:=hy;have hfe:a.eval f=.func (.yield l) #[] #[]:=(bb1 h hf).1;refine⟨fun _ _=>trivial, ?_⟩;have hsem:Oper.semAt (rf none).round a.eval o=execOp a.eval o:=rfl;rw[hsem];have hma:(cl.args.toList.map a.eval).toArray=cl.args.map a.eval:=by apply Array.toList_inj.1;rw[bvp]
 rw[hma]at hyr
 have hrun:(execOp a.eval o).run P A=.ok (.round l fn tmps assign body) A:=by
  simp only[execOp,ho,resolve,hcl,hfe,bu3,Deferred.ofValue,buh,bth,invoke];simpa using hyr
 rw[hrun,Oper.uponIn_round];refine⟨fun hh=>absurd hh (by simp[rf]),hround.mono ?_⟩;rintro e A' ⟨rfl,hR⟩;exact hK _ A' hR ((h.move (him A' hR)).put hd (bp (.raw (.bool true))) (.bool true) ⟨rfl,rfl⟩)
end
end
theorem CoP.vp {k k':Nat} {f f':Nat->PV} (hk:k'=k) (hf:∀j,j<k->CoP (f j) (f' j)):CoP (.vp k f) (.vp k' f'):=by
 subst hk;rintro m u ⟨b,off,rfl,h⟩
 exact ⟨b,off,rfl,fun j hj=>by
  obtain⟨x,hx,hr⟩:=h j hj
  exact⟨x,hx,hf j hj m x hr⟩⟩
theorem CoP.fn {g:FuncId} {k k':Nat} {f f':Nat->PV} (hk:k'=k) (hf:∀j,j<k->CoP (f j) (f' j)):CoP (.fn g k f) (.fn g k' f'):=by
 subst hk;rintro m u ⟨cs,rfl,hl,h⟩
 exact ⟨cs,rfl,hl,fun j hj=>by
  obtain⟨x,hx,hr⟩:=h j hj
  exact⟨x,hx,hf j hj m x hr⟩⟩
def RN (P:Program) (nt:Nat) (ops:Array Oper) (L:List Nat) (st:HSt) (Q:HSt->Prop):Prop :=
 ∀(ro:Option Nat) (n:Nat) w0 m0 a w (QQ:Exit->Act->World->Prop),Rel w0 m0 nt st.den a w->(∀st' a' w',Q st'->Rel w0 m0 nt st'.den a' w'->QQ .normal a' w')->wpOpsIn (rf ro) n P ops QQ L a w
section
variable {P:Program}{E:Env}{nt:Nat}{ops:Array Oper}{st:HSt}
def ab0 (hE:d7 P E) {ro:Option Nat} {n:Nat} {w0:World} {m0:Old} {sf:S} {L2:List Nat} {QQ:Exit->Act->World->Prop} (hQ:∀a' w',Rel w0 m0 nt sf a' w'->wpOpsIn (rf ro) n P ops QQ L2 a' w') :
 ∀(T:List Tr) (s:S) (a:Act) (w:World),nk P E nt ops T s sf->Rel w0 m0 nt s a w->wpOpsIn (rf ro) n P ops QQ (T.map (·.i)++L2) a w
 | [],s,a,w,hT,hr=>by
  cases hT;exact hQ _ _ hr
 | t::T,s,a,w,hT,hr=>by
  cases hT with
  |cons hi he hR hO hF hrest =>
  rw[buf,but,wpOpsIn_cons];exact a7b hE he hr hi fun a' w' hr'=>ab0 hE hQ T _ a' w' hrest hr'
section
variable {Q:HSt->Prop}
def f0 (hE:d7 P E) {L1 L2:List Nat} (h:Reg P E nt ops L1 st fun _ sf=>RN P nt ops L2 sf Q):RN P nt ops (L1++L2) st Q:=fun ro n w0 m0 a w QQ hr hQ=>by
 obtain⟨T,sf,hl,hT,h⟩:=h;rw[<- hl];exact ab0 hE (fun a' w' hr'=>h ro n w0 m0 a' w' QQ hr' hQ) T _ a w hT hr
def jv(h:Q st):RN P nt ops [] st Q:=fun ro n w0 m0 a w QQ hr hQ=>hQ st a w h hr
def yt {L:List Nat} (h:HE nt st fun st'=>RN P nt ops L st' Q):RN P nt ops L st Q:=fun ro n w0 m0 a w QQ hr hQ=>by
 obtain⟨st',h1,h2⟩:=h w0 m0 a w hr;exact h1 ro n w0 m0 a w QQ h2 hQ
def f8 {ro:Option Nat} {Q:Exit->HSt->Prop} {id:Nat} (L1 L2:List Nat) (hl:List.range ops.size=L1++L2) (h:RN P nt ops (L1++L2) st (Q .normal)):HW (ro:=ro) P nt (.region id ops false) st Q:=fun w0 m0 a w hr=>by
 refine wpIn_region ?_;rw[hl];exact h ro 0 w0 m0 a w _ hr fun st' a' w' hq hr'=>⟨st',hq,hr'⟩
def alw(st1:HSt)(d:Nat)(x:HR)(hs:∀w0 m0 a w,Rel w0 m0 nt st.den a w->∃cc,cc.old=m0/\ah w0 nt cc st1.den a w/\ar cc st1.den.o x (a.tmps.getD d undef))(h:HE nt ⟨(d,some x)::st1.t,st1.o⟩ Q):HE nt st Q:=fun w0 m0 a w hr=>by
 obtain⟨cc,hold,hrr,hx⟩:=hs w0 m0 a w hr;refine h w0 m0 a w ⟨cc,hold,hrr.defers,hrr.size,hrr.below,fun k y hy=>?_,hrr.objs,hrr.inj,hrr.imm,hrr.sep,hrr.was,hrr.frm,hrr.fsep,hrr.fixed⟩;simp only[HSt.den]at hy;rw[aw]at hy;dsimp only at hy;split at hy
 · rename_i hk
   subst hk;simp only[bst]at hy;subst hy;exact hx
 exact hrr.tmps k y hy
end
end
end
section
def orL(ps:List AS):AS:=ps.foldl (·|||·) 0
def b7r {ps:List AS} {i:Nat} (h:i<ps.length):orL (ps.take (i+1))=orL (ps.take i)|||ps.getD i default:=by
 unfold orL;rw[aj h,btq];rfl
def bmq(n:Int)(l:List Fd)(ps:List AS):Bool:=decide (orL ps=aa n)&&b5e l ps&&ps.any (oz n l)
def bnt(n:Int)(l:List Fd)(ps:List AS)(s:AS):List AS:=if bmq n l (ps.eraseIdx (idx (fun x=>decide (x=s)) ps).toNat)=true then ps.eraseIdx (idx (fun x=>decide (x=s)) ps).toNat else ps
def awe (n:Int) (l:List Fd) (p0:List AS):Nat->List AS
 |0=>p0
 |i+1=>bnt n l (awe n l p0 i) (p0.getD (p0.length-1-i) default)
def at2(n:Int)(l:List Fd):Bool:=b5e l (ax2 n l)
def bqz(n:Int)(l:List Fd):List AS:=if abr n l 8=0/\at2 n l=true then awe n l (gw (ax2 n l)) (gw (ax2 n l)).length else[]
def br7(n:Int)(l:List Fd):Bool:=decide (abr n l 8=0)&&at2 n l
def aww (l:List AS):(gw l).Nodup:=by
 unfold gw a5a;exact(a7d l).sublist List.filter_sublist
def br1(n:Int)(l:List Fd)(p0:List AS)(i:Nat)(ps:List AS):Prop:=ps=awe n l p0 i/\ps.length<=p0.length/\∀j,j<p0.length-i->p0.getD j default∈ps
def bja(n:Int)(l:List Fd):Option Fd:=(a2v n l).find? fun f=>!axa l (ax2 n l) f
def bs1(n:Int)(l:List Fd):Int:=if abr n l 8=0 then(match bja n l with|some _=>0|none=>4)else abr n l 8
def bse(n:Int)(l:List Fd):Fd:=if abr n l 8=0 then(match bja n l with|some f=>f|none=>⟨0,0⟩) else⟨0,0⟩
end
section
def afi{a s:AS}(h:sub a s)(hne:a≠s):bsz a<bsz s:=by
 rcases bvr (bdm h)with h1|h1
 · exact h1
 exfalso;apply hne
 have hs:(am a).Sublist (am s):=by
  have:am a=(am s).filter fun i=>a.getLsbD i:=by
   unfold am;rw[List.filter_filter];apply List.filter_congr;intro i hi;rw[btj]at hi
   cases ha:a.getLsbD i with
   |false=>rfl
   |true=>rw[cz.1 h i hi ha];rfl
  rw[this];exact List.filter_sublist
 rw[a1s,a1s]at h1;have he:=hs.eq_of_length h1;refine lj h (cz.2 fun i hi hb=>?_);have:i∈am s:=oc.2 ⟨hi,hb⟩;rw[<- he]at this;exact(oc.1 this).2
def spA(l:List Fd)(s:AS):AS:=(al3 l s).lhs|||(al3 l s).rhs
def spB(l:List Fd)(s:AS):AS:=s&&&~~~(al3 l s).rhs
def xp{a b:AS}:sub (a&&&b) b:=cz.2 fun i hi h=>by rw[btm,bt5]at h;exact h.2
def a1n{a b:AS}:sub (a&&&b) a:=cz.2 fun i hi h=>by rw[btm,bt5]at h;exact h.1
def avv (l:List Fd):Nat->List AS->List AS->List AS
 |0,_,out=>out
 | n+1,todo,out =>
  if todo.length=0 then out
  else if yo l (todo.getD (todo.length-1) default)=true then avv l n (todo.take (todo.length-1)++[spA l (todo.getD (todo.length-1) default),spB l (todo.getD (todo.length-1) default)]) out
  else avv l n (todo.take (todo.length-1)) (out++[todo.getD (todo.length-1) default])
def biw(n:Int)(l:List Fd):List AS:=avv l 6562 [aa n] []
def brr(n:Int)(l:List Fd):List AS:=if abr n l 8=0 then gw (biw n l) else[]
def n4(todo:List AS):Nat:=(todo.map fun s=>3^bsz s).sum
def a01(a b:List AS):n4 (a++b)=n4 a+n4 b:=by unfold n4;rw[bum,List.sum_append]
def an0:∀todo:List AS,todo.length<=n4 todo
 | []=>bsx _
 | s::t=>by
  have h1:=an0 t;have h2:0<3^bsz s:=Nat.pow_pos bww;have e:n4 (s::t)=3^bsz s+n4 t:=by unfold n4;rw[buf,List.sum_cons]
  rw[bto,e];omega
def a7x {todo:List AS} (h:0<todo.length):todo=todo.take (todo.length-1)++[todo.getD (todo.length-1) default]:=by
 have:=aj (l:=todo) (q:=todo.length-1) bww;rw[show todo.length-1+1=todo.length by omega,bt6]at this;exact this
def bsa(n:Int)(l:List Fd)(x:Nat×List AS×List AS):Prop:=avv l x.1 x.2.1 x.2.2=biw n l/\n4 x.2.1<x.1/\x.2.2.length+x.1<=6562
def ayb{k:Nat}(h:k<=32):bsz (kc k)<=k:=by
 unfold bsz
 have e:(List.range 32).countP (fun i=>(kc k).getLsbD i)=(List.range 32).countP fun i=>decide (i<k):=by
  apply List.countP_congr;intro i hi;rw[btj]at hi;rw[mh k i hi]
 have h2:∀m,(List.range m).countP (fun i=>decide (i<k))<=k/\(List.range m).countP (fun i=>decide (i<k))<=m:=by
  intro m
  induction m with
  |zero=>simp
  | succ m ih =>
   rw[bu7,List.countP_append];simp only[bw4,List.countP_nil];by_cases hm:m<k
   · rw[if_pos (decide_eq_true hm)];omega
   rw[if_neg (by simpa using hm)];omega
 rw[e];exact(h2 32).1
def acl {n:Int} {m:Nat} (h:n<=m) (hm:m<=32):bsz (aa n)<=m:=by
 unfold aa;exact btc (ayb (Nat.min_le_right _ _)) bww
def atc{α:Type}[Inhabited α]{wr wr':Bool}{n m:Nat}{e:TypeId}{c:α->Nat->PV}{l:List α}{x y:α}{f g:Nat->Nat->PV}(hn:n=l.length)(hf:∀i,i<l.length->CoP (f i 0) (lf c l i 0))(h0:CoP (g 0 0) (c x 0))(h1:CoP (g 1 0) (c y 0))(hm:m=n+2)(hw:wr'=true->wr=true:=by exact fun h=>h) :
 CoO (.arr wr 1 e m (ep n f g)) (.arr wr' 1 e (l++[x,y]).length (lf c (l++[x,y]))):=by
 subst hn hm;refine⟨hw,rfl,rfl,by simp,fun i j hi hj=>?_⟩;obtain rfl:j=0:=by omega
 unfold ep;by_cases h:i<l.length
 · rw [if_pos h]
   have:=hf i h;simp only[lf,List.getD,bvb h]at this ⊢;exact this
 rw[if_neg h]
 rcases(by omega:i=l.length\/i=l.length+1)with rfl|rfl
 · rw [bw2]
   simp only[lf,List.getD];rw[bv0 (bsw _),bw2];exact h0
 rw[show l.length+1-l.length=1 by omega];simp only[lf,List.getD];rw[bv0 bww,show l.length+1-l.length=1 by omega];exact h1
def ap4 {α:Type} [Inhabited α] {wr wr':Bool} {k m:Nat} {e:TypeId} {c:α->Nat->PV} {l:List α} (hk:k<=l.length) (hm:m=k) (hw:wr'=true->wr=true:=by exact fun h=>h):CoO (.arr wr 1 e m (lf c l)) (.arr wr' 1 e (l.take k).length (lf c (l.take k))):=by
 subst hm;refine⟨hw,rfl,rfl,by rw[bt4,btz hk],fun i j hi hj=>CoP.of_eq ?_⟩;simp only[lf,List.getD,btx,if_pos hi]
def aq6 {l:List AS} {k i:Nat} (hi:i<(l.take k).length):lf sC l i 0=lf sC (l.take k) i 0:=by
 rw[bt4]at hi;simp only[lf,List.getD,btx,if_pos (show i<k by omega)]
end
section
open Go.Proofs
def bql:List Fd:=[⟨1,2⟩,⟨2,4⟩]
def bqp:List Fd:=[⟨3,4⟩,⟨4,1⟩]
end
section
open Go.Proofs
def w1(l:List Fd)(p:AS):Int:=if cb 16 l=0/\(8:Int)<bsz p then 3 else cb 16 l
section
variable {l:List Fd}{p:AS}
end
section
variable {n:Int}{l:List Fd}
end
end
section
open Go.RowKit Go.ChangeShapes Go.WideShapes Go.ChangeAt
def Rd (P:Program) (t:TypeId) (n:Nat) {α:Type} (c:α->Nat->PV):Prop :=
 ∀ (H:Type) (enc:TypeId×Value->H) (w:World) (sp:Nat->Bool) (held:Bool) (fuel:Nat) (cs:List Value) (x:DataW H×List MemPlace),DataW.trod enc P w 0 sp held fuel t cs=some x ->
  cs.length=n/\∃a:α,∀j,j<n->∃v,cs[j]? = some v/\aq (fw w) (c a j) v
section
variable {P:Program}{t e:TypeId}
def bs4(k:IntKind)(z:Int):Nat->PV:=fun _=>.raw (.int k z)
def bqv(b:Bool):Nat->PV:=fun _=>.raw (.bool b)
def bqo(s:ByteArray):Nat->PV:=fun _=>.raw (.string s)
def u8P(u:UInt8):Nat->PV:=fun _=>.raw (.int .u8 (u.toNat:Int))
def b8n (ht:P.underlying t=some (.int .u8)):Rd P t 1 u8P:=by
 intro H enc w sp held fuel cs x h;obtain⟨n,rfl,_,hw⟩:=DataW.trod_int ht h;have hx:0<=n/\n<=255:=by simpa [Lit.wf,IntKind.min,IntKind.max,IntKind.signed,IntKind.bits]using hw
 refine⟨rfl,UInt8.ofNat n.toNat,fun j hj=>?_⟩;obtain rfl:j=0:=by omega
 refine⟨_,rfl, ?_,rfl⟩
 have:(UInt8.ofNat n.toNat).toNat=n.toNat:=by
  rw[UInt8.toNat_ofNat'];omega
 rw[this];congr 1;omega
theorem Rd.co {n:Nat} {α β:Type} {c:α->Nat->PV} {c':β->Nat->PV} (h:Rd P t n c) (f:α->β) (hc:∀a j,j<n->CoP (c a j) (c' (f a) j)):Rd P t n c':=by
 intro H enc w sp held fuel cs x hx;obtain⟨h1,a,h2⟩:=h _ enc w sp held fuel cs x hx;refine⟨h1,f a,fun j hj=>?_⟩;obtain⟨v,h3,h4⟩:=h2 j hj;exact⟨v,h3,hc a j hj _ _ h4⟩
def awl{α:Type}[Inhabited α](s:Nat)(c:α->Nat->PV)(l:List α):Nat->PV:=fun _=>psl s c l
def b6h{s:Nat}{α:Type}[Inhabited α]{c:α->Nat->PV}(ht:P.underlying t=some (.slice e))(hc:P.cellsOf e=s)(hs:0<s)(h:Rd P e s c):Rd P t 1 (awl s c):=by
 classical
 intro H enc w sp held fuel cs x hx
 rcases DataW.trod_slice ht hx with⟨rfl,_⟩|⟨a,len,cap,elems,rest,n,rfl,rfl,_,hb,hl,hm,hlen,hel,_,_⟩
 · refine ⟨rfl,[],fun j hj=>?_⟩
   obtain rfl:j=0:=by omega
   exact⟨_,rfl,none,0,rfl,bsw _,bsx _,(fun hh=>by cases hh),fun hh=>absurd hh (bvd 0)⟩
 have each:∀i,i<len->∃q:α,∀j,j<s->∃v,w.cell? (a.add (i*s+j))=some v/\aq (fw w) (c q j) v:=by
  intro i hi;have h1:=hel i hi;rw[hc]at h1;rw[bsu bww]at h1;obtain⟨cs',h2,h3⟩:=Option.bind_eq_some_iff.1 h1;obtain⟨_,h4,h5⟩:=World.cells?_some h2;obtain⟨_,q,h6⟩:=h _ enc w sp held n cs' _ h3;refine⟨q,fun j hj=>?_⟩;obtain⟨v,h7,h8⟩:=h6 j hj;refine⟨v, ?_,h8⟩;have:=h5 j hj;rw[h7]at this;rw[<- this];congr 1;unfold Addr.add;by_cases hj0:j=0
  · subst hj0
    simp
  by_cases hi0:i*s=0
  · simp[hi0,hj0]
  have:¬(i*s+j=0):=by omega
  simp only[hj0,hi0,this,if_false];congr 1;omega
 refine⟨rfl,(List.range len).map fun i=>if hi:i<len then Classical.choose (each i hi)else default,fun j hj=>?_⟩;obtain rfl:j=0:=by omega
 refine⟨_,rfl,some a,cap,by simp,by simpa using hl,hm,(fun hh=>by cases hh),fun hn=>?_⟩;have hn:0<len:=by simpa using hn
 have hspot:a.spot=none:=by
  obtain⟨q,hq⟩:=each 0 hn;obtain⟨v,hv,_⟩:=hq 0 hs;have:a.add (0*s+0)=a:=by simp[Addr.add]
  rw[this]at hv;unfold World.cell? at hv;split at hv
  · split at hv
    · cases hv
    rename_i hsp;simpa using hsp
  cases hv
 refine⟨a.block,a.off, ?_,fun i j hi hj=>?_⟩
 · obtain ⟨b,o,spo⟩:=a
   simp only at hspot;subst hspot;rfl
 have hi:i<len:=by simpa using hi
 have hch:=Classical.choose_spec (each i hi);obtain⟨v,hv,hr⟩:=hch j hj;refine⟨v, ?_, ?_⟩
 · unfold World.cell? at hv
   have hblk:(a.add (i*s+j)).block=a.block:=by unfold Addr.add;split<;>rfl
   have hoff:(a.add (i*s+j)).off=a.off+(i*s+j):=by
    unfold Addr.add;split
    · rename_i h0;rw[h0];rfl
    rfl
   rw[hblk,hoff]at hv;unfold j2 fw;split at hv
   · rename_i hb'
     rw[hb'];split at hv
     · cases hv
     exact hv
   cases hv
 have:lf c ((List.range len).map fun i=>if hi:i<len then Classical.choose (each i hi)else default) i j=c (Classical.choose (each i hi)) j:=by
  unfold lf;simp[List.getD,hi]
 rw[this];exact hr
def b26 {H:Type} {enc:TypeId×Value->H} {w:World} {sp:Nat->Bool} {held:Bool} {fuel:Nat} {cs:List Value} {x:DataW H×List MemPlace} {fs:Array Field} (ht:P.underlying t=some (.struct fs)) (h:DataW.trod enc P w 0 sp held fuel t cs=some x) :
 cs.length=P.cellsOf t/\∃n,∀(i:Nat) (f:Field),fs[i]? = some f->∃y,DataW.trod enc P w 0 sp held n f.type ((cs.drop f.offset).take (P.cellsOf f.type))=some y:=by
 obtain⟨xs,n,_,_,h1,h2,h3⟩:=DataW.trod_struct ht h;refine⟨h1,n,fun i f hf=>?_⟩;have:=h3 i f hf;rw[this];have hi:i<xs.length:=by rw[h2];exact(bt3.1 hf).1
 exact⟨_,bsu hi⟩
def ao6 {H:Type} {enc:TypeId×Value->H} {w:World} {sp:Nat->Bool} {held:Bool} {n off s:Nat} {ft:TypeId} {cs:List Value} {y:DataW H×List MemPlace} {α:Type} {c:α->Nat->PV} (h:Rd P ft s c) (hy:DataW.trod enc P w 0 sp held n ft ((cs.drop off).take (P.cellsOf ft))=some y) :
 ∃a:α,∀j,j<s->∃v,cs[off+j]? = some v/\aq (fw w) (c a j) v:=by
 obtain⟨h1,a,h2⟩:=h _ enc w sp held n _ y hy;refine⟨a,fun j hj=>?_⟩;obtain⟨v,h3,h4⟩:=h2 j hj;refine⟨v, ?_,h4⟩;rw[btx]at h3;split at h3
 · rwa [bvz]at h3
 cases h3
end
def akq {W W':World} (hb:Below W.heap.size W W') (may:MemPlace->Prop):W.keptBut W' may:=by
 refine⟨hb.os,hb.output,fun i hi=>?_⟩;rw[hb.block i hi]
 cases W.heap[i]? with
 |none=>exact rfl
 |some o=>cases o<;>first|exact⟨rfl,rfl,rfl,fun _ _=>rfl⟩|exact .inr ⟨rfl,rfl⟩|exact rfl
def akv {W W':World} (hb:Below W.heap.size W W') (p:MemPlace) (hp:p.block<W.heap.size):W.sameAt W' p:=by
 cases p with
 |cell b off=>show W'.cell? _=W.cell? _;unfold World.cell?;rw[hb.block b hp]
 |map b=>exact hb.block b hp
section
variable {H:Type}{enc:TypeId×Value->H}{P:Program}
def a69 (hl:laidOutB P=true) {W W':World} {sp':Nat->Bool}:∀{ts:List TypeId} {vs:List Value} {ds:List (DataW H)} {ps:List MemPlace},(∀t∈ts,P.readableRec t=true/\t<P.types.size)->DataW.TrodAll enc P W 0 (fun _=>true) true ts vs ds ps ->
 (∀p∈ps,W.sameAt W' p)->(∀p∈ps,sp' p.block=true)->DataW.TrodAll enc P W' 0 sp' true ts vs ds ps
 | [],[],[],ps,_,h,_,_=>h
 | t::ts,v::vs,d::ds,ps,ht,⟨p,q,h1,h2,e⟩,hs,hsp=>by
  subst e;refine⟨p,q,WideElems.Trod_stays hl (ht t bx0).1 (ht t bx0).2 h1 (fun z hz=>hs z (by simp[hz])) (fun z hz=>hsp z (by simp[hz])), ?_,rfl⟩;exact a69 hl (fun t ht'=>ht t (by simp[ht'])) h2 (fun z hz=>hs z (by simp[hz])) (fun z hz=>hsp z (by simp[hz]))
 | [],_::_,_,_,_,h,_,_=>h.elim
 | [],[],_::_,_,_,h,_,_=>h.elim
 |_::_,[],_,_,_,h,_,_=>h.elim
 |_::_,_::_,[],_,_,h,_,_=>h.elim
def b3r{f:Func}{s:ChangeSpec}{W W':World}{args:Array Value}{ds:List (DataW H)}{before:List MemPlace}{tb:TypeId}(hl:laidOutB P=true)(hpar:∀t∈f.params.toList,P.readableRec t=true/\t<P.types.size)
 (hres:f.resultTypes=#[tb]) (htb:P.underlying tb=some .bool) (hv:s.vars=[]) (hfn:s.fn H ds={ results:=[.lit (.bool true)],args:=ds })
 (hW:DataW.Whole enc P f.params.toList s.vars false W args.toList ds [] before) (hb:Below W.heap.size W W'):s.post enc P f false true false false W args (.bool true) W':=by
 have hW':=hW;have hlt:∀p∈before,p.block<W.heap.size:=fun p hp=>hW.lt p hp;obtain⟨p,q,hA,hV,rfl,hfz,hnd⟩:=hW;rw[hv]at hV;obtain⟨_,rfl⟩:=trodVars_none hV;have hfn':s.fn H (ds++[])={ results:=[.lit (.bool true)],args:=ds }:=by rw[btu];exact hfn
 have hargs:∀sp:Nat->Bool,(∀z∈p++[],sp z.block=true)->DataW.TrodAll enc P W' 0 sp true f.params.toList args.toList (s.fn H (ds++[])).args p:=fun sp hsp=>by
  rw[hfn'];exact a69 hl hpar hA (fun z hz=>akv hb z (hlt z (by simpa using hz))) (fun z hz=>hsp z (by simpa using hz))
 have hrs:∀(b:Nat) (sp:Nat->Bool) (hd:Bool),DataW.TrodAll enc P W' b sp hd f.resultTypes.toList ((Value.bool true).resultList f.resultTypes.size) (s.fn H (ds++[])).results []:=fun b sp hd=>by
  rw[hfn',hres];exact trodAll_cons_mk (shut_bool htb _) trodAll_mk0
 have hok:∀(j:Nat) (t:TypeId) (r:Value),f.resultTypes[j]? = some t->((Value.bool true).resultList f.resultTypes.size)[j]? = some r->Value.okWide P W' .any 0 t r:=ok_one hres rfl (okWide_bool_mk htb _)
 have hvars:∀sp:Nat->Bool,(∀z∈p++[],sp z.block=true)->DataW.TrodVars enc P W' sp s.vars (s.fn H (ds++[])).vars []:=fun sp _=>by
  rw[hfn',hv];exact rfl
 have hold:∀z∈p++[],(fun b=>decide (b<W.heap.size)) z.block=true:=fun z hz=>by simpa using hlt z hz
 refine⟨ds,[],p++[],[],p,[],hW',hrs _ _ _,hargs _ hold,hvars _ hold,World.keptBut_mono (fun z hz=>⟨hz, ?_⟩) (akq hb (·∈p++[])),fun _=>?_⟩
 · exact Or.inr (by simpa using hz)
 refine⟨hok,_,_,([]++p)++[],⟨[]++p,[],trodAll_append (hargs _ (fun _ _=>rfl)) (hrs _ _ _),hvars _ (fun _ _=>rfl),rfl, ?_, ?_⟩, ?_⟩
 · intro b off hp
   have hp':MemPlace.cell b off∈p++[]:=by simpa using hp
   have:=hfz b off hp';unfold World.frozen? at this ⊢;rw[hb.block b (hlt _ hp')];exact this
 · intro ha;cases ha
 intro z hz _;simpa using hz
end
def b10 {P:Program} {f:FuncId} {args:List PC} {us:List Value} {W:World} {R:Ending->World->Prop} (ht:vq (fw W)) (h:a6 P f args (ae [.one (.raw (.bool true))])) (hr:d8 (fw W) args us) (hR:∀W',Below W.heap.size W W'->R (.returned (.bool true)) W'):Calls P f us.toArray W R:=by
 refine(h W (fw W) us ht (fun _ _ hh=>hh) hr).mono ?_;rintro e w' ⟨v,imm',rfl,hv,_,_,hb⟩;obtain⟨rfl,_⟩:=hv;exact hR w' hb
end
end Go.Hx
