/- A part of the proof: Cs16 V14 Hx24 Cs17 V15 Cs18 V16 Cs19 V17. -/
import Derived.Test.YtnlcekpflogjkaaGreatDoorTz17
set_option linter.all false
set_option maxRecDepth 100000
set_option maxHeartbeats 1000000
namespace Go.Hx
section
def kw(l:List Fd)(p x:AS):Bool:=decide (clo l x&&&p≠x)&&decide (clo l x&&&p≠p)
def a1p(l:List Fd)(p:AS):Option AS:=(b6 p).find? (kw l p)
def bga(l:List Fd)(p x:AS):Fd:=⟨x,(clo l x&&&p)&&&~~~x⟩
def vi (l:List Fd) (p:AS):Fd:=match a1p l p with
 |some x=>bga l p x
 |none=>⟨0,0⟩
def dx(l:List Fd)(p:AS):Bool:=(a1p l p).isSome
def aoj {α:Type} [Inhabited α] {q:α->Bool} {l:List α} {i:Nat} (hi:i<l.length) (hI:∀j,j<i->q (l.getD j default)=false) (h:q (l.getD i default)=true):l.find? q=some (l.getD i default):=by
 rw[List.find?_eq_some_iff_getElem];refine⟨h,i,hi,by simp[List.getD,hi],fun j hj=>?_⟩;have:=hI j hj;rw[bt1,bt0 bx5,buq]at this;simp[this]
def alz {α:Type} [Inhabited α] {q:α->Bool} {l:List α} (hI:∀j,j<l.length->q (l.getD j default)=false):l.find? q=none:=by
 rw[bva];intro x hx;obtain⟨j,hj,rfl⟩:=btt hx;have:=hI j hj;rw[bt1,bt0 hj,buq]at this;simp[this]
section
variable {l:List Fd}{p:AS}
def ay9 {i:Nat} (hi:i<(b6 p).length) (hI:∀j,j<i->kw l p ((b6 p).getD j default)=false) (h:kw l p ((b6 p).getD i default)=true):vi l p=bga l p ((b6 p).getD i default)/\dx l p=true:=by
 have e:a1p l p=some ((b6 p).getD i default):=aoj hi hI h;unfold vi dx;rw[e];exact⟨rfl,rfl⟩
def axy (hI:∀j,j<(b6 p).length->kw l p ((b6 p).getD j default)=false):vi l p=⟨0,0⟩/\dx l p=false:=by
 have e:a1p l p=none:=alz hI;unfold vi dx;rw[e];exact⟨rfl,rfl⟩
def ayd {x:AS} (h:bu .and .u32 (asI (clo l x)) (asI p)=asI x):kw l p x=false:=by
 rw[it,cb]at h;unfold kw;simp[h]
def ayv {x:AS} (h:bu .and .u32 (asI (clo l x)) (asI p)=asI p):kw l p x=false:=by
 rw[it,cb]at h;unfold kw;simp[h]
def axp {x:AS} (h:¬bu .and .u32 (asI (clo l x)) (asI p)=asI x) (k:¬bu .and .u32 (asI (clo l x)) (asI p)=asI p):kw l p x=true:=by
 rw[it,cb]at h k;unfold kw;simp[h,k]
def bdm {i:Nat} {a b:PV} (hi:i<(b6 p).length) (hI:∀j,j<i->kw l p ((b6 p).getD j default)=false) (h:kw l p ((b6 p).getD i default)=true) (ha:a=asC ((b6 p).getD i default)) (hb:b=.raw (.int .u32 (bu .andNot .u32 (bu .and .u32 (asI (clo l ((b6 p).getD i default))) (asI p)) (asI ((b6 p).getD i default))))):CoC (.agg [a,b]) (vi l p).pc :=
 CoC.of_eq (by rw[(ay9 hi hI h).1,ha,hb,it,mc];rfl)
def b59(hI:∀j,j<(b6 p).length->kw l p ((b6 p).getD j default)=false):CoC (.agg [kj (.int .u32 0),kj (.int .u32 0)]) (vi l p).pc:=CoC.of_eq (by rw[(axy hI).1];rfl)
def akg {s:AS}:∀(n:Nat) (x:AS),(a60 s n x).length<=x.toNat+1
 |0,x=>bt6 _
 | n+1,x=>by
  unfold a60;by_cases h0:x=0
  · rw[if_pos h0];simp
  rw[if_neg h0,bud];have h1:=akg (s:=s) n ((x-1)&&&s);have h2:=sd (s:=s) h0;omega
def rj (s:AS):(b6 s).length<=4294967296:=by
 unfold b6 a4r;have h1:=akg (s:=s) (s.toNat+1) s;have h2:=pn (a60 s (s.toNat+1) s);have h3:=s.isLt;split
 · simp
 omega
end
end
section
open Go.Proofs
def b8d(l:List Fd)(p:AS):a7 bxr 44 [pP (fdl l),pA p] (ae [(vi l p).pc,pB (dx l p)]):=by
 refine hpx (nt:=36) Tryz.func44 ?_;refine sx7 ?_;refine m9 0 ?_;refine w_6 ?_;refine qcx a6n (al7 p) ?_;refine w_4 ?_;refine am (ι:=Nat) (ka 0 (ka 1 (ka 4 (ka 10 (ka 11 kn))))) (kb 0 km) (fun i=>⟨[(12,some (vI i))],[]⟩) (fun i=>i<=(b6 p).length/\(∀j,j<i->kw l p ((b6 p).getD j default)=false)) (fun i=>(b6 p).length-i) (0) (⟨bt6 _,d5⟩) kk ?_;rintro i ⟨hi,hI⟩;have hlen:=rj p;refine w_5 ?_;refine hcd ?_ ?_<;>intro h0
 ·
  refine mq ?_;refine qcx rp (rg l ((b6 p).getD i default)) ?_;refine cr ?_;refine al rfl rfl ?_ ?_<;>intro r1
  ·
   have h1:=tz2 (cj r1);(iterate 3 refine qy ?_ (hg:=(gtt r1)));refine w_2 ?_;refine ax _ rfl ?_ ?_<;>intro r2
   · have h2:=tz2 (cj (br r1 r2));refine cr ?_;exact hx8 rfl rfl rfl (⟨bdm (i:=i) bx5 hI (axp h1 h2) rfl rfl,ccb (ay9 (i:=i) bx5 hI (axp h1 h2)).2.symm,trivial⟩)
   have h2:=tz1 (cn (br r1 r2));refine w_5 ?_;refine lpz (i+1) kk ?_;exact⟨by show i+1<=_;omega,c6 hI (by first|exact ayd h1|exact ayv h2)⟩
  have h1:=tz1 (cn r1);(iterate 3 refine k9 (gft r1) ?_);refine w_8 ?_;refine lpz (i+1) kk ?_
  exact⟨by show i+1<=_;omega,c6 hI (by first|exact ayd h1|exact ayv h2)⟩
 refine v_7 ?_;exact⟨b59 (fun j hj=>hI j bx5),ccb (axy (fun j hj=>hI j bx5)).2.symm,trivial⟩
end
section
open Go.RowKit
section
variable {w0:World}{nt:Nat}{c:Ctx}{s:S}{a:Act}{w:World}
def ah.short(h:ah w0 nt c s a w){id id' sz n m:Nat}{el:TypeId}{f:Nat->Nat->PV}(ho:s.o id=some (.arr true sz el n f))(hm:m<=n)(hnm:NM s id')(hno:s.o id'=none){u:Value}(hu:bh c s.o (.win id n 0 m) u) :
 ∃c',c'.old=c.old/\ah w0 nt c' ((s.setO id none).setO id' (some (.arr true sz el m f))) a w/\aq c' ((s.setO id none).setO id' (some (.arr true sz el m f))).o (.v (.one (.ref id' m))) u:=by
 have hne:id≠id':=fun e=>by rw[<- e,ho]at hno;cases hno
 obtain⟨ad,ad',cap,q1,q2,q3,q4,q5,q6⟩:=a04 hu ho rfl;obtain⟨h0,h1,h5⟩:=h.objs id _ ho
 have hold:∀k ob,((s.setO id none).setO id' (some (.arr true sz el m f))).o k=some ob->k≠id'->s.o k=some ob/\k≠id:=fun k ob hk hk'=>by
  simp only[S.setO,if_neg hk']at hk;by_cases hki:k=id
  · subst hki;simp at hk
  rw[if_neg hki]at hk;exact⟨hk,hki⟩
 obtain ⟨bk,hbk,hok⟩:∃bk:Nat->Prop,(∀b,bk b->c.blk id b)/\∀c':Ctx,c'.imm=c.imm->c'.own id'=u->c'.blk id'=bk->∀o':ar,eu 0 c' o' w id' (.arr true sz el m f):=by
  rcases h5 with⟨h6,xs,h2,h4⟩|⟨h6|h6,h7,h8⟩
  · obtain ⟨hxl,hrow⟩:=h2
    rcases hrow with⟨hv0,hz⟩|⟨g,cap',cur,hown,hbase,hheap,hnc,hcm,hcs,htake⟩
    · rw [hv0]at q1
      simp only[Value.slice.injEq]at q1;obtain⟨rfl,_,rfl⟩:=q1;obtain rfl:n=0:=by omega
      obtain rfl:m=0:=by omega
      refine⟨noB,fun b hb=>hb.elim,fun c' e1 e2 e3 o'=>⟨h0,bt6 _, .inr ⟨.inr rfl,e3, ?_⟩⟩⟩;rw[e2,q2];exact⟨ad',0,rfl,bt2 _,bt6 _,fun _=>rfl,fun h=>absurd h (bvy 0)⟩
    rw[hown]at q1;simp only[Value.slice.injEq,true_and]at q1;obtain⟨rfl,rfl⟩:=q1;by_cases hcap:cap'=0
    · subst hcap
      obtain rfl:m=0:=by omega
      refine⟨noB,fun b hb=>hb.elim,fun c' e1 e2 e3 o'=>⟨h0,bt6 _, .inr ⟨.inr rfl,e3, ?_⟩⟩⟩;rw[e2,q2];exact⟨ad',0,rfl,bt2 _,bt6 _,fun _=>rfl,fun h=>absurd h (bvy 0)⟩
    obtain rfl:=q6 bx5;simp only[bts,dm,Nat.zero_mul,bv4,Nat.sub_zero]at q2;have hmul:m*sz<=n*sz:=bte _ hm;refine⟨fm u,fun b hb=>by rw[h6,hown];rw[q2]at hb;exact hb,fun c' e1 e2 e3 o'=>⟨h0,bth hm h1, .inl ⟨by rw[e2,e3],xs.take (m*sz),⟨by rw[btp,hxl,bua hmul], .inr ⟨g,cap',cur,by rw[e2,q2],hbase,hheap,by omega,hcm,hcs, ?_⟩⟩,fun i j hi hj=>?_⟩⟩⟩
    · rw[<- htake,List.take_take,bua hmul]
    obtain⟨x,hx,hr⟩:=h4 i j bx5 hj;refine⟨x, ?_,by rw[e1];exact hr⟩;rw[bug,if_pos (ahs hi hj)];exact hx
  · cases h6
  subst h6;obtain rfl:m=0:=by omega
  refine⟨noB,fun b hb=>hb.elim,fun c' e1 e2 e3 o'=>⟨h0,bt6 _, .inr ⟨.inr rfl,e3, ?_⟩⟩⟩;obtain⟨ad2,cap2,r1,r2,r3,r4,_⟩:=h8;rw[q1]at r1;simp only[Value.slice.injEq,true_and]at r1;obtain⟨rfl,rfl⟩:=r1;obtain rfl:cap=0:=r4 rfl;rw[e2,q2];exact⟨ad',0,rfl,bt2 _,bt6 _,fun _=>rfl,fun h=>absurd h (bvy 0)⟩
 have hevo:∀k,k≠id'->Evo c s.o { c with own:=fun k=>if k=id' then u else c.own k,blk:=fun k=>if k=id' then bk else c.blk k } ((s.setO id none).setO id' (some (.arr true sz el m f))).o k:=fun k hk=>by
  by_cases hki:k=id
  · subst hki
    exact .inl (by simp[S.setO,hk])
  exact Evo.of_same (by simp[S.setO,hk,hki]) (by simp[hk])
 refine⟨{ c with own:=fun k=>if k=id' then u else c.own k,blk:=fun k=>if k=id' then bk else c.blk k },rfl,⟨h.defers,h.size,h.below,fun d x hx=>?_,fun k ob hk=>?_,fun i i' obi obi' b hi hi' hb hb'=>?_,h.imm,fun k ob b hk hb=>?_,h.was,h.frm,fun k ob b hk hb=>?_,fun k hk=>?_⟩, ?_⟩
 · exact(h.tmps d x hx).evo (Imm.le.refl c.imm) fun k hkm=>hevo k (by rintro rfl;exact hnm.1 d x hx hkm)
 · by_cases hk':k=id'
   · subst hk'
     obtain rfl:ob=.arr true sz el m f:=by simpa [S.setO]using hk.symm
     refine hok _ ?_ ?_ ?_ _<;>first|rfl|exact if_pos rfl
   obtain⟨hk1,hk2⟩:=hold k ob hk hk';exact(h.objs k ob hk1).keep (Imm.le.refl c.imm) (by simp[hk']) (by simp[hk']) (fun j hj=>hevo j (by rintro rfl;exact hnm.2.1 k ob hk1 hj)) fun b _=>rfl
 · have hone:∀k ob b,k≠id'->((s.setO id none).setO id' (some (.arr true sz el m f))).o k=some ob->c.blk k b->bk b->False:=fun k ob b hk' hk hb hbb=>by
    obtain⟨hk1,hk2⟩:=hold k ob hk hk';exact hk2 (h.inj k id ob _ b hk1 ho hb (hbk b hbb))
   by_cases e1:i=id'
   · by_cases e2:i'=id'
     · rw[e1,e2]
     exact(hone i' obi' b e2 hi' (by simpa [e2]using hb') (by simpa [e1]using hb)).elim
   by_cases e2:i'=id'
   · exact(hone i obi b e1 hi (by simpa [e1]using hb) (by simpa [e2]using hb')).elim
   exact h.inj i i' obi obi' b (hold i obi hi e1).1 (hold i' obi' hi' e2).1 (by simpa [e1]using hb) (by simpa [e2]using hb')
 · by_cases hk':k=id'
   · exact h.sep id _ b ho (hbk b (by simpa [hk']using hb))
   exact h.sep k ob b (hold k ob hk hk').1 (by simpa [hk']using hb)
 · by_cases hk':k=id'
   · exact h.fsep id _ b ho (hbk b (by simpa [hk']using hb))
   exact h.fsep k ob b (hold k ob hk hk').1 (by simpa [hk']using hb)
 · exact(h.fixed k hk).trans (hevo k (by have:=hnm.2.2;omega))
 refine⟨hu.1,fun l=>by simp[S.setO],fun ob2 s2 e2 n2 ho2 hd2=>?_⟩;simp only[S.setO,if_true,bsy]at ho2;subst ho2;simp only[aa.dim,bsy,bt7]at hd2;obtain⟨rfl,rfl,rfl⟩:=hd2;exact⟨bt2 _,fun _=>by simp⟩
end
section
variable {ro:Option Nat}{P:Program}{nt:Nat}{st:HSt}{Q:Exit->HSt->Prop}
def b2b {c:Code} (d id2:Nat) {id n n' i m s:Nat} {e:TypeId} {f:Nat->Nat->PV} (hd:b5 st.t d=some (.v (.one (.win id n i m)))) (ho:b5 st.o id=some (.arr true s e n' f)) (hn:n'=n) (hi:i=0) (hm:m<=n) (hnew:ku id2 st=true)
 (h:HW (ro:=ro) P nt c ⟨(d,some (.v (.one (.ref id2 m))))::st.t,(id2,some (.arr true s e m f))::(id,none)::st.o⟩ Q):HW (ro:=ro) P nt c st Q:=by
 subst hn hi;obtain⟨hnm,hno⟩:=f3 hnew;refine tc ⟨st.t,(id2,some (.arr true s e m f))::(id,none)::st.o⟩ d (.v (.one (.ref id2 m))) (fun w0 m0 a w hr=>?_) h;obtain⟨cc,hold,hrr⟩:=hr;obtain⟨c',e1,e2,e3⟩:=hrr.short ho hm hnm hno (hrr.tmps d _ hd)
 have e4:(HSt.den ⟨st.t,(id2,some (.arr true s e m f))::(id,none)::st.o⟩)=(st.den.setO id none).setO id2 (some (.arr true s e m f)):=by
  unfold HSt.den S.setO;simp[ay]
 exact⟨c',e1.trans hold,by rw[e4];exact e2,by rw[e4];exact e3⟩
def a8j {c:Code} (d id2:Nat) {id n n' s:Nat} {e:TypeId} {f:Nat->Nat->PV} (hd:b5 st.t d=some (.v (.one (.ref id n)))) (ho:b5 st.o id=some (.arr true s e n' f)) (hn:n'=n) (hnew:ku id2 st=true)
 (h:HW (ro:=ro) P nt c ⟨(d,some (.v (.one (.ref id2 n))))::st.t,(id2,some (.arr true s e n f))::(id,none)::st.o⟩ Q):HW (ro:=ro) P nt c st Q:=by
 subst hn;obtain⟨hnm,hno⟩:=f3 hnew;refine tc ⟨st.t,(id2,some (.arr true s e n' f))::(id,none)::st.o⟩ d (.v (.one (.ref id2 n'))) (fun w0 m0 a w hr=>?_) h;obtain⟨cc,hold,hrr⟩:=hr;have hu:bh cc st.den.o (.ref id n') (a.tmps.getD d undef):=hrr.tmps d _ hd
 have hw:bh cc st.den.o (.win id n' 0 n') (a.tmps.getD d undef):=by
  refine⟨hu.1,hu.2.1,fun ob s2 e2 n2 ho2 hd2=>⟨(hu.2.2 _ _ _ _ ho2 hd2).1,fun hk=>?_⟩⟩;have he:=(hu.2.2 _ _ _ _ ho2 hd2).2 hk;obtain rfl:ob=.arr true s e n' f:=Option.some.inj (ho2.symm.trans ho);simp only[aa.dim,bsy,bt7]at hd2;obtain⟨rfl,rfl,rfl⟩:=hd2;obtain⟨ad,cap,hv,hc1,hc2⟩:=a02 (hrr.objs _ _ ho2);exact⟨ad,ad,cap,hv,by rw[he,hv];rfl,by omega,hc1,hc2,fun _=>by cases ad<;>simp[pf]⟩
 obtain⟨c',e1,e2,e3⟩:=hrr.short ho (bt2 _) hnm hno hw
 have e4:(HSt.den ⟨st.t,(id2,some (.arr true s e n' f))::(id,none)::st.o⟩)=(st.den.setO id none).setO id2 (some (.arr true s e n' f)):=by
  unfold HSt.den S.setO;simp[ay]
 exact⟨c',e1.trans hold,by rw[e4];exact e2,by rw[e4];exact e3⟩
end
end
section
def ap9 {l:List AS} {k:Nat} (hk:l.length<=k) (h:∀j,0<j->j<k->¬l.getD j default=l.getD (j-1) default):ja l=l:=by
 have:=uc (bt2 l.length) fun j h1 h2=>h j h1 bx5;rw[btb]at this;exact this
def ajb {l m:List AS} {k p q:Nat} (hC:CpI l k p q m) (hq:¬q<l.length):(ja l).length=p/\m.take p=ja l:=by
 have e:=hC.pre;have h1:=hC.ql;have h2:=hC.len;have h3:=hC.pq;rw[show q=l.length by omega,btb]at e;exact⟨by rw[<- e];simp;omega,e⟩
def bc4 {l m:List AS} {k p q n a d:Nat} {z:List Value} {e:TypeId} (hC:CpI l k p q m) (hq:¬q<l.length) (ha:p<=a) (hn:n=p):CoO (.arr true 1 e n (ow (lf sC m) a d z)) (.arr true 1 e (ja l).length (lf sC (ja l))):=by
 obtain⟨h1,h2⟩:=ajb hC hq;subst hn;refine⟨fun h=>h,rfl,rfl,h1,fun i j hi hj=>CoP.of_eq ?_⟩;show ow (lf sC m) a d z i j=lf sC (ja l) i j;unfold ow;rw[if_neg bx5];simp only[lf,List.getD];have e:(ja l)[i]? = m[i]?:=by rw[<- h2,bug,if_pos hi]
 rw[e]
def gj{id n m:Nat}(h:n=m):CoR (.v (.one (.ref id n))) (.v (.one (.ref id m))):=by rw[h];exact CoR.refl _
end
section
open Go.Proofs
def b1v(l:List AS):dv bxr 171 [.one (.ref 900 l.length)] [(900, .arr true 1 50 l.length (lf sC l))] (.v (.one (.ref 901 (ja l).length))) [(901, .arr true 1 50 (ja l).length (lf sC (ja l)))] []:=by
 refine hfx (nt:=61) Tryz.func171 ?_;refine dt ?_;refine a9d 900 rfl fun hlen=>?_;refine cr ?_;refine hcd ?_ ?_<;>intro h0
 · refine w_5 ?_;refine a8j 2 901 rfl rfl rfl rfl ?_;refine hrr ?_;have he:=ap9 (l:=l) (k:=l.length) (bt2 _) (fun j h1 h2=>by omega);exact⟨_,_,rfl,bx7,gj (by rw[he]),⟨⟨_,rfl,jn he (by rw[he])⟩,trivial⟩⟩
 refine w_7 ?_;refine am (ι:=Nat) (ka 0 kn) (kb 900 km) (fun k=>⟨[(3,some (vI k))],[]⟩) (fun k=>1<=k/\k<=l.length/\∀j,0<j->j<k->¬l.getD j default=l.getD (j-1) default) (fun k=>l.length-k) (1) (⟨bt2 _,by omega,fun j h1 h2=>by omega⟩) kk ?_;rintro k ⟨hk1,hk,hI⟩;refine w_8 ?_;refine hcd ?_ ?_<;>intro h1
 ·
  refine a2y ?_;refine hcd ?_ ?_<;>intro h2
  ·
   refine mq ?_;refine am (ι:=Nat×Nat×List AS) (ka 0 (ka 4 kn)) km (fun x=>⟨[(3,some (vI x.1)),(5,some (vI ((x.2.1:Int)-k)))],[(900,some (.arr true 1 50 l.length (lf sC x.2.2)))]⟩) (fun x=>CpI l k x.1 x.2.1 x.2.2) (fun x=>l.length-x.2.1) ((k,k+1,l)) (CpI.start hk1 bx5 hI (zu bx6 rfl bx5)) ⟨⟨zy,⟨_,rfl,(coi bx9)⟩,trivial⟩,uu⟩ ?_;rintro⟨p,q,m⟩ hC;have hC0:=hC;obtain⟨hml,hkq,hpq,hql,_,_⟩:=hC0;dsimp only at hC hml hkq hpq hql;refine w_8 ?_;refine hcd ?_ ?_<;>intro h3
   ·
    simp only[iu,bv,btc]at h3;refine a2y ?_;refine hcn ?_ ?_<;>intro h4
    ·
     refine am9 ?_
     first | (refine lpz (p+1, q+1, m.set p (m.getD q default)) ⟨⟨⟨_, rfl, (coi bxb)⟩, ⟨_, rfl, (coi bxb)⟩, tt⟩, ⟨⟨_, rfl, (po id hml.symm bx5 (by dsimp only; omega) bxe)⟩, trivial⟩⟩ ?_; exact hC.keep bx5 (a0a bx6 bxe bxe))
           |(refine lpz (p,q+1,m) ⟨⟨⟨_,rfl,(coi bx9)⟩,⟨_,rfl,(coi bx9)⟩,tt⟩,uu⟩ ?_;exact hC.skip bx5 (zu bx6 bxh bxh))
    refine w_6 ?_
    first | (refine lpz (p+1, q+1, m.set p (m.getD q default)) ⟨⟨⟨_, rfl, (coi bxb)⟩, ⟨_, rfl, (coi bxb)⟩, tt⟩, ⟨⟨_, rfl, (po id hml.symm bx5 (by dsimp only; omega) bxe)⟩, trivial⟩⟩ ?_; exact hC.keep bx5 (a0a bx6 bxe bxe))
          |(refine lpz (p,q+1,m) ⟨⟨⟨_,rfl,(coi bx9)⟩,⟨_,rfl,(coi bx9)⟩,tt⟩,uu⟩ ?_;exact hC.skip bx5 (zu bx6 bxh bxh))
   simp only[iu,bv,btc]at h3;refine w_6 ?_;refine r9 0 true ?_;refine w_8 ?_;refine b2b 2 901 rfl rfl rfl rfl (by simp only[iu,bv,btc];omega) rfl ?_;refine hrr ?_;have he:=(ajb hC bx5).1;exact⟨_,_,rfl,bx7,gj (by rw[he];simp[iu,bv]),⟨⟨_,rfl,bc4 hC bx5 (by simp[bv]) (by simp[iu,bv])⟩,trivial⟩⟩
  refine w_6 ?_;refine lpz (k+1) kk ?_;refine⟨by omega,by show k+1<=_;omega,fun j h1 h2=>?_⟩
  rcases bvx (bwd h2)with h|h
  · exact hI j h1 h
  subst h;exact a0a bx6 rfl bx5
 refine w_6 ?_;refine a8j 2 901 rfl rfl rfl rfl ?_;refine hrr ?_;have he:=ap9 (l:=l) (k:=k) bx5 hI;exact⟨_,_,rfl,bx7,gj (by rw[he]),⟨⟨_,rfl,jn he (by rw[he])⟩,trivial⟩⟩
def atz (l:List AS) (hl:l.length<=8589934592):dv bxr 115 [.one (.p (asl l))] [] (.v (.one (.ref 901 (ord l).length))) [(901, .arr true 1 50 (ord l).length (lf sC (ord l)))] []:=by
 refine hfx (nt:=10) Tryz.func115 ?_;refine w_7 ?_;refine fc9 a71 (a3h l.length false (lf sC l) bx5) trivial ?_;refine w_5 ?_;refine fc9 ata (b8f 0 _ l hl) uu ?_;refine w_4 ?_;refine l6 rfl rfl rfl rfl rfl rfl (wgx Tryz.func171) ((b1v (srt l)).swap 900 0) (⟨congrArg (HV.ref 0) (a94 l).symm,trivial⟩) ⟨⟨_,rfl,jn rfl (a94 l).symm⟩,trivial⟩ rfl rfl ?_;refine w_2 ?_;refine hrr ?_;exact⟨_,_,rfl,bx7,gj (by rw[a4v]),⟨⟨_,rfl,jn (a4v _).symm (by rw[a4v])⟩,trivial⟩⟩
def blf (s:AS):dv bxr 55 [.one (.p (asC s))] [] (.v (.one (.ref 901 (b6 s).length))) [(901, .arr true 1 50 (b6 s).length (lf sC (b6 s)))] []:=by
 refine hfx (nt:=23) Tryz.func55 ?_;refine w_8 ?_;refine qcx a08 (a9j s) ?_;refine w_2 ?_;refine hcd ?_ ?_<;>intro h0
 · refine w_4 ?_;refine d8 2 901 true 1 50 (lf sC []) bxc rfl (CoP.sl rfl (.inr rfl) (fun h=>h) (fun i j hi _=>absurd hi (bt9 i))) (.inr rfl) rfl ?_;refine hrr ?_;exact⟨_,_,rfl,bx7,gj (by rw[aa1 h0];rfl),⟨⟨_,rfl,jn (aa1 h0) (by rw[aa1 h0];rfl)⟩,trivial⟩⟩
 refine w_4 ?_;refine m9 0 ?_;refine w_9 ?_;refine am (ι:=List AS×AS) (ka 0 kn) km (fun y=>⟨[(3,some (.v (.one (.ref 0 y.1.length)))),(4,some (vA y.2))],[(0,some (.arr true 1 50 y.1.length (lf sC y.1)))]⟩) (fun y=>a95 s y) (fun y=>y.2.toNat) (([s],s)) (aj1 s) ⟨tt,⟨⟨_,rfl,(np (CoP.refl _))⟩,trivial⟩⟩ ?_;rintro y hy;have hlen:=hy.2.1;have hsl:=s.isLt;refine w_6 ?_;refine hcn ?_ ?_<;>intro h1
 ·
  have hne:y.2≠0:=fun e=>h1 (by rw[e];rfl);refine w_5 ?_;refine rq rfl rfl rfl rfl rfl ?_ (hp:=(x5 hne));refine w_7 ?_;refine m9 1 ?_;refine r9 2 true ?_;refine w_2 ?_;refine⟨(y.1++[(y.2-1)&&&s],(y.2-1)&&&s), ?_, ?_, ?_⟩
  · exact ajt hy hne
  · exact sd hne
  exact⟨⟨⟨_,rfl,(bo rfl)⟩,⟨_,rfl,(df (a1e hne))⟩,tt⟩,⟨⟨_,rfl,(bq rfl (CoP.of_eq (by rw[a1e hne];rfl)))⟩,trivial⟩⟩
 have hz:y.2=0:=cb.1 h1;refine w_2 ?_;refine bj 3 rfl rfl rfl ?_;refine w_2 ?_;refine fc9 uo (atz y.1 bx5) trivial ?_;refine w_2 ?_;refine hrr ?_;have he:=(aqp hy hz).trans (aha h0).symm;exact⟨_,_,rfl,bx7,gj (by rw[he]),⟨⟨_,rfl,jn he.symm (by rw[he])⟩,trivial⟩⟩
end
section
def bl8(l:List Fd)(p:AS):Int:=if aw 16 l=0 then(if 8<bsz p then 3 else if p>>>16=0 then 0 else 1)else aw 16 l
def bsg(l:List Fd)(p:AS):Fd:=if bl8 l p=0 then vi l p else⟨0,0⟩
def bqx(l:List Fd)(p:AS):Bool:=decide (bl8 l p=0)&&dx l p
def axw{f:Fd}(h:f=⟨0,0⟩):CoC (.agg [kj (.int .u32 0),kj (.int .u32 0)]) f.pc:=CoC.of_eq (by rw[h];rfl)
def bcP(n:Int)(l:List Fd)(f:Fd):Bool:=decide (f.rhs&&&~~~f.lhs≠0)&&decide (clo l f.lhs≠a6 n)
def bcS(n:Int)(l:List Fd):Bool:=decide (aw n l=0)&&!l.any (bcP n l)
section
variable {l:List Fd}{n:Int}
def b7v(h:aw n l=0):bcS n l=!l.any (bcP n l):=by unfold bcS;rw[decide_eq_true h,bu0]
def blx(h:¬aw n l=0):bcS n l=false:=by unfold bcS;rw[decide_eq_false h,Bool.false_and]
def b8e {f:Fd}:(!decide (bu .andNot .u32 (asI f.rhs) (asI f.lhs)=0)&&!decide (asI (clo l f.lhs)=asI (a6 n)))=bcP n l f:=by
 unfold bcP;rw[mc,show(0:Int)=asI 0 from rfl,a0h,a0h];simp
def dj(n:Int)(l:List Fd):List AS:=if fb n l 8=0 then(b6 (a6 n)).filter fun s=>!dx l s else[]
def anm(h:fb n l 8=0):dj n l=(b6 (a6 n)).filter fun s=>!dx l s:=if_pos h
def bgs(h:¬fb n l 8=0):dj n l=[]:=if_neg h
def pk{m:Int}(h:fb n l m=0):aw n l=0/\n<=m:=by
 unfold fb at h;split at h
 · rename_i hv
   split at h
   · cases h
   exact⟨hv,by omega⟩
 rename_i hv;exact absurd h hv
def b79 (n:Int) (l:List Fd):(dj n l).length<=4294967296:=by
 unfold dj;have:=rj (a6 n);split
 · exact bth (buo _ _) this
 simp
end
end
section
open Go.Proofs
def bcm (s:AS) (l:List Fd):a7 bxr 74 [pA s,pP (bx (fdl l))] (ae [pB (dx l s)]):=by
 refine hpx (nt:=13) Tryz.func74 ?_;refine w_8 ?_;refine qcx (wgx Tryz.func44) (b8d l s) ?_;refine w_3 ?_;refine m9 0 ?_;refine v_8 ?_;exact CoL.refl _
def amx:goodFn bxr 22:=wgx Tryz.func22
def ano (n:Int) (l:List Fd):a7 bxr 22 [pI n,pP (fdl l)] (ae [pP (asl (dj n l)),pI (fb n l 8)]):=by
 refine hpx (nt:=18) Tryz.func22 ?_;refine sx7 ?_;refine m9 2 ?_;refine w_8 ?_;refine qcx (wgx Tryz.func42) (bpf n l) ?_;refine w_7 ?_;refine hcn ?_ ?_<;>intro h0
 · refine v_6 ?_;exact⟨CoC.one (a7k (bgs h0)),CoC.refl _,trivial⟩
 refine w_2 ?_;have hv:=d9 (pk h0).1;refine ci 3 rfl rfl rfl ?_;refine w_2 ?_;refine qcx aq2 (awd n hv.1 hv.2.1) ?_;refine fc9 a6n (blf (a6 n)) trivial ?_;refine qy ?_;refine fc9 (wgx Tryz.func73) ((b8h (b6 (a6 n)) 74 1 (fun i=>[bx (fdl l)].getD i .any) (dx l) (wgx Tryz.func74) (fun s=>bcm s l)).swap 900 901) uu ?_;refine v_3 ?_;exact⟨CoC.one (CoP.of_eq (by rw[anm h0])),cci h0.symm,trivial⟩
end
section
def tn(l:List Fd)(p z:AS):AS:=(p&&&clo l (z&&&p))&&&~~~z
def jy(l:List Fd)(z p:AS):Bool:=decide (tn l p z≠0)
def vu (l:List Fd) (ps:List AS):Nat->AS->AS
 |0,z=>z
 | n+1,z=>match ps.find? (jy l z) with
  |none=>z
  |some p=>vu l ps n (z|||tn l p z)
def qa(l:List Fd)(ps:List AS)(z:AS):AS:=vu l ps 4294967297 z
def jb(l:List Fd)(ps:List AS)(f:Fd):Bool:=decide (sub f.rhs (qa l ps f.lhs))
def bk9(l:List Fd)(p z:AS):bu .andNot .u32 (bu .and .u32 (asI p) (asI (clo l (z&&&p)))) (asI z)=asI (tn l p z):=by rw[it,mc];rfl
section
variable {l:List Fd}
def bcj {p z:AS}:(!decide (asI (tn l p z)=0))=jy l z p:=by
 unfold jy;rw[show(0:Int)=asI 0 from rfl,a0h];simp
def blm {z m:AS} (h:m&&&~~~z=m) (h0:m≠0):z.toNat<(z|||m).toNat:=by
 have hs:sub z (z|||m):=ai.2 fun i _ hi=>by rw[buy,hi];rfl
 have hle:=ag0 hs
 rcases bvx hle with h1|h1
 · exact h1
 exfalso;apply h0;have e:z=z|||m:=bu2 h1
 apply bu7;intro i hi;have e1:=congrArg (fun s:AS=>s.getLsbD i) e;have e2:=congrArg (fun s:AS=>s.getLsbD i) h;simp only[buy,bta,bu9]at e1 e2;have e3:(0:AS).getLsbD i=false:=by simp
 rw[e3];rw[decide_eq_true hi]at e2;clear h h0 hs hle h1 e;revert e1 e2;cases z.getLsbD i<;>cases m.getLsbD i<;>simp
def aqm {p z:AS} (h:jy l z p=true):z.toNat<(z|||tn l p z).toNat:=by
 refine blm ?_ (of_decide_eq_true h);unfold tn;rw[BitVec.and_assoc,BitVec.and_self]
def aix(l:List Fd)(ps:List AS)(z0:AS)(x:Nat×List Nat×AS):Prop:=vu l ps x.1 x.2.2=qa l ps z0/\4294967296<x.1+x.2.2.toNat/\x.2.1.length+x.1=4294967297
def b6g (l:List Fd) (ps:List AS) (z0:AS):aix l ps z0 (4294967297,[],z0):=by
 refine⟨rfl, ?_, ?_⟩
 · dsimp only;omega
 dsimp only;rw[bwh]
variable {ps:List AS}{x:Nat×List Nat×AS}
def agu {z0:AS} (h:aix l ps z0 x):0<x.1:=by
 have:=h.2.1;have:=x.2.2.isLt;omega
def bab{z0:AS}(h:aix l ps z0 x)(hi:idx (jy l x.2.2) ps<0):x.2.2=qa l ps z0:=by
 have hp:=agu h;rw[<- h.1];obtain⟨n,hn⟩:∃n,x.1=n+1:=⟨x.1-1,by omega⟩;rw[hn];unfold vu
 have:ps.find? (jy l x.2.2)=none:=by
  have hm:idx (jy l x.2.2) ps=-1:=by
   by_cases h:idx (jy l x.2.2) ps=-1
   · exact h
   obtain⟨i,h1,_⟩:=uh h;omega
  exact alz (a0k hm)
 rw[this]
def b34{z0:AS}{i:Nat}(h:aix l ps z0 x)(hi:i<ps.length)(hv:jy l x.2.2 (ps.getD i default)=true)(hj:∀j,j<i->jy l x.2.2 (ps.getD j default)=false):
 aix l ps z0 (x.1-1,x.2.1++[i],x.2.2|||tn l (ps.getD i default) x.2.2):=by
 have hp:=agu h;have hlt:=aqm hv;obtain⟨h1,h2,h3⟩:=h;obtain⟨n,hn⟩:∃n,x.1=n+1:=⟨x.1-1,by omega⟩;refine⟨?_,by dsimp only;omega, ?_⟩
 · rw [<- h1,hn]
   have:ps.find? (jy l x.2.2)=some (ps.getD i default):=aoj hi hj hv;show vu l ps n _=_
   conv=>rhs;unfold vu
   rw[this]
 dsimp only;rw[bt8,bv0];omega
def sa(l:List Fd)(ps:List AS)(i:Nat):List Nat:=(List.range i).filter fun j=>!jb l ps (l.getD j default)
def j0(l:List Fd)(ps:List AS):Bool:=(List.range l.length).all fun j=>jb l ps (l.getD j default)
def aa9 {i:Nat} (h:jb l ps (l.getD i default)=false):sa l ps (i+1)=sa l ps i++[i]:=by
 unfold sa;rw[bu3,bu6];simp only[buf,h,bw8,bwx,if_true,bv3,btq,bup,if_false]
def a8x {i:Nat} (h:jb l ps (l.getD i default)=true):sa l ps (i+1)=sa l ps i:=by
 unfold sa;rw[bu3,bu6];simp only[buf,h,bw8,bwx,if_true,bv3,btq,bup,if_false]
def ax8(l:List Fd)(ps:List AS)(i:Nat):(sa l ps i).length<=i:=bth (buo _ _) (by rw[bvz];exact bt2 _)
def b4t:decide (((sa l ps l.length).length:Int)=0)=j0 l ps:=by
 unfold sa j0;rw[bv5,decide_eq_true_iff,btl];constructor
 · intro h x hx
   have h0:((List.range l.length).filter fun j=>!jb l ps (l.getD j default))=[]:=bui bx5;rw[bw3]at h0;have:=h0 x hx;simpa using this
 intro h;rw[bw3.2 fun x hx=>(by rw[h x hx];decide)];rfl
def bgh{f:Fd}:decide (bu .andNot .u32 (asI f.rhs) (asI (qa l ps f.lhs))=0)=jb l ps f:=decide_eq_decide.2 ep
def bcg (l:List Fd):HV.clo 180 2 (fun i=>[HV.p (bx (fdl l)), .ptr 1 0].getD i (.p .any))=HV.clo 180 2 (fun i=>([HV.p (bx (fdl l)), .ptr 1000 0].getD i (.p .any)).ren (swp 1000 1)) :=
 congrArg (HV.clo 180 2) (funext fun i=>match i with|0=>rfl|1=>rfl|n+2=>rfl)
end
end
section
open Go.Proofs
def b94 (l:List Fd) (p z:AS):a7 bxr 181 [pP (fdl l),pA p,pA z] (ae [pA (tn l p z)]):=by
 refine hpx (nt:=16) Tryz.func181 ?_;refine gv ?_;refine rc rfl rfl rfl rfl rfl rfl rp (rg l (z&&&p)) (⟨CoC.refl _,cci (it _ _),trivial⟩) rfl rfl ?_;refine v_5 ?_;exact⟨cci (bk9 l p z),trivial⟩
def bo6 (x:AS) (l:List Fd) (z:AS):dv bxr 180 [.one (.p (asC x)), .one (.p (bx (fdl l))), .one (.ptr 1000 0)] [(1000, .box [.p (asC z)])] (.v (.one (.p (.raw (.bool (jy l z x)))))) [(1000, .box [.p (asC z)])] [1000]:=by
 refine hfx (nt:=10) Tryz.func180 ?_;refine w_9 ?_;refine qcx (wgx Tryz.func181) (b94 l x z) ?_;refine w_3 ?_;refine hrr ?_;exact⟨_,_,rfl,bx7,cob bcj,uu⟩
def bpq(ps:List AS)(l:List Fd)(z:AS):dv bxr 124 [.one (.p (asl ps)), .one (.clo 180 2 fun i=>[HV.p (bx (fdl l)), .ptr 1000 0].getD i (.p .any))] [(1000, .box [.p (asC z)])] (.v (.one (.p (.raw (.int .i64 (idx (jy l z) ps)))))) [(1000, .box [.p (asC z)])] [1000]:=by
 refine hfx (nt:=19) Tryz.func124 ?_;refine dt ?_;refine e9 0 rfl fun hn=>?_;refine w_3 ?_;refine dp (ι:=Unit) kn (kb 1000 km) (fun _i=>⟨[],[]⟩) (fun _i=>idx (jy l z) ps=-1) ?_ ?_
 ·
  refine w_7 ?_;refine am (ι:=Nat) (ka 0 (ka 1 (ka 7 kn))) (kb 1000 km) (fun i=>⟨[(8,some (vI i))],[]⟩) (fun i=>i<=ps.length/\(∀j,j<i->jy l z (ps.getD j default)=false)) (fun i=>ps.length-i) (0) (⟨bt6 _,d5⟩) kk ?_;rintro i ⟨hi,hI⟩;refine w_5 ?_;refine hcd ?_ ?_<;>intro h0
  ·
   refine jk ?_;refine fc9 (wgx Tryz.func180) (bo6 (ps.getD i default) l z) uu ?_;refine dq ?_;refine hcb ?_ ?_<;>intro h1
   · refine w_5 ?_;refine hrr ?_;exact⟨_,_,rfl,bx7,coi (vd (i:=i) bx5 hI h1).symm,uu⟩
   refine w_5 ?_;refine lpz (i+1) kk ?_;exact⟨by show i+1<=_;omega,c6 hI (h1)⟩
  refine ek ?_;refine⟨(), ?_, ?_⟩
  · exact vq fun j hj=>hI j bx5
  exact kk
 rintro _ hj;refine w_4 ?_;refine hrr ?_;exact⟨_,_,rfl,bx7,coi hj.symm,uu⟩
def bfe(l:List Fd)(ps:List AS)(z0:AS):a7 bxr 128 [pP (fdl l),pP (asl ps),pA z0] (ae [pA (qa l ps z0),pP .any]):=by
 refine hpx (nt:=30) Tryz.func128 ?_;refine sx7 ?_;refine m9 0 ?_;refine m9 1 ?_;refine w_8 ?_;refine ci 3 rfl rfl rfl ?_;refine d8 8 900 true 1 3 (lf iC []) bxc rfl (CoP.sl rfl (.inr rfl) (fun h=>h) (fun i j hi _=>absurd hi (bt9 i))) (.inr rfl) rfl ?_;refine am (ι:=Nat×List Nat×AS) (ka 1 (ka 3 (ka 5 kn))) km (fun x=>⟨[(8,some (.v (.one (.ref 900 x.2.1.length))))],[(900,some (.arr true 1 3 x.2.1.length (lf iC x.2.1))),(1,some (.box [.p (asC x.2.2)]))]⟩) (fun x=>aix l ps z0 x) (fun x=>x.1) ((4294967297,[],z0)) (b6g l ps z0) kk ?_;rintro x hx;have hlen:=hx.2.2;have hpos:=agu hx;refine w_5 ?_;refine l6 rfl rfl rfl rfl rfl rfl ai8 ((bpq ps l x.2.2).swap 1000 1) (⟨CoP.refl _,bcg l,trivial⟩) uu rfl rfl ?_;refine w_8 ?_;refine hcd ?_ ?_<;>intro h0
 · refine dt ?_;refine bj 8 rfl rfl rfl ?_;refine v_6 ?_;exact⟨cci (congrArg asI (bab hx bx5)),CoC.one (CoP.any_of),trivial⟩
 obtain⟨i0,hi0,hi1,hi2,hi3⟩:=uh (p:=jy l x.2.2) (l:=ps) bx5;refine cr ?_;refine rc rfl rfl rfl rfl rfl rfl (wgx Tryz.func181) (b94 l (ps.getD i0 default) x.2.2) (⟨CoC.refl _,CoC.one (CoP.of_eq (by rw[hi0];rfl)),CoC.refl _,trivial⟩) rfl rfl ?_;refine w_7 ?_;refine m9 2 ?_;refine r9 3 true ?_;refine w_2 ?_;refine⟨(x.1-1,x.2.1++[i0],x.2.2|||tn l (ps.getD i0 default) x.2.2), ?_, ?_, ?_⟩
 · exact b34 hx hi1 hi2 hi3
 · dsimp only
   omega
 exact⟨⟨⟨_,rfl,(bo rfl)⟩,tt⟩,⟨⟨_,rfl,(bq rfl (CoP.of_eq (congrArg (fun z=>PV.raw (.int .i64 z)) hi0)))⟩,⟨_,rfl,⟨CoP.of_eq (congrArg (fun z=>PV.raw (.int .u32 z)) (bOr _ _)),trivial⟩⟩,trivial⟩⟩
def bly (l:List Fd) (ps:List AS) (z:AS):a7 bxr 75 [pP (fdl l),pP (asl ps),pA z] (ae [pA (qa l ps z)]):=by
 refine hpx (nt:=17) Tryz.func75 ?_;refine w_9 ?_;refine qcx (wgx Tryz.func128) (bfe l ps z) ?_;refine gv ?_;exact hx8 rfl rfl rfl (CoL.refl _)
def amj:goodFn bxr 23:=wgx Tryz.func23
def av0 (l:List Fd) (ps:List AS) (x:Fd):a7 bxr 23 [pP (fdl l),pP (asl ps),x.pc] (ae [pB (jb l ps x)]):=by
 refine hpx (nt:=16) Tryz.func23 ?_;refine sx7 ?_;refine m9 0 ?_;refine cr ?_;refine qcx (wgx Tryz.func75) (bly l ps x.lhs) ?_;refine v_5 ?_;exact⟨ccb bgh,trivial⟩
def bmo(l:List Fd)(ps:List AS)(hl:l.length<=16777216):a7 bxr 72 [pP (fdl l),pP (asl ps)] (ae [pP (il (sa l ps l.length))]):=by
 refine hpx (nt:=26) Tryz.func72 ?_;refine cr ?_;refine e9 0 rfl fun hn=>?_;refine w_6 ?_;refine d8 5 900 true 1 3 (lf iC []) bxc rfl (CoP.sl rfl (.inr rfl) (fun h=>h) (fun i j hi _=>absurd hi (bt9 i))) (.inr rfl) rfl ?_;refine bw (ka 0 (ka 1 (ka 8 (ka 9 kn)))) km (fun i=>⟨[(5,some (.v (.one (.ref 900 (sa l ps i).length)))),(10,some (vI i))],[(900,some (.arr true 1 3 (sa l ps i).length (lf iC (sa l ps i))))]⟩) l.length kk ?_;rintro i hi;have hlen:=ax8 l ps i;refine w_5 ?_;refine hcd ?_ ?_<;>intro h0
 ·
  refine w_8 ?_;refine m9 0 ?_;refine w_8 ?_;refine qcx amj (av0 l ps (l.getD i default)) ?_;refine w_2 ?_;refine ax _ rfl ?_ ?_<;>intro r1
  ·
   have h1:=cj r1;have hq:=cj r1;refine w_3 ?_;refine m9 1 ?_;refine r9 2 true ?_;refine w_6 ?_
   first | (refine lpz (i+1) ⟨⟨⟨_, rfl, (bo (aa9 bx6))⟩, tt⟩, ⟨⟨_, rfl, (bq (aa9 bx6) (CoP.refl _))⟩, trivial⟩⟩ ?_; show i+1<=_; omega)
         |(refine lpz (i+1) ⟨⟨⟨_,rfl,(be (a8x bx6))⟩,tt⟩,⟨⟨_,rfl,(az (a8x bx6))⟩,trivial⟩⟩ ?_;show i+1<=_;omega)
  have h1:=cn r1;have hq:=cn r1;refine w_5 ?_
  first | (refine lpz (i+1) ⟨⟨⟨_, rfl, (bo (aa9 bx6))⟩, tt⟩, ⟨⟨_, rfl, (bq (aa9 bx6) (CoP.refl _))⟩, trivial⟩⟩ ?_; show i+1<=_; omega)
        |(refine lpz (i+1) ⟨⟨⟨_,rfl,(be (a8x bx6))⟩,tt⟩,⟨⟨_,rfl,(az (a8x bx6))⟩,trivial⟩⟩ ?_;show i+1<=_;omega)
 obtain rfl:i=l.length:=by omega
 refine w_6 ?_;refine bj 4 rfl rfl rfl ?_;exact hx8 rfl rfl rfl (⟨CoC.one (CoP.refl _),trivial⟩)
def ae9:goodFn bxr 21:=wgx Tryz.func21
def aut (l:List Fd) (ps:List AS) (hl:l.length<=16777216):a7 bxr 21 [pP (fdl l),pP (asl ps)] (ae [pB (j0 l ps)]):=by
 refine hpx (nt:=10) Tryz.func21 ?_;refine w_8 ?_;refine qcx (wgx Tryz.func72) (bmo l ps hl) ?_;refine v_4 ?_;exact⟨ccb b4t,trivial⟩
end
end Go.Hx
