/- A part of the proof: Hx30 Hx32 Hx33 Hx35 Da7. -/
import Derived.Test.YtcepfnkhagkdeaaGreatDoorUx18
set_option linter.all false
namespace Go.Hx
section
open Go.RowKit
section
variable {w0:World}{nt:Nat}{c:Pc}{s:S}{a:Act}{w:World}
theorem ah.redo (h:ah w0 nt c s a w) (D:Nat->Prop) (own':Nat->Value) (blk':Nat->Nat->Prop) (rows':Nat->Nat->Value) (o':av)
 (hD:∀q,D q->q<1000) (hs:∀q,¬D q->o' q=s.o q/\own' q=c.own q/\blk' q=c.blk q/\rows' q=c.rows q)
 (he:∀q,D q->((∀d x,s.t d=some x->¬x.men q)/\∀id ob,¬D id->s.o id=some ob->¬ob.men q)\/Vc c s.o { old:=c.old,imm:=c.imm,tab:=c.tab,own:=own',blk:=blk',rows:=rows' } o' q)
 (hob:∀q ob,D q->o' q=some ob->eq 0 { old:=c.old,imm:=c.imm,tab:=c.tab,own:=own',blk:=blk',rows:=rows' } o' w q ob)
 (hfrom:∀q ob b,D q->o' q=some ob->blk' q b->∃q0 ob0,D q0/\s.o q0=some ob0/\c.blk q0 b)
 (hin:∀q q' ob ob' b,D q->D q'->o' q=some ob->o' q'=some ob'->blk' q b->blk' q' b->q=q') :
 ah w0 nt { old:=c.old,imm:=c.imm,tab:=c.tab,own:=own',blk:=blk',rows:=rows' } ⟨s.t,o'⟩ a w:=by
 have hevo:∀q,¬D q->Vc c s.o { old:=c.old,imm:=c.imm,tab:=c.tab,own:=own',blk:=blk',rows:=rows' } o' q:=λq hq=>by
  obtain⟨h1,h2,h3,h4⟩:=hs q hq;exact Vc.of_same h1 h2 h4
 refine⟨h.defers,h.size,h.below,λd x hx=>?_,λq ob hq=>?_,λq q' ob ob' b hq hq' hb hb'=>?_,h.imm,λq ob b hq hb=>?_,h.was,h.frm,λq ob b hq hb=>?_,λq hq=>?_⟩
 .refine (h.tmps d x hx).evo (Dc.le.refl c.imm) λq hm=>?_
  grind
 .by_cases hd:D q
  .grind
  obtain⟨h1,h2,h3,h4⟩:=hs q hd;have hq:o' q=some ob:=hq;rw[h1]at hq;refine(h.objs q ob hq).keep (Dc.le.refl c.imm) h2 h3 (λj hj=>?_) (λb hb=>rfl) h4
  grind
 .have hq:o' q=some ob:=hq
  have hq':o' q'=some ob':=hq'
  have cross:∀q q' ob ob',D q->¬D q'->o' q=some ob->o' q'=some ob'->blk' q b->blk' q' b->False:=λq q' ob ob' hd hd' hq hq' hb hb'=>by
   obtain⟨q0,ob0,h1,h2,h3⟩:=hfrom q ob b hd hq hb;obtain⟨h4,_,h5,_⟩:=hs q' hd';rw[h4]at hq';rw[h5]at hb';have:=h.inj q0 q' ob0 ob' b h2 hq' h3 hb'
   grind
  by_cases hd:D q
  .grind
  by_cases hd':D q'
  .grind
  obtain⟨h1,_,h3,_⟩:=hs q hd;obtain⟨h1',_,h3',_⟩:=hs q' hd';rw[h1]at hq;rw[h1']at hq';simp only[h3]at hb;simp only[h3']at hb';exact h.inj q q' ob ob' b hq hq' hb hb'
 .have hq:o' q=some ob:=hq
  by_cases hd:D q
  .obtain ⟨q0,ob0,_,h2,h3⟩:=hfrom q ob b hd hq hb
   exact h.sep q0 ob0 b h2 h3
  obtain⟨h1,_,h3,_⟩:=hs q hd;rw[h1]at hq;simp only[h3]at hb;exact h.sep q ob b hq hb
 .have hq:o' q=some ob:=hq
  by_cases hd:D q
  .obtain ⟨q0,ob0,_,h2,h3⟩:=hfrom q ob b hd hq hb
   exact h.fsep q0 ob0 b h2 h3
  obtain⟨h1,_,h3,_⟩:=hs q hd;rw[h1]at hq;simp only[h3]at hb;exact h.fsep q ob b hq hb
 have:¬D q:=λhd=>by have:=hD q hd;omega
 exact(h.fixed q hq).trans (hevo q this)
structure aG (et:TypeId) (es n r:Nat) (m:Nat->Nat) (g:Nat->Nat->Nat->PV) (hd:Nat->Value) (B:Nat->Option Obj):Prop where
 pos:0<es
 len:n<=maxLen
 row:∀i,i<n->i≠r->(m i=0/\∃a,hd i=.slice a 0 0)\/∃b cap cur,hd i=.slice (some ⟨b,0,none⟩) (m i) cap/\ay (hd i)=some b/\B b=some (.cells cur et (0,0))/\m i<=cap/\cap<=maxLen/\cur.size=cap*es /\
  ∀q j,q<m i->j<es->∃x,(cur.toList.take (m i*es))[q*es+j]? = some x/\g i q j=.raw x/\x.oneCell'=true
 apart:∀i i' b,i<n->i≠r->i'<n->i'≠r->ay (hd i)=some b->ay (hd i')=some b->i'=i
 blk:∀b,B b≠none->∃i,i<n/\i≠r/\ay (hd i)=some b
def Gs(hd:Nat->Value)(id' r k:Nat):Nat->Nat->HV:=λi _=>bif Nat.beq i r then .ref id' k else .p (.raw (hd i))
def VO(hd:Nat->Value)(id' r k j:Nat):Gs hd id' r k r j=.ref id' k:=by simp[Gs]
def HP {hd:Nat->Value} {id' r k i j:Nat} (h:i≠r):Gs hd id' r k i j=.p (.raw (hd i)):=by
 have:Nat.beq i r=false:=by rw[Ie];exactλhb=>h (Vi hb)
 simp[Gs,this]
def b73{imm:Dc}{s':Nat}{f:Nat->Nat->PV}{a:Option Addr}:aq imm (.sl 0 s' true f) (.slice a 0 0):=⟨a,0,rfl,Yb _,Zb _,λ_=>rfl,λh=>Ea h (Pl 0)⟩
section
variable {et:TypeId}{g:Nat->Nat->Nat->PV}{m:Nat->Nat}
theorem ah.split(h:ah w0 nt c s a w){id id' idb r n:Nat}{e:TypeId}{es:Nat}(ho:s.o id=some (.nest e et es n m g none))(hid:id<1000)(hr:r<n)(hraw:∀i q j,i<n->q<m i->j<es->∃v,g i q j=.raw v)(hm':NM s id')(hn':s.o id'=none)(hmb:NM s idb)(hnb:s.o idb=none)(hne:id'≠idb):
 ∃hd B c',aG et es n r m g hd B/\c'.old=c.old/\ah w0 nt c' ⟨s.t,λq=>if q=idb then some (.bun B)else if q=id' then some (.arr true es et (m r) (g r))else if q=id then some (.arrh 1 e n [id'] (Gs hd id' r (m r)))else s.o q⟩ a w:=by
 classical
 have hnk:lh 0 c s.o w id e et es n m g none:=h.objs id _ ho;have hid':id'≠id:=by rintro rfl;rw[ho]at hn';cases hn'
 have hidb:idb≠id:=by rintro rfl;rw[ho]at hnb;cases hnb
 let hd:Nat->Value:=λi=>c.rows id i
 let B:Nat->Option Obj:=λb=>if ∃i,i<n/\i≠r/\ay (c.rows id i)=some b then w.heap[b]? else none
 have hB:∀i b,i<n->i≠r->ay (c.rows id i)=some b->B b=w.heap[b]?:=λi b h1 h2 h3=>Ba ⟨i,h1,h2,h3⟩;have hlen:=hnk.len;simp only[ng]at hlen
 have hbf:aG et es n r m g hd B:=by
  refine⟨hnk.pos,by omega,λi hi hir=>?_,λi i' b h1 h2 h3 h4 h5 h6=>(hnk.apart i b h1 h5).2 i' h3 h6,λb hb=>?_⟩
  .rcases hnk.row i hi with r0|⟨ys,r1,r2⟩
   .exact .inl r0
   rcases gh r1 with r0|⟨b,cap,rv,rb⟩
   .exact .inl r0
   rcases r1.2 with⟨hv,_⟩|⟨b',cap',cur,hv,_,hh,q1,q2,q3,q4⟩
   .grind
   rw[rv]at hv;simp only[Ka,Bb,Addr.mk.injEq,and_true,true_and]at hv;obtain⟨rfl,rfl⟩:=hv;refine .inr ⟨b,cap,cur,rv,rb,(hB i b hi hir rb).trans hh,q1,q2,q3,λq j hq hj=>?_⟩;obtain⟨x,hx,Be⟩:=r2 q j hq hj;obtain⟨v,hv⟩:=hraw i q j hi hq hj;rw[hv]at Be;obtain⟨e1,e2⟩:=Be
   grind
  grind
 obtain ⟨xt,t1,t2,_⟩:∃xs,w.ownsRow 0 e 1 (c.own id) (n+ng none) xs/\(∀i,i<n->xs[i]? = some (c.rows id i))/\∀p,(none:Option (Nat×Nat))=some p->∃x,xs[n]? = some x/\bc c s.o (.ref p.1 p.2) x:=by
  rcases hnk.top with⟨h1,_⟩|h1
  .grind
  exact h1
 have t1:w.ownsRow 0 e 1 (c.own id) n xt:=t1
 obtain ⟨bt,capt,ht0,htc⟩:∃b cap,c.own id=.slice (some ⟨b,0,none⟩) n cap/\ay (c.own id)=some b:=by
  rcases gh t1 with⟨h1,_⟩|h1
  .omega
  exact h1
 have hbs:∀b,fq (c.own id) b<->b=bt:=λb=>by rw[ht0];simp[fq,d5,eq_comm]
 have hrow1:∀i,i<n->(c.rows id i).oneCell'=true:=λi hi=>by
  rcases hnk.row i hi with⟨_,x,h1⟩|⟨ys,h1,_⟩
  .rw[h1];rfl
  rcases h1.2 with⟨h1,_⟩|⟨_,_,_,h1,_⟩<;>(rw[h1];rfl)
 let blr:Nat->Prop:=λb=>ay (c.rows id r)=some b
 let own':Nat->Value:=λq=>if q=id' then c.rows id r else c.own q
 let blk':Nat->Nat->Prop:=λq=>if q=idb then(λb=>B b≠none)else if q=id' then blr else if q=id then fq (c.own id)else c.blk q
 let o':av:=λq=>if q=idb then some (.bun B)else if q=id' then some (.arr true es et (m r) (g r))else if q=id then some (.arrh 1 e n [id'] (Gs hd id' r (m r)))else s.o q
 have ob1:o' idb=some (.bun B):=Ba rfl;have ob2:o' id'=some (.arr true es et (m r) (g r)):=by show(if id'=idb then _ else if id'=id' then _ else _)=_;rw[Ca hne,Ba rfl]
 have ob3:o' id=some (.arrh 1 e n [id'] (Gs hd id' r (m r))):=by show(if id=idb then _ else if id=id' then _ else if id=id then _ else _)=_;rw[Ca (Ne.symm hidb),Ca (Ne.symm hid'),Ba rfl]
 have bk1:blk' idb=λb=>B b≠none:=Ba rfl;have bk2:blk' id'=blr:=by show(if id'=idb then _ else if id'=id' then _ else _)=_;rw[Ca hne,Ba rfl]
 have bk3:blk' id=fq (c.own id):=by show(if id=idb then _ else if id=id' then _ else if id=id then _ else _)=_;rw[Ca (Ne.symm hidb),Ca (Ne.symm hid'),Ba rfl]
 have ow2:own' id'=c.rows id r:=Ba rfl;have ow3:own' id=c.own id:=Ca (Ne.symm hid')
 have hDc:∀q,(q=id\/q=id'\/q=idb)->∀ob,o' q=some ob->∀b,blk' q b->c.blk id b:=λq hq ob hob b hb=>by
  rcases hq with rfl|rfl|rfl
  .rw [bk3]at hb
   exact(hnk.blks b).2 (.inl (by rw[(hbs b).1 hb];exact htc))
  .rw [bk2]at hb
   exact(hnk.blks b).2 (.inr ⟨r,hr,hb⟩)
  rw[bk1]at hb;obtain⟨i,h1,h2,h3⟩:=hbf.blk b hb;exact(hnk.blks b).2 (.inr ⟨i,h1,h3⟩)
 refine⟨hd,B,{ old:=c.old,imm:=c.imm,tab:=c.tab,own:=own',blk:=blk',rows:=c.rows },hbf,rfl,h.redo (λq=>q=id\/q=id'\/q=idb) own' blk' c.rows o' ?_ ?_ ?_ ?_ ?_ ?_⟩
 .rintro q (rfl|rfl|rfl)
  .exact hid
  .exact hm'.2.2
  exact hmb.2.2
 .grind
 .rintro q (rfl|rfl|rfl)
  .exact .inr (.inr (.inr ⟨_,_,1,e,n,n,ho,rfl,ob3,rfl,Yb _,λ_=>ow3,λ_ _ _ _ _ _ _ hb=>by cases hb⟩))
  .exact .inl ⟨hm'.1,λid0 ob _ h0=>hm'.2.1 id0 ob h0⟩
  exact .inl ⟨hmb.1,λid0 ob _ h0=>hmb.2.1 id0 ob h0⟩
 .rintro q ob (rfl|rfl|rfl) hq
  .rw [ob3]at hq
   cases hq;refine⟨Nat.one_pos,by omega,λi j k hi hj hk=>?_, .inl ⟨by show blk' q=fq (own' q);rw[bk3,ow3],xt,by show w.ownsRow 0 e 1 (own' q) n xt;rw[ow3];exact t1,λi j hi hj=>?_⟩⟩
   .by_cases hir:i=r
    .subst hir;rw[VO]at hk;simp only[HV.men]at hk;simp[hk]
    rw[HP hir]at hk;exact hk.elim
   obtain rfl:j=0:=by omega
   refine⟨c.rows q i,by rw[Zj,Fi];exact t2 i hi, ?_⟩;by_cases hir:i=r
   .subst hir
    rw[VO];refine⟨hrow1 i hi,λl hl=>?_,λob0 s0 e0 n0 ho0 hd0=>?_⟩
    .grind
    rw[ob2]at ho0;cases ho0;simp only[a8.dim,Bb,Tc]at hd0
    grind
   rw[HP hir];exact⟨rfl,hrow1 i hi⟩
  .rw [ob2]at hq
   cases hq;refine⟨hnk.pos,hnk.lens r hr, ?_⟩
   have hemp:(m r=0/\∃x,c.rows id r=.slice x 0 0)->(true=false\/m r=0)/\blk' q=Cg/\aq c.imm (.sl (m r) es true (g r)) (own' q):=λ⟨h1,x,h2⟩=>by
    refine⟨.inr h1, ?_, ?_⟩
    .rw [bk2]
     funext b;show(ay (c.rows id r)=some b)=False;rw[h2];cases x<;>simp[ay]
    rw[ow2,h2,h1];exact b73
   rcases hnk.row r hr with r0|⟨ys,r1,r2⟩
   .grind
   rcases gh r1 with r0|⟨b,cap,rv,rb⟩
   .grind
   have hb2:blk' q=fq (own' q):=by
    rw[bk2];funext b';show(ay (c.rows id r)=some b')=(d5 (own' q)=some b');rw[ow2,rb,rv];rfl
   grind
  rw[ob1]at hq;cases hq;refine⟨λb hb=>by have hb:blk' q b:=hb;rw[bk1]at hb;exact hb,λb x hx=>?_⟩;have hne2:B b≠none:=λe=>by rw[e]at hx;cases hx
  obtain⟨i,h1,h2,h3⟩:=hbf.blk b hne2;have hc:c.blk id b:=(hnk.blks b).2 (.inr ⟨i,h1,h3⟩);rw[hB i b h1 h2 h3]at hx;obtain⟨y,hy,hyd⟩:=(h.objs id _ ho).data hc
  grind
 .intro q ob b hq hob hb
  exact⟨id,_, .inl rfl,ho,hDc q hq ob hob b hb⟩
 have x12:∀b,blk' id b->blk' id' b->False:=λb h1 h2=>by
  rw[bk3]at h1;rw[bk2]at h2;exact(hnk.apart r b hr h2).1 (by rw[(hbs b).1 h1];exact htc)
 have x13:∀b,blk' id b->blk' idb b->False:=λb h1 h2=>by
  rw[bk3]at h1;rw[bk1]at h2;obtain⟨i,q1,q2,q3⟩:=hbf.blk b h2;exact(hnk.apart i b q1 q3).1 (by rw[(hbs b).1 h1];exact htc)
 have x23:∀b,blk' id' b->blk' idb b->False:=λb h1 h2=>by
  rw[bk2]at h1;rw[bk1]at h2;obtain⟨i,q1,q2,q3⟩:=hbf.blk b h2;exact q2 ((hnk.apart r b hr h1).2 i q1 q3)
 rintro q q' ob ob' b (rfl|rfl|rfl) (rfl|rfl|rfl) _ _ hb hb'
 .rfl
 .simp_all
 .simp_all
 .simp_all
 .rfl
 .grind
 .simp_all
 .grind
 rfl
def ah.join(h:ah w0 nt c s a w){id id' idb id2 r n k:Nat}{e:TypeId}{es:Nat}{ms:List Nat}{f:Nat->Nat->HV}{ff:Nat->Nat->PV}{hd:Nat->Value}{B:Nat->Option Obj}(ho:s.o id=some (.arrh 1 e n ms f))(ho':s.o id'=some (.arr true es et k ff))(hob:s.o idb=some (.bun B))(hbf:aG et es n r m g hd B)(hr:r<n)(hfr:f r 0=.ref id' k)(hfi:∀i,i<n->i≠r->f i 0=.p (.raw (hd i)))(hid:id<1000)(hid':id'<1000)(hidb:idb<1000)(hm2:NM s id2)(hn2:s.o id2=none):
 ∃c',c'.old=c.old/\c'.own id2=c.own id/\ah w0 nt c' ⟨s.t,λq=>if q=id2 then some (.nest e et es n (ju m r k) (om g r ff) none)else if q=id\/q=id'\/q=idb then none else s.o q⟩ a w:=by
 have x1:id'≠id:=by rintro rfl;rw[ho]at ho';cases ho'
 have x2:idb≠id:=by rintro rfl;rw[ho]at hob;cases hob
 have x3:idb≠id':=by rintro rfl;rw[ho']at hob;cases hob
 have y1:id2≠id:=by rintro rfl;rw[ho]at hn2;cases hn2
 have y2:id2≠id':=by rintro rfl;rw[ho']at hn2;cases hn2
 have y3:id2≠idb:=by rintro rfl;rw[hob]at hn2;cases hn2
 obtain⟨_,_,_,h5⟩:=h.objs id _ ho
 obtain ⟨h6,xt,t1,t2⟩:c.blk id=fq (c.own id)/\∃xs,w.ownsRow 0 e 1 (c.own id) n xs/\∀i j,i<n->j<1->∃x,xs[i*1+j]? = some x/\bc c s.o (f i j) x:=by
  rcases h5 with h5|⟨h5,_⟩
  .exact h5
  omega
 obtain⟨q0,q1,q5⟩:=h.objs id' _ ho';obtain⟨b1,b2⟩:=h.objs idb _ hob
 obtain ⟨bt,capt,ht0,htc⟩:∃b cap,c.own id=.slice (some ⟨b,0,none⟩) n cap/\ay (c.own id)=some b:=by
  rcases gh t1 with⟨h1,_⟩|h1
  .omega
  exact h1
 have hct:c.blk id bt:=by rw[h6,ht0];rfl
 let rws:Nat->Value:=λi=>if i=r then c.own id' else hd i
 have rr:rws r=c.own id':=Ba rfl;have rn:∀i,i≠r->rws i=hd i:=λi hi=>Ca hi
 have hcr:∀b,ay (c.own id')=some b->c.blk id' b:=λb hb=>by
  rcases q5 with⟨q6,_⟩|⟨q7,_,q8⟩
  .rw[q6];exact VW hb
  obtain⟨ad,cap,r1,_,_,r4,_⟩:=q8
  rcases q7 with q7|q7
  .cases q7
  subst q7;rw[r1,r4 rfl]at hb;cases ad<;>simp[ay]at hb
 have hrow:(k=0/\∃a,c.own id'=.slice a 0 0)\/∃ys,w.ownsRow 0 et es (c.own id') k ys/\∀r j,r<k->j<es->∃x,ys[r*es+j]? = some x/\aq c.imm (ff r j) x:=by
  rcases q5 with⟨_,xs,q7,q8⟩|⟨q6,_,q8⟩
  .exact .inr ⟨xs,q7,q8⟩
  rcases q6 with q6|q6
  .cases q6
  subst q6;exact .inl ⟨rfl,zg q8⟩
 have hrows:∀i,i<n->xt[i]? = some (rws i):=λi hi=>by
  obtain⟨x,hx,Be⟩:=t2 i 0 hi Za;rw[Zj,Fi]at hx;by_cases hir:i=r
  .subst hir
   rw[hfr]at Be;rw[rr,hx,(Be.2.2 _ _ _ _ ho' rfl).2 rfl]
  rw[hfi i hi hir]at Be;rw[rn i hir,hx,Be.1]
 have We:∀i b,i<n->i≠r->ay (hd i)=some b->c.blk idb b:=λi b hi hir hb=>by
  rcases hbf.row i hi hir with⟨_,x,h1⟩|⟨b',cap,cur,h1,h2,h3,_⟩
  .rw[h1]at hb;cases x<;>simp[ay]at hb
  rw[h2]at hb;cases hb;exact(b2 _ _ h3).1
 let bk:Nat->Prop:=λb=>ay (c.own id)=some b\/∃i,i<n/\ay (rws i)=some b
 have hfrom:∀b,bk b->c.blk id b\/c.blk id' b\/c.blk idb b:=λb hb=>by
  rcases hb with hb|⟨i,hi,hb⟩
  .rw [htc]at hb
   cases hb;exact .inl hct
  by_cases hir:i=r
  .subst hir;rw[rr]at hb;exact .inr (.inl (hcr b hb))
  rw[rn i hir]at hb;exact .inr (.inr (We i b hi hir hb))
 let own':Nat->Value:=λq=>if q=id2 then c.own id else c.own q
 let blk':Nat->Nat->Prop:=λq=>if q=id2 then bk else c.blk q
 let rows':Nat->Nat->Value:=λq=>if q=id2 then rws else c.rows q
 let o':av:=λq=>if q=id2 then some (.nest e et es n (ju m r k) (om g r ff) none)else if q=id\/q=id'\/q=idb then none else s.o q
 have o2:o' id2=some (.nest e et es n (ju m r k) (om g r ff) none):=Ba rfl
 have o1:∀q,(q=id\/q=id'\/q=idb)->o' q=none:=λq hq=>by
  show(if q=id2 then _ else if q=id\/q=id'\/q=idb then none else s.o q)=none;rw[Ca (by rcases hq with rfl|rfl|rfl<;>(intro e;first|exact y1 e.symm|exact y2 e.symm|exact y3 e.symm)),Ba hq]
 have w2:own' id2=c.own id:=Ba rfl;have k2:blk' id2=bk:=Ba rfl;have s2:rows' id2=rws:=Ba rfl;refine⟨{ old:=c.old,imm:=c.imm,tab:=c.tab,own:=own',blk:=blk',rows:=rows' },rfl,w2,h.redo (λq=>q=id2\/q=id\/q=id'\/q=idb) own' blk' rows' o' ?_ ?_ ?_ ?_ ?_ ?_⟩
 .rintro q (rfl|rfl|rfl|rfl)
  .exact hm2.2.2
  .exact hid
  .exact hid'
  exact hidb
 .intro q hq
  have z1:q≠id2:=λe=>hq (.inl e);refine⟨?_,Ca z1,Ca z1,Ca z1⟩;show(if q=id2 then _ else if q=id\/q=id'\/q=idb then none else s.o q)=_;rw[Ca z1,Ca (λe=>hq (.inr e))]
 .rintro q (rfl|hq)
  .exact .inl ⟨hm2.1,λid0 ob _ h0=>hm2.2.1 id0 ob h0⟩
  exact .inr (.inl (o1 q hq))
 .rintro q ob (rfl|hq) hob'
  .rw [o2]at hob'
   cases hob';have hlenn:n<=maxLen:=hbf.len
   have apart:∀i b,i<n->ay (rws i)=some b->ay (c.own id)≠some b/\∀i',i'<n->ay (rws i')=some b->i'=i:=λi b hi hb=>by
    have own_i:(i=r/\c.blk id' b)\/(i≠r/\c.blk idb b):=by
     by_cases hir:i=r
     .subst hir;rw[rr]at hb;exact .inl ⟨rfl,hcr b hb⟩
     rw[rn i hir]at hb;exact .inr ⟨hir,We i b hi hir hb⟩
    refine⟨λhe=>?_,λi' hi' hb'=>?_⟩
    .rw [htc]at he
     cases he
     rcases own_i with⟨_,h7⟩|⟨_,h7⟩
     .exact x1 (h.inj id' id _ _ _ ho' ho h7 hct)
     exact x2 (h.inj idb id _ _ _ hob ho h7 hct)
    by_cases hir:i=r
    .by_cases hir':i'=r
     .rw[hir,hir']
     rw[rn i' hir']at hb';have h7:=We i' b hi' hir' hb'
     rcases own_i with⟨_,h8⟩|⟨h8,_⟩
     .exact(x3 (h.inj idb id' _ _ b hob ho' h7 h8)).elim
     exact(h8 hir).elim
    by_cases hir':i'=r
    .subst hir'
     rw[rr]at hb';have h7:=hcr b hb'
     rcases own_i with⟨h8,_⟩|⟨_,h8⟩
     .exact(hir h8).elim
     exact(x3 (h.inj idb id' _ _ b hob ho' h8 h7)).elim
    rw[rn i hir]at hb;rw[rn i' hir']at hb';exact hbf.apart i i' b hi hir hi' hir' hb hb'
   have hlens:∀i,i<n->ju m r k i<=maxLen:=λi hi=>by
    by_cases hir:i=r
    .subst hir;rw[lB];exact q1
    rw[wc hir]
    rcases hbf.row i hi hir with⟨h1,_⟩|⟨_,_,_,_,_,_,h1,h2,_⟩
    .omega
    omega
   have hrow2:∀i,i<n->(ju m r k i=0/\∃a,rws i=.slice a 0 0)\/∃ys,w.ownsRow 0 et es (rws i) (ju m r k i) ys/\∀q j,q<ju m r k i->j<es->∃x,ys[q*es+j]? = some x/\aq c.imm (om g r ff i q j) x:=λi hi=>by
    by_cases hir:i=r
    .subst hir
     rw[rr,lB,lI];exact hrow
    rw[rn i hir,wc hir,wJ hir]
    rcases hbf.row i hi hir with h1|⟨b,cap,cur,h1,_,h3,h4,h6,h7,h8⟩
    .exact .inl h1
    have hh:=(b2 b _ h3).2.2.1;refine .inr ⟨cur.toList.take (m i*es),⟨?_, .inr ⟨b,cap,cur,h1,Zb _,hh,h4,h6,h7,rfl⟩⟩,λq j hq hj=>?_⟩
    .rw[Ae,Zh,h7,Gi (Ve _ h4)]
    obtain⟨x,e1,e2,e3⟩:=h8 q j hq hj;exact⟨x,e1,by rw[e2];exact⟨rfl,e3⟩⟩
   refine⟨q0,by simpa [ng]using hlenn,hlens,λb=>?_,λi b hi hb=>?_,λi hi=>?_, .inr ⟨xt, ?_,λi hi=>?_,λp hp=>by cases hp⟩⟩
   .show blk' q b<->(ay (own' q)=some b\/∃i,i<n/\ay (rows' q i)=some b)
    rw[k2,w2,s2]
   .have hb:ay (rows' q i)=some b:=hb
    rw[s2]at hb;show ay (own' q)≠some b/\∀i',i'<n->ay (rows' q i')=some b->i'=i;rw[w2,s2];exact apart i b hi hb
   .show (ju m r k i=0/\∃a,rows' q i=.slice a 0 0)\/∃ys,w.ownsRow 0 et es (rows' q i) (ju m r k i) ys/\_
    rw[s2];exact hrow2 i hi
   .show w.ownsRow 0 e 1 (own' q) n xt
    rw[w2];exact t1
   show xt[i]? = some (rows' q i);rw[s2];exact hrows i hi
  rw[o1 q hq]at hob';cases hob'
 .rintro q ob b (rfl|hq) hob' hb
  .rw [k2]at hb
   rcases hfrom b hb with h7|h7|h7
   .exact⟨id,_, .inr (.inl rfl),ho,h7⟩
   .exact⟨id',_, .inr (.inr (.inl rfl)),ho',h7⟩
   exact⟨idb,_, .inr (.inr (.inr rfl)),hob,h7⟩
  rw[o1 q hq]at hob';cases hob'
 rintro q q' ob ob' b (rfl|hq) (rfl|hq') h7 h8 _ _
 .rfl
 .rw[o1 q' hq']at h8;cases h8
 .rw[o1 q hq]at h7;cases h7
 rw[o1 q hq]at h7;cases h7
theorem ah.renN (h:ah w0 nt c s a w) {id id2 n:Nat} {e:TypeId} {es:Nat} (ho:s.o id=some (.nest e et es n m g none)) (hid:id<1000) (hm2:NM s id2) (hn2:s.o id2=none):
 ∃c',c'.old=c.old/\c'.own id2=c.own id/\ah w0 nt c' ⟨s.t,λq=>if q=id2 then some (.nest e et es n m g none)else if q=id then none else s.o q⟩ a w:=by
 have y1:id2≠id:=by rintro rfl;rw[ho]at hn2;cases hn2
 have hnk:lh 0 c s.o w id e et es n m g none:=h.objs id _ ho
 let own':Nat->Value:=λq=>if q=id2 then c.own id else c.own q
 let blk':Nat->Nat->Prop:=λq=>if q=id2 then c.blk id else c.blk q
 let rows':Nat->Nat->Value:=λq=>if q=id2 then c.rows id else c.rows q
 let o':av:=λq=>if q=id2 then some (.nest e et es n m g none)else if q=id then none else s.o q
 have o2:o' id2=some (.nest e et es n m g none):=Ba rfl
 have o1:o' id=none:=by
  grind
 have w2:own' id2=c.own id:=Ba rfl;have k2:blk' id2=c.blk id:=Ba rfl;have s2:rows' id2=c.rows id:=Ba rfl;refine⟨{ old:=c.old,imm:=c.imm,tab:=c.tab,own:=own',blk:=blk',rows:=rows' },rfl,w2,h.redo (λq=>q=id2\/q=id) own' blk' rows' o' ?_ ?_ ?_ ?_ ?_ ?_⟩
 .rintro q (rfl|rfl)
  .exact hm2.2.2
  exact hid
 .grind
 .rintro q (rfl|rfl)
  .exact .inl ⟨hm2.1,λid0 ob _ h0=>hm2.2.1 id0 ob h0⟩
  exact .inr (.inl o1)
 .rintro q ob (rfl|rfl) hob'
  .rw [o2]at hob'
   cases hob';obtain⟨p1,p2,p3,p4,p5,p6,p7⟩:=hnk;have z4:∀b,blk' q b<->(ay (own' q)=some b\/∃i,i<n/\ay (rows' q i)=some b):=by rw[k2,w2,s2];exact p4
   have z5:∀i b,i<n->ay (rows' q i)=some b->ay (own' q)≠some b/\∀i',i'<n->ay (rows' q i')=some b->i'=i:=by rw[w2,s2];exact p5
   have z6:∀i,i<n->(m i=0/\∃a,rows' q i=.slice a 0 0)\/∃ys,w.ownsRow 0 et es (rows' q i) (m i) ys/\∀r j,r<m i->j<es->∃x,ys[r*es+j]? = some x/\aq c.imm (g i r j) x:=by rw[s2];exact p6
   have z7:(n+ng none=0/\∃a,own' q=.slice a 0 0)\/∃xs,w.ownsRow 0 e 1 (own' q) (n+ng none) xs/\∀i,i<n->xs[i]? = some (rows' q i):=by
    grind
   exact⟨p1,p2,p3,z4,z5,z6,z7.imp (λz=>z) λ⟨xs,h1,h2⟩=>⟨xs,h1,h2,λp hp=>by cases hp⟩⟩
  grind
 .grind
 grind
end
end
section
variable {ro:Option Nat}{P:Program}{nt:Nat}{st:Qb}{Q:Exit->Qb->Prop}{co:Code}
def JA {t:List (Nat×Option HR)} {l:List (Nat×Option a8)} {o':av} (h:∀q,bo l q=o' q):Qb.den ⟨t,l⟩=⟨(Qb.den ⟨t,l⟩).t,o'⟩:=by
 unfold Qb.den;congr 1;exact funext h
end
end
section
open Go.RowKit
def buf(B:Nat->Option Obj)(b:Nat)(x:Option Obj):Nat->Option Obj:=λq=>if q=b then x else B q
def Bp(o:av)(x y:HV):Prop:=x=y\/∃id d v b ob,o id=some (.ex d v b ob)/\v.oneCell'=true/\((x=.ref id 0/\y=.p (.raw v))\/(x=.p (.raw v)/\y=.ref id 0))
def Tv (o:av):List HV->List HV->Prop
 | [],[]=>True
 |x::xs,y::ys=>Bp o x y/\Tv o xs ys
 |_,_=>False
def DZ (o:av):HC->HC->Prop
 | .one x, .one y=>Bp o x y
 | .agg l, .agg m=>Tv o l m
 |_,_=>False
def TM (o:av):HR->HR->Prop
 | .v x, .v y=>DZ o x y
 |_,_=>False
def Bp.to{o:av}{id d:Nat}{v:Value}{b:Nat}{ob:Obj}(h:o id=some (.ex d v b ob))(h1:v.oneCell'=true):Bp o (.ref id 0) (.p (.raw v)):=.inr ⟨id,d,v,b,ob,h,h1, .inl ⟨rfl,rfl⟩⟩
def Bp.from{o:av}{id d:Nat}{v:Value}{b:Nat}{ob:Obj}(h:o id=some (.ex d v b ob))(h1:v.oneCell'=true):Bp o (.p (.raw v)) (.ref id 0):=.inr ⟨id,d,v,b,ob,h,h1, .inr ⟨rfl,rfl⟩⟩
section
variable {w0:World}{nt:Nat}{c:Pc}{s:S}{a:Act}{w:World}
def Bp.rep(h:ah w0 nt c s a w){x y:HV}{u:Value}(hs:Bp s.o x y)(hr:bc c s.o x u):bc c s.o y u:=by
 rcases hs with rfl|⟨id,d,v,b,ob,ho,h1,⟨rfl,rfl⟩|⟨rfl,rfl⟩⟩
 .exact hr
 .have h2:=(h.objs id _ ho).1
  obtain⟨h3,_,h4⟩:=hr;have h5:=(h4 _ _ _ _ ho rfl).2 rfl;exact⟨h5.trans h2,h1⟩
 have h2:=(h.objs id _ ho).1;obtain⟨h3,_⟩:=hr;refine⟨by rw[h3];exact h1,λl hl=>(by rw[ho]at hl;cases hl),λob2 s2 e2 n2 ho2 hd2=>?_⟩;rw[ho]at ho2;cases ho2;simp only[a8.dim,Bb,Tc]at hd2;obtain⟨rfl,rfl,rfl⟩:=hd2;exact⟨Yb _,λ_=>h3.trans h2.symm⟩
def Tv.rep (h:ah w0 nt c s a w):∀{x y:List HV} {u:List Value},Tv s.o x y->b7 c s.o x u->b7 c s.o y u
 | [],[],_,_,hr=>hr
 |_::_,_::_,_::_,hs,hr=>⟨hs.1.rep h hr.1,Tv.rep h hs.2 hr.2⟩
 | [],_::_,_,hs,_=>hs.elim
 |_::_,[],_,hs,_=>hs.elim
 |_::_,_::_,[],_,hr=>hr.elim
def TM.rep (h:ah w0 nt c s a w) {x y:HR} {u:Value} (hs:TM s.o x y) (hr:ap c s.o x u):ap c s.o y u:=by
 match x,y,hs with
 | .v (.one x), .v (.one y),hs=>exact Bp.rep h hs hr
 | .v (.agg l), .v (.agg m),hs =>
  obtain⟨us,e,hl⟩:=hr;exact⟨us,e,Tv.rep h hs hl⟩
end
section
variable {ro:Option Nat}{P:Program}{nt:Nat}{co:Code}{st:Qb}{Q:Exit->Qb->Prop}
end
end
section
open Go.RowKit
def Fk:Value->HC
 | .agg l=>.agg (l.toList.map λv=>.p (.raw v))
 |v=>.one (.p (.raw v))
def Sr:Value->Bool
 | .agg l=>l.toList.all Value.oneCell'
 |v=>v.oneCell'
def uS {c:Pc} {o:av}:∀{l:List Value},l.all Value.oneCell'=true->b7 c o (l.map λv=>.p (.raw v)) l
 | [],_=>trivial
 | v::l,h=>by
  rw[List.all_cons,Od]at h;exact⟨⟨rfl,h.1⟩,uS h.2⟩
def zu {c:Pc} {o:av} {v:Value} (h:Sr v=true):gp c o (Fk v) v:=by
 cases v with
 |agg l=>exact⟨l.toList,by simp,uS h⟩
 |_=>exact⟨rfl,h⟩
def Zx:List HV->Option (List Value)
 | []=>some []
 | .p (.raw v)::r=>(Zx r).map (v::·)
 |_=>none
def Su:HR->Option Value
 | .v (.one (.p (.raw v)))=>some v
 | .v (.agg l)=>(Zx l).map λvs=>.agg vs.toArray
 |_=>none
def mW{c:Pc}{o:av}:∀{l:List HV} {vs us:List Value},Zx l=some vs->b7 c o l us->us=vs/\vs.all Value.oneCell'=true
 | [],vs,us,h,hr=>by
  cases h
  cases us with
  |nil=>exact⟨rfl,rfl⟩
  |cons=>exact hr.elim
 | .p (.raw v)::r,vs,us,h,hr=>by
  unfold Zx at h
  cases hq:Zx r with
  |none=>rw[hq]at h;cases h
  | some ws =>
   rw[hq]at h;cases h
   cases us with
   |nil=>exact hr.elim
   | cons u us =>
    obtain⟨h1,h2⟩:=mW hq hr.2;obtain⟨e1,e2⟩:=hr.1;subst h1 e1;exact⟨rfl,by rw[List.all_cons,e2,h2];rfl⟩
def BI{c:Pc}{o:av}{x:HR}{v u:Value}(h:Su x=some v)(hr:ap c o x u):u=v/\Sr v=true:=by
 unfold Su at h;split at h
 .cases h
  obtain⟨e1,e2⟩:=hr;subst e1;refine⟨rfl, ?_⟩;unfold Sr;split
  .simp[Value.oneCell']at e2
  exact e2
 .rename_i l
  cases hq:Zx l with
  |none=>rw[hq]at h;cases h
  | some ws =>
   rw[hq]at h;cases h;obtain⟨us,e,hl⟩:=hr;obtain⟨h1,h2⟩:=mW hq hl;subst h1 e;exact⟨rfl,h2⟩
 cases h
structure tq (P:Program) (kt:TypeId) (es:Array MapEntry) (clock:Nat):Prop where
 st:Go.MapKept.Stamped es clock
 mx:es.size<=maxLen
 ky:∀x∈es.toList,∃l,keyOf P kt x.key=some l
 vl:∀x∈es.toList,Sr x.key=true/\Sr x.val=true
def tq.nil{P:Program}{kt:TypeId}{clock:Nat}:tq P kt #[] clock:=⟨Go.MapKept.stamped_empty clock,by simp,λx hx=>by simp at hx,λx hx=>by simp at hx⟩
def tq.inj {P:Program} {kt:TypeId} {es:Array MapEntry} {clock:Nat} (h:tq P kt es clock) {x y:MapEntry} (hx:x∈es.toList) (hy:y∈es.toList) (e:x.key=y.key):x=y:=by
 have hp:=((Go.MapKept.stamped_iff es clock).1 h.st).2.2;obtain⟨i,hi,rfl⟩:=Fg hx;obtain⟨j,hj,rfl⟩:=Fg hy
 rcases Cv i j with h1|h1|h1
 .exact Ea e (Zk.1 hp i j hi hj h1)
 .subst h1;rfl
 exact Ea e.symm (Zk.1 hp j i hj hi h1)
section
variable {P:Program}{nt:Nat}{ops:Array Oper}{st:Qb}{k:Nat}{o:Oper}{L:List Nat}{Q:Qb->Prop}{x ix:Operand}{mid j b clock d:Nat}{es:Array MapEntry}{t kt et:TypeId}
def b4a {z kv:Value} {kl:Lit} {kx:HR} (hi:ops[k]? = some o) (ht:P.underlying t=some (.map kt et)) (K:Go.Maps.Keyed P kt) (hz:∀w,(zeroValue et).run P w=.ok z w) (hzo:Sr z=true) (hX:tq P kt es clock)
 (hkey:keyOf P kt kv=some kl) (hkv:Su kx=some kv)
 (h0:(∀e∈es.toList,e.key≠kv)->RN P nt ops L ⟨(d,some (.v (Fk z)))::st.t,st.o⟩ Q)
 (h1:∀e∈es.toList,e.key=kv->RN P nt ops L ⟨(d,some (.v (Fk e.val)))::st.t,st.o⟩ Q)
 (hg:o.guard=none:=by exact rfl) (ho:o.op=.lookup t x ix false:=by exact rfl) (hd:o.dst=some d:=by exact rfl) (hdn:dc nt (some d)=true:=by exact rfl)
 (hx:ev st.den x=some (.v (.one (.ref mid 0))):=by exact rfl) (hm:st.den.o mid=some (Hk b es clock):=by exact rfl) (hk:ev st.den ix=some kx:=by exact rfl):RN P nt ops (k::L) st Q :=
 Vx hi hg hd hdn (λc hc=>by rw[hc]at ho;cases ho) λw0 a w c Db=>by
  obtain⟨e1,e2⟩:=Wx Db hx hm;obtain⟨e3,_⟩:=BI hkv (ae Db hk)
  rcases MT false K ht (hz w) e2 hX.mx hX.st hX.ky hkey with⟨hrun,hno⟩|⟨e0,he0,hk0,hrun⟩
  .exact⟨z,w,st.o, .v (Fk z),c,rfl,by simp[execOp,ho,e1,e3,hrun],Db,zu hzo,h0 hno⟩
  exact⟨e0.val,w,st.o, .v (Fk e0.val),c,rfl,by simp[execOp,ho,e1,e3,hrun],Db,zu (hX.vl e0 he0).2,h1 e0 he0 hk0⟩
def VT(id:Nat){t:TypeId}(hi:ops[k]? = some o)(h:∀b,RN P nt ops L ⟨(d,some (.v (.one (.ref id 0))))::st.t,(id,some (Hk b #[] 0))::st.o⟩ Q)
 (hg:o.guard=none:=by exact rfl) (ho:o.op=.makeMap t none:=by exact rfl) (hd:o.dst=some d:=by exact rfl) (hdn:dc nt (some d)=true:=by exact rfl) (hn:qb id st=true:=by exact rfl):RN P nt ops (k::L) st Q :=
 Vx hi hg hd hdn (λc hc=>by rw[hc]at ho;cases ho) λw0 a w c Db=>by
  obtain⟨hnm,hno⟩:=jd hn
  have hf:=Db.fresh id hnm hno (Hk w.heap.size #[] 0) (w.alloc (.map #[] 0)) (.map (some w.heap.size)) (yn w.heap.size) (Wf.alloc w _ none) (λb hb=>Hn (Eq.symm hb))
   ⟨by simp,by simp,Zb _,Go.heap_alloc_new w _,rfl⟩
  rw[<- ip]at hf;refine⟨.map (some w.heap.size),_,_, .v (.one (.ref id 0)),_,(by exact rfl), ?_,hf,⟨rfl,λl=>by simp[ip,S.setO],λob2 s2 e2 n2 ho2 hd2=>?_⟩,h w.heap.size⟩
  .simp[execOp,ho,Go.run_makeMap_plain]
  rw[ip]at ho2;simp only[S.setO,Ma,Bb]at ho2;subst ho2;simp only[a8.dim,Bb,Tc]at hd2;obtain⟨rfl,rfl,rfl⟩:=hd2;exact⟨Yb _,λ_=>by simp⟩
structure xG (es es':Array MapEntry) (kv v:Value):Prop where
 to:∀x'∈es'.toList,(x'∈es.toList/\x'.key≠kv)\/(x'.key=kv/\x'.val=v)
 at_:∃x'∈es'.toList,x'.key=kv/\x'.val=v
 old:∀x∈es.toList,x.key≠kv->∃x'∈es'.toList,x'.key=x.key/\x'.val=x.val
 sz:es'.size<=es.size+1
def xQ{y:Operand}{kv v:Value}{kl:Lit}{kx vx:HR}(hi:ops[k]? = some o)(ht:P.underlying t=some (.map kt et))(K:Go.Maps.Keyed P kt)(hX:tq P kt es clock)(hlt:es.size<maxLen)
 (hkey:keyOf P kt kv=some kl) (hkv:Su kx=some kv) (hvv:Su vx=some v)
 (h:∀es' clock',tq P kt es' clock'->xG es es' kv v->RN P nt ops L ⟨(match o.dst with|some d=>[(d,none)]|none=>[])++st.t,(mid,some (Hk b es' clock'))::st.o⟩ Q)
 (hg:o.guard=none:=by exact rfl) (ho:o.op=.mapUpdate t x ix y:=by exact rfl) (hdn:dc nt o.dst=true:=by exact rfl)
 (hx:ev st.den x=some (.v (.one (.ref mid 0))):=by exact rfl) (hm:bo st.o mid=some (Hk b es clock):=by exact rfl) (hk:ev st.den ix=some kx:=by exact rfl) (hv:ev st.den y=some vx:=by exact rfl):RN P nt ops (k::L) st Q:=by
 refine CP hi hg hdn (λc hc=>by rw[hc]at ho;cases ho) λw0 a w c Db=>?_;obtain⟨e1,e2⟩:=Wx Db hx hm;obtain⟨e3,e3'⟩:=BI hkv (ae Db hk);obtain⟨e4,e4'⟩:=BI hvv (ae Db hv);obtain⟨q1,q2,q3,q4,q5⟩:=Db.objs mid _ hm;obtain⟨es',clock',hrun,hst,hsz,hall,hat,hold⟩:=gV (val:=v) K ht e2 hlt hX.st hX.ky hkey;have hblk:=Go.ChangeMaps.heap_setBlock_same e2 (.map es' clock')
 have hP:xG es es' kv v:=by
  refine⟨hall, ?_,λx hx hne=>?_,hsz⟩
  .obtain ⟨x',hx',hk'⟩:=hat
   refine⟨x',hx',hk', ?_⟩
   rcases hall x' hx' with⟨_,h2⟩|⟨_,h2⟩
   .exact Ea hk' h2
   exact h2
  obtain⟨x',hx',hk'⟩:=hold x hx;refine⟨x',hx',hk', ?_⟩
  rcases hall x' hx' with⟨h1,_⟩|⟨h2,_⟩
  .rw[hX.inj h1 hx hk']
  exact Ea (hk'.symm.trans h2) hne
 have hX':tq P kt es' clock':=⟨hst,by omega,λx' hx'=>by
  rcases hall x' hx' with⟨h1,_⟩|⟨h2,_⟩
  .exact hX.ky x' h1
  .exact⟨kl,by rw[h2];exact hkey⟩,λx' hx'=>by
  rcases hall x' hx' with⟨h1,_⟩|⟨h2,h3⟩
  .exact hX.vl x' h1
  rw[h2,h3];exact⟨e3',e4'⟩⟩
 have hw:=Db.write mid _ hm (Hk b es' clock') (Go.ChangeMaps.setBlock w b (.map es' clock')) (c.own mid) (c.blk mid) (some b) (by
  exact⟨⟨rfl,rfl,rfl,by simp[Go.ChangeMaps.setBlock],λi _ hi=>Go.ChangeMaps.heap_setBlock_other e2 _ (λe=>hi (by rw[e]))⟩,Yb _⟩) (λb' hb'=>by cases hb';rw[q2];rfl)
  (.inr (.inr ⟨_,Hk b es' clock',0,0,0,0,hm,rfl,by simp[S.setO],rfl,Yb _,λ_=>by simp,λ_ _ _ _ _ _ _ hb=>by cases hb⟩)) (λb hb=>.inl hb) ⟨by simpa using q1,by simpa using q2,q3,hblk,rfl⟩
 rw[<- ip]at hw;exact⟨.skip,_,_,_,(by exact rfl),by simp[execOp,ho,e1,e3,e4,hrun], .inl rfl,hw,h es' clock' hX' hP⟩
def b9n{cl:Call}(hi:ops[k]? = some o)(ht:P.underlying t=some (.map kt et))(hmx:es.size<=maxLen)
 (h:RN P nt ops L ⟨(d,some (.v (.one (.p (.raw (.int .i64 es.size))))))::st.t,st.o⟩ Q)
 (hg:o.guard=none:=by exact rfl) (ho:o.op=.call cl:=by exact rfl) (hcl:cl.callee=.builtin .len:=by exact rfl) (har:cl.args=#[x]:=by exact rfl) (hat:cl.argTypes=#[t]:=by exact rfl) (hd:o.dst=some d:=by exact rfl) (hdn:dc nt (some d)=true:=by exact rfl)
 (hx:ev st.den x=some (.v (.one (.ref mid 0))):=by exact rfl) (hm:st.den.o mid=some (Hk b es clock):=by exact rfl):RN P nt ops (k::L) st Q :=
 Vx hi hg hd hdn (λc hc=>by rw[hc]at ho;cases ho) λw0 a w c Db=>by
  obtain⟨e1,e2⟩:=Wx Db hx hm
  have hk1:P.underlying t=some (.map (P.mapKeyOf t) (P.mapElemOf t)):=by
   simp[Program.mapKeyOf,Program.mapElemOf,ht]
  have hrun:=run_len_map (P:=P) (w:=w) t o.type b es clock hk1 e2;refine⟨.int .i64 es.size,w,st.o, .v (.one (.p (.raw (.int .i64 es.size)))),c,rfl, ?_,Db,⟨rfl,rfl⟩,h⟩
  cases cl with
  | mk ca ar at' =>
   simp only at hcl har hat;subst hcl har hat;simp[execOp,ho,resolve,invoke,builtin,e1,hrun,goInt,Result.andThen]
def b5m{x:Operand}{id bi:Nat}{seen:Array Nat}(hi:ops[k]? = some o)(hX:tq P kt es clock)
 (h0:(leftOf es seen).size=0->RN P nt ops L ⟨(d,some (.tup [.one (.p (.raw (.bool false)))]))::st.t,st.o⟩ Q)
 (h1:∀e∈(leftOf es seen).toList,RN P nt ops L ⟨(d,some (.tup [.one (.p (.raw (.bool true))),Fk e.key,Fk e.val]))::st.t,(id,some (Yp bi b clock (seen.push e.born)))::st.o⟩ Q)
 (hg:o.guard=none:=by exact rfl) (ho:o.op=.next x false:=by exact rfl) (hd:o.dst=some d:=by exact rfl) (hdn:dc nt (some d)=true:=by exact rfl)
 (hx:ev st.den x=some (.v (.one (.ref id j))):=by exact rfl) (hm:st.den.o id=some (Yp bi b clock seen):=by exact rfl)
 (hm2:st.den.o mid=some (Hk b es clock):=by exact rfl):RN P nt ops (k::L) st Q :=
 Vx hi hg hd hdn (λc hc=>by rw[hc]at ho;cases ho) λw0 a w c Db=>by
  obtain⟨e1,e2⟩:=Wx Db hx hm;obtain⟨_,_,_,e3,_⟩:=Db.objs mid _ hm2;have hob:=Db.objs id _ hm
  rcases arw (P:=P) w o.type bi b clock seen es e2 e3 hX.st.1 with⟨h2,h3⟩|⟨e,he,w1,hw1,h3⟩
  .exact⟨_,w,st.o, .tup [.one (.p (.raw (.bool false)))],c,rfl,by simp[execOp,ho,e1,h3],Db,⟨[.bool false],rfl,⟨⟨rfl,rfl⟩,Aa⟩⟩,h0 h2⟩
  obtain⟨q1,q2⟩:=mem_left he;obtain⟨r1,r2⟩:=hX.vl e q1
  have hw:=Db.write id _ hm (Yp bi b clock (seen.push e.born)) _ (c.own id) (c.blk id) (some bi) (b3r w w1 hw1 bi (.mapIter (some b) clock (seen.push e.born) clock)) (λb hb=>by cases hb;rw[hob.2.1];exact rfl)
   (.inr (.inr ⟨_,Yp bi b clock (seen.push e.born),0,2,0,0,hm,rfl,by simp[S.setO],rfl,Yb _,λ_=>by simp,λ_ _ _ _ _ _ _ hb=>by cases hb⟩)) (λb hb=>.inl hb) ⟨by simpa using hob.1,by simpa using hob.2.1,hob.2.2.1,by simp[(Le.1 e2).1],rfl⟩
  rw[<- ip]at hw;exact⟨_,_,_, .tup [.one (.p (.raw (.bool true))),Fk e.key,Fk e.val],_,(by exact rfl),by simp[execOp,ho,e1,h3],hw,⟨[.bool true,e.key,e.val],rfl,⟨rfl,rfl⟩,zu r1,zu r2,Aa⟩,h1 e he⟩
def azv {x:Operand} {id bi:Nat} {seen:Array Nat} {e:MapEntry} (hi:ops[k]? = some o) (hX:tq P kt es clock) (he:e∈(leftOf es seen).toList)
 (h:RN P nt ops L ⟨(d,some (.tup [Fk e.key,Fk e.val]))::st.t,st.o⟩ Q)
 (hg:o.guard=none:=by exact rfl) (ho:o.op=.entry x:=by exact rfl) (hd:o.dst=some d:=by exact rfl) (hdn:dc nt (some d)=true:=by exact rfl)
 (hx:ev st.den x=some (.v (.one (.ref id j))):=by exact rfl) (hm:st.den.o id=some (Yp bi b clock (seen.push e.born)):=by exact rfl)
 (hm2:st.den.o mid=some (Hk b es clock):=by exact rfl):RN P nt ops (k::L) st Q :=
 Vx hi hg hd hdn (λc hc=>by rw[hc]at ho;cases ho) λw0 a w c Db=>by
  obtain⟨e1,e2⟩:=Wx Db hx hm;obtain⟨_,_,_,e3,_⟩:=Db.objs mid _ hm2;obtain⟨q1,_⟩:=mem_left he;obtain⟨r1,r2⟩:=hX.vl e q1;exact⟨_,w,st.o, .tup [Fk e.key,Fk e.val],c,rfl,by simp[execOp,ho,e1,anj (P:=P) w bi b clock seen es e e2 e3 q1 hX.st.2.1],Db,⟨[e.key,e.val],rfl,zu r1,zu r2,Aa⟩,h⟩
end
end
section
open Go.RowKit
abbrev kc:=Value->(Nat->Prop)->(Nat->Option Obj)->Prop
noncomputable def El (bk:Nat->Prop) (h:Nat->Option Obj):Nat->Option Obj:=λb=>by classical exact if bk b then h b else none
section
variable {bk:Nat->Prop}{h:Nat->Option Obj}
def MD{b:Nat}(hb:bk b):El bk h b=h b:=by unfold El;exact Ba hb
theorem TH {bk1:Nat->Prop} {w:World} (hs:∀b,bk1 b->bk b):El bk1 (Ml bk w)=Ml bk1 w:=by
 funext b;by_cases hb:bk1 b
 .rw[MD hb,YD hb,YD (hs b hb)]
 unfold El Ml
 grind
theorem mB {bk1:Nat->Prop} (hs:∀b,bk1 b->bk b):El bk1 (El bk h)=El bk1 h:=by
 funext b;by_cases hb:bk1 b
 .rw[MD hb,MD hb,MD (hs b hb)]
 unfold El
 grind
def Qk:List (Value×kc)->(Nat->Prop)->(Nat->Option Obj)->Prop
 | [],bk,_=>∀b,¬bk b
 |(v,R)::L,bk,h=>v.oneCell'=true/\∃bk1 bk2:Nat->Prop,(∀b,bk b<->bk1 b\/bk2 b)/\(∀b,bk1 b->bk2 b->False)/\R v bk1 (El bk1 h)/\Qk L bk2 (El bk2 h)
def Yn(v:Value)(R:kc):kc:=λu bk h=>u=v/\R u bk h
def su(L:List (Value×kc)):kc:=λ_ bk h=>Qk L bk h
theorem Qk.swap {x y:Value×kc} {L:List (Value×kc)} (hb:Qk (x::y::L) bk h):Qk (y::x::L) bk h:=by
 obtain⟨v,R⟩:=x;obtain⟨v2,R2⟩:=y;obtain⟨h1,b1,b2,i1,d1,r1,h2,b3,b4,i2,d2,r2,hL⟩:=hb;have s3:∀b,b3 b->b2 b:=λb hb=>(i2 b).2 (.inl hb);have s4:∀b,b4 b->b2 b:=λb hb=>(i2 b).2 (.inr hb);rw[mB s3]at r2;rw[mB s4]at hL;refine⟨h2,b3,λb=>b1 b\/b4 b,λb=>?_,λb hb3 hb=>?_,r2,h1,b1,b4,λb=>Oa,λb hb1 hb4=>d1 b hb1 (s4 b hb4), ?_, ?_⟩
 .grind
 .grind
 .rw[mB λb hb=>.inl hb];exact r1
 rw[mB λb hb=>.inr hb];exact hL
theorem Qk.snoc {x:Value×kc}:∀{L:List (Value×kc)} {bk:Nat->Prop} {h:Nat->Option Obj},Qk (x::L) bk h->Qk (L++[x]) bk h
 | [],_,_,hb=>hb
 | y::L,bk,h,hb=>by
  obtain⟨v,R⟩:=y;obtain⟨h1,b1,b2,i1,d1,r1,hL⟩:=hb.swap;exact⟨h1,b1,b2,i1,d1,r1,Qk.snoc hL⟩
end
section
variable {w0:World}{nt:Nat}{c:Pc}{s:S}{a:Act}{w:World}
theorem ah.bagIn (h:ah w0 nt c s a w) {id idb s1 n1 s2 n2:Nat} {e1 e2:TypeId} {v:Value} {R:kc} {L:List (Value×kc)} (ho:s.o id=some (.opq s1 e1 n1 (Yn v R))) (hob:s.o idb=some (.opq s2 e2 n2 (su L))) (hne:idb≠id) (hid:id<1000) (hidb:idb<1000) :
 ∃c',c'.old=c.old/\ah w0 nt c' ⟨s.t,λq=>if q=id then none else if q=idb then some (.opq s2 e2 n2 (su (L++[(v,R)])))else s.o q⟩ a w:=by
 obtain⟨a1,a2,a3,a4⟩:=h.objs id _ ho;obtain⟨b1,b2,b3⟩:=h.objs idb _ hob
 let bk:Nat->Prop:=λb=>c.blk id b\/c.blk idb b
 let o':av:=λq=>if q=id then none else if q=idb then some (.opq s2 e2 n2 (su (L++[(v,R)])))else s.o q
 have ob1:o' id=none:=Ba rfl;have ob2:o' idb=some (.opq s2 e2 n2 (su (L++[(v,R)]))):=(Ca hne).trans (Ba rfl);refine⟨{ old:=c.old,imm:=c.imm,tab:=c.tab,own:=c.own,blk:=λq=>if q=idb then bk else c.blk q,rows:=c.rows },rfl,h.redo (λq=>q=id\/q=idb) _ _ _ o' ?_ ?_ ?_ ?_ ?_ ?_⟩
 .grind
 .grind
 .rintro q (rfl|rfl)
  .exact .inr (.inl ob1)
  exact .inr (.inr (.inr ⟨_,_,s2,e2,n2,n2,hob,rfl,ob2,rfl,Yb _,λ_=>rfl,λ_ _ _ _ _ _ _ hb=>by cases hb⟩))
 .rintro q ob (rfl|rfl) hq
  .grind
  rw[ob2]at hq;cases hq;have hbk:(λq'=>if q'=q then bk else c.blk q') q=bk:=Ba rfl;refine⟨?_,b2, ?_⟩
  .grind
  show su _ _ ((λq'=>if q'=q then bk else c.blk q') q) (Ml ((λq'=>if q'=q then bk else c.blk q') q) w);rw[hbk];refine Qk.snoc ⟨by rw[<- a3];exact a2,c.blk id,c.blk q,λb=>Oa,λb hb1 hb2=>hne (h.inj _ _ _ _ b hob ho hb2 hb1), ?_, ?_⟩
  .rw[TH λb hb=>.inl hb,<- a3];exact a4
  rw[TH λb hb=>.inr hb];exact b3
 .rintro q ob b (rfl|rfl) hq hb
  .grind
  grind
 grind
theorem ah.pin (h:ah w0 nt c s a w) {id s1 n1:Nat} {e1:TypeId} {R:kc} (ho:s.o id=some (.opq s1 e1 n1 R)) (hid:id<1000) :
 (c.own id).oneCell'=true/\ah w0 nt c ⟨s.t,λq=>if q=id then some (.opq s1 e1 n1 (Yn (c.own id) R))else s.o q⟩ a w:=by
 obtain⟨a1,a2,a3⟩:=h.objs id _ ho;have ob1:(λq=>if q=id then some (a8.opq s1 e1 n1 (Yn (c.own id) R))else s.o q) id=some (.opq s1 e1 n1 (Yn (c.own id) R)):=Ba rfl;refine⟨a2,h.redo (λq=>q=id) c.own c.blk c.rows _ ?_ ?_ ?_ ?_ ?_ ?_⟩
 .grind
 .grind
 .rintro q rfl
  exact .inr (.inr (.inr ⟨_,_,s1,e1,n1,n1,ho,rfl,ob1,rfl,Yb _,λ_=>rfl,λ_ _ _ _ _ _ _ hb=>by cases hb⟩))
 .rintro q ob rfl hq
  rw[Ba rfl]at hq;cases hq;exact⟨a1,a2,rfl,a3⟩
 .grind
 grind
def Al (s:Nat) (e:TypeId) (m:Nat) (g:Nat->Nat->PV):kc:=λv bk h=>(m=0/\(∃a,v=.slice a 0 0)/\∀b,¬bk b) \/
 ∃b cap cur,v=.slice (some ⟨b,0,none⟩) m cap/\0<cap/\(∀b',bk b'<->b'=b)/\h b=some (.cells cur e (0,0))/\m<=cap/\cap<=maxLen/\cur.size=cap*s/\∀i j,i<m->j<s->∃x,cur[i*s+j]? = some x/\aq (λ_=>none) (g i j) x
def Vz:PV->Bool
 | .raw _=>true
 | .any=>true
 |_=>false
def b3o {m m':Dc} {x:PV} {u:Value} (h:Vz x=true) (hr:aq m x u):aq m' x u:=by
 cases x<;>first|exact hr|cases h
theorem ah.arrOpq (h:ah w0 nt c s a w) {id s1 n1:Nat} {e1:TypeId} {f:Nat->Nat->PV} (ho:s.o id=some (.arr true s1 e1 n1 f)) (hf:∀i j,i<n1->j<s1->Vz (f i j)=true) (hid:id<1000) :
 ∃c',c'.old=c.old/\ah w0 nt c' ⟨s.t,λq=>if q=id then some (.opq s1 e1 n1 (Al s1 e1 n1 f))else s.o q⟩ a w:=by
 obtain⟨a1,a2,a3⟩:=h.objs id _ ho
 have key:∃bk:Nat->Prop,(∀b,bk b->c.blk id b)/\(∀b,bk b->0<=b/\∃x,w.heap[b]? = some x/\eB x=true)/\(c.own id).oneCell'=true/\Al s1 e1 n1 f (c.own id) bk (Ml bk w):=by
  rcases a3 with⟨hblk,xs,hrow,hcell⟩|⟨hz,hb,hsl⟩
  .rcases gh hrow with⟨hm0,a0,hv⟩|⟨b,cap,hv,We⟩
   .exact⟨λ_=>False,λ_ hb=>hb.elim,λ_ hb=>hb.elim,by rw[hv];rfl, .inl ⟨hm0,⟨a0,hv⟩,λ_ hb=>hb⟩⟩
   have hcap:0<cap:=by
    rcases Mj cap with h0|h0
    .subst h0;rw[hv]at We;simp[ay]at We
    exact h0
   rcases hrow.2 with⟨hv',_⟩|⟨b',cap',cur,hv',_,hh,q1,q2,q3,q4⟩
   .grind
   rw[hv]at hv';simp only[Ka,Bb,Addr.mk.injEq,and_true,true_and]at hv';obtain⟨rfl,rfl⟩:=hv';refine⟨λb''=>b''=b,λb'' hb=>by subst hb;rw[hblk,hv];rfl,λb'' hb=>by subst hb;exact⟨Zb _,_,hh,rfl⟩,by rw[hv];rfl, .inr ⟨b,cap,cur,hv,hcap,λ_=>Oa,by rw[YD (bk:=λb''=>b''=b) rfl];exact hh,q1,q2,q3,λi j hi hj=>?_⟩⟩;obtain⟨x,hx,hr⟩:=hcell i j hi hj
   have hlt:i*s1+j<n1*s1:=by
    grind
   rw[<- q4,Ih,Ba hlt,To]at hx;exact⟨x,hx,b3o (hf i j hi hj) hr⟩
  obtain rfl:n1=0:=by rcases hz with hz|hz;cases hz;exact hz
  obtain⟨a0,cap,e1,_,_,e2,_⟩:=hsl;obtain rfl:=e2 rfl;exact⟨λ_=>False,λ_ hb=>hb.elim,λ_ hb=>hb.elim,by rw[e1];rfl, .inl ⟨rfl,⟨a0,e1⟩,λ_ hb=>hb⟩⟩
 obtain⟨bk,k1,k2,k3,k4⟩:=key;have ob1:(λq=>if q=id then some (a8.opq s1 e1 n1 (Al s1 e1 n1 f))else s.o q) id=some (.opq s1 e1 n1 (Al s1 e1 n1 f)):=Ba rfl;refine⟨{ old:=c.old,imm:=c.imm,tab:=c.tab,own:=c.own,blk:=λq=>if q=id then bk else c.blk q,rows:=c.rows },rfl,h.redo (λq=>q=id) _ _ _ _ ?_ ?_ ?_ ?_ ?_ ?_⟩
 .grind
 .grind
 .rintro q rfl
  exact .inr (.inr (.inr ⟨_,_,s1,e1,n1,n1,ho,rfl,ob1,rfl,Yb _,λ_=>rfl,λ_ _ _ _ _ _ _ hb=>by cases hb⟩))
 .rintro q ob rfl hq
  rw[Ba rfl]at hq;cases hq;have hbk:(λq'=>if q'=q then bk else c.blk q') q=bk:=Ba rfl;refine⟨?_,k3, ?_⟩
  .grind
  grind
 .grind
 grind
def JP (s:Nat) (e:TypeId) (n:Nat) (P:(Nat->Nat->PV)->List (Value×kc)->Prop):kc:=λv bk h=>∃f L,P f L/\(∀i j,i<n->j<s->Vz (f i j)=true) /\
 ∃bk1 bk2:Nat->Prop,(∀b,bk b<->bk1 b\/bk2 b)/\(∀b,bk1 b->bk2 b->False)/\Al s e n f v bk1 (El bk1 h)/\Qk L bk2 (El bk2 h)
theorem ah.bagNew (h:ah w0 nt c s a w) {idb:Nat} (hm:NM s idb) (hn:s.o idb=none):∃c',c'.old=c.old/\ah w0 nt c' ⟨s.t,λq=>if q=idb then some (.opq 0 0 0 (su []))else s.o q⟩ a w:=by
 refine⟨{ old:=c.old,imm:=c.imm,tab:=c.tab,own:=λq=>if q=idb then .bool false else c.own q,blk:=λq=>if q=idb then Cg else c.blk q,rows:=c.rows },rfl,h.redo (λq=>q=idb) _ _ _ _ ?_ ?_ ?_ ?_ ?_ ?_⟩
 .rintro q rfl;exact hm.2.2
 .grind
 .rintro q rfl
  exact .inl ⟨hm.1,λid0 ob _ h0=>hm.2.1 id0 ob h0⟩
 .rintro q ob rfl hq
  rw[Ba rfl]at hq;cases hq;have hbk:(λq'=>if q'=q then Cg else c.blk q') q=Cg:=Ba rfl;have how:(λq'=>if q'=q then Value.bool false else c.own q') q=.bool false:=Ba rfl;refine⟨?_, ?_, ?_⟩
  .show ∀b,(λq'=>if q'=q then Cg else c.blk q') q b->_
   rw[hbk];exactλb hb=>hb.elim
  .show ((λq'=>if q'=q then Value.bool false else c.own q') q).oneCell'=true
   rw[how];rfl
  show su [] _ ((λq'=>if q'=q then Cg else c.blk q') q) _;rw[hbk];exactλb hb=>hb
 .rintro q ob b rfl hq hb
  rw[Ba rfl]at hb;exact hb.elim
 grind
end
def Sn(o:av)(x y:HV):Prop:=x=y\/∃id s n e v R,o id=some (.opq s e n (Yn v R))/\((x=.ref id n/\y=.p (.raw v))\/(x=.p (.raw v)/\y=.ref id n))
def Fw (o:av):List HV->List HV->Prop
 | [],[]=>True
 |x::xs,y::ys=>Sn o x y/\Fw o xs ys
 |_,_=>False
def K1 (o:av):HC->HC->Prop
 | .one x, .one y=>Sn o x y
 | .agg l, .agg m=>Fw o l m
 |_,_=>False
def JG (o:av):HR->HR->Prop
 | .v x, .v y=>K1 o x y
 |_,_=>False
def Sn.to{o:av}{id s n:Nat}{e:TypeId}{v:Value}{R:kc}(h:o id=some (.opq s e n (Yn v R))):Sn o (.ref id n) (.p (.raw v)):=.inr ⟨id,s,n,e,v,R,h, .inl ⟨rfl,rfl⟩⟩
def Sn.from{o:av}{id s n:Nat}{e:TypeId}{v:Value}{R:kc}(h:o id=some (.opq s e n (Yn v R))):Sn o (.p (.raw v)) (.ref id n):=.inr ⟨id,s,n,e,v,R,h, .inr ⟨rfl,rfl⟩⟩
section
variable {w0:World}{nt:Nat}{c:Pc}{s:S}{a:Act}{w:World}
theorem Sn.rep (h:ah w0 nt c s a w) {x y:HV} {u:Value} (hs:Sn s.o x y) (hr:bc c s.o x u):bc c s.o y u:=by
 rcases hs with rfl|⟨id,s1,n,e,v,R,ho,⟨rfl,rfl⟩|⟨rfl,rfl⟩⟩
 .exact hr
 .obtain ⟨_,h1,h2,_⟩:=h.objs id _ ho
  obtain⟨h3,_,h4⟩:=hr;have h5:=(h4 _ _ _ _ ho rfl).2 rfl;exact⟨h5.trans h2,by rw[<- h2];exact h1⟩
 obtain⟨_,h1,h2,_⟩:=h.objs id _ ho;obtain⟨h3,_⟩:=hr;refine⟨by rw[h3,<- h2];exact h1,λl hl=>(by rw[ho]at hl;cases hl),λob2 s2 e2 n2 ho2 hd2=>?_⟩;rw[ho]at ho2;cases ho2;simp only[a8.dim,Bb,Tc]at hd2
 grind
def Fw.rep (h:ah w0 nt c s a w):∀{x y:List HV} {u:List Value},Fw s.o x y->b7 c s.o x u->b7 c s.o y u
 | [],[],_,_,hr=>hr
 |_::_,_::_,_::_,hs,hr=>⟨hs.1.rep h hr.1,Fw.rep h hs.2 hr.2⟩
 | [],_::_,_,hs,_=>hs.elim
 |_::_,[],_,hs,_=>hs.elim
 |_::_,_::_,[],_,hr=>hr.elim
def JG.rep (h:ah w0 nt c s a w) {x y:HR} {u:Value} (hs:JG s.o x y) (hr:ap c s.o x u):ap c s.o y u:=by
 match x,y,hs with
 | .v (.one x), .v (.one y),hs=>exact Sn.rep h hs hr
 | .v (.agg l), .v (.agg m),hs =>
  obtain⟨us,e,hl⟩:=hr;exact⟨us,e,Fw.rep h hs hl⟩
end
section
variable {w0:World}{nt:Nat}{c:Pc}{s:S}{a:Act}{w:World}
end
section
variable {ro:Option Nat}{P:Program}{nt:Nat}{co:Code}{st:Qb}{Q:Qb->Prop}
def bdv (d:Nat) {x:HR} (y:HR) (hx:bo st.t d=some x) (hs:JG st.den.o x y) (h:HE nt ⟨(d,some y)::st.t,st.o⟩ Q):HE nt st Q :=
 oH st d y (λw0 m0 a w hr0=>by
  obtain⟨cc,hold,Db⟩:=hr0
  exact⟨cc,hold,Db,hs.rep Db (Db.tmps d x hx)⟩) h
def b1l (idb:Nat) (h:HE nt ⟨st.t,(idb,some (.opq 0 0 0 (su [])))::st.o⟩ Q) (hn:qb idb st=true:=by exact rfl):HE nt st Q:=λw0 m0 a w hr0=>by
 obtain⟨cc,hold,Db⟩:=hr0;obtain⟨hm,hn⟩:=jd hn;obtain⟨c',q1,q2⟩:=Db.bagNew hm hn;refine h w0 m0 a w ⟨c',q1.trans hold, ?_⟩;rw[JA (o':=λq=>if q=idb then some (.opq 0 0 0 (su []))else st.den.o q) (λq=>by simp only[b9];rfl)];exact q2
def b6g (id idb:Nat) {s1 n1 s2 n2:Nat} {e1 e2:TypeId} {v:Value} {R:kc} {L:List (Value×kc)} (ho:bo st.o id=some (.opq s1 e1 n1 (Yn v R))) (hob:bo st.o idb=some (.opq s2 e2 n2 (su L)))
 (h:HE nt ⟨st.t,(id,none)::(idb,some (.opq s2 e2 n2 (su (L++[(v,R)]))))::st.o⟩ Q) (hid:(Nat.blt id 1000&&Nat.blt idb 1000&&!Nat.beq idb id)=true:=by exact rfl):HE nt st Q:=λw0 m0 a w hr0=>by
 obtain⟨cc,hold,Db⟩:=hr0;simp only[Od,Eo,Nh]at hid;obtain⟨c',q1,q2⟩:=Db.bagIn ho hob (λe=>by subst e;simp at hid) hid.1.1 hid.1.2;refine h w0 m0 a w ⟨c',q1.trans hold, ?_⟩;rw[JA (o':=λq=>if q=id then none else if q=idb then some (.opq s2 e2 n2 (su (L++[(v,R)])))else st.den.o q) (λq=>by simp only[b9];rfl)];exact q2
def H4 (id:Nat) {s1 n1:Nat} {e1:TypeId} {R:kc} (ho:bo st.o id=some (.opq s1 e1 n1 R)) (h:∀v,v.oneCell'=true->HE nt ⟨st.t,(id,some (.opq s1 e1 n1 (Yn v R)))::st.o⟩ Q) (hid:Nat.blt id 1000=true:=by exact rfl):HE nt st Q:=λw0 m0 a w hr0=>by
 obtain⟨cc,hold,Db⟩:=hr0;simp only[Eo]at hid;obtain⟨q1,q2⟩:=Db.pin ho hid;refine h (cc.own id) q1 w0 m0 a w ⟨cc,hold, ?_⟩;rw[JA (o':=λq=>if q=id then some (.opq s1 e1 n1 (Yn (cc.own id) R))else st.den.o q) (λq=>by simp only[b9];rfl)];exact q2
def b1t (id:Nat) {s1 n1:Nat} {e1:TypeId} {f:Nat->Nat->PV} (ho:bo st.o id=some (.arr true s1 e1 n1 f)) (hf:∀i j,i<n1->j<s1->Vz (f i j)=true) (h:HE nt ⟨st.t,(id,some (.opq s1 e1 n1 (Al s1 e1 n1 f)))::st.o⟩ Q) (hid:Nat.blt id 1000=true:=by exact rfl):HE nt st Q:=λw0 m0 a w hr0=>by
 obtain⟨cc,hold,Db⟩:=hr0;simp only[Eo]at hid;obtain⟨c',q1,q2⟩:=Db.arrOpq ho hf hid;refine h w0 m0 a w ⟨c',q1.trans hold, ?_⟩;rw[JA (o':=λq=>if q=id then some (.opq s1 e1 n1 (Al s1 e1 n1 f))else st.den.o q) (λq=>by simp only[b9];rfl)];exact q2
end
theorem Qk.mem {v:Value} {R:kc}:∀{L:List (Value×kc)} {bk:Nat->Prop} {h:Nat->Option Obj},Qk L bk h->(v,R)∈L->∃bk1:Nat->Prop,(∀b,bk1 b->bk b)/\R v bk1 (El bk1 h)
 | [],_,_,_,hm=>by cases hm
 | (v',R')::L,bk,h,hb,hm=>by
  obtain⟨_,b1,b2,hi,_,hR,hL⟩:=hb
  rcases Jd.1 hm with e|hm
  .grind
  obtain⟨b3,q1,q2⟩:=Qk.mem hL hm;refine⟨b3,λb hx=>(hi b).2 (.inr (q1 b hx)), ?_⟩;rw[mB q1]at q2;exact q2
theorem Al.rep {s m:Nat} {e:TypeId} {g:Nat->Nat->PV} {v:Value} {bk:Nat->Prop} {h:Nat->Option Obj} {im:Dc} (hj:Al s e m g v bk h) (hi:∀b x,bk b->h b=some x->im b=some x):aq im (.sl m s false g) v:=by
 rcases hj with⟨h0,⟨a,hv⟩,_⟩|⟨b,cap,cur,hv,h0,hbk,hh,h3,h4,h5,h6⟩
 .subst h0
  exact⟨a,0,hv,Yb _,Zb _,(λhx=>by cases hx),λhx=>Ea hx (Pl _)⟩
 refine⟨some ⟨b,0,none⟩,cap,hv,h3,h4,(λhx=>by cases hx),λ_=>⟨b,0,rfl,λi j hi' hj'=>?_⟩⟩;obtain⟨x,hx,hr⟩:=h6 i j hi' hj';refine⟨x, ?_,aq.mono (λb x hb=>by cases hb) hr⟩;unfold gz
 grind
section
variable {w0:World}{nt:Nat}{c:Pc}{s:S}{a:Act}{w:World}
theorem ah.freezeBag (h:ah w0 nt c s a w) {id idb n1 s1 s2 n2:Nat} {e1 e2:TypeId} {f f':Nat->Nat->PV} {L:List (Value×kc)} (ho:s.o id=some (.arr true s1 e1 n1 f)) (hob:s.o idb=some (.opq s2 e2 n2 (su L)))
 (hL:∀i j,i<n1->j<s1->Fc (f i j) (f' i j)\/∃v sz e m g,(v,Al sz e m g)∈L/\f i j=.raw v/\f' i j=.sl m sz false g) (hne:id≠idb) (hid:id<1000) :
 ∃c',c'.old=c.old/\ah w0 nt c' ⟨s.t,λq=>if q=id then some (.arr true s1 e1 n1 f')else if q=idb then none else s.o q⟩ a w:=by
 obtain⟨_,_,hB⟩:=h.objs idb _ hob;have h2:=h.freeze hob;have ho2:(s.setO idb none).o id=some (.arr true s1 e1 n1 f):=by simp only[S.setO];rw[Ca hne];exact ho
 have him:∀(bk:Nat->Prop),(∀b,bk b->c.blk idb b)->∀b x,bk b->Ml bk w b=some x->Pb c w idb b=some x:=λbk hs b x hb hx=>by
  unfold Pb;rw[Ba (hs b hb),<- YD hb];exact hx
 obtain⟨a1,a2,a3⟩:=h2.objs id _ ho2
 have he:(λq=>if q=id then some (a8.arr true s1 e1 n1 f')else if q=idb then none else s.o q)=λq=>if q=id then some (a8.arr true s1 e1 n1 f') else(s.setO idb none).o q:=by
  funext q;simp only[S.setO]
 rw[he];have ob1:(λq=>if q=id then some (a8.arr true s1 e1 n1 f') else(s.setO idb none).o q) id=some (.arr true s1 e1 n1 f'):=Ba rfl;refine⟨{ old:=c.old,imm:=Pb c w idb,tab:=vt h hob,own:=c.own,blk:=c.blk,rows:=c.rows },rfl,h2.redo (λq=>q=id) c.own c.blk c.rows _ ?_ ?_ ?_ ?_ ?_ ?_⟩
 .grind
 .grind
 .rintro q rfl
  exact .inr (.inr (.inr ⟨_,_,s1,e1,n1,n1,ho2,rfl,ob1,rfl,Yb _,λ_=>rfl,λ_ _ _ _ _ _ _ hb=>by cases hb⟩))
 .rintro q ob rfl hq
  rw[Ba rfl]at hq;cases hq;refine⟨a1,a2, ?_⟩
  rcases a3 with⟨t1,xs,t2,t3⟩|⟨h0,t1,t2⟩
  .refine .inl ⟨t1,xs,t2,λi j hi hj=>?_⟩
   obtain⟨x,hx,hr⟩:=t3 i j hi hj;refine⟨x,hx, ?_⟩
   rcases hL i j hi hj with hc|⟨v,sz,e,m,g,hm,q1,q2⟩
   .exact hc _ _ hr
   rw[q1]at hr;obtain⟨rfl,_⟩:=hr;rw[q2];obtain⟨bk1,k1,k2⟩:=Qk.mem hB hm;rw[TH k1]at k2;exact k2.rep (him bk1 k1)
  obtain rfl:n1=0:=by rcases h0 with h0|h0;cases h0;exact h0
  refine .inr ⟨.inr rfl,t1, ?_⟩;obtain⟨a0,cap,e1,h1,h2,h3,_⟩:=t2;exact⟨a0,cap,e1,h1,h2,h3,λhx=>Ea hx (Pl _)⟩
 .grind
 grind
end
section
variable {ro:Option Nat}{P:Program}{nt:Nat}{co:Code}{st:Qb}{Q:Qb->Prop}
def an6 (id idb:Nat) (f':Nat->Nat->PV) {n1 s1 s2 n2:Nat} {e1 e2:TypeId} {f:Nat->Nat->PV} {L:List (Value×kc)} (ho:bo st.o id=some (.arr true s1 e1 n1 f)) (hob:bo st.o idb=some (.opq s2 e2 n2 (su L)))
 (hL:∀i j,i<n1->j<s1->Fc (f i j) (f' i j)\/∃v sz e m g,(v,Al sz e m g)∈L/\f i j=.raw v/\f' i j=.sl m sz false g)
 (h:HE nt ⟨st.t,(id,some (.arr true s1 e1 n1 f'))::(idb,none)::st.o⟩ Q) (hid:(Nat.blt id 1000&&!Nat.beq id idb)=true:=by exact rfl):HE nt st Q:=λw0 m0 a w hr0=>by
 obtain⟨cc,hold,Db⟩:=hr0;simp only[Od,Eo,Nh]at hid;obtain⟨c',q1,q2⟩:=Db.freezeBag ho hob hL (λe=>by subst e;simp at hid) hid.1;refine h w0 m0 a w ⟨c',q1.trans hold, ?_⟩;rw[JA (o':=λq=>if q=id then some (.arr true s1 e1 n1 f')else if q=idb then none else st.den.o q) (λq=>by simp only[b9];rfl)];exact q2
end
end
section
open Go.RowKit
def uP {nt:Nat} {st:Qb} {Q:Qb->Prop} (d:Nat) (y:HR) {x:HR} (hx:bo st.t d=some x) (hc:Rg x y) (h:HE nt ⟨(d,some y)::st.t,st.o⟩ Q):HE nt st Q :=
 oH st d y (λw0 m0 a w hr=>by
  obtain⟨cc,hold,Db⟩:=hr
  exact⟨cc,hold,Db,ap.co hc (Db.tmps d x hx)⟩) h
def LQ {v:Value} (h:v.oneCell'=true):Fk v=.one (.p (.raw v)):=by
 cases v<;>first|rfl|(simp[Value.oneCell']at h)
def RR:∀{l m:List Lb},Md (l++m)=Md l++Md m
 | [],m=>by
  show Md m=Ye++Md m;apply ByteArray.ext;rw[ByteArray.data_append];exact Array.empty_append.symm
 | v::l,m=>by
  show py v++Md (l++m)=(py v++Md l)++Md m;rw[RR,ByteArray.append_assoc]
def bcw {v:Lb}:Md [v]=py v:=by
 show py v++Ye=py v;apply ByteArray.ext;rw[ByteArray.data_append];exact Array.append_empty
def AB:∀{l:List Lb},(Md l).size<=403*l.length
 | []=>Yb _
 | v::l=>by
  have h1:=LU (v:=v);have h2:=AB (l:=l);show(py v++Md l).size<=403*(l.length+1);rw[ByteArray.size_append];omega
def b4x {l:List Lb} {i:Nat} (h:i<l.length):bl (Md (l.take (i+1)))=bl (Md (l.take i))++(py (l.getD i default)).data.toList:=by
 rw[au h,RR,Ex,bcw]
def bcc {l:List Lb} (hok:∀v∈l,cz v=true) (h:bl (Md (l.take l.length))=[]):decide (l.length=0)=true:=by
 rw[Id,JD hok]at h
 cases l with
 |nil=>rfl
 | cons v l =>
  exfalso;have h2:=Da List.length h;unfold b8 at h2;rw[Yd,Lj,Uc]at h2;unfold kp at h2;simp at h2
structure nn (P:Program) (kt:TypeId) (L:List (List Lb)) (V:List Lb->Value->Prop) (es:Array MapEntry) (clock:Nat):Prop where
 mx:tq P kt es clock
 to:∀e∈es.toList,∃w∈L,e.key=.string (Md w)/\V w e.val
 of:∀w∈L,∃e∈es.toList,e.key=.string (Md w)
section
variable {P:Program}{kt:TypeId}{L:List (List Lb)}{V V':List Lb->Value->Prop}{es es':Array MapEntry}{clock clock':Nat}{w:List Lb}{v:Value}
def nn.nil:nn P kt [] V #[] clock:=⟨tq.nil,λe he=>by simp at he,λw hw=>by cases hw⟩
def nn.put(h:nn P kt L V es clock)(hX:tq P kt es' clock')(hP:xG es es' (.string (Md w)) v)(hm:∀u x,V u x->V' u x)(hv:V' w v):nn P kt (L++[w]) V' es' clock' :=
 ⟨hX,λe he=>by
  rcases hP.to e he with⟨h1,_⟩|⟨h1,h2⟩
  .obtain ⟨u,hu,h3,h4⟩:=h.to e h1
   exact⟨u,Ig _ hu,h3,hm _ _ h4⟩
  .exact⟨w,Bh _ (Bf.2 rfl),h1,by rw[h2];exact hv⟩,λu hu=>by
  by_cases hk:Md u=Md w
  .obtain ⟨x,hx,h1,_⟩:=hP.at_
   exact⟨x,hx,by rw[h1,hk]⟩
  rcases Af.1 hu with hu|hu
  .obtain ⟨e,he,h1⟩:=h.of u hu
   obtain⟨x,hx,h2,_⟩:=hP.old e he (by rw[h1];intro e2;exact hk (Value.string.inj e2));exact⟨x,hx,h2.trans h1⟩
  rw[Bf.1 hu]at hk
  exact Ea rfl hk⟩
def iZ:Value->ByteArray
 | .string b=>b
 |_=>Ye
def nn.size (h:nn P kt L V es clock):es.size<=L.length:=by
 have hp:=((Go.MapKept.stamped_iff es clock).1 h.mx.st).2.2
 have hn:(es.toList.map λe=>iZ e.key).Nodup:=by
  refine Av.2 (hp.imp_of_mem λ{a b} ha hb hne e=>hne ?_);obtain⟨x,_,h1,_⟩:=h.to a ha;obtain⟨y,_,h2,_⟩:=h.to b hb;rw[h1,h2]at e ⊢;exact Da Value.string e
 have:=hn.length_le_of_subset (l₂:=L.map Md) λk hk=>by
  obtain⟨e,he,rfl⟩:=Ad.1 hk;obtain⟨x,hx,h1,_⟩:=h.to e he;exact Ad.2 ⟨x,hx,by rw[h1];rfl⟩
 simpa using this
def nn.absent (h:nn P kt L V es clock) (hno:∀e∈es.toList,e.key≠.string (Md w)):∀u∈L,Md u≠Md w:=λu hu e=>by
 obtain⟨x,hx,h1⟩:=h.of u hu;exact hno x hx (h1.trans (Da Value.string e))
def nn.found (h:nn P kt L V es clock) {e:MapEntry} {k:ByteArray} (he:e∈es.toList) (hk:e.key=.string k):∃u∈L,Md u=k/\V u e.val:=by
 obtain⟨u,hu,h1,h2⟩:=h.to e he;exact⟨u,hu,Value.string.inj (h1.symm.trans hk),h2⟩
structure Sm (es:Array MapEntry) (seen:Array Nat) (vs:List ByteArray):Prop where
 nod:vs.Nodup
 inn:∀k∈vs,∃x∈es.toList,x.key=.string k/\seen.contains x.born=true
 all:∀x∈es.toList,seen.contains x.born=true->∃k∈vs,x.key=.string k
def Sm.nil:Sm es #[] []:=⟨List.nodup_nil,λk hk=>(by cases hk),λx _ h=>(by simp at h)⟩
section
variable {seen:Array Nat}{vs:List ByteArray}
def Sm.step{e:MapEntry}{k:ByteArray}(h:Sm es seen vs)(hX:tq P kt es clock)(he:e∈(leftOf es seen).toList)(hk:e.key=.string k):Sm es (seen.push e.born) (vs++[k]):=by
 obtain⟨h1,h2⟩:=mem_left he
 have hno:k∉vs:=λhm=>by
  obtain⟨x,q1,q2,q3⟩:=h.inn k hm;have:x=e:=hX.inj q1 h1 (q2.trans hk.symm);subst this;rw[q3]at h2;cases h2
 refine⟨List.nodup_append.2 ⟨h.nod,by simp,λa ha b hb=>?_⟩,λk' hk'=>?_,λx hx hc=>?_⟩
 .simp only [Bf]at hb
  subst hb;rintro rfl;exact hno ha
 .rcases Af.1 hk' with hk'|hk'
  .obtain ⟨x,q1,q2,q3⟩:=h.inn k' hk'
   exact⟨x,q1,q2,by rw[contains_push,q3];rfl⟩
  simp only[Bf]at hk';subst hk';exact⟨e,h1,hk,by rw[contains_push];simp⟩
 rw[contains_push,Kj]at hc
 rcases hc with hc|hc
 .obtain ⟨k',q1,q2⟩:=h.all x hx hc
  exact⟨k',Ig _ q1,q2⟩
 have:x=e:=born_inj hX.st.2.1 hx h1 (by simpa using hc);subst this;exact⟨k,by simp,hk⟩
def Sm.fin(h:Sm es seen vs)(hK:nn P kt L V es clock)(h0:(leftOf es seen).size=0):∀k,k∈vs<->k∈L.map Md:=λk=>by
 rw[Ad];constructor
 .intro hk
  obtain⟨x,hx,h1,_⟩:=h.inn k hk;obtain⟨u,hu,h2,_⟩:=hK.found hx h1;exact⟨u,hu,h2⟩
 rintro⟨u,hu,rfl⟩;obtain⟨x,hx,h1⟩:=hK.of u hu;obtain⟨k,hk,h2⟩:=h.all x hx (all_seen es seen h0 x hx);have e:=Value.string.inj (h1.symm.trans h2);rw[e];exact hk
def Sm.len (h:Sm es seen vs) (hK:nn P kt L V es clock):vs.length<=L.length:=by
 have:=h.nod.length_le_of_subset (l₂:=L.map Md) λk hk=>by
  obtain⟨x,hx,h1,_⟩:=h.inn k hk;obtain⟨u,hu,h2,_⟩:=hK.found hx h1;exact Ad.2 ⟨u,hu,h2⟩
 simpa using this
end
end
def b4p {R:List Xb} {w:List Lb} {n:Nat} (hl:∀r∈R,r.vals.length=n) (hw:w.length=n) (he:∀r∈R,∀v∈r.vals,pe v) (hv:∀v∈w,pe v) {u:List Lb} (hu:u∈R.map Xb.vals) (hk:Md u=Md w):ni R w=true:=by
 obtain⟨r,hr,rfl⟩:=Ad.1 hu;exact Yf.2 ⟨r,hr,Fa (HI ((hl r hr).trans hw.symm) (he r hr) hv hk)⟩
def b5g {R:List Xb} {w:List Lb} (h:∀u∈R.map Xb.vals,Md u≠Md w):ni R w=false:=by
 refine Dk.2 λr hr=>?_;intro e;exact h r.vals (Ad.2 ⟨r,hr,rfl⟩) (Da Md (Ga e))
end
end Go.Hx
