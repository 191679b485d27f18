/- A part of the proof: Hx30 Hx32 Hx33 Hx31. -/
import Derived.Test.YtnlcekpflogjkaaGreatDoorTz30
set_option linter.all false
namespace Go.Hx
section
open Go.RowKit
section
variable {w0:World}{nt:Nat}{c:Ctx}{s:S}{a:Act}{w:World}
theorem ah.redo (h:ah w0 nt c s a w) (D:Nat->Prop) (own':Nat->Value) (blk':Nat->Nat->Prop) (rows':Nat->Nat->Value) (o':ar)
 (hD:∀q,D q->q<1000) (hs:∀q,¬D q->o' q=s.o q/\own' q=c.own q/\blk' q=c.blk q/\rows' q=c.rows q)
 (he:∀q,D q->((∀d x,s.t d=some x->¬x.men q)/\∀id ob,¬D id->s.o id=some ob->¬ob.men q)\/Evo c s.o { old:=c.old,imm:=c.imm,tab:=c.tab,own:=own',blk:=blk',rows:=rows' } o' q)
 (hob:∀q ob,D q->o' q=some ob->eu 0 { old:=c.old,imm:=c.imm,tab:=c.tab,own:=own',blk:=blk',rows:=rows' } o' w q ob)
 (hfrom:∀q ob b,D q->o' q=some ob->blk' q b->∃q0 ob0,D q0/\s.o q0=some ob0/\c.blk q0 b)
 (hin:∀q q' ob ob' b,D q->D q'->o' q=some ob->o' q'=some ob'->blk' q b->blk' q' b->q=q') :
 ah w0 nt { old:=c.old,imm:=c.imm,tab:=c.tab,own:=own',blk:=blk',rows:=rows' } ⟨s.t,o'⟩ a w:=by
 have hevo:∀q,¬D q->Evo c s.o { old:=c.old,imm:=c.imm,tab:=c.tab,own:=own',blk:=blk',rows:=rows' } o' q:=fun q hq=>by
  obtain⟨h1,h2,h3,h4⟩:=hs q hq;exact Evo.of_same h1 h2 h4
 refine⟨h.defers,h.size,h.below,fun d x hx=>?_,fun q ob hq=>?_,fun q q' ob ob' b hq hq' hb hb'=>?_,h.imm,fun q ob b hq hb=>?_,h.was,h.frm,fun q ob b hq hb=>?_,fun q hq=>?_⟩
 · refine (h.tmps d x hx).evo (Imm.le.refl c.imm) fun q hm=>?_
   grind
 · by_cases hd:D q
   · grind
   obtain⟨h1,h2,h3,h4⟩:=hs q hd;have hq:o' q=some ob:=hq;rw[h1]at hq;refine(h.objs q ob hq).keep (Imm.le.refl c.imm) h2 h3 (fun j hj=>?_) (fun b hb=>rfl) h4
   grind
 · have hq:o' q=some ob:=hq
   have hq':o' q'=some ob':=hq'
   have cross:∀q q' ob ob',D q->¬D q'->o' q=some ob->o' q'=some ob'->blk' q b->blk' q' b->False:=fun q q' ob ob' hd hd' hq hq' hb hb'=>by
    obtain⟨q0,ob0,h1,h2,h3⟩:=hfrom q ob b hd hq hb;obtain⟨h4,_,h5,_⟩:=hs q' hd';rw[h4]at hq';rw[h5]at hb';have:=h.inj q0 q' ob0 ob' b h2 hq' h3 hb'
    grind
   by_cases hd:D q
   · grind
   by_cases hd':D q'
   · grind
   obtain⟨h1,_,h3,_⟩:=hs q hd;obtain⟨h1',_,h3',_⟩:=hs q' hd';rw[h1]at hq;rw[h1']at hq';simp only[h3]at hb;simp only[h3']at hb';exact h.inj q q' ob ob' b hq hq' hb hb'
 · have hq:o' q=some ob:=hq
   by_cases hd:D q
   · obtain ⟨q0,ob0,_,h2,h3⟩:=hfrom q ob b hd hq hb
     exact h.sep q0 ob0 b h2 h3
   obtain⟨h1,_,h3,_⟩:=hs q hd;rw[h1]at hq;simp only[h3]at hb;exact h.sep q ob b hq hb
 · have hq:o' q=some ob:=hq
   by_cases hd:D q
   · obtain ⟨q0,ob0,_,h2,h3⟩:=hfrom q ob b hd hq hb
     exact h.fsep q0 ob0 b h2 h3
   obtain⟨h1,_,h3,_⟩:=hs q hd;rw[h1]at hq;simp only[h3]at hb;exact h.fsep q ob b hq hb
 have:¬D q:=fun hd=>by have:=hD q hd;omega
 exact(h.fixed q hq).trans (hevo q this)
structure amd (et:TypeId) (es n r:Nat) (m:Nat->Nat) (g:Nat->Nat->Nat->PV) (hd:Nat->Value) (B:Nat->Option Obj):Prop where
 pos:0<es
 len:n<=maxLen
 row:∀i,i<n->i≠r->(m i=0/\∃a,hd i=.slice a 0 0)\/∃b cap cur,hd i=.slice (some ⟨b,0,none⟩) (m i) cap/\b7 (hd i)=some b/\B b=some (.cells cur et (0,0))/\m i<=cap/\cap<=maxLen/\cur.size=cap*es /\
  ∀q j,q<m i->j<es->∃x,(cur.toList.take (m i*es))[q*es+j]? = some x/\g i q j=.raw x/\x.oneCell'=true
 apart:∀i i' b,i<n->i≠r->i'<n->i'≠r->b7 (hd i)=some b->b7 (hd i')=some b->i'=i
 blk:∀b,B b≠none->∃i,i<n/\i≠r/\b7 (hd i)=some b
def hdF(hd:Nat->Value)(id' r k:Nat):Nat->Nat->HV:=fun i _=>bif Nat.beq i r then .ref id' k else .p (.raw (hd i))
def a3b(hd:Nat->Value)(id' r k j:Nat):hdF hd id' r k r j=.ref id' k:=by simp[hdF]
def a89 {hd:Nat->Value} {id' r k i j:Nat} (h:i≠r):hdF hd id' r k i j=.p (.raw (hd i)):=by
 have:Nat.beq i r=false:=by rw[btf];exact fun hb=>h (btx hb)
 simp[hdF,this]
def b5r{imm:Imm}{s':Nat}{f:Nat->Nat->PV}{a:Option Addr}:au imm (.sl 0 s' true f) (.slice a 0 0):=⟨a,0,rfl,bt2 _,bt6 _,fun _=>rfl,fun h=>absurd h (bvy 0)⟩
section
variable {et:TypeId}{g:Nat->Nat->Nat->PV}{m:Nat->Nat}
theorem ah.split(h:ah w0 nt c s a w){id id' idb r n:Nat}{e:TypeId}{es:Nat}(ho:s.o id=some (.nest e et es n m g none))(hid:id<1000)(hr:r<n)(hraw:∀i q j,i<n->q<m i->j<es->∃v,g i q j=.raw v)(hm':NM s id')(hn':s.o id'=none)(hmb:NM s idb)(hnb:s.o idb=none)(hne:id'≠idb):
 ∃hd B c',amd et es n r m g hd B/\c'.old=c.old/\ah w0 nt c' ⟨s.t,fun q=>if q=idb then some (.bun B)else if q=id' then some (.arr true es et (m r) (g r))else if q=id then some (.arrh 1 e n [id'] (hdF hd id' r (m r)))else s.o q⟩ a w:=by
 classical
 have hnk:mj 0 c s.o w id e et es n m g none:=h.objs id _ ho;have hid':id'≠id:=by rintro rfl;rw[ho]at hn';cases hn'
 have hidb:idb≠id:=by rintro rfl;rw[ho]at hnb;cases hnb
 let hd:Nat->Value:=fun i=>c.rows id i
 let B:Nat->Option Obj:=fun b=>if ∃i,i<n/\i≠r/\b7 (c.rows id i)=some b then w.heap[b]? else none
 have hB:∀i b,i<n->i≠r->b7 (c.rows id i)=some b->B b=w.heap[b]?:=fun i b h1 h2 h3=>if_pos ⟨i,h1,h2,h3⟩;have hlen:=hnk.len;simp only[nx]at hlen
 have hbf:amd et es n r m g hd B:=by
  refine⟨hnk.pos,by omega,fun i hi hir=>?_,fun i i' b h1 h2 h3 h4 h5 h6=>(hnk.apart i b h1 h5).2 i' h3 h6,fun b hb=>?_⟩
  · rcases hnk.row i hi with r0|⟨ys,r1,r2⟩
    · exact .inl r0
    rcases gw r1 with r0|⟨b,cap,rv,rb⟩
    · exact .inl r0
    rcases r1.2 with⟨hv,_⟩|⟨b',cap',cur,hv,_,hh,q1,q2,q3,q4⟩
    · grind
    rw[rv]at hv;simp only[Value.slice.injEq,bsy,Addr.mk.injEq,and_true,true_and]at hv;obtain⟨rfl,rfl⟩:=hv;refine .inr ⟨b,cap,cur,rv,rb,(hB i b hi hir rb).trans hh,q1,q2,q3,fun q j hq hj=>?_⟩;obtain⟨x,hx,hxr⟩:=r2 q j hq hj;obtain⟨v,hv⟩:=hraw i q j hi hq hj;rw[hv]at hxr;obtain⟨e1,e2⟩:=hxr
    grind
  grind
 obtain ⟨xt,t1,t2,_⟩:∃xs,w.ownsRow 0 e 1 (c.own id) (n+nx none) xs/\(∀i,i<n->xs[i]? = some (c.rows id i))/\∀p,(none:Option (Nat×Nat))=some p->∃x,xs[n]? = some x/\bh c s.o (.ref p.1 p.2) x:=by
  rcases hnk.top with⟨h1,_⟩|h1
  · grind
  exact h1
 have t1:w.ownsRow 0 e 1 (c.own id) n xt:=t1
 obtain ⟨bt,capt,ht0,htc⟩:∃b cap,c.own id=.slice (some ⟨b,0,none⟩) n cap/\b7 (c.own id)=some b:=by
  rcases gw t1 with⟨h1,_⟩|h1
  · omega
  exact h1
 have hbs:∀b,fm (c.own id) b<->b=bt:=fun b=>by rw[ht0];simp[fm,ct,eq_comm]
 have hrow1:∀i,i<n->(c.rows id i).oneCell'=true:=fun i hi=>by
  rcases hnk.row i hi with⟨_,x,h1⟩|⟨ys,h1,_⟩
  · rw[h1];rfl
  rcases h1.2 with⟨h1,_⟩|⟨_,_,_,h1,_⟩<;>(rw[h1];rfl)
 let blr:Nat->Prop:=fun b=>b7 (c.rows id r)=some b
 let own':Nat->Value:=fun q=>if q=id' then c.rows id r else c.own q
 let blk':Nat->Nat->Prop:=fun q=>if q=idb then(fun b=>B b≠none)else if q=id' then blr else if q=id then fm (c.own id)else c.blk q
 let o':ar:=fun q=>if q=idb then some (.bun B)else if q=id' then some (.arr true es et (m r) (g r))else if q=id then some (.arrh 1 e n [id'] (hdF hd id' r (m r)))else s.o q
 have ob1:o' idb=some (.bun B):=if_pos rfl;have ob2:o' id'=some (.arr true es et (m r) (g r)):=by show(if id'=idb then _ else if id'=id' then _ else _)=_;rw[if_neg hne,if_pos rfl]
 have ob3:o' id=some (.arrh 1 e n [id'] (hdF hd id' r (m r))):=by show(if id=idb then _ else if id=id' then _ else if id=id then _ else _)=_;rw[if_neg (Ne.symm hidb),if_neg (Ne.symm hid'),if_pos rfl]
 have bk1:blk' idb=fun b=>B b≠none:=if_pos rfl;have bk2:blk' id'=blr:=by show(if id'=idb then _ else if id'=id' then _ else _)=_;rw[if_neg hne,if_pos rfl]
 have bk3:blk' id=fm (c.own id):=by show(if id=idb then _ else if id=id' then _ else if id=id then _ else _)=_;rw[if_neg (Ne.symm hidb),if_neg (Ne.symm hid'),if_pos rfl]
 have ow2:own' id'=c.rows id r:=if_pos rfl;have ow3:own' id=c.own id:=if_neg (Ne.symm hid')
 have hDc:∀q,(q=id\/q=id'\/q=idb)->∀ob,o' q=some ob->∀b,blk' q b->c.blk id b:=fun q hq ob hob b hb=>by
  rcases hq with rfl|rfl|rfl
  · rw [bk3]at hb
    exact(hnk.blks b).2 (.inl (by rw[(hbs b).1 hb];exact htc))
  · rw [bk2]at hb
    exact(hnk.blks b).2 (.inr ⟨r,hr,hb⟩)
  rw[bk1]at hb;obtain⟨i,h1,h2,h3⟩:=hbf.blk b hb;exact(hnk.blks b).2 (.inr ⟨i,h1,h3⟩)
 refine⟨hd,B,{ old:=c.old,imm:=c.imm,tab:=c.tab,own:=own',blk:=blk',rows:=c.rows },hbf,rfl,h.redo (fun q=>q=id\/q=id'\/q=idb) own' blk' c.rows o' ?_ ?_ ?_ ?_ ?_ ?_⟩
 · rintro q (rfl|rfl|rfl)
   · exact hid
   · exact hm'.2.2
   exact hmb.2.2
 · grind
 · rintro q (rfl|rfl|rfl)
   · exact .inr (.inr (.inr ⟨_,_,1,e,n,n,ho,rfl,ob3,rfl,bt2 _,fun _=>ow3,fun _ _ _ _ _ _ _ hb=>by cases hb⟩))
   · exact .inl ⟨hm'.1,fun id0 ob _ h0=>hm'.2.1 id0 ob h0⟩
   exact .inl ⟨hmb.1,fun id0 ob _ h0=>hmb.2.1 id0 ob h0⟩
 · rintro q ob (rfl|rfl|rfl) hq
   · rw [ob3]at hq
     cases hq;refine⟨Nat.one_pos,by omega,fun i j k hi hj hk=>?_, .inl ⟨by show blk' q=fm (own' q);rw[bk3,ow3],xt,by show w.ownsRow 0 e 1 (own' q) n xt;rw[ow3];exact t1,fun i j hi hj=>?_⟩⟩
     · by_cases hir:i=r
       · subst hir;rw[a3b]at hk;simp only[HV.men]at hk;simp[hk]
       rw[a89 hir]at hk;exact hk.elim
     obtain rfl:j=0:=by omega
     refine⟨c.rows q i,by rw[bw2,bv4];exact t2 i hi, ?_⟩;by_cases hir:i=r
     · subst hir
       rw[a3b];refine⟨hrow1 i hi,fun l hl=>?_,fun ob0 s0 e0 n0 ho0 hd0=>?_⟩
       · grind
       rw[ob2]at ho0;cases ho0;simp only[aa.dim,bsy,bt7]at hd0
       grind
     rw[a89 hir];exact⟨rfl,hrow1 i hi⟩
   · rw [ob2]at hq
     cases hq;refine⟨hnk.pos,hnk.lens r hr, ?_⟩
     have hemp:(m r=0/\∃x,c.rows id r=.slice x 0 0)->(true=false\/m r=0)/\blk' q=noB/\au c.imm (.sl (m r) es true (g r)) (own' q):=fun⟨h1,x,h2⟩=>by
      refine⟨.inr h1, ?_, ?_⟩
      · rw [bk2]
        funext b;show(b7 (c.rows id r)=some b)=False;rw[h2];cases x<;>simp[b7]
      rw[ow2,h2,h1];exact b5r
     rcases hnk.row r hr with r0|⟨ys,r1,r2⟩
     · grind
     rcases gw r1 with r0|⟨b,cap,rv,rb⟩
     · grind
     have hb2:blk' q=fm (own' q):=by
      rw[bk2];funext b';show(b7 (c.rows id r)=some b')=(ct (own' q)=some b');rw[ow2,rb,rv];rfl
     grind
   rw[ob1]at hq;cases hq;refine⟨fun b hb=>by have hb:blk' q b:=hb;rw[bk1]at hb;exact hb,fun b x hx=>?_⟩;have hne2:B b≠none:=fun e=>by rw[e]at hx;cases hx
   obtain⟨i,h1,h2,h3⟩:=hbf.blk b hne2;have hc:c.blk id b:=(hnk.blks b).2 (.inr ⟨i,h1,h3⟩);rw[hB i b h1 h2 h3]at hx;obtain⟨y,hy,hyd⟩:=(h.objs id _ ho).data hc
   grind
 · intro q ob b hq hob hb
   exact⟨id,_, .inl rfl,ho,hDc q hq ob hob b hb⟩
 have x12:∀b,blk' id b->blk' id' b->False:=fun b h1 h2=>by
  rw[bk3]at h1;rw[bk2]at h2;exact(hnk.apart r b hr h2).1 (by rw[(hbs b).1 h1];exact htc)
 have x13:∀b,blk' id b->blk' idb b->False:=fun b h1 h2=>by
  rw[bk3]at h1;rw[bk1]at h2;obtain⟨i,q1,q2,q3⟩:=hbf.blk b h2;exact(hnk.apart i b q1 q3).1 (by rw[(hbs b).1 h1];exact htc)
 have x23:∀b,blk' id' b->blk' idb b->False:=fun b h1 h2=>by
  rw[bk2]at h1;rw[bk1]at h2;obtain⟨i,q1,q2,q3⟩:=hbf.blk b h2;exact q2 ((hnk.apart r b hr h1).2 i q1 q3)
 rintro q q' ob ob' b (rfl|rfl|rfl) (rfl|rfl|rfl) _ _ hb hb'
 · rfl
 · simp_all
 · simp_all
 · simp_all
 · rfl
 · grind
 · simp_all
 · grind
 rfl
def ah.join(h:ah w0 nt c s a w){id id' idb id2 r n k:Nat}{e:TypeId}{es:Nat}{ms:List Nat}{f:Nat->Nat->HV}{ff:Nat->Nat->PV}{hd:Nat->Value}{B:Nat->Option Obj}(ho:s.o id=some (.arrh 1 e n ms f))(ho':s.o id'=some (.arr true es et k ff))(hob:s.o idb=some (.bun B))(hbf:amd et es n r m g hd B)(hr:r<n)(hfr:f r 0=.ref id' k)(hfi:∀i,i<n->i≠r->f i 0=.p (.raw (hd i)))(hid:id<1000)(hid':id'<1000)(hidb:idb<1000)(hm2:NM s id2)(hn2:s.o id2=none):
 ∃c',c'.old=c.old/\c'.own id2=c.own id/\ah w0 nt c' ⟨s.t,fun q=>if q=id2 then some (.nest e et es n (fw m r k) (gk g r ff) none)else if q=id\/q=id'\/q=idb then none else s.o q⟩ a w:=by
 have x1:id'≠id:=by rintro rfl;rw[ho]at ho';cases ho'
 have x2:idb≠id:=by rintro rfl;rw[ho]at hob;cases hob
 have x3:idb≠id':=by rintro rfl;rw[ho']at hob;cases hob
 have y1:id2≠id:=by rintro rfl;rw[ho]at hn2;cases hn2
 have y2:id2≠id':=by rintro rfl;rw[ho']at hn2;cases hn2
 have y3:id2≠idb:=by rintro rfl;rw[hob]at hn2;cases hn2
 obtain⟨_,_,_,h5⟩:=h.objs id _ ho
 obtain ⟨h6,xt,t1,t2⟩:c.blk id=fm (c.own id)/\∃xs,w.ownsRow 0 e 1 (c.own id) n xs/\∀i j,i<n->j<1->∃x,xs[i*1+j]? = some x/\bh c s.o (f i j) x:=by
  rcases h5 with h5|⟨h5,_⟩
  · exact h5
  omega
 obtain⟨q0,q1,q5⟩:=h.objs id' _ ho';obtain⟨b1,b2⟩:=h.objs idb _ hob
 obtain ⟨bt,capt,ht0,htc⟩:∃b cap,c.own id=.slice (some ⟨b,0,none⟩) n cap/\b7 (c.own id)=some b:=by
  rcases gw t1 with⟨h1,_⟩|h1
  · omega
  exact h1
 have hct:c.blk id bt:=by rw[h6,ht0];rfl
 let rws:Nat->Value:=fun i=>if i=r then c.own id' else hd i
 have rr:rws r=c.own id':=if_pos rfl;have rn:∀i,i≠r->rws i=hd i:=fun i hi=>if_neg hi
 have hcr:∀b,b7 (c.own id')=some b->c.blk id' b:=fun b hb=>by
  rcases q5 with⟨q6,_⟩|⟨q7,_,q8⟩
  · rw[q6];exact a7n hb
  obtain⟨ad,cap,r1,_,_,r4,_⟩:=q8
  rcases q7 with q7|q7
  · cases q7
  subst q7;rw[r1,r4 rfl]at hb;cases ad<;>simp[b7]at hb
 have hrow:(k=0/\∃a,c.own id'=.slice a 0 0)\/∃ys,w.ownsRow 0 et es (c.own id') k ys/\∀r j,r<k->j<es->∃x,ys[r*es+j]? = some x/\au c.imm (ff r j) x:=by
  rcases q5 with⟨_,xs,q7,q8⟩|⟨q6,_,q8⟩
  · exact .inr ⟨xs,q7,q8⟩
  rcases q6 with q6|q6
  · cases q6
  subst q6;exact .inl ⟨rfl,zb q8⟩
 have hrows:∀i,i<n->xt[i]? = some (rws i):=fun i hi=>by
  obtain⟨x,hx,hxr⟩:=t2 i 0 hi bx5;rw[bw2,bv4]at hx;by_cases hir:i=r
  · subst hir
    rw[hfr]at hxr;rw[rr,hx,(hxr.2.2 _ _ _ _ ho' rfl).2 rfl]
  rw[hfi i hi hir]at hxr;rw[rn i hir,hx,hxr.1]
 have hcb:∀i b,i<n->i≠r->b7 (hd i)=some b->c.blk idb b:=fun i b hi hir hb=>by
  rcases hbf.row i hi hir with⟨_,x,h1⟩|⟨b',cap,cur,h1,h2,h3,_⟩
  · rw[h1]at hb;cases x<;>simp[b7]at hb
  rw[h2]at hb;cases hb;exact(b2 _ _ h3).1
 let bk:Nat->Prop:=fun b=>b7 (c.own id)=some b\/∃i,i<n/\b7 (rws i)=some b
 have hfrom:∀b,bk b->c.blk id b\/c.blk id' b\/c.blk idb b:=fun b hb=>by
  rcases hb with hb|⟨i,hi,hb⟩
  · rw [htc]at hb
    cases hb;exact .inl hct
  by_cases hir:i=r
  · subst hir;rw[rr]at hb;exact .inr (.inl (hcr b hb))
  rw[rn i hir]at hb;exact .inr (.inr (hcb i b hi hir hb))
 let own':Nat->Value:=fun q=>if q=id2 then c.own id else c.own q
 let blk':Nat->Nat->Prop:=fun q=>if q=id2 then bk else c.blk q
 let rows':Nat->Nat->Value:=fun q=>if q=id2 then rws else c.rows q
 let o':ar:=fun q=>if q=id2 then some (.nest e et es n (fw m r k) (gk g r ff) none)else if q=id\/q=id'\/q=idb then none else s.o q
 have o2:o' id2=some (.nest e et es n (fw m r k) (gk g r ff) none):=if_pos rfl
 have o1:∀q,(q=id\/q=id'\/q=idb)->o' q=none:=fun q hq=>by
  show(if q=id2 then _ else if q=id\/q=id'\/q=idb then none else s.o q)=none;rw[if_neg (by rcases hq with rfl|rfl|rfl<;>(intro e;first|exact y1 e.symm|exact y2 e.symm|exact y3 e.symm)),if_pos hq]
 have w2:own' id2=c.own id:=if_pos rfl;have k2:blk' id2=bk:=if_pos rfl;have s2:rows' id2=rws:=if_pos rfl;refine⟨{ old:=c.old,imm:=c.imm,tab:=c.tab,own:=own',blk:=blk',rows:=rows' },rfl,w2,h.redo (fun q=>q=id2\/q=id\/q=id'\/q=idb) own' blk' rows' o' ?_ ?_ ?_ ?_ ?_ ?_⟩
 · rintro q (rfl|rfl|rfl|rfl)
   · exact hm2.2.2
   · exact hid
   · exact hid'
   exact hidb
 · intro q hq
   have z1:q≠id2:=fun e=>hq (.inl e);refine⟨?_,if_neg z1,if_neg z1,if_neg z1⟩;show(if q=id2 then _ else if q=id\/q=id'\/q=idb then none else s.o q)=_;rw[if_neg z1,if_neg (fun e=>hq (.inr e))]
 · rintro q (rfl|hq)
   · exact .inl ⟨hm2.1,fun id0 ob _ h0=>hm2.2.1 id0 ob h0⟩
   exact .inr (.inl (o1 q hq))
 · rintro q ob (rfl|hq) hob'
   · rw [o2]at hob'
     cases hob';have hlenn:n<=maxLen:=hbf.len
     have apart:∀i b,i<n->b7 (rws i)=some b->b7 (c.own id)≠some b/\∀i',i'<n->b7 (rws i')=some b->i'=i:=fun i b hi hb=>by
      have own_i:(i=r/\c.blk id' b)\/(i≠r/\c.blk idb b):=by
       by_cases hir:i=r
       · subst hir;rw[rr]at hb;exact .inl ⟨rfl,hcr b hb⟩
       rw[rn i hir]at hb;exact .inr ⟨hir,hcb i b hi hir hb⟩
      refine⟨fun he=>?_,fun i' hi' hb'=>?_⟩
      · rw [htc]at he
        cases he
        rcases own_i with⟨_,h7⟩|⟨_,h7⟩
        · exact x1 (h.inj id' id _ _ _ ho' ho h7 hct)
        exact x2 (h.inj idb id _ _ _ hob ho h7 hct)
      by_cases hir:i=r
      · by_cases hir':i'=r
        · rw[hir,hir']
        rw[rn i' hir']at hb';have h7:=hcb i' b hi' hir' hb'
        rcases own_i with⟨_,h8⟩|⟨h8,_⟩
        · exact(x3 (h.inj idb id' _ _ b hob ho' h7 h8)).elim
        exact(h8 hir).elim
      by_cases hir':i'=r
      · subst hir'
        rw[rr]at hb';have h7:=hcr b hb'
        rcases own_i with⟨h8,_⟩|⟨_,h8⟩
        · exact(hir h8).elim
        exact(x3 (h.inj idb id' _ _ b hob ho' h8 h7)).elim
      rw[rn i hir]at hb;rw[rn i' hir']at hb';exact hbf.apart i i' b hi hir hi' hir' hb hb'
     have hlens:∀i,i<n->fw m r k i<=maxLen:=fun i hi=>by
      by_cases hir:i=r
      · subst hir;rw[se];exact q1
      rw[qz hir]
      rcases hbf.row i hi hir with⟨h1,_⟩|⟨_,_,_,_,_,_,h1,h2,_⟩
      · omega
      omega
     have hrow2:∀i,i<n->(fw m r k i=0/\∃a,rws i=.slice a 0 0)\/∃ys,w.ownsRow 0 et es (rws i) (fw m r k i) ys/\∀q j,q<fw m r k i->j<es->∃x,ys[q*es+j]? = some x/\au c.imm (gk g r ff i q j) x:=fun i hi=>by
      by_cases hir:i=r
      · subst hir
        rw[rr,se,ahi];exact hrow
      rw[rn i hir,qz hir,ad8 hir]
      rcases hbf.row i hi hir with h1|⟨b,cap,cur,h1,_,h3,h4,h6,h7,h8⟩
      · exact .inl h1
      have hh:=(b2 b _ h3).2.2.1;refine .inr ⟨cur.toList.take (m i*es),⟨?_, .inr ⟨b,cap,cur,h1,bt6 _,hh,h4,h6,h7,rfl⟩⟩,fun q j hq hj=>?_⟩
      · rw[btp,bu8,h7,bua (bte _ h4)]
      obtain⟨x,e1,e2,e3⟩:=h8 q j hq hj;exact⟨x,e1,by rw[e2];exact⟨rfl,e3⟩⟩
     refine⟨q0,by simpa [nx]using hlenn,hlens,fun b=>?_,fun i b hi hb=>?_,fun i hi=>?_, .inr ⟨xt, ?_,fun i hi=>?_,fun p hp=>by cases hp⟩⟩
     · show blk' q b<->(b7 (own' q)=some b\/∃i,i<n/\b7 (rows' q i)=some b)
       rw[k2,w2,s2]
     · have hb:b7 (rows' q i)=some b:=hb
       rw[s2]at hb;show b7 (own' q)≠some b/\∀i',i'<n->b7 (rows' q i')=some b->i'=i;rw[w2,s2];exact apart i b hi hb
     · show (fw m r k i=0/\∃a,rows' q i=.slice a 0 0)\/∃ys,w.ownsRow 0 et es (rows' q i) (fw m r k i) ys/\_
       rw[s2];exact hrow2 i hi
     · show w.ownsRow 0 e 1 (own' q) n xt
       rw[w2];exact t1
     show xt[i]? = some (rows' q i);rw[s2];exact hrows i hi
   rw[o1 q hq]at hob';cases hob'
 · rintro q ob b (rfl|hq) hob' hb
   · rw [k2]at hb
     rcases hfrom b hb with h7|h7|h7
     · exact⟨id,_, .inr (.inl rfl),ho,h7⟩
     · exact⟨id',_, .inr (.inr (.inl rfl)),ho',h7⟩
     exact⟨idb,_, .inr (.inr (.inr rfl)),hob,h7⟩
   rw[o1 q hq]at hob';cases hob'
 rintro q q' ob ob' b (rfl|hq) (rfl|hq') h7 h8 _ _
 · rfl
 · rw[o1 q' hq']at h8;cases h8
 · rw[o1 q hq]at h7;cases h7
 rw[o1 q hq]at h7;cases h7
theorem ah.renN (h:ah w0 nt c s a w) {id id2 n:Nat} {e:TypeId} {es:Nat} (ho:s.o id=some (.nest e et es n m g none)) (hid:id<1000) (hm2:NM s id2) (hn2:s.o id2=none):
 ∃c',c'.old=c.old/\c'.own id2=c.own id/\ah w0 nt c' ⟨s.t,fun q=>if q=id2 then some (.nest e et es n m g none)else if q=id then none else s.o q⟩ a w:=by
 have y1:id2≠id:=by rintro rfl;rw[ho]at hn2;cases hn2
 have hnk:mj 0 c s.o w id e et es n m g none:=h.objs id _ ho
 let own':Nat->Value:=fun q=>if q=id2 then c.own id else c.own q
 let blk':Nat->Nat->Prop:=fun q=>if q=id2 then c.blk id else c.blk q
 let rows':Nat->Nat->Value:=fun q=>if q=id2 then c.rows id else c.rows q
 let o':ar:=fun q=>if q=id2 then some (.nest e et es n m g none)else if q=id then none else s.o q
 have o2:o' id2=some (.nest e et es n m g none):=if_pos rfl
 have o1:o' id=none:=by
  grind
 have w2:own' id2=c.own id:=if_pos rfl;have k2:blk' id2=c.blk id:=if_pos rfl;have s2:rows' id2=c.rows id:=if_pos rfl;refine⟨{ old:=c.old,imm:=c.imm,tab:=c.tab,own:=own',blk:=blk',rows:=rows' },rfl,w2,h.redo (fun q=>q=id2\/q=id) own' blk' rows' o' ?_ ?_ ?_ ?_ ?_ ?_⟩
 · rintro q (rfl|rfl)
   · exact hm2.2.2
   exact hid
 · grind
 · rintro q (rfl|rfl)
   · exact .inl ⟨hm2.1,fun id0 ob _ h0=>hm2.2.1 id0 ob h0⟩
   exact .inr (.inl o1)
 · rintro q ob (rfl|rfl) hob'
   · rw [o2]at hob'
     cases hob';obtain⟨p1,p2,p3,p4,p5,p6,p7⟩:=hnk;have z4:∀b,blk' q b<->(b7 (own' q)=some b\/∃i,i<n/\b7 (rows' q i)=some b):=by rw[k2,w2,s2];exact p4
     have z5:∀i b,i<n->b7 (rows' q i)=some b->b7 (own' q)≠some b/\∀i',i'<n->b7 (rows' q i')=some b->i'=i:=by rw[w2,s2];exact p5
     have z6:∀i,i<n->(m i=0/\∃a,rows' q i=.slice a 0 0)\/∃ys,w.ownsRow 0 et es (rows' q i) (m i) ys/\∀r j,r<m i->j<es->∃x,ys[r*es+j]? = some x/\au c.imm (g i r j) x:=by rw[s2];exact p6
     have z7:(n+nx none=0/\∃a,own' q=.slice a 0 0)\/∃xs,w.ownsRow 0 e 1 (own' q) (n+nx none) xs/\∀i,i<n->xs[i]? = some (rows' q i):=by
      grind
     exact⟨p1,p2,p3,z4,z5,z6,z7.imp (fun z=>z) fun⟨xs,h1,h2⟩=>⟨xs,h1,h2,fun p hp=>by cases hp⟩⟩
   grind
 · grind
 grind
end
end
section
variable {ro:Option Nat}{P:Program}{nt:Nat}{st:HSt}{Q:Exit->HSt->Prop}{co:Code}
def rh {t:List (Nat×Option HR)} {l:List (Nat×Option aa)} {o':ar} (h:∀q,b5 l q=o' q):HSt.den ⟨t,l⟩=⟨(HSt.den ⟨t,l⟩).t,o'⟩:=by
 unfold HSt.den;congr 1;exact funext h
section
variable {e et:TypeId}{g:Nat->Nat->Nat->PV}{m:Nat->Nat}
def aqw (id r id' idb:Nat) {n:Nat} {es:Nat} (ho:b5 st.o id=some (.nest e et es n m g none)) (hr:r<n) (hraw:∀i q j,i<n->q<m i->j<es->∃v,g i q j=.raw v) (h:∀hd B,amd et es n r m g hd B->HW (ro:=ro) P nt co ⟨st.t,(idb,some (.bun B))::(id',some (.arr true es et (m r) (g r)))::(id,some (.arrh 1 e n [id'] (hdF hd id' r (m r))))::st.o⟩ Q) (hid:Nat.blt id 1000=true:=by exact rfl) (h1:ku id' st=true:=by exact rfl) (h2:ku idb st=true:=by exact rfl) (hne:Nat.beq id' idb=false:=by exact rfl):HW (ro:=ro) P nt co st Q:=fun w0 m0 a w hr0=>by
 obtain⟨cc,hold,hrr⟩:=hr0;obtain⟨hm',hn'⟩:=f3 h1;obtain⟨hmb,hnb⟩:=f3 h2;have hne':id'≠idb:=by intro e;subst e;simp at hne
 obtain⟨hd,B,c',q1,q2,q3⟩:=hrr.split ho (by simpa [bvk]using hid) hr hraw hm' hn' hmb hnb hne';refine h hd B q1 w0 m0 a w ⟨c',q2.trans hold, ?_⟩;rw[rh (o':=fun q=>if q=idb then some (.bun B)else if q=id' then some (.arr true es et (m r) (g r))else if q=id then some (.arrh 1 e n [id'] (hdF hd id' r (m r)))else st.den.o q) (fun q=>by simp only[ay];rfl)];exact q3
theorem aps (d id id' idb id2:Nat) {r n n' k:Nat} {es:Nat} {ms:List Nat} {f:Nat->Nat->HV} {ff:Nat->Nat->PV} {hd:Nat->Value} {B:Nat->Option Obj} (hbf:amd et es n r m g hd B) (hd0:b5 st.t d=some (.v (.one (.ref id n')))) (ho:b5 st.o id=some (.arrh 1 e n ms f)) (ho':b5 st.o id'=some (.arr true es et k ff)) (hob:b5 st.o idb=some (.bun B)) (hr:r<n) (hfr:f r 0=.ref id' k) (hfi:∀i,i<n->i≠r->f i 0=.p (.raw (hd i))) (h:HW (ro:=ro) P nt co ⟨(d,some (.v (.one (.ref id2 n))))::st.t,(id2,some (.nest e et es n (fw m r k) (gk g r ff) none))::(id,none)::(id',none)::(idb,none)::st.o⟩ Q) (hn:n'=n:=by exact rfl) (hid:(Nat.blt id 1000&&Nat.blt id' 1000&&Nat.blt idb 1000)=true:=by exact rfl) (h1:ku id2 st=true:=by exact rfl):HW (ro:=ro) P nt co st Q:=by
 subst hn;obtain⟨hm2,hn2⟩:=f3 h1;simp only[bt3,bvk]at hid;refine tc ⟨st.t,(id2,some (.nest e et es n' (fw m r k) (gk g r ff) none))::(id,none)::(id',none)::(idb,none)::st.o⟩ d (.v (.one (.ref id2 n'))) (fun w0 m0 a w hr0=>?_) h;obtain⟨cc,hold,hrr⟩:=hr0;obtain⟨c',q1,q2,q3⟩:=hrr.join ho ho' hob hbf hr hfr hfi hid.1.1 hid.1.2 hid.2 hm2 hn2;have hu:bh cc st.den.o (.ref id n') (a.tmps.getD d undef):=hrr.tmps d _ hd0;have he:a.tmps.getD d undef=cc.own id:=(hu.2.2 _ _ _ _ ho rfl).2 rfl
 have hl:∀q,b5 ((id2,some (aa.nest e et es n' (fw m r k) (gk g r ff) none))::(id,none)::(id',none)::(idb,none)::st.o) q=(if q=id2 then some (.nest e et es n' (fw m r k) (gk g r ff) none)else if q=id\/q=id'\/q=idb then none else st.den.o q):=fun q=>by
  simp only[ay];by_cases a1:q=id2
  · grind
  rw[if_neg a1,if_neg a1];by_cases a2:q=id
  · grind
  rw[if_neg a2];by_cases a3:q=id'
  · grind
  rw[if_neg a3];by_cases a4:q=idb
  · grind
  rw[if_neg a4,if_neg (by rintro(e|e|e)<;>contradiction)];rfl
 refine⟨c',q1.trans hold,by rw[rh hl];exact q3, ?_⟩;rw[rh hl];refine⟨hu.1,fun l hl2=>by simp at hl2,fun ob2 s2 e2 n2 ho2 hd2=>?_⟩;simp only[if_true,bsy]at ho2;subst ho2;simp only[aa.dim,bsy,bt7]at hd2
 grind
theorem bd6 {w0:World} {cc c':Ctx} {a:Act} {w:World} {m0:Old} {d id id2 n:Nat} {ob ob2:aa} {sz:Nat} (hrr:ah w0 nt cc st.den a w) (hold:cc.old=m0) (hd0:b5 st.t d=some (.v (.one (.ref id n)))) (ho:b5 st.o id=some ob) (hdm:ob.dim=some (sz,e,n)) (hdm2:ob2.dim=some (sz,e,n)) (q1:c'.old=cc.old) (q2:c'.own id2=cc.own id) (q3:ah w0 nt c' ⟨st.den.t,fun q=>if q=id2 then some ob2 else if q=id then none else st.den.o q⟩ a w):
 ∃c,c.old=m0/\ah w0 nt c (HSt.den ⟨st.t,(id2,some ob2)::(id,none)::st.o⟩) a w/\aq c (HSt.den ⟨st.t,(id2,some ob2)::(id,none)::st.o⟩).o (.v (.one (.ref id2 n))) (a.tmps.getD d undef):=by
 have hu:bh cc st.den.o (.ref id n) (a.tmps.getD d undef):=hrr.tmps d _ hd0;have he:a.tmps.getD d undef=cc.own id:=(hu.2.2 _ _ _ _ ho hdm).2 rfl
 have hl:∀q,b5 ((id2,some ob2)::(id,none)::st.o) q=(if q=id2 then some ob2 else if q=id then none else st.den.o q):=fun q=>by
  simp only[ay];rfl
 refine⟨c',q1.trans hold,by rw[rh hl];exact q3, ?_⟩;rw[rh hl];refine⟨hu.1,fun l hl2=>?_,fun ob3 s3 e3 n3 ho3 hd3=>?_⟩
 · simp only [if_true,bsy]at hl2
   rw[hl2]at hdm2;cases hdm2
 grind
def au6 (d id id2:Nat) {n n':Nat} {es:Nat} (hd0:b5 st.t d=some (.v (.one (.ref id n')))) (ho:b5 st.o id=some (.nest e et es n m g none)) (h:HW (ro:=ro) P nt co ⟨(d,some (.v (.one (.ref id2 n))))::st.t,(id2,some (.nest e et es n m g none))::(id,none)::st.o⟩ Q) (hn:n'=n:=by exact rfl) (hid:Nat.blt id 1000=true:=by exact rfl) (h1:ku id2 st=true:=by exact rfl):HW (ro:=ro) P nt co st Q:=by
 subst hn;obtain⟨hm2,hn2⟩:=f3 h1;refine tc ⟨st.t,(id2,some (.nest e et es n' m g none))::(id,none)::st.o⟩ d (.v (.one (.ref id2 n'))) (fun w0 m0 a w hr0=>?_) h;obtain⟨cc,hold,hrr⟩:=hr0;obtain⟨c',q1,q2,q3⟩:=hrr.renN ho (by simpa [bvk]using hid) hm2 hn2;exact bd6 hrr hold hd0 ho rfl rfl q1 q2 q3
end
end
end
section
open Go.RowKit
def bs6(B:Nat->Option Obj)(b:Nat)(x:Option Obj):Nat->Option Obj:=fun q=>if q=b then x else B q
def a5x(o:ar)(x y:HV):Prop:=x=y\/∃id d v b ob,o id=some (.ex d v b ob)/\v.oneCell'=true/\((x=.ref id 0/\y=.p (.raw v))\/(x=.p (.raw v)/\y=.ref id 0))
def ahd (o:ar):List HV->List HV->Prop
 | [],[]=>True
 |x::xs,y::ys=>a5x o x y/\ahd o xs ys
 |_,_=>False
def bqi (o:ar):HC->HC->Prop
 | .one x, .one y=>a5x o x y
 | .agg l, .agg m=>ahd o l m
 |_,_=>False
def bjl (o:ar):HR->HR->Prop
 | .v x, .v y=>bqi o x y
 |_,_=>False
def a5x.to{o:ar}{id d:Nat}{v:Value}{b:Nat}{ob:Obj}(h:o id=some (.ex d v b ob))(h1:v.oneCell'=true):a5x o (.ref id 0) (.p (.raw v)):=.inr ⟨id,d,v,b,ob,h,h1, .inl ⟨rfl,rfl⟩⟩
def a5x.from{o:ar}{id d:Nat}{v:Value}{b:Nat}{ob:Obj}(h:o id=some (.ex d v b ob))(h1:v.oneCell'=true):a5x o (.p (.raw v)) (.ref id 0):=.inr ⟨id,d,v,b,ob,h,h1, .inr ⟨rfl,rfl⟩⟩
section
variable {w0:World}{nt:Nat}{c:Ctx}{s:S}{a:Act}{w:World}
def a5x.rep(h:ah w0 nt c s a w){x y:HV}{u:Value}(hs:a5x s.o x y)(hr:bh c s.o x u):bh c s.o y u:=by
 rcases hs with rfl|⟨id,d,v,b,ob,ho,h1,⟨rfl,rfl⟩|⟨rfl,rfl⟩⟩
 · exact hr
 · have h2:=(h.objs id _ ho).1
   obtain⟨h3,_,h4⟩:=hr;have h5:=(h4 _ _ _ _ ho rfl).2 rfl;exact⟨h5.trans h2,h1⟩
 have h2:=(h.objs id _ ho).1;obtain⟨h3,_⟩:=hr;refine⟨by rw[h3];exact h1,fun l hl=>(by rw[ho]at hl;cases hl),fun ob2 s2 e2 n2 ho2 hd2=>?_⟩;rw[ho]at ho2;cases ho2;simp only[aa.dim,bsy,bt7]at hd2;obtain⟨rfl,rfl,rfl⟩:=hd2;exact⟨bt2 _,fun _=>h3.trans h2.symm⟩
def ahd.rep (h:ah w0 nt c s a w):∀{x y:List HV} {u:List Value},ahd s.o x y->bf c s.o x u->bf c s.o y u
 | [],[],_,_,hr=>hr
 |_::_,_::_,_::_,hs,hr=>⟨hs.1.rep h hr.1,ahd.rep h hs.2 hr.2⟩
 | [],_::_,_,hs,_=>hs.elim
 |_::_,[],_,hs,_=>hs.elim
 |_::_,_::_,[],_,hr=>hr.elim
def bjl.rep (h:ah w0 nt c s a w) {x y:HR} {u:Value} (hs:bjl s.o x y) (hr:aq c s.o x u):aq c s.o y u:=by
 match x,y,hs with
 | .v (.one x), .v (.one y),hs=>exact a5x.rep h hs hr
 | .v (.agg l), .v (.agg m),hs =>
  obtain⟨us,e,hl⟩:=hr;exact⟨us,e,ahd.rep h hs hl⟩
end
section
variable {ro:Option Nat}{P:Program}{nt:Nat}{co:Code}{st:HSt}{Q:Exit->HSt->Prop}
end
end
section
open Go.RowKit
def vHC:Value->HC
 | .agg l=>.agg (l.toList.map fun v=>.p (.raw v))
 |v=>.one (.p (.raw v))
def vOk:Value->Bool
 | .agg l=>l.toList.all Value.oneCell'
 |v=>v.oneCell'
def aqj {c:Ctx} {o:ar}:∀{l:List Value},l.all Value.oneCell'=true->bf c o (l.map fun v=>.p (.raw v)) l
 | [],_=>trivial
 | v::l,h=>by
  rw[List.all_cons,bt3]at h;exact⟨⟨rfl,h.1⟩,aqj h.2⟩
def a9m {c:Ctx} {o:ar} {v:Value} (h:vOk v=true):fu c o (vHC v) v:=by
 cases v with
 |agg l=>exact⟨l.toList,by simp,aqj h⟩
 |_=>exact⟨rfl,h⟩
def a35:List HV->Option (List Value)
 | []=>some []
 | .p (.raw v)::r=>(a35 r).map (v::·)
 |_=>none
def kOf:HR->Option Value
 | .v (.one (.p (.raw v)))=>some v
 | .v (.agg l)=>(a35 l).map fun vs=>.agg vs.toArray
 |_=>none
def af6{c:Ctx}{o:ar}:∀{l:List HV} {vs us:List Value},a35 l=some vs->bf c o l us->us=vs/\vs.all Value.oneCell'=true
 | [],vs,us,h,hr=>by
  cases h
  cases us with
  |nil=>exact⟨rfl,rfl⟩
  |cons=>exact hr.elim
 | .p (.raw v)::r,vs,us,h,hr=>by
  unfold a35 at h
  cases hq:a35 r with
  |none=>rw[hq]at h;cases h
  | some ws =>
   rw[hq]at h;cases h
   cases us with
   |nil=>exact hr.elim
   | cons u us =>
    obtain⟨h1,h2⟩:=af6 hq hr.2;obtain⟨e1,e2⟩:=hr.1;subst h1 e1;exact⟨rfl,by rw[List.all_cons,e2,h2];rfl⟩
def a9z{c:Ctx}{o:ar}{x:HR}{v u:Value}(h:kOf x=some v)(hr:aq c o x u):u=v/\vOk v=true:=by
 unfold kOf at h;split at h
 · cases h
   obtain⟨e1,e2⟩:=hr;subst e1;refine⟨rfl, ?_⟩;unfold vOk;split
   · simp[Value.oneCell']at e2
   exact e2
 · rename_i l
   cases hq:a35 l with
   |none=>rw[hq]at h;cases h
   | some ws =>
    rw[hq]at h;cases h;obtain⟨us,e,hl⟩:=hr;obtain⟨h1,h2⟩:=af6 hq hl;subst h1 e;exact⟨rfl,h2⟩
 cases h
structure oz (P:Program) (kt:TypeId) (es:Array MapEntry) (clock:Nat):Prop where
 st:Go.MapKept.Stamped es clock
 mx:es.size<=maxLen
 ky:∀x∈es.toList,∃l,keyOf P kt x.key=some l
 vl:∀x∈es.toList,vOk x.key=true/\vOk x.val=true
def oz.nil{P:Program}{kt:TypeId}{clock:Nat}:oz P kt #[] clock:=⟨Go.MapKept.stamped_empty clock,by simp,fun x hx=>by simp at hx,fun x hx=>by simp at hx⟩
def oz.inj {P:Program} {kt:TypeId} {es:Array MapEntry} {clock:Nat} (h:oz P kt es clock) {x y:MapEntry} (hx:x∈es.toList) (hy:y∈es.toList) (e:x.key=y.key):x=y:=by
 have hp:=((Go.MapKept.stamped_iff es clock).1 h.st).2.2;obtain⟨i,hi,rfl⟩:=btt hx;obtain⟨j,hj,rfl⟩:=btt hy
 rcases Nat.lt_trichotomy i j with h1|h1|h1
 · exact absurd e (bv2.1 hp i j hi hj h1)
 · subst h1;rfl
 exact absurd e.symm (bv2.1 hp j i hj hi h1)
section
variable {P:Program}{nt:Nat}{ops:Array Oper}{st:HSt}{k:Nat}{o:Oper}{L:List Nat}{Q:HSt->Prop}{x ix:Operand}{mid j b clock d:Nat}{es:Array MapEntry}{t kt et:TypeId}
section
variable {kl:Lit}{kv:Value}{kx:HR}
def b3x {z:Value} (hi:ops[k]? = some o) (ht:P.underlying t=some (.map kt et)) (K:Go.Maps.Keyed P kt) (hz:∀w,(zeroValue et).run P w=.ok z w) (hzo:vOk z=true) (hX:oz P kt es clock) (hkey:keyOf P kt kv=some kl) (hkv:kOf kx=some kv) (h0:(∀e∈es.toList,e.key≠kv)->RN P nt ops L ⟨(d,some (.tup [vHC z, .one (.p (.raw (.bool false)))]))::st.t,st.o⟩ Q) (h1:∀e∈es.toList,e.key=kv->RN P nt ops L ⟨(d,some (.tup [vHC e.val, .one (.p (.raw (.bool true)))]))::st.t,st.o⟩ Q) (hg:o.guard=none:=by exact rfl) (ho:o.op=.lookup t x ix true:=by exact rfl) (hd:o.dst=some d:=by exact rfl) (hdn:cz nt (some d)=true:=by exact rfl) (hx:ev st.den x=some (.v (.one (.ref mid 0))):=by exact rfl) (hm:st.den.o mid=some (mpO b es clock):=by exact rfl) (hk:ev st.den ix=some kx:=by exact rfl):RN P nt ops (k::L) st Q :=
 adm hi hg hd hdn (fun c hc=>by rw[hc]at ho;cases ho) fun w0 a w c hrr=>by
  obtain⟨e1,e2⟩:=amb hrr hx hm;obtain⟨e3,_⟩:=a9z hkv (af hrr hk)
  rcases ad0 true K ht (hz w) e2 hX.mx hX.st hX.ky hkey with⟨hrun,hno⟩|⟨e0,he0,hk0,hrun⟩
  · exact⟨_,w,st.o, .tup [vHC z, .one (.p (.raw (.bool false)))],c,rfl,by simp[execOp,ho,e1,e3,hrun],hrr,⟨[z, .bool false],rfl,a9m hzo,⟨rfl,rfl⟩,trivial⟩,h0 hno⟩
  exact⟨_,w,st.o, .tup [vHC e0.val, .one (.p (.raw (.bool true)))],c,rfl,by simp[execOp,ho,e1,e3,hrun],hrr,⟨[e0.val, .bool true],rfl,a9m (hX.vl e0 he0).2,⟨rfl,rfl⟩,trivial⟩,h1 e0 he0 hk0⟩
def acz {z:Value} (hi:ops[k]? = some o) (ht:P.underlying t=some (.map kt et)) (K:Go.Maps.Keyed P kt) (hz:∀w,(zeroValue et).run P w=.ok z w) (hzo:vOk z=true) (hX:oz P kt es clock) (hkey:keyOf P kt kv=some kl) (hkv:kOf kx=some kv) (h0:(∀e∈es.toList,e.key≠kv)->RN P nt ops L ⟨(d,some (.v (vHC z)))::st.t,st.o⟩ Q) (h1:∀e∈es.toList,e.key=kv->RN P nt ops L ⟨(d,some (.v (vHC e.val)))::st.t,st.o⟩ Q) (hg:o.guard=none:=by exact rfl) (ho:o.op=.lookup t x ix false:=by exact rfl) (hd:o.dst=some d:=by exact rfl) (hdn:cz nt (some d)=true:=by exact rfl) (hx:ev st.den x=some (.v (.one (.ref mid 0))):=by exact rfl) (hm:st.den.o mid=some (mpO b es clock):=by exact rfl) (hk:ev st.den ix=some kx:=by exact rfl):RN P nt ops (k::L) st Q :=
 adm hi hg hd hdn (fun c hc=>by rw[hc]at ho;cases ho) fun w0 a w c hrr=>by
  obtain⟨e1,e2⟩:=amb hrr hx hm;obtain⟨e3,_⟩:=a9z hkv (af hrr hk)
  rcases ad0 false K ht (hz w) e2 hX.mx hX.st hX.ky hkey with⟨hrun,hno⟩|⟨e0,he0,hk0,hrun⟩
  · exact⟨z,w,st.o, .v (vHC z),c,rfl,by simp[execOp,ho,e1,e3,hrun],hrr,a9m hzo,h0 hno⟩
  exact⟨e0.val,w,st.o, .v (vHC e0.val),c,rfl,by simp[execOp,ho,e1,e3,hrun],hrr,a9m (hX.vl e0 he0).2,h1 e0 he0 hk0⟩
def a65(id:Nat){t:TypeId}(hi:ops[k]? = some o)(h:∀b,RN P nt ops L ⟨(d,some (.v (.one (.ref id 0))))::st.t,(id,some (mpO b #[] 0))::st.o⟩ Q)
 (hg:o.guard=none:=by exact rfl) (ho:o.op=.makeMap t none:=by exact rfl) (hd:o.dst=some d:=by exact rfl) (hdn:cz nt (some d)=true:=by exact rfl) (hn:ku id st=true:=by exact rfl):RN P nt ops (k::L) st Q :=
 adm hi hg hd hdn (fun c hc=>by rw[hc]at ho;cases ho) fun w0 a w c hrr=>by
  obtain⟨hnm,hno⟩:=f3 hn
  have hf:=hrr.fresh id hnm hno (mpO w.heap.size #[] 0) (w.alloc (.map #[] 0)) (.map (some w.heap.size)) (a0y w.heap.size) (Grw.alloc w _ none) (fun b hb=>bwq (Eq.symm hb))
   ⟨by simp,by simp,bt6 _,Go.heap_alloc_new w _,rfl⟩
  rw[<- jm]at hf;refine⟨.map (some w.heap.size),_,_, .v (.one (.ref id 0)),_,(by exact rfl), ?_,hf,⟨rfl,fun l=>by simp[jm,S.setO],fun ob2 s2 e2 n2 ho2 hd2=>?_⟩,h w.heap.size⟩
  · simp[execOp,ho,Go.run_makeMap_plain]
  rw[jm]at ho2;simp only[S.setO,if_true,bsy]at ho2;subst ho2;simp only[aa.dim,bsy,bt7]at hd2;obtain⟨rfl,rfl,rfl⟩:=hd2;exact⟨bt2 _,fun _=>by simp⟩
structure amg (es es':Array MapEntry) (kv v:Value):Prop where
 to:∀x'∈es'.toList,(x'∈es.toList/\x'.key≠kv)\/(x'.key=kv/\x'.val=v)
 at_:∃x'∈es'.toList,x'.key=kv/\x'.val=v
 old:∀x∈es.toList,x.key≠kv->∃x'∈es'.toList,x'.key=x.key/\x'.val=x.val
 sz:es'.size<=es.size+1
def a33{y:Operand}{v:Value}{vx:HR}(hi:ops[k]? = some o)(ht:P.underlying t=some (.map kt et))(K:Go.Maps.Keyed P kt)(hX:oz P kt es clock)(hlt:es.size<maxLen)(hkey:keyOf P kt kv=some kl)(hkv:kOf kx=some kv)(hvv:kOf vx=some v)(h:∀es' clock',oz P kt es' clock'->amg es es' kv v->RN P nt ops L ⟨(match o.dst with|some d=>[(d,none)]|none=>[])++st.t,(mid,some (mpO b es' clock'))::st.o⟩ Q)(hg:o.guard=none:=by exact rfl)(ho:o.op=.mapUpdate t x ix y:=by exact rfl)(hdn:cz nt o.dst=true:=by exact rfl)(hx:ev st.den x=some (.v (.one (.ref mid 0))):=by exact rfl)(hm:b5 st.o mid=some (mpO b es clock):=by exact rfl)(hk:ev st.den ix=some kx:=by exact rfl)(hv:ev st.den y=some vx:=by exact rfl):RN P nt ops (k::L) st Q:=by
 refine bg6 hi hg hdn (fun c hc=>by rw[hc]at ho;cases ho) fun w0 a w c hrr=>?_;obtain⟨e1,e2⟩:=amb hrr hx hm;obtain⟨e3,e3'⟩:=a9z hkv (af hrr hk);obtain⟨e4,e4'⟩:=a9z hvv (af hrr hv);obtain⟨q1,q2,q3,q4,q5⟩:=hrr.objs mid _ hm;obtain⟨es',clock',hrun,hst,hsz,hall,hat,hold⟩:=aja (val:=v) K ht e2 hlt hX.st hX.ky hkey;have hblk:=Go.ChangeMaps.heap_setBlock_same e2 (.map es' clock')
 have hP:amg es es' kv v:=by
  refine⟨hall, ?_,fun x hx hne=>?_,hsz⟩
  · obtain ⟨x',hx',hk'⟩:=hat
    refine⟨x',hx',hk', ?_⟩
    rcases hall x' hx' with⟨_,h2⟩|⟨_,h2⟩
    · exact absurd hk' h2
    exact h2
  obtain⟨x',hx',hk'⟩:=hold x hx;refine⟨x',hx',hk', ?_⟩
  rcases hall x' hx' with⟨h1,_⟩|⟨h2,_⟩
  · rw[hX.inj h1 hx hk']
  exact absurd (hk'.symm.trans h2) hne
 have hX':oz P kt es' clock':=⟨hst,by omega,fun x' hx'=>by
  rcases hall x' hx' with⟨h1,_⟩|⟨h2,_⟩
  · exact hX.ky x' h1
  · exact⟨kl,by rw[h2];exact hkey⟩,fun x' hx'=>by
  rcases hall x' hx' with⟨h1,_⟩|⟨h2,h3⟩
  · exact hX.vl x' h1
  rw[h2,h3];exact⟨e3',e4'⟩⟩
 have hw:=hrr.write mid _ hm (mpO b es' clock') (Go.ChangeMaps.setBlock w b (.map es' clock')) (c.own mid) (c.blk mid) (some b) (by
  exact⟨⟨rfl,rfl,rfl,by simp[Go.ChangeMaps.setBlock],fun i _ hi=>Go.ChangeMaps.heap_setBlock_other e2 _ (fun e=>hi (by rw[e]))⟩,bt2 _⟩) (fun b' hb'=>by cases hb';rw[q2];rfl)
  (.inr (.inr ⟨_,mpO b es' clock',0,0,0,0,hm,rfl,by simp[S.setO],rfl,bt2 _,fun _=>by simp,fun _ _ _ _ _ _ _ hb=>by cases hb⟩)) (fun b hb=>.inl hb) ⟨by simpa using q1,by simpa using q2,q3,hblk,rfl⟩
 rw[<- jm]at hw;exact⟨.skip,_,_,_,(by exact rfl),by simp[execOp,ho,e1,e3,e4,hrun], .inl rfl,hw,h es' clock' hX' hP⟩
def adb {z:Value} (hi:ops[k]? = some o) (ht:P.underlying t=some (.map kt et)) (K:Go.Maps.Keyed P kt) (hz:∀w,(zeroValue et).run P w=.ok z w) (hzo:vOk z=true) (hX:oz P kt es clock) (hkey:keyOf P kt kv=some kl) (hkv:kOf kx=some kv) (h:∀(ok:Bool) (v:Value),(ok=true->∃e∈es.toList,e.key=kv/\v=e.val)->(ok=false->v=z/\∀e∈es.toList,e.key≠kv)->RN P nt ops L ⟨(d,some (.tup [vHC v, .one (.p (.raw (.bool ok)))]))::st.t,st.o⟩ Q) (hg:o.guard=none:=by exact rfl) (ho:o.op=.lookup t x ix true:=by exact rfl) (hd:o.dst=some d:=by exact rfl) (hdn:cz nt (some d)=true:=by exact rfl) (hx:ev st.den x=some (.v (.one (.ref mid 0))):=by exact rfl) (hm:st.den.o mid=some (mpO b es clock):=by exact rfl) (hk:ev st.den ix=some kx:=by exact rfl):RN P nt ops (k::L) st Q :=
 b3x hi ht K hz hzo hX hkey hkv (fun hno=>h false z (fun e=>by cases e) fun _=>⟨rfl,hno⟩) (fun e he hk=>h true e.val (fun _=>⟨e,he,hk,rfl⟩) fun e=>by cases e) hg ho hd hdn hx hm hk
end
end
end
section
open Go.RowKit
def bqj (id n s:Nat) (F:Nat->Nat->PV):List HC->List HC->Prop
 | [],[]=>True
 |x::xs,y::ys=>(y=x\/(x=.one (.ref id n)/\y=.one (.p (.sl n s false F))))/\bqj id n s F xs ys
 |_,_=>False
def zn(i0:Nat)(h:HV)(g:Nat->Nat->PV):Nat->Nat->HV:=fun i j=>if i=i0 then h else .p (g i j)
section
variable {f':Nat->Nat->PV}
def ahz{nt:Nat}{st:HSt}{w0:World}{m0:Old}{a:Act}{w:World}(x i0 id:Nat)(wr:Bool){n n2 s':Nat}{e2:TypeId}{g:Nat->Nat->PV}(s:Nat)(e:TypeId)(f:Nat->Nat->PV)(hs:0<s)(hb:b5 st.o x=some (.arr true 1 e2 n2 g))(hi:i0<n2)(hl:g i0 0=.sl n s' true f')(hco:CoP (.sl n s' true f') (.sl n s true f))(hwr:wr=false\/n=0)(hn:ku id st=true)(hne:Nat.beq x id=false)(hr:Rel w0 m0 nt st.den a w):Rel w0 m0 nt (HSt.den ⟨st.t,(x,some (.arrh 1 e2 n2 [id] (zn i0 (.ref id n) g)))::(id,some (.arr wr s e n f))::st.o⟩) a w:=by
 obtain⟨hnm,hno⟩:=f3 hn;obtain⟨cc,hold,hrr⟩:=hr;have hbi:x≠id:=by rintro rfl;simp at hne
 obtain⟨p0,p1,p2⟩:=hrr.objs x _ hb
 obtain ⟨p3,xs,p4,p5⟩:cc.blk x=fm (cc.own x)/\∃xs,w.ownsRow 0 e2 1 (cc.own x) n2 xs/\∀i j,i<n2->j<1->∃u,xs[i*1+j]? = some u/\au cc.imm (g i j) u:=by
  rcases p2 with p2|⟨p2|p2,_⟩
  · exact p2
  · cases p2
  omega
 obtain⟨u,hu,hur⟩:=p5 i0 0 hi bx5;rw[hl]at hur;have hx:au cc.imm (.sl n s true f) u:=hco _ _ hur;have hnm':n<=maxLen:=by obtain⟨ad,cap,_,q1,q2,_⟩:=hx;omega
 have hfresh:=hrr.fresh id hnm hno (.arr wr s e n f) w u noB (Grw.refl w none) (fun b hb=>hb.elim) ⟨hs,hnm', .inr ⟨hwr,by simp,by simpa using hx⟩⟩;rw[<- jm]at hfresh
 have hb':(HSt.den ⟨st.t,(id,some (.arr wr s e n f))::st.o⟩).o x=some (.arr true 1 e2 n2 g):=by
  simp only[HSt.den,ay,hbi,if_false];exact hb
 have hevo:∀(c1:Ctx),c1.own=(fun k=>if k=id then u else cc.own k)->Evo { old:=cc.old,imm:=cc.imm,tab:=cc.tab,own:=fun k=>if k=id then u else cc.own k,blk:=fun k=>if k=id then noB else cc.blk k,rows:=cc.rows } (HSt.den ⟨st.t,(id,some (.arr wr s e n f))::st.o⟩).o c1 ((HSt.den ⟨st.t,(id,some (.arr wr s e n f))::st.o⟩).setO x (some (.arrh 1 e2 n2 [id] (zn i0 (.ref id n) g)))).o x:=fun c1 h1 =>
  .inr (.inr ⟨_, .arrh 1 e2 n2 [id] (zn i0 (.ref id n) g),1,e2,n2,n2,hb',rfl,by simp[S.setO],rfl,bt2 _,fun _=>by rw[h1],fun _ _ _ _ _ _ _ hb=>by cases hb⟩)
 have hown:(fun k=>if k=x then(fun k=>if k=id then u else cc.own k) x else(fun k=>if k=id then u else cc.own k) k)=fun k=>if k=id then u else cc.own k:=by
  funext k;by_cases hk:k=x
  · subst hk;simp
  simp[hk]
 have hw:=hfresh.write x _ hb' (.arrh 1 e2 n2 [id] (zn i0 (.ref id n) g)) w ((fun k=>if k=id then u else cc.own k) x) ((fun k=>if k=id then noB else cc.blk k) x) none (Grw.refl w _) (fun _ e=>by cases e) (hevo _ (by exact hown)) (fun b hb=>.inl hb) (by
  refine⟨by omega,p1,fun i j k hi hj hk=>?_, .inl ⟨by simpa [hbi]using p3,xs,by simpa [hbi]using p4,fun i j hi' hj=>?_⟩⟩
  · unfold zn at hk
    split at hk
    · have hk:k=id:=hk
      rw[hk];exact btu.2 rfl
    exact hk.elim
  obtain⟨u',hu',hr'⟩:=p5 i j hi' hj;refine⟨u',hu', ?_⟩;obtain rfl:j=0:=by omega
  unfold zn;by_cases hk:i=i0
  · subst hk
    rw[if_pos rfl];rw[hu]at hu';simp only[bsy]at hu';subst hu';refine⟨au.oneCell hx,fun l2=>by simp[S.setO,HSt.den,ay,Ne.symm hbi],fun ob1 s1 e1 n1 ho hd1=>?_⟩;simp only[S.setO,HSt.den,ay,Ne.symm hbi,if_false,if_true,bsy]at ho;subst ho;simp only[aa.dim,bsy,bt7]at hd1;obtain⟨rfl,rfl,rfl⟩:=hd1;exact⟨bt2 _,fun _=>by simp[Ne.symm hbi]⟩
  rw[if_neg hk]
  exact hr')
 have e:HSt.den ⟨st.t,(x,some (.arrh 1 e2 n2 [id] (zn i0 (.ref id n) g)))::(id,some (.arr wr s e n f))::st.o⟩=(HSt.den ⟨st.t,(id,some (.arr wr s e n f))::st.o⟩).setO x (some (.arrh 1 e2 n2 [id] (zn i0 (.ref id n) g))):=by
  unfold HSt.den S.setO;simp only[S.mk.injEq,true_and];funext k;simp only[ay]
 rw[e];exact⟨_,(by exact hold),hw⟩
def anv {nt:Nat} {st:HSt} {Q:HSt->Prop} (d id:Nat) (wr:Bool) {n s':Nat} (s:Nat) (e:TypeId) (f:Nat->Nat->PV) (hs:0<s) (hd:b5 st.t d=some (bp (.sl n s' true f'))) (hco:CoP (.sl n s' true f') (.sl n s true f)) (hwr:wr=false\/n=0) (hn:ku id st=true) (h:HE nt ⟨(d,some (.v (.one (.ref id n))))::st.t,(id,some (.arr wr s e n f))::st.o⟩ Q):HE nt st Q:=by
 obtain⟨hnm,hno⟩:=f3 hn;refine apq ⟨st.t,(id,some (.arr wr s e n f))::st.o⟩ d (.v (.one (.ref id n))) (fun w0 m0 a w hr=>?_) h;obtain⟨cc,hold,hrr⟩:=hr;have hx:au cc.imm (.sl n s true f) (a.tmps.getD d undef):=hco _ _ (hrr.tmps d _ hd);have hnm':n<=maxLen:=by obtain⟨ad,cap,_,q1,q2,_⟩:=hx;omega
 have hfresh:=hrr.fresh id hnm hno (.arr wr s e n f) w (a.tmps.getD d undef) noB (Grw.refl w none) (fun b hb=>hb.elim)
  ⟨hs,hnm', .inr ⟨hwr,by simp,by simpa using hx⟩⟩
 refine⟨_, ?_,by rw[jm];exact hfresh, ?_⟩
 · exact hold
 rw[jm];refine⟨au.oneCell hx,fun l=>by simp[S.setO],fun ob1 s1 e1 n1 ho hd1=>?_⟩;simp only[S.setO,if_true,bsy]at ho;subst ho;simp only[aa.dim,bsy,bt7]at hd1;obtain⟨rfl,rfl,rfl⟩:=hd1;exact⟨bt2 _,fun _=>by simp⟩
end
end
end Go.Hx
