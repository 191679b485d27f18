/- A part of the proof: Kw8 Hx35 Kb9. -/
import Derived.Test.YtnlcekpflogjkaaGreatDoorTy41
set_option linter.all false
set_option maxRecDepth 100000
set_option maxHeartbeats 1000000
namespace Go.Hx
section
open Go.Proofs
def blx(a b:List ByteArray):a6 bxn 106 [pP (ya a),pP (ya b)] (ae [pB (decide (a=b))]):=by
 refine hpx (nt:=26) Tryz.func106 ?_;refine d5 ?_;refine cw 0 rfl fun hb0=>?_;refine cw 1 rfl fun hb1=>?_;refine fh ?_;refine hcn ?_ ?_<;>intro h0
 · refine v_4 ?_;exact⟨ccb (decide_eq_false fun e=>by subst e;omega).symm,trivial⟩
 refine dn ?_;refine cg (ι:=Unit) kn km (fun _i=>⟨[],[]⟩) (fun _i=>a=b) ?_ ?_
 ·
  refine w_7 ?_;refine ai (ι:=Nat) (ka 0 (ka 1 (ka 12 kn))) km (fun i=>⟨[(13,some (vI i))],[]⟩) (fun i=>i<=a.length/\(∀j,j<i->a.getD j default=b.getD j default)) (fun i=>a.length-i) (0) (⟨bsx _,bv⟩) kk ?_;rintro i ⟨hi,hIi⟩;refine w_5 ?_;refine hcd ?_ ?_<;>intro h1
  ·
   refine a5y ?_;refine hcn ?_ ?_<;>intro h2
   · have hne:¬a.getD i default=b.getD i default:=(h2);refine v_4 ?_;exact⟨ccb (decide_eq_false fun e=>by subst e;exact hne rfl).symm,trivial⟩
   have heq:a.getD i default=b.getD i default:=(by first|assumption|exact(h2));refine w_5 ?_;refine lpz (i+1) kk ?_;exact⟨by show i+1<=_;omega,bc hIi (heq)⟩
  refine ck ?_;refine⟨(), ?_, ?_⟩
  · exact aq0 bww fun j hj=>hIi j bww
  exact⟨trivial,trivial⟩
 rintro _ hj;refine v_4 ?_;exact⟨ccb (decide_eq_true hj).symm,trivial⟩
def bnn(a b:List Val):a6 bxn 162 [pP (vals a),pP (vals b)] (ae [pB (decide (a=b))]):=by
 refine hpx (nt:=26) Tryz.func162 ?_;refine d5 ?_;refine cw 0 rfl fun hb0=>?_;refine cw 1 rfl fun hb1=>?_;refine fh ?_;refine hcn ?_ ?_<;>intro h0
 · refine v_4 ?_;exact⟨ccb (decide_eq_false fun e=>by subst e;omega).symm,trivial⟩
 refine dn ?_;refine cg (ι:=Unit) kn km (fun _i=>⟨[],[]⟩) (fun _i=>a=b) ?_ ?_
 ·
  refine w_7 ?_;refine ai (ι:=Nat) (ka 0 (ka 1 (ka 12 kn))) km (fun i=>⟨[(13,some (vI i))],[]⟩) (fun i=>i<=a.length/\(∀j,j<i->a.getD j default=b.getD j default)) (fun i=>a.length-i) (0) (⟨bsx _,bv⟩) kk ?_;rintro i ⟨hi,hIi⟩;refine w_5 ?_;refine hcd ?_ ?_<;>intro h1
  ·
   refine a5y ?_;refine hcb ?_ ?_<;>intro h2
   ·
    have hne:¬a.getD i default=b.getD i default:=fun e=>by simp only[bt8,e,decide_true,Bool.and_self,bwm,reduceCtorEq]at h2
    refine v_4 ?_;exact⟨ccb (decide_eq_false fun e=>by subst e;exact hne rfl).symm,trivial⟩
   have heq:a.getD i default=b.getD i default:=Val.eq_iff.2 (by simpa using h2);refine w_5 ?_;refine lpz (i+1) kk ?_;exact⟨by show i+1<=_;omega,bc hIi (heq)⟩
  refine ck ?_;refine⟨(), ?_, ?_⟩
  · exact aq0 bww fun j hj=>hIi j bww
  exact⟨trivial,trivial⟩
 rintro _ hj;refine v_4 ?_;exact⟨ccb (decide_eq_true hj).symm,trivial⟩
def bnv(l:List Row)(g k:Nat)(caps:Nat->PV)(V:Row->Bool)(hg:goodFn bxn g)(hV:∀x,a6 bxn g (x.pc::gq caps k 0) (ae [pB (V x)])):a6 bxn 218 [pP (rows l),pP (.fn g k caps)] (ae [pI (idx V l)]):=by
 refine hpx (nt:=19) Tryz.func218 ?_;refine d5 ?_;refine cw 0 rfl fun hn=>?_;refine w_3 ?_;refine cg (ι:=Unit) kn km (fun _i=>⟨[],[]⟩) (fun _i=>idx V l=-1) ?_ ?_
 ·
  refine w_7 ?_;refine ai (ι:=Nat) (ka 0 (ka 1 (ka 7 kn))) km (fun i=>⟨[(8,some (vI i))],[]⟩) (fun i=>i<=l.length/\(∀j,j<i->V (l.getD j default)=false)) (fun i=>l.length-i) (0) (⟨bsx _,bv⟩) kk ?_;rintro i ⟨hi,hIi⟩;refine w_5 ?_;refine hcd ?_ ?_<;>intro h0
  ·
   refine j5 ?_;refine rc rfl rfl rfl rfl rfl rfl hg (hV (l.getD i default)) (CoL.refl _) rfl rfl ?_;refine cj ?_;refine hcb ?_ ?_<;>intro h1
   · refine v_5 ?_;exact⟨cci (tn (i:=i) bww hIi bwx).symm,trivial⟩
   refine w_5 ?_;refine lpz (i+1) kk ?_;exact⟨by show i+1<=_;omega,bc hIi bwx⟩
  refine ck ?_;refine⟨(), ?_, ?_⟩
  · exact tj fun j hj=>hIi j bww
  exact⟨trivial,trivial⟩
 rintro _ hj;refine v_4 ?_;exact⟨cci hj.symm,trivial⟩
def bmt (l:List Row) (g k:Nat) (caps:Nat->PV) (V:Row->Bool) (hg:goodFn bxn g) (hV:∀x,a6 bxn g (x.pc::gq caps k 0) (ae [pB (V x)])):a6 bxn 160 [pP (rows l),pP (.fn g k caps)] (ae [pB (l.any V)]):=by
 refine hpx (nt:=9) Tryz.func160 ?_;refine w_8 ?_;refine qcx (wgx Tryz.func218) (bnv l g k caps V hg hV) ?_;refine v_3 ?_;exact⟨ccb a0i,trivial⟩
def bb5 (x r:Row):a6 bxn 161 [x.pc,pP (rwp r)] (ae [pB (decide (x.vals=r.vals))]):=by
 refine hpx (nt:=9) Tryz.func161 ?_;refine sx7 ?_;refine m9 0 ?_;refine w_8 ?_;refine qcx (wgx Tryz.func162) (bnn r.vals x.vals) ?_;refine v_2 ?_;exact⟨ccb (decide_eq_decide.2 eq_comm),trivial⟩
def b9m(l:List Row)(r:Row):a6 bxn 160 [pP (rows l),pP (.fn 161 1 (fun j=>[rwp r].getD j .any))] (ae [pB (aa2 l r.vals)]):=bmt l 161 1 _ (fun x=>decide (x.vals=r.vals)) (wgx Tryz.func161) fun x=>bb5 x r
def ayv (a b:List Row):a6 bxn 107 [pP (rows a),pP (rows b)] (ae [pB (avu b a)]):=by
 refine hpx (nt:=18) Tryz.func107 ?_;refine d5 ?_;refine cw 0 rfl fun hb0=>?_;refine cw 1 rfl fun hb1=>?_;refine ig ?_;refine ai (ι:=Nat) (ka 0 (ka 7 (ka 8 kn))) km (fun i=>⟨[(9,some (vI i))],[]⟩) (fun i=>i<=b.length/\(∀j,j<i->aa2 a (b.getD j default).vals=true)) (fun i=>b.length-i) (0) (⟨bsx _,bv⟩) kk ?_;rintro i ⟨hi,hIi⟩;refine w_5 ?_;refine hcd ?_ ?_<;>intro h0
 ·
  refine w_7 ?_;refine m9 0 ?_;refine w_2 ?_;refine jb 6 rfl rfl rfl ?_;refine w_4 ?_;refine qcx (wgx Tryz.func160) (b9m a (b.getD i default)) ?_;refine w_2 ?_;refine hcv ?_ ?_<;>intro h1
  · refine v_4 ?_;exact⟨ccb (afc (p:=fun r:Row=>aa2 a r.vals) (i:=i) bww bxa).symm,trivial⟩
  refine w_5 ?_;refine lpz (i+1) kk ?_;exact⟨by show i+1<=_;omega,bc hIi bxa⟩
 refine v_5 ?_;exact⟨ccb (aey (p:=fun r:Row=>aa2 a r.vals) fun j hj=>hIi j bww).symm,trivial⟩
def axs(a b:Tbl):a6 bxn 48 [a.pc,b.pc] (ae [pB (a1t a b)]):=by
 refine hpx (nt:=24) Tryz.func48 ?_;refine sx7 ?_;refine m9 0 ?_;refine m9 1 ?_;refine w_8 ?_;refine qcx (wgx Tryz.func106) (blx a.attrs b.attrs) ?_;refine qy ?_;refine ak rfl rfl ?_ ?_<;>intro r0
 ·
  have h0:=r0;(iterate 4 refine qy ?_ (hg:=(gtt r0)));refine qcx (wgx Tryz.func107) (ayv _ _) ?_ (hg:=(gtt r0));refine w_2 ?_;refine ak rfl rfl ?_ ?_<;>intro r1
  ·
   have h1:=c5 r0 r1;(iterate 4 refine qy ?_ (hg:=(gtt r1)));refine qcx (wgx Tryz.func107) (ayv _ _) ?_ (hg:=(gtt r1));refine w_3 ?_
   exact hx8 rfl rfl rfl (⟨ccb (by unfold a1t;simp_all),trivial⟩)
  have h1:=c5 r0 r1;(iterate 5 refine k9 (gft r1) ?_);refine w_3 ?_
  exact hx8 rfl rfl rfl (⟨ccb (by unfold a1t;simp_all),trivial⟩)
 have h0:=r0;(iterate 5 refine k9 (gft r0) ?_);refine w_2 ?_;(iterate 5 refine k9 rfl ?_);refine w_3 ?_
 exact hx8 rfl rfl rfl (⟨ccb (by unfold a1t;simp_all),trivial⟩)
def bj8(t:Tbl)(d:Fd)(ht:t.ok):a6 bxn 36 [t.pc,d.pc] (ae [pB (ac5 t d)]):=by
 refine hpx (nt:=50) Tryz.func36 ?_;have hrl:=ht.2.1;refine sx7 ?_;refine m9 0 ?_;refine m9 1 ?_;refine w_8 ?_;refine ai (ι:=Nat) (ka 2 (ka 3 kn)) (kb 0 (kb 1 km)) (fun i=>⟨[(5,some (vI i))],[]⟩) (fun i=>i<=t.rows.length/\(∀j,j<i->((List.range t.rows.length).all fun k=>a0s t d j k)=true)) (fun i=>t.rows.length-i) (0) (⟨bsx _,bv⟩) kk ?_;rintro i ⟨hi,hIi⟩;refine w_9 ?_;refine hcd ?_ ?_<;>intro h0
 ·
  refine w_8 ?_;refine ai (ι:=Nat) (ka 2 (ka 3 (ka 5 kn))) (kb 0 (kb 1 km)) (fun k=>⟨[(6,some (vI k))],[]⟩) (fun k=>k<=t.rows.length/\(∀j,j<k->a0s t d i j=true)) (fun k=>t.rows.length-k) (0) (⟨bsx _,bv⟩) kk ?_;rintro k ⟨hk,hIk⟩;refine w_9 ?_;refine hcd ?_ ?_<;>intro h1
  ·
   refine sv ?_;refine qcx a8m (afs (t.rows.getD i default) (t.rows.getD k default) d.lhs (ht.2.2 i bww) (ht.2.2 k bww)) ?_;refine qy ?_;refine ak rfl rfl ?_ ?_<;>intro r2
   ·
    have h2:=r2;(iterate 12 refine qy ?_ (hg:=(gtt r2)));refine qcx a8m (afs (t.rows.getD i default) (t.rows.getD k default) d.rhs (ht.2.2 i bww) (ht.2.2 k bww)) ?_ (hg:=(gtt r2));refine qy ?_ (hg:=(gtt r2))
    refine w_3 ?_;refine al _ rfl ?_ ?_<;>intro r3
    · have h3:=dt (c5 r2 r3);refine v_4 ?_;exact⟨ccb (jk (p:=fun i=>(List.range t.rows.length).all fun k=>a0s t d i k) (i:=i) bww (jk (p:=fun k=>a0s t d i k) (i:=k) bww (by unfold a0s;simp_all))).symm,trivial⟩
    have h3:=du (c5 r2 r3);refine w_6 ?_;refine lpz (k+1) kk ?_;exact⟨by show k+1<=_;omega,bc hIk (by unfold a0s;simp_all)⟩
   have h2:=r2;(iterate 14 refine k9 (gft r2) ?_);refine da ?_;refine lpz (k+1) kk ?_
   exact⟨by show k+1<=_;omega,bc hIk (by unfold a0s;simp_all)⟩
  obtain rfl:k=t.rows.length:=by omega
  refine w_6 ?_;refine lpz (i+1) kk ?_;exact⟨by show i+1<=_;omega,bc hIi (mt fun q hq=>hIk q bww)⟩
 obtain rfl:i=t.rows.length:=by omega
 refine v_5 ?_;exact⟨ccb (mt (p:=fun i=>(List.range t.rows.length).all fun k=>a0s t d i k) hIi).symm,trivial⟩
def ba3(t:Tbl)(l:List Fd)(ht:t.ok)(hl:l.length<=1000000):a6 bxn 9 [t.pc,pP (fdl l)] (ae [pP (fdl (jf t l))]):=by
 refine hpx (nt:=23) Tryz.func9 ?_;refine sx7 ?_;refine m9 0 ?_;refine mz ?_;refine d4 5 900 true 2 61 (lf Fd.c []) bx3 rfl (CoP.sl rfl (.inr rfl) (fun h=>h) (fun i j hi _=>absurd hi (bt1 i))) (.inr rfl) rfl ?_;refine br (ka 2 (ka 8 (ka 9 kn))) (kb 0 km) (fun i=>⟨[(5,some (.v (.one (.ref 900 (a2e t l i).length)))),(10,some (vI i))],[(900,some (.arr true 2 61 (a2e t l i).length (lf Fd.c (a2e t l i))))]⟩) l.length kk ?_;rintro i hi;have hhl:=b7x (t:=t) (l:=l) (i:=i);refine w_5 ?_;refine hcd ?_ ?_<;>intro h0
 ·
  have hil:i<l.length:=by omega
  refine w_7 ?_;refine m9 1 ?_;refine w_6 ?_;refine qcx (wgx Tryz.func36) (bj8 t (l.getD i default) ht) ?_;refine cj ?_;refine hcb ?_ ?_<;>intro h1
  ·
   refine w_3 ?_;refine m9 2 ?_;refine r9 3 true ?_;refine w_6 ?_
   first | (refine lpz (i+1) ⟨⟨⟨_, rfl, (bq (ag2 hil bwx))⟩, tt⟩, ⟨⟨_, rfl, (ij (ag2 hil bwx) (CoP.refl _) (CoP.refl _))⟩, uu⟩⟩ ?_; show i+1<=_; omega)
         |(refine lpz (i+1) ⟨⟨⟨_,rfl,(bm (ady hil bwx))⟩,tt⟩,⟨⟨_,rfl,(b6 (ady hil bwx))⟩,uu⟩⟩ ?_;show i+1<=_;omega)
  refine w_5 ?_
  first | (refine lpz (i+1) ⟨⟨⟨_, rfl, (bq (ag2 hil bwx))⟩, tt⟩, ⟨⟨_, rfl, (ij (ag2 hil bwx) (CoP.refl _) (CoP.refl _))⟩, uu⟩⟩ ?_; show i+1<=_; omega)
        |(refine lpz (i+1) ⟨⟨⟨_,rfl,(bm (ady hil bwx))⟩,tt⟩,⟨⟨_,rfl,(b6 (ady hil bwx))⟩,uu⟩⟩ ?_;show i+1<=_;omega)
 obtain rfl:i=l.length:=by omega
 refine w_2 ?_;refine bh 5 rfl rfl rfl ?_;refine v_4 ?_;exact⟨CoC.one (CoP.of_eq (by rw[b3l];rfl)),trivial⟩
end
section
open Go.RowKit
abbrev j0:=Value->(Nat->Prop)->(Nat->Option Obj)->Prop
noncomputable def rst (bk:Nat->Prop) (h:Nat->Option Obj):Nat->Option Obj:=fun b=>by classical exact if bk b then h b else none
section
variable {bk:Nat->Prop}{h:Nat->Option Obj}
def ae7{b:Nat}(hb:bk b):rst bk h b=h b:=by unfold rst;exact if_pos hb
theorem ael {bk1:Nat->Prop} {w:World} (hs:∀b,bk1 b->bk b):rst bk1 (onB bk w)=onB bk1 w:=by
 funext b;by_cases hb:bk1 b
 · rw[ae7 hb,aef hb,aef (hs b hb)]
 unfold rst onB
 grind
theorem a4h {bk1:Nat->Prop} (hs:∀b,bk1 b->bk b):rst bk1 (rst bk h)=rst bk1 h:=by
 funext b;by_cases hb:bk1 b
 · rw[ae7 hb,ae7 hb,ae7 (hs b hb)]
 unfold rst
 grind
def Bag:List (Value×j0)->(Nat->Prop)->(Nat->Option Obj)->Prop
 | [],bk,_=>∀b,¬bk b
 |(v,R)::L,bk,h=>v.oneCell'=true/\∃bk1 bk2:Nat->Prop,(∀b,bk b<->bk1 b\/bk2 b)/\(∀b,bk1 b->bk2 b->False)/\R v bk1 (rst bk1 h)/\Bag L bk2 (rst bk2 h)
def qx(v:Value)(R:j0):j0:=fun u bk h=>u=v/\R u bk h
def j3(L:List (Value×j0)):j0:=fun _ bk h=>Bag L bk h
theorem Bag.swap {x y:Value×j0} {L:List (Value×j0)} (hb:Bag (x::y::L) bk h):Bag (y::x::L) bk h:=by
 obtain⟨v,R⟩:=x;obtain⟨v2,R2⟩:=y;obtain⟨h1,b1,b2,i1,d1,r1,h2,b3,b4,i2,d2,r2,hL⟩:=hb;have s3:∀b,b3 b->b2 b:=fun b hb=>(i2 b).2 (.inl hb);have s4:∀b,b4 b->b2 b:=fun b hb=>(i2 b).2 (.inr hb);rw[a4h s3]at r2;rw[a4h s4]at hL;refine⟨h2,b3,fun b=>b1 b\/b4 b,fun b=>?_,fun b hb3 hb=>?_,r2,h1,b1,b4,fun b=>Iff.rfl,fun b hb1 hb4=>d1 b hb1 (s4 b hb4), ?_, ?_⟩
 · grind
 · grind
 · rw[a4h fun b hb=>.inl hb];exact r1
 rw[a4h fun b hb=>.inr hb];exact hL
theorem Bag.snoc {x:Value×j0}:∀{L:List (Value×j0)} {bk:Nat->Prop} {h:Nat->Option Obj},Bag (x::L) bk h->Bag (L++[x]) bk h
 | [],_,_,hb=>hb
 | y::L,bk,h,hb=>by
  obtain⟨v,R⟩:=y;obtain⟨h1,b1,b2,i1,d1,r1,hL⟩:=hb.swap;exact⟨h1,b1,b2,i1,d1,r1,Bag.snoc hL⟩
end
section
variable {w0:World}{nt:Nat}{c:Ctx}{s:S}{a:Act}{w:World}
section
variable {e1:TypeId}{id n1 s1:Nat}
theorem ah.bagIn (h:ah w0 nt c s a w) {idb s2 n2:Nat} {e2:TypeId} {v:Value} {R:j0} {L:List (Value×j0)} (ho:s.o id=some (.opq s1 e1 n1 (qx v R))) (hob:s.o idb=some (.opq s2 e2 n2 (j3 L))) (hne:idb≠id) (hid:id<1000) (hidb:idb<1000):
 ∃c',c'.old=c.old/\ah w0 nt c' ⟨s.t,fun q=>if q=id then none else if q=idb then some (.opq s2 e2 n2 (j3 (L++[(v,R)])))else s.o q⟩ a w:=by
 obtain⟨a1,a2,a3,a4⟩:=h.objs id _ ho;obtain⟨b1,b2,b3⟩:=h.objs idb _ hob
 let bk:Nat->Prop:=fun b=>c.blk id b\/c.blk idb b
 let o':au:=fun q=>if q=id then none else if q=idb then some (.opq s2 e2 n2 (j3 (L++[(v,R)])))else s.o q
 have ob1:o' id=none:=if_pos rfl;have ob2:o' idb=some (.opq s2 e2 n2 (j3 (L++[(v,R)]))):=(if_neg hne).trans (if_pos rfl);refine⟨{ old:=c.old,imm:=c.imm,tab:=c.tab,own:=c.own,blk:=fun q=>if q=idb then bk else c.blk q,rows:=c.rows },rfl,h.redo (fun q=>q=id\/q=idb) _ _ _ o' ?_ ?_ ?_ ?_ ?_ ?_⟩
 · grind
 · grind
 · rintro q (rfl|rfl)
   · exact .inr (.inl ob1)
   exact .inr (.inr (.inr ⟨_,_,s2,e2,n2,n2,hob,rfl,ob2,rfl,bsw _,fun _=>rfl,fun _ _ _ _ _ _ _ hb=>by cases hb⟩))
 · rintro q ob (rfl|rfl) hq
   · grind
   rw[ob2]at hq;cases hq;have hbk:(fun q'=>if q'=q then bk else c.blk q') q=bk:=if_pos rfl;refine⟨?_,b2, ?_⟩
   · grind
   show j3 _ _ ((fun q'=>if q'=q then bk else c.blk q') q) (onB ((fun q'=>if q'=q then bk else c.blk q') q) w);rw[hbk];refine Bag.snoc ⟨by rw[<- a3];exact a2,c.blk id,c.blk q,fun b=>Iff.rfl,fun b hb1 hb2=>hne (h.inj _ _ _ _ b hob ho hb2 hb1), ?_, ?_⟩
   · rw[ael fun b hb=>.inl hb,<- a3];exact a4
   rw[ael fun b hb=>.inr hb];exact b3
 · rintro q ob b (rfl|rfl) hq hb
   · grind
   grind
 grind
theorem ah.bagOut (h:ah w0 nt c s a w) {idb s2 n2:Nat} {e2:TypeId} (s1 n1:Nat) (e1:TypeId) {v:Value} {R:j0} {L:List (Value×j0)} (hob:s.o idb=some (.opq s2 e2 n2 (j3 ((v,R)::L)))) (hidb:idb<1000) (hm:NM s id) (hn:s.o id=none):
 ∃c',c'.old=c.old/\ah w0 nt c' ⟨s.t,fun q=>if q=id then some (.opq s1 e1 n1 (qx v R))else if q=idb then some (.opq s2 e2 n2 (j3 L))else s.o q⟩ a w:=by
 have hne:idb≠id:=by rintro rfl;rw[hob]at hn;cases hn
 obtain⟨b1,b2,hv1,k1,k2,ki,kd,kR,kL⟩:=h.objs idb _ hob;have s1':∀b,k1 b->c.blk idb b:=fun b hb=>(ki b).2 (.inl hb);have s2':∀b,k2 b->c.blk idb b:=fun b hb=>(ki b).2 (.inr hb);rw[ael s1']at kR;rw[ael s2']at kL
 let o':au:=fun q=>if q=id then some (.opq s1 e1 n1 (qx v R))else if q=idb then some (.opq s2 e2 n2 (j3 L))else s.o q
 have ob1:o' id=some (.opq s1 e1 n1 (qx v R)):=if_pos rfl;have ob2:o' idb=some (.opq s2 e2 n2 (j3 L)):=(if_neg hne).trans (if_pos rfl)
 let blk':Nat->Nat->Prop:=fun q=>if q=id then k1 else if q=idb then k2 else c.blk q
 let own':Nat->Value:=fun q=>if q=id then v else c.own q
 have bk1:blk' id=k1:=if_pos rfl;have bk2:blk' idb=k2:=(if_neg hne).trans (if_pos rfl);have ow1:own' id=v:=if_pos rfl;have ow2:own' idb=c.own idb:=if_neg hne;refine⟨{ old:=c.old,imm:=c.imm,tab:=c.tab,own:=own',blk:=blk',rows:=c.rows },rfl,h.redo (fun q=>q=id\/q=idb) own' blk' c.rows o' ?_ ?_ ?_ ?_ ?_ ?_⟩
 · rintro q (rfl|rfl)
   · exact hm.2.2
   exact hidb
 · grind
 · rintro q (rfl|rfl)
   · exact .inl ⟨hm.1,fun id0 ob _ h0=>hm.2.1 id0 ob h0⟩
   exact .inr (.inr (.inr ⟨_,_,s2,e2,n2,n2,hob,rfl,ob2,rfl,bsw _,fun _=>ow2,fun _ _ _ _ _ _ _ hb=>by cases hb⟩))
 · rintro q ob (rfl|rfl) hq
   · rw [ob1]at hq
     cases hq;refine⟨?_, ?_, ?_⟩
     · grind
     · grind
     show qx v R (own' q) (blk' q) (onB (blk' q) w);rw[bk1,ow1];exact⟨rfl,kR⟩
   rw[ob2]at hq;cases hq;refine⟨?_, ?_, ?_⟩
   · grind
   · grind
   show j3 L (own' q) (blk' q) (onB (blk' q) w);rw[bk2];exact kL
 · grind
 grind
theorem ah.pin (h:ah w0 nt c s a w) {R:j0} (ho:s.o id=some (.opq s1 e1 n1 R)) (hid:id<1000):
 (c.own id).oneCell'=true/\ah w0 nt c ⟨s.t,fun q=>if q=id then some (.opq s1 e1 n1 (qx (c.own id) R))else s.o q⟩ a w:=by
 obtain⟨a1,a2,a3⟩:=h.objs id _ ho;have ob1:(fun q=>if q=id then some (a7.opq s1 e1 n1 (qx (c.own id) R))else s.o q) id=some (.opq s1 e1 n1 (qx (c.own id) R)):=if_pos rfl;refine⟨a2,h.redo (fun q=>q=id) c.own c.blk c.rows _ ?_ ?_ ?_ ?_ ?_ ?_⟩
 · grind
 · grind
 · rintro q rfl
   exact .inr (.inr (.inr ⟨_,_,s1,e1,n1,n1,ho,rfl,ob1,rfl,bsw _,fun _=>rfl,fun _ _ _ _ _ _ _ hb=>by cases hb⟩))
 · rintro q ob rfl hq
   rw[if_pos rfl]at hq;cases hq;exact⟨a1,a2,rfl,a3⟩
 · grind
 grind
def JSl (s:Nat) (e:TypeId) (m:Nat) (g:Nat->Nat->PV):j0:=fun v bk h=>(m=0/\(∃a,v=.slice a 0 0)/\∀b,¬bk b) \/
 ∃b cap cur,v=.slice (some ⟨b,0,none⟩) m cap/\0<cap/\(∀b',bk b'<->b'=b)/\h b=some (.cells cur e (0,0))/\m<=cap/\cap<=maxLen/\cur.size=cap*s/\∀i j,i<m->j<s->∃x,cur[i*s+j]? = some x/\aq (fun _=>none) (g i j) x
def ahx:PV->Bool
 | .raw _=>true
 | .any=>true
 |_=>false
def aqp {m m':Imm} {x:PV} {u:Value} (h:ahx x=true) (hr:aq m x u):aq m' x u:=by
 cases x<;>first|exact hr|cases h
theorem ah.arrOpq (h:ah w0 nt c s a w) {f:Nat->Nat->PV} (ho:s.o id=some (.arr true s1 e1 n1 f)) (hf:∀i j,i<n1->j<s1->ahx (f i j)=true) (hid:id<1000):
 ∃c',c'.old=c.old/\ah w0 nt c' ⟨s.t,fun q=>if q=id then some (.opq s1 e1 n1 (JSl s1 e1 n1 f))else s.o q⟩ a w:=by
 obtain⟨a1,a2,a3⟩:=h.objs id _ ho
 have key:∃bk:Nat->Prop,(∀b,bk b->c.blk id b)/\(∀b,bk b->0<=b/\∃x,w.heap[b]? = some x/\a4c x=true)/\(c.own id).oneCell'=true/\JSl s1 e1 n1 f (c.own id) bk (onB bk w):=by
  rcases a3 with⟨hblk,xs,hrow,hcell⟩|⟨hz,hb,hsl⟩
  · rcases gk hrow with⟨hm0,a0,hv⟩|⟨b,cap,hv,hcb⟩
    · exact⟨fun _=>False,fun _ hb=>hb.elim,fun _ hb=>hb.elim,by rw[hv];rfl, .inl ⟨hm0,⟨a0,hv⟩,fun _ hb=>hb⟩⟩
    have hcap:0<cap:=by
     rcases buc cap with h0|h0
     · subst h0;rw[hv]at hcb;simp[az]at hcb
     exact h0
    rcases hrow.2 with⟨hv',_⟩|⟨b',cap',cur,hv',_,hh,q1,q2,q3,q4⟩
    · grind
    rw[hv]at hv';simp only[Value.slice.injEq,bst,Addr.mk.injEq,and_true,true_and]at hv';obtain⟨rfl,rfl⟩:=hv';refine⟨fun b''=>b''=b,fun b'' hb=>by subst hb;rw[hblk,hv];rfl,fun b'' hb=>by subst hb;exact⟨bsx _,_,hh,rfl⟩,by rw[hv];rfl, .inr ⟨b,cap,cur,hv,hcap,fun _=>Iff.rfl,by rw[aef (bk:=fun b''=>b''=b) rfl];exact hh,q1,q2,q3,fun i j hi hj=>?_⟩⟩;obtain⟨x,hx,hr⟩:=hcell i j hi hj
    have hlt:i*s1+j<n1*s1:=by
     grind
    rw[<- q4,btx,if_pos hlt,bup]at hx;exact⟨x,hx,aqp (hf i j hi hj) hr⟩
  obtain rfl:n1=0:=by rcases hz with hz|hz;cases hz;exact hz
  obtain⟨a0,cap,e1,_,_,e2,_⟩:=hsl;obtain rfl:=e2 rfl;exact⟨fun _=>False,fun _ hb=>hb.elim,fun _ hb=>hb.elim,by rw[e1];rfl, .inl ⟨rfl,⟨a0,e1⟩,fun _ hb=>hb⟩⟩
 obtain⟨bk,k1,k2,k3,k4⟩:=key;have ob1:(fun q=>if q=id then some (a7.opq s1 e1 n1 (JSl s1 e1 n1 f))else s.o q) id=some (.opq s1 e1 n1 (JSl s1 e1 n1 f)):=if_pos rfl;refine⟨{ old:=c.old,imm:=c.imm,tab:=c.tab,own:=c.own,blk:=fun q=>if q=id then bk else c.blk q,rows:=c.rows },rfl,h.redo (fun q=>q=id) _ _ _ _ ?_ ?_ ?_ ?_ ?_ ?_⟩
 · grind
 · grind
 · rintro q rfl
   exact .inr (.inr (.inr ⟨_,_,s1,e1,n1,n1,ho,rfl,ob1,rfl,bsw _,fun _=>rfl,fun _ _ _ _ _ _ _ hb=>by cases hb⟩))
 · rintro q ob rfl hq
   rw[if_pos rfl]at hq;cases hq;have hbk:(fun q'=>if q'=q then bk else c.blk q') q=bk:=if_pos rfl;refine⟨?_,k3, ?_⟩
   · grind
   grind
 · grind
 grind
theorem ah.opqArr(h:ah w0 nt c s a w){f:Nat->Nat->PV}(ho:s.o id=some (.opq s1 e1 n1 (JSl s1 e1 n1 f)))(hs:0<s1)(hmax:n1<=maxLen)(hid:id<1000)(hf:∀i j,i<n1->j<s1->ahx (f i j)=true):
 ah w0 nt c ⟨s.t,fun q=>if q=id then some (.arr true s1 e1 n1 f)else s.o q⟩ a w:=by
 obtain⟨a1,a2,a3⟩:=h.objs id _ ho;have ob1:(fun q=>if q=id then some (a7.arr true s1 e1 n1 f)else s.o q) id=some (.arr true s1 e1 n1 f):=if_pos rfl;refine h.redo (fun q=>q=id) c.own c.blk c.rows _ ?_ ?_ ?_ ?_ ?_ ?_
 · grind
 · grind
 · rintro q rfl
   exact .inr (.inr (.inr ⟨_,_,s1,e1,n1,n1,ho,rfl,ob1,rfl,bsw _,fun _=>rfl,fun _ _ _ _ _ _ _ hb=>by cases hb⟩))
 · rintro q ob rfl hq
   rw[if_pos rfl]at hq;cases hq;refine⟨hs,hmax, ?_⟩
   rcases a3 with⟨h0,⟨a0,hv⟩,hb⟩|⟨b,cap,cur,hv,h0,hbk,hh,h3,h4,h5,h6⟩
   · refine .inr ⟨.inr h0, ?_, ?_⟩
     · show c.blk q=noB
       funext b;exact propext ⟨fun hx=>(hb b hx).elim,fun hx=>hx.elim⟩
     show aq c.imm _ (c.own q);rw[hv];subst h0;exact⟨a0,0,rfl,bsw _,bsx _,fun _=>rfl,fun hx=>absurd hx (bvd _)⟩
   rw[aef ((hbk b).2 rfl)]at hh;refine .inl ⟨?_,cur.toList.take (n1*s1), ?_,fun i j hi hj=>?_⟩
   · show c.blk q=ew (c.own q)
     funext b';rw[hv];exact propext ((hbk b').trans (by simp[ew,cu,eq_comm]))
   · show w.ownsRow 0 e1 s1 (c.own q) n1 _
     refine⟨?_, .inr ⟨b,cap,cur,hv,bsx _,hh,h3,h4,h5,rfl⟩⟩;simp_all
   obtain⟨x,hx,hr⟩:=h6 i j hi hj
   have hlt:i*s1+j<n1*s1:=by
    have:(i+1)*s1<=n1*s1:=bt9 _ bww
    grind
   exact⟨x,by rw[btx,if_pos hlt,bup];exact hx,aqp (hf i j hi hj) hr⟩
 · grind
 grind
def JP (s:Nat) (e:TypeId) (n:Nat) (P:(Nat->Nat->PV)->List (Value×j0)->Prop):j0:=fun v bk h=>∃f L,P f L/\(∀i j,i<n->j<s->ahx (f i j)=true) /\
 ∃bk1 bk2:Nat->Prop,(∀b,bk b<->bk1 b\/bk2 b)/\(∀b,bk1 b->bk2 b->False)/\JSl s e n f v bk1 (rst bk1 h)/\Bag L bk2 (rst bk2 h)
theorem ah.bagNew (h:ah w0 nt c s a w) {idb:Nat} (hm:NM s idb) (hn:s.o idb=none):∃c',c'.old=c.old/\ah w0 nt c' ⟨s.t,fun q=>if q=idb then some (.opq 0 0 0 (j3 []))else s.o q⟩ a w:=by
 refine⟨{ old:=c.old,imm:=c.imm,tab:=c.tab,own:=fun q=>if q=idb then .bool false else c.own q,blk:=fun q=>if q=idb then noB else c.blk q,rows:=c.rows },rfl,h.redo (fun q=>q=idb) _ _ _ _ ?_ ?_ ?_ ?_ ?_ ?_⟩
 · rintro q rfl;exact hm.2.2
 · grind
 · rintro q rfl
   exact .inl ⟨hm.1,fun id0 ob _ h0=>hm.2.1 id0 ob h0⟩
 · rintro q ob rfl hq
   rw[if_pos rfl]at hq;cases hq;have hbk:(fun q'=>if q'=q then noB else c.blk q') q=noB:=if_pos rfl;have how:(fun q'=>if q'=q then Value.bool false else c.own q') q=.bool false:=if_pos rfl;refine⟨?_, ?_, ?_⟩
   · show ∀b,(fun q'=>if q'=q then noB else c.blk q') q b->_
     rw[hbk];exact fun b hb=>hb.elim
   · show ((fun q'=>if q'=q then Value.bool false else c.own q') q).oneCell'=true
     rw[how];rfl
   show j3 [] _ ((fun q'=>if q'=q then noB else c.blk q') q) _;rw[hbk];exact fun b hb=>hb
 · rintro q ob b rfl hq hb
   rw[if_pos rfl]at hb;exact hb.elim
 grind
end
end
def w3(o:au)(x y:HV):Prop:=x=y\/∃id s n e v R,o id=some (.opq s e n (qx v R))/\((x=.ref id n/\y=.p (.raw v))\/(x=.p (.raw v)/\y=.ref id n))
def aa3 (o:au):List HV->List HV->Prop
 | [],[]=>True
 |x::xs,y::ys=>w3 o x y/\aa3 o xs ys
 |_,_=>False
def bnx (o:au):HC->HC->Prop
 | .one x, .one y=>w3 o x y
 | .agg l, .agg m=>aa3 o l m
 |_,_=>False
def awn (o:au):HR->HR->Prop
 | .v x, .v y=>bnx o x y
 |_,_=>False
def w3.to{o:au}{id s n:Nat}{e:TypeId}{v:Value}{R:j0}(h:o id=some (.opq s e n (qx v R))):w3 o (.ref id n) (.p (.raw v)):=.inr ⟨id,s,n,e,v,R,h, .inl ⟨rfl,rfl⟩⟩
def w3.from{o:au}{id s n:Nat}{e:TypeId}{v:Value}{R:j0}(h:o id=some (.opq s e n (qx v R))):w3 o (.p (.raw v)) (.ref id n):=.inr ⟨id,s,n,e,v,R,h, .inr ⟨rfl,rfl⟩⟩
section
variable {w0:World}{nt:Nat}{c:Ctx}{s:S}{a:Act}{w:World}
theorem w3.rep (h:ah w0 nt c s a w) {x y:HV} {u:Value} (hs:w3 s.o x y) (hr:bj c s.o x u):bj c s.o y u:=by
 rcases hs with rfl|⟨id,s1,n,e,v,R,ho,⟨rfl,rfl⟩|⟨rfl,rfl⟩⟩
 · exact hr
 · obtain ⟨_,h1,h2,_⟩:=h.objs id _ ho
   obtain⟨h3,_,h4⟩:=hr;have h5:=(h4 _ _ _ _ ho rfl).2 rfl;exact⟨h5.trans h2,by rw[<- h2];exact h1⟩
 obtain⟨_,h1,h2,_⟩:=h.objs id _ ho;obtain⟨h3,_⟩:=hr;refine⟨by rw[h3,<- h2];exact h1,fun l hl=>(by rw[ho]at hl;cases hl),fun ob2 s2 e2 n2 ho2 hd2=>?_⟩;rw[ho]at ho2;cases ho2;simp only[a7.dim,bst,bt2]at hd2
 grind
def aa3.rep (h:ah w0 nt c s a w):∀{x y:List HV} {u:List Value},aa3 s.o x y->bf c s.o x u->bf c s.o y u
 | [],[],_,_,hr=>hr
 |_::_,_::_,_::_,hs,hr=>⟨hs.1.rep h hr.1,aa3.rep h hs.2 hr.2⟩
 | [],_::_,_,hs,_=>hs.elim
 |_::_,[],_,hs,_=>hs.elim
 |_::_,_::_,[],_,hr=>hr.elim
def awn.rep (h:ah w0 nt c s a w) {x y:HR} {u:Value} (hs:awn s.o x y) (hr:ar c s.o x u):ar c s.o y u:=by
 match x,y,hs with
 | .v (.one x), .v (.one y),hs=>exact w3.rep h hs hr
 | .v (.agg l), .v (.agg m),hs =>
  obtain⟨us,e,hl⟩:=hr;exact⟨us,e,aa3.rep h hs hl⟩
end
section
variable {w0:World}{nt:Nat}{c:Ctx}{s:S}{a:Act}{w:World}
end
section
variable {ro:Option Nat}{P:Program}{nt:Nat}{co:Code}{st:HSt}{Q:HSt->Prop}
def aa0 (d:Nat) {x:HR} (y:HR) (hx:ay st.t d=some x) (hs:awn st.den.o x y) (h:HE nt ⟨(d,some y)::st.t,st.o⟩ Q):HE nt st Q :=
 alw st d y (fun w0 m0 a w hr0=>by
  obtain⟨cc,hold,hrr⟩:=hr0
  exact⟨cc,hold,hrr,hs.rep hrr (hrr.tmps d x hx)⟩) h
def ayd (idb:Nat) (h:HE nt ⟨st.t,(idb,some (.opq 0 0 0 (j3 [])))::st.o⟩ Q) (hn:jp idb st=true:=by exact rfl):HE nt st Q:=fun w0 m0 a w hr0=>by
 obtain⟨cc,hold,hrr⟩:=hr0;obtain⟨hm,hn⟩:=ek hn;obtain⟨c',q1,q2⟩:=hrr.bagNew hm hn;refine h w0 m0 a w ⟨c',q1.trans hold, ?_⟩;rw[rj (o':=fun q=>if q=idb then some (.opq 0 0 0 (j3 []))else st.den.o q) (fun q=>by simp only[aw];rfl)];exact q2
section
variable {e1:TypeId}{n1 s1:Nat}
def amq (id idb:Nat) {s2 n2:Nat} {e2:TypeId} {v:Value} {R:j0} {L:List (Value×j0)} (ho:ay st.o id=some (.opq s1 e1 n1 (qx v R))) (hob:ay st.o idb=some (.opq s2 e2 n2 (j3 L))) (h:HE nt ⟨st.t,(id,none)::(idb,some (.opq s2 e2 n2 (j3 (L++[(v,R)]))))::st.o⟩ Q) (hid:(Nat.blt id 1000&&Nat.blt idb 1000&&!Nat.beq idb id)=true:=by exact rfl):HE nt st Q:=fun w0 m0 a w hr0=>by
 obtain⟨cc,hold,hrr⟩:=hr0;simp only[bt5,bvx,bu4]at hid;obtain⟨c',q1,q2⟩:=hrr.bagIn ho hob (fun e=>by subst e;simp at hid) hid.1.1 hid.1.2;refine h w0 m0 a w ⟨c',q1.trans hold, ?_⟩;rw[rj (o':=fun q=>if q=id then none else if q=idb then some (.opq s2 e2 n2 (j3 (L++[(v,R)])))else st.den.o q) (fun q=>by simp only[aw];rfl)];exact q2
def ak0 (id idb s1 n1:Nat) (e1:TypeId) {s2 n2:Nat} {e2:TypeId} {v:Value} {R:j0} {L:List (Value×j0)} (hob:ay st.o idb=some (.opq s2 e2 n2 (j3 ((v,R)::L))))
 (h:HE nt ⟨st.t,(id,some (.opq s1 e1 n1 (qx v R)))::(idb,some (.opq s2 e2 n2 (j3 L)))::st.o⟩ Q) (hid:Nat.blt idb 1000=true:=by exact rfl) (hn:jp id st=true:=by exact rfl):HE nt st Q:=fun w0 m0 a w hr0=>by
 obtain⟨cc,hold,hrr⟩:=hr0;simp only[bvx]at hid;obtain⟨hm,hn⟩:=ek hn;obtain⟨c',q1,q2⟩:=hrr.bagOut s1 n1 e1 hob hid hm hn;refine h w0 m0 a w ⟨c',q1.trans hold, ?_⟩;rw[rj (o':=fun q=>if q=id then some (.opq s1 e1 n1 (qx v R))else if q=idb then some (.opq s2 e2 n2 (j3 L))else st.den.o q) (fun q=>by simp only[aw];rfl)];exact q2
def b1g (id:Nat) {R:j0} (ho:ay st.o id=some (.opq s1 e1 n1 R)) (h:∀v,v.oneCell'=true->HE nt ⟨st.t,(id,some (.opq s1 e1 n1 (qx v R)))::st.o⟩ Q) (hid:Nat.blt id 1000=true:=by exact rfl):HE nt st Q:=fun w0 m0 a w hr0=>by
 obtain⟨cc,hold,hrr⟩:=hr0;simp only[bvx]at hid;obtain⟨q1,q2⟩:=hrr.pin ho hid;refine h (cc.own id) q1 w0 m0 a w ⟨cc,hold, ?_⟩;rw[rj (o':=fun q=>if q=id then some (.opq s1 e1 n1 (qx (cc.own id) R))else st.den.o q) (fun q=>by simp only[aw];rfl)];exact q2
def akm (id:Nat) {f:Nat->Nat->PV} (ho:ay st.o id=some (.arr true s1 e1 n1 f)) (hf:∀i j,i<n1->j<s1->ahx (f i j)=true) (h:HE nt ⟨st.t,(id,some (.opq s1 e1 n1 (JSl s1 e1 n1 f)))::st.o⟩ Q) (hid:Nat.blt id 1000=true:=by exact rfl):HE nt st Q:=fun w0 m0 a w hr0=>by
 obtain⟨cc,hold,hrr⟩:=hr0;simp only[bvx]at hid;obtain⟨c',q1,q2⟩:=hrr.arrOpq ho hf hid;refine h w0 m0 a w ⟨c',q1.trans hold, ?_⟩;rw[rj (o':=fun q=>if q=id then some (.opq s1 e1 n1 (JSl s1 e1 n1 f))else st.den.o q) (fun q=>by simp only[aw];rfl)];exact q2
def akn (id:Nat) {f:Nat->Nat->PV} (ho:ay st.o id=some (.opq s1 e1 n1 (JSl s1 e1 n1 f))) (hs:0<s1) (hmax:n1<=maxLen) (hf:∀i j,i<n1->j<s1->ahx (f i j)=true) (h:HE nt ⟨st.t,(id,some (.arr true s1 e1 n1 f))::st.o⟩ Q) (hid:Nat.blt id 1000=true:=by exact rfl):HE nt st Q:=fun w0 m0 a w hr0=>by
 obtain⟨cc,hold,hrr⟩:=hr0;simp only[bvx]at hid;have q2:=hrr.opqArr ho hs hmax hid hf;refine h w0 m0 a w ⟨cc,hold, ?_⟩;rw[rj (o':=fun q=>if q=id then some (.arr true s1 e1 n1 f)else st.den.o q) (fun q=>by simp only[aw];rfl)];exact q2
end
end
theorem Bag.mem {v:Value} {R:j0}:∀{L:List (Value×j0)} {bk:Nat->Prop} {h:Nat->Option Obj},Bag L bk h->(v,R)∈L->∃bk1:Nat->Prop,(∀b,bk1 b->bk b)/\R v bk1 (rst bk1 h)
 | [],_,_,_,hm=>by cases hm
 | (v',R')::L,bk,h,hb,hm=>by
  obtain⟨_,b1,b2,hi,_,hR,hL⟩:=hb
  rcases bt7.1 hm with e|hm
  · grind
  obtain⟨b3,q1,q2⟩:=Bag.mem hL hm;refine⟨b3,fun b hx=>(hi b).2 (.inr (q1 b hx)), ?_⟩;rw[a4h q1]at q2;exact q2
theorem JSl.rep {s m:Nat} {e:TypeId} {g:Nat->Nat->PV} {v:Value} {bk:Nat->Prop} {h:Nat->Option Obj} {im:Imm} (hj:JSl s e m g v bk h) (hi:∀b x,bk b->h b=some x->im b=some x):aq im (.sl m s false g) v:=by
 rcases hj with⟨h0,⟨a,hv⟩,_⟩|⟨b,cap,cur,hv,h0,hbk,hh,h3,h4,h5,h6⟩
 · subst h0
   exact⟨a,0,hv,bsw _,bsx _,(fun hx=>by cases hx),fun hx=>absurd hx (bvd _)⟩
 refine⟨some ⟨b,0,none⟩,cap,hv,h3,h4,(fun hx=>by cases hx),fun _=>⟨b,0,rfl,fun i j hi' hj'=>?_⟩⟩;obtain⟨x,hx,hr⟩:=h6 i j hi' hj';refine⟨x, ?_,aq.mono (fun b x hb=>by cases hb) hr⟩;unfold j2
 grind
section
variable {w0:World}{nt:Nat}{c:Ctx}{s:S}{a:Act}{w:World}
end
section
variable {ro:Option Nat}{P:Program}{nt:Nat}{co:Code}{st:HSt}{Q:HSt->Prop}
end
end
section
open Go.RowKit
def sy{nt:Nat}{st:HSt}{Q:HSt->Prop}(x:Nat)(ob':a7){ob:a7}(ho:ay st.o x=some ob)(hc:CoO ob ob')(h:HE nt ⟨st.t,(x,some ob')::st.o⟩ Q):HE nt st Q:=fun w0 m0 a w hr=>by
 obtain⟨cc,hold,hrr⟩:=hr;refine h w0 m0 a w ⟨cc,hold,hrr.relax _ (fun d y hy=>⟨y,hy,CoR.refl _⟩) fun id ob2 ho2=>?_⟩;simp only[HSt.den,aw]at ho2;by_cases hk:id=x
 · subst hk
   rw[if_pos rfl]at ho2;simp only[bst]at ho2;subst ho2;exact⟨ob,ho,hc⟩
 rw[if_neg hk]at ho2;exact⟨ob2,ho2,CoO.refl _⟩
def a3i {nt:Nat} {st:HSt} {Q:HSt->Prop} (d:Nat) (y:HR) {x:HR} (hx:ay st.t d=some x) (hc:CoR x y) (h:HE nt ⟨(d,some y)::st.t,st.o⟩ Q):HE nt st Q :=
 alw st d y (fun w0 m0 a w hr=>by
  obtain⟨cc,hold,hrr⟩:=hr
  exact⟨cc,hold,hrr,ar.co hc (hrr.tmps d x hx)⟩) h
def auc:CoR (.v (.one (.p (.raw (.slice none 0 0))))) (bp (.sl 0 0 true fun _ _=>.any)):=by
 show CoP _ _;intro m u h;obtain⟨e,_⟩:=h;subst e;exact n9 m (.slice none 0 0) rfl
section
variable {v:Value}
def ba8 (h:v.oneCell'=true):vHC v=.one (.p (.raw v)):=by
 cases v<;>first|rfl|(simp[Value.oneCell']at h)
variable {L':List (Value×j0)}
theorem Bag.perm {L:List (Value×j0)} (hp:L.Perm L'):∀{bk:Nat->Prop} {h:Nat->Option Obj},Bag L bk h->Bag L' bk h:=by
 induction hp with
 |nil=>exact fun hb=>hb
 | cons x _ ih =>
  intro bk h hb;obtain⟨v,R⟩:=x;obtain⟨h1,b1,b2,i1,d1,r1,hL⟩:=hb;exact⟨h1,b1,b2,i1,d1,r1,ih hL⟩
 |swap x y l=>exact fun hb=>hb.swap
 |trans _ _ ih1 ih2=>exact fun hb=>ih2 (ih1 hb)
def aoo{L:List (Value×j0)}(hp:L.Perm L'):CoO (.opq 0 0 0 (j3 L)) (.opq 0 0 0 (j3 L')):=⟨rfl,rfl,rfl,fun v bk h hb=>Bag.perm hp hb⟩
def azi{s n:Nat}{e:TypeId}{R:j0}:CoO (.opq s e n (qx v R)) (.opq s e n R):=⟨rfl,rfl,rfl,fun u bk h hb=>hb.2⟩
abbrev BP:=List (AS×List Nat)
abbrev BG:=List (AS×List Nat×Value)
def lkP(s:AS)(H:BP):List Nat:=((H.find? fun h=>decide (h.1=s)).map (·.2)).getD []
def erP(s:AS)(H:BP):BP:=H.filter fun h=>!decide (h.1=s)
def upP(a:Nat)(H:BP)(s:AS):BP:=erP s H++[(s,lkP s H++[a])]
def bdJ(a:Nat)(l:List AS)(H:BP)(j:Nat):BP:=(l.take j).foldl (upP a) H
def bdT(q:List Int)(n a:Nat):BP:=(List.range a).foldl (fun H b=>bdJ b (mnL q n b) H (mnL q n b).length) []
def mkF(s:AS)(a:Nat):Fd:=⟨s,(1:AS)<<<a⟩
def bdX(x:BP×List Fd)(s:AS):BP×List Fd:=(erP s x.1,x.2++(lkP s x.1).map (mkF s))
def bdR(H:BP)(l:List AS)(i:Nat):BP×List Fd:=(l.take i).foldl bdX (H,[])
def bjb(q:List Int)(n:Nat):List Fd:=(bdR (bdT q n n) (ord (fmS q n n)) (ord (fmS q n n)).length).2
variable {a:Nat}{l:List AS}
def aoe {j:Nat} {H:BP} (hj:j<l.length):bdJ a l H (j+1)=upP a (bdJ a l H j) (l.getD j default):=by
 unfold bdJ;rw[aj hj,btq];rfl
def b33 {q:List Int} {n:Nat}:bdT q n (a+1)=bdJ a (mnL q n a) (bdT q n a) (mnL q n a).length:=by
 unfold bdT;rw[bu7,btq];rfl
def wd {H:BP} {i:Nat} (hi:i<l.length):bdR H l (i+1)=bdX (bdR H l i) (l.getD i default):=by
 unfold bdR;rw[aj hi,btq];rfl
def aok {q:List Int} {n:Nat}:fmS q n (a+1)=fmS q n a++mnL q n a:=by
 unfold fmS;rw[bu7,btq];rfl
def prG(G:BG):BP:=G.map fun g=>(g.1,g.2.1)
def erG(s:AS)(G:BG):BG:=G.filter fun g=>!decide (g.1=s)
def xz(G:BG):List (Value×j0):=G.map fun g=>(g.2.2,JSl 1 3 g.2.1.length (lf iC g.2.1))
variable {G:BG}{s:AS}
def avh:prG (erG s G)=erP s (prG G):=by
 unfold prG erG erP;rw[List.filter_map];rfl
def auk (h:∀g∈G,g.1≠s):erG s G=G:=by
 unfold erG;refine List.filter_eq_self.2 fun g hg=>?_;simp[h g hg]
theorem bep (h:∀g∈G,g.1≠s):lkP s (prG G)=[]:=by
 unfold lkP prG;rw[bwn.2 fun x hx=>?_]
 · rfl
 grind
theorem bby {g:AS×List Nat×Value} (hn:(G.map (·.1)).Nodup) (hg:g∈G):G.Perm (g::erG g.1 G)/\lkP g.1 (prG G)=g.2.1:=by
 induction G with
 |nil=>cases hg
 | cons x G ih =>
  rw[buf,List.nodup_cons]at hn;obtain⟨h1,h2⟩:=hn;by_cases e:x.1=g.1
  · have hx:g=x:=by
     grind
    subst hx;have hno:∀y∈G,y.1≠g.1:=fun y hy e2=>h1 (bti.2 ⟨y,hy,e2⟩);refine⟨?_, ?_⟩
    · unfold erG
      rw[buy,if_neg bx0];rw[show G.filter (fun y=>!decide (y.1=g.1))=G from auk hno]
    unfold lkP prG
    grind
  have hg2:g∈G:=by
   grind
  obtain⟨p1,p2⟩:=ih h2 hg2;refine⟨?_, ?_⟩
  · unfold erG
    rw[buy,if_pos (by simp[e])];exact(p1.cons x).trans (List.Perm.swap _ _ _)
  unfold lkP prG at p2 ⊢
  grind
def b52 (hn:l.Nodup) {i:Nat} (hi:i<l.length):¬l.getD i default∈l.take i:=by
 rw[c4 _ _ hi];intro hm;obtain⟨j,hj,e⟩:=btt hm;rw[bt4]at hj;rw[List.getElem_take]at e;have:=(List.getElem_inj hn).1 e;omega
theorem ar3 {i:Nat} (hi:i<l.length) {x:AS} (hx:¬x∈l.take (i+1)):¬x∈l.take i/\x≠l.getD i default:=by
 rw[aj hi]at hx
 grind
def a9e {o:List Fd} {l:List Nat} {k:Nat} (hk:k<l.length):o++(l.take (k+1)).map (mkF s)=(o++(l.take k).map (mkF s))++[mkF s (l.getD k default)]:=by
 rw[aj hk,bum,<- bts];rfl
structure BIn (P:Program) (es:Array MapEntry) (clock:Nat) (G:BG) (K:AS->Prop) (B:Nat):Prop where
 mx:oj P 50 es clock
 to:∀e∈es.toList,∀s,e.key=mkS s->K s->∃g∈G,g.1=s/\e.val=g.2.2
 at_:∀g∈G,∃e∈es.toList,e.key=mkS g.1/\e.val=g.2.2
 nd:(G.map (·.1)).Nodup
 one:∀g∈G,g.2.2.oneCell'=true/\g.2.1.length<=B
 sz:es.size<=B
variable {B clock:Nat}{K:AS->Prop}{P:Program}
theorem BIn.nil:BIn P #[] clock [] K B:=⟨oj.nil,(fun e he=>by simp at he),(fun g hg=>by cases hg),List.nodup_nil,(fun g hg=>by cases hg),bsx _⟩
variable {es:Array MapEntry}
theorem BIn.absent (h:BIn P es clock G K B) (hn:∀e∈es.toList,e.key≠mkS s):lkP s (prG G)=[]/\erG s G=G:=by
 have hno:∀g∈G,g.1≠s:=fun g hg e=>by
  obtain⟨x,hx,hk,_⟩:=h.at_ g hg
  grind
 exact⟨bep hno,auk hno⟩
theorem BIn.found (h:BIn P es clock G K B) {e:MapEntry} (he:e∈es.toList) (hk:e.key=mkS s) (hK:K s):
 ∃v,e.val=v/\vHC v=.one (.p (.raw v))/\(xz G).Perm ((v,JSl 1 3 (lkP s (prG G)).length (lf iC (lkP s (prG G))))::xz (erG s G))/\(lkP s (prG G)).length<=B:=by
 obtain⟨g,hg,rfl,hv⟩:=h.to e he s hk hK;obtain⟨p1,p2⟩:=bby h.nd hg;refine⟨g.2.2,hv,ba8 (h.one g hg).1, ?_,by rw[p2];exact(h.one g hg).2⟩;rw[p2];exact p1.map _
theorem BIn.take {K':AS->Prop} (h:BIn P es clock G K B) (hK:∀x,K' x->K x/\x≠s):BIn P es clock (erG s G) K' B:=by
 have hs:∀g∈erG s G,g∈G/\g.1≠s:=fun g hg=>by
  obtain⟨h1,h2⟩:=bul.1 hg
  grind
 refine⟨h.mx,fun e he x hx hk=>?_,fun g hg=>h.at_ g (hs g hg).1, ?_,fun g hg=>h.one g (hs g hg).1,h.sz⟩
 · obtain ⟨g,hg,e1,e2⟩:=h.to e he x hx (hK x hk).1
   refine⟨g,bul.2 ⟨hg, ?_⟩,e1,e2⟩
   grind
 exact h.nd.sublist (List.filter_sublist.map _)
theorem BIn.put {es':Array MapEntry} {clock':Nat} (h:BIn P es clock G (fun _=>True) B) (hv:v.oneCell'=true) (hl:(lkP s (prG G)).length<=B) (hX:oj P 50 es' clock') (hP:amh es es' (mkS s) v):
 BIn P es' clock' (erG s G++[(s,lkP s (prG G)++[a],v)]) (fun _=>True) (B+1):=by
 have hs:∀g∈erG s G,g∈G/\g.1≠s:=fun g hg=>by
  obtain⟨h1,h2⟩:=bul.1 hg
  grind
 refine⟨hX,fun e he x hx _=>?_,fun g hg=>?_, ?_,fun g hg=>?_,by have:=hP.sz;have:=h.sz;omega⟩
 · rcases hP.to e he with⟨h1,h2⟩|⟨h1,h2⟩
   · obtain ⟨g,hg,e1,e2⟩:=h.to e h1 x hx trivial
     refine⟨g,btg _ (bul.2 ⟨hg, ?_⟩),e1,e2⟩
     grind
   have:x=s:=ahh (hx.symm.trans h1);simp_all
 · rcases btd.1 hg with hg|hg
   · obtain ⟨g1,g2⟩:=hs g hg
     obtain⟨e,he,hk,hv⟩:=h.at_ g g1;have hne:e.key≠mkS s:=fun e2=>g2 (ahh (hk.symm.trans e2));obtain⟨y,y1,y2,y3⟩:=hP.old e he hne
     grind
   obtain rfl:=bte.1 hg;obtain⟨y,y1,y2,y3⟩:=hP.at_
   grind
 · rw [bum,List.nodup_append]
   refine⟨h.nd.sublist (List.filter_sublist.map _),by simp,fun x hx y hy e=>?_⟩
   grind
 rcases btd.1 hg with hg|hg
 · obtain ⟨q1,q2⟩:=h.one g (hs g hg).1
   grind
 grind
theorem BIn.mono{B':Nat}(h:BIn P es clock G K B)(hb:B<=B'):BIn P es clock G K B':=⟨h.mx,h.to,h.at_,h.nd,fun g hg=>⟨(h.one g hg).1,btc (h.one g hg).2 hb⟩,btc h.sz hb⟩
theorem BIn.keys{K':AS->Prop}(h:BIn P es clock G K B)(hk:∀x,K' x->K x):BIn P es clock G K' B:=⟨h.mx,fun e he x hx q=>h.to e he x hx (hk x q),h.at_,h.nd,h.one,h.sz⟩
theorem b9c:prG (erG s G++[(s,lkP s (prG G)++[a],v)])=upP a (prG G) s:=by
 unfold upP;rw[<- avh];unfold prG
 grind
theorem b0x {l:List Nat}:xz (erG s G++[(s,l,v)])=xz (erG s G)++[(v,JSl 1 3 l.length (lf iC l))]:=by
 unfold xz
 grind
end
end
end Go.Hx
