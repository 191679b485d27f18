/- A part of the proof: Hx35 Kb9 Kw10 Kb10 V39 Kw11 Kx16. -/
import Derived.Test.YtmoggbnlhllhaaaGreatDoorTx33
set_option linter.all false
set_option maxRecDepth 100000
namespace Go.Hx
section
open Go.RowKit
abbrev ge:=Value->(Nat->Prop)->(Nat->Option Obj)->Prop
noncomputable def rst (bk:Nat->Prop) (h:Nat->Option Obj):Nat->Option Obj:=fun b=>by classical exact if bk b then h b else none
section
variable {bk:Nat->Prop}{h:Nat->Option Obj}
def aaq{b:Nat}(hb:bk b):rst bk h b=h b:=by unfold rst;exact if_pos hb
theorem ab8 {bk1:Nat->Prop} {w:World} (hs:∀b,bk1 b->bk b):rst bk1 (onB bk w)=onB bk1 w:=by
 funext b;by_cases hb:bk1 b
 · rw[aaq hb,aax hb,aax (hs b hb)]
 unfold rst onB
 grind
theorem a0x {bk1:Nat->Prop} (hs:∀b,bk1 b->bk b):rst bk1 (rst bk h)=rst bk1 h:=by
 funext b;by_cases hb:bk1 b
 · rw[aaq hb,aaq hb,aaq (hs b hb)]
 unfold rst
 grind
def Bag:List (Value×ge)->(Nat->Prop)->(Nat->Option Obj)->Prop
 | [],bk,_=>∀b,¬bk b
 |(v,R)::L,bk,h=>v.oneCell'=true/\∃bk1 bk2:Nat->Prop,(∀b,bk b<->bk1 b\/bk2 b)/\(∀b,bk1 b->bk2 b->False)/\R v bk1 (rst bk1 h)/\Bag L bk2 (rst bk2 h)
def ol(v:Value)(R:ge):ge:=fun u bk h=>u=v/\R u bk h
def gp(L:List (Value×ge)):ge:=fun _ bk h=>Bag L bk h
theorem Bag.swap {x y:Value×ge} {L:List (Value×ge)} (hb:Bag (x::y::L) bk h):Bag (y::x::L) bk h:=by
 obtain⟨v,R⟩:=x;obtain⟨v2,R2⟩:=y;obtain⟨h1,b1,b2,i1,d1,r1,h2,b3,b4,i2,d2,r2,hL⟩:=hb;have s3:∀b,b3 b->b2 b:=fun b hb=>(i2 b).2 (.inl hb);have s4:∀b,b4 b->b2 b:=fun b hb=>(i2 b).2 (.inr hb);rw[a0x s3]at r2;rw[a0x s4]at hL;refine⟨h2,b3,fun b=>b1 b\/b4 b,fun b=>?_,fun b hb3 hb=>?_,r2,h1,b1,b4,fun b=>Iff.rfl,fun b hb1 hb4=>d1 b hb1 (s4 b hb4), ?_, ?_⟩
 · grind
 · grind
 · rw[a0x fun b hb=>.inl hb];exact r1
 rw[a0x fun b hb=>.inr hb];exact hL
theorem Bag.snoc {x:Value×ge}:∀{L:List (Value×ge)} {bk:Nat->Prop} {h:Nat->Option Obj},Bag (x::L) bk h->Bag (L++[x]) bk h
 | [],_,_,hb=>hb
 | y::L,bk,h,hb=>by
  obtain⟨v,R⟩:=y;obtain⟨h1,b1,b2,i1,d1,r1,hL⟩:=hb.swap;exact⟨h1,b1,b2,i1,d1,r1,Bag.snoc hL⟩
end
section
variable {w0:World}{nt:Nat}{c:Ctx}{s:S}{a:Act}{w:World}
section
variable {e1:TypeId}{id n1 s1:Nat}
theorem ai.bagIn (h:ai w0 nt c s a w) {idb s2 n2:Nat} {e2:TypeId} {v:Value} {R:ge} {L:List (Value×ge)} (ho:s.o id=some (.opq s1 e1 n1 (ol v R))) (hob:s.o idb=some (.opq s2 e2 n2 (gp L))) (hne:idb≠id) (hid:id<1000) (hidb:idb<1000):
 ∃c',c'.old=c.old/\ai w0 nt c' ⟨s.t,fun q=>if q=id then none else if q=idb then some (.opq s2 e2 n2 (gp (L++[(v,R)])))else s.o q⟩ a w:=by
 obtain⟨a1,a2,a3,a4⟩:=h.objs id _ ho;obtain⟨b1,b2,b3⟩:=h.objs idb _ hob
 let bk:Nat->Prop:=fun b=>c.blk id b\/c.blk idb b
 let o':am:=fun q=>if q=id then none else if q=idb then some (.opq s2 e2 n2 (gp (L++[(v,R)])))else s.o q
 have ob1:o' id=none:=if_pos rfl;have ob2:o' idb=some (.opq s2 e2 n2 (gp (L++[(v,R)]))):=(if_neg hne).trans (if_pos rfl);refine⟨{ old:=c.old,imm:=c.imm,tab:=c.tab,own:=c.own,blk:=fun q=>if q=idb then bk else c.blk q,rows:=c.rows },rfl,h.redo (fun q=>q=id\/q=idb) _ _ _ o' ?_ ?_ ?_ ?_ ?_ ?_⟩
 · grind
 · grind
 · rintro q (rfl|rfl)
   · exact .inr (.inl ob1)
   exact .inr (.inr (.inr ⟨_,_,s2,e2,n2,n2,hob,rfl,ob2,rfl,bil _,fun _=>rfl,fun _ _ _ _ _ _ _ hb=>by cases hb⟩))
 · rintro q ob (rfl|rfl) hq
   · grind
   rw[ob2]at hq;cases hq;have hbk:(fun q'=>if q'=q then bk else c.blk q') q=bk:=if_pos rfl;refine⟨?_,b2, ?_⟩
   · grind
   show gp _ _ ((fun q'=>if q'=q then bk else c.blk q') q) (onB ((fun q'=>if q'=q then bk else c.blk q') q) w);rw[hbk];refine Bag.snoc ⟨by rw[<- a3];exact a2,c.blk id,c.blk q,fun b=>Iff.rfl,fun b hb1 hb2=>hne (h.inj _ _ _ _ b hob ho hb2 hb1), ?_, ?_⟩
   · rw[ab8 fun b hb=>.inl hb,<- a3];exact a4
   rw[ab8 fun b hb=>.inr hb];exact b3
 · rintro q ob b (rfl|rfl) hq hb
   · grind
   grind
 grind
theorem ai.bagOut (h:ai w0 nt c s a w) {idb s2 n2:Nat} {e2:TypeId} (s1 n1:Nat) (e1:TypeId) {v:Value} {R:ge} {L:List (Value×ge)} (hob:s.o idb=some (.opq s2 e2 n2 (gp ((v,R)::L)))) (hidb:idb<1000) (hm:NM s id) (hn:s.o id=none):
 ∃c',c'.old=c.old/\ai w0 nt c' ⟨s.t,fun q=>if q=id then some (.opq s1 e1 n1 (ol v R))else if q=idb then some (.opq s2 e2 n2 (gp L))else s.o q⟩ a w:=by
 have hne:idb≠id:=by rintro rfl;rw[hob]at hn;cases hn
 obtain⟨b1,b2,hv1,k1,k2,ki,kd,kR,kL⟩:=h.objs idb _ hob;have s1':∀b,k1 b->c.blk idb b:=fun b hb=>(ki b).2 (.inl hb);have s2':∀b,k2 b->c.blk idb b:=fun b hb=>(ki b).2 (.inr hb);rw[ab8 s1']at kR;rw[ab8 s2']at kL
 let o':am:=fun q=>if q=id then some (.opq s1 e1 n1 (ol v R))else if q=idb then some (.opq s2 e2 n2 (gp L))else s.o q
 have ob1:o' id=some (.opq s1 e1 n1 (ol v R)):=if_pos rfl;have ob2:o' idb=some (.opq s2 e2 n2 (gp L)):=(if_neg hne).trans (if_pos rfl)
 let blk':Nat->Nat->Prop:=fun q=>if q=id then k1 else if q=idb then k2 else c.blk q
 let own':Nat->Value:=fun q=>if q=id then v else c.own q
 have bk1:blk' id=k1:=if_pos rfl;have bk2:blk' idb=k2:=(if_neg hne).trans (if_pos rfl);have ow1:own' id=v:=if_pos rfl;have ow2:own' idb=c.own idb:=if_neg hne;refine⟨{ old:=c.old,imm:=c.imm,tab:=c.tab,own:=own',blk:=blk',rows:=c.rows },rfl,h.redo (fun q=>q=id\/q=idb) own' blk' c.rows o' ?_ ?_ ?_ ?_ ?_ ?_⟩
 · rintro q (rfl|rfl)
   · exact hm.2.2
   exact hidb
 · grind
 · rintro q (rfl|rfl)
   · exact .inl ⟨hm.1,fun id0 ob _ h0=>hm.2.1 id0 ob h0⟩
   exact .inr (.inr (.inr ⟨_,_,s2,e2,n2,n2,hob,rfl,ob2,rfl,bil _,fun _=>ow2,fun _ _ _ _ _ _ _ hb=>by cases hb⟩))
 · rintro q ob (rfl|rfl) hq
   · rw [ob1]at hq
     cases hq;refine⟨?_, ?_, ?_⟩
     · grind
     · grind
     show ol v R (own' q) (blk' q) (onB (blk' q) w);rw[bk1,ow1];exact⟨rfl,kR⟩
   rw[ob2]at hq;cases hq;refine⟨?_, ?_, ?_⟩
   · grind
   · grind
   show gp L (own' q) (blk' q) (onB (blk' q) w);rw[bk2];exact kL
 · grind
 grind
theorem ai.pin (h:ai w0 nt c s a w) {R:ge} (ho:s.o id=some (.opq s1 e1 n1 R)) (hid:id<1000):
 (c.own id).oneCell'=true/\ai w0 nt c ⟨s.t,fun q=>if q=id then some (.opq s1 e1 n1 (ol (c.own id) R))else s.o q⟩ a w:=by
 obtain⟨a1,a2,a3⟩:=h.objs id _ ho;have ob1:(fun q=>if q=id then some (ae.opq s1 e1 n1 (ol (c.own id) R))else s.o q) id=some (.opq s1 e1 n1 (ol (c.own id) R)):=if_pos rfl;refine⟨a2,h.redo (fun q=>q=id) c.own c.blk c.rows _ ?_ ?_ ?_ ?_ ?_ ?_⟩
 · grind
 · grind
 · rintro q rfl
   exact .inr (.inr (.inr ⟨_,_,s1,e1,n1,n1,ho,rfl,ob1,rfl,bil _,fun _=>rfl,fun _ _ _ _ _ _ _ hb=>by cases hb⟩))
 · rintro q ob rfl hq
   rw[if_pos rfl]at hq;cases hq;exact⟨a1,a2,rfl,a3⟩
 · grind
 grind
def JSl (s:Nat) (e:TypeId) (m:Nat) (g:Nat->Nat->PV):ge:=fun v bk h=>(m=0/\(∃a,v=.slice a 0 0)/\∀b,¬bk b) \/
 ∃b cap cur,v=.slice (some ⟨b,0,none⟩) m cap/\0<cap/\(∀b',bk b'<->b'=b)/\h b=some (.cells cur e (0,0))/\m<=cap/\cap<=maxLen/\cur.size=cap*s/\∀i j,i<m->j<s->∃x,cur[i*s+j]? = some x/\aq (fun _=>none) (g i j) x
def ada:PV->Bool
 | .raw _=>true
 | .any=>true
 |_=>false
def aje {m m':Imm} {x:PV} {u:Value} (h:ada x=true) (hr:aq m x u):aq m' x u:=by
 cases x<;>first|exact hr|cases h
theorem ai.arrOpq (h:ai w0 nt c s a w) {f:Nat->Nat->PV} (ho:s.o id=some (.arr true s1 e1 n1 f)) (hf:∀i j,i<n1->j<s1->ada (f i j)=true) (hid:id<1000):
 ∃c',c'.old=c.old/\ai w0 nt c' ⟨s.t,fun q=>if q=id then some (.opq s1 e1 n1 (JSl s1 e1 n1 f))else s.o q⟩ a w:=by
 obtain⟨a1,a2,a3⟩:=h.objs id _ ho
 have key:∃bk:Nat->Prop,(∀b,bk b->c.blk id b)/\(∀b,bk b->0<=b/\∃x,w.heap[b]? = some x/\a0a x=true)/\(c.own id).oneCell'=true/\JSl s1 e1 n1 f (c.own id) bk (onB bk w):=by
  rcases a3 with⟨hblk,xs,hrow,hcell⟩|⟨hz,hb,hsl⟩
  · rcases en hrow with⟨hm0,a0,hv⟩|⟨b,cap,hv,hcb⟩
    · exact⟨fun _=>False,fun _ hb=>hb.elim,fun _ hb=>hb.elim,by rw[hv];rfl, .inl ⟨hm0,⟨a0,hv⟩,fun _ hb=>hb⟩⟩
    have hcap:0<cap:=by
     rcases bka cap with h0|h0
     · subst h0;rw[hv]at hcb;simp[au]at hcb
     exact h0
    rcases hrow.2 with⟨hv',_⟩|⟨b',cap',cur,hv',_,hh,q1,q2,q3,q4⟩
    · grind
    rw[hv]at hv';simp only[Value.slice.injEq,bij,Addr.mk.injEq,and_true,true_and]at hv';obtain⟨rfl,rfl⟩:=hv';refine⟨fun b''=>b''=b,fun b'' hb=>by subst hb;rw[hblk,hv];rfl,fun b'' hb=>by subst hb;exact⟨bio _,_,hh,rfl⟩,by rw[hv];rfl, .inr ⟨b,cap,cur,hv,hcap,fun _=>Iff.rfl,by rw[aax (bk:=fun b''=>b''=b) rfl];exact hh,q1,q2,q3,fun i j hi hj=>?_⟩⟩;obtain⟨x,hx,hr⟩:=hcell i j hi hj
    have hlt:i*s1+j<n1*s1:=by
     grind
    rw[<- q4,bjs,if_pos hlt,blw]at hx;exact⟨x,hx,aje (hf i j hi hj) hr⟩
  obtain rfl:n1=0:=by rcases hz with hz|hz;cases hz;exact hz
  obtain⟨a0,cap,e1,_,_,e2,_⟩:=hsl;obtain rfl:=e2 rfl;exact⟨fun _=>False,fun _ hb=>hb.elim,fun _ hb=>hb.elim,by rw[e1];rfl, .inl ⟨rfl,⟨a0,e1⟩,fun _ hb=>hb⟩⟩
 obtain⟨bk,k1,k2,k3,k4⟩:=key;have ob1:(fun q=>if q=id then some (ae.opq s1 e1 n1 (JSl s1 e1 n1 f))else s.o q) id=some (.opq s1 e1 n1 (JSl s1 e1 n1 f)):=if_pos rfl;refine⟨{ old:=c.old,imm:=c.imm,tab:=c.tab,own:=c.own,blk:=fun q=>if q=id then bk else c.blk q,rows:=c.rows },rfl,h.redo (fun q=>q=id) _ _ _ _ ?_ ?_ ?_ ?_ ?_ ?_⟩
 · grind
 · grind
 · rintro q rfl
   exact .inr (.inr (.inr ⟨_,_,s1,e1,n1,n1,ho,rfl,ob1,rfl,bil _,fun _=>rfl,fun _ _ _ _ _ _ _ hb=>by cases hb⟩))
 · rintro q ob rfl hq
   rw[if_pos rfl]at hq;cases hq;have hbk:(fun q'=>if q'=q then bk else c.blk q') q=bk:=if_pos rfl;refine⟨?_,k3, ?_⟩
   · grind
   grind
 · grind
 grind
theorem ai.opqArr(h:ai w0 nt c s a w){f:Nat->Nat->PV}(ho:s.o id=some (.opq s1 e1 n1 (JSl s1 e1 n1 f)))(hs:0<s1)(hmax:n1<=maxLen)(hid:id<1000)(hf:∀i j,i<n1->j<s1->ada (f i j)=true):
 ai w0 nt c ⟨s.t,fun q=>if q=id then some (.arr true s1 e1 n1 f)else s.o q⟩ a w:=by
 obtain⟨a1,a2,a3⟩:=h.objs id _ ho;have ob1:(fun q=>if q=id then some (ae.arr true s1 e1 n1 f)else s.o q) id=some (.arr true s1 e1 n1 f):=if_pos rfl;refine h.redo (fun q=>q=id) c.own c.blk c.rows _ ?_ ?_ ?_ ?_ ?_ ?_
 · grind
 · grind
 · rintro q rfl
   exact .inr (.inr (.inr ⟨_,_,s1,e1,n1,n1,ho,rfl,ob1,rfl,bil _,fun _=>rfl,fun _ _ _ _ _ _ _ hb=>by cases hb⟩))
 · rintro q ob rfl hq
   rw[if_pos rfl]at hq;cases hq;refine⟨hs,hmax, ?_⟩
   rcases a3 with⟨h0,⟨a0,hv⟩,hb⟩|⟨b,cap,cur,hv,h0,hbk,hh,h3,h4,h5,h6⟩
   · refine .inr ⟨.inr h0, ?_, ?_⟩
     · show c.blk q=noB
       funext b;exact propext ⟨fun hx=>(hb b hx).elim,fun hx=>hx.elim⟩
     show aq c.imm _ (c.own q);rw[hv];subst h0;exact⟨a0,0,rfl,bil _,bio _,fun _=>rfl,fun hx=>absurd hx (bl7 _)⟩
   rw[aax ((hbk b).2 rfl)]at hh;refine .inl ⟨?_,cur.toList.take (n1*s1), ?_,fun i j hi hj=>?_⟩
   · show c.blk q=dx (c.own q)
     funext b';rw[hv];exact propext ((hbk b').trans (by simp[dx,c6,eq_comm]))
   · show w.ownsRow 0 e1 s1 (c.own q) n1 _
     refine⟨?_, .inr ⟨b,cap,cur,hv,bio _,hh,h3,h4,h5,rfl⟩⟩;simp_all
   obtain⟨x,hx,hr⟩:=h6 i j hi hj
   have hlt:i*s1+j<n1*s1:=by
    have:(i+1)*s1<=n1*s1:=biy _ bmq
    grind
   exact⟨x,by rw[bjs,if_pos hlt,blw];exact hx,aje (hf i j hi hj) hr⟩
 · grind
 grind
def JP (s:Nat) (e:TypeId) (n:Nat) (P:(Nat->Nat->PV)->List (Value×ge)->Prop):ge:=fun v bk h=>∃f L,P f L/\(∀i j,i<n->j<s->ada (f i j)=true) /\
 ∃bk1 bk2:Nat->Prop,(∀b,bk b<->bk1 b\/bk2 b)/\(∀b,bk1 b->bk2 b->False)/\JSl s e n f v bk1 (rst bk1 h)/\Bag L bk2 (rst bk2 h)
theorem ai.bagNew (h:ai w0 nt c s a w) {idb:Nat} (hm:NM s idb) (hn:s.o idb=none):∃c',c'.old=c.old/\ai w0 nt c' ⟨s.t,fun q=>if q=idb then some (.opq 0 0 0 (gp []))else s.o q⟩ a w:=by
 refine⟨{ old:=c.old,imm:=c.imm,tab:=c.tab,own:=fun q=>if q=idb then .bool false else c.own q,blk:=fun q=>if q=idb then noB else c.blk q,rows:=c.rows },rfl,h.redo (fun q=>q=idb) _ _ _ _ ?_ ?_ ?_ ?_ ?_ ?_⟩
 · rintro q rfl;exact hm.2.2
 · grind
 · rintro q rfl
   exact .inl ⟨hm.1,fun id0 ob _ h0=>hm.2.1 id0 ob h0⟩
 · rintro q ob rfl hq
   rw[if_pos rfl]at hq;cases hq;have hbk:(fun q'=>if q'=q then noB else c.blk q') q=noB:=if_pos rfl;have how:(fun q'=>if q'=q then Value.bool false else c.own q') q=.bool false:=if_pos rfl;refine⟨?_, ?_, ?_⟩
   · show ∀b,(fun q'=>if q'=q then noB else c.blk q') q b->_
     rw[hbk];exact fun b hb=>hb.elim
   · show ((fun q'=>if q'=q then Value.bool false else c.own q') q).oneCell'=true
     rw[how];rfl
   show gp [] _ ((fun q'=>if q'=q then noB else c.blk q') q) _;rw[hbk];exact fun b hb=>hb
 · rintro q ob b rfl hq hb
   rw[if_pos rfl]at hb;exact hb.elim
 grind
end
end
def tq(o:am)(x y:HV):Prop:=x=y\/∃id s n e v R,o id=some (.opq s e n (ol v R))/\((x=.ref id n/\y=.p (.raw v))\/(x=.p (.raw v)/\y=.ref id n))
def a67 (o:am):List HV->List HV->Prop
 | [],[]=>True
 |x::xs,y::ys=>tq o x y/\a67 o xs ys
 |_,_=>False
def bbw (o:am):HC->HC->Prop
 | .one x, .one y=>tq o x y
 | .agg l, .agg m=>a67 o l m
 |_,_=>False
def aoe (o:am):HR->HR->Prop
 | .v x, .v y=>bbw o x y
 |_,_=>False
def tq.to{o:am}{id s n:Nat}{e:TypeId}{v:Value}{R:ge}(h:o id=some (.opq s e n (ol v R))):tq o (.ref id n) (.p (.raw v)):=.inr ⟨id,s,n,e,v,R,h, .inl ⟨rfl,rfl⟩⟩
def tq.from{o:am}{id s n:Nat}{e:TypeId}{v:Value}{R:ge}(h:o id=some (.opq s e n (ol v R))):tq o (.p (.raw v)) (.ref id n):=.inr ⟨id,s,n,e,v,R,h, .inr ⟨rfl,rfl⟩⟩
section
variable {w0:World}{nt:Nat}{c:Ctx}{s:S}{a:Act}{w:World}
theorem tq.rep (h:ai w0 nt c s a w) {x y:HV} {u:Value} (hs:tq s.o x y) (hr:b9 c s.o x u):b9 c s.o y u:=by
 rcases hs with rfl|⟨id,s1,n,e,v,R,ho,⟨rfl,rfl⟩|⟨rfl,rfl⟩⟩
 · exact hr
 · obtain ⟨_,h1,h2,_⟩:=h.objs id _ ho
   obtain⟨h3,_,h4⟩:=hr;have h5:=(h4 _ _ _ _ ho rfl).2 rfl;exact⟨h5.trans h2,by rw[<- h2];exact h1⟩
 obtain⟨_,h1,h2,_⟩:=h.objs id _ ho;obtain⟨h3,_⟩:=hr;refine⟨by rw[h3,<- h2];exact h1,fun l hl=>(by rw[ho]at hl;cases hl),fun ob2 s2 e2 n2 ho2 hd2=>?_⟩;rw[ho]at ho2;cases ho2;simp only[ae.dim,bij,bim]at hd2
 grind
def a67.rep (h:ai w0 nt c s a w):∀{x y:List HV} {u:List Value},a67 s.o x y->b5 c s.o x u->b5 c s.o y u
 | [],[],_,_,hr=>hr
 |_::_,_::_,_::_,hs,hr=>⟨hs.1.rep h hr.1,a67.rep h hs.2 hr.2⟩
 | [],_::_,_,hs,_=>hs.elim
 |_::_,[],_,hs,_=>hs.elim
 |_::_,_::_,[],_,hr=>hr.elim
def aoe.rep (h:ai w0 nt c s a w) {x y:HR} {u:Value} (hs:aoe s.o x y) (hr:al c s.o x u):al c s.o y u:=by
 match x,y,hs with
 | .v (.one x), .v (.one y),hs=>exact tq.rep h hs hr
 | .v (.agg l), .v (.agg m),hs =>
  obtain⟨us,e,hl⟩:=hr;exact⟨us,e,a67.rep h hs hl⟩
end
section
variable {w0:World}{nt:Nat}{c:Ctx}{s:S}{a:Act}{w:World}
end
section
variable {ro:Option Nat}{P:Program}{nt:Nat}{co:Code}{st:HSt}{Q:HSt->Prop}
def a6l (d:Nat) {x:HR} (y:HR) (hx:b6 st.t d=some x) (hs:aoe st.den.o x y) (h:HE nt ⟨(d,some y)::st.t,st.o⟩ Q):HE nt st Q :=
 aaj st d y (fun w0 m0 a w hr0=>by
  obtain⟨cc,hold,hrr⟩:=hr0
  exact⟨cc,hold,hrr,hs.rep hrr (hrr.tmps d x hx)⟩) h
def aqn (idb:Nat) (h:HE nt ⟨st.t,(idb,some (.opq 0 0 0 (gp [])))::st.o⟩ Q) (hn:jx idb st=true:=by exact rfl):HE nt st Q:=fun w0 m0 a w hr0=>by
 obtain⟨cc,hold,hrr⟩:=hr0;obtain⟨hm,hn⟩:=dp hn;obtain⟨c',q1,q2⟩:=hrr.bagNew hm hn;refine h w0 m0 a w ⟨c',q1.trans hold, ?_⟩;rw[o4 (o':=fun q=>if q=idb then some (.opq 0 0 0 (gp []))else st.den.o q) (fun q=>by simp only[ay];rfl)];exact q2
section
variable {e1:TypeId}{n1 s1:Nat}
def aj8 (id idb:Nat) {s2 n2:Nat} {e2:TypeId} {v:Value} {R:ge} {L:List (Value×ge)} (ho:b6 st.o id=some (.opq s1 e1 n1 (ol v R))) (hob:b6 st.o idb=some (.opq s2 e2 n2 (gp L))) (h:HE nt ⟨st.t,(id,none)::(idb,some (.opq s2 e2 n2 (gp (L++[(v,R)]))))::st.o⟩ Q) (hid:(Nat.blt id 1000&&Nat.blt idb 1000&&!Nat.beq idb id)=true:=by exact rfl):HE nt st Q:=fun w0 m0 a w hr0=>by
 obtain⟨cc,hold,hrr⟩:=hr0;simp only[biw,bl6,bjq]at hid;obtain⟨c',q1,q2⟩:=hrr.bagIn ho hob (fun e=>by subst e;simp at hid) hid.1.1 hid.1.2;refine h w0 m0 a w ⟨c',q1.trans hold, ?_⟩;rw[o4 (o':=fun q=>if q=id then none else if q=idb then some (.opq s2 e2 n2 (gp (L++[(v,R)])))else st.den.o q) (fun q=>by simp only[ay];rfl)];exact q2
def aee (id idb s1 n1:Nat) (e1:TypeId) {s2 n2:Nat} {e2:TypeId} {v:Value} {R:ge} {L:List (Value×ge)} (hob:b6 st.o idb=some (.opq s2 e2 n2 (gp ((v,R)::L))))
 (h:HE nt ⟨st.t,(id,some (.opq s1 e1 n1 (ol v R)))::(idb,some (.opq s2 e2 n2 (gp L)))::st.o⟩ Q) (hid:Nat.blt idb 1000=true:=by exact rfl) (hn:jx id st=true:=by exact rfl):HE nt st Q:=fun w0 m0 a w hr0=>by
 obtain⟨cc,hold,hrr⟩:=hr0;simp only[bl6]at hid;obtain⟨hm,hn⟩:=dp hn;obtain⟨c',q1,q2⟩:=hrr.bagOut s1 n1 e1 hob hid hm hn;refine h w0 m0 a w ⟨c',q1.trans hold, ?_⟩;rw[o4 (o':=fun q=>if q=id then some (.opq s1 e1 n1 (ol v R))else if q=idb then some (.opq s2 e2 n2 (gp L))else st.den.o q) (fun q=>by simp only[ay];rfl)];exact q2
def arc (id:Nat) {R:ge} (ho:b6 st.o id=some (.opq s1 e1 n1 R)) (h:∀v,v.oneCell'=true->HE nt ⟨st.t,(id,some (.opq s1 e1 n1 (ol v R)))::st.o⟩ Q) (hid:Nat.blt id 1000=true:=by exact rfl):HE nt st Q:=fun w0 m0 a w hr0=>by
 obtain⟨cc,hold,hrr⟩:=hr0;simp only[bl6]at hid;obtain⟨q1,q2⟩:=hrr.pin ho hid;refine h (cc.own id) q1 w0 m0 a w ⟨cc,hold, ?_⟩;rw[o4 (o':=fun q=>if q=id then some (.opq s1 e1 n1 (ol (cc.own id) R))else st.den.o q) (fun q=>by simp only[ay];rfl)];exact q2
def af7 (id:Nat) {f:Nat->Nat->PV} (ho:b6 st.o id=some (.arr true s1 e1 n1 f)) (hf:∀i j,i<n1->j<s1->ada (f i j)=true) (h:HE nt ⟨st.t,(id,some (.opq s1 e1 n1 (JSl s1 e1 n1 f)))::st.o⟩ Q) (hid:Nat.blt id 1000=true:=by exact rfl):HE nt st Q:=fun w0 m0 a w hr0=>by
 obtain⟨cc,hold,hrr⟩:=hr0;simp only[bl6]at hid;obtain⟨c',q1,q2⟩:=hrr.arrOpq ho hf hid;refine h w0 m0 a w ⟨c',q1.trans hold, ?_⟩;rw[o4 (o':=fun q=>if q=id then some (.opq s1 e1 n1 (JSl s1 e1 n1 f))else st.den.o q) (fun q=>by simp only[ay];rfl)];exact q2
def ae2 (id:Nat) {f:Nat->Nat->PV} (ho:b6 st.o id=some (.opq s1 e1 n1 (JSl s1 e1 n1 f))) (hs:0<s1) (hmax:n1<=maxLen) (hf:∀i j,i<n1->j<s1->ada (f i j)=true) (h:HE nt ⟨st.t,(id,some (.arr true s1 e1 n1 f))::st.o⟩ Q) (hid:Nat.blt id 1000=true:=by exact rfl):HE nt st Q:=fun w0 m0 a w hr0=>by
 obtain⟨cc,hold,hrr⟩:=hr0;simp only[bl6]at hid;have q2:=hrr.opqArr ho hs hmax hid hf;refine h w0 m0 a w ⟨cc,hold, ?_⟩;rw[o4 (o':=fun q=>if q=id then some (.arr true s1 e1 n1 f)else st.den.o q) (fun q=>by simp only[ay];rfl)];exact q2
end
end
theorem Bag.mem {v:Value} {R:ge}:∀{L:List (Value×ge)} {bk:Nat->Prop} {h:Nat->Option Obj},Bag L bk h->(v,R)∈L->∃bk1:Nat->Prop,(∀b,bk1 b->bk b)/\R v bk1 (rst bk1 h)
 | [],_,_,_,hm=>by cases hm
 | (v',R')::L,bk,h,hb,hm=>by
  obtain⟨_,b1,b2,hi,_,hR,hL⟩:=hb
  rcases biv.1 hm with e|hm
  · grind
  obtain⟨b3,q1,q2⟩:=Bag.mem hL hm;refine⟨b3,fun b hx=>(hi b).2 (.inr (q1 b hx)), ?_⟩;rw[a0x q1]at q2;exact q2
theorem JSl.rep {s m:Nat} {e:TypeId} {g:Nat->Nat->PV} {v:Value} {bk:Nat->Prop} {h:Nat->Option Obj} {im:Imm} (hj:JSl s e m g v bk h) (hi:∀b x,bk b->h b=some x->im b=some x):aq im (.sl m s false g) v:=by
 rcases hj with⟨h0,⟨a,hv⟩,_⟩|⟨b,cap,cur,hv,h0,hbk,hh,h3,h4,h5,h6⟩
 · subst h0
   exact⟨a,0,hv,bil _,bio _,(fun hx=>by cases hx),fun hx=>absurd hx (bl7 _)⟩
 refine⟨some ⟨b,0,none⟩,cap,hv,h3,h4,(fun hx=>by cases hx),fun _=>⟨b,0,rfl,fun i j hi' hj'=>?_⟩⟩;obtain⟨x,hx,hr⟩:=h6 i j hi' hj';refine⟨x, ?_,aq.mono (fun b x hb=>by cases hb) hr⟩;unfold gq
 grind
section
variable {w0:World}{nt:Nat}{c:Ctx}{s:S}{a:Act}{w:World}
end
section
variable {ro:Option Nat}{P:Program}{nt:Nat}{co:Code}{st:HSt}{Q:HSt->Prop}
end
end
section
open Go.RowKit
def pj{nt:Nat}{st:HSt}{Q:HSt->Prop}(x:Nat)(ob':ae){ob:ae}(ho:b6 st.o x=some ob)(hc:CoO ob ob')(h:HE nt ⟨st.t,(x,some ob')::st.o⟩ Q):HE nt st Q:=fun w0 m0 a w hr=>by
 obtain⟨cc,hold,hrr⟩:=hr;refine h w0 m0 a w ⟨cc,hold,hrr.relax _ (fun d y hy=>⟨y,hy,CoR.refl _⟩) fun id ob2 ho2=>?_⟩;simp only[HSt.den,ay]at ho2;by_cases hk:id=x
 · subst hk
   rw[if_pos rfl]at ho2;simp only[bij]at ho2;subst ho2;exact⟨ob,ho,hc⟩
 rw[if_neg hk]at ho2;exact⟨ob2,ho2,CoO.refl _⟩
def a10 {nt:Nat} {st:HSt} {Q:HSt->Prop} (d:Nat) (y:HR) {x:HR} (hx:b6 st.t d=some x) (hc:CoR x y) (h:HE nt ⟨(d,some y)::st.t,st.o⟩ Q):HE nt st Q :=
 aaj st d y (fun w0 m0 a w hr=>by
  obtain⟨cc,hold,hrr⟩:=hr
  exact⟨cc,hold,hrr,al.co hc (hrr.tmps d x hx)⟩) h
def anf:CoR (.v (.one (.p (.raw (.slice none 0 0))))) (bo (.sl 0 0 true fun _ _=>.any)):=by
 show CoP _ _;intro m u h;obtain⟨e,_⟩:=h;subst e;exact lw m (.slice none 0 0) rfl
section
variable {v:Value}
def b2y (h:v.oneCell'=true):vHC v=.one (.p (.raw v)):=by
 cases v<;>first|rfl|(simp[Value.oneCell']at h)
variable {L':List (Value×ge)}
theorem Bag.perm {L:List (Value×ge)} (hp:L.Perm L'):∀{bk:Nat->Prop} {h:Nat->Option Obj},Bag L bk h->Bag L' bk h:=by
 induction hp with
 |nil=>exact fun hb=>hb
 | cons x _ ih =>
  intro bk h hb;obtain⟨v,R⟩:=x;obtain⟨h1,b1,b2,i1,d1,r1,hL⟩:=hb;exact⟨h1,b1,b2,i1,d1,r1,ih hL⟩
 |swap x y l=>exact fun hb=>hb.swap
 |trans _ _ ih1 ih2=>exact fun hb=>ih2 (ih1 hb)
def ajz{L:List (Value×ge)}(hp:L.Perm L'):CoO (.opq 0 0 0 (gp L)) (.opq 0 0 0 (gp L')):=⟨rfl,rfl,rfl,fun v bk h hb=>Bag.perm hp hb⟩
def aty{s n:Nat}{e:TypeId}{R:ge}:CoO (.opq s e n (ol v R)) (.opq s e n R):=⟨rfl,rfl,rfl,fun u bk h hb=>hb.2⟩
abbrev BP:=List (AS×List Nat)
abbrev BG:=List (AS×List Nat×Value)
def lkP(s:AS)(H:BP):List Nat:=((H.find? fun h=>decide (h.1=s)).map (·.2)).getD []
def erP(s:AS)(H:BP):BP:=H.filter fun h=>!decide (h.1=s)
def upP(a:Nat)(H:BP)(s:AS):BP:=erP s H++[(s,lkP s H++[a])]
def bdJ(a:Nat)(l:List AS)(H:BP)(j:Nat):BP:=(l.take j).foldl (upP a) H
def bdT(q:List Int)(n a:Nat):BP:=(List.range a).foldl (fun H b=>bdJ b (mnL q n b) H (mnL q n b).length) []
def mkF(s:AS)(a:Nat):Fd:=⟨s,(1:AS)<<<a⟩
def bdX(x:BP×List Fd)(s:AS):BP×List Fd:=(erP s x.1,x.2++(lkP s x.1).map (mkF s))
def bdR(H:BP)(l:List AS)(i:Nat):BP×List Fd:=(l.take i).foldl bdX (H,[])
def b6j(q:List Int)(n:Nat):List Fd:=(bdR (bdT q n n) (ord (fmS q n n)) (ord (fmS q n n)).length).2
variable {a:Nat}{l:List AS}
def ait {j:Nat} {H:BP} (hj:j<l.length):bdJ a l H (j+1)=upP a (bdJ a l H j) (l.getD j default):=by
 unfold bdJ;rw[ar hj,bj8];rfl
def av5 {q:List Int} {n:Nat}:bdT q n (a+1)=bdJ a (mnL q n a) (bdT q n a) (mnL q n a).length:=by
 unfold bdT;rw[bjj,bj8];rfl
def sv {H:BP} {i:Nat} (hi:i<l.length):bdR H l (i+1)=bdX (bdR H l i) (l.getD i default):=by
 unfold bdR;rw[ar hi,bj8];rfl
def ah2 {q:List Int} {n:Nat}:fmS q n (a+1)=fmS q n a++mnL q n a:=by
 unfold fmS;rw[bjj,bj8];rfl
def prG(G:BG):BP:=G.map fun g=>(g.1,g.2.1)
def erG(s:AS)(G:BG):BG:=G.filter fun g=>!decide (g.1=s)
def vb(G:BG):List (Value×ge):=G.map fun g=>(g.2.2,JSl 1 3 g.2.1.length (lf iC g.2.1))
variable {G:BG}{s:AS}
def aq8:prG (erG s G)=erP s (prG G):=by
 unfold prG erG erP;rw[List.filter_map];rfl
def amo (h:∀g∈G,g.1≠s):erG s G=G:=by
 unfold erG;refine List.filter_eq_self.2 fun g hg=>?_;simp[h g hg]
theorem b1o (h:∀g∈G,g.1≠s):lkP s (prG G)=[]:=by
 unfold lkP prG;rw[List.find?_eq_none.2 fun x hx=>?_]
 · rfl
 grind
theorem b37 {g:AS×List Nat×Value} (hn:(G.map (·.1)).Nodup) (hg:g∈G):G.Perm (g::erG g.1 G)/\lkP g.1 (prG G)=g.2.1:=by
 induction G with
 |nil=>cases hg
 | cons x G ih =>
  rw[bk4,List.nodup_cons]at hn;obtain⟨h1,h2⟩:=hn;by_cases e:x.1=g.1
  · have hx:g=x:=by
     grind
    subst hx;have hno:∀y∈G,y.1≠g.1:=fun y hy e2=>h1 (bj3.2 ⟨y,hy,e2⟩);refine⟨?_, ?_⟩
    · unfold erG
      rw[bki,if_neg bmu];rw[show G.filter (fun y=>!decide (y.1=g.1))=G from amo hno]
    unfold lkP prG
    grind
  have hg2:g∈G:=by
   grind
  obtain⟨p1,p2⟩:=ih h2 hg2;refine⟨?_, ?_⟩
  · unfold erG
    rw[bki,if_pos (by simp[e])];exact(p1.cons x).trans (List.Perm.swap _ _ _)
  unfold lkP prG at p2 ⊢
  grind
def axc (hn:l.Nodup) {i:Nat} (hi:i<l.length):¬l.getD i default∈l.take i:=by
 rw[ah _ _ hi];intro hm;obtain⟨j,hj,e⟩:=bj7 hm;rw[bjc]at hj;rw[List.getElem_take]at e;have:=(bm6 hn).1 e;omega
theorem aiu {i:Nat} (hi:i<l.length) {x:AS} (hx:¬x∈l.take (i+1)):¬x∈l.take i/\x≠l.getD i default:=by
 rw[ar hi]at hx
 grind
def a69 {o:List Fd} {l:List Nat} {k:Nat} (hk:k<l.length):o++(l.take (k+1)).map (mkF s)=(o++(l.take k).map (mkF s))++[mkF s (l.getD k default)]:=by
 rw[ar hk,bju,<- bjy];rfl
structure BIn (P:Program) (es:Array MapEntry) (clock:Nat) (G:BG) (K:AS->Prop) (B:Nat):Prop where
 mx:mz P 35 es clock
 to:∀e∈es.toList,∀s,e.key=mkS s->K s->∃g∈G,g.1=s/\e.val=g.2.2
 at_:∀g∈G,∃e∈es.toList,e.key=mkS g.1/\e.val=g.2.2
 nd:(G.map (·.1)).Nodup
 one:∀g∈G,g.2.2.oneCell'=true/\g.2.1.length<=B
 sz:es.size<=B
variable {B clock:Nat}{K:AS->Prop}{P:Program}
theorem BIn.nil:BIn P #[] clock [] K B:=⟨mz.nil,(fun e he=>by simp at he),(fun g hg=>by cases hg),List.nodup_nil,(fun g hg=>by cases hg),bio _⟩
variable {es:Array MapEntry}
theorem BIn.absent (h:BIn P es clock G K B) (hn:∀e∈es.toList,e.key≠mkS s):lkP s (prG G)=[]/\erG s G=G:=by
 have hno:∀g∈G,g.1≠s:=fun g hg e=>by
  obtain⟨x,hx,hk,_⟩:=h.at_ g hg
  grind
 exact⟨b1o hno,amo hno⟩
theorem BIn.found (h:BIn P es clock G K B) {e:MapEntry} (he:e∈es.toList) (hk:e.key=mkS s) (hK:K s):
 ∃v,e.val=v/\vHC v=.one (.p (.raw v))/\(vb G).Perm ((v,JSl 1 3 (lkP s (prG G)).length (lf iC (lkP s (prG G))))::vb (erG s G))/\(lkP s (prG G)).length<=B:=by
 obtain⟨g,hg,rfl,hv⟩:=h.to e he s hk hK;obtain⟨p1,p2⟩:=b37 h.nd hg;refine⟨g.2.2,hv,b2y (h.one g hg).1, ?_,by rw[p2];exact(h.one g hg).2⟩;rw[p2];exact p1.map _
theorem BIn.take {K':AS->Prop} (h:BIn P es clock G K B) (hK:∀x,K' x->K x/\x≠s):BIn P es clock (erG s G) K' B:=by
 have hs:∀g∈erG s G,g∈G/\g.1≠s:=fun g hg=>by
  obtain⟨h1,h2⟩:=bix.1 hg
  grind
 refine⟨h.mx,fun e he x hx hk=>?_,fun g hg=>h.at_ g (hs g hg).1, ?_,fun g hg=>h.one g (hs g hg).1,h.sz⟩
 · obtain ⟨g,hg,e1,e2⟩:=h.to e he x hx (hK x hk).1
   refine⟨g,bix.2 ⟨hg, ?_⟩,e1,e2⟩
   grind
 exact h.nd.sublist (List.filter_sublist.map _)
theorem BIn.put {es':Array MapEntry} {clock':Nat} (h:BIn P es clock G (fun _=>True) B) (hv:v.oneCell'=true) (hl:(lkP s (prG G)).length<=B) (hX:mz P 35 es' clock') (hP:ah7 es es' (mkS s) v):
 BIn P es' clock' (erG s G++[(s,lkP s (prG G)++[a],v)]) (fun _=>True) (B+1):=by
 have hs:∀g∈erG s G,g∈G/\g.1≠s:=fun g hg=>by
  obtain⟨h1,h2⟩:=bix.1 hg
  grind
 refine⟨hX,fun e he x hx _=>?_,fun g hg=>?_, ?_,fun g hg=>?_,by have:=hP.sz;have:=h.sz;omega⟩
 · rcases hP.to e he with⟨h1,h2⟩|⟨h1,h2⟩
   · obtain ⟨g,hg,e1,e2⟩:=h.to e h1 x hx trivial
     refine⟨g,bja _ (bix.2 ⟨hg, ?_⟩),e1,e2⟩
     grind
   have:x=s:=adg (hx.symm.trans h1);simp_all
 · rcases bj1.1 hg with hg|hg
   · obtain ⟨g1,g2⟩:=hs g hg
     obtain⟨e,he,hk,hv⟩:=h.at_ g g1;have hne:e.key≠mkS s:=fun e2=>g2 (adg (hk.symm.trans e2));obtain⟨y,y1,y2,y3⟩:=hP.old e he hne
     grind
   obtain rfl:=bjb.1 hg;obtain⟨y,y1,y2,y3⟩:=hP.at_
   grind
 · rw [bju,bml]
   refine⟨h.nd.sublist (List.filter_sublist.map _),by simp,fun x hx y hy e=>?_⟩
   grind
 rcases bj1.1 hg with hg|hg
 · obtain ⟨q1,q2⟩:=h.one g (hs g hg).1
   grind
 grind
theorem BIn.mono{B':Nat}(h:BIn P es clock G K B)(hb:B<=B'):BIn P es clock G K B':=⟨h.mx,h.to,h.at_,h.nd,fun g hg=>⟨(h.one g hg).1,bj2 (h.one g hg).2 hb⟩,bj2 h.sz hb⟩
theorem BIn.keys{K':AS->Prop}(h:BIn P es clock G K B)(hk:∀x,K' x->K x):BIn P es clock G K' B:=⟨h.mx,fun e he x hx q=>h.to e he x hx (hk x q),h.at_,h.nd,h.one,h.sz⟩
theorem az9:prG (erG s G++[(s,lkP s (prG G)++[a],v)])=upP a (prG G) s:=by
 unfold upP;rw[<- aq8];unfold prG
 grind
theorem as0 {l:List Nat}:vb (erG s G++[(s,l,v)])=vb (erG s G)++[(v,JSl 1 3 l.length (lf iC l))]:=by
 unfold vb
 grind
end
end
section
open Go.Proofs
def b7n:a6 bnb 76:=wgx Tryz.func76
def b2x(t:Tbl)(hT:TOk t)(h10:t.attrs.length<=10)(h200:t.rows.length<=200)(hg:∀k,k<2^t.attrs.length->f7 (jh t k)=true/\(jh t k).rows=t.rows.length)(h1:∀a,a<=t.attrs.length->(fmS (ak t) t.attrs.length a).length<=100)(h2:∀a,a<t.attrs.length->(mnL (ak t) t.attrs.length a).length<=100)(h3:∀i,i<=(ord (fmS (ak t) t.attrs.length t.attrs.length)).length->((bdR (bdT (ak t) t.attrs.length t.attrs.length) (ord (fmS (ak t) t.attrs.length t.attrs.length)) i).2).length<=100):aa bnb 76 [t.pc,pI 16] (ag [pP (fdl (b6j (ak t) t.attrs.length)),pI 0]):=by
 refine hpx (nt:=82) Tryz.func76 ?_;have hna:=hT.na;have hrk:(ak t).length=2^t.attrs.length:=by unfold ak;exact ay0
 have hol:=w4 (fmS (ak t) t.attrs.length t.attrs.length);have hfn:=h1 t.attrs.length (bil _);refine sx7 ?_;refine m9 0 ?_;refine w_7 ?_;refine qcx b09 (bbc t hT h10 h200) ?_;refine akm ?_;refine qcx b0u (b9k t hT hg) ?_;refine m9 1 ?_;refine w_3 ?_;refine cr [] [0,1] rfl ?_;refine wu (k:=0) (L:=[1]) 901 rfl (fun bg=>?_);refine sd ?_;refine aqn 905 ?_;refine fu ?_;refine ct (E:=cq) (L1:=[1]) (L2:=[]) ca ?_;refine w_2 ?_;refine f0 ?_;refine gz ?_;refine d4 9 900 true 1 35 (lf sC []) bmx rfl (CoP.sl rfl (.inr rfl) (fun h=>h) (fun i j hi _=>absurd hi (bip i))) (.inr rfl) rfl ?_;refine b7 (ι:=Nat×Array MapEntry×Nat×BG) (ka 1 (ka 7 (ka 8 (ka 30 kn)))) (kb 1 km) (fun x=>⟨[(9,some (.v (.one (.ref 900 (fmS (ak t) t.attrs.length x.1).length)))),(31,some (vI x.1))],[(900,some (.arr true 1 35 (fmS (ak t) t.attrs.length x.1).length (lf sC (fmS (ak t) t.attrs.length x.1)))),(901,some (mpO bg x.2.1 x.2.2.1)),(905,some (.opq 0 0 0 (gp (vb x.2.2.2))))]⟩) (fun x=>x.1<=t.attrs.length/\BIn bnb x.2.1 x.2.2.1 x.2.2.2 (fun _=>True) (100*x.1)/\prG x.2.2.2=bdT (ak t) t.attrs.length x.1) (fun x=>t.attrs.length-x.1) ((0,#[],0,[])) (⟨bio _,BIn.nil,rfl⟩) kk ?_;rintro⟨a,es,clock,G⟩ ⟨ha,hB,hp⟩;dsimp only at ha hB hp ⊢;refine w_5 ?_;refine hcd ?_ ?_<;>intro h0
 ·
  have han:a<t.attrs.length:=by omega
  have hml:=h2 a han;have hfa:=h1 a bmq;refine kg ?_;refine qcx b1i (bbh (ak t) t.attrs.length a hna hrk bmq) ?_;refine w_6 ?_;refine r9 2 true ?_;refine w_9 ?_;refine b7 (ι:=Nat×Array MapEntry×Nat×BG) (ka 1 (ka 7 (ka 8 (ka 9 (ka 10 (ka 30 (ka 31 (ka 41 (ka 42 kn))))))))) (kb 900 (kb 1 km)) (fun y=>⟨[(43,some (vI y.1))],[(901,some (mpO bg y.2.1 y.2.2.1)),(905,some (.opq 0 0 0 (gp (vb y.2.2.2))))]⟩) (fun y=>y.1<=(mnL (ak t) t.attrs.length a).length/\BIn bnb y.2.1 y.2.2.1 y.2.2.2 (fun _=>True) (100*a+y.1)/\prG y.2.2.2=bdJ a (mnL (ak t) t.attrs.length a) (bdT (ak t) t.attrs.length a) y.1) (fun y=>(mnL (ak t) t.attrs.length a).length-y.1) ((0,es,clock,G)) (⟨bio _,hB,hp⟩) kk ?_;rintro⟨j,es,clock,G⟩ ⟨hj,hB,hp⟩;dsimp only at hj hB hp ⊢;refine w_5 ?_;refine hcd ?_ ?_<;>intro h1
  ·
   have hjl:j<(mnL (ak t) t.attrs.length a).length:=by omega
   refine w_9 ?_;refine cr [] [0,1,2,3,4,5,6,7,8] rfl ?_;refine ct (E:=cq) (L1:=[0,1,2,3]) (L2:=[4,5,6,7,8]) ca ?_;refine w_5 ?_;refine a95 (mid:=901) (k:=4) (L:=[5,6,7,8]) rfl Tryz.underlying216 (Go.Maps.int_keyed Tryz.underlying35) Tryz.zeroValue57 rfl hB.mx (Go.Maps.keyOf_int_mk Tryz.underlying35 (wfA _)) rfl (fun hno=>?_) (fun e he hk=>?_)
   ·
    obtain⟨hl0,her⟩:=hB.absent (s:=((mnL (ak t) t.attrs.length a).getD j default)) hno;have hlb:(lkP ((mnL (ak t) t.attrs.length a).getD j default) (prG G)).length<=100*a+j:=by rw[hl0];exact bio _
    refine sd ?_;refine a10 51 (bo (.sl 0 0 true fun _ _=>.any)) rfl anf ?_;refine ahs 51 903 true 1 3 (lf iC []) bmx rfl (CoP.sl rfl (.inr rfl) (fun h=>h) (fun i j hi _=>absurd hi (bip i))) (.inr rfl) rfl ?_;refine pj 903 (.arr true 1 3 (lkP ((mnL (ak t) t.attrs.length a).getD j default) (prG G)).length (lf iC (lkP ((mnL (ak t) t.attrs.length a).getD j default) (prG G)))) rfl (bm (l:=[]) hl0) ?_;refine a10 51 (.v (.one (.ref 903 (lkP ((mnL (ak t) t.attrs.length a).getD j default) (prG G)).length))) rfl (bz (l:=([]:List Nat)) hl0) ?_;refine pj 905 (.opq 0 0 0 (gp (vb (erG ((mnL (ak t) t.attrs.length a).getD j default) G)))) rfl (CoO.of_eq (by rw[her])) ?_;refine fu ?_;refine ct (E:=cq) (L1:=[5,6,7]) (L2:=[8]) ca ?_;refine qy ?_;refine m9 3 ?_;refine r9 4 true ?_;refine ce ?_;refine sd ?_;refine pj 903 (.arr true 1 3 ((lkP ((mnL (ak t) t.attrs.length a).getD j default) (prG G))++[a]).length (lf iC ((lkP ((mnL (ak t) t.attrs.length a).getD j default) (prG G))++[a]))) rfl (bn rfl (CoP.refl _)) ?_;refine a10 54 (.v (.one (.ref 903 ((lkP ((mnL (ak t) t.attrs.length a).getD j default) (prG G))++[a]).length))) rfl (bq rfl) ?_;refine af7 903 rfl (fun _ _ _ _=>rfl) ?_;refine arc 903 rfl (fun v1 hv1=>?_);refine a6l 54 (.v (.one (.p (.raw v1)))) rfl (tq.to rfl) ?_;refine aj8 903 905 rfl rfl ?_;refine fu ?_;refine wo (mid:=901) (k:=8) (L:=[]) rfl Tryz.underlying216 (Go.Maps.int_keyed Tryz.underlying35) hB.mx (by have:=hB.sz;unfold maxLen;omega) (Go.Maps.keyOf_int_mk Tryz.underlying35 (wfA _)) rfl rfl (fun es3 clock3 hX3 hP=>?_);refine f0 ?_;have hB3:=hB.put (s:=((mnL (ak t) t.attrs.length a).getD j default)) (a:=a) hv1 hlb hX3 hP;refine w_4 ?_;refine lpz (j+1,es3,clock3,erG ((mnL (ak t) t.attrs.length a).getD j default) G++[(((mnL (ak t) t.attrs.length a).getD j default),((lkP ((mnL (ak t) t.attrs.length a).getD j default) (prG G))++[a]),v1)]) ⟨tt,⟨u9,⟨_,rfl,(CoO.of_eq (by rw[as0]))⟩,uu⟩⟩ ?_;exact⟨by show j+1<=_;omega,hB3,by rw[az9,hp,ait hjl]⟩
   obtain⟨v0,hv0,hvc,hperm,hlb0⟩:=hB.found (s:=((mnL (ak t) t.attrs.length a).getD j default)) he hk trivial;have hlb:(lkP ((mnL (ak t) t.attrs.length a).getD j default) (prG G)).length<=100*a+j:=hlb0;rw[hv0,hvc];refine sd ?_;refine pj 905 (.opq 0 0 0 (gp ((v0,JSl 1 3 (lkP ((mnL (ak t) t.attrs.length a).getD j default) (prG G)).length (lf iC (lkP ((mnL (ak t) t.attrs.length a).getD j default) (prG G))))::vb (erG ((mnL (ak t) t.attrs.length a).getD j default) G)))) rfl (ajz hperm) ?_;refine aee 903 905 1 (lkP ((mnL (ak t) t.attrs.length a).getD j default) (prG G)).length 3 rfl ?_;refine a6l 51 (.v (.one (.ref 903 (lkP ((mnL (ak t) t.attrs.length a).getD j default) (prG G)).length))) rfl (tq.from rfl) ?_;refine pj 903 (.opq 1 3 (lkP ((mnL (ak t) t.attrs.length a).getD j default) (prG G)).length (JSl 1 3 (lkP ((mnL (ak t) t.attrs.length a).getD j default) (prG G)).length (lf iC (lkP ((mnL (ak t) t.attrs.length a).getD j default) (prG G))))) rfl aty ?_;refine ae2 903 rfl bmx (by unfold maxLen;omega) (fun _ _ _ _=>rfl) ?_;refine fu ?_;refine ct (E:=cq) (L1:=[5,6,7]) (L2:=[8]) ca ?_;refine qy ?_;refine m9 5 ?_;refine r9 6 true ?_;refine ce ?_;refine sd ?_;refine pj 903 (.arr true 1 3 ((lkP ((mnL (ak t) t.attrs.length a).getD j default) (prG G))++[a]).length (lf iC ((lkP ((mnL (ak t) t.attrs.length a).getD j default) (prG G))++[a]))) rfl (bn rfl (CoP.refl _)) ?_;refine a10 54 (.v (.one (.ref 903 ((lkP ((mnL (ak t) t.attrs.length a).getD j default) (prG G))++[a]).length))) rfl (bq rfl) ?_;refine af7 903 rfl (fun _ _ _ _=>rfl) ?_;refine arc 903 rfl (fun v1 hv1=>?_);refine a6l 54 (.v (.one (.p (.raw v1)))) rfl (tq.to rfl) ?_;refine aj8 903 905 rfl rfl ?_;refine fu ?_;refine wo (mid:=901) (k:=8) (L:=[]) rfl Tryz.underlying216 (Go.Maps.int_keyed Tryz.underlying35) hB.mx (by have:=hB.sz;unfold maxLen;omega) (Go.Maps.keyOf_int_mk Tryz.underlying35 (wfA _)) rfl rfl (fun es3 clock3 hX3 hP=>?_);refine f0 ?_
   have hB3:=hB.put (s:=((mnL (ak t) t.attrs.length a).getD j default)) (a:=a) hv1 hlb hX3 hP;refine w_4 ?_;refine lpz (j+1,es3,clock3,erG ((mnL (ak t) t.attrs.length a).getD j default) G++[(((mnL (ak t) t.attrs.length a).getD j default),((lkP ((mnL (ak t) t.attrs.length a).getD j default) (prG G))++[a]),v1)]) ⟨tt,⟨u9,⟨_,rfl,(CoO.of_eq (by rw[as0]))⟩,uu⟩⟩ ?_;exact⟨by show j+1<=_;omega,hB3,by rw[az9,hp,ait hjl]⟩
  obtain rfl:j=(mnL (ak t) t.attrs.length a).length:=by omega
  refine w_5 ?_;refine lpz (a+1,es,clock,G) ⟨⟨⟨_,rfl,(CoR.of_eq (by rw[ah2,biq]))⟩,tt⟩,⟨⟨_,rfl,(by rw[ah2];exact aag _ (fun h=>h) rfl fun _ _ _ _=>CoP.refl _)⟩,uu⟩⟩ ?_;exact⟨by show a+1<=_;omega,hB.mono bmq,by rw[av5];exact hp⟩
 obtain rfl:a=t.attrs.length:=by omega
 refine w_7 ?_;refine bh 9 rfl rfl rfl ?_;refine w_2 ?_;refine fc9 a6i ((b05 (fmS (ak t) t.attrs.length t.attrs.length) bmq).swap 901 906) trivial ?_;refine w_4 ?_;refine d4 14 902 true 2 37 (lf Fd.c []) bmx rfl (CoP.sl rfl (.inr rfl) (fun h=>h) (fun i j hi _=>absurd hi (bip i))) (.inr rfl) rfl ?_;refine b7 (ι:=Nat×BG) (ka 8 (ka 58 (ka 59 kn))) (kb 901 (kb 906 km)) (fun z=>⟨[(14,some (.v (.one (.ref 902 ((bdR (bdT (ak t) t.attrs.length t.attrs.length) (ord (fmS (ak t) t.attrs.length t.attrs.length)) z.1).2).length)))),(60,some (vI z.1))],[(902,some (.arr true 2 37 ((bdR (bdT (ak t) t.attrs.length t.attrs.length) (ord (fmS (ak t) t.attrs.length t.attrs.length)) z.1).2).length (lf Fd.c ((bdR (bdT (ak t) t.attrs.length t.attrs.length) (ord (fmS (ak t) t.attrs.length t.attrs.length)) z.1).2)))),(905,some (.opq 0 0 0 (gp (vb z.2))))]⟩) (fun z=>z.1<=(ord (fmS (ak t) t.attrs.length t.attrs.length)).length/\BIn bnb es clock z.2 (fun s=>¬s∈(ord (fmS (ak t) t.attrs.length t.attrs.length)).take z.1) (100*t.attrs.length)/\prG z.2=(bdR (bdT (ak t) t.attrs.length t.attrs.length) (ord (fmS (ak t) t.attrs.length t.attrs.length)) z.1).1) (fun z=>(ord (fmS (ak t) t.attrs.length t.attrs.length)).length-z.1) ((0,G)) (⟨bio _,hB.keys (fun _ _=>trivial),hp⟩) kk ?_;rintro⟨i,G⟩ ⟨hi,hB,hp⟩;dsimp only at hi hB hp ⊢;refine w_5 ?_;refine hcd ?_ ?_<;>intro h2
 ·
  have hil:i<(ord (fmS (ak t) t.attrs.length t.attrs.length)).length:=by omega
  have ho3:=h3 i bmq;have hKs:¬((ord (fmS (ak t) t.attrs.length t.attrs.length)).getD i default)∈(ord (fmS (ak t) t.attrs.length t.attrs.length)).take i:=axc (au1 _) hil;refine db ?_;refine cr [] [0,1,2,3,4] rfl ?_;refine ct (E:=cq) (L1:=[0,1]) (L2:=[2,3,4]) ca ?_;refine w_3 ?_;refine a95 (mid:=901) (k:=2) (L:=[3,4]) rfl Tryz.underlying216 (Go.Maps.int_keyed Tryz.underlying35) Tryz.zeroValue57 rfl hB.mx (Go.Maps.keyOf_int_mk Tryz.underlying35 (wfA _)) rfl (fun hno=>?_) (fun e he hk=>?_)
  ·
   obtain⟨hl0,her⟩:=hB.absent (s:=((ord (fmS (ak t) t.attrs.length t.attrs.length)).getD i default)) hno;have hlb:(lkP ((ord (fmS (ak t) t.attrs.length t.attrs.length)).getD i default) (prG G)).length<=100*t.attrs.length:=by rw[hl0];exact bio _
   refine sd ?_;refine a10 66 (bo (.sl 0 0 true fun _ _=>.any)) rfl anf ?_;refine ahs 66 903 true 1 3 (lf iC []) bmx rfl (CoP.sl rfl (.inr rfl) (fun h=>h) (fun i j hi _=>absurd hi (bip i))) (.inr rfl) rfl ?_;refine pj 903 (.arr true 1 3 (lkP ((ord (fmS (ak t) t.attrs.length t.attrs.length)).getD i default) (prG G)).length (lf iC (lkP ((ord (fmS (ak t) t.attrs.length t.attrs.length)).getD i default) (prG G)))) rfl (bm (l:=[]) hl0) ?_;refine a10 66 (.v (.one (.ref 903 (lkP ((ord (fmS (ak t) t.attrs.length t.attrs.length)).getD i default) (prG G)).length))) rfl (bz (l:=([]:List Nat)) hl0) ?_;refine pj 905 (.opq 0 0 0 (gp (vb (erG ((ord (fmS (ak t) t.attrs.length t.attrs.length)).getD i default) G)))) rfl (CoO.of_eq (by rw[her])) ?_;refine fu ?_;refine ct (E:=cq) (L1:=[3,4]) (L2:=[]) ca ?_;refine w_3 ?_;refine f0 ?_;refine a9b ?_
   refine bp (ka 8 (ka 16 (ka 58 (ka 59 (ka 60 (ka 66 (ka 67 kn))))))) (kb 905 (kb 901 (kb 906 (kb 903 km)))) (fun k=>⟨[(14,some (.v (.one (.ref 902 ((bdR (bdT (ak t) t.attrs.length t.attrs.length) (ord (fmS (ak t) t.attrs.length t.attrs.length)) i).2++((lkP ((ord (fmS (ak t) t.attrs.length t.attrs.length)).getD i default) (prG G)).take k).map (mkF ((ord (fmS (ak t) t.attrs.length t.attrs.length)).getD i default))).length)))),(68,some (vI k))],[(902,some (.arr true 2 37 ((bdR (bdT (ak t) t.attrs.length t.attrs.length) (ord (fmS (ak t) t.attrs.length t.attrs.length)) i).2++((lkP ((ord (fmS (ak t) t.attrs.length t.attrs.length)).getD i default) (prG G)).take k).map (mkF ((ord (fmS (ak t) t.attrs.length t.attrs.length)).getD i default))).length (lf Fd.c ((bdR (bdT (ak t) t.attrs.length t.attrs.length) (ord (fmS (ak t) t.attrs.length t.attrs.length)) i).2++((lkP ((ord (fmS (ak t) t.attrs.length t.attrs.length)).getD i default) (prG G)).take k).map (mkF ((ord (fmS (ak t) t.attrs.length t.attrs.length)).getD i default))))))]⟩) ((lkP ((ord (fmS (ak t) t.attrs.length t.attrs.length)).getD i default) (prG G)).length) ⟨⟨⟨_,rfl,(bz bmu)⟩,tt⟩,⟨⟨_,rfl,(bm bmu)⟩,trivial⟩⟩ ?_;rintro k hk;have htl:((bdR (bdT (ak t) t.attrs.length t.attrs.length) (ord (fmS (ak t) t.attrs.length t.attrs.length)) i).2++((lkP ((ord (fmS (ak t) t.attrs.length t.attrs.length)).getD i default) (prG G)).take k).map (mkF ((ord (fmS (ak t) t.attrs.length t.attrs.length)).getD i default))).length<=1800:=by rw[biq,bjf,bjc];omega
   refine w_5 ?_;refine hcd ?_ ?_<;>intro h3
   ·
    have hkl:k<(lkP ((ord (fmS (ak t) t.attrs.length t.attrs.length)).getD i default) (prG G)).length:=by omega
    refine ic ?_;refine m9 7 ?_;refine r9 8 true ?_;refine w_6 ?_;exact lpx (k+1) ⟨⟨⟨_,rfl,(bq (a69 hkl))⟩,tt⟩,⟨⟨_,rfl,(jq (a69 hkl) (CoP.refl _) (CoP.of_eq (congrArg (fun z=>PV.raw (.int .u32 z)) (ze 1 _))))⟩,uu⟩⟩
   obtain rfl:k=(lkP ((ord (fmS (ak t) t.attrs.length t.attrs.length)).getD i default) (prG G)).length:=by omega
   refine w_5 ?_;refine lpz (i+1,erG ((ord (fmS (ak t) t.attrs.length t.attrs.length)).getD i default) G) ⟨⟨⟨_,rfl,(bz (by rw[sv hil,biz,hp];rfl))⟩,tt⟩,⟨⟨_,rfl,(bm (by rw[sv hil,biz,hp];rfl))⟩,uu⟩⟩ ?_;exact⟨by show i+1<=_;omega,hB.take (fun x hx=>aiu hil hx),by rw[sv hil,aq8,hp];rfl⟩
  obtain⟨v0,hv0,hvc,hperm,hlb0⟩:=hB.found (s:=((ord (fmS (ak t) t.attrs.length t.attrs.length)).getD i default)) he hk hKs;have hlb:(lkP ((ord (fmS (ak t) t.attrs.length t.attrs.length)).getD i default) (prG G)).length<=100*t.attrs.length:=hlb0;rw[hv0,hvc];refine sd ?_;refine pj 905 (.opq 0 0 0 (gp ((v0,JSl 1 3 (lkP ((ord (fmS (ak t) t.attrs.length t.attrs.length)).getD i default) (prG G)).length (lf iC (lkP ((ord (fmS (ak t) t.attrs.length t.attrs.length)).getD i default) (prG G))))::vb (erG ((ord (fmS (ak t) t.attrs.length t.attrs.length)).getD i default) G)))) rfl (ajz hperm) ?_;refine aee 903 905 1 (lkP ((ord (fmS (ak t) t.attrs.length t.attrs.length)).getD i default) (prG G)).length 3 rfl ?_;refine a6l 66 (.v (.one (.ref 903 (lkP ((ord (fmS (ak t) t.attrs.length t.attrs.length)).getD i default) (prG G)).length))) rfl (tq.from rfl) ?_;refine pj 903 (.opq 1 3 (lkP ((ord (fmS (ak t) t.attrs.length t.attrs.length)).getD i default) (prG G)).length (JSl 1 3 (lkP ((ord (fmS (ak t) t.attrs.length t.attrs.length)).getD i default) (prG G)).length (lf iC (lkP ((ord (fmS (ak t) t.attrs.length t.attrs.length)).getD i default) (prG G))))) rfl aty ?_;refine ae2 903 rfl bmx (by unfold maxLen;omega) (fun _ _ _ _=>rfl) ?_;refine fu ?_;refine ct (E:=cq) (L1:=[3,4]) (L2:=[]) ca ?_;refine w_3 ?_;refine f0 ?_;refine a9b ?_
  refine bp (ka 8 (ka 16 (ka 58 (ka 59 (ka 60 (ka 66 (ka 67 kn))))))) (kb 905 (kb 901 (kb 906 (kb 903 km)))) (fun k=>⟨[(14,some (.v (.one (.ref 902 ((bdR (bdT (ak t) t.attrs.length t.attrs.length) (ord (fmS (ak t) t.attrs.length t.attrs.length)) i).2++((lkP ((ord (fmS (ak t) t.attrs.length t.attrs.length)).getD i default) (prG G)).take k).map (mkF ((ord (fmS (ak t) t.attrs.length t.attrs.length)).getD i default))).length)))),(68,some (vI k))],[(902,some (.arr true 2 37 ((bdR (bdT (ak t) t.attrs.length t.attrs.length) (ord (fmS (ak t) t.attrs.length t.attrs.length)) i).2++((lkP ((ord (fmS (ak t) t.attrs.length t.attrs.length)).getD i default) (prG G)).take k).map (mkF ((ord (fmS (ak t) t.attrs.length t.attrs.length)).getD i default))).length (lf Fd.c ((bdR (bdT (ak t) t.attrs.length t.attrs.length) (ord (fmS (ak t) t.attrs.length t.attrs.length)) i).2++((lkP ((ord (fmS (ak t) t.attrs.length t.attrs.length)).getD i default) (prG G)).take k).map (mkF ((ord (fmS (ak t) t.attrs.length t.attrs.length)).getD i default))))))]⟩) ((lkP ((ord (fmS (ak t) t.attrs.length t.attrs.length)).getD i default) (prG G)).length) ⟨⟨⟨_,rfl,(bz bmu)⟩,tt⟩,⟨⟨_,rfl,(bm bmu)⟩,trivial⟩⟩ ?_;rintro k hk;have htl:((bdR (bdT (ak t) t.attrs.length t.attrs.length) (ord (fmS (ak t) t.attrs.length t.attrs.length)) i).2++((lkP ((ord (fmS (ak t) t.attrs.length t.attrs.length)).getD i default) (prG G)).take k).map (mkF ((ord (fmS (ak t) t.attrs.length t.attrs.length)).getD i default))).length<=1800:=by rw[biq,bjf,bjc];omega
  refine w_5 ?_;refine hcd ?_ ?_<;>intro h4
  ·
   have hkl:k<(lkP ((ord (fmS (ak t) t.attrs.length t.attrs.length)).getD i default) (prG G)).length:=by omega
   refine ic ?_;refine m9 9 ?_;refine r9 10 true ?_;refine w_6 ?_;exact lpx (k+1) ⟨⟨⟨_,rfl,(bq (a69 hkl))⟩,tt⟩,⟨⟨_,rfl,(jq (a69 hkl) (CoP.refl _) (CoP.of_eq (congrArg (fun z=>PV.raw (.int .u32 z)) (ze 1 _))))⟩,uu⟩⟩
  obtain rfl:k=(lkP ((ord (fmS (ak t) t.attrs.length t.attrs.length)).getD i default) (prG G)).length:=by omega
  refine w_5 ?_;refine lpz (i+1,erG ((ord (fmS (ak t) t.attrs.length t.attrs.length)).getD i default) G) ⟨⟨⟨_,rfl,(bz (by rw[sv hil,biz,hp];rfl))⟩,tt⟩,⟨⟨_,rfl,(bm (by rw[sv hil,biz,hp];rfl))⟩,uu⟩⟩ ?_;exact⟨by show i+1<=_;omega,hB.take (fun x hx=>aiu hil hx),by rw[sv hil,aq8,hp];rfl⟩
 obtain rfl:i=(ord (fmS (ak t) t.attrs.length t.attrs.length)).length:=by omega
 refine w_2 ?_;refine bh 14 rfl rfl rfl ?_;refine v_5 ?_;exact⟨CoC.one (CoP.refl _),CoC.refl _,trivial⟩
end
section
def ack:List Fd:=[⟨1,2⟩,⟨2,4⟩]
def ec:Tbl:=b5d (aj ((3:Nat):Int)::j5 ((3:Nat):Int) (dt ack ((3:Nat):Int))) 3
def azj:cg ((3:Nat):Int) ack=0:=by decide +kernel
def bcv:ahv ((3:Nat):Int) ack=[3,6]:=by decide +kernel
def azg:TOk ec:=om.1 (by decide +kernel)
def a2a:ec.attrs.length=3:=by decide +kernel
def aoc:ec.rows.length=4:=by decide +kernel
def bam:az8 ec=[1]:=by decide +kernel
def bco:∀k,k<2^ec.attrs.length->f7 (jh ec k)=true/\(jh ec k).rows=ec.rows.length:=by
 rw[a2a,aoc];have:∀k:Fin 8,f7 (jh ec k.val)=true/\(jh ec k.val).rows=((4:Nat):Int):=by decide +kernel
 exact fun k hk=>this ⟨k,hk⟩
def bcu:∀a,a<=ec.attrs.length->(fmS (ak ec) ec.attrs.length a).length<=100:=by
 rw[a2a];have:∀a:Fin 4,(fmS (ak ec) 3 a.val).length<=100:=by decide +kernel
 exact fun a ha=>this ⟨a,by omega⟩
def bae:∀a,a<ec.attrs.length->(mnL (ak ec) ec.attrs.length a).length<=100:=by
 rw[a2a];have:∀a:Fin 3,(mnL (ak ec) 3 a.val).length<=100:=by decide +kernel
 exact fun a ha=>this ⟨a,ha⟩
def bby:∀i,i<=(ord (fmS (ak ec) ec.attrs.length ec.attrs.length)).length->((bdR (bdT (ak ec) ec.attrs.length ec.attrs.length) (ord (fmS (ak ec) ec.attrs.length ec.attrs.length)) i).2).length<=100:=by
 rw[a2a];have hl:(ord (fmS (ak ec) 3 3)).length=2:=by decide +kernel
 have:∀i:Fin 3,((bdR (bdT (ak ec) 3 3) (ord (fmS (ak ec) 3 3)) i.val).2).length<=100:=by decide +kernel
 rw[hl];exact fun i hi=>this ⟨i,by omega⟩
def bb9:b6j (ak ec) ec.attrs.length=[⟨1,2⟩,⟨1,4⟩,⟨2,4⟩]:=by
 rw[a2a];decide +kernel
end
section
open Go.Proofs
def b9v (l:List Fd) (hl:l.length<=16777216):aa bnb 126 [pP (fdl l)] (ag [pP (fdl (acb l))]):=by
 refine hpx (nt:=47) Tryz.func126 ?_;refine w_6 ?_;refine m9 0 ?_;refine mf ?_;refine d4 4 900 true 1 35 (lf sC []) bmx rfl (CoP.sl rfl (.inr rfl) (fun h=>h) (fun i j hi _=>absurd hi (bip i))) (.inr rfl) rfl ?_;refine bp (ka 3 (ka 11 (ka 12 kn))) km (fun i=>⟨[(4,some (.v (.one (.ref 900 ((l.take i).map Fd.lhs).length)))),(13,some (vI i))],[(0,some (.mp (.int .u32) i (a2i (l.take i)))),(900,some (.arr true 1 35 ((l.take i).map Fd.lhs).length (lf sC ((l.take i).map Fd.lhs))))]⟩) l.length ⟨tt,⟨⟨_,rfl,⟨rfl,bil _,asd⟩⟩,uu⟩⟩ ?_;rintro i hi;have hlen:((l.take i).map Fd.lhs).length<=i:=by rw[bjf,bjc];omega
 refine w_5 ?_;refine hcd ?_ ?_<;>intro h0
 · refine w_7 ?_;refine m9 1 ?_;refine w_7 ?_;refine rq (out:=⟨_, .v (.one (.p (asC (mgR (l.take i) (l.getD i default).lhs))))⟩) rfl rfl rfl (congrArg (fun z=>some (Out.mk _ (HR.v (HC.one (HV.p z))))) (abk _ _)) rfl ?_ (hp:=⟨rfl,rfl,wfA _⟩);refine w_3 ?_;refine rs rfl rfl rfl rfl rfl ?_ (hp:=⟨rfl,⟨rfl,wfA _⟩,by simp only[maxLen];omega⟩);refine w_5 ?_;refine m9 2 ?_;refine r9 3 true ?_;refine w_6 ?_;exact lpx (i+1) ⟨⟨⟨_,rfl,(bq (zb bmq))⟩,tt⟩,⟨⟨_,rfl,⟨rfl,bil _,as6 bmq⟩⟩,⟨_,rfl,(bn (zb bmq) (CoP.refl _))⟩,trivial⟩⟩
 obtain rfl:i=l.length:=by omega
 rw[show(l.take l.length).map Fd.lhs=l.map Fd.lhs by rw[biz],show a2i (l.take l.length)=a2i l by rw[biz]];refine w_7 ?_;refine bh 4 rfl rfl rfl ?_;have hol:=w4 (l.map Fd.lhs);rw[bjf]at hol;refine w_2 ?_;refine qcx a6i (ag8 (l.map Fd.lhs) (by rw[bjf];omega)) ?_;refine w_4 ?_;refine d4 7 901 true 2 37 (lf Fd.c []) bmx rfl (CoP.sl rfl (.inr rfl) (fun h=>h) (fun i j hi _=>absurd hi (bip i))) (.inr rfl) rfl ?_;refine bp (ka 3 (ka 31 (ka 32 kn))) (kb 0 km) (fun k=>⟨[(7,some (.v (.one (.ref 901 (((ord (l.map Fd.lhs)).take k).map (mgF l)).length)))),(33,some (vI k))],[(901,some (.arr true 2 37 (((ord (l.map Fd.lhs)).take k).map (mgF l)).length (lf Fd.c (((ord (l.map Fd.lhs)).take k).map (mgF l)))))]⟩) ((ord (l.map Fd.lhs)).length) kk ?_;rintro k hk;have hlen2:(((ord (l.map Fd.lhs)).take k).map (mgF l)).length<=k:=by rw[bjf,bjc];omega
 refine w_5 ?_;refine hcd ?_ ?_<;>intro h1
 · refine mf ?_;refine rq (out:=⟨_, .v (.one (.p (asC (mgR l ((ord (l.map Fd.lhs)).getD k default)))))⟩) rfl rfl rfl (congrArg (fun z=>some (Out.mk _ (HR.v (HC.one (HV.p z))))) (abk _ _)) rfl ?_ (hp:=⟨rfl,rfl,wfA _⟩);refine qy ?_;refine m9 4 ?_;refine r9 5 true ?_;refine w_6 ?_;exact lpx (k+1) ⟨⟨⟨_,rfl,(bq (zb bmq))⟩,tt⟩,⟨⟨_,rfl,(jq (zb bmq) (CoP.refl _) (CoP.refl _))⟩,uu⟩⟩
 obtain rfl:k=(ord (l.map Fd.lhs)).length:=by omega
 refine w_6 ?_;refine bh 2 rfl rfl rfl ?_;exact hx8 rfl rfl rfl (⟨CoC.one (CoP.of_eq (by rw[biz];rfl)),trivial⟩)
end
section
open Go.Proofs
def ba2:a6 bnb 25:=wgx Tryz.func25
def bb1  : aa bnb 25 [ec.pc] (ag [pP (fdl [⟨1,2⟩,⟨1,4⟩,⟨2,4⟩]),pI 0]):=by
 refine hpx (nt:=8) Tryz.func25 ?_;refine sx7 ?_;refine m9 0 ?_;refine w_6 ?_;refine qcx b7n (b2x ec azg (by rw[a2a];decide) (by rw[aoc];decide) bco bcu bae bby) ?_;refine v_5 ?_;exact⟨CoC.of_eq (by rw[bb9]),CoC.refl _,trivial⟩
def b4q:aa bnb 26 [ec.pc] (ag [pP (asl [1]),pI 0]):=by
 have h:=b8a ec azg (by rw[a2a];decide) (by rw[aoc];decide);rw[bam]at h;exact h
def azz:aa bnb 23 [pI 3,pP (fdl ack)] (ag [pP (asl [3,6]),pI 0]):=by
 have h:=b0l (fun k hk=>b9v k hk) ((3:Nat):Int) ack;rw[bcv,azj]at h;exact h
def b76:a6 bnb 28:=wgx Tryz.func28
def b50(a b:List Fd):aa bnb 28 [pP (fdl a),pP (fdl b)] (ag [pB (decide (a=b))]):=by
 refine hpx (nt:=26) Tryz.func28 ?_;refine f4 ?_;refine j4 0 rfl fun hn=>?_;refine gz ?_;refine hcn ?_ ?_<;>intro h0
 · refine v_4 ?_;exact⟨ccb (decide_eq_false fun e=>by subst e;omega).symm,trivial⟩
 refine eu ?_;refine dn (ι:=Unit) kn km (fun _i=>⟨[],[]⟩) (fun _i=>a=b) ?_ ?_
 ·
  refine w_5 ?_;refine b7 (ι:=Nat) (ka 0 (ka 1 kn)) km (fun i=>⟨[(5,some (vI i))],[]⟩) (fun i=>i<=a.length/\(∀j,j<i->decide (a.getD j default=b.getD j default)=true)) (fun i=>a.length-i) (0) (⟨bio _,gt⟩) kk ?_;rintro i ⟨hi,hI⟩;refine w_8 ?_;refine hcd ?_ ?_<;>intro h1
  ·
   refine xk ?_;refine hcb ?_ ?_<;>intro h2
   · refine v_4 ?_;exact⟨ccb (decide_eq_false fun e=>by subst e;simp_all).symm,trivial⟩
   refine w_6 ?_;refine lpz (i+1) kk ?_;exact⟨by show i+1<=_;omega,f5 hI (decide_eq_true (by simp_all [Fd.eq_iff,dq]))⟩
  refine eg ?_;refine⟨(), ?_, ?_⟩
  · exact axx bmq fun j hj=>hI j bmq
  exact⟨trivial,trivial⟩
 rintro _ hj;refine v_4 ?_;exact⟨ccb (decide_eq_true hj).symm,trivial⟩
def ai6 (l:List AS):aa bnb 27 [pP (asl l),pP (asl l)] (ag [pB true]):=by
 have h:=b65 l l;rw[decide_eq_true rfl]at h;exact h
def aw1 (l:List Fd):aa bnb 28 [pP (fdl l),pP (fdl l)] (ag [pB true]):=by
 have h:=b50 l l;rw[decide_eq_true rfl]at h;exact h
def aon:a6 bnb 6:=wgx Tryz.func6
def a83  : aa bnb 6 [] (ag [pB true]):=by
 refine hpx (nt:=67) Tryz.func6 ?_;refine w_8 ?_;refine m9 0 ?_;refine w_2 ?_;refine bh 1 rfl rfl rfl ?_;refine w_3 ?_;refine rc rfl rfl rfl rfl rfl rfl b69 (azz) (⟨CoC.refl _,(CoC.one (CoP.sl rfl (.inl rfl) (fun h=>(by cases h)) fun i j hi hj=>CoP.of_eq (by have hi:i<2:=hi;have hj:j<2:=hj;rcases(show i=0\/i=1 by omega)with rfl|rfl<;>rcases(show j=0\/j=1 by omega)with rfl|rfl<;>rfl))),trivial⟩) rfl rfl ?_;refine w_9 ?_;refine rc rfl rfl rfl rfl rfl rfl b5f (b99 3 ack bmx azj) (⟨CoC.refl _,(CoC.one (CoP.sl rfl (.inl rfl) (fun h=>(by cases h)) fun i j hi hj=>CoP.of_eq (by have hi:i<2:=hi;have hj:j<2:=hj;rcases(show i=0\/i=1 by omega)with rfl|rfl<;>rcases(show j=0\/j=1 by omega)with rfl|rfl<;>rfl))),trivial⟩) rfl rfl ?_;refine w_3 ?_;refine m9 1 ?_;refine w_6 ?_;refine qcx ba2 (bb1) ?_;refine w_9 ?_;refine qcx b53 (b4q) ?_;refine b6p ?_;refine m9 2 ?_;refine rc rfl rfl rfl rfl rfl rfl ash (ai6 [3,6]) (⟨CoC.refl _,(CoC.one (CoP.sl rfl (.inl rfl) (fun h=>(by cases h)) fun i j hi hj=>CoP.of_eq (by have hi:i<2:=hi;have hj:j<1:=hj;rcases(show i=0\/i=1 by omega)with rfl|rfl<;>(obtain rfl:j=0:=by omega)<;>rfl))),trivial⟩) rfl rfl ?_;refine w_6 ?_;refine m9 3 ?_;refine rc rfl rfl rfl rfl rfl rfl b76 (aw1 [⟨1,2⟩,⟨1,4⟩,⟨2,4⟩]) (⟨CoC.refl _,(CoC.one (CoP.sl rfl (.inl rfl) (fun h=>(by cases h)) fun i j hi hj=>CoP.of_eq (by have hi:i<3:=hi;have hj:j<2:=hj;rcases(show i=0\/i=1\/i=2 by omega)with rfl|rfl|rfl<;>rcases(show j=0\/j=1 by omega)with rfl|rfl<;>rfl))),trivial⟩) rfl rfl ?_;refine w_3 ?_;refine m9 4 ?_;refine rc rfl rfl rfl rfl rfl rfl ash (ai6 [1]) (⟨CoC.refl _,(CoC.one (CoP.sl rfl (.inl rfl) (fun h=>(by cases h)) fun i j hi hj=>CoP.of_eq (by have hi:i<1:=hi;have hj:j<1:=hj;(obtain rfl:i=0:=by omega)<;>(obtain rfl:j=0:=by omega)<;>rfl))),trivial⟩) rfl rfl ?_;refine v_3 ?_;exact CoL.refl _
end
section
open Go.Proofs
def bd4:a6 bnb 7:=wgx Tryz.func7
def bd5 (n:Int) (l:List Dp) (hl:l.length<=16777216):aa bnb 7 [pI n,pP (dpl l)] (ag [pP (fdl (l.map (Dp.fd n)))]):=by
 refine hpx (nt:=37) Tryz.func7 ?_;refine w_7 ?_;refine qcx b5c (b5s n) ?_;refine gz ?_;refine d4 6 900 true 2 37 (lf Fd.c []) bmx rfl (CoP.sl rfl (.inr rfl) (fun h=>h) (fun i j hi _=>absurd hi (bip i))) (.inr rfl) rfl ?_;refine bp (ka 1 (ka 5 kn)) km (fun i=>⟨[(6,some (.v (.one (.ref 900 ((l.take i).map (Dp.fd n)).length)))),(7,some (vI i))],[(900,some (.arr true 2 37 ((l.take i).map (Dp.fd n)).length (lf Fd.c ((l.take i).map (Dp.fd n)))))]⟩) l.length kk ?_;rintro i hi;have hlen:((l.take i).map (Dp.fd n)).length<=i:=by rw[bjf,bjc];omega
 refine w_8 ?_;refine hcd ?_ ?_<;>intro h0
 · refine avg ?_;refine m9 0 ?_;refine r9 1 true ?_;refine w_8 ?_;exact lpx (i+1) ⟨⟨⟨_,rfl,(bq (zb bmq))⟩,tt⟩,⟨⟨_,rfl,(jq (zb bmq) (CoP.of_eq (congrArg (fun z=>PV.raw (.int .u32 z)) (ar0 _ _))) (CoP.of_eq (congrArg (fun z=>PV.raw (.int .u32 z)) (ar0 _ _))))⟩,trivial⟩⟩
 obtain rfl:i=l.length:=by omega
 refine w_6 ?_;refine bh 4 rfl rfl rfl ?_;exact hx8 rfl rfl rfl (⟨CoC.one (CoP.of_eq (by rw[biz];rfl)),trivial⟩)
def ayg:a6 bnb 5:=wgx Tryz.func5
def ayk (x:ji) (n:Nat) (hx:x.rows.length<=68719476736):aa bnb 5 [x.pc,pI n] (ag [(ah9 x n).pc,pB (a87 x n)]):=by
 refine hpx (nt:=18) Tryz.func5 ?_;refine sx7 ?_;refine m9 0 ?_;refine m9 1 ?_;refine ip ?_;refine hcd ?_ ?_<;>intro h0
 · refine v_6 ?_;exact⟨by rw[show ah9 x n=T0 from if_pos bmq];exact CoC.agg ⟨CoP.refl _,CoP.sl rfl (.inr rfl) (fun _=>rfl) (fun i j hi _=>absurd hi (bip i)),CoP.sl rfl (.inr rfl) (fun _=>rfl) (fun i j hi _=>absurd hi (bip i)),trivial⟩,ccb (by unfold a87;simp;omega),trivial⟩
 refine w_8 ?_;refine rc rfl rfl rfl rfl rfl rfl b60 (c36 x (x.attrs.toNat%6) bmq (by first|exact hx|omega|assumption)) (⟨CoC.refl _,cci bmq,trivial⟩) rfl rfl ?_;refine v_3 ?_;exact⟨CoC.of_eq (by rw[show ah9 x n=zq x (x.attrs.toNat%6) from if_neg bmq]),ccb (by unfold a87;simp;omega),trivial⟩
abbrev Dp.pc(d:Dp):PC:=.agg [d.c 0,d.c 1]
def akq {s:AS} {n:Nat} (hn:n<=16):∀z,(s&&&aj (n:Int)).getLsbD z=true->z<n:=fun z hz=>by
 rw[bk6,biw]at hz
 have h32:z<32:=Nat.lt_of_not_le fun hx=>by
  rw[BitVec.getLsbD_of_ge _ _ hx]at hz;exact absurd hz.1 bmx
 rw[ax7 bmq bmq h32]at hz;have:=aw8 hz.2;omega
def bbf (x:ji) (hx:x.rows.length<=8):aa bnb 5 [x.pc,pI (8:Nat)] (ag [(zq x (x.attrs.toNat%6)).pc,pB true]):=by
 have h:=ayk x 8 bmq;rw[show ah9 x 8=zq x (x.attrs.toNat%6) from if_neg bmq,show a87 x ((8:Nat):Int)=true by unfold a87;simp;omega]at h;exact h
def baq (x:ji) (hx:¬x.rows.length<=8) (hx2:x.rows.length<=16777216):aa bnb 5 [x.pc,pI (8:Nat)] (ag [T0.pc,pB false]):=by
 have h:=ayk x 8 bmq;rw[show ah9 x 8=T0 from if_pos bmq,show a87 x ((8:Nat):Int)=false by unfold a87;simp;omega]at h;exact h
def b07 (x:ji) (d:Dp) (hx:¬x.rows.length<=8) (hx2:x.rows.length<=16777216):aa bnb 3 [x.pc,d.pc] (ag [pB true]):=by
 refine hpx (nt:=191) Tryz.func3 ?_;refine sx7 ?_;refine m9 0 ?_;refine m9 1 ?_;refine w_5 ?_;refine qcx ayg (baq x hx hx2) ?_;refine w_3 ?_;refine m9 2 ?_;refine w_6 ?_;refine qcx aon (a83) ?_;refine w_9 ?_;refine qcx aon (a83) ?_;refine v_2 ?_;exact CoL.refl _
end
end Go.Hx
