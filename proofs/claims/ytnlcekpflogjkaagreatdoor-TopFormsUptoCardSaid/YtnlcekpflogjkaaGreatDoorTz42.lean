/- A part of the proof: Bz9 Y12 Sp5 Jp4 Kl1 Bz11 Kl2 Kb8 Hx35 Kb9. -/
import Derived.Test.YtnlcekpflogjkaaGreatDoorTz41
set_option linter.all false
set_option maxRecDepth 100000
namespace Go.Hx
section
def bgu(a b:AS):Bool:=acv b a
def bsl(l:List AS):List AS:=a9c bgu l
def okM(l:List AS)(i k:Nat):Bool:=(List.range k).all fun j=>decide (j=i)||!acv (l.getD j default) (l.getD i default)
def bqz(l:List AS)(i:Nat):List AS:=((ord l).take i).filter fun x=>!a3r bgu (ord l) x
def yq(rest L x:AS)(T:List AS)(y:AS):Bool:=!decide (y=0)&&(decide (y&&&~~~rest=0)&&decide ((L&&&~~~(x|||y))∈T))
def yL(rest L x:AS)(T:List AS)(k:Nat):List AS:=((List.range k).map (BitVec.ofNat 32)).filter (yq rest L x T)
section
variable {rest L x:AS}{T:List AS}{k:Nat}
end
section
variable {a:Nat}
def bbf{b:AS}(h:bsz b=1)(ha:b.getLsbD a=true):b=lb a:=by
 rw[yf]at h;have h1:a∈ak b:=io.2 ⟨a7t ha,ha⟩
 cases hm:ak b with
 |nil=>rw[hm]at h1;cases h1
 | cons c r =>
  rw[hm]at h h1;have hr:r=[]:=List.length_eq_zero_iff.1 (by simpa using h);subst hr;have e:a=c:=by simpa using h1
  subst e;apply t8;intro i hi;rw[j3 (a7t ha) hi]
  cases hb:b.getLsbD i with
  | true =>
   have:i∈ak b:=io.2 ⟨hi,hb⟩;rw[hm]at this;simpa using this
  | false =>
   symm;rw[decide_eq_false_iff_not];rintro rfl;rw[ha]at hb;cases hb
def b6p(ha:a<32):bsz (lb a)=1:=by
 unfold bsz
 have e:(List.range 32).countP (fun i=>(lb a).getLsbD i)=(List.range 32).countP fun i=>decide (i=a):=by
  apply List.countP_congr;intro i hi;rw[btg]at hi;rw[j3 ha hi]
 rw[e]
 have h2:∀k,(List.range k).countP (fun i=>decide (i=a))=if a<k then 1 else 0:=by
  intro k
  induction k with
  |zero=>simp
  | succ k ih =>
   rw[bu3,bwz,ih];simp only[bw4,List.countP_nil];by_cases h:k=a
   · subst h
     simp
   have hd:¬decide (k=a)=true:=fun q=>h (of_decide_eq_true q);rw[if_neg hd];by_cases h3:a<k
   · rw[if_pos h3,if_pos (show a<k+1 by omega)]
   rw[if_neg h3,if_neg (show ¬a<k+1 by omega)]
 rw[h2,if_pos ha]
def aoi{l:List Fd}:∀{bs:List AS} {o:AS},(vn l o bs).getLsbD a=true<->o.getLsbD a=true\/∃b∈bs,bsz b=1/\l.any (a12 b)=true/\b.getLsbD a=true
 | [],o=>by simp[vn]
 | b :: bs,o=>by
  show(vn l (w9 l o b) bs).getLsbD a=true<->_;rw[aoi];unfold w9;constructor
  · rintro (h|⟨c,hc,h⟩)
    · split at h
      · split at h
        · rw [buy,buk]at h
          rcases h with h|h
          · exact .inl h
          exact .inr ⟨b,by simp,by assumption,by assumption,h⟩
        exact .inl h
      exact .inl h
    exact .inr ⟨c,by simp[hc],h⟩
  rintro(h|⟨c,hc,h1,h2,h3⟩)
  · left
    split
    · split
      · rw[buy,h];rfl
      exact h
    exact h
  rcases btd.1 hc with rfl|hc
  · left
    rw[if_pos h1,if_pos h2,buy,h3,Bool.or_true]
  exact .inr ⟨c,hc,h1,h2,h3⟩
def ajm{f:Fd}(ha:a<32):a12 (lb a) f=true<->f.rhs.getLsbD a=true/\f.lhs.getLsbD a=false:=by
 unfold a12;rw[btv,decide_eq_false_iff_not];constructor
 · intro h
   obtain⟨i,hi,h1,h2⟩:=anj h;rw[j3 ha hi]at h2;have e:i=a:=by simpa using h2
   subst e;rw[db hi,bt3]at h1;exact⟨h1.1,by simpa using h1.2⟩
 rintro⟨h1,h2⟩ h;have:=a62.1 h a ha (by rw[db ha,h1,h2];rfl);rw[j3 ha ha]at this;simp at this
def zw{n:Int}{l m:List Fd}{x:AS}(ha:a<32):(w6 n l m x).getLsbD a=true<->x.getLsbD a=true\/aez l (blks (ll l m) (a6 n&&&~~~x)) a:=by
 unfold w6;rw[aoi];refine or_congr Iff.rfl ?_;unfold ge aez;constructor
 · rintro ⟨b,hb,h1,h2,h3⟩
   have e:=bbf h1 h3;subst e;obtain⟨f,hf,hc⟩:=bue.1 h2;exact⟨ly.1 hb,f,hf,(ajm ha).1 hc⟩
 rintro⟨h1,f,hf,h2⟩;exact⟨lb a,ly.2 h1,b6p ha,bue.2 ⟨f,hf,(ajm ha).2 h2⟩,by rw[j3 ha ha];simp⟩
end
end
section
open Go.Proofs
def bqv(n:Int)(ps:List AS):List AS:=if ps.length=0 then[a6 n]else ps.set (ps.length-1) (ps.getD (ps.length-1) default|||(a6 n&&&~~~(orL ps)))
end
section
def aco {r x:Row}:∀{l:List Row},x∈yo r l<->x=r\/x∈l
 | []=>by simp[yo]
 | y::l=>by
  simp only[yo];split
  · simp
  simp only[btd,aco (l:=l)];constructor
  · rintro(h|h|h)<;>simp[h]
  rintro(h|h|h)<;>simp[h]
def aaw{r:Row}:∀{l:List Row},yi l->(∀x∈l,x.id≠r.id)->yi (yo r l)
 | [],_,_=>by simp[yo,yi]
 | y :: l,hs,hn=>by
  have hs':=hs;unfold yi at hs';rw[btz]at hs';simp only[yo];split
  · rename_i h
    refine List.Pairwise.cons (fun x hx=>?_) hs
    rcases btd.1 hx with rfl|hx
    · exact h
    have:=hs'.1 x hx;omega
  rename_i h;refine List.Pairwise.cons (fun x hx=>?_) (aaw hs'.2 fun x hx=>hn x (by simp[hx]))
  rcases aco.1 hx with rfl|hx
  · have:=hn y bx8;omega
  exact hs'.1 x hx
section
variable {l:List Row}
def avv {id:Int} (h:j2 l id<0):∀x∈l,x.id≠id:=by
 intro x hx e;have h2:=ass (p:=fun r:Row=>decide (r.id=id)) (l:=l);have h3:(l.any fun r=>decide (r.id=id))=true:=by rw[bue];exact⟨x,hx,by simp[e]⟩
 rw[h3]at h2;simp only[decide_eq_true_eq]at h2;unfold j2 at h;omega
variable {t:Tbl}
def bkm {r:Row} (h:a0m t r=0):TOk (avl t r):=by
 obtain⟨h1,h2,h3,h4,h5,h6⟩:=b4q h;have hT:=s5.1 h1;rw[bfc h];refine⟨hT.nm,hT.na,by show(yo r t.rows).length<=1000;rw[apz];omega,hT.nms, ?_⟩;refine zi (fun x hx=>?_) (aaw (sh hT.rs) (avv h5))
 rcases aco.1 hx with rfl|hx
 · exact⟨h3,h2,h4⟩
 exact k6 hT.rs x hx
def b4g {i:Int} (h:a3k t i=0):ey t=0/\0<=j2 t.rows i:=by
 unfold a3k at h;split at h
 · omega
 split at h
 · exact⟨by omega,by assumption⟩
 omega
def bjw {i:Int} (h:a3k t i=0):TOk (av1 t i):=by
 have hT:=s5.1 (b4g h).1;rw[b9n h];have hsub:=List.eraseIdx_sublist t.rows (j2 t.rows i).toNat;refine⟨hT.nm,hT.na,by have:=hsub.length_le;have:=hT.nr;show(t.rows.eraseIdx _).length<=1000;omega,hT.nms, ?_⟩;exact zi (fun x hx=>k6 hT.rs x (hsub.subset hx)) (List.Pairwise.sublist hsub (sh hT.rs))
def ba4 {i a:Int} {v:Val} (h:a5d t i a v=0):ey t=0/\0<=j2 t.rows i/\0<=a/\a<t.attrs.length/\dy v=true:=by
 unfold a5d at h;split at h
 · omega
 split at h
 · omega
 split at h
 · omega
 split at h
 · omega
 rename_i h1 h2 h3 h4;exact⟨by omega,by omega,by omega,by omega,by simpa using h4⟩
def b35{i k:Nat}{v:Val}(hi:i<l.length):(a8w l i k v).map Row.id=l.map Row.id:=by
 unfold a8w;apply bvo;intro j;rw[btm,btm,List.getElem?_set];split
 · rename_i h
   subst h;rw[bt0 hi];simp[List.getD,bt0 hi]
 rfl
def afj:yi l<->(l.map Row.id).Pairwise (·<·):=by
 rw[List.pairwise_map]
def bhd{i a:Int}{v:Val}(h:a5d t i a v=0):TOk (av5 t i a v):=by
 obtain⟨h1,h2,h3,h4,h5⟩:=ba4 h;have hT:=s5.1 h1;have hix:(j2 t.rows i).toNat<t.rows.length:=by have:=bgn h2;rwa [show max (j2 t.rows i) 0=j2 t.rows i from by omega]at this
 rw[bb3 h];refine⟨hT.nm,hT.na,by show(a8w _ _ _ _).length<=1000;rw[b3p];exact hT.nr,hT.nms, ?_⟩;refine zi (fun x hx=>?_) (by rw[afj,b35 hix,<- afj];exact sh hT.rs);have hold:=k6 hT.rs _ (bti hix);have hgd:=dn _ _ hix;unfold a8w at hx
 rcases bvr hx with hx|rfl
 · exact k6 hT.rs x hx
 refine⟨by show 0<(t.rows.getD _ default).id;rw[hgd];exact hold.1,by show(List.set _ _ _).length=_;rw[buv,hgd];exact hold.2.1, ?_⟩;rw[btl];intro y hy
 rcases bvr hy with hy|rfl
 · rw [hgd]at hy
   exact btl.1 hold.2.2 y hy
 exact h5
def bhi {c:Chg} (h:afq t c=0):TOk (ad3 t c):=by
 unfold afq at h;unfold ad3;split at h
 · rename_i h2;rw[if_pos h2];exact bkm h
 rename_i h2;rw[if_neg h2];split at h
 · omega
 split at h
 · omega
 split at h
 · rename_i h3;rw[if_pos h3];exact bjw h
 rename_i h3;rw[if_neg h3];exact bhd h
def bo0{d:DB}{c:Chg}(hd:dbV d):dbV (a4l d c):=by
 by_cases he:md d c=0
 · unfold md at he
   split at he
   · rename_i h1
     split at he
     · omega
     obtain⟨g1,g2,g3⟩:=bcs he;have he':md d c=0:=by rw[aE2 h1 bxf];exact he
     rw[aD1 he' h1];refine⟨by simp;omega,fun j hj=>?_⟩;by_cases h:j<d.length
     · rw [show(d++[c.table]).getD j default=d.getD j default from by simp[List.getD,bvp h]]
       exact hd.2 j h
     obtain rfl:j=d.length:=by simp at hj;omega
     rw[show(d++[c.table]).getD d.length default=c.table from by simp[List.getD]];exact g1
   rename_i h1;split at he
   · omega
   split at he
   · omega
   rename_i h2 h3;have he':md d c=0:=by rw[aE5 bx5 h3];exact he
   rw[aD2 he' h1 rfl];refine⟨by rw[buv];exact hd.1,fun j hj=>?_⟩;rw[buv]at hj;by_cases h:j=(nc d c.name).toNat
   · subst h
     rw[show(d.set (nc d c.name).toNat (ad3 (xv d c.name) c)).getD (nc d c.name).toNat default=ad3 (xv d c.name) c from by simp[List.getD,hj]];exact s5.2 (bhi he)
   rw[show(d.set (nc d c.name).toNat (ad3 (xv d c.name) c)).getD j default=d.getD j default from by simp only[List.getD,List.getElem?_set_ne (Ne.symm h)]];exact hd.2 j hj
 rw[bj1 rfl he];exact hd
def dbV.ok{d:DB}(h:dbV d):bp1 d:=⟨by have:=h.1;omega,fun j hj=>az0 (h.2 j hj)⟩
def auc:dbV []:=⟨by simp,fun j hj=>by simp at hj⟩
def b1x:∀{l:List Chg} {d:DB},dbV d->dbV (ald d l)
 | [],d,h=>h
 | c::l,d,h=>by
  simp only[ald];split
  · exact auc
  exact b1x (bo0 h)
def jr(s:Stt):List Chg:=s.done.flatten++s.now
def ah1(s:Stt):DB:=ald [] (jr s)
def brz (s:Stt) (x:Opn):Chg :=
 let k:=x.kind.toNat%9
 if k=0 then { (default:Chg)with kind:=1,name:=ail x,table:=b88 x }
 else if nc (ah1 s) (ail x)<0 then default
 else
  let t:=xv (ah1 s) (ail x)
  if k=1 then { (default:Chg)with kind:=2,name:=t.name,row:=b92 x }
  else if ¬0<=j2 t.rows x.id then default
  else if k=2 then { (default:Chg)with kind:=3,name:=t.name,row:=t.rows.getD (max (j2 t.rows x.id) 0).toNat default }
  else { (default:Chg)with kind:=4,name:=t.name,row:=t.rows.getD (max (j2 t.rows x.id) 0).toNat default,attr:=x.attr,value:=ofV x.value }
def bqw (s:Stt) (x:Opn):Int :=
 let k:=x.kind.toNat%9
 if k=0 then afn (ah1 s) (b88 x)
 else if nc (ah1 s) (ail x)<0 then 4
 else
  let t:=xv (ah1 s) (ail x)
  if k=1 then a0m t (b92 x)
  else if ¬0<=j2 t.rows x.id then 4
  else if k=2 then 0
  else a5d t x.id x.attr (ofV x.value)
structure bj2 (s:Stt):Prop where
 ld:s.done.flatten.length<=68719476736
 ln:s.now.length<=68719476736
 lt:s.done.length<=68719476736
 lu:s.undone.length<=68719476736
 ok:bik (jr s)
structure brw (x:Opn):Prop where
 lv:x.vals.length<=68719476736
 lr:x.t.rows.length<=68719476736
def bj2.V{s:Stt}(_:bj2 s):dbV (ah1 s):=b1x auc
end
end
section
def bnx(n:Int)(d:Fd):Fd:=⟨d.lhs&&&a6 n,d.rhs&&&a6 n⟩
def brv(q:Fd->Bool)(n:Int)(l:List Fd)(i:Nat):List Fd:=((l.take i).map (bnx n)).filter q
section
variable {q:Fd->Bool}{n:Int}{l:List Fd}{i:Nat}
end
def bsu(s:AS)(l:List AS)(i:Nat):List AS:=(l.take i).map (·&&&s)++l.drop i
section
variable {s:AS}{l:List AS}{i:Nat}
end
end
section
def bge(t:Tbl)(d:Fd):Bool:=(List.range t.rows.length).all fun i=>(List.range t.rows.length).all fun k=>bip t d i k
def bsd(t:Tbl)(l:List Fd)(i:Nat):List Fd:=(l.take i).filter (bge t)
def bs4(t:Tbl)(l:List Fd):List Fd:=l.filter (bge t)
end
section
section
variable {n:Int}{p m:List Fd}{E:Int->Int->Prop}{R:Rw->Prop}
def br6(E:Int->Int->Prop)(R:Rw->Prop)(x b:AS):Prop:=∀a c,R a->R c->AgE E a c x->R (ij a c b)
end
section
variable {n:Int}{p m:List Fd}
end
end
section
def bsh(t:Tbl)(l:List Fd)(i:Nat):List Fd:=(l.take i).filter (mvB t)
def brx(t:Tbl)(l:List Fd):List Fd:=l.filter (mvB t)
end
section
abbrev rwp(r:Row):PV:=.vp 2 fun j=>[r.c 0,r.c 1].getD j .any
end
section
open Go.RowKit
abbrev j8:=Value->(Nat->Prop)->(Nat->Option Obj)->Prop
noncomputable def rst (bk:Nat->Prop) (h:Nat->Option Obj):Nat->Option Obj:=fun b=>by classical exact if bk b then h b else none
section
variable {bk:Nat->Prop}{h:Nat->Option Obj}
def aeg{b:Nat}(hb:bk b):rst bk h b=h b:=by unfold rst;exact if_pos hb
theorem adu {bk1:Nat->Prop} {w:World} (hs:∀b,bk1 b->bk b):rst bk1 (onB bk w)=onB bk1 w:=by
 funext b;by_cases hb:bk1 b
 · rw[aeg hb,ag1 hb,ag1 (hs b hb)]
 unfold rst onB
 grind
theorem a3g {bk1:Nat->Prop} (hs:∀b,bk1 b->bk b):rst bk1 (rst bk h)=rst bk1 h:=by
 funext b;by_cases hb:bk1 b
 · rw[aeg hb,aeg hb,aeg (hs b hb)]
 unfold rst
 grind
def Bag:List (Value×j8)->(Nat->Prop)->(Nat->Option Obj)->Prop
 | [],bk,_=>∀b,¬bk b
 |(v,R)::L,bk,h=>v.oneCell'=true/\∃bk1 bk2:Nat->Prop,(∀b,bk b<->bk1 b\/bk2 b)/\(∀b,bk1 b->bk2 b->False)/\R v bk1 (rst bk1 h)/\Bag L bk2 (rst bk2 h)
def qi(v:Value)(R:j8):j8:=fun u bk h=>u=v/\R u bk h
def jj(L:List (Value×j8)):j8:=fun _ bk h=>Bag L bk h
theorem Bag.swap {x y:Value×j8} {L:List (Value×j8)} (hb:Bag (x::y::L) bk h):Bag (y::x::L) bk h:=by
 obtain⟨v,R⟩:=x;obtain⟨v2,R2⟩:=y;obtain⟨h1,b1,b2,i1,d1,r1,h2,b3,b4,i2,d2,r2,hL⟩:=hb;have s3:∀b,b3 b->b2 b:=fun b hb=>(i2 b).2 (.inl hb);have s4:∀b,b4 b->b2 b:=fun b hb=>(i2 b).2 (.inr hb);rw[a3g s3]at r2;rw[a3g s4]at hL;refine⟨h2,b3,fun b=>b1 b\/b4 b,fun b=>?_,fun b hb3 hb=>?_,r2,h1,b1,b4,fun b=>Iff.rfl,fun b hb1 hb4=>d1 b hb1 (s4 b hb4), ?_, ?_⟩
 · grind
 · grind
 · rw[a3g fun b hb=>.inl hb];exact r1
 rw[a3g fun b hb=>.inr hb];exact hL
theorem Bag.snoc {x:Value×j8}:∀{L:List (Value×j8)} {bk:Nat->Prop} {h:Nat->Option Obj},Bag (x::L) bk h->Bag (L++[x]) bk h
 | [],_,_,hb=>hb
 | y::L,bk,h,hb=>by
  obtain⟨v,R⟩:=y;obtain⟨h1,b1,b2,i1,d1,r1,hL⟩:=hb.swap;exact⟨h1,b1,b2,i1,d1,r1,Bag.snoc hL⟩
end
section
variable {w0:World}{nt:Nat}{c:Ctx}{s:S}{a:Act}{w:World}
section
variable {e1:TypeId}{id n1 s1:Nat}
theorem ah.bagIn (h:ah w0 nt c s a w) {idb s2 n2:Nat} {e2:TypeId} {v:Value} {R:j8} {L:List (Value×j8)} (ho:s.o id=some (.opq s1 e1 n1 (qi v R))) (hob:s.o idb=some (.opq s2 e2 n2 (jj L))) (hne:idb≠id) (hid:id<1000) (hidb:idb<1000):
 ∃c',c'.old=c.old/\ah w0 nt c' ⟨s.t,fun q=>if q=id then none else if q=idb then some (.opq s2 e2 n2 (jj (L++[(v,R)])))else s.o q⟩ a w:=by
 obtain⟨a1,a2,a3,a4⟩:=h.objs id _ ho;obtain⟨b1,b2,b3⟩:=h.objs idb _ hob
 let bk:Nat->Prop:=fun b=>c.blk id b\/c.blk idb b
 let o':ar:=fun q=>if q=id then none else if q=idb then some (.opq s2 e2 n2 (jj (L++[(v,R)])))else s.o q
 have ob1:o' id=none:=if_pos rfl;have ob2:o' idb=some (.opq s2 e2 n2 (jj (L++[(v,R)]))):=(if_neg hne).trans (if_pos rfl);refine⟨{ old:=c.old,imm:=c.imm,tab:=c.tab,own:=c.own,blk:=fun q=>if q=idb then bk else c.blk q,rows:=c.rows },rfl,h.redo (fun q=>q=id\/q=idb) _ _ _ o' ?_ ?_ ?_ ?_ ?_ ?_⟩
 · grind
 · grind
 · rintro q (rfl|rfl)
   · exact .inr (.inl ob1)
   exact .inr (.inr (.inr ⟨_,_,s2,e2,n2,n2,hob,rfl,ob2,rfl,bt2 _,fun _=>rfl,fun _ _ _ _ _ _ _ hb=>by cases hb⟩))
 · rintro q ob (rfl|rfl) hq
   · grind
   rw[ob2]at hq;cases hq;have hbk:(fun q'=>if q'=q then bk else c.blk q') q=bk:=if_pos rfl;refine⟨?_,b2, ?_⟩
   · grind
   show jj _ _ ((fun q'=>if q'=q then bk else c.blk q') q) (onB ((fun q'=>if q'=q then bk else c.blk q') q) w);rw[hbk];refine Bag.snoc ⟨by rw[<- a3];exact a2,c.blk id,c.blk q,fun b=>Iff.rfl,fun b hb1 hb2=>hne (h.inj _ _ _ _ b hob ho hb2 hb1), ?_, ?_⟩
   · rw[adu fun b hb=>.inl hb,<- a3];exact a4
   rw[adu fun b hb=>.inr hb];exact b3
 · rintro q ob b (rfl|rfl) hq hb
   · grind
   grind
 grind
theorem ah.bagOut (h:ah w0 nt c s a w) {idb s2 n2:Nat} {e2:TypeId} (s1 n1:Nat) (e1:TypeId) {v:Value} {R:j8} {L:List (Value×j8)} (hob:s.o idb=some (.opq s2 e2 n2 (jj ((v,R)::L)))) (hidb:idb<1000) (hm:NM s id) (hn:s.o id=none):
 ∃c',c'.old=c.old/\ah w0 nt c' ⟨s.t,fun q=>if q=id then some (.opq s1 e1 n1 (qi v R))else if q=idb then some (.opq s2 e2 n2 (jj L))else s.o q⟩ a w:=by
 have hne:idb≠id:=by rintro rfl;rw[hob]at hn;cases hn
 obtain⟨b1,b2,hv1,k1,k2,ki,kd,kR,kL⟩:=h.objs idb _ hob;have s1':∀b,k1 b->c.blk idb b:=fun b hb=>(ki b).2 (.inl hb);have s2':∀b,k2 b->c.blk idb b:=fun b hb=>(ki b).2 (.inr hb);rw[adu s1']at kR;rw[adu s2']at kL
 let o':ar:=fun q=>if q=id then some (.opq s1 e1 n1 (qi v R))else if q=idb then some (.opq s2 e2 n2 (jj L))else s.o q
 have ob1:o' id=some (.opq s1 e1 n1 (qi v R)):=if_pos rfl;have ob2:o' idb=some (.opq s2 e2 n2 (jj L)):=(if_neg hne).trans (if_pos rfl)
 let blk':Nat->Nat->Prop:=fun q=>if q=id then k1 else if q=idb then k2 else c.blk q
 let own':Nat->Value:=fun q=>if q=id then v else c.own q
 have bk1:blk' id=k1:=if_pos rfl;have bk2:blk' idb=k2:=(if_neg hne).trans (if_pos rfl);have ow1:own' id=v:=if_pos rfl;have ow2:own' idb=c.own idb:=if_neg hne;refine⟨{ old:=c.old,imm:=c.imm,tab:=c.tab,own:=own',blk:=blk',rows:=c.rows },rfl,h.redo (fun q=>q=id\/q=idb) own' blk' c.rows o' ?_ ?_ ?_ ?_ ?_ ?_⟩
 · rintro q (rfl|rfl)
   · exact hm.2.2
   exact hidb
 · grind
 · rintro q (rfl|rfl)
   · exact .inl ⟨hm.1,fun id0 ob _ h0=>hm.2.1 id0 ob h0⟩
   exact .inr (.inr (.inr ⟨_,_,s2,e2,n2,n2,hob,rfl,ob2,rfl,bt2 _,fun _=>ow2,fun _ _ _ _ _ _ _ hb=>by cases hb⟩))
 · rintro q ob (rfl|rfl) hq
   · rw [ob1]at hq
     cases hq;refine⟨?_, ?_, ?_⟩
     · grind
     · grind
     show qi v R (own' q) (blk' q) (onB (blk' q) w);rw[bk1,ow1];exact⟨rfl,kR⟩
   rw[ob2]at hq;cases hq;refine⟨?_, ?_, ?_⟩
   · grind
   · grind
   show jj L (own' q) (blk' q) (onB (blk' q) w);rw[bk2];exact kL
 · grind
 grind
theorem ah.pin (h:ah w0 nt c s a w) {R:j8} (ho:s.o id=some (.opq s1 e1 n1 R)) (hid:id<1000):
 (c.own id).oneCell'=true/\ah w0 nt c ⟨s.t,fun q=>if q=id then some (.opq s1 e1 n1 (qi (c.own id) R))else s.o q⟩ a w:=by
 obtain⟨a1,a2,a3⟩:=h.objs id _ ho;have ob1:(fun q=>if q=id then some (aa.opq s1 e1 n1 (qi (c.own id) R))else s.o q) id=some (.opq s1 e1 n1 (qi (c.own id) R)):=if_pos rfl;refine⟨a2,h.redo (fun q=>q=id) c.own c.blk c.rows _ ?_ ?_ ?_ ?_ ?_ ?_⟩
 · grind
 · grind
 · rintro q rfl
   exact .inr (.inr (.inr ⟨_,_,s1,e1,n1,n1,ho,rfl,ob1,rfl,bt2 _,fun _=>rfl,fun _ _ _ _ _ _ _ hb=>by cases hb⟩))
 · rintro q ob rfl hq
   rw[if_pos rfl]at hq;cases hq;exact⟨a1,a2,rfl,a3⟩
 · grind
 grind
def JSl (s:Nat) (e:TypeId) (m:Nat) (g:Nat->Nat->PV):j8:=fun v bk h=>(m=0/\(∃a,v=.slice a 0 0)/\∀b,¬bk b) \/
 ∃b cap cur,v=.slice (some ⟨b,0,none⟩) m cap/\0<cap/\(∀b',bk b'<->b'=b)/\h b=some (.cells cur e (0,0))/\m<=cap/\cap<=maxLen/\cur.size=cap*s/\∀i j,i<m->j<s->∃x,cur[i*s+j]? = some x/\au (fun _=>none) (g i j) x
def air:PV->Bool
 | .raw _=>true
 | .any=>true
 |_=>false
def ap7 {m m':Imm} {x:PV} {u:Value} (h:air x=true) (hr:au m x u):au m' x u:=by
 cases x<;>first|exact hr|cases h
theorem ah.arrOpq (h:ah w0 nt c s a w) {f:Nat->Nat->PV} (ho:s.o id=some (.arr true s1 e1 n1 f)) (hf:∀i j,i<n1->j<s1->air (f i j)=true) (hid:id<1000):
 ∃c',c'.old=c.old/\ah w0 nt c' ⟨s.t,fun q=>if q=id then some (.opq s1 e1 n1 (JSl s1 e1 n1 f))else s.o q⟩ a w:=by
 obtain⟨a1,a2,a3⟩:=h.objs id _ ho
 have key:∃bk:Nat->Prop,(∀b,bk b->c.blk id b)/\(∀b,bk b->0<=b/\∃x,w.heap[b]? = some x/\up x=true)/\(c.own id).oneCell'=true/\JSl s1 e1 n1 f (c.own id) bk (onB bk w):=by
  rcases a3 with⟨hblk,xs,hrow,hcell⟩|⟨hz,hb,hsl⟩
  · rcases gw hrow with⟨hm0,a0,hv⟩|⟨b,cap,hv,hcb⟩
    · exact⟨fun _=>False,fun _ hb=>hb.elim,fun _ hb=>hb.elim,by rw[hv];rfl, .inl ⟨hm0,⟨a0,hv⟩,fun _ hb=>hb⟩⟩
    have hcap:0<cap:=by
     rcases buz cap with h0|h0
     · subst h0;rw[hv]at hcb;simp[b7]at hcb
     exact h0
    rcases hrow.2 with⟨hv',_⟩|⟨b',cap',cur,hv',_,hh,q1,q2,q3,q4⟩
    · grind
    rw[hv]at hv';simp only[Value.slice.injEq,bsy,Addr.mk.injEq,and_true,true_and]at hv';obtain⟨rfl,rfl⟩:=hv';refine⟨fun b''=>b''=b,fun b'' hb=>by subst hb;rw[hblk,hv];rfl,fun b'' hb=>by subst hb;exact⟨bt6 _,_,hh,rfl⟩,by rw[hv];rfl, .inr ⟨b,cap,cur,hv,hcap,fun _=>Iff.rfl,by rw[ag1 (bk:=fun b''=>b''=b) rfl];exact hh,q1,q2,q3,fun i j hi hj=>?_⟩⟩;obtain⟨x,hx,hr⟩:=hcell i j hi hj
    have hlt:i*s1+j<n1*s1:=by
     grind
    rw[<- q4,bug,if_pos hlt,bv9]at hx;exact⟨x,hx,ap7 (hf i j hi hj) hr⟩
  obtain rfl:n1=0:=by rcases hz with hz|hz;cases hz;exact hz
  obtain⟨a0,cap,e1,_,_,e2,_⟩:=hsl;obtain rfl:=e2 rfl;exact⟨fun _=>False,fun _ hb=>hb.elim,fun _ hb=>hb.elim,by rw[e1];rfl, .inl ⟨rfl,⟨a0,e1⟩,fun _ hb=>hb⟩⟩
 obtain⟨bk,k1,k2,k3,k4⟩:=key;have ob1:(fun q=>if q=id then some (aa.opq s1 e1 n1 (JSl s1 e1 n1 f))else s.o q) id=some (.opq s1 e1 n1 (JSl s1 e1 n1 f)):=if_pos rfl;refine⟨{ old:=c.old,imm:=c.imm,tab:=c.tab,own:=c.own,blk:=fun q=>if q=id then bk else c.blk q,rows:=c.rows },rfl,h.redo (fun q=>q=id) _ _ _ _ ?_ ?_ ?_ ?_ ?_ ?_⟩
 · grind
 · grind
 · rintro q rfl
   exact .inr (.inr (.inr ⟨_,_,s1,e1,n1,n1,ho,rfl,ob1,rfl,bt2 _,fun _=>rfl,fun _ _ _ _ _ _ _ hb=>by cases hb⟩))
 · rintro q ob rfl hq
   rw[if_pos rfl]at hq;cases hq;have hbk:(fun q'=>if q'=q then bk else c.blk q') q=bk:=if_pos rfl;refine⟨?_,k3, ?_⟩
   · grind
   grind
 · grind
 grind
theorem ah.opqArr(h:ah w0 nt c s a w){f:Nat->Nat->PV}(ho:s.o id=some (.opq s1 e1 n1 (JSl s1 e1 n1 f)))(hs:0<s1)(hmax:n1<=maxLen)(hid:id<1000)(hf:∀i j,i<n1->j<s1->air (f i j)=true):
 ah w0 nt c ⟨s.t,fun q=>if q=id then some (.arr true s1 e1 n1 f)else s.o q⟩ a w:=by
 obtain⟨a1,a2,a3⟩:=h.objs id _ ho;have ob1:(fun q=>if q=id then some (aa.arr true s1 e1 n1 f)else s.o q) id=some (.arr true s1 e1 n1 f):=if_pos rfl;refine h.redo (fun q=>q=id) c.own c.blk c.rows _ ?_ ?_ ?_ ?_ ?_ ?_
 · grind
 · grind
 · rintro q rfl
   exact .inr (.inr (.inr ⟨_,_,s1,e1,n1,n1,ho,rfl,ob1,rfl,bt2 _,fun _=>rfl,fun _ _ _ _ _ _ _ hb=>by cases hb⟩))
 · rintro q ob rfl hq
   rw[if_pos rfl]at hq;cases hq;refine⟨hs,hmax, ?_⟩
   rcases a3 with⟨h0,⟨a0,hv⟩,hb⟩|⟨b,cap,cur,hv,h0,hbk,hh,h3,h4,h5,h6⟩
   · refine .inr ⟨.inr h0, ?_, ?_⟩
     · show c.blk q=noB
       funext b;exact propext ⟨fun hx=>(hb b hx).elim,fun hx=>hx.elim⟩
     show au c.imm _ (c.own q);rw[hv];subst h0;exact⟨a0,0,rfl,bt2 _,bt6 _,fun _=>rfl,fun hx=>absurd hx (bvy _)⟩
   rw[ag1 ((hbk b).2 rfl)]at hh;refine .inl ⟨?_,cur.toList.take (n1*s1), ?_,fun i j hi hj=>?_⟩
   · show c.blk q=fm (c.own q)
     funext b';rw[hv];exact propext ((hbk b').trans (by simp[fm,ct,eq_comm]))
   · show w.ownsRow 0 e1 s1 (c.own q) n1 _
     refine⟨?_, .inr ⟨b,cap,cur,hv,bt6 _,hh,h3,h4,h5,rfl⟩⟩;simp_all
   obtain⟨x,hx,hr⟩:=h6 i j hi hj
   have hlt:i*s1+j<n1*s1:=by
    have:(i+1)*s1<=n1*s1:=bte _ bx5
    grind
   exact⟨x,by rw[bug,if_pos hlt,bv9];exact hx,ap7 (hf i j hi hj) hr⟩
 · grind
 grind
def JP (s:Nat) (e:TypeId) (n:Nat) (P:(Nat->Nat->PV)->List (Value×j8)->Prop):j8:=fun v bk h=>∃f L,P f L/\(∀i j,i<n->j<s->air (f i j)=true) /\
 ∃bk1 bk2:Nat->Prop,(∀b,bk b<->bk1 b\/bk2 b)/\(∀b,bk1 b->bk2 b->False)/\JSl s e n f v bk1 (rst bk1 h)/\Bag L bk2 (rst bk2 h)
theorem ah.bagNew (h:ah w0 nt c s a w) {idb:Nat} (hm:NM s idb) (hn:s.o idb=none):∃c',c'.old=c.old/\ah w0 nt c' ⟨s.t,fun q=>if q=idb then some (.opq 0 0 0 (jj []))else s.o q⟩ a w:=by
 refine⟨{ old:=c.old,imm:=c.imm,tab:=c.tab,own:=fun q=>if q=idb then .bool false else c.own q,blk:=fun q=>if q=idb then noB else c.blk q,rows:=c.rows },rfl,h.redo (fun q=>q=idb) _ _ _ _ ?_ ?_ ?_ ?_ ?_ ?_⟩
 · rintro q rfl;exact hm.2.2
 · grind
 · rintro q rfl
   exact .inl ⟨hm.1,fun id0 ob _ h0=>hm.2.1 id0 ob h0⟩
 · rintro q ob rfl hq
   rw[if_pos rfl]at hq;cases hq;have hbk:(fun q'=>if q'=q then noB else c.blk q') q=noB:=if_pos rfl;have how:(fun q'=>if q'=q then Value.bool false else c.own q') q=.bool false:=if_pos rfl;refine⟨?_, ?_, ?_⟩
   · show ∀b,(fun q'=>if q'=q then noB else c.blk q') q b->_
     rw[hbk];exact fun b hb=>hb.elim
   · show ((fun q'=>if q'=q then Value.bool false else c.own q') q).oneCell'=true
     rw[how];rfl
   show jj [] _ ((fun q'=>if q'=q then noB else c.blk q') q) _;rw[hbk];exact fun b hb=>hb
 · rintro q ob b rfl hq hb
   rw[if_pos rfl]at hb;exact hb.elim
 grind
end
end
def wt(o:ar)(x y:HV):Prop:=x=y\/∃id s n e v R,o id=some (.opq s e n (qi v R))/\((x=.ref id n/\y=.p (.raw v))\/(x=.p (.raw v)/\y=.ref id n))
def a92 (o:ar):List HV->List HV->Prop
 | [],[]=>True
 |x::xs,y::ys=>wt o x y/\a92 o xs ys
 |_,_=>False
def bn1 (o:ar):HC->HC->Prop
 | .one x, .one y=>wt o x y
 | .agg l, .agg m=>a92 o l m
 |_,_=>False
def awp (o:ar):HR->HR->Prop
 | .v x, .v y=>bn1 o x y
 |_,_=>False
def wt.to{o:ar}{id s n:Nat}{e:TypeId}{v:Value}{R:j8}(h:o id=some (.opq s e n (qi v R))):wt o (.ref id n) (.p (.raw v)):=.inr ⟨id,s,n,e,v,R,h, .inl ⟨rfl,rfl⟩⟩
def wt.from{o:ar}{id s n:Nat}{e:TypeId}{v:Value}{R:j8}(h:o id=some (.opq s e n (qi v R))):wt o (.p (.raw v)) (.ref id n):=.inr ⟨id,s,n,e,v,R,h, .inr ⟨rfl,rfl⟩⟩
section
variable {w0:World}{nt:Nat}{c:Ctx}{s:S}{a:Act}{w:World}
theorem wt.rep (h:ah w0 nt c s a w) {x y:HV} {u:Value} (hs:wt s.o x y) (hr:bh c s.o x u):bh c s.o y u:=by
 rcases hs with rfl|⟨id,s1,n,e,v,R,ho,⟨rfl,rfl⟩|⟨rfl,rfl⟩⟩
 · exact hr
 · obtain ⟨_,h1,h2,_⟩:=h.objs id _ ho
   obtain⟨h3,_,h4⟩:=hr;have h5:=(h4 _ _ _ _ ho rfl).2 rfl;exact⟨h5.trans h2,by rw[<- h2];exact h1⟩
 obtain⟨_,h1,h2,_⟩:=h.objs id _ ho;obtain⟨h3,_⟩:=hr;refine⟨by rw[h3,<- h2];exact h1,fun l hl=>(by rw[ho]at hl;cases hl),fun ob2 s2 e2 n2 ho2 hd2=>?_⟩;rw[ho]at ho2;cases ho2;simp only[aa.dim,bsy,bt7]at hd2
 grind
def a92.rep (h:ah w0 nt c s a w):∀{x y:List HV} {u:List Value},a92 s.o x y->bf c s.o x u->bf c s.o y u
 | [],[],_,_,hr=>hr
 |_::_,_::_,_::_,hs,hr=>⟨hs.1.rep h hr.1,a92.rep h hs.2 hr.2⟩
 | [],_::_,_,hs,_=>hs.elim
 |_::_,[],_,hs,_=>hs.elim
 |_::_,_::_,[],_,hr=>hr.elim
def awp.rep (h:ah w0 nt c s a w) {x y:HR} {u:Value} (hs:awp s.o x y) (hr:aq c s.o x u):aq c s.o y u:=by
 match x,y,hs with
 | .v (.one x), .v (.one y),hs=>exact wt.rep h hs hr
 | .v (.agg l), .v (.agg m),hs =>
  obtain⟨us,e,hl⟩:=hr;exact⟨us,e,a92.rep h hs hl⟩
end
section
variable {w0:World}{nt:Nat}{c:Ctx}{s:S}{a:Act}{w:World}
end
section
variable {ro:Option Nat}{P:Program}{nt:Nat}{co:Code}{st:HSt}{Q:HSt->Prop}
def a9o (d:Nat) {x:HR} (y:HR) (hx:b5 st.t d=some x) (hs:awp st.den.o x y) (h:HE nt ⟨(d,some y)::st.t,st.o⟩ Q):HE nt st Q :=
 apq st d y (fun w0 m0 a w hr0=>by
  obtain⟨cc,hold,hrr⟩:=hr0
  exact⟨cc,hold,hrr,hs.rep hrr (hrr.tmps d x hx)⟩) h
def ayh (idb:Nat) (h:HE nt ⟨st.t,(idb,some (.opq 0 0 0 (jj [])))::st.o⟩ Q) (hn:ku idb st=true:=by exact rfl):HE nt st Q:=fun w0 m0 a w hr0=>by
 obtain⟨cc,hold,hrr⟩:=hr0;obtain⟨hm,hn⟩:=f3 hn;obtain⟨c',q1,q2⟩:=hrr.bagNew hm hn;refine h w0 m0 a w ⟨c',q1.trans hold, ?_⟩;rw[rh (o':=fun q=>if q=idb then some (.opq 0 0 0 (jj []))else st.den.o q) (fun q=>by simp only[ay];rfl)];exact q2
section
variable {e1:TypeId}{n1 s1:Nat}
def alx (id idb:Nat) {s2 n2:Nat} {e2:TypeId} {v:Value} {R:j8} {L:List (Value×j8)} (ho:b5 st.o id=some (.opq s1 e1 n1 (qi v R))) (hob:b5 st.o idb=some (.opq s2 e2 n2 (jj L))) (h:HE nt ⟨st.t,(id,none)::(idb,some (.opq s2 e2 n2 (jj (L++[(v,R)]))))::st.o⟩ Q) (hid:(Nat.blt id 1000&&Nat.blt idb 1000&&!Nat.beq idb id)=true:=by exact rfl):HE nt st Q:=fun w0 m0 a w hr0=>by
 obtain⟨cc,hold,hrr⟩:=hr0;simp only[bt3,bvk,btv]at hid;obtain⟨c',q1,q2⟩:=hrr.bagIn ho hob (fun e=>by subst e;simp at hid) hid.1.1 hid.1.2;refine h w0 m0 a w ⟨c',q1.trans hold, ?_⟩;rw[rh (o':=fun q=>if q=id then none else if q=idb then some (.opq s2 e2 n2 (jj (L++[(v,R)])))else st.den.o q) (fun q=>by simp only[ay];rfl)];exact q2
def ajy (id idb s1 n1:Nat) (e1:TypeId) {s2 n2:Nat} {e2:TypeId} {v:Value} {R:j8} {L:List (Value×j8)} (hob:b5 st.o idb=some (.opq s2 e2 n2 (jj ((v,R)::L))))
 (h:HE nt ⟨st.t,(id,some (.opq s1 e1 n1 (qi v R)))::(idb,some (.opq s2 e2 n2 (jj L)))::st.o⟩ Q) (hid:Nat.blt idb 1000=true:=by exact rfl) (hn:ku id st=true:=by exact rfl):HE nt st Q:=fun w0 m0 a w hr0=>by
 obtain⟨cc,hold,hrr⟩:=hr0;simp only[bvk]at hid;obtain⟨hm,hn⟩:=f3 hn;obtain⟨c',q1,q2⟩:=hrr.bagOut s1 n1 e1 hob hid hm hn;refine h w0 m0 a w ⟨c',q1.trans hold, ?_⟩;rw[rh (o':=fun q=>if q=id then some (.opq s1 e1 n1 (qi v R))else if q=idb then some (.opq s2 e2 n2 (jj L))else st.den.o q) (fun q=>by simp only[ay];rfl)];exact q2
def ayt (id:Nat) {R:j8} (ho:b5 st.o id=some (.opq s1 e1 n1 R)) (h:∀v,v.oneCell'=true->HE nt ⟨st.t,(id,some (.opq s1 e1 n1 (qi v R)))::st.o⟩ Q) (hid:Nat.blt id 1000=true:=by exact rfl):HE nt st Q:=fun w0 m0 a w hr0=>by
 obtain⟨cc,hold,hrr⟩:=hr0;simp only[bvk]at hid;obtain⟨q1,q2⟩:=hrr.pin ho hid;refine h (cc.own id) q1 w0 m0 a w ⟨cc,hold, ?_⟩;rw[rh (o':=fun q=>if q=id then some (.opq s1 e1 n1 (qi (cc.own id) R))else st.den.o q) (fun q=>by simp only[ay];rfl)];exact q2
def ajo (id:Nat) {f:Nat->Nat->PV} (ho:b5 st.o id=some (.arr true s1 e1 n1 f)) (hf:∀i j,i<n1->j<s1->air (f i j)=true) (h:HE nt ⟨st.t,(id,some (.opq s1 e1 n1 (JSl s1 e1 n1 f)))::st.o⟩ Q) (hid:Nat.blt id 1000=true:=by exact rfl):HE nt st Q:=fun w0 m0 a w hr0=>by
 obtain⟨cc,hold,hrr⟩:=hr0;simp only[bvk]at hid;obtain⟨c',q1,q2⟩:=hrr.arrOpq ho hf hid;refine h w0 m0 a w ⟨c',q1.trans hold, ?_⟩;rw[rh (o':=fun q=>if q=id then some (.opq s1 e1 n1 (JSl s1 e1 n1 f))else st.den.o q) (fun q=>by simp only[ay];rfl)];exact q2
def akd (id:Nat) {f:Nat->Nat->PV} (ho:b5 st.o id=some (.opq s1 e1 n1 (JSl s1 e1 n1 f))) (hs:0<s1) (hmax:n1<=maxLen) (hf:∀i j,i<n1->j<s1->air (f i j)=true) (h:HE nt ⟨st.t,(id,some (.arr true s1 e1 n1 f))::st.o⟩ Q) (hid:Nat.blt id 1000=true:=by exact rfl):HE nt st Q:=fun w0 m0 a w hr0=>by
 obtain⟨cc,hold,hrr⟩:=hr0;simp only[bvk]at hid;have q2:=hrr.opqArr ho hs hmax hid hf;refine h w0 m0 a w ⟨cc,hold, ?_⟩;rw[rh (o':=fun q=>if q=id then some (.arr true s1 e1 n1 f)else st.den.o q) (fun q=>by simp only[ay];rfl)];exact q2
end
end
theorem Bag.mem {v:Value} {R:j8}:∀{L:List (Value×j8)} {bk:Nat->Prop} {h:Nat->Option Obj},Bag L bk h->(v,R)∈L->∃bk1:Nat->Prop,(∀b,bk1 b->bk b)/\R v bk1 (rst bk1 h)
 | [],_,_,_,hm=>by cases hm
 | (v',R')::L,bk,h,hb,hm=>by
  obtain⟨_,b1,b2,hi,_,hR,hL⟩:=hb
  rcases btd.1 hm with e|hm
  · grind
  obtain⟨b3,q1,q2⟩:=Bag.mem hL hm;refine⟨b3,fun b hx=>(hi b).2 (.inr (q1 b hx)), ?_⟩;rw[a3g q1]at q2;exact q2
theorem JSl.rep {s m:Nat} {e:TypeId} {g:Nat->Nat->PV} {v:Value} {bk:Nat->Prop} {h:Nat->Option Obj} {im:Imm} (hj:JSl s e m g v bk h) (hi:∀b x,bk b->h b=some x->im b=some x):au im (.sl m s false g) v:=by
 rcases hj with⟨h0,⟨a,hv⟩,_⟩|⟨b,cap,cur,hv,h0,hbk,hh,h3,h4,h5,h6⟩
 · subst h0
   exact⟨a,0,hv,bt2 _,bt6 _,(fun hx=>by cases hx),fun hx=>absurd hx (bvy _)⟩
 refine⟨some ⟨b,0,none⟩,cap,hv,h3,h4,(fun hx=>by cases hx),fun _=>⟨b,0,rfl,fun i j hi' hj'=>?_⟩⟩;obtain⟨x,hx,hr⟩:=h6 i j hi' hj';refine⟨x, ?_,au.mono (fun b x hb=>by cases hb) hr⟩;unfold ju
 grind
section
variable {w0:World}{nt:Nat}{c:Ctx}{s:S}{a:Act}{w:World}
end
section
variable {ro:Option Nat}{P:Program}{nt:Nat}{co:Code}{st:HSt}{Q:HSt->Prop}
end
end
section
open Go.RowKit
def t7{nt:Nat}{st:HSt}{Q:HSt->Prop}(x:Nat)(ob':aa){ob:aa}(ho:b5 st.o x=some ob)(hc:CoO ob ob')(h:HE nt ⟨st.t,(x,some ob')::st.o⟩ Q):HE nt st Q:=fun w0 m0 a w hr=>by
 obtain⟨cc,hold,hrr⟩:=hr;refine h w0 m0 a w ⟨cc,hold,hrr.relax _ (fun d y hy=>⟨y,hy,CoR.refl _⟩) fun id ob2 ho2=>?_⟩;simp only[HSt.den,ay]at ho2;by_cases hk:id=x
 · subst hk
   rw[if_pos rfl]at ho2;simp only[bsy]at ho2;subst ho2;exact⟨ob,ho,hc⟩
 rw[if_neg hk]at ho2;exact⟨ob2,ho2,CoO.refl _⟩
def a3p {nt:Nat} {st:HSt} {Q:HSt->Prop} (d:Nat) (y:HR) {x:HR} (hx:b5 st.t d=some x) (hc:CoR x y) (h:HE nt ⟨(d,some y)::st.t,st.o⟩ Q):HE nt st Q :=
 apq st d y (fun w0 m0 a w hr=>by
  obtain⟨cc,hold,hrr⟩:=hr
  exact⟨cc,hold,hrr,aq.co hc (hrr.tmps d x hx)⟩) h
def aud:CoR (.v (.one (.p (.raw (.slice none 0 0))))) (bp (.sl 0 0 true fun _ _=>.any)):=by
 show CoP _ _;intro m u h;obtain⟨e,_⟩:=h;subst e;exact nj m (.slice none 0 0) rfl
section
variable {v:Value}
def bb4 (h:v.oneCell'=true):vHC v=.one (.p (.raw v)):=by
 cases v<;>first|rfl|(simp[Value.oneCell']at h)
variable {L':List (Value×j8)}
theorem Bag.perm {L:List (Value×j8)} (hp:L.Perm L'):∀{bk:Nat->Prop} {h:Nat->Option Obj},Bag L bk h->Bag L' bk h:=by
 induction hp with
 |nil=>exact fun hb=>hb
 | cons x _ ih =>
  intro bk h hb;obtain⟨v,R⟩:=x;obtain⟨h1,b1,b2,i1,d1,r1,hL⟩:=hb;exact⟨h1,b1,b2,i1,d1,r1,ih hL⟩
 |swap x y l=>exact fun hb=>hb.swap
 |trans _ _ ih1 ih2=>exact fun hb=>ih2 (ih1 hb)
def an8{L:List (Value×j8)}(hp:L.Perm L'):CoO (.opq 0 0 0 (jj L)) (.opq 0 0 0 (jj L')):=⟨rfl,rfl,rfl,fun v bk h hb=>Bag.perm hp hb⟩
def azg{s n:Nat}{e:TypeId}{R:j8}:CoO (.opq s e n (qi v R)) (.opq s e n R):=⟨rfl,rfl,rfl,fun u bk h hb=>hb.2⟩
abbrev BP:=List (AS×List Nat)
abbrev BG:=List (AS×List Nat×Value)
def lkP(s:AS)(H:BP):List Nat:=((H.find? fun h=>decide (h.1=s)).map (·.2)).getD []
def erP(s:AS)(H:BP):BP:=H.filter fun h=>!decide (h.1=s)
def upP(a:Nat)(H:BP)(s:AS):BP:=erP s H++[(s,lkP s H++[a])]
def bdJ(a:Nat)(l:List AS)(H:BP)(j:Nat):BP:=(l.take j).foldl (upP a) H
def bdT(q:List Int)(n a:Nat):BP:=(List.range a).foldl (fun H b=>bdJ b (mnL q n b) H (mnL q n b).length) []
def mkF(s:AS)(a:Nat):Fd:=⟨s,(1:AS)<<<a⟩
def bdX(x:BP×List Fd)(s:AS):BP×List Fd:=(erP s x.1,x.2++(lkP s x.1).map (mkF s))
def bdR(H:BP)(l:List AS)(i:Nat):BP×List Fd:=(l.take i).foldl bdX (H,[])
def bft(q:List Int)(n:Nat):List Fd:=(bdR (bdT q n n) (ord (fmS q n n)) (ord (fmS q n n)).length).2
variable {a:Nat}{l:List AS}
def aql {j:Nat} {H:BP} (hj:j<l.length):bdJ a l H (j+1)=upP a (bdJ a l H j) (l.getD j default):=by
 unfold bdJ;rw[aj hj,btr];rfl
def b3h {q:List Int} {n:Nat}:bdT q n (a+1)=bdJ a (mnL q n a) (bdT q n a) (mnL q n a).length:=by
 unfold bdT;rw[bu3,btr];rfl
def x4 {H:BP} {i:Nat} (hi:i<l.length):bdR H l (i+1)=bdX (bdR H l i) (l.getD i default):=by
 unfold bdR;rw[aj hi,btr];rfl
def aq9 {q:List Int} {n:Nat}:fmS q n (a+1)=fmS q n a++mnL q n a:=by
 unfold fmS;rw[bu3,btr];rfl
def prG(G:BG):BP:=G.map fun g=>(g.1,g.2.1)
def erG(s:AS)(G:BG):BG:=G.filter fun g=>!decide (g.1=s)
def yr(G:BG):List (Value×j8):=G.map fun g=>(g.2.2,JSl 1 3 g.2.1.length (lf iC g.2.1))
variable {G:BG}{s:AS}
def avh:prG (erG s G)=erP s (prG G):=by
 unfold prG erG erP;rw[List.filter_map];rfl
def arv (h:∀g∈G,g.1≠s):erG s G=G:=by
 unfold erG;refine List.filter_eq_self.2 fun g hg=>?_;simp[h g hg]
theorem bdg (h:∀g∈G,g.1≠s):lkP s (prG G)=[]:=by
 unfold lkP prG;rw[bva.2 fun x hx=>?_]
 · rfl
 grind
theorem bai {g:AS×List Nat×Value} (hn:(G.map (·.1)).Nodup) (hg:g∈G):G.Perm (g::erG g.1 G)/\lkP g.1 (prG G)=g.2.1:=by
 induction G with
 |nil=>cases hg
 | cons x G ih =>
  rw[bur,List.nodup_cons]at hn;obtain⟨h1,h2⟩:=hn;by_cases e:x.1=g.1
  · have hx:g=x:=by
     grind
    subst hx;have hno:∀y∈G,y.1≠g.1:=fun y hy e2=>h1 (bto.2 ⟨y,hy,e2⟩);refine⟨?_, ?_⟩
    · unfold erG
      rw[buf,if_neg bx8];rw[show G.filter (fun y=>!decide (y.1=g.1))=G from arv hno]
    unfold lkP prG
    grind
  have hg2:g∈G:=by
   grind
  obtain⟨p1,p2⟩:=ih h2 hg2;refine⟨?_, ?_⟩
  · unfold erG
    rw[buf,if_pos (by simp[e])];exact(p1.cons x).trans (List.Perm.swap _ _ _)
  unfold lkP prG at p2 ⊢
  grind
def b4v (hn:l.Nodup) {i:Nat} (hi:i<l.length):¬l.getD i default∈l.take i:=by
 rw[dn _ _ hi];intro hm;obtain⟨j,hj,e⟩:=btt hm;rw[btp]at hj;rw[List.getElem_take]at e;have:=(List.getElem_inj hn).1 e;omega
theorem ao2 {i:Nat} (hi:i<l.length) {x:AS} (hx:¬x∈l.take (i+1)):¬x∈l.take i/\x≠l.getD i default:=by
 rw[aj hi]at hx
 grind
def aa8 {o:List Fd} {l:List Nat} {k:Nat} (hk:k<l.length):o++(l.take (k+1)).map (mkF s)=(o++(l.take k).map (mkF s))++[mkF s (l.getD k default)]:=by
 rw[aj hk,bux,<- bu4];rfl
structure BIn (P:Program) (es:Array MapEntry) (clock:Nat) (G:BG) (K:AS->Prop) (B:Nat):Prop where
 mx:oz P 50 es clock
 to:∀e∈es.toList,∀s,e.key=mkS s->K s->∃g∈G,g.1=s/\e.val=g.2.2
 at_:∀g∈G,∃e∈es.toList,e.key=mkS g.1/\e.val=g.2.2
 nd:(G.map (·.1)).Nodup
 one:∀g∈G,g.2.2.oneCell'=true/\g.2.1.length<=B
 sz:es.size<=B
variable {B clock:Nat}{K:AS->Prop}{P:Program}
theorem BIn.nil:BIn P #[] clock [] K B:=⟨oz.nil,(fun e he=>by simp at he),(fun g hg=>by cases hg),List.nodup_nil,(fun g hg=>by cases hg),bt6 _⟩
variable {es:Array MapEntry}
theorem BIn.absent (h:BIn P es clock G K B) (hn:∀e∈es.toList,e.key≠mkS s):lkP s (prG G)=[]/\erG s G=G:=by
 have hno:∀g∈G,g.1≠s:=fun g hg e=>by
  obtain⟨x,hx,hk,_⟩:=h.at_ g hg
  grind
 exact⟨bdg hno,arv hno⟩
theorem BIn.found (h:BIn P es clock G K B) {e:MapEntry} (he:e∈es.toList) (hk:e.key=mkS s) (hK:K s):
 ∃v,e.val=v/\vHC v=.one (.p (.raw v))/\(yr G).Perm ((v,JSl 1 3 (lkP s (prG G)).length (lf iC (lkP s (prG G))))::yr (erG s G))/\(lkP s (prG G)).length<=B:=by
 obtain⟨g,hg,rfl,hv⟩:=h.to e he s hk hK;obtain⟨p1,p2⟩:=bai h.nd hg;refine⟨g.2.2,hv,bb4 (h.one g hg).1, ?_,by rw[p2];exact(h.one g hg).2⟩;rw[p2];exact p1.map _
theorem BIn.take {K':AS->Prop} (h:BIn P es clock G K B) (hK:∀x,K' x->K x/\x≠s):BIn P es clock (erG s G) K' B:=by
 have hs:∀g∈erG s G,g∈G/\g.1≠s:=fun g hg=>by
  obtain⟨h1,h2⟩:=buw.1 hg
  grind
 refine⟨h.mx,fun e he x hx hk=>?_,fun g hg=>h.at_ g (hs g hg).1, ?_,fun g hg=>h.one g (hs g hg).1,h.sz⟩
 · obtain ⟨g,hg,e1,e2⟩:=h.to e he x hx (hK x hk).1
   refine⟨g,buw.2 ⟨hg, ?_⟩,e1,e2⟩
   grind
 exact h.nd.sublist (List.filter_sublist.map _)
theorem BIn.put {es':Array MapEntry} {clock':Nat} (h:BIn P es clock G (fun _=>True) B) (hv:v.oneCell'=true) (hl:(lkP s (prG G)).length<=B) (hX:oz P 50 es' clock') (hP:amg es es' (mkS s) v):
 BIn P es' clock' (erG s G++[(s,lkP s (prG G)++[a],v)]) (fun _=>True) (B+1):=by
 have hs:∀g∈erG s G,g∈G/\g.1≠s:=fun g hg=>by
  obtain⟨h1,h2⟩:=buw.1 hg
  grind
 refine⟨hX,fun e he x hx _=>?_,fun g hg=>?_, ?_,fun g hg=>?_,by have:=hP.sz;have:=h.sz;omega⟩
 · rcases hP.to e he with⟨h1,h2⟩|⟨h1,h2⟩
   · obtain ⟨g,hg,e1,e2⟩:=h.to e h1 x hx trivial
     refine⟨g,btk _ (buw.2 ⟨hg, ?_⟩),e1,e2⟩
     grind
   have:x=s:=ag7 (hx.symm.trans h1);simp_all
 · rcases btn.1 hg with hg|hg
   · obtain ⟨g1,g2⟩:=hs g hg
     obtain⟨e,he,hk,hv⟩:=h.at_ g g1;have hne:e.key≠mkS s:=fun e2=>g2 (ag7 (hk.symm.trans e2));obtain⟨y,y1,y2,y3⟩:=hP.old e he hne
     grind
   obtain rfl:=btu.1 hg;obtain⟨y,y1,y2,y3⟩:=hP.at_
   grind
 · rw [bux,List.nodup_append]
   refine⟨h.nd.sublist (List.filter_sublist.map _),by simp,fun x hx y hy e=>?_⟩
   grind
 rcases btn.1 hg with hg|hg
 · obtain ⟨q1,q2⟩:=h.one g (hs g hg).1
   grind
 grind
theorem BIn.mono{B':Nat}(h:BIn P es clock G K B)(hb:B<=B'):BIn P es clock G K B':=⟨h.mx,h.to,h.at_,h.nd,fun g hg=>⟨(h.one g hg).1,bth (h.one g hg).2 hb⟩,bth h.sz hb⟩
theorem BIn.keys{K':AS->Prop}(h:BIn P es clock G K B)(hk:∀x,K' x->K x):BIn P es clock G K' B:=⟨h.mx,fun e he x hx q=>h.to e he x hx (hk x q),h.at_,h.nd,h.one,h.sz⟩
theorem b8n:prG (erG s G++[(s,lkP s (prG G)++[a],v)])=upP a (prG G) s:=by
 unfold upP;rw[<- avh];unfold prG
 grind
theorem b20 {l:List Nat}:yr (erG s G++[(s,l,v)])=yr (erG s G)++[(v,JSl 1 3 l.length (lf iC l))]:=by
 unfold yr
 grind
end
end
end Go.Hx
