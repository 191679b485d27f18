/- A part of the proof: Kw1 Kb1 Hx28 Hx29 Hx30 Hx32. -/
import Derived.Laws.IdiomRangeMap
import Derived.Test.YtnlcekpflogjkaaGreatDoorTy27
set_option linter.all false
set_option maxRecDepth 100000
namespace Go.Hx
section
open Go.Proofs
def at0 {n:Int} {l:List Fd} (hv:cb n l=0):a6 bxn 69 [pI n,pP (fdl l)] (ae [pI 0]):=by
 have h:=a8f n l;rw[hv]at h;exact h
def bpx(l:List Fd)(s:AS):a6 bxn 182 [pP (fdl l),pA s] (ae [pI (ax7 l s)]):=by
 refine hpx (nt:=28) Tryz.func182 ?_;refine w_6 ?_;refine cw 0 rfl fun hn=>?_;refine w_6 ?_;refine ai (ι:=Nat) (ka 1 (ka 7 (ka 8 kn))) km (fun i=>⟨[(9,some (vI i))],[]⟩) (fun i=>i<=l.length/\(∀j,j<i->adi s (l.getD j default)=false)) (fun i=>l.length-i) (0) (⟨bsx _,bv⟩) kk ?_;rintro i ⟨hi,hIi⟩;refine w_5 ?_;refine hcd ?_ ?_<;>intro h0
 ·
  refine w_8 ?_;refine m9 0 ?_;refine ig ?_;refine ak rfl rfl ?_ ?_<;>intro r1
  ·
   have h1:=tz1 r1;(iterate 5 refine qy ?_ (hg:=(gtt r1)));refine w_2 ?_;refine al _ rfl ?_ ?_<;>intro r2
   · have h2:=tz2 (dt (c5 r1 r2));refine v_5 ?_;exact⟨cci (tn (p:=adi s) (i:=i) bww hIi (by unfold adi;simp_all [j1])).symm,trivial⟩
   have h2:=tz1 (du (c5 r1 r2));refine w_5 ?_;refine lpz (i+1) kk ?_;exact⟨by show i+1<=_;omega,bc hIi (by unfold adi;simp_all [j1])⟩
  have h1:=tz2 r1;(iterate 5 refine k9 (gft r1) ?_);refine w_8 ?_;refine lpz (i+1) kk ?_
  exact⟨by show i+1<=_;omega,bc hIi (by unfold adi;simp_all [j1])⟩
 refine v_5 ?_;exact⟨cci (tj (p:=adi s) fun j hj=>hIi j bww).symm,trivial⟩
def b9o(n:Nat)(l:List Fd)(hn:n<=12)(hv:cb n l=0):a6 bxn 133 [pI (n:Int),pP (fdl l)] (ae [pP (asl (f5 l n)),pI 0]):=by
 refine hpx (nt:=45) Tryz.func133 ?_;have hsl:=xn (aa (n:Int));have h0z:(0:Int)<=(n:Int):=by omega
 have h1z:(n:Int)<=16:=by omega
 refine fh ?_;refine ak rfl rfl ?_ ?_<;>intro r0
 ·
  have h0:=tz1 r0;(iterate 2 refine k9 (gtf r0) ?_);refine w_9 ?_;refine hrr ?_
  omega
 have h0:=tz2 r0;(iterate 2 refine qy ?_ (hg:=(gff r0)));refine w_3 ?_;refine al _ rfl ?_ ?_<;>intro r1
 · have h1:=tz1 (ax r0 r1);exfalso;simp_all;omega
 have h1:=tz2 (ax r0 r1);refine w_6 ?_;refine hcd ?_ ?_<;>intro h2
 · exfalso;omega
 refine w_6 ?_;refine qcx a2y (at0 hv) ?_;refine a4l ?_;refine rq rfl rfl rfl rfl rfl ?_ (hp:=⟨qd h0z h1z,o9 h0z h1z⟩);refine rc rfl rfl rfl rfl rfl rfl aov (avw (aa (n:Int))) (⟨cci (ph h0z h1z),trivial⟩) rfl rfl ?_;refine w_4 ?_;refine d4 7 900 true 1 50 (lf sC []) bx3 rfl (CoP.sl rfl (.inr rfl) (fun h=>h) (fun i j hi _=>absurd hi (bt1 i))) (.inr rfl) rfl ?_;refine br (ka 1 (ka 29 (ka 30 kn))) km (fun i=>⟨[(7,some (.v (.one (.ref 900 (xf l (n:Int) i).length)))),(31,some (vI i))],[(900,some (.arr true 1 50 (xf l (n:Int) i).length (lf sC (xf l (n:Int) i))))]⟩) ((c8 (aa (n:Int))).length) kk ?_;rintro i hi;have hcl:=b03 (l:=l) (n:=(n:Int)) (i:=i);refine w_5 ?_;refine hcd ?_ ?_<;>intro h3
 ·
  refine jo ?_;refine qcx (wgx Tryz.func182) (bpx l ((c8 (aa (n:Int))).getD i default)) ?_;refine w_2 ?_;refine hcd ?_ ?_<;>intro h4
  ·
   refine w_3 ?_;refine m9 0 ?_;refine r9 1 true ?_;refine w_6 ?_
   first | (refine lpz (i+1) ⟨⟨⟨_, rfl, (bq (a8w bww bwx))⟩, tt⟩, ⟨⟨_, rfl, (bw (a8w bww bwx) (CoP.refl _))⟩, trivial⟩⟩ ?_; show i+1<=_; omega)
         |(refine lpz (i+1) ⟨⟨⟨_,rfl,(bm (a8z bww bwx))⟩,tt⟩,⟨⟨_,rfl,(b6 (a8z bww bwx))⟩,trivial⟩⟩ ?_;show i+1<=_;omega)
  refine w_5 ?_
  first | (refine lpz (i+1) ⟨⟨⟨_, rfl, (bq (a8w bww bwx))⟩, tt⟩, ⟨⟨_, rfl, (bw (a8w bww bwx) (CoP.refl _))⟩, trivial⟩⟩ ?_; show i+1<=_; omega)
        |(refine lpz (i+1) ⟨⟨⟨_,rfl,(bm (a8z bww bwx))⟩,tt⟩,⟨⟨_,rfl,(b6 (a8z bww bwx))⟩,trivial⟩⟩ ?_;show i+1<=_;omega)
 obtain rfl:i=(c8 (aa (n:Int))).length:=by omega
 refine w_2 ?_;refine bh 7 rfl rfl rfl ?_;refine v_5 ?_;exact⟨CoC.one (CoP.of_eq (by rw[azg];rfl)),CoC.refl _,trivial⟩
end
section
section
variable {κ:Type}[DecidableEq κ][Inhabited κ]
def fp(g:List (κ×List Nat))(k:κ):Nat:=g.findIdx fun x=>decide (x.1=k)
def a29(g:List (κ×List Nat))(k:κ)(i:Nat):List (κ×List Nat):=if fp g k<g.length then g.modify (fp g k) (fun x=>(x.1,x.2++[i]))else g++[(k,[i])]
def ca(ks:List κ)(i:Nat):List (κ×List Nat):=(List.range i).foldl (fun g j=>a29 g (ks.getD j default) j) []
def b39(c:List Nat):Bool:=!decide (c.length<2)
def aid(ks:List κ):List (List Nat):=((ca ks ks.length).map (·.2)).filter b39
section
variable {ks:List κ}
def mo{i:Nat}:ca ks (i+1)=a29 (ca ks i) (ks.getD i default) i:=by unfold ca;rw[bu7,btq];rfl
variable {g:List (κ×List Nat)}
def b3v {k:κ} {i:Nat}:g.length<=(a29 g k i).length/\(a29 g k i).length<=g.length+1:=by
 unfold a29;split
 · simp
 simp
def acq:∀{i:Nat},(ca ks i).length<=i
 |0=>bsw _
 | i+1=>by
  have:(ca ks i).length<=i:=acq;have:=(b3v (g:=ca ks i) (k:=ks.getD i default) (i:=i)).2;rw[mo];omega
def b81{k:κ}{i m:Nat}(h:∀x∈g,x.2.length<=m):∀x∈a29 g k i,x.2.length<=m+1:=by
 unfold a29;split
 · intro x hx
   obtain⟨j,hj,e⟩:=btt hx;have hj2:j<g.length:=by simpa using hj
   rw[List.getElem_modify]at e;have hm:=h (g[j]'hj2) (bta hj2);split at e
   · subst e;simp;exact hm
   subst e;omega
 intro x hx
 rcases btd.1 hx with hx|hx
 · have:=h x hx;omega
 simp at hx;subst hx;simp
def alt:∀{i:Nat},∀x∈ca ks i,x.2.length<=i
 |0=>fun x hx=>by simp[ca]at hx
 |i+1=>by rw[mo];exact b81 alt
end
end
structure Prt where
 rows:Int
 cls:List (List Nat)
instance:Inhabited Prt:=⟨⟨0,[]⟩⟩
theorem Prt.eq_iff{a b:Prt}:a=b<->a.rows=b.rows/\a.cls=b.cls:=by cases a;cases b;simp
instance:DecidableEq Prt:=fun a b=>decidable_of_iff _ (Prt.eq_iff (a:=a) (b:=b)).symm
def ilC (l:List Nat):Nat->PV
 |0=>il l
 |_=>.any
abbrev ill(l:List (List Nat)):PV:=psl 1 ilC l
def Prt.c (p:Prt):Nat->PV
 |0=>.raw (.int .i64 p.rows)
 |1=>ill p.cls
 |_=>.any
abbrev Prt.pc(p:Prt):PC:=.agg [p.c 0,p.c 1]
def snT(p:Prt)(k j:Nat):List Bool:=(List.range p.rows.toNat).map fun i=>decide (i∈(p.cls.take k).flatten++(p.cls.getD k default).take j)
def am1(c:List Nat)(j:Nat):Int:=if j=0 then -1 else((c.getD (j-1) default:Nat):Int)
def agr(p:Prt)(k:Nat):Int:=if k=0 then -1 else(((p.cls.getD (k-1) default).getD 0 default:Nat):Int)
def bkd(p:Prt)(k j:Nat):Bool:=decide (am1 (p.cls.getD k default) j<(((p.cls.getD k default).getD j default:Nat):Int))&&decide ((((p.cls.getD k default).getD j default:Nat):Int)<p.rows)&&!decide ((p.cls.getD k default).getD j default∈(p.cls.take k).flatten++(p.cls.getD k default).take j)
def ai2(p:Prt)(k:Nat):Bool:=!decide ((p.cls.getD k default).length<2)&&decide (agr p k<(((p.cls.getD k default).getD 0 default:Nat):Int))&&(List.range (p.cls.getD k default).length).all (bkd p k)
def ke(p:Prt):Bool:=decide (0<=p.rows)&&decide (p.rows<=1000)&&(List.range p.cls.length).all (ai2 p)
def a6n(n:Nat)(l:List Int)(c:List Nat):List Int:=c.foldl (fun l i=>l.set i (n:Int)) l
def a8o(m:Nat):List Int:=(List.range m).map fun(i:Nat)=>-1-(i:Int)
def ud(p:Prt)(k:Nat):List Int:=(List.range k).foldl (fun l n=>a6n n l (p.cls.getD n default)) (a8o p.rows.toNat)
def yc(p:Prt):List Int:=ud p p.cls.length
section
variable {k:Nat}{p:Prt}
def a8d:ud p (k+1)=a6n k (ud p k) (p.cls.getD k default):=by unfold ud;rw[bu7,btq];rfl
def acj {n:Nat}:∀{c:List Nat} {l:List Int},(a6n n l c).length=l.length
 | [],_=>rfl
 | i::c,l=>by
  show(a6n n (l.set i (n:Int)) c).length=_;rw[acj,bus]
def qr:∀{k:Nat},(ud p k).length=p.rows.toNat
 |0=>by simp[ud,a8o]
 |k+1=>by rw[a8d,acj,qr]
def a4t(p:Prt)(k j:Nat):List Int:=a6n k (ud p k) ((p.cls.getD k default).take j)
def azp:a4t p k 0=ud p k:=rfl
def az8 {j:Nat} (h:j<(p.cls.getD k default).length):a4t p k (j+1)=(a4t p k j).set ((p.cls.getD k default).getD j default) (k:Int):=by
 unfold a4t a6n;rw[aj h,btq];rfl
def b5c:a4t p k (p.cls.getD k default).length=ud p (k+1):=by unfold a4t;rw[bt6,a8d]
def aq3{j:Nat}:(a4t p k j).length=p.rows.toNat:=by unfold a4t;rw[acj,qr]
def b6r(a b:Prt):List (Int×Int):=(List.range a.rows.toNat).map fun i=>((yc a).getD i default,(yc b).getD i default)
def b49(a b:Prt):Prt:=⟨a.rows,aid (b6r a b)⟩
def a05(p:Prt)(k:Nat):Int:=(p.cls.take k).foldl (fun n c=>n-((c.length:Int)-1)) p.rows
def awo(p:Prt):Int:=a05 p p.cls.length
def ako (h:k<p.cls.length):a05 p (k+1)=a05 p k-(((p.cls.getD k default).length:Int)-1):=by
 unfold a05;rw[aj h,btq];rfl
end
end
section
open Go.RowKit
structure ExF (kk:KK) (n:Nat) (f:MK->Option PV) (es:Array MapEntry) (clock:Nat):Prop where
 st:Go.MapKept.Stamped es clock
 le:es.size<=n
 mx:es.size<=maxLen
 to:∀x∈es.toList,∃key v,x.key=key.val/\f key=some (.raw v)/\x.val=v/\v.oneCell'=true
 of:∀key y,f key=some y->MK.ok kk key/\∃x∈es.toList,x.key=key.val
structure Vis (es:Array MapEntry) (seen:Array Nat) (vs:List MK):Prop where
 nod:vs.Nodup
 inn:∀k∈vs,∃x∈es.toList,x.key=k.val/\seen.contains x.born=true
 all:∀x∈es.toList,seen.contains x.born=true->∃k∈vs,x.key=k.val
section
variable {kk:KK}{n:Nat}{f:MK->Option PV}{es:Array MapEntry}{clock:Nat}{seen:Array Nat}{vs:List MK}{e:MapEntry}{key:MK}
end
section
variable {nt:Nat}{st:HSt}
end
abbrev itO(bi b clock:Nat)(seen:Array Nat):a7:=.ex 2 (.pointer (some ⟨bi,0,none⟩)) bi (.mapIter (some b) clock seen clock)
abbrev mpO(b:Nat)(es:Array MapEntry)(clock:Nat):a7:=.ex 0 (.map (some b)) b (.map es clock)
section
variable {P:Program}{nt:Nat}{ops:Array Oper}{st:HSt}
def bfh (st:HSt) (d:Nat) (x:HR):HSt.den ⟨(d,some x)::st.t,st.o⟩=st.den.putD (some d) (some x):=by
 unfold HSt.den S.putD S.put;simp[aw]
def ae3 {k d:Nat} {o:Oper} {L:List Nat} {Q:HSt->Prop} (hi:ops[k]? = some o) (hg:o.guard=none) (hd:o.dst=some d) (hdn:d6 nt (some d)=true) (hnd:∀c,o.op≠.defer c)
 (h:∀w0 a w c,ah w0 nt c st.den a w->∃v w' o' x c',c'.old=c.old/\(execOp a.eval o).run P w=.ok (.value v) w'/\ah w0 nt c' (HSt.den ⟨st.t,o'⟩) a w'/\ar c' (HSt.den ⟨st.t,o'⟩).o x v/\RN P nt ops L ⟨(d,some x)::st.t,o'⟩ Q):RN P nt ops (k::L) st Q:=fun ro n w0 m0 a w QQ ⟨c,hold,hr⟩ hQ=>by
 obtain⟨v,w',o',x,c',h1,h2,h3,h4,h5⟩:=h w0 a w c hr;rw[wpOpsIn_cons];unfold wpOpIn;simp only[hi];have hw:Region.wanted o (yielded ops a.tmps)=true:=by unfold Region.wanted;rw[hg]
 rw[if_pos hw];refine a23 hnd ?_;unfold Oper.wp;rw[h2];refine h5 ro n w0 m0 _ w' QQ ⟨c',h1.trans hold, ?_⟩ hQ;rw[hd,bfh ⟨st.t,o'⟩ d x];exact h3.putD (some d) (fun k hk=>by cases hk;exact of_decide_eq_true hdn) (some x) v fun y hy=>by cases hy;exact h4
variable {k:Nat}{o:Oper}{L:List Nat}{Q:HSt->Prop}{x:Operand}{mid j b clock d bi id n:Nat}{es:Array MapEntry}{seen:Array Nat}{kk:KK}{f:MK->Option PV}
def aq4 {w0:World} {c:Ctx} {s:S} {a:Act} {w:World} (h:ah w0 nt c s a w) {v:Value} {y:Obj} {dd:Nat} (hx:ev s x=some (.v (.one (.ref mid j)))) (hm:s.o mid=some (.ex dd v b y)):a.eval x=v/\w.heap[b]? = some y:=by
 obtain⟨h1,h2,h3,h4,h5⟩:=h.objs mid _ hm;have hu:bj c s.o (.ref mid j) (a.eval x):=af h hx;obtain⟨_,_,hu⟩:=hu;have h6:=hu _ _ _ _ hm rfl;exact⟨(h6.2 bww).trans h1,h4⟩
end
end
section
open Go.RowKit
def brd(f:MK->Option PV)(m:MK):MK->Option PV:=fun k=>bif k.same m then none else f k
section
variable {P:Program}{E:Env}{nt:Nat}{ops:Array Oper}{st:HSt}
def bk4{k:Nat}{o:Oper}{L:List Nat}{Q:HSt->Prop}(hi:ops[k]? = some o)(hg:o.guard=none)(hdn:d6 nt o.dst=true)(hnd:∀c,o.op≠.defer c)
 (h:∀w0 a w c,ah w0 nt c st.den a w->∃y w' o' c',c'.old=c.old/\(execOp a.eval o).run P w=.ok y w'/\(y=.skip\/∃v,y=.value v)/\ah w0 nt c' (HSt.den ⟨st.t,o'⟩) a w'/\RN P nt ops L ⟨(match o.dst with|some d=>[(d,none)]|none=>[])++st.t,o'⟩ Q):RN P nt ops (k::L) st Q:=fun ro n w0 m0 a w QQ ⟨c,hold,hr⟩ hQ=>by
 obtain⟨y,w',o',c',h1,h2,hy,h3,h5⟩:=h w0 a w c hr;rw[wpOpsIn_cons];unfold wpOpIn;simp only[hi];have hw:Region.wanted o (yielded ops a.tmps)=true:=by unfold Region.wanted;rw[hg]
 rw[if_pos hw];refine a23 hnd ?_;unfold Oper.wp;rw[h2]
 rcases hy with rfl|⟨v,rfl⟩
 · refine h5 ro n w0 m0 _ w' QQ ⟨c',h1.trans hold, ?_⟩ hQ
   cases hdd:o.dst with
   |none=>exact h3
   | some d =>
    have e:HSt.den ⟨[(d,none)]++st.t,o'⟩=(HSt.den ⟨st.t,o'⟩).putD (some d) none:=by
     unfold HSt.den S.putD S.put;simp[aw]
    rw[e];exact h3.putD (some d) (fun k hk=>by cases hk;rw[hdd]at hdn;exact of_decide_eq_true hdn) none undef (fun y hy=>by cases hy)
 refine h5 ro n w0 m0 _ w' QQ ⟨c',h1.trans hold, ?_⟩ hQ
 cases hdd:o.dst with
 |none=>exact h3
 | some d =>
  have e:HSt.den ⟨[(d,none)]++st.t,o'⟩=(HSt.den ⟨st.t,o'⟩).putD (some d) none:=by
   unfold HSt.den S.putD S.put;simp[aw]
  rw[e];exact h3.putD (some d) (fun k hk=>by cases hk;rw[hdd]at hdn;exact of_decide_eq_true hdn) none v (fun y hy=>by cases hy)
end
section
variable {P:Program}{E:Env}{nt:Nat}{ops:Array Oper}{st:HSt}{k:Nat}{o:Oper}{L:List Nat}{Q:HSt->Prop}
end
end
section
open Go.RowKit
section
variable {w0:World}{nt:Nat}{c:Ctx}{s:S}{a:Act}{w:World}
theorem ah.redo (h:ah w0 nt c s a w) (D:Nat->Prop) (own':Nat->Value) (blk':Nat->Nat->Prop) (rows':Nat->Nat->Value) (o':au)
 (hD:∀q,D q->q<1000) (hs:∀q,¬D q->o' q=s.o q/\own' q=c.own q/\blk' q=c.blk q/\rows' q=c.rows q)
 (he:∀q,D q->((∀d x,s.t d=some x->¬x.men q)/\∀id ob,¬D id->s.o id=some ob->¬ob.men q)\/Evo c s.o { old:=c.old,imm:=c.imm,tab:=c.tab,own:=own',blk:=blk',rows:=rows' } o' q)
 (hob:∀q ob,D q->o' q=some ob->eg 0 { old:=c.old,imm:=c.imm,tab:=c.tab,own:=own',blk:=blk',rows:=rows' } o' w q ob)
 (hfrom:∀q ob b,D q->o' q=some ob->blk' q b->∃q0 ob0,D q0/\s.o q0=some ob0/\c.blk q0 b)
 (hin:∀q q' ob ob' b,D q->D q'->o' q=some ob->o' q'=some ob'->blk' q b->blk' q' b->q=q') :
 ah w0 nt { old:=c.old,imm:=c.imm,tab:=c.tab,own:=own',blk:=blk',rows:=rows' } ⟨s.t,o'⟩ a w:=by
 have hevo:∀q,¬D q->Evo c s.o { old:=c.old,imm:=c.imm,tab:=c.tab,own:=own',blk:=blk',rows:=rows' } o' q:=fun q hq=>by
  obtain⟨h1,h2,h3,h4⟩:=hs q hq;exact Evo.of_same h1 h2 h4
 refine⟨h.defers,h.size,h.below,fun d x hx=>?_,fun q ob hq=>?_,fun q q' ob ob' b hq hq' hb hb'=>?_,h.imm,fun q ob b hq hb=>?_,h.was,h.frm,fun q ob b hq hb=>?_,fun q hq=>?_⟩
 · refine (h.tmps d x hx).evo (Imm.le.refl c.imm) fun q hm=>?_
   grind
 · by_cases hd:D q
   · grind
   obtain⟨h1,h2,h3,h4⟩:=hs q hd;have hq:o' q=some ob:=hq;rw[h1]at hq;refine(h.objs q ob hq).keep (Imm.le.refl c.imm) h2 h3 (fun j hj=>?_) (fun b hb=>rfl) h4
   grind
 · have hq:o' q=some ob:=hq
   have hq':o' q'=some ob':=hq'
   have cross:∀q q' ob ob',D q->¬D q'->o' q=some ob->o' q'=some ob'->blk' q b->blk' q' b->False:=fun q q' ob ob' hd hd' hq hq' hb hb'=>by
    obtain⟨q0,ob0,h1,h2,h3⟩:=hfrom q ob b hd hq hb;obtain⟨h4,_,h5,_⟩:=hs q' hd';rw[h4]at hq';rw[h5]at hb';have:=h.inj q0 q' ob0 ob' b h2 hq' h3 hb'
    grind
   by_cases hd:D q
   · grind
   by_cases hd':D q'
   · grind
   obtain⟨h1,_,h3,_⟩:=hs q hd;obtain⟨h1',_,h3',_⟩:=hs q' hd';rw[h1]at hq;rw[h1']at hq';simp only[h3]at hb;simp only[h3']at hb';exact h.inj q q' ob ob' b hq hq' hb hb'
 · have hq:o' q=some ob:=hq
   by_cases hd:D q
   · obtain ⟨q0,ob0,_,h2,h3⟩:=hfrom q ob b hd hq hb
     exact h.sep q0 ob0 b h2 h3
   obtain⟨h1,_,h3,_⟩:=hs q hd;rw[h1]at hq;simp only[h3]at hb;exact h.sep q ob b hq hb
 · have hq:o' q=some ob:=hq
   by_cases hd:D q
   · obtain ⟨q0,ob0,_,h2,h3⟩:=hfrom q ob b hd hq hb
     exact h.fsep q0 ob0 b h2 h3
   obtain⟨h1,_,h3,_⟩:=hs q hd;rw[h1]at hq;simp only[h3]at hb;exact h.fsep q ob b hq hb
 have:¬D q:=fun hd=>by have:=hD q hd;omega
 exact(h.fixed q hq).trans (hevo q this)
structure aps (et:TypeId) (es n r:Nat) (m:Nat->Nat) (g:Nat->Nat->Nat->PV) (hd:Nat->Value) (B:Nat->Option Obj):Prop where
 pos:0<es
 len:n<=maxLen
 row:∀i,i<n->i≠r->(m i=0/\∃a,hd i=.slice a 0 0)\/∃b cap cur,hd i=.slice (some ⟨b,0,none⟩) (m i) cap/\az (hd i)=some b/\B b=some (.cells cur et (0,0))/\m i<=cap/\cap<=maxLen/\cur.size=cap*es /\
  ∀q j,q<m i->j<es->∃x,(cur.toList.take (m i*es))[q*es+j]? = some x/\g i q j=.raw x/\x.oneCell'=true
 apart:∀i i' b,i<n->i≠r->i'<n->i'≠r->az (hd i)=some b->az (hd i')=some b->i'=i
 blk:∀b,B b≠none->∃i,i<n/\i≠r/\az (hd i)=some b
def hdF(hd:Nat->Value)(id' r k:Nat):Nat->Nat->HV:=fun i _=>bif Nat.beq i r then .ref id' k else .p (.raw (hd i))
def a4i(hd:Nat->Value)(id' r k j:Nat):hdF hd id' r k r j=.ref id' k:=by simp[hdF]
def a7s {hd:Nat->Value} {id' r k i j:Nat} (h:i≠r):hdF hd id' r k i j=.p (.raw (hd i)):=by
 have:Nat.beq i r=false:=by rw[btb];exact fun hb=>h (btw hb)
 simp[hdF,this]
def b6c{imm:Imm}{s':Nat}{f:Nat->Nat->PV}{a:Option Addr}:aq imm (.sl 0 s' true f) (.slice a 0 0):=⟨a,0,rfl,bsw _,bsx _,fun _=>rfl,fun h=>absurd h (bvd 0)⟩
section
variable {et:TypeId}{g:Nat->Nat->Nat->PV}{m:Nat->Nat}
theorem ah.split(h:ah w0 nt c s a w){id id' idb r n:Nat}{e:TypeId}{es:Nat}(ho:s.o id=some (.nest e et es n m g none))(hid:id<1000)(hr:r<n)(hraw:∀i q j,i<n->q<m i->j<es->∃v,g i q j=.raw v)(hm':NM s id')(hn':s.o id'=none)(hmb:NM s idb)(hnb:s.o idb=none)(hne:id'≠idb):
 ∃hd B c',aps et es n r m g hd B/\c'.old=c.old/\ah w0 nt c' ⟨s.t,fun q=>if q=idb then some (.bun B)else if q=id' then some (.arr true es et (m r) (g r))else if q=id then some (.arrh 1 e n [id'] (hdF hd id' r (m r)))else s.o q⟩ a w:=by
 classical
 have hnk:lm 0 c s.o w id e et es n m g none:=h.objs id _ ho;have hid':id'≠id:=by rintro rfl;rw[ho]at hn';cases hn'
 have hidb:idb≠id:=by rintro rfl;rw[ho]at hnb;cases hnb
 let hd:Nat->Value:=fun i=>c.rows id i
 let B:Nat->Option Obj:=fun b=>if ∃i,i<n/\i≠r/\az (c.rows id i)=some b then w.heap[b]? else none
 have hB:∀i b,i<n->i≠r->az (c.rows id i)=some b->B b=w.heap[b]?:=fun i b h1 h2 h3=>if_pos ⟨i,h1,h2,h3⟩;have hlen:=hnk.len;simp only[ni]at hlen
 have hbf:aps et es n r m g hd B:=by
  refine⟨hnk.pos,by omega,fun i hi hir=>?_,fun i i' b h1 h2 h3 h4 h5 h6=>(hnk.apart i b h1 h5).2 i' h3 h6,fun b hb=>?_⟩
  · rcases hnk.row i hi with r0|⟨ys,r1,r2⟩
    · exact .inl r0
    rcases gk r1 with r0|⟨b,cap,rv,rb⟩
    · exact .inl r0
    rcases r1.2 with⟨hv,_⟩|⟨b',cap',cur,hv,_,hh,q1,q2,q3,q4⟩
    · grind
    rw[rv]at hv;simp only[Value.slice.injEq,bst,Addr.mk.injEq,and_true,true_and]at hv;obtain⟨rfl,rfl⟩:=hv;refine .inr ⟨b,cap,cur,rv,rb,(hB i b hi hir rb).trans hh,q1,q2,q3,fun q j hq hj=>?_⟩;obtain⟨x,hx,hxr⟩:=r2 q j hq hj;obtain⟨v,hv⟩:=hraw i q j hi hq hj;rw[hv]at hxr;obtain⟨e1,e2⟩:=hxr
    grind
  grind
 obtain ⟨xt,t1,t2,_⟩:∃xs,w.ownsRow 0 e 1 (c.own id) (n+ni none) xs/\(∀i,i<n->xs[i]? = some (c.rows id i))/\∀p,(none:Option (Nat×Nat))=some p->∃x,xs[n]? = some x/\bj c s.o (.ref p.1 p.2) x:=by
  rcases hnk.top with⟨h1,_⟩|h1
  · grind
  exact h1
 have t1:w.ownsRow 0 e 1 (c.own id) n xt:=t1
 obtain ⟨bt,capt,ht0,htc⟩:∃b cap,c.own id=.slice (some ⟨b,0,none⟩) n cap/\az (c.own id)=some b:=by
  rcases gk t1 with⟨h1,_⟩|h1
  · omega
  exact h1
 have hbs:∀b,ew (c.own id) b<->b=bt:=fun b=>by rw[ht0];simp[ew,cu,eq_comm]
 have hrow1:∀i,i<n->(c.rows id i).oneCell'=true:=fun i hi=>by
  rcases hnk.row i hi with⟨_,x,h1⟩|⟨ys,h1,_⟩
  · rw[h1];rfl
  rcases h1.2 with⟨h1,_⟩|⟨_,_,_,h1,_⟩<;>(rw[h1];rfl)
 let blr:Nat->Prop:=fun b=>az (c.rows id r)=some b
 let own':Nat->Value:=fun q=>if q=id' then c.rows id r else c.own q
 let blk':Nat->Nat->Prop:=fun q=>if q=idb then(fun b=>B b≠none)else if q=id' then blr else if q=id then ew (c.own id)else c.blk q
 let o':au:=fun q=>if q=idb then some (.bun B)else if q=id' then some (.arr true es et (m r) (g r))else if q=id then some (.arrh 1 e n [id'] (hdF hd id' r (m r)))else s.o q
 have ob1:o' idb=some (.bun B):=if_pos rfl;have ob2:o' id'=some (.arr true es et (m r) (g r)):=by show(if id'=idb then _ else if id'=id' then _ else _)=_;rw[if_neg hne,if_pos rfl]
 have ob3:o' id=some (.arrh 1 e n [id'] (hdF hd id' r (m r))):=by show(if id=idb then _ else if id=id' then _ else if id=id then _ else _)=_;rw[if_neg (Ne.symm hidb),if_neg (Ne.symm hid'),if_pos rfl]
 have bk1:blk' idb=fun b=>B b≠none:=if_pos rfl;have bk2:blk' id'=blr:=by show(if id'=idb then _ else if id'=id' then _ else _)=_;rw[if_neg hne,if_pos rfl]
 have bk3:blk' id=ew (c.own id):=by show(if id=idb then _ else if id=id' then _ else if id=id then _ else _)=_;rw[if_neg (Ne.symm hidb),if_neg (Ne.symm hid'),if_pos rfl]
 have ow2:own' id'=c.rows id r:=if_pos rfl;have ow3:own' id=c.own id:=if_neg (Ne.symm hid')
 have hDc:∀q,(q=id\/q=id'\/q=idb)->∀ob,o' q=some ob->∀b,blk' q b->c.blk id b:=fun q hq ob hob b hb=>by
  rcases hq with rfl|rfl|rfl
  · rw [bk3]at hb
    exact(hnk.blks b).2 (.inl (by rw[(hbs b).1 hb];exact htc))
  · rw [bk2]at hb
    exact(hnk.blks b).2 (.inr ⟨r,hr,hb⟩)
  rw[bk1]at hb;obtain⟨i,h1,h2,h3⟩:=hbf.blk b hb;exact(hnk.blks b).2 (.inr ⟨i,h1,h3⟩)
 refine⟨hd,B,{ old:=c.old,imm:=c.imm,tab:=c.tab,own:=own',blk:=blk',rows:=c.rows },hbf,rfl,h.redo (fun q=>q=id\/q=id'\/q=idb) own' blk' c.rows o' ?_ ?_ ?_ ?_ ?_ ?_⟩
 · rintro q (rfl|rfl|rfl)
   · exact hid
   · exact hm'.2.2
   exact hmb.2.2
 · grind
 · rintro q (rfl|rfl|rfl)
   · exact .inr (.inr (.inr ⟨_,_,1,e,n,n,ho,rfl,ob3,rfl,bsw _,fun _=>ow3,fun _ _ _ _ _ _ _ hb=>by cases hb⟩))
   · exact .inl ⟨hm'.1,fun id0 ob _ h0=>hm'.2.1 id0 ob h0⟩
   exact .inl ⟨hmb.1,fun id0 ob _ h0=>hmb.2.1 id0 ob h0⟩
 · rintro q ob (rfl|rfl|rfl) hq
   · rw [ob3]at hq
     cases hq;refine⟨Nat.one_pos,by omega,fun i j k hi hj hk=>?_, .inl ⟨by show blk' q=ew (own' q);rw[bk3,ow3],xt,by show w.ownsRow 0 e 1 (own' q) n xt;rw[ow3];exact t1,fun i j hi hj=>?_⟩⟩
     · by_cases hir:i=r
       · subst hir;rw[a4i]at hk;simp only[HV.men]at hk;simp[hk]
       rw[a7s hir]at hk;exact hk.elim
     obtain rfl:j=0:=by omega
     refine⟨c.rows q i,by rw[bvs,bur];exact t2 i hi, ?_⟩;by_cases hir:i=r
     · subst hir
       rw[a4i];refine⟨hrow1 i hi,fun l hl=>?_,fun ob0 s0 e0 n0 ho0 hd0=>?_⟩
       · grind
       rw[ob2]at ho0;cases ho0;simp only[a7.dim,bst,bt2]at hd0
       grind
     rw[a7s hir];exact⟨rfl,hrow1 i hi⟩
   · rw [ob2]at hq
     cases hq;refine⟨hnk.pos,hnk.lens r hr, ?_⟩
     have hemp:(m r=0/\∃x,c.rows id r=.slice x 0 0)->(true=false\/m r=0)/\blk' q=noB/\aq c.imm (.sl (m r) es true (g r)) (own' q):=fun⟨h1,x,h2⟩=>by
      refine⟨.inr h1, ?_, ?_⟩
      · rw [bk2]
        funext b;show(az (c.rows id r)=some b)=False;rw[h2];cases x<;>simp[az]
      rw[ow2,h2,h1];exact b6c
     rcases hnk.row r hr with r0|⟨ys,r1,r2⟩
     · grind
     rcases gk r1 with r0|⟨b,cap,rv,rb⟩
     · grind
     have hb2:blk' q=ew (own' q):=by
      rw[bk2];funext b';show(az (c.rows id r)=some b')=(cu (own' q)=some b');rw[ow2,rb,rv];rfl
     grind
   rw[ob1]at hq;cases hq;refine⟨fun b hb=>by have hb:blk' q b:=hb;rw[bk1]at hb;exact hb,fun b x hx=>?_⟩;have hne2:B b≠none:=fun e=>by rw[e]at hx;cases hx
   obtain⟨i,h1,h2,h3⟩:=hbf.blk b hne2;have hc:c.blk id b:=(hnk.blks b).2 (.inr ⟨i,h1,h3⟩);rw[hB i b h1 h2 h3]at hx;obtain⟨y,hy,hyd⟩:=(h.objs id _ ho).data hc
   grind
 · intro q ob b hq hob hb
   exact⟨id,_, .inl rfl,ho,hDc q hq ob hob b hb⟩
 have x12:∀b,blk' id b->blk' id' b->False:=fun b h1 h2=>by
  rw[bk3]at h1;rw[bk2]at h2;exact(hnk.apart r b hr h2).1 (by rw[(hbs b).1 h1];exact htc)
 have x13:∀b,blk' id b->blk' idb b->False:=fun b h1 h2=>by
  rw[bk3]at h1;rw[bk1]at h2;obtain⟨i,q1,q2,q3⟩:=hbf.blk b h2;exact(hnk.apart i b q1 q3).1 (by rw[(hbs b).1 h1];exact htc)
 have x23:∀b,blk' id' b->blk' idb b->False:=fun b h1 h2=>by
  rw[bk2]at h1;rw[bk1]at h2;obtain⟨i,q1,q2,q3⟩:=hbf.blk b h2;exact q2 ((hnk.apart r b hr h1).2 i q1 q3)
 rintro q q' ob ob' b (rfl|rfl|rfl) (rfl|rfl|rfl) _ _ hb hb'
 · rfl
 · simp_all
 · simp_all
 · simp_all
 · rfl
 · grind
 · simp_all
 · grind
 rfl
def ah.join(h:ah w0 nt c s a w){id id' idb id2 r n k:Nat}{e:TypeId}{es:Nat}{ms:List Nat}{f:Nat->Nat->HV}{ff:Nat->Nat->PV}{hd:Nat->Value}{B:Nat->Option Obj}(ho:s.o id=some (.arrh 1 e n ms f))(ho':s.o id'=some (.arr true es et k ff))(hob:s.o idb=some (.bun B))(hbf:aps et es n r m g hd B)(hr:r<n)(hfr:f r 0=.ref id' k)(hfi:∀i,i<n->i≠r->f i 0=.p (.raw (hd i)))(hid:id<1000)(hid':id'<1000)(hidb:idb<1000)(hm2:NM s id2)(hn2:s.o id2=none):
 ∃c',c'.old=c.old/\c'.own id2=c.own id/\ah w0 nt c' ⟨s.t,fun q=>if q=id2 then some (.nest e et es n (fk m r k) (fv g r ff) none)else if q=id\/q=id'\/q=idb then none else s.o q⟩ a w:=by
 have x1:id'≠id:=by rintro rfl;rw[ho]at ho';cases ho'
 have x2:idb≠id:=by rintro rfl;rw[ho]at hob;cases hob
 have x3:idb≠id':=by rintro rfl;rw[ho']at hob;cases hob
 have y1:id2≠id:=by rintro rfl;rw[ho]at hn2;cases hn2
 have y2:id2≠id':=by rintro rfl;rw[ho']at hn2;cases hn2
 have y3:id2≠idb:=by rintro rfl;rw[hob]at hn2;cases hn2
 obtain⟨_,_,_,h5⟩:=h.objs id _ ho
 obtain ⟨h6,xt,t1,t2⟩:c.blk id=ew (c.own id)/\∃xs,w.ownsRow 0 e 1 (c.own id) n xs/\∀i j,i<n->j<1->∃x,xs[i*1+j]? = some x/\bj c s.o (f i j) x:=by
  rcases h5 with h5|⟨h5,_⟩
  · exact h5
  omega
 obtain⟨q0,q1,q5⟩:=h.objs id' _ ho';obtain⟨b1,b2⟩:=h.objs idb _ hob
 obtain ⟨bt,capt,ht0,htc⟩:∃b cap,c.own id=.slice (some ⟨b,0,none⟩) n cap/\az (c.own id)=some b:=by
  rcases gk t1 with⟨h1,_⟩|h1
  · omega
  exact h1
 have hct:c.blk id bt:=by rw[h6,ht0];rfl
 let rws:Nat->Value:=fun i=>if i=r then c.own id' else hd i
 have rr:rws r=c.own id':=if_pos rfl;have rn:∀i,i≠r->rws i=hd i:=fun i hi=>if_neg hi
 have hcr:∀b,az (c.own id')=some b->c.blk id' b:=fun b hb=>by
  rcases q5 with⟨q6,_⟩|⟨q7,_,q8⟩
  · rw[q6];exact a7m hb
  obtain⟨ad,cap,r1,_,_,r4,_⟩:=q8
  rcases q7 with q7|q7
  · cases q7
  subst q7;rw[r1,r4 rfl]at hb;cases ad<;>simp[az]at hb
 have hrow:(k=0/\∃a,c.own id'=.slice a 0 0)\/∃ys,w.ownsRow 0 et es (c.own id') k ys/\∀r j,r<k->j<es->∃x,ys[r*es+j]? = some x/\aq c.imm (ff r j) x:=by
  rcases q5 with⟨_,xs,q7,q8⟩|⟨q6,_,q8⟩
  · exact .inr ⟨xs,q7,q8⟩
  rcases q6 with q6|q6
  · cases q6
  subst q6;exact .inl ⟨rfl,yk q8⟩
 have hrows:∀i,i<n->xt[i]? = some (rws i):=fun i hi=>by
  obtain⟨x,hx,hxr⟩:=t2 i 0 hi bww;rw[bvs,bur]at hx;by_cases hir:i=r
  · subst hir
    rw[hfr]at hxr;rw[rr,hx,(hxr.2.2 _ _ _ _ ho' rfl).2 rfl]
  rw[hfi i hi hir]at hxr;rw[rn i hir,hx,hxr.1]
 have hcb:∀i b,i<n->i≠r->az (hd i)=some b->c.blk idb b:=fun i b hi hir hb=>by
  rcases hbf.row i hi hir with⟨_,x,h1⟩|⟨b',cap,cur,h1,h2,h3,_⟩
  · rw[h1]at hb;cases x<;>simp[az]at hb
  rw[h2]at hb;cases hb;exact(b2 _ _ h3).1
 let bk:Nat->Prop:=fun b=>az (c.own id)=some b\/∃i,i<n/\az (rws i)=some b
 have hfrom:∀b,bk b->c.blk id b\/c.blk id' b\/c.blk idb b:=fun b hb=>by
  rcases hb with hb|⟨i,hi,hb⟩
  · rw [htc]at hb
    cases hb;exact .inl hct
  by_cases hir:i=r
  · subst hir;rw[rr]at hb;exact .inr (.inl (hcr b hb))
  rw[rn i hir]at hb;exact .inr (.inr (hcb i b hi hir hb))
 let own':Nat->Value:=fun q=>if q=id2 then c.own id else c.own q
 let blk':Nat->Nat->Prop:=fun q=>if q=id2 then bk else c.blk q
 let rows':Nat->Nat->Value:=fun q=>if q=id2 then rws else c.rows q
 let o':au:=fun q=>if q=id2 then some (.nest e et es n (fk m r k) (fv g r ff) none)else if q=id\/q=id'\/q=idb then none else s.o q
 have o2:o' id2=some (.nest e et es n (fk m r k) (fv g r ff) none):=if_pos rfl
 have o1:∀q,(q=id\/q=id'\/q=idb)->o' q=none:=fun q hq=>by
  show(if q=id2 then _ else if q=id\/q=id'\/q=idb then none else s.o q)=none;rw[if_neg (by rcases hq with rfl|rfl|rfl<;>(intro e;first|exact y1 e.symm|exact y2 e.symm|exact y3 e.symm)),if_pos hq]
 have w2:own' id2=c.own id:=if_pos rfl;have k2:blk' id2=bk:=if_pos rfl;have s2:rows' id2=rws:=if_pos rfl;refine⟨{ old:=c.old,imm:=c.imm,tab:=c.tab,own:=own',blk:=blk',rows:=rows' },rfl,w2,h.redo (fun q=>q=id2\/q=id\/q=id'\/q=idb) own' blk' rows' o' ?_ ?_ ?_ ?_ ?_ ?_⟩
 · rintro q (rfl|rfl|rfl|rfl)
   · exact hm2.2.2
   · exact hid
   · exact hid'
   exact hidb
 · intro q hq
   have z1:q≠id2:=fun e=>hq (.inl e);refine⟨?_,if_neg z1,if_neg z1,if_neg z1⟩;show(if q=id2 then _ else if q=id\/q=id'\/q=idb then none else s.o q)=_;rw[if_neg z1,if_neg (fun e=>hq (.inr e))]
 · rintro q (rfl|hq)
   · exact .inl ⟨hm2.1,fun id0 ob _ h0=>hm2.2.1 id0 ob h0⟩
   exact .inr (.inl (o1 q hq))
 · rintro q ob (rfl|hq) hob'
   · rw [o2]at hob'
     cases hob';have hlenn:n<=maxLen:=hbf.len
     have apart:∀i b,i<n->az (rws i)=some b->az (c.own id)≠some b/\∀i',i'<n->az (rws i')=some b->i'=i:=fun i b hi hb=>by
      have own_i:(i=r/\c.blk id' b)\/(i≠r/\c.blk idb b):=by
       by_cases hir:i=r
       · subst hir;rw[rr]at hb;exact .inl ⟨rfl,hcr b hb⟩
       rw[rn i hir]at hb;exact .inr ⟨hir,hcb i b hi hir hb⟩
      refine⟨fun he=>?_,fun i' hi' hb'=>?_⟩
      · rw [htc]at he
        cases he
        rcases own_i with⟨_,h7⟩|⟨_,h7⟩
        · exact x1 (h.inj id' id _ _ _ ho' ho h7 hct)
        exact x2 (h.inj idb id _ _ _ hob ho h7 hct)
      by_cases hir:i=r
      · by_cases hir':i'=r
        · rw[hir,hir']
        rw[rn i' hir']at hb';have h7:=hcb i' b hi' hir' hb'
        rcases own_i with⟨_,h8⟩|⟨h8,_⟩
        · exact(x3 (h.inj idb id' _ _ b hob ho' h7 h8)).elim
        exact(h8 hir).elim
      by_cases hir':i'=r
      · subst hir'
        rw[rr]at hb';have h7:=hcr b hb'
        rcases own_i with⟨h8,_⟩|⟨_,h8⟩
        · exact(hir h8).elim
        exact(x3 (h.inj idb id' _ _ b hob ho' h8 h7)).elim
      rw[rn i hir]at hb;rw[rn i' hir']at hb';exact hbf.apart i i' b hi hir hi' hir' hb hb'
     have hlens:∀i,i<n->fk m r k i<=maxLen:=fun i hi=>by
      by_cases hir:i=r
      · subst hir;rw[s6];exact q1
      rw[qw hir]
      rcases hbf.row i hi hir with⟨h1,_⟩|⟨_,_,_,_,_,_,h1,h2,_⟩
      · omega
      omega
     have hrow2:∀i,i<n->(fk m r k i=0/\∃a,rws i=.slice a 0 0)\/∃ys,w.ownsRow 0 et es (rws i) (fk m r k i) ys/\∀q j,q<fk m r k i->j<es->∃x,ys[q*es+j]? = some x/\aq c.imm (fv g r ff i q j) x:=fun i hi=>by
      by_cases hir:i=r
      · subst hir
        rw[rr,s6,agu];exact hrow
      rw[rn i hir,qw hir,acp hir]
      rcases hbf.row i hi hir with h1|⟨b,cap,cur,h1,_,h3,h4,h6,h7,h8⟩
      · exact .inl h1
      have hh:=(b2 b _ h3).2.2.1;refine .inr ⟨cur.toList.take (m i*es),⟨?_, .inr ⟨b,cap,cur,h1,bsx _,hh,h4,h6,h7,rfl⟩⟩,fun q j hq hj=>?_⟩
      · rw[bt4,bu2,h7,btz (bt9 _ h4)]
      obtain⟨x,e1,e2,e3⟩:=h8 q j hq hj;exact⟨x,e1,by rw[e2];exact⟨rfl,e3⟩⟩
     refine⟨q0,by simpa [ni]using hlenn,hlens,fun b=>?_,fun i b hi hb=>?_,fun i hi=>?_, .inr ⟨xt, ?_,fun i hi=>?_,fun p hp=>by cases hp⟩⟩
     · show blk' q b<->(az (own' q)=some b\/∃i,i<n/\az (rows' q i)=some b)
       rw[k2,w2,s2]
     · have hb:az (rows' q i)=some b:=hb
       rw[s2]at hb;show az (own' q)≠some b/\∀i',i'<n->az (rows' q i')=some b->i'=i;rw[w2,s2];exact apart i b hi hb
     · show (fk m r k i=0/\∃a,rows' q i=.slice a 0 0)\/∃ys,w.ownsRow 0 et es (rows' q i) (fk m r k i) ys/\_
       rw[s2];exact hrow2 i hi
     · show w.ownsRow 0 e 1 (own' q) n xt
       rw[w2];exact t1
     show xt[i]? = some (rows' q i);rw[s2];exact hrows i hi
   rw[o1 q hq]at hob';cases hob'
 · rintro q ob b (rfl|hq) hob' hb
   · rw [k2]at hb
     rcases hfrom b hb with h7|h7|h7
     · exact⟨id,_, .inr (.inl rfl),ho,h7⟩
     · exact⟨id',_, .inr (.inr (.inl rfl)),ho',h7⟩
     exact⟨idb,_, .inr (.inr (.inr rfl)),hob,h7⟩
   rw[o1 q hq]at hob';cases hob'
 rintro q q' ob ob' b (rfl|hq) (rfl|hq') h7 h8 _ _
 · rfl
 · rw[o1 q' hq']at h8;cases h8
 · rw[o1 q hq]at h7;cases h7
 rw[o1 q hq]at h7;cases h7
theorem ah.renN (h:ah w0 nt c s a w) {id id2 n:Nat} {e:TypeId} {es:Nat} (ho:s.o id=some (.nest e et es n m g none)) (hid:id<1000) (hm2:NM s id2) (hn2:s.o id2=none):
 ∃c',c'.old=c.old/\c'.own id2=c.own id/\ah w0 nt c' ⟨s.t,fun q=>if q=id2 then some (.nest e et es n m g none)else if q=id then none else s.o q⟩ a w:=by
 have y1:id2≠id:=by rintro rfl;rw[ho]at hn2;cases hn2
 have hnk:lm 0 c s.o w id e et es n m g none:=h.objs id _ ho
 let own':Nat->Value:=fun q=>if q=id2 then c.own id else c.own q
 let blk':Nat->Nat->Prop:=fun q=>if q=id2 then c.blk id else c.blk q
 let rows':Nat->Nat->Value:=fun q=>if q=id2 then c.rows id else c.rows q
 let o':au:=fun q=>if q=id2 then some (.nest e et es n m g none)else if q=id then none else s.o q
 have o2:o' id2=some (.nest e et es n m g none):=if_pos rfl
 have o1:o' id=none:=by
  grind
 have w2:own' id2=c.own id:=if_pos rfl;have k2:blk' id2=c.blk id:=if_pos rfl;have s2:rows' id2=c.rows id:=if_pos rfl;refine⟨{ old:=c.old,imm:=c.imm,tab:=c.tab,own:=own',blk:=blk',rows:=rows' },rfl,w2,h.redo (fun q=>q=id2\/q=id) own' blk' rows' o' ?_ ?_ ?_ ?_ ?_ ?_⟩
 · rintro q (rfl|rfl)
   · exact hm2.2.2
   exact hid
 · grind
 · rintro q (rfl|rfl)
   · exact .inl ⟨hm2.1,fun id0 ob _ h0=>hm2.2.1 id0 ob h0⟩
   exact .inr (.inl o1)
 · rintro q ob (rfl|rfl) hob'
   · rw [o2]at hob'
     cases hob';obtain⟨p1,p2,p3,p4,p5,p6,p7⟩:=hnk;have z4:∀b,blk' q b<->(az (own' q)=some b\/∃i,i<n/\az (rows' q i)=some b):=by rw[k2,w2,s2];exact p4
     have z5:∀i b,i<n->az (rows' q i)=some b->az (own' q)≠some b/\∀i',i'<n->az (rows' q i')=some b->i'=i:=by rw[w2,s2];exact p5
     have z6:∀i,i<n->(m i=0/\∃a,rows' q i=.slice a 0 0)\/∃ys,w.ownsRow 0 et es (rows' q i) (m i) ys/\∀r j,r<m i->j<es->∃x,ys[r*es+j]? = some x/\aq c.imm (g i r j) x:=by rw[s2];exact p6
     have z7:(n+ni none=0/\∃a,own' q=.slice a 0 0)\/∃xs,w.ownsRow 0 e 1 (own' q) (n+ni none) xs/\∀i,i<n->xs[i]? = some (rows' q i):=by
      grind
     exact⟨p1,p2,p3,z4,z5,z6,z7.imp (fun z=>z) fun⟨xs,h1,h2⟩=>⟨xs,h1,h2,fun p hp=>by cases hp⟩⟩
   grind
 · grind
 grind
end
end
section
variable {ro:Option Nat}{P:Program}{nt:Nat}{st:HSt}{Q:Exit->HSt->Prop}{co:Code}
def rj {t:List (Nat×Option HR)} {l:List (Nat×Option a7)} {o':au} (h:∀q,ay l q=o' q):HSt.den ⟨t,l⟩=⟨(HSt.den ⟨t,l⟩).t,o'⟩:=by
 unfold HSt.den;congr 1;exact funext h
section
variable {e et:TypeId}{g:Nat->Nat->Nat->PV}{m:Nat->Nat}
def api (id r id' idb:Nat) {n:Nat} {es:Nat} (ho:ay st.o id=some (.nest e et es n m g none)) (hr:r<n) (hraw:∀i q j,i<n->q<m i->j<es->∃v,g i q j=.raw v) (h:∀hd B,aps et es n r m g hd B->HW (ro:=ro) P nt co ⟨st.t,(idb,some (.bun B))::(id',some (.arr true es et (m r) (g r)))::(id,some (.arrh 1 e n [id'] (hdF hd id' r (m r))))::st.o⟩ Q) (hid:Nat.blt id 1000=true:=by exact rfl) (h1:jp id' st=true:=by exact rfl) (h2:jp idb st=true:=by exact rfl) (hne:Nat.beq id' idb=false:=by exact rfl):HW (ro:=ro) P nt co st Q:=fun w0 m0 a w hr0=>by
 obtain⟨cc,hold,hrr⟩:=hr0;obtain⟨hm',hn'⟩:=ek h1;obtain⟨hmb,hnb⟩:=ek h2;have hne':id'≠idb:=by intro e;subst e;simp at hne
 obtain⟨hd,B,c',q1,q2,q3⟩:=hrr.split ho (by simpa [bvx]using hid) hr hraw hm' hn' hmb hnb hne';refine h hd B q1 w0 m0 a w ⟨c',q2.trans hold, ?_⟩;rw[rj (o':=fun q=>if q=idb then some (.bun B)else if q=id' then some (.arr true es et (m r) (g r))else if q=id then some (.arrh 1 e n [id'] (hdF hd id' r (m r)))else st.den.o q) (fun q=>by simp only[aw];rfl)];exact q3
theorem ao4 (d id id' idb id2:Nat) {r n n' k:Nat} {es:Nat} {ms:List Nat} {f:Nat->Nat->HV} {ff:Nat->Nat->PV} {hd:Nat->Value} {B:Nat->Option Obj} (hbf:aps et es n r m g hd B) (hd0:ay st.t d=some (.v (.one (.ref id n')))) (ho:ay st.o id=some (.arrh 1 e n ms f)) (ho':ay st.o id'=some (.arr true es et k ff)) (hob:ay st.o idb=some (.bun B)) (hr:r<n) (hfr:f r 0=.ref id' k) (hfi:∀i,i<n->i≠r->f i 0=.p (.raw (hd i))) (h:HW (ro:=ro) P nt co ⟨(d,some (.v (.one (.ref id2 n))))::st.t,(id2,some (.nest e et es n (fk m r k) (fv g r ff) none))::(id,none)::(id',none)::(idb,none)::st.o⟩ Q) (hn:n'=n:=by exact rfl) (hid:(Nat.blt id 1000&&Nat.blt id' 1000&&Nat.blt idb 1000)=true:=by exact rfl) (h1:jp id2 st=true:=by exact rfl):HW (ro:=ro) P nt co st Q:=by
 subst hn;obtain⟨hm2,hn2⟩:=ek h1;simp only[bt5,bvx]at hid;refine ve ⟨st.t,(id2,some (.nest e et es n' (fk m r k) (fv g r ff) none))::(id,none)::(id',none)::(idb,none)::st.o⟩ d (.v (.one (.ref id2 n'))) (fun w0 m0 a w hr0=>?_) h;obtain⟨cc,hold,hrr⟩:=hr0;obtain⟨c',q1,q2,q3⟩:=hrr.join ho ho' hob hbf hr hfr hfi hid.1.1 hid.1.2 hid.2 hm2 hn2;have hu:bj cc st.den.o (.ref id n') (a.tmps.getD d undef):=hrr.tmps d _ hd0;have he:a.tmps.getD d undef=cc.own id:=(hu.2.2 _ _ _ _ ho rfl).2 rfl
 have hl:∀q,ay ((id2,some (a7.nest e et es n' (fk m r k) (fv g r ff) none))::(id,none)::(id',none)::(idb,none)::st.o) q=(if q=id2 then some (.nest e et es n' (fk m r k) (fv g r ff) none)else if q=id\/q=id'\/q=idb then none else st.den.o q):=fun q=>by
  simp only[aw];by_cases a1:q=id2
  · grind
  rw[if_neg a1,if_neg a1];by_cases a2:q=id
  · grind
  rw[if_neg a2];by_cases a3:q=id'
  · grind
  rw[if_neg a3];by_cases a4:q=idb
  · grind
  rw[if_neg a4,if_neg (by rintro(e|e|e)<;>contradiction)];rfl
 refine⟨c',q1.trans hold,by rw[rj hl];exact q3, ?_⟩;rw[rj hl];refine⟨hu.1,fun l hl2=>by simp at hl2,fun ob2 s2 e2 n2 ho2 hd2=>?_⟩;simp only[if_true,bst]at ho2;subst ho2;simp only[a7.dim,bst,bt2]at hd2
 grind
theorem be0 {w0:World} {cc c':Ctx} {a:Act} {w:World} {m0:Old} {d id id2 n:Nat} {ob ob2:a7} {sz:Nat} (hrr:ah w0 nt cc st.den a w) (hold:cc.old=m0) (hd0:ay st.t d=some (.v (.one (.ref id n)))) (ho:ay st.o id=some ob) (hdm:ob.dim=some (sz,e,n)) (hdm2:ob2.dim=some (sz,e,n)) (q1:c'.old=cc.old) (q2:c'.own id2=cc.own id) (q3:ah w0 nt c' ⟨st.den.t,fun q=>if q=id2 then some ob2 else if q=id then none else st.den.o q⟩ a w):
 ∃c,c.old=m0/\ah w0 nt c (HSt.den ⟨st.t,(id2,some ob2)::(id,none)::st.o⟩) a w/\ar c (HSt.den ⟨st.t,(id2,some ob2)::(id,none)::st.o⟩).o (.v (.one (.ref id2 n))) (a.tmps.getD d undef):=by
 have hu:bj cc st.den.o (.ref id n) (a.tmps.getD d undef):=hrr.tmps d _ hd0;have he:a.tmps.getD d undef=cc.own id:=(hu.2.2 _ _ _ _ ho hdm).2 rfl
 have hl:∀q,ay ((id2,some ob2)::(id,none)::st.o) q=(if q=id2 then some ob2 else if q=id then none else st.den.o q):=fun q=>by
  simp only[aw];rfl
 refine⟨c',q1.trans hold,by rw[rj hl];exact q3, ?_⟩;rw[rj hl];refine⟨hu.1,fun l hl2=>?_,fun ob3 s3 e3 n3 ho3 hd3=>?_⟩
 · simp only [if_true,bst]at hl2
   rw[hl2]at hdm2;cases hdm2
 grind
def ats (d id id2:Nat) {n n':Nat} {es:Nat} (hd0:ay st.t d=some (.v (.one (.ref id n')))) (ho:ay st.o id=some (.nest e et es n m g none)) (h:HW (ro:=ro) P nt co ⟨(d,some (.v (.one (.ref id2 n))))::st.t,(id2,some (.nest e et es n m g none))::(id,none)::st.o⟩ Q) (hn:n'=n:=by exact rfl) (hid:Nat.blt id 1000=true:=by exact rfl) (h1:jp id2 st=true:=by exact rfl):HW (ro:=ro) P nt co st Q:=by
 subst hn;obtain⟨hm2,hn2⟩:=ek h1;refine ve ⟨st.t,(id2,some (.nest e et es n' m g none))::(id,none)::st.o⟩ d (.v (.one (.ref id2 n'))) (fun w0 m0 a w hr0=>?_) h;obtain⟨cc,hold,hrr⟩:=hr0;obtain⟨c',q1,q2,q3⟩:=hrr.renN ho (by simpa [bvx]using hid) hm2 hn2;exact be0 hrr hold hd0 ho rfl rfl q1 q2 q3
end
end
end
section
open Go.RowKit
def bs9(B:Nat->Option Obj)(b:Nat)(x:Option Obj):Nat->Option Obj:=fun q=>if q=b then x else B q
def a4n(o:au)(x y:HV):Prop:=x=y\/∃id d v b ob,o id=some (.ex d v b ob)/\v.oneCell'=true/\((x=.ref id 0/\y=.p (.raw v))\/(x=.p (.raw v)/\y=.ref id 0))
def agw (o:au):List HV->List HV->Prop
 | [],[]=>True
 |x::xs,y::ys=>a4n o x y/\agw o xs ys
 |_,_=>False
def bph (o:au):HC->HC->Prop
 | .one x, .one y=>a4n o x y
 | .agg l, .agg m=>agw o l m
 |_,_=>False
def bio (o:au):HR->HR->Prop
 | .v x, .v y=>bph o x y
 |_,_=>False
def a4n.to{o:au}{id d:Nat}{v:Value}{b:Nat}{ob:Obj}(h:o id=some (.ex d v b ob))(h1:v.oneCell'=true):a4n o (.ref id 0) (.p (.raw v)):=.inr ⟨id,d,v,b,ob,h,h1, .inl ⟨rfl,rfl⟩⟩
def a4n.from{o:au}{id d:Nat}{v:Value}{b:Nat}{ob:Obj}(h:o id=some (.ex d v b ob))(h1:v.oneCell'=true):a4n o (.p (.raw v)) (.ref id 0):=.inr ⟨id,d,v,b,ob,h,h1, .inr ⟨rfl,rfl⟩⟩
section
variable {w0:World}{nt:Nat}{c:Ctx}{s:S}{a:Act}{w:World}
def a4n.rep(h:ah w0 nt c s a w){x y:HV}{u:Value}(hs:a4n s.o x y)(hr:bj c s.o x u):bj c s.o y u:=by
 rcases hs with rfl|⟨id,d,v,b,ob,ho,h1,⟨rfl,rfl⟩|⟨rfl,rfl⟩⟩
 · exact hr
 · have h2:=(h.objs id _ ho).1
   obtain⟨h3,_,h4⟩:=hr;have h5:=(h4 _ _ _ _ ho rfl).2 rfl;exact⟨h5.trans h2,h1⟩
 have h2:=(h.objs id _ ho).1;obtain⟨h3,_⟩:=hr;refine⟨by rw[h3];exact h1,fun l hl=>(by rw[ho]at hl;cases hl),fun ob2 s2 e2 n2 ho2 hd2=>?_⟩;rw[ho]at ho2;cases ho2;simp only[a7.dim,bst,bt2]at hd2;obtain⟨rfl,rfl,rfl⟩:=hd2;exact⟨bsw _,fun _=>h3.trans h2.symm⟩
def agw.rep (h:ah w0 nt c s a w):∀{x y:List HV} {u:List Value},agw s.o x y->bf c s.o x u->bf c s.o y u
 | [],[],_,_,hr=>hr
 |_::_,_::_,_::_,hs,hr=>⟨hs.1.rep h hr.1,agw.rep h hs.2 hr.2⟩
 | [],_::_,_,hs,_=>hs.elim
 |_::_,[],_,hs,_=>hs.elim
 |_::_,_::_,[],_,hr=>hr.elim
def bio.rep (h:ah w0 nt c s a w) {x y:HR} {u:Value} (hs:bio s.o x y) (hr:ar c s.o x u):ar c s.o y u:=by
 match x,y,hs with
 | .v (.one x), .v (.one y),hs=>exact a4n.rep h hs hr
 | .v (.agg l), .v (.agg m),hs =>
  obtain⟨us,e,hl⟩:=hr;exact⟨us,e,agw.rep h hs hl⟩
end
section
variable {ro:Option Nat}{P:Program}{nt:Nat}{co:Code}{st:HSt}{Q:Exit->HSt->Prop}
end
end
end Go.Hx
