/- A part of the proof: Hx20 B1 Cs20 V18 Cs21 V19 Cs22 Cs23. -/
import Derived.Test.YtnlcekpflogjkaaGreatDoorTz18
set_option linter.all false
set_option maxRecDepth 100000
namespace Go.Hx
section
open Go.RowKit
def b80 (P:Program) (g:FuncId) (caps:List PC) (n:Nat) (xs:Nat->List PC):Prop :=
 ∀ (imm:Imm) (_:tx imm) (us:List Value) (W:World) (l:Nat) (J:Nat->World->Prop),cu imm caps us ->
  (∀i A,J i A->∀b ob,imm b=some ob->A.heap[b]? = some ob) ->
  (∀i A A',J i A->Below A.heap.size A A'->J i A') ->
  (∀i A vs,i<n->J i A->cu imm (xs i) vs->YieldAt (rf none) 0 P l vs.toArray A fun e A'=>e=.returned (.bool true)/\J (i+1) A') ->
  J 0 W->CallsIn (rf none) 0 P g (#[.func (.yield l) #[] #[]]++us.toArray) W fun e W'=>(∃v,e=.returned v)/\J n W'
section
variable {P:Program}{nt:Nat}{c:Ctx}{s:S}{a:Act}{w w0:World}
def yh {l b:Nat} {o:Obj} (hb:b≠l):(w.putObj l o).heap[b]? = w.heap[b]?:=by
 show(w.heap.setIfInBounds l _)[b]? = _;rw[Array.getElem?_setIfInBounds_ne (Ne.symm hb)]
def ajd {l:Nat} {o o1:Obj} (hl:w.heap[l]? = some o1):(w.putObj l o).heap[l]? = some o:=by
 show(w.heap.setIfInBounds l _)[l]? = _;rw[Array.getElem?_setIfInBounds_self_of_lt (bt5.1 hl).1]
def ah.turn(h:ah w0 nt c s a w){l:Nat}{o1:Obj}(o2:Obj)(fo:Option Obj)(hl:w.heap[l]? = some o1)(hc:up o1=false)(hd:∀ds,o1≠.deferred ds)(hi:c.imm l=none)(hi0:fo≠none->c.old.1 l=none)(hfo:fo=none\/fo=some o2) :
 ah w0 nt { old:=(c.old.1,fun b=>if b=l then fo else c.frm b,c.old.2.2),imm:=c.imm,tab:=c.tab,own:=c.own,blk:=c.blk,rows:=c.rows } s a (w.putObj l o2):=by
 have hblk:∀id ob b,s.o id=some ob->c.blk id b->b≠l:=fun id ob b ho hb e=>by
  obtain⟨x1,hcc,hdt⟩:=(h.objs id ob ho).data hb;rw[e,hl]at hcc;simp only[bsy]at hcc;rw[<- hcc,hc]at hdt;cases hdt
 have hil:∀b ob,c.imm b=some ob->b≠l:=fun b ob hb e=>by rw[e,hi]at hb;cases hb
 refine⟨⟨h.defers.1,fun d hdd=>?_⟩,h.size, ?_,fun d x hx=>aq.evo (c:=c) (o:=s.o) (Imm.le.refl c.imm) (fun _ _=>Evo.of_same rfl rfl) (h.tmps d x hx),fun id ob ho=>?_,h.inj,fun b ob hb=>(yh (hil b ob hb)).trans (h.imm b ob hb),h.sep,fun b hb=>?_,fun b ob hb=>?_,fun id ob b ho hb=>?_,fun id hid=>h.fixed id hid⟩
 · obtain ⟨D,e,g1,g2,g3,g4⟩:=h.defers.2 d hdd
   have hne:D≠l:=fun e=>by
    rw[e,hl]at g1;simp only[bsy]at g1;exact hd _ g1
   exact⟨D,e,(yh hne).trans g1,g2,by show(if D=l then fo else c.frm D)=none;rw[if_neg hne];exact g3,g4⟩
 · have hb:=h.below
   exact⟨hb.os,hb.tape,hb.output,by show _<=(w.heap.setIfInBounds l _).size;rw[Array.size_setIfInBounds];exact hb.size,fun k hk=>absurd hk (bt9 k),hb.drawn⟩
 · exact(h.objs id ob ho).keep (Imm.le.refl c.imm) rfl rfl (fun _ _=>Evo.of_same rfl rfl) fun b hb=>yh (hblk id ob b ho hb)
 · have hb:(if b=l then fo else c.frm b)≠none:=hb
   show c.imm b=c.old.1 b;by_cases e:b=l
   · subst e
     rw[if_pos rfl]at hb;rw[hi,hi0 hb]
   rw[if_neg e]at hb;exact h.was b hb
 · have hb:(if b=l then fo else c.frm b)=some ob:=hb
   by_cases e:b=l
   · subst e
     rw[if_pos rfl]at hb
     rcases hfo with rfl|rfl
     · cases hb
     rw[ajd hl];exact hb
   rw[if_neg e]at hb;exact(yh e).trans (h.frm b ob hb)
 show(if b=l then fo else c.frm b)=none;rw[if_neg (hblk id ob b ho hb)];exact h.fsep id ob b ho hb
def ah.turn0 (h:ah w0 nt c s a w) {l:Nat} {o1:Obj} (o2:Obj) (hl:w.heap[l]? = some o1) (hc:up o1=false) (hd:∀ds,o1≠.deferred ds) (hi:c.imm l=none) (hf:c.frm l=none):ah w0 nt c s a (w.putObj l o2):=by
 have:=h.turn o2 none hl hc hd hi (fun e=>absurd rfl e) (.inl rfl)
 have e:(fun b=>if b=l then none else c.frm b)=c.frm:=by
  funext b;by_cases hb:b=l
  · rw[if_pos hb,hb,hf]
  rw[if_neg hb]
 rw[e]at this;exact this
end
def a0l (r:Nat->Nat):List (Nat×Option HR)->List (Nat×Option HR)
 | []=>[]
 |(d,some x)::l=>(d,some (x.ren r))::a0l r l
 |(d,none)::l=>(d,none)::a0l r l
def a7u (r:Nat->Nat):∀(l:List (Nat×Option HR)) (d:Nat),b5 (a0l r l) d=(b5 l d).map (HR.ren r)
 | [],d=>rfl
 | (e,some x)::l,d=>by
  simp only[a0l,b5]
  cases Nat.beq e d with
  |true=>rfl
  |false=>simpa using a7u r l d
 | (e,none)::l,d=>by
  simp only[a0l,b5]
  cases Nat.beq e d with
  |true=>rfl
  |false=>simpa using a7u r l d
def rgB (r:Nat->Nat) (T:List (Nat×Option HR)) (o1 o2:List (Nat×aa)) (fx:List Nat):Bool :=
 (fx.all fun id=>Nat.ble 1000 (r id))&&((keys o2).all fun id=>(ww fx id&&ww (keys o1) id)||(Nat.blt id 1000&&nmT id T))&&(ac0 o2).all (ww (keys o2))
def b6l{r:Nat->Nat}{T:List (Nat×Option HR)}{o1 o2:List (Nat×aa)}{fx:List Nat}(h:rgB r T o1 o2 fx=true) :
 (∀id∈fx,1000<=r id)/\(∀id∈keys o2,id∉fx\/id∉keys o1->id<1000/\nmT id T=true)/\(∀id ob,lk o2 id=some ob->∀k,ob.men k->k∈keys o2):=by
 simp only[rgB,bt3,btl]at h;obtain⟨⟨h1,h2⟩,h3⟩:=h;refine⟨fun id hid=>bt4 (h1 id hid),fun id hid hor=>?_,fun id ob hid k hk=>?_⟩
 · have:=h2 id hid
   simp only[buk,bt3]at this
   rcases this with⟨q1,q2⟩|⟨q1,q2⟩
   · rcases hor with e|e
     · exact absurd (ke.1 q1) e
     exact absurd (ke.1 q2) e
   exact⟨by simpa [bvk]using q1,q2⟩
 have hmem:∀{l:List (Nat×aa)},lk l id=some ob->(id,ob)∈l:=by
  intro l
  induction l with
  |nil=>intro h;cases h
  | cons p l ih =>
   obtain⟨e,x⟩:=p;intro h;simp only[lk]at h
   cases hb:Nat.beq e id with
   | true =>
    rw[hb]at h;simp only[cond_true,bsy]at h;rw[<- btx hb,h];exact buc
   | false =>
    rw[hb]at h;exact bub _ (ih (by simpa using h))
 exact ke.1 (h3 k (a4o (hmem hid) (aa.men_ids hk)))
def bpc(P:Program)(nt l:Nat)(body:Code)(Q:HSt->Prop)(e:Exit)(st:HSt):Prop:=e=.normal/\HW (ro:=some l) P nt body st fun e st=>e=.normal/\Q st
def b2u{st:HSt}{P:Program}{nt:Nat}{Q:Exit->HSt->Prop}{ι:Type}{g:Operand}{p0 p1:Tmp}{assign body:Code}{gf:FuncId}{k:Nat}{caps:Nat->PV}{n:Nat}{xs0 xs1:Nat->PC}(r:Nat->Nat)(hr:∀k,r (r k)=k)
 (hg:ev st.den g=some (.v (.one (.p (.fn gf k caps))))) (hf:goodFn P gf) (hit:b80 P gf (ic caps k 0) n fun i=>[xs0 i,xs1 i])
 (T:List (Nat×Option HR)) (O:ι->List (Nat×aa)) (p:Nat->ι->Prop) (x0:ι) (hx0:p 0 x0) (hsub:Sub ⟨T,mn (O x0)⟩ st) (fx:List Nat)
 (hB:∀x y,rgB r T (O x) (O y) fx=true) (hp0:Nat.blt p0 nt=true) (hp1:Nat.blt p1 nt=true)
 (hround:∀(l i:Nat) (x:ι),i<n->p i x->HW (ro:=some l) P nt assign ⟨(p1,some (.v (xs1 i).toH))::(p0,some (.v (xs0 i).toH))::a0l r T,mn (kf r (O x))⟩
  (bpc P nt l body fun st2=>∃y,p (i+1) y/\ahg (kf r (O y)) st2.den.o))
 (hdone:∀y,p n y->Q .normal ⟨T,mn (O y)⟩):HW (ro:=none) P nt (.rangeFunc g #[p0,p1] assign body) st Q:=by
 classical
 intro w0 m0 a w hrel;obtain⟨c0,hold0,h0⟩:=hrel;obtain⟨cs,e1,hcl,hcr⟩:=af h0 hg;have hsT:∀x:ι,(HSt.den ⟨T,mn (O x)⟩).o=lk (O x):=fun x=>zg _;have h1:=h0.relax (HSt.den ⟨T,mn (O x0)⟩) (fun d x hx=>yd hsub.1 d x hx) (fun d x hx=>a1t hsub.2 d x hx)
 have hcaps:cu c0.imm (ic caps k 0) cs:=by
  have:=vm (m:=c0.imm) (caps:=caps) k 0 cs bx5 (fun j hj=>by
   obtain⟨x,hx,hr⟩:=hcr j bx5
   exact⟨x,hx,hr⟩)
  simpa using this
 obtain⟨fg,hfg,hname,hbody⟩:=hf
 have eg:∀args (w:World),(callFunc gf args).run P w=.ok (.enter gf args) w:=fun args w=>by
  simp only[callFunc,bu5,run_program,btj,hfg,hname,hbody];simp
 refine wpIn_rangeFunc ?_;intro fn hfn;obtain⟨rec,hrec⟩:∃rec:LoopState->Option Code->Loop,rec=fun st pe=>{ state:=st,pending:=pe,fn,tmps:=a.tmps,params:=#[p0,p1],assign,body,defers:=w.heap.size }:=⟨_,rfl⟩;obtain⟨W1,hW1⟩:∃W1,(w.alloc (.deferred (some []))).alloc (.loop (rec .ready none))=W1:=⟨_,rfl⟩
 have hL1:W1.heap[w.heap.size+1]? = some (.loop (rec .ready none)):=by
  rw[<- hW1];have:=World.alloc_heap_new (w.alloc (.deferred (some []))) (.loop (rec .ready none));rwa [World.size_alloc]at this
 have hK1:W1.heap[w.heap.size]? = some (.deferred (some [])):=by
  rw[<- hW1];exact(Below.heap_alloc _ _ _ bx8).trans (World.alloc_heap_new w _)
 have hb1:Below w.heap.size w W1:=by
  rw[<- hW1];exact(((Below.refl _ w).alloc (bt2 _) _).alloc bx8 _)
 obtain⟨l,hl⟩:∃l,l=w.heap.size+1:=⟨_,rfl⟩;rw[<- hl]at hL1
 have hnew:∀b,w.heap.size<=b->c0.imm b=none/\c0.frm b=none:=fun b hb=>by
  refine⟨?_, ?_⟩
  · cases hi:c0.imm b with
    |none=>rfl
    |some ob=>have:=(bt5.1 (h0.imm b ob hi)).1;omega
  cases hi:c0.frm b with
  |none=>rfl
  |some ob=>have:=(bt5.1 (h0.frm b ob hi)).1;omega
 have hfl:m0.2.1 l=none:=by rw[<- hold0];exact(hnew l bx5).2
 let aM:Act:={ a with defers:=[{ target:=.collected w.heap.size,args:=#[] }]++a.defers }
 have hM:ah w0 nt c0 (HSt.den ⟨T,mn (O x0)⟩) aM W1:=by
  have h2:=h1.later W1 hb1 c0.imm (fun _ _=>rfl) (fun b ob hb=>(hb1.block b (bt5.1 (h1.imm b ob hb)).1).trans (h1.imm b ob hb));refine⟨⟨btz.2 ⟨fun d hd e=>?_,h2.defers.1⟩,fun d hd=>?_⟩,h2.size,h2.below,h2.tmps,h2.objs,h2.inj,h2.imm,h2.sep,h2.was,h2.frm,h2.fsep,h2.fixed⟩
  · obtain ⟨D,e2,g1,_⟩:=h1.defers.2 d hd
    rw[<- e]at e2;simp only[Deferred.mk.injEq,Target.collected.injEq,and_true]at e2;have:=(bt5.1 g1).1;omega
  rcases btd.1 hd with rfl|hd
  · exact⟨w.heap.size,rfl,hK1,(hnew _ (bt2 _)).1,(hnew _ (bt2 _)).2,h0.below.size⟩
  exact h2.defers.2 d hd
 let J:Nat->World->Prop:=fun i A=>∃x c,p i x/\c.old=m0/\Imm.le c0.imm c.imm/\c.imm l=none/\ah w0 nt c (HSt.den ⟨T,mn (O x)⟩) aM A/\A.heap[l]? = some (.loop (rec .ready none))
 refine⟨l,[{ target:=.collected w.heap.size,args:=#[] }],W1,{ target:=.fn (.func gf) cs.toArray,args:=#[.func (.yield l) #[] #[]] },W1,gf,#[.func (.yield l) #[] #[]]++cs.toArray,W1, ?_, ?_,fun _ _=>trivial, ?_,fun hh=>absurd hh (by simp[rf]), ?_⟩
 · rw[<- hW1,hrec,hl];exact run_enterLoop_outer _ _ _ _ _
 · simp only [resolve,e1]
   simp[go_sem]
 · simp[invoke,go_sem,eg]
 have hJ0:J 0 W1:=⟨x0,c0,hx0,hold0,Imm.le.refl _,(hnew l bx5).1,hM,hL1⟩;have hnd:∀(st:LoopState) (pe:Option Code),up (Obj.loop (rec st pe))=false/\∀ds,Obj.loop (rec st pe)≠.deferred ds:=fun st pe=>⟨rfl,(fun _ e=>by cases e)⟩;refine(hit c0.imm c0.tab cs W1 l J hcaps (fun i A ⟨x,c,_,_,hle,_,hR,_⟩ b ob hb=>hR.imm b ob (hle b ob hb)) (fun i A A' ⟨x,c,hp,ho,hle,hil,hR,hA⟩ hb=>?_) (fun i A vs hi hJ hvs=>?_) hJ0).mono ?_
 · refine⟨x,_,hp,ho,hle,hil,hR.later A' hb c.imm (fun _ _=>rfl) (fun b ob hb'=>(hb.block b (bt5.1 (hR.imm b ob hb')).1).trans (hR.imm b ob hb')),(hb.block l (bt5.1 hA).1).trans hA⟩
 · obtain ⟨x,c,hp,ho,hle,hil,hR,hA⟩:=hJ
   obtain ⟨v0,v1,rfl,hv0,hv1⟩:∃v0 v1,vs=[v0,v1]/\j6 c0.imm (xs0 i) v0/\j6 c0.imm (xs1 i) v1:=by
    match vs,hvs with
    | [v0,v1],⟨q0,q1,_⟩=>exact⟨v0,v1,rfl,q0,q1⟩
   refine⟨fn,(a.tmps.setIfInBounds p0 v0).setIfInBounds p1 v1,assign,body, ?_, ?_⟩
   · have:=run_yield (P:=P) (l:=l) (r:=rec .ready none) (args:=#[v0,v1]) hA (by rw[hrec];rfl)
     rw[this,hrec];simp
   have hmem:Mem c (lk (O x)) A:=by
    have:=hR;rw[<- hsT x];exact⟨hR.objs,hR.inj,hR.imm,hR.sep⟩
   have hmemR:Mem (c.ren r) (lk (kf r (O x))) A:=(Mem.ren hr (tf hr (O x))).2 (by rw[Ctx.ren_ren hr];exact hmem)
   let own2:Nat->Prop:=fun b=>∃id ob,lk (kf r (O x)) id=some ob/\(c.ren r).blk id b
   let frmR:Imm:=fun b=>if own2 b then none else A.heap[b]?
   let oldR:Old:=(c.imm,frmR,(c.ren r).own,lk (kf r (O x)),(c.ren r).rows)
   let cR:Ctx:={ old:=oldR,imm:=c.imm,tab:=c.tab,own:=(c.ren r).own,blk:=(c.ren r).blk,rows:=(c.ren r).rows }
   have hsR:(HSt.den ⟨a0l r T,mn (kf r (O x))⟩).o=lk (kf r (O x)):=zg _
   have hround0:ah A nt cR (HSt.den ⟨a0l r T,mn (kf r (O x))⟩) { tmps:=a.tmps,defers:=[] } A:=by
    refine⟨rz.nil _ _ _ _,hR.size,Below.refl _ _,fun d y hy=>?_,fun id ob hob=>?_,fun id id' ob ob' b hob hob'=>?_,hR.imm,fun id ob b hob=>?_,fun b _=>rfl,fun b ob hbo=>?_,fun id ob b hob hbb=>?_,fun id _=>Evo.of_same (congrFun hsR id) rfl⟩
    · have hy:b5 (a0l r T) d=some y:=hy
      rw[a7u]at hy
      cases hd:b5 T d with
      |none=>rw[hd]at hy;cases hy
      | some z =>
       rw[hd]at hy;simp only[bts,bsy]at hy;subst hy;have hz:=hR.tmps d z hd;rw[hsT x]at hz;rw[hsR];have:=(aq.ren (c:=c.ren r) (r:=r) (tf hr (O x)) (x:=z) (u:=aM.tmps.getD d undef)).2 (by rw[Ctx.ren_ren hr];exact hz);exact aq.evo (c:=c.ren r) (o:=lk (kf r (O x))) (Imm.le.refl c.imm) (fun _ _=>Evo.of_same rfl rfl) this
    · rw [hsR]at hob ⊢
      exact(hmemR.objs id ob hob).keep (Imm.le.refl c.imm) rfl rfl (fun _ _=>Evo.of_same rfl rfl) fun _ _=>rfl
    · rw [hsR]at hob hob'
      exact hmemR.inj id id' ob ob' b hob hob'
    · rw [hsR]at hob
      exact hmemR.sep id ob b hob
    · have hbo:frmR b=some ob:=hbo
      simp only[frmR]at hbo;split at hbo
      · cases hbo
      exact hbo
    rw[hsR]at hob;show frmR b=none;simp only[frmR];rw[if_pos ⟨id,ob,hob,hbb⟩]
   have hround1:=(hround0.put p0 (by simpa [bvk]using hp0) (some (.v (xs0 i).toH)) v0 (fun y hy=>by cases hy;exact fu.of_P (c:=cR) (j6.mono hle hv0))).put p1 (by simpa [bvk]using hp1) (some (.v (xs1 i).toH)) v1 (fun y hy=>by cases hy;exact fu.of_P (c:=cR) (j6.mono hle hv1))
   have hst:((HSt.den ⟨a0l r T,mn (kf r (O x))⟩).put p0 (some (.v (xs0 i).toH))).put p1 (some (.v (xs1 i).toH))=HSt.den ⟨(p1,some (.v (xs1 i).toH))::(p0,some (.v (xs0 i).toH))::a0l r T,mn (kf r (O x))⟩:=by
    unfold HSt.den S.put;simp[ay]
   rw[hst]at hround1
   have hown_l:¬own2 l:=fun⟨id,ob,q1,q2⟩=>by
    obtain⟨x1,hcc,hdt⟩:=(hmemR.objs id ob q1).data q2;rw[hA]at hcc;cases hcc;cases hdt
   have hfl1:oldR.2.1 l=some (.loop (rec .ready none)):=by
    show frmR l=_;simp only[frmR];rw[if_neg hown_l];exact hA
   refine roundIn_of_wpIn (P:=P) (F:=rf none) (n:=0) trivial ?_;refine wpIn_mono (hround l i x hi hp A oldR _ A ⟨cR,rfl,hround1⟩) ?_;rintro e a1 w1 ⟨st1,⟨rfl,hbody1⟩,⟨c1,hold1,hR1⟩⟩;have hfrm1:c1.frm l=some (.loop (rec .ready none)):=by show c1.old.2.1 l=_;rw[hold1];exact hfl1
   have hl1:w1.heap[l]? = some (.loop (rec .ready none)):=hR1.frm l _ hfrm1;have hi1:c1.imm l=none:=by rw[hR1.was l (by rw[hfrm1];simp),hold1];exact hil
   refine⟨_,run_beginRound hl1 (by rw[hrec]), ?_⟩;have hready:({ rec .ready none with state:=.busy }:Loop)=rec .busy none:=by rw[hrec]
   rw[hready];have hRb:=hR1.turn (.loop (rec .busy none)) (some (.loop (rec .busy none))) hl1 (hnd _ _).1 (hnd _ _).2 hi1 (fun _=>by rw[hold1];exact hil) (.inr rfl)
   let oldB:Old:=(oldR.1,fun b=>if b=l then some (.loop (rec .busy none))else oldR.2.1 b,oldR.2.2)
   have hRb':Rel A oldB nt st1.den a1 (w1.putObj l (.loop (rec .busy none))):=⟨_,by
    show((c1.old.1,(fun b=>if b=l then some (Obj.loop (rec .busy none))else c1.old.2.1 b),c1.old.2.2):Old)=oldB
    rw[hold1],hRb⟩
   refine wpIn_mono (hbody1 A oldB a1 _ hRb') ?_;rintro e a2 w2 ⟨st2,⟨rfl,y,hpy,hsub2⟩,⟨c2,hold2,hR2⟩⟩;have hfrm2:c2.frm l=some (.loop (rec .busy none)):=by show c2.old.2.1 l=_;rw[hold2];show(if l=l then _ else _)=_;rw[if_pos rfl]
   have hl2:w2.heap[l]? = some (.loop (rec .busy none)):=hR2.frm l _ hfrm2;have hi2:c2.imm l=none:=by rw[hR2.was l (by rw[hfrm2];simp),hold2];exact hil
   refine⟨_,_,run_endRound none hl2,by simp, ?_⟩;have hready2:({ rec .busy none with state:=if(none:Option Code).isNone then .ready else .done,pending:=none }:Loop)=rec .ready none:=by rw[hrec];simp
   rw[hready2];have hR3:=(hR2.relax ⟨fun _=>none,lk (kf r (O y))⟩ (fun d x hx=>by cases hx) (a23 hsub2)).turn (.loop (rec .ready none)) none hl2 (hnd _ _).1 (hnd _ _).2 hi2 (fun e=>absurd rfl e) (.inl rfl);have hw3:(w2.putObj l (.loop (rec .ready none))).heap[l]? = some (.loop (rec .ready none)):=ajd hl2;obtain⟨bB1,bB2,bB3⟩:=b6l (hB x y);have hmem3:Mem (c2.ren r) (lk (O y)) (w2.putObj l (.loop (rec .ready none))):=(Mem.ren hr (tf hr (O y))).1 ⟨fun id ob hob=>(hR3.objs id ob hob).keep (Imm.le.refl c2.imm) rfl rfl (fun _ _=>Evo.of_same rfl rfl) fun _ _=>rfl,hR3.inj,hR3.imm,hR3.sep⟩
   have forth:∀(q:List (Nat×aa)) id ob,lk (kf r q) id=some ob->∃ob',lk q (r id)=some ob'/\ob=ob'.ren r:=fun q id ob h=>by
    have:=tf hr q (r id);rw[hr,h]at this
    cases hid:lk q (r id) with
    |none=>rw[hid]at this;cases this
    |some ob'=>rw[hid]at this;exact⟨ob',rfl,by simpa using this⟩
   have back:∀(q:List (Nat×aa)) id ob,lk q id=some ob->lk (kf r q) (r id)=some (ob.ren r):=fun q id ob h=>by rw[tf hr,h];rfl
   have hfr2:∀b,c2.frm b=if b=l then some (.loop (rec .busy none))else frmR b:=fun b=>by show c2.old.2.1 b=_;rw[hold2]
   have hnot:∀b,b<A.heap.size->¬own2 b->(w2.putObj l (.loop (rec .ready none))).heap[b]? = A.heap[b]?/\c2.imm b=c.imm b:=fun b hb hno=>by
    by_cases e:b=l
    · subst e
      exact⟨hw3.trans hA.symm,hi2.trans hil.symm⟩
    have e2:c2.frm b=some A.heap[b]:=by
     rw[hfr2,if_neg e];simp only[frmR];rw[if_neg hno];exact bul hb
    refine⟨(yh e).trans ?_, ?_⟩
    · rw[hR2.frm b _ e2,bul hb]
    rw[hR2.was b (by rw[e2];simp),hold2]
   have hsO:∀id ob,lk (O x) id=some ob->∃ob',(HSt.den ⟨T,mn (O x)⟩).o id=some ob'/\CoO ob' ob:=fun id ob h=>⟨ob,by rw[hsT x];exact h,CoO.refl ob⟩
   have hnoO:∀b,(∀id ob,lk (O x) id=some ob->¬c.blk id b)->¬own2 b:=fun b hno ⟨id,ob,q1,q2⟩=>by
    obtain⟨ob',q3,_⟩:=forth _ _ _ q1;exact hno (r id) ob' q3 q2
   obtain ⟨c4,hc4,hc4i,hR4,_⟩:=hR.fcall (o1:=O x) (o2:=O y) (fx:=fx) hsO (fun id h2 h1=>by
    rw[hsT x]
    cases hid:lk (O x) id with
    |none=>rfl
    |some ob=>exact absurd (a4i hid) h1)
    (fun id h2 hor=>⟨a0p (bB2 id h2 hor).2,fun id' ob' hni ho'=>by
     rw[hsT x]at ho'
     exact absurd (btk _ (a4i ho')) hni,(bB2 id h2 hor).1⟩)
    bB3 (w':=w2.putObj l (.loop (rec .ready none))) (c':=c2.ren r) hmem3
    (by
     have hb:=hR3.below
     exact⟨hb.os,hb.tape,hb.output,hb.size,fun k hk=>absurd hk (bt9 k),hb.drawn⟩)
    (fun b hb hno=>hnot b hb (hnoO b hno))
    (fun id ob b hid hbk=>by
     have hid':=back _ _ _ hid;have e:=hR3.fsep (r id) _ b hid' hbk;have e:(if b=l then none else c2.frm b)=none:=e
     have hbl:b≠l:=fun e2=>by
      obtain⟨x1,hcc,hdt⟩:=(hR3.objs (r id) _ hid').data hbk;rw[e2,hw3]at hcc;cases hcc;cases hdt
     rw[if_neg hbl,hfr2,if_neg hbl]at e;simp only[frmR]at e;by_cases ho2:own2 b
     · obtain ⟨id0,ob0,q1,q2⟩:=ho2
       obtain⟨ob',q3,_⟩:=forth _ _ _ q1;exact .inr ⟨r id0,ob',q3,q2⟩
     rw[if_neg ho2]at e
     exact .inl (bws fun hlt=>by simp[hlt]at e))
    (fun id hid=>by
     have e:=hR3.fixed (r id) (bB1 id hid)
     have e2:∀(o:Old) (ho:c2.old=o) (ht:tx o.1),Evo { old:=o,imm:=o.1,tab:=ht,own:=o.2.2.1,blk:=c2.blk,rows:=o.2.2.2.2 } o.2.2.2.1 c2 (lk (kf r (O y))) (r id):=by
      intro o ho ht;subst ho;exact e
     have e2:=e2 oldB hold2 c.tab
     have e3:Evo cR (lk (kf r (O x))) c2 (lk (kf r (O y))) (r id):=by
      rcases e2 with q|⟨l1,l2,q1,q2,q3⟩|⟨oa,ob,sz,et,n1,n2,q1,q2,q3,q4,q5,q6,q7⟩
      · exact .inl q
      · exact .inr (.inl ⟨l1,l2,q1,q2,q3⟩)
      exact .inr (.inr ⟨oa,ob,sz,et,n1,n2,q1,q2,q3,q4,q5,q6,q7⟩)
     rcases e3 with q|⟨l1,l2,q1,q2,q3⟩|⟨oa,ob,sz,et,n1,n2,q1,q2,q3,q4,q5,q6,q7⟩
     · left
       cases hid2:lk (O y) id with
       |none=>rfl
       |some ob=>rw[back _ _ _ hid2]at q;cases q
     · obtain ⟨ob1,g1,g2⟩:=forth _ _ _ q1
       obtain⟨ob2,g3,g4⟩:=forth _ _ _ q2;rw[hr]at g1 g3
       have hbx:∀{ob:aa} {l1:List HV},aa.box l1=ob.ren r->∃l0,ob=.box l0:=fun {ob l1} h=>by
        cases ob with
        |box l0=>exact⟨l0,rfl⟩
        |mp kk n f=>cases h
        |bld fr T e l=>cases h
        |ex d v b x=>cases h
        |bun B=>cases h
        |opq s e n R=>cases h
        |nest e et es n m g pd=>cases pd<;>cases h
        |arr wr s e n f=>cases h
        |arrh s e n ms f=>cases h
       obtain⟨l3,rfl⟩:=hbx g2;obtain⟨l4,rfl⟩:=hbx g4;refine .inr (.inl ⟨l3,l4,g1,g3, ?_⟩);show c2.own (r id)=c.own id;rw[q3];show c.own (r (r id))=c.own id;rw[hr]
     obtain⟨ob1,g1,rfl⟩:=forth _ _ _ q1;obtain⟨ob2,g3,rfl⟩:=forth _ _ _ q3;rw[hr]at g1 g3;rw[aa.ren_dim]at q2 q4;refine .inr (.inr ⟨ob1,ob2,sz,et,n1,n2,g1,q2,g3,q4,q5,fun hn=>?_,fun ea et2 es na ma ga pd hb=>?_⟩)
     · show c2.own (r id)=c.own id
       rw[q6 hn];show c.own (r (r id))=c.own id;rw[hr]
     obtain⟨e0,et0,n0,m0,g0,pd0,t1,t2,t3⟩:=(eq.unren q7) ea et2 es na ma ga pd hb;refine⟨e0,et0,n0,m0,g0,pd0,t1,t2,fun i hi=>⟨(t3 i hi).1,fun hm=>?_⟩⟩;have t4:=(t3 i hi).2 hm;have t5:c2.rows (r id) i=c.rows (r (r id)) i:=t4;rw[hr]at t5
     exact t5)
   have hnl:∀id ob,lk (O x) id=some ob->¬c.blk id l:=fun id ob hid hbk=>by
    obtain⟨x1,hcc,hdt⟩:=(hmem.objs id ob hid).data hbk;rw[hA]at hcc;cases hcc;cases hdt
   refine⟨y,c4,hpy,hc4.trans ho,fun b ob hb=>?_, ?_, ?_,hw3⟩
   · rw [hc4i]
     show c2.imm b=some ob;have hb':=hle b ob hb;have hlt:=(bt5.1 (hR.imm b ob hb')).1
     rw [(hnot b hlt (hnoO b fun id ob2 hid hbk=>by
      rw[hmem.sep id ob2 b hid hbk]at hb';cases hb')).2]
     exact hb'
   · rw[hc4i];exact hi2
   refine hR4.weaken _ (fun d z hz=>hz) (fun id ob hob=>?_);rw[hsT y]at hob;show(match j5 (yp (O x) (O y)) id with|some q=>q|none=>_)=some ob;rw[afe,hob]
 rintro e W3 ⟨⟨v,rfl⟩,x,c,hp,ho,hle,hil,hR,hA⟩;refine⟨_,_,run_endLoop hA (by rw[hrec];simp), ?_⟩;have hpe:(rec .ready none).pending=none:=by rw[hrec]
 rw[hpe];refine⟨_,hdone x hp,c,ho, ?_⟩;exact hR.turn0 _ hA (hnd _ _).1 (hnd _ _).2 hil (by show c.old.2.1 l=none;rw[ho];exact hfl)
section
variable {P:Program}{E:Env}{nt:Nat}{ops:Array Oper}{i:Nat}{o:Oper}{Q:Exit->Act->World->Prop}{a:Act}{A:World}{imm:Imm}
def b5e(d:Option Tmp)(x:HR)(t:List (Nat×Option HR)):List (Nat×Option HR):=match d with|some d=>(d,some x)::t|none=>t
class TabC (imm:Imm):Prop where
 ok:tx imm
def cI(imm:Imm)(A:World)[ht:TabC imm]:Ctx:={ old:=(imm,i9 A,(fun _=>undef),(fun _=>none),fun _ _=>undef),imm:=imm,tab:=ht.ok,own:=fun _=>undef,blk:=fun _=>noB,rows:=fun _ _=>undef }
variable [TabC imm]
structure It (imm:Imm) [TabC imm] (nt:Nat) (t:List (Nat×Option HR)) (a:Act) (A:World):Prop where
 defers:a.defers=[]
 rel:ah A nt (cI imm A) ⟨b5 t,fun _=>none⟩ a A
def b6v{us:List Value}{args:List PC}(hi:∀b ob,imm b=some ob->A.heap[b]? = some ob)(hr:cu imm args us)(hn:args.length<=nt):It imm nt (a1u 0 args) { tmps:=us.toArray++Array.replicate (nt-us.toArray.size) undef,defers:=[] } A:=by
 have hul:=hr.length;refine⟨rfl,rz.nil _ _ _ _, ?_,Below.refl _ _,fun d x hx=>?_,(fun id ob ho=>by cases ho),(fun i i' ob ob' b ho=>by cases ho),hi,(fun id ob b ho=>by cases ho),fun b _=>rfl,fun b ob hb=>hb,(fun id ob b ho=>by cases ho),fun id _=>.inl rfl⟩
 · simp only[bwc,Array.size_replicate,buj];omega
 obtain⟨y,_,hy,rfl⟩:=a5m args 0 d x hx;simp only[Nat.sub_zero]at hy;obtain⟨u,hu,hr⟩:=hr.get d y hy;have hd:d<us.length:=(bv1.1 hu).1
 have:(us.toArray++Array.replicate (nt-us.toArray.size) undef).getD d undef=u:=by
  have e1:(us.toArray++Array.replicate (nt-us.toArray.size) undef)[d]? = some u:=by
   rw[Array.getElem?_append_left (by simpa using hd)];simpa using hu
  rw[Array.getD_eq_getD_getElem?,e1];rfl
 show aq (cI imm A) _ _ _;rw[this];exact fu.of_P (c:=cI imm A) hr
section
variable {t:List (Nat×Option HR)}
theorem It.sub {t':List (Nat×Option HR)} (h:It imm nt t a A) (hs:sq t' t):It imm nt t' a A :=
 ⟨h.defers,h.rel.relax ⟨b5 t',fun _=>none⟩ (fun d x hx=>yd hs d x hx) (fun id ob ho=>by cases ho)⟩
theorem It.move {A':World} (h:It imm nt t a A) (hi:∀b ob,imm b=some ob->A'.heap[b]? = some ob):It imm nt t a A':=by
 refine⟨h.defers,by rw[h.defers];exact rz.nil _ _ _ _,h.rel.size,Below.refl _ _,fun d x hx=>?_,(fun id ob ho=>by cases ho),(fun i i' ob ob' b ho=>by cases ho),hi,(fun id ob b ho=>by cases ho),fun b _=>rfl,fun b ob hb=>hb,(fun id ob b ho=>by cases ho),fun id _=>.inl rfl⟩;exact aq.evo (c:=cI imm A) (o:=fun _=>none) (Imm.le.refl imm) (fun _ _=>.inl rfl) (h.rel.tmps d x hx)
theorem It.put (h:It imm nt t a A) {d:Option Tmp} (hd:cz nt d=true) (x:HR) (v:Value) (hx:aq (cI imm A) (fun _=>none) x v):It imm nt (b5e d x t) (a.put d v) A:=by
 cases d with
 |none=>exact h
 | some d =>
  have:=h.rel.put d (of_decide_eq_true hd) (some x) v (fun y hy=>by cases hy;exact hx);refine⟨h.defers, ?_⟩
  have e:(S.put ⟨b5 t,fun _=>none⟩ d (some x))=⟨b5 ((d,some x)::t),fun _=>none⟩:=by
   unfold S.put;simp[ay]
  rw[e]at this;exact this
def a3v(h:It imm nt t a A){x:Operand}{r:HR}(hx:ev ⟨b5 t,fun _=>none⟩ x=some r):aq (cI imm A) (fun _=>none) r (a.eval x):=af h.rel hx
def iq (hE:d6 P E) {L:List Nat} {out:Out} {gb:Bool} (h:It imm nt t a A) (hi:ops[i]? = some o) (hw:bc ops ⟨b5 t,fun _=>none⟩ o=some gb) (hd:cz nt o.dst=true) (hq':hq E true (fun _=>none) (ev ⟨b5 t,fun _=>none⟩) o.op=some out) (hnd:(match o.op with | .defer _=>false|_=>true)=true) (hg:gb=true) (hK:∀a',It imm nt (b5e o.dst out.val t) a' A->wpOpsIn (rf none) 0 P ops Q L a' A) (hp:out.pre:=by first|exact trivial|(simp only[kr,inR,ui,x8];omega)|exact⟨trivial,trivial⟩|exact⟨trivial,bt4 rfl⟩|(try dsimp only)<;>((repeat' apply And.intro)<;>first|trivial|rfl|omega|assumption|exact bt4 rfl)):wpOpsIn (rf none) 0 P ops Q (i::L) a A:=by
 rw[wpOpsIn_cons];unfold wpOpIn;simp only[hi];rw[if_pos (f8 h.rel (by rw[hw,hg]))];obtain⟨v,h1,h2⟩:=an1 hE h.rel hq' hp;have hnd':∀c,o.op≠.defer c:=fun c hc=>by rw[hc]at hnd;cases hnd
 refine xr hnd' ?_;unfold Oper.wp;rw[h1];exact hK _ (h.put hd out.val v h2)
def iy {L:List Nat} {cl:Call} {f:Operand} {l:Nat} {R:World->Prop} (h:It imm nt t a A) (hi:ops[i]? = some o) (hw:bc ops ⟨b5 t,fun _=>none⟩ o=some true) (hd:cz nt o.dst=true) (ho:o.op=.call cl) (hcl:cl.callee=.value f) (hf:ev ⟨b5 t,fun _=>none⟩ f=some (bp (.raw (.func (.yield l) #[] #[])))) (hy:YieldAt (rf none) 0 P l (cl.args.toList.map a.eval).toArray A fun e A'=>e=.returned (.bool true)/\R A') (him:∀A',R A'->∀b ob,imm b=some ob->A'.heap[b]? = some ob) (hK:∀a' A',R A'->It imm nt (b5e o.dst (bp (.raw (.bool true))) t) a' A'->wpOpsIn (rf none) 0 P ops Q L a' A'):wpOpsIn (rf none) 0 P ops Q (i::L) a A:=by
 rw[wpOpsIn_cons];unfold wpOpIn;simp only[hi];rw[if_pos (f8 h.rel hw)];obtain⟨fn,tmps,assign,body,hyr,hround⟩:=hy;have hfe:a.eval f=.func (.yield l) #[] #[]:=(a3v h hf).1;refine⟨fun _ _=>trivial, ?_⟩;have hsem:Oper.semAt (rf none).round a.eval o=execOp a.eval o:=rfl;rw[hsem];have hma:(cl.args.toList.map a.eval).toArray=cl.args.map a.eval:=by apply Array.toList_inj.1;rw[bvv]
 rw[hma]at hyr
 have hrun:(execOp a.eval o).run P A=.ok (.round l fn tmps assign body) A:=by
  simp only[execOp,ho,resolve,hcl,hfe,bu5,Deferred.ofValue,but,btj,invoke];simpa using hyr
 rw[hrun,Oper.uponIn_round];refine⟨fun hh=>absurd hh (by simp[rf]),hround.mono ?_⟩;rintro e A' ⟨rfl,hR⟩;exact hK _ A' hR ((h.move (him A' hR)).put hd (bp (.raw (.bool true))) (.bool true) ⟨rfl,rfl⟩)
end
end
def f7.of_H {c:Ctx} {o:ar}:∀{l:List PV} {us:List Value},bf c o (l.map .p) us->f7 c.imm l us
 | [],[],_=>trivial
 |_::_,_::_,h=>⟨h.1,f7.of_H h.2⟩
 | [],_::_,h=>h.elim
 |_::_,[],h=>h.elim
def j6.of_H {c:Ctx} {o:ar} {x:PC} {u:Value} (h:aq c o (.v x.toH) u):j6 c.imm x u:=by
 cases x with
 |one x=>exact h
 |agg l=>obtain⟨us,e,hl⟩:=h;exact⟨us,e,f7.of_H hl⟩
theorem CoP.vp {k k':Nat} {f f':Nat->PV} (hk:k'=k) (hf:∀j,j<k->CoP (f j) (f' j)):CoP (.vp k f) (.vp k' f'):=by
 subst hk;rintro m u ⟨b,off,rfl,h⟩
 exact ⟨b,off,rfl,fun j hj=>by
  obtain⟨x,hx,hr⟩:=h j hj
  exact⟨x,hx,hf j hj m x hr⟩⟩
theorem CoP.fn {g:FuncId} {k k':Nat} {f f':Nat->PV} (hk:k'=k) (hf:∀j,j<k->CoP (f j) (f' j)):CoP (.fn g k f) (.fn g k' f'):=by
 subst hk;rintro m u ⟨cs,rfl,hl,h⟩
 exact ⟨cs,rfl,hl,fun j hj=>by
  obtain⟨x,hx,hr⟩:=h j hj
  exact⟨x,hx,hf j hj m x hr⟩⟩
def RN (P:Program) (nt:Nat) (ops:Array Oper) (L:List Nat) (st:HSt) (Q:HSt->Prop):Prop :=
 ∀(ro:Option Nat) (n:Nat) w0 m0 a w (QQ:Exit->Act->World->Prop),Rel w0 m0 nt st.den a w->(∀st' a' w',Q st'->Rel w0 m0 nt st'.den a' w'->QQ .normal a' w')->wpOpsIn (rf ro) n P ops QQ L a w
section
variable {P:Program}{E:Env}{nt:Nat}{ops:Array Oper}{st:HSt}
def aat (hE:d6 P E) {ro:Option Nat} {n:Nat} {w0:World} {m0:Old} {sf:S} {L2:List Nat} {QQ:Exit->Act->World->Prop} (hQ:∀a' w',Rel w0 m0 nt sf a' w'->wpOpsIn (rf ro) n P ops QQ L2 a' w') :
 ∀(T:List Tr) (s:S) (a:Act) (w:World),nu P E nt ops T s sf->Rel w0 m0 nt s a w->wpOpsIn (rf ro) n P ops QQ (T.map (·.i)++L2) a w
 | [],s,a,w,hT,hr=>by
  cases hT;exact hQ _ _ hr
 | t::T,s,a,w,hT,hr=>by
  cases hT with
  |cons hi he hR hO hF hrest =>
  rw[bur,bvj,wpOpsIn_cons];exact a82 hE he hr hi fun a' w' hr'=>aat hE hQ T _ a' w' hrest hr'
section
variable {Q:HSt->Prop}
def fj (hE:d6 P E) {L1 L2:List Nat} (h:Reg P E nt ops L1 st fun _ sf=>RN P nt ops L2 sf Q):RN P nt ops (L1++L2) st Q:=fun ro n w0 m0 a w QQ hr hQ=>by
 obtain⟨T,sf,hl,hT,h⟩:=h;rw[<- hl];exact aat hE (fun a' w' hr'=>h ro n w0 m0 a' w' QQ hr' hQ) T _ a w hT hr
def kc(h:Q st):RN P nt ops [] st Q:=fun ro n w0 m0 a w QQ hr hQ=>hQ st a w h hr
def zj {L:List Nat} (h:HE nt st fun st'=>RN P nt ops L st' Q):RN P nt ops L st Q:=fun ro n w0 m0 a w QQ hr hQ=>by
 obtain⟨st',h1,h2⟩:=h w0 m0 a w hr;exact h1 ro n w0 m0 a w QQ h2 hQ
def fl {ro:Option Nat} {Q:Exit->HSt->Prop} {id:Nat} (L1 L2:List Nat) (hl:List.range ops.size=L1++L2) (h:RN P nt ops (L1++L2) st (Q .normal)):HW (ro:=ro) P nt (.region id ops false) st Q:=fun w0 m0 a w hr=>by
 refine wpIn_region ?_;rw[hl];exact h ro 0 w0 m0 a w _ hr fun st' a' w' hq hr'=>⟨st',hq,hr'⟩
def apq(st1:HSt)(d:Nat)(x:HR)(hs:∀w0 m0 a w,Rel w0 m0 nt st.den a w->∃cc,cc.old=m0/\ah w0 nt cc st1.den a w/\aq cc st1.den.o x (a.tmps.getD d undef))(h:HE nt ⟨(d,some x)::st1.t,st1.o⟩ Q):HE nt st Q:=fun w0 m0 a w hr=>by
 obtain⟨cc,hold,hrr,hx⟩:=hs w0 m0 a w hr;refine h w0 m0 a w ⟨cc,hold,hrr.defers,hrr.size,hrr.below,fun k y hy=>?_,hrr.objs,hrr.inj,hrr.imm,hrr.sep,hrr.was,hrr.frm,hrr.fsep,hrr.fixed⟩;simp only[HSt.den]at hy;rw[ay]at hy;dsimp only at hy;split at hy
 · rename_i hk
   subst hk;simp only[bsy]at hy;subst hy;exact hx
 exact hrr.tmps k y hy
end
end
end
section
open Go.Proofs
def c74(n:Nat)(cl:Bool)(f:Nat->Nat->PV):a7 bxr 58 [.one (.sl n 1 cl f)] (ae [.one (.fn 121 1 fun _=>.vp 1 fun _=>.sl n 1 cl f)]):=by
 refine hpx (nt:=4) Tryz.func58 ?_;refine sx7 ?_;refine m9 0 ?_;refine w_3 ?_;refine ci 1 rfl rfl rfl ?_;refine w_5 ?_;refine⟨.inr rfl, ?_⟩
 exact ⟨_,_,_,_,rfl,(by(repeat' apply And.intro)<;>trivial),rfl,(by(repeat' apply And.intro)<;>trivial),⟨CoC.one (CoP.fn rfl fun i hi=>by
  obtain rfl:i=0:=by simpa using hi
  exact CoP.vp rfl fun j hj=>by
   obtain rfl:j=0:=by simpa using hj
   exact CoP.refl _),trivial⟩⟩
def bmp(n:Nat)(cl:Bool)(f:Nat->Nat->PV)(hn:n<=68719476736) :
 b80 bxr 121 [.one (.vp 1 fun _=>.sl n 1 cl f)] n fun i=>[.one (.raw (.int .i64 ((n-1-i:Nat):Int))), .one (f (n-1-i) 0)]:=by
 intro imm htab us W l J hcaps him hJb hY h0;haveI:TabC imm:=⟨htab⟩;refine callsIn_of_wp Tryz.func121 rfl trivial ?_ rfl;have e0:#[Value.func (.yield l) #[] #[]]++us.toArray=(Value.func (.yield l) #[] #[]::us).toArray:=by simp
 rw[e0];have hst:=b6v (A:=W) (nt:=19) (us:=Value.func (.yield l) #[] #[]::us) (args:=[.one (.raw (.func (.yield l) #[] #[])), .one (.vp 1 fun _=>.sl n 1 cl f)]) (him 0 W h0) ⟨⟨rfl,rfl⟩,hcaps⟩ l9;refine wpIn_seq (wpIn_region ?_);refine iq (E:=d4) ca hst rfl rfl rfl rfl rfl rfl (fun a h1=>?_);refine iq (E:=d4) ca h1 rfl rfl rfl rfl rfl rfl (fun a h2=>?_);refine iq (E:=d4) ca h2 rfl rfl rfl rfl rfl rfl (fun a h3=>?_);refine iq (E:=d4) ca h3 rfl rfl rfl rfl rfl rfl (fun a h4=>?_);show Code.wpIn _ _ _ _ _ _ _;refine wpIn_block ?_;refine a6y (fun m a A=>∃i,i<=n/\m=n-i/\J i A/\It imm 19 [(0,some (bp (.raw (.func (.yield l) #[] #[])))),(1,some (bp (.vp 1 fun _=>.sl n 1 cl f))),(3,some (bp (.raw (.int .i64 ((n:Int)-1-i)))))] a A) n ⟨0,bt6 _,by omega,h0,h4.sub ⟨c9,c9,⟨_,rfl,coi bx5⟩,trivial⟩⟩ ?_;rintro m a A ⟨i,hi,rfl,hJ,h⟩;refine wpIn_seq ?_;refine wpIn_seq (wpIn_region ?_);refine iq (E:=d4) ca h rfl rfl rfl rfl rfl rfl (fun a h1=>?_);refine iq (E:=d4) ca h1 rfl rfl rfl rfl rfl rfl (fun a h2=>?_);show Code.wpIn _ _ _ _ _ _ _;refine wpIn_cond_split (a3v (x:=.tmp 8) h2 rfl).1 ?_ ?_<;>intro hb
 · have hb:=bje hb
   have hin:i<n:=by omega
   refine wpIn_skip ?_;show Code.wpIn _ _ _ _ _ _ _;refine wpIn_seq (wpIn_block ?_);refine wpIn_seq (wpIn_region ?_);refine iq (E:=d4) ca h2 rfl rfl rfl rfl rfl rfl (fun a h3=>?_);refine iq (E:=d4) ca h3 rfl rfl rfl rfl rfl rfl (fun a h4=>?_);refine iq (E:=d4) ca h4 rfl rfl rfl rfl rfl rfl (fun a h5=>?_);refine iq (E:=d4) ca h5 rfl rfl rfl rfl rfl rfl (fun a h6=>?_);refine iq (E:=d4) ca h6 rfl rfl rfl rfl rfl rfl (fun a h7=>?_) (hp:=⟨rfl,by omega,by omega⟩);refine iq (E:=d4) ca h7 rfl rfl rfl rfl rfl rfl (fun a h8=>?_);have ei:((n:Int)-1-i).toNat=n-1-i:=by omega
   have e12:=a3v (x:=.tmp 12) h8 rfl;rw[show bp (.raw (.int .i64 ((n:Int)-1-i)))=bp (.raw (.int .i64 ((n-1-i:Nat):Int))) by congr 3;omega]at e12;have e16:=a3v (x:=.tmp 16) h8 rfl;rw[ei]at e16;have e16:=j6.of_H (x:=.one (f (n-1-i) 0)) e16;refine iy h8 rfl rfl rfl rfl rfl rfl (R:=J (i+1)) (hY i A [_,_] hin hJ ⟨e12,e16,trivial⟩) (fun A'=>him (i+1) A') (fun a A1 hJ1 h9=>?_);refine iq (E:=d4) ca h9 rfl rfl rfl rfl rfl rfl (fun a h10=>?_);show Code.wpIn _ _ _ _ _ _ _;refine wpIn_cond_false (a3v (x:=.tmp 18) h10 rfl).1 (wpIn_skip ?_);show Code.wpIn _ _ _ _ _ _ _;refine wpIn_region ?_;refine iq (E:=d4) ca h10 rfl rfl rfl rfl rfl rfl (fun a h11=>?_);refine iq (E:=d4) ca h11 rfl rfl rfl rfl rfl rfl (fun a h12=>?_);refine iq (E:=d4) ca h12 rfl rfl rfl rfl rfl rfl (fun a h13=>?_);exact⟨n-(i+1),by omega,i+1,hin,rfl,hJ1,h13.sub ⟨c9,c9,⟨_,rfl,coi bx5⟩,trivial⟩⟩
 have hb:=b3d hb;obtain rfl:i=n:=by omega
 refine wpIn_exit ?_;exact⟨h2.defers,_,results_none rfl _ _ _,⟨_,rfl⟩,hJ⟩
end
section
def bgp {l:List AS} {k n p j m c d e:Nat} {z:List Value} {cl:Bool} (hk:k<l.length) (hn:n=l.length-1) (hp:p=k) (hj:j=k+1) (hm:m=l.length-(k+1)) (hc:l.length-1<=c) (he:e=0) :
 CoR (an0 [.one (.p (.sl n 1 cl fun a b=>ow (mvF (lf sC l) p j m) c d z (e+a) b))]) (.v (.one (.p (asl (l.eraseIdx k))))):=by
 subst hp hj hm he;refine CoP.sl (by rw[List.length_eraseIdx,if_pos hk,hn]) (.inl rfl) (fun h=>by cases h) fun i b hi hb=>CoP.of_eq ?_;show ow (mvF (lf sC l) p (p+1) (l.length-(p+1))) c d z (0+i) b=lf sC (l.eraseIdx p) i b;unfold ow;rw[if_neg bx5,bu1];unfold mvF;simp only[lf,List.getD];rw[List.getElem?_eraseIdx];by_cases h:i<p
 · rw[if_neg bx5,if_pos h]
 rw[if_pos bx5,if_neg h,show i-p+(p+1)=i+1 by omega]
def orL(ps:List AS):AS:=ps.foldl (·|||·) 0
section
variable {ps:List AS}
def a4w {i:Nat} (h:i<ps.length):orL (ps.take (i+1))=orL (ps.take i)|||ps.getD i default:=by
 unfold orL;rw[aj h,btr];rfl
def lj(n:Int)(l:List Fd)(ps:List AS):Bool:=decide (orL ps=a6 n)&&j0 l ps&&ps.any (f0 n l)
variable {l:List Fd}{n:Int}
def am7 (h:¬asI (orL (ps.take ps.length))=asI (a6 n)):lj n l ps=false:=by
 rw[btb]at h;unfold lj;rw[decide_eq_false (fun e=>h (congrArg asI e))];rfl
def aob (h:j0 l ps=false):lj n l ps=false:=by
 unfold lj;rw[h];simp
def adj:(bif bif decide (asI (orL (ps.take ps.length))=asI (a6 n))then j0 l ps else false then ps.any (f0 n l)else false)=lj n l ps:=by
 unfold lj;rw[btb,a0h];cases decide (orL ps=a6 n)<;>cases j0 l ps<;>rfl
def o3(n:Int)(l:List Fd)(ps:List AS)(s:AS):List AS:=if lj n l (ps.eraseIdx (idx (fun x=>decide (x=s)) ps).toNat)=true then ps.eraseIdx (idx (fun x=>decide (x=s)) ps).toNat else ps
def a5h (n:Int) (l:List Fd) (p0:List AS):Nat->List AS
 |0=>p0
 |i+1=>o3 n l (a5h n l p0 i) (p0.getD (p0.length-1-i) default)
def a01(n:Int)(l:List Fd):Bool:=j0 l (dj n l)
def jg(n:Int)(l:List Fd):List AS:=if fb n l 8=0/\a01 n l=true then a5h n l (dl (dj n l)) (dl (dj n l)).length else[]
def ml(n:Int)(l:List Fd):Bool:=decide (fb n l 8=0)&&a01 n l
def bi7(h:¬fb n l 8=0):jg n l=[]/\ml n l=false:=⟨if_neg fun e=>h e.1,by unfold ml;rw[decide_eq_false h];rfl⟩
def blb(h:a01 n l=false):jg n l=[]/\ml n l=false:=⟨if_neg (fun e=>(by rw[h]at e;exact absurd e.2 bx8)),by unfold ml;rw[h];simp⟩
def b0g(h:fb n l 8=0)(h2:a01 n l=true):jg n l=a5h n l (dl (dj n l)) (dl (dj n l)).length/\ml n l=true:=⟨if_pos ⟨h,h2⟩,by unfold ml;rw[h2,decide_eq_true h];rfl⟩
def a5f (l:List AS):(dl l).Nodup:=by
 unfold dl a9c;exact(a8i l).sublist List.filter_sublist
def b5x (l:List AS):(dl l).length<=l.length:=by
 unfold dl a9c;exact bth (buo _ _) (pn l)
def aek {s:AS} (h:s∈ps):∃k:Nat,idx (fun x=>decide (x=s)) ps=k/\k<ps.length/\ps.getD k default=s:=by
 have hne:¬idx (fun x=>decide (x=s)) ps=-1:=fun e=>by
  have hf:=a0k e;obtain⟨j,hj,rfl⟩:=btt h;have:=of_decide_eq_false (hf j hj);rw[bt1,bt0 hj]at this;exact this rfl
 obtain⟨k,h1,h2,h3,_⟩:=uh hne;exact⟨k,h1,h2,of_decide_eq_true h3⟩
def al8(n:Int)(l:List Fd)(p0:List AS)(i:Nat)(ps:List AS):Prop:=ps=a5h n l p0 i/\ps.length<=p0.length/\∀j,j<p0.length-i->p0.getD j default∈ps
def b09(n:Int)(l:List Fd)(p0:List AS):al8 n l p0 0 p0:=⟨rfl,bt2 _,fun j hj=>adg bx5⟩
def b0v {p0:List AS} (h:p0.Nodup) {i j:Nat} (hi:i<p0.length) (hj:j<p0.length) (hne:i≠j):p0.getD i default≠p0.getD j default:=by
 rw[bt1,bt1,bt0 hi,bt0 hj];intro e
 rcases Nat.lt_or_gt_of_ne hne with h1|h1
 · exact bv2.1 h i j hi hj h1 e
 exact bv2.1 h j i hj hi h1 e.symm
def akk{p0:List AS}{i:Nat}(hn:p0.Nodup)(h:al8 n l p0 i ps)(hi:i<p0.length):al8 n l p0 (i+1) (o3 n l ps (p0.getD (p0.length-1-i) default)):=by
 obtain⟨h1,h2,h3⟩:=h;obtain⟨k,k1,k2,k3⟩:=aek (h3 (p0.length-1-i) bx5);refine⟨by rw[h1];rfl, ?_,fun j hj=>?_⟩
 · unfold o3
   split
   · rw[List.length_eraseIdx];split<;>omega
   exact h2
 have hm:=h3 j bx5;unfold o3;rw[k1,btc];split
 · have hne:=b0v hn (i:=j) (j:=p0.length-1-i) bx5 bx5 bx5
   obtain⟨q,hq,he⟩:=btt hm
   have hqk:q≠k:=fun e=>by
    subst e;rw[bt1,bt0 hq,buq,he]at k3;exact hne k3
   rw[List.mem_eraseIdx_iff_getElem?];exact⟨q,hqk,by rw[bt0 hq,he]⟩
 exact hm
def a6e(n:Int)(l:List Fd):Option Fd:=(jc n l).find? fun f=>!jb l (dj n l) f
def qc(n:Int)(l:List Fd):Int:=if fb n l 8=0 then(match a6e n l with|some _=>0|none=>4)else fb n l 8
def wv(n:Int)(l:List Fd):Fd:=if fb n l 8=0 then(match a6e n l with|some f=>f|none=>⟨0,0⟩) else⟨0,0⟩
def bln(h:¬fb n l 8=0):wv n l=⟨0,0⟩/\qc n l=fb n l 8:=⟨if_neg h,if_neg h⟩
def blz (h:fb n l 8=0) (hi:idx (fun f=>!jb l (dj n l) f) (jc n l)<0):wv n l=⟨0,0⟩/\qc n l=4:=by
 have hm:idx (fun f=>!jb l (dj n l) f) (jc n l)=-1:=by
  by_cases h:idx (fun f=>!jb l (dj n l) f) (jc n l)=-1
  · exact h
  obtain⟨i,h1,_⟩:=uh h;omega
 have e:a6e n l=none:=alz (a0k hm);unfold wv qc;rw[if_pos h,if_pos h,e];exact⟨rfl,rfl⟩
def bms (h:fb n l 8=0) {i:Nat} (hi:i<(jc n l).length) (hv:(!jb l (dj n l) ((jc n l).getD i default))=true) (hj:∀j,j<i->(!jb l (dj n l) ((jc n l).getD j default))=false):wv n l=(jc n l).getD i default/\qc n l=0:=by
 have e:a6e n l=some ((jc n l).getD i default):=aoj hi hj hv;unfold wv qc;rw[if_pos h,if_pos h,e];exact⟨rfl,rfl⟩
end
end
section
open Go.Proofs
def bbp (l:List AS) (k:Nat) (hk:k<l.length):dv bxr 61 [.one (.ref 900 l.length), .one (.p (.raw (.int .i64 (k:Int)))), .one (.p (.raw (.int .i64 ((k:Int)+1))))] [(900, .arr true 1 50 l.length (lf sC l))] (.v (.one (.p (asl (l.eraseIdx k))))) [] []:=by
 refine hfx (nt:=33) Tryz.func61 ?_;refine dt ?_;refine a9d 900 rfl fun hlen=>?_;refine a5u ?_;refine hcd ?_ ?_<;>intro h0
 · exfalso;omega
 refine jk ?_;refine r9 0 true ?_;refine cr ?_;refine r9 1 true ?_;refine w_6 ?_;refine ava 6 rfl rfl rfl ?_;refine hrr ?_;exact⟨_,_,rfl,bx7,(by show CoR _ _;dsimp only [iu,bv];exact bgp hk bx5 bx5 bx5 bx5 bx5 bx5),trivial⟩
def bfk (p:AS) (n:Int) (l:List Fd):a7 bxr 122 [pA p,pP (bx (.raw (.int .i64 n))),pP (bx (fdl l))] (ae [pB (f0 n l p)]):=by
 refine hpx (nt:=9) Tryz.func122 ?_;refine w_9 ?_;refine qcx aew (ale n l p) ?_;refine v_2 ?_;exact CoL.refl _
def bod(n:Int)(l:List Fd)(ps:List AS)(hn0:0<=n)(hn1:n<=16)(hl:l.length<=16777216):a7 bxr 62 [pI n,pP (fdl l),pP (asl ps)] (ae [pB (lj n l ps)]):=by
 refine hpx (nt:=34) Tryz.func62 ?_;refine sx7 ?_;refine m9 0 ?_;refine m9 1 ?_;refine w_8 ?_;refine e9 2 rfl fun hn=>?_;refine w_6 ?_;refine ci 3 rfl rfl rfl ?_;refine ci 4 rfl rfl rfl ?_;refine bw (ka 2 (ka 3 (ka 4 (ka 10 (ka 11 kn))))) km (fun i=>⟨[(7,some (vA (orL (ps.take i)))),(12,some (vI i))],[]⟩) ps.length kk ?_;rintro i hi;refine w_5 ?_;refine hcd ?_ ?_<;>intro h0
 · refine a5u ?_;exact lpx (i+1) ⟨⟨⟨_,rfl,(df (by rw[bOr,a4w bx5];rfl))⟩,tt⟩,trivial⟩
 obtain rfl:i=ps.length:=by omega
 refine w_5 ?_;refine qcx aq2 (awd n hn0 hn1) ?_;refine w_2 ?_;refine al rfl rfl ?_ ?_<;>intro r1
 ·
  have h1:=tz1 r1;(iterate 2 refine qy ?_ (hg:=(gtt r1)));refine qcx ae9 (aut l ps hl) ?_ (hg:=(gtt r1));refine w_2 ?_;refine al rfl rfl ?_ ?_<;>intro r2
  ·
   have h2:=br r1 r2;(iterate 2 refine qy ?_ (hg:=(gtt r2)));refine qcx a3i (aa6 ps 122 2 (fun i=>[bx (.raw (.int .i64 n)),bx (fdl l)].getD i .any) (f0 n l) (wgx Tryz.func122) (fun p=>bfk p n l)) ?_ (hg:=(gtt r2));refine w_3 ?_
   exact hx8 rfl rfl rfl (⟨ccb (by first|exact adj|exact(am7 bx6).symm|exact(aob bx6).symm),trivial⟩)
  have h2:=br r1 r2;(iterate 3 refine k9 (gft r2) ?_);refine w_3 ?_
  exact hx8 rfl rfl rfl (⟨ccb (by first|exact adj|exact(am7 bx6).symm|exact(aob bx6).symm),trivial⟩)
 have h1:=tz2 r1;(iterate 3 refine k9 (gft r1) ?_);refine w_2 ?_;(iterate 3 refine k9 rfl ?_);refine w_3 ?_
 exact hx8 rfl rfl rfl (⟨ccb (by first|exact adj|exact(am7 bx6).symm|exact(aob bx6).symm),trivial⟩)
end
section
def b1p {l:List Fd} {s:AS} (h:dx l s=true):∃x,a1p l s=some x/\sub x s/\kw l s x=true:=by
 unfold dx at h;obtain⟨x,hx⟩:=Option.isSome_iff_exists.1 h;refine⟨x,hx, ?_,bx1 hx⟩;have hm:=bwb hx;unfold b6 at hm;split at hm
 · cases hm
 exact qn.1 hm
def ady{a s:AS}(h:sub a s)(hne:a≠s):bsz a<bsz s:=by
 rcases bvx (as2 h)with h1|h1
 · exact h1
 exfalso;apply hne
 have hs:(ak a).Sublist (ak s):=by
  have:ak a=(ak s).filter fun i=>a.getLsbD i:=by
   unfold ak;rw[List.filter_filter];apply List.filter_congr;intro i hi;rw[btg]at hi
   cases ha:a.getLsbD i with
   |false=>rfl
   |true=>rw[ai.1 h i hi ha];rfl
  rw[this];exact List.filter_sublist
 rw[yf,yf]at h1;have he:=hs.eq_of_length h1;refine d7 h (ai.2 fun i hi hb=>?_);have:i∈ak s:=io.2 ⟨hi,hb⟩;rw[<- he]at this;exact(io.1 this).2
def spA(l:List Fd)(s:AS):AS:=(vi l s).lhs|||(vi l s).rhs
def spB(l:List Fd)(s:AS):AS:=s&&&~~~(vi l s).rhs
def lw{a b:AS}:sub (a&&&b) b:=ai.2 fun i hi h=>by rw[bta,bt3]at h;exact h.2
def gc{a b:AS}:sub (a&&&b) a:=ai.2 fun i hi h=>by rw[bta,bt3]at h;exact h.1
def mh{a b c:AS}(h:sub a b)(k:sub a c):sub a (b&&&c):=ai.2 fun i hi ha=>by rw[bta,ai.1 h i hi ha,ai.1 k i hi ha];rfl
def auw (l:List Fd):Nat->List AS->List AS->List AS
 |0,_,out=>out
 | n+1,todo,out =>
  if todo.length=0 then out
  else if dx l (todo.getD (todo.length-1) default)=true then auw l n (todo.take (todo.length-1)++[spA l (todo.getD (todo.length-1) default),spB l (todo.getD (todo.length-1) default)]) out
  else auw l n (todo.take (todo.length-1)) (out++[todo.getD (todo.length-1) default])
def bfs(n:Int)(l:List Fd):List AS:=auw l 6562 [a6 n] []
def bsf(n:Int)(l:List Fd):List AS:=if fb n l 8=0 then dl (bfs n l) else[]
def bg9(todo:List AS):Nat:=(todo.map fun s=>3^bsz s).sum
def bsr(n:Int)(l:List Fd)(x:Nat×List AS×List AS):Prop:=auw l x.1 x.2.1 x.2.2=bfs n l/\bg9 x.2.1<x.1/\x.2.2.length+x.1<=6562
def b1w{k:Nat}(h:k<=32):bsz (li k)<=k:=by
 unfold bsz
 have e:(List.range 32).countP (fun i=>(li k).getLsbD i)=(List.range 32).countP fun i=>decide (i<k):=by
  apply List.countP_congr;intro i hi;rw[btg]at hi;rw[lq k i hi]
 have h2:∀m,(List.range m).countP (fun i=>decide (i<k))<=k/\(List.range m).countP (fun i=>decide (i<k))<=m:=by
  intro m
  induction m with
  |zero=>simp
  | succ m ih =>
   rw[bu3,bwz];simp only[bw4,List.countP_nil];by_cases hm:m<k
   · rw[if_pos (decide_eq_true hm)];omega
   rw[if_neg (by simpa using hm)];omega
 rw[e];exact(h2 32).1
def a0n {n:Int} {m:Nat} (h:n<=m) (hm:m<=32):bsz (a6 n)<=m:=by
 unfold a6;exact bth (b1w (Nat.min_le_right _ _)) bx5
def at1 {n:Int} {l:List Fd} {ps:List AS} {s:AS} {k:Nat} (hk:idx (fun x=>decide (x=s)) ps=k) (h:lj n l (ps.eraseIdx k)=true):o3 n l ps s=ps.eraseIdx k:=by
 unfold o3;rw[hk,btc,if_pos h]
def asa {n:Int} {l:List Fd} {ps:List AS} {s:AS} {k:Nat} (hk:idx (fun x=>decide (x=s)) ps=k) (h:lj n l (ps.eraseIdx k)=false):o3 n l ps s=ps:=by
 unfold o3;rw[hk,btc,if_neg (by rw[h];decide)]
end
section
open Go.Proofs
def bni(n:Int)(l:List Fd):a7 bxr 17 [pI n,pP (fdl l)] (ae [pP (asl (jg n l)),pB (ml n l),pI (fb n l 8)]):=by
 refine hpx (nt:=49) Tryz.func17 ?_;refine sx7 ?_;refine m9 0 ?_;refine m9 1 ?_;refine w_8 ?_;refine qcx amx (ano n l) ?_;refine gh ?_;refine hcn ?_ ?_<;>intro h0
 · refine w_7 ?_;refine hrr ?_;have he:=bi7 h0;exact f9 rfl rfl (⟨CoC.one (a7k he.1),ccb he.2.symm,CoC.refl _,trivial⟩)
 refine w_3 ?_;have hv:=d9 (pk h0).1;have hsl:=b79 n l;have hml:=b5x (dj n l);refine w_3 ?_;refine qcx ae9 (aut l (dj n l) bx5) ?_;refine w_2 ?_;refine hcv ?_ ?_<;>intro h1
 · refine w_6 ?_;refine hrr ?_;have he:=blb (n:=n) (l:=l) bx6;exact f9 rfl rfl (⟨CoC.one (a7k he.1),ccb he.2.symm,cci h0.symm,trivial⟩)
 refine w_4 ?_;refine qcx ao7 (adi (dj n l) bx5) ?_;refine m9 2 ?_;refine w_4 ?_;refine ci 2 rfl rfl rfl ?_;refine ci 3 rfl rfl rfl ?_;refine w_2 ?_;refine qcx a71 (b7f (dl (dj n l)).length false (lf sC (dl (dj n l))) bx5) ?_;refine qcx (wgx Tryz.func58) (c74 (dl (dj n l)).length false (lf sC (dl (dj n l)))) ?_;refine w_2 ?_;refine b2u (ι:=List AS) (swp 2 1000) (at0 2 1000) rfl (wgx Tryz.func121) (bmp (dl (dj n l)).length false (lf sC (dl (dj n l))) bx5) [(2,some (bp (bx (.raw (.int .i64 n))))),(3,some (bp (bx (fdl l)))),(9,some (.v (.one (.ptr 2 0))))] (fun ps=>[(2, .box [.p (asl ps)])]) (fun i ps=>al8 n l (dl (dj n l)) i ps) ((dl (dj n l))) (b09 n l (dl (dj n l))) kk [2] (fun _ _=>rfl) rfl rfl ?_ ?_
 · rintro lp i ps hi hI
   have hpl:=hI.2.1;refine w_3 ?_;refine⟨rfl, ?_⟩;refine w_5 ?_;refine qcx (wgx Tryz.func60) (bp0 ps ((dl (dj n l)).getD ((dl (dj n l)).length-1-i) default)) ?_;refine w_3 ?_;obtain⟨k,hk1,hk2,hk3⟩:=aek (hI.2.2 ((dl (dj n l)).length-1-i) bx5);refine w_2 ?_;refine fc9 a71 (a3h ps.length false (lf sC ps) bx5) trivial ?_;refine w_3 ?_;refine l6 rfl rfl rfl rfl rfl rfl (wgx Tryz.func61) ((bbp ps k hk2).swap 900 0) (⟨rfl,CoP.of_eq (by rw[hk1]),CoP.of_eq (by rw[hk1]),trivial⟩) uu rfl rfl ?_;refine w_7 ?_;refine qcx (wgx Tryz.func62) (bod n l (ps.eraseIdx k) hv.1 hv.2.1 bx5) ?_;refine dq ?_;refine hcb ?_ ?_<;>intro h2
   ·
    refine w_4 ?_;refine⟨rfl,o3 n l ps ((dl (dj n l)).getD ((dl (dj n l)).length-1-i) default), ?_, ?_⟩
    · exact akk (a5f _) hI hi
    exact⟨⟨_,rfl,(by first|exact⟨CoP.of_eq (by rw[at1 hk1 bx6]),trivial⟩|exact⟨CoP.of_eq (by rw[asa hk1 bx6]),trivial⟩)⟩,trivial⟩
   refine fk ?_;refine⟨rfl,o3 n l ps ((dl (dj n l)).getD ((dl (dj n l)).length-1-i) default), ?_, ?_⟩
   · exact akk (a5f _) hI hi
   exact⟨⟨_,rfl,(by first|exact⟨CoP.of_eq (by rw[at1 hk1 bx6]),trivial⟩|exact⟨CoP.of_eq (by rw[asa hk1 bx6]),trivial⟩)⟩,trivial⟩
 rintro ps hI;refine w_7 ?_;refine hrr ?_;have he:=b0g h0 bx6;exact f9 rfl rfl (⟨CoC.one (CoP.of_eq (by rw[he.1,<- hI.1])),ccb he.2.symm,cci h0.symm,trivial⟩)
end
section
open Go.Proofs
def bqr:List Fd:=[⟨1,2⟩,⟨2,4⟩]
def brj:List Fd:=[⟨3,4⟩,⟨4,1⟩]
end
section
open Go.Proofs
def w1(l:List Fd)(p:AS):Int:=if aw 16 l=0/\(8:Int)<bsz p then 3 else aw 16 l
section
variable {l:List Fd}{p:AS}
end
section
variable {n:Int}{l:List Fd}
end
end
end Go.Hx
