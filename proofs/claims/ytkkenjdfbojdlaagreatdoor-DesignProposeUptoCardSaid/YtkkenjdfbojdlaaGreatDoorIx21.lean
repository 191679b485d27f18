/- A part of the proof: Hx20 B1 Cs20 V18. -/
import Derived.Test.YtkkenjdfbojdlaaGreatDoorIx13
import Derived.Test.YtkkenjdfbojdlaaGreatDoorIx14
import Derived.Test.YtkkenjdfbojdlaaGreatDoorIx20
set_option linter.all false
set_option maxRecDepth 100000
namespace Go.Hx
section
open Go.RowKit
def b4e (P:Program) (g:FuncId) (caps:List PC) (n:Nat) (xs:Nat -> List PC):Prop :=
 ∀ (imm:Imm) (_:sw imm) (us:List Value) (W:World) (l:Nat) (J:Nat -> World -> Prop),cn imm caps us ->
  (∀ i A,J i A -> ∀ b ob,imm b = some ob -> A.heap[b]? = some ob) ->
  (∀ i A A',J i A -> Below A.heap.size A A' -> J i A') ->
  (∀ i A vs,i < n -> J i A -> cn imm (xs i) vs -> YieldAt (rf none) 0 P l vs.toArray A fun e A'=>e = .returned (.bool true) /\ J (i + 1) A') ->
  J 0 W -> CallsIn (rf none) 0 P g (#[.func (.yield l) #[] #[]] ++ us.toArray) W fun e W'=>(∃ v,e = .returned v) /\ J n W'
section
variable {P:Program} {nt:Nat} {c:Ctx} {s:S} {a:Act} {w w0:World}
def xx {l b:Nat} {o:Obj} (hb:b ≠ l):(w.putObj l o).heap[b]? = w.heap[b]?:=by
 show (w.heap.setIfInBounds l _)[b]? = _;rw [bqg (Ne.symm hb)]
def aia {l:Nat} {o o1:Obj} (hl:w.heap[l]? = some o1):(w.putObj l o).heap[l]? = some o:=by
 show (w.heap.setIfInBounds l _)[l]? = _;rw [Array.getElem?_setIfInBounds_self_of_lt (bmr.1 hl).1]
def ah.turn (h:ah w0 nt c s a w) {l:Nat} {o1:Obj} (o2:Obj) (fo:Option Obj) (hl:w.heap[l]? = some o1) (hc:a8f o1 = false) (hd:∀ ds,o1 ≠ .deferred ds) (hi:c.imm l = none) (hi0:fo ≠ none -> c.old.1 l = none) (hfo:fo = none \/ fo = some o2) :
 ah w0 nt { old:=(c.old.1,fun b=>if b = l then fo else c.frm b,c.old.2.2),imm:=c.imm,tab:=c.tab,own:=c.own,blk:=c.blk,rows:=c.rows } s a (w.putObj l o2):=by
 have hblk:∀ id ob b,s.o id = some ob -> c.blk id b -> b ≠ l:=fun id ob b ho hb e=>by
  obtain ⟨x1,hcc,hdt⟩:=(h.objs id ob ho).data hb;rw [e,hl] at hcc;simp only [bmk] at hcc;rw [<- hcc,hc] at hdt;cases hdt
 have hil:∀ b ob,c.imm b = some ob -> b ≠ l:=fun b ob hb e=>by rw [e,hi] at hb;cases hb
 refine ⟨⟨h.defers.1,fun d hdd=>?_⟩,h.size, ?_,fun d x hx=>am.evo (c:=c) (o:=s.o) (Imm.le.refl c.imm) (fun _ _=>Evo.of_same rfl rfl) (h.tmps d x hx),fun id ob ho=>?_,h.inj,fun b ob hb=>(xx (hil b ob hb)).trans (h.imm b ob hb),h.sep,fun b hb=>?_,fun b ob hb=>?_,fun id ob b ho hb=>?_,fun id hid=>h.fixed id hid⟩
 · obtain ⟨D,e,g1,g2,g3,g4⟩:=h.defers.2 d hdd
   have hne:D ≠ l:=fun e=>by
    rw [e,hl] at g1;simp only [bmk] at g1;exact hd _ g1
   exact ⟨D,e,(xx hne).trans g1,g2,by show (if D = l then fo else c.frm D) = none;rw [if_neg hne];exact g3,g4⟩
 · have hb:=h.below
   exact ⟨hb.os,hb.tape,hb.output,by show _ <= (w.heap.setIfInBounds l _).size;rw [Array.size_setIfInBounds];exact hb.size,fun k hk=>absurd hk (bmq k),hb.drawn⟩
 · exact (h.objs id ob ho).keep (Imm.le.refl c.imm) rfl rfl (fun _ _=>Evo.of_same rfl rfl) fun b hb=>xx (hblk id ob b ho hb)
 · have hb:(if b = l then fo else c.frm b) ≠ none:=hb
   show c.imm b = c.old.1 b;by_cases e:b = l
   · subst e
     rw [if_pos rfl] at hb;rw [hi,hi0 hb]
   rw [if_neg e] at hb;exact h.was b hb
 · have hb:(if b = l then fo else c.frm b) = some ob:=hb
   by_cases e:b = l
   · subst e
     rw [if_pos rfl] at hb
     rcases hfo with rfl | rfl
     · cases hb
     rw [aia hl];exact hb
   rw [if_neg e] at hb;exact (xx e).trans (h.frm b ob hb)
 show (if b = l then fo else c.frm b) = none;rw [if_neg (hblk id ob b ho hb)];exact h.fsep id ob b ho hb
def ah.turn0 (h:ah w0 nt c s a w) {l:Nat} {o1:Obj} (o2:Obj) (hl:w.heap[l]? = some o1) (hc:a8f o1 = false) (hd:∀ ds,o1 ≠ .deferred ds) (hi:c.imm l = none) (hf:c.frm l = none):ah w0 nt c s a (w.putObj l o2):=by
 have:=h.turn o2 none hl hc hd hi (fun e=>absurd rfl e) (.inl rfl)
 have e:(fun b=>if b = l then none else c.frm b) = c.frm:=by
  funext b;by_cases hb:b = l
  · rw [if_pos hb,hb,hf]
  rw [if_neg hb]
 rw [e] at this;exact this
end
def a06 (r:Nat -> Nat):List (Nat × Option HR) -> List (Nat × Option HR)
 | []=>[]
 | (d,some x) :: l=>(d,some (x.ren r)) :: a06 r l
 | (d,none) :: l=>(d,none) :: a06 r l
def a63 (r:Nat -> Nat):∀ (l:List (Nat × Option HR)) (d:Nat),bi (a06 r l) d = (bi l d).map (HR.ren r)
 | [],d=>rfl
 | (e,some x) :: l,d=>by
  simp only [a06,bi]
  cases Nat.beq e d with
  | true=>rfl
  | false=>simpa using a63 r l d
 | (e,none) :: l,d=>by
  simp only [a06,bi]
  cases Nat.beq e d with
  | true=>rfl
  | false=>simpa using a63 r l d
def rgB (r:Nat -> Nat) (T:List (Nat × Option HR)) (o1 o2:List (Nat × aa)) (fx:List Nat):Bool :=
 (fx.all fun id=>Nat.ble 1000 (r id)) && ((da o2).all fun id=>(wd fx id && wd (da o1) id) || (Nat.blt id 1000 && nmT id T)) && (ab7 o2).all (wd (da o2))
def b2t {r:Nat -> Nat} {T:List (Nat × Option HR)} {o1 o2:List (Nat × aa)} {fx:List Nat} (h:rgB r T o1 o2 fx = true) :
 (∀ id ∈ fx,1000 <= r id) /\ (∀ id ∈ da o2,id ∉ fx \/ id ∉ da o1 -> id < 1000 /\ nmT id T = true) /\ (∀ id ob,lk o2 id = some ob -> ∀ k,ob.men k -> k ∈ da o2):=by
 simp only [rgB,bmw,bnr] at h;obtain ⟨⟨h1,h2⟩,h3⟩:=h;refine ⟨fun id hid=>bmn (h1 id hid),fun id hid hor=>?_,fun id ob hid k hk=>?_⟩
 · have:=h2 id hid
   simp only [bob,bmw] at this
   rcases this with ⟨q1,q2⟩ | ⟨q1,q2⟩
   · rcases hor with e | e
     · exact absurd (jy.1 q1) e
     exact absurd (jy.1 q2) e
   exact ⟨by simpa [Nat.blt_eq] using q1,q2⟩
 have hmem:∀ {l:List (Nat × aa)},lk l id = some ob -> (id,ob) ∈ l:=by
  intro l
  induction l with
  | nil=>intro h;cases h
  | cons p l ih =>
   obtain ⟨e,x⟩:=p;intro h;simp only [lk] at h
   cases hb:Nat.beq e id with
   | true =>
    rw [hb] at h;simp only [cond_true,bmk] at h;rw [<- bni hb,h];exact bnt
   | false =>
    rw [hb] at h;exact bnq _ (ih (by simpa using h))
 exact jy.1 (h3 k (a5q (hmem hid) (aa.men_ids hk)))
def bk6 (P:Program) (nt l:Nat) (body:Code) (Q:HSt -> Prop) (e:Exit) (st:HSt):Prop:=e = .normal /\ HW (ro:=some l) P nt body st fun e st=>e = .normal /\ Q st
def b3y {st:HSt} {P:Program} {nt:Nat} {Q:Exit -> HSt -> Prop} {ι:Type} {g:Operand} {p0 p1:Tmp} {assign body:Code} {gf:FuncId} {k:Nat} {caps:Nat -> PV} {n:Nat} {xs0 xs1:Nat -> PC} (r:Nat -> Nat) (hr:∀ k,r (r k) = k)
 (hg:ev st.den g = some (.v (.one (.p (.fn gf k caps))))) (hf:goodFn P gf) (hit:b4e P gf (it caps k 0) n fun i=>[xs0 i,xs1 i])
 (T:List (Nat × Option HR)) (O:ι -> List (Nat × aa)) (p:Nat -> ι -> Prop) (x0:ι) (hx0:p 0 x0) (hsub:Sub ⟨T,lw (O x0)⟩ st) (fx:List Nat)
 (hB:∀ x y,rgB r T (O x) (O y) fx = true) (hp0:Nat.blt p0 nt = true) (hp1:Nat.blt p1 nt = true)
 (hround:∀ (l i:Nat) (x:ι),i < n -> p i x -> HW (ro:=some l) P nt assign ⟨(p1,some (.v (xs1 i).toH)) :: (p0,some (.v (xs0 i).toH)) :: a06 r T,lw (k6 r (O x))⟩
  (bk6 P nt l body fun st2=>∃ y,p (i + 1) y /\ af1 (k6 r (O y)) st2.den.o))
 (hdone:∀ y,p n y -> Q .normal ⟨T,lw (O y)⟩):HW (ro:=none) P nt (.rangeFunc g #[p0,p1] assign body) st Q:=by
 classical
 intro w0 m0 a w hrel;obtain ⟨c0,hold0,h0⟩:=hrel;obtain ⟨cs,e1,hcl,hcr⟩:=af h0 hg;have hsT:∀ x:ι,(HSt.den ⟨T,lw (O x)⟩).o = lk (O x):=fun x=>yi _;have h1:=h0.relax (HSt.den ⟨T,lw (O x0)⟩) (fun d x hx=>xn hsub.1 d x hx) (fun d x hx=>a1f hsub.2 d x hx)
 have hcaps:cn c0.imm (it caps k 0) cs:=by
  have:=uw (m:=c0.imm) (caps:=caps) k 0 cs bqx (fun j hj=>by
   obtain ⟨x,hx,hr⟩:=hcr j bqx
   exact ⟨x,hx,hr⟩)
  simpa using this
 obtain ⟨fg,hfg,hname,hbody⟩:=hf
 have eg:∀ args (w:World),(callFunc gf args).run P w = .ok (.enter gf args) w:=fun args w=>by
  simp only [callFunc,bnw,run_program,bn8,hfg,hname,hbody];simp
 refine wpIn_rangeFunc ?_;intro fn hfn;obtain ⟨rec,hrec⟩:∃ rec:LoopState -> Option Code -> Loop,rec = fun st pe=>{ state:=st,pending:=pe,fn,tmps:=a.tmps,params:=#[p0,p1],assign,body,defers:=w.heap.size }:=⟨_,rfl⟩;obtain ⟨W1,hW1⟩:∃ W1,(w.alloc (.deferred (some []))).alloc (.loop (rec .ready none)) = W1:=⟨_,rfl⟩
 have hL1:W1.heap[w.heap.size + 1]? = some (.loop (rec .ready none)):=by
  rw [<- hW1];have:=World.alloc_heap_new (w.alloc (.deferred (some []))) (.loop (rec .ready none));rwa [World.size_alloc] at this
 have hK1:W1.heap[w.heap.size]? = some (.deferred (some [])):=by
  rw [<- hW1];exact (Below.heap_alloc _ _ _ br1).trans (World.alloc_heap_new w _)
 have hb1:Below w.heap.size w W1:=by
  rw [<- hW1];exact (((Below.refl _ w).alloc (bmp _) _).alloc br1 _)
 obtain ⟨l,hl⟩:∃ l,l = w.heap.size + 1:=⟨_,rfl⟩;rw [<- hl] at hL1
 have hnew:∀ b,w.heap.size <= b -> c0.imm b = none /\ c0.frm b = none:=fun b hb=>by
  refine ⟨?_, ?_⟩
  · cases hi:c0.imm b with
    | none=>rfl
    | some ob=>have:=(bmr.1 (h0.imm b ob hi)).1;omega
  cases hi:c0.frm b with
  | none=>rfl
  | some ob=>have:=(bmr.1 (h0.frm b ob hi)).1;omega
 have hfl:m0.2.1 l = none:=by rw [<- hold0];exact (hnew l bqx).2
 let aM:Act:={ a with defers:=[{ target:=.collected w.heap.size,args:=#[] }] ++ a.defers }
 have hM:ah w0 nt c0 (HSt.den ⟨T,lw (O x0)⟩) aM W1:=by
  have h2:=h1.later W1 hb1 c0.imm (fun _ _=>rfl) (fun b ob hb=>(hb1.block b (bmr.1 (h1.imm b ob hb)).1).trans (h1.imm b ob hb));refine ⟨⟨bnu.2 ⟨fun d hd e=>?_,h2.defers.1⟩,fun d hd=>?_⟩,h2.size,h2.below,h2.tmps,h2.objs,h2.inj,h2.imm,h2.sep,h2.was,h2.frm,h2.fsep,h2.fixed⟩
  · obtain ⟨D,e2,g1,_⟩:=h1.defers.2 d hd
    rw [<- e] at e2;simp only [Deferred.mk.injEq,Target.collected.injEq,and_true] at e2;have:=(bmr.1 g1).1;omega
  rcases bn0.1 hd with rfl | hd
  · exact ⟨w.heap.size,rfl,hK1,(hnew _ (bmp _)).1,(hnew _ (bmp _)).2,h0.below.size⟩
  exact h2.defers.2 d hd
 let J:Nat -> World -> Prop:=fun i A=>∃ x c,p i x /\ c.old = m0 /\ Imm.le c0.imm c.imm /\ c.imm l = none /\ ah w0 nt c (HSt.den ⟨T,lw (O x)⟩) aM A /\ A.heap[l]? = some (.loop (rec .ready none))
 refine ⟨l,[{ target:=.collected w.heap.size,args:=#[] }],W1,{ target:=.fn (.func gf) cs.toArray,args:=#[.func (.yield l) #[] #[]] },W1,gf,#[.func (.yield l) #[] #[]] ++ cs.toArray,W1, ?_, ?_,fun _ _=>trivial, ?_,fun hh=>absurd hh (by simp [rf]), ?_⟩
 · rw [<- hW1,hrec,hl];exact run_enterLoop_outer _ _ _ _ _
 · simp only [resolve,e1]
   simp [go_sem]
 · simp [invoke,go_sem,eg]
 have hJ0:J 0 W1:=⟨x0,c0,hx0,hold0,Imm.le.refl _,(hnew l bqx).1,hM,hL1⟩;have hnd:∀ (st:LoopState) (pe:Option Code),a8f (Obj.loop (rec st pe)) = false /\ ∀ ds,Obj.loop (rec st pe) ≠ .deferred ds:=fun st pe=>⟨rfl,(fun _ e=>by cases e)⟩;refine (hit c0.imm c0.tab cs W1 l J hcaps (fun i A ⟨x,c,_,_,hle,_,hR,_⟩ b ob hb=>hR.imm b ob (hle b ob hb)) (fun i A A' ⟨x,c,hp,ho,hle,hil,hR,hA⟩ hb=>?_) (fun i A vs hi hJ hvs=>?_) hJ0).mono ?_
 · refine ⟨x,_,hp,ho,hle,hil,hR.later A' hb c.imm (fun _ _=>rfl) (fun b ob hb'=>(hb.block b (bmr.1 (hR.imm b ob hb')).1).trans (hR.imm b ob hb')),(hb.block l (bmr.1 hA).1).trans hA⟩
 · obtain ⟨x,c,hp,ho,hle,hil,hR,hA⟩:=hJ
   obtain ⟨v0,v1,rfl,hv0,hv1⟩:∃ v0 v1,vs = [v0,v1] /\ iu c0.imm (xs0 i) v0 /\ iu c0.imm (xs1 i) v1:=by
    match vs,hvs with
    | [v0,v1],⟨q0,q1,_⟩=>exact ⟨v0,v1,rfl,q0,q1⟩
   refine ⟨fn,(a.tmps.setIfInBounds p0 v0).setIfInBounds p1 v1,assign,body, ?_, ?_⟩
   · have:=run_yield (P:=P) (l:=l) (r:=rec .ready none) (args:=#[v0,v1]) hA (by rw [hrec];rfl)
     rw [this,hrec];simp
   have hmem:Mem c (lk (O x)) A:=by
    have:=hR;rw [<- hsT x];exact ⟨hR.objs,hR.inj,hR.imm,hR.sep⟩
   have hmemR:Mem (c.ren r) (lk (k6 r (O x))) A:=(Mem.ren hr (sm hr (O x))).2 (by rw [Ctx.ren_ren hr];exact hmem)
   let own2:Nat -> Prop:=fun b=>∃ id ob,lk (k6 r (O x)) id = some ob /\ (c.ren r).blk id b
   let frmR:Imm:=fun b=>if own2 b then none else A.heap[b]?
   let oldR:Old:=(c.imm,frmR,(c.ren r).own,lk (k6 r (O x)),(c.ren r).rows)
   let cR:Ctx:={ old:=oldR,imm:=c.imm,tab:=c.tab,own:=(c.ren r).own,blk:=(c.ren r).blk,rows:=(c.ren r).rows }
   have hsR:(HSt.den ⟨a06 r T,lw (k6 r (O x))⟩).o = lk (k6 r (O x)):=yi _
   have hround0:ah A nt cR (HSt.den ⟨a06 r T,lw (k6 r (O x))⟩) { tmps:=a.tmps,defers:=[] } A:=by
    refine ⟨rj.nil _ _ _ _,hR.size,Below.refl _ _,fun d y hy=>?_,fun id ob hob=>?_,fun id id' ob ob' b hob hob'=>?_,hR.imm,fun id ob b hob=>?_,fun b _=>rfl,fun b ob hbo=>?_,fun id ob b hob hbb=>?_,fun id _=>Evo.of_same (congrFun hsR id) rfl⟩
    · have hy:bi (a06 r T) d = some y:=hy
      rw [a63] at hy
      cases hd:bi T d with
      | none=>rw [hd] at hy;cases hy
      | some z =>
       rw [hd] at hy;simp only [bnh,bmk] at hy;subst hy;have hz:=hR.tmps d z hd;rw [hsT x] at hz;rw [hsR];have:=(am.ren (c:=c.ren r) (r:=r) (sm hr (O x)) (x:=z) (u:=aM.tmps.getD d undef)).2 (by rw [Ctx.ren_ren hr];exact hz);exact am.evo (c:=c.ren r) (o:=lk (k6 r (O x))) (Imm.le.refl c.imm) (fun _ _=>Evo.of_same rfl rfl) this
    · rw [hsR] at hob ⊢
      exact (hmemR.objs id ob hob).keep (Imm.le.refl c.imm) rfl rfl (fun _ _=>Evo.of_same rfl rfl) fun _ _=>rfl
    · rw [hsR] at hob hob'
      exact hmemR.inj id id' ob ob' b hob hob'
    · rw [hsR] at hob
      exact hmemR.sep id ob b hob
    · have hbo:frmR b = some ob:=hbo
      simp only [frmR] at hbo;split at hbo
      · cases hbo
      exact hbo
    rw [hsR] at hob;show frmR b = none;simp only [frmR];rw [if_pos ⟨id,ob,hob,hbb⟩]
   have hround1:=(hround0.put p0 (by simpa [Nat.blt_eq] using hp0) (some (.v (xs0 i).toH)) v0 (fun y hy=>by cases hy;exact fw.of_P (c:=cR) (iu.mono hle hv0))).put p1 (by simpa [Nat.blt_eq] using hp1) (some (.v (xs1 i).toH)) v1 (fun y hy=>by cases hy;exact fw.of_P (c:=cR) (iu.mono hle hv1))
   have hst:((HSt.den ⟨a06 r T,lw (k6 r (O x))⟩).put p0 (some (.v (xs0 i).toH))).put p1 (some (.v (xs1 i).toH)) = HSt.den ⟨(p1,some (.v (xs1 i).toH)) :: (p0,some (.v (xs0 i).toH)) :: a06 r T,lw (k6 r (O x))⟩:=by
    unfold HSt.den S.put;simp [bu]
   rw [hst] at hround1
   have hown_l:¬ own2 l:=fun ⟨id,ob,q1,q2⟩=>by
    obtain ⟨x1,hcc,hdt⟩:=(hmemR.objs id ob q1).data q2;rw [hA] at hcc;cases hcc;cases hdt
   have hfl1:oldR.2.1 l = some (.loop (rec .ready none)):=by
    show frmR l = _;simp only [frmR];rw [if_neg hown_l];exact hA
   refine roundIn_of_wpIn (P:=P) (F:=rf none) (n:=0) trivial ?_;refine wpIn_mono (hround l i x hi hp A oldR _ A ⟨cR,rfl,hround1⟩) ?_;rintro e a1 w1 ⟨st1,⟨rfl,hbody1⟩,⟨c1,hold1,hR1⟩⟩;have hfrm1:c1.frm l = some (.loop (rec .ready none)):=by show c1.old.2.1 l = _;rw [hold1];exact hfl1
   have hl1:w1.heap[l]? = some (.loop (rec .ready none)):=hR1.frm l _ hfrm1;have hi1:c1.imm l = none:=by rw [hR1.was l (by rw [hfrm1];simp),hold1];exact hil
   refine ⟨_,run_beginRound hl1 (by rw [hrec]), ?_⟩;have hready:({ rec .ready none with state:=.busy }:Loop) = rec .busy none:=by rw [hrec]
   rw [hready];have hRb:=hR1.turn (.loop (rec .busy none)) (some (.loop (rec .busy none))) hl1 (hnd _ _).1 (hnd _ _).2 hi1 (fun _=>by rw [hold1];exact hil) (.inr rfl)
   let oldB:Old:=(oldR.1,fun b=>if b = l then some (.loop (rec .busy none)) else oldR.2.1 b,oldR.2.2)
   have hRb':Rel A oldB nt st1.den a1 (w1.putObj l (.loop (rec .busy none))):=⟨_,by
    show ((c1.old.1,(fun b=>if b = l then some (Obj.loop (rec .busy none)) else c1.old.2.1 b),c1.old.2.2):Old) = oldB
    rw [hold1],hRb⟩
   refine wpIn_mono (hbody1 A oldB a1 _ hRb') ?_;rintro e a2 w2 ⟨st2,⟨rfl,y,hpy,hsub2⟩,⟨c2,hold2,hR2⟩⟩;have hfrm2:c2.frm l = some (.loop (rec .busy none)):=by show c2.old.2.1 l = _;rw [hold2];show (if l = l then _ else _) = _;rw [if_pos rfl]
   have hl2:w2.heap[l]? = some (.loop (rec .busy none)):=hR2.frm l _ hfrm2;have hi2:c2.imm l = none:=by rw [hR2.was l (by rw [hfrm2];simp),hold2];exact hil
   refine ⟨_,_,run_endRound none hl2,by simp, ?_⟩;have hready2:({ rec .busy none with state:=if (none:Option Code).isNone then .ready else .done,pending:=none }:Loop) = rec .ready none:=by rw [hrec];simp
   rw [hready2];have hR3:=(hR2.relax ⟨fun _=>none,lk (k6 r (O y))⟩ (fun d x hx=>by cases hx) (a19 hsub2)).turn (.loop (rec .ready none)) none hl2 (hnd _ _).1 (hnd _ _).2 hi2 (fun e=>absurd rfl e) (.inl rfl);have hw3:(w2.putObj l (.loop (rec .ready none))).heap[l]? = some (.loop (rec .ready none)):=aia hl2;obtain ⟨bB1,bB2,bB3⟩:=b2t (hB x y);have hmem3:Mem (c2.ren r) (lk (O y)) (w2.putObj l (.loop (rec .ready none))):=(Mem.ren hr (sm hr (O y))).1 ⟨fun id ob hob=>(hR3.objs id ob hob).keep (Imm.le.refl c2.imm) rfl rfl (fun _ _=>Evo.of_same rfl rfl) fun _ _=>rfl,hR3.inj,hR3.imm,hR3.sep⟩
   have forth:∀ (q:List (Nat × aa)) id ob,lk (k6 r q) id = some ob -> ∃ ob',lk q (r id) = some ob' /\ ob = ob'.ren r:=fun q id ob h=>by
    have:=sm hr q (r id);rw [hr,h] at this
    cases hid:lk q (r id) with
    | none=>rw [hid] at this;cases this
    | some ob'=>rw [hid] at this;exact ⟨ob',rfl,by simpa using this⟩
   have back:∀ (q:List (Nat × aa)) id ob,lk q id = some ob -> lk (k6 r q) (r id) = some (ob.ren r):=fun q id ob h=>by rw [sm hr,h];rfl
   have hfr2:∀ b,c2.frm b = if b = l then some (.loop (rec .busy none)) else frmR b:=fun b=>by show c2.old.2.1 b = _;rw [hold2]
   have hnot:∀ b,b < A.heap.size -> ¬ own2 b -> (w2.putObj l (.loop (rec .ready none))).heap[b]? = A.heap[b]? /\ c2.imm b = c.imm b:=fun b hb hno=>by
    by_cases e:b = l
    · subst e
      exact ⟨hw3.trans hA.symm,hi2.trans hil.symm⟩
    have e2:c2.frm b = some A.heap[b]:=by
     rw [hfr2,if_neg e];simp only [frmR];rw [if_neg hno];exact bnm hb
    refine ⟨(xx e).trans ?_, ?_⟩
    · rw [hR2.frm b _ e2,bnm hb]
    rw [hR2.was b (by rw [e2];simp),hold2]
   have hsO:∀ id ob,lk (O x) id = some ob -> ∃ ob',(HSt.den ⟨T,lw (O x)⟩).o id = some ob' /\ CoO ob' ob:=fun id ob h=>⟨ob,by rw [hsT x];exact h,CoO.refl ob⟩
   have hnoO:∀ b,(∀ id ob,lk (O x) id = some ob -> ¬ c.blk id b) -> ¬ own2 b:=fun b hno ⟨id,ob,q1,q2⟩=>by
    obtain ⟨ob',q3,_⟩:=forth _ _ _ q1;exact hno (r id) ob' q3 q2
   obtain ⟨c4,hc4,hc4i,hR4,_⟩:=hR.fcall (o1:=O x) (o2:=O y) (fx:=fx) hsO (fun id h2 h1=>by
    rw [hsT x]
    cases hid:lk (O x) id with
    | none=>rfl
    | some ob=>exact absurd (a3u hid) h1)
    (fun id h2 hor=>⟨zq (bB2 id h2 hor).2,fun id' ob' hni ho'=>by
     rw [hsT x] at ho'
     exact absurd (bn5 _ (a3u ho')) hni,(bB2 id h2 hor).1⟩)
    bB3 (w':=w2.putObj l (.loop (rec .ready none))) (c':=c2.ren r) hmem3
    (by
     have hb:=hR3.below
     exact ⟨hb.os,hb.tape,hb.output,hb.size,fun k hk=>absurd hk (bmq k),hb.drawn⟩)
    (fun b hb hno=>hnot b hb (hnoO b hno))
    (fun id ob b hid hbk=>by
     have hid':=back _ _ _ hid;have e:=hR3.fsep (r id) _ b hid' hbk;have e:(if b = l then none else c2.frm b) = none:=e
     have hbl:b ≠ l:=fun e2=>by
      obtain ⟨x1,hcc,hdt⟩:=(hR3.objs (r id) _ hid').data hbk;rw [e2,hw3] at hcc;cases hcc;cases hdt
     rw [if_neg hbl,hfr2,if_neg hbl] at e;simp only [frmR] at e;by_cases ho2:own2 b
     · obtain ⟨id0,ob0,q1,q2⟩:=ho2
       obtain ⟨ob',q3,_⟩:=forth _ _ _ q1;exact .inr ⟨r id0,ob',q3,q2⟩
     rw [if_neg ho2] at e
     exact .inl (bqc fun hlt=>by simp [hlt] at e))
    (fun id hid=>by
     have e:=hR3.fixed (r id) (bB1 id hid)
     have e2:∀ (o:Old) (ho:c2.old = o) (ht:sw o.1),Evo { old:=o,imm:=o.1,tab:=ht,own:=o.2.2.1,blk:=c2.blk,rows:=o.2.2.2.2 } o.2.2.2.1 c2 (lk (k6 r (O y))) (r id):=by
      intro o ho ht;subst ho;exact e
     have e2:=e2 oldB hold2 c.tab
     have e3:Evo cR (lk (k6 r (O x))) c2 (lk (k6 r (O y))) (r id):=by
      rcases e2 with q | ⟨l1,l2,q1,q2,q3⟩ | ⟨oa,ob,sz,et,n1,n2,q1,q2,q3,q4,q5,q6,q7⟩
      · exact .inl q
      · exact .inr (.inl ⟨l1,l2,q1,q2,q3⟩)
      exact .inr (.inr ⟨oa,ob,sz,et,n1,n2,q1,q2,q3,q4,q5,q6,q7⟩)
     rcases e3 with q | ⟨l1,l2,q1,q2,q3⟩ | ⟨oa,ob,sz,et,n1,n2,q1,q2,q3,q4,q5,q6,q7⟩
     · left
       cases hid2:lk (O y) id with
       | none=>rfl
       | some ob=>rw [back _ _ _ hid2] at q;cases q
     · obtain ⟨ob1,g1,g2⟩:=forth _ _ _ q1
       obtain ⟨ob2,g3,g4⟩:=forth _ _ _ q2;rw [hr] at g1 g3
       have hbx:∀ {ob:aa} {l1:List HV},aa.box l1 = ob.ren r -> ∃ l0,ob = .box l0:=fun {ob l1} h=>by
        cases ob with
        | box l0=>exact ⟨l0,rfl⟩
        | mp kk n f=>cases h
        | bld fr T e l=>cases h
        | nest e et es n m g pd=>cases pd <;> cases h
        | arr wr s e n f=>cases h
        | arrh s e n ms f=>cases h
       obtain ⟨l3,rfl⟩:=hbx g2;obtain ⟨l4,rfl⟩:=hbx g4;refine .inr (.inl ⟨l3,l4,g1,g3, ?_⟩);show c2.own (r id) = c.own id;rw [q3];show c.own (r (r id)) = c.own id;rw [hr]
     obtain ⟨ob1,g1,rfl⟩:=forth _ _ _ q1;obtain ⟨ob2,g3,rfl⟩:=forth _ _ _ q3;rw [hr] at g1 g3;rw [aa.ren_dim] at q2 q4;refine .inr (.inr ⟨ob1,ob2,sz,et,n1,n2,g1,q2,g3,q4,q5,fun hn=>?_,fun ea et2 es na ma ga pd hb=>?_⟩)
     · show c2.own (r id) = c.own id
       rw [q6 hn];show c.own (r (r id)) = c.own id;rw [hr]
     obtain ⟨e0,et0,n0,m0,g0,pd0,t1,t2,t3⟩:=(i9.unren q7) ea et2 es na ma ga pd hb;refine ⟨e0,et0,n0,m0,g0,pd0,t1,t2,fun i hi=>⟨(t3 i hi).1,fun hm=>?_⟩⟩;have t4:=(t3 i hi).2 hm;have t5:c2.rows (r id) i = c.rows (r (r id)) i:=t4;rw [hr] at t5
     exact t5)
   have hnl:∀ id ob,lk (O x) id = some ob -> ¬ c.blk id l:=fun id ob hid hbk=>by
    obtain ⟨x1,hcc,hdt⟩:=(hmem.objs id ob hid).data hbk;rw [hA] at hcc;cases hcc;cases hdt
   refine ⟨y,c4,hpy,hc4.trans ho,fun b ob hb=>?_, ?_, ?_,hw3⟩
   · rw [hc4i]
     show c2.imm b = some ob;have hb':=hle b ob hb;have hlt:=(bmr.1 (hR.imm b ob hb')).1
     rw [(hnot b hlt (hnoO b fun id ob2 hid hbk=>by
      rw [hmem.sep id ob2 b hid hbk] at hb';cases hb')).2]
     exact hb'
   · rw [hc4i];exact hi2
   refine hR4.weaken _ (fun d z hz=>hz) (fun id ob hob=>?_);rw [hsT y] at hob;show (match iw (yb (O x) (O y)) id with | some q=>q | none=>_) = some ob;rw [ae6,hob]
 rintro e W3 ⟨⟨v,rfl⟩,x,c,hp,ho,hle,hil,hR,hA⟩;refine ⟨_,_,run_endLoop hA (by rw [hrec];simp), ?_⟩;have hpe:(rec .ready none).pending = none:=by rw [hrec]
 rw [hpe];refine ⟨_,hdone x hp,c,ho, ?_⟩;exact hR.turn0 _ hA (hnd _ _).1 (hnd _ _).2 hil (by show c.old.2.1 l = none;rw [ho];exact hfl)
section
variable {P:Program} {E:Env} {nt:Nat} {ops:Array Oper} {i:Nat} {o:Oper} {Q:Exit -> Act -> World -> Prop} {a:Act} {A:World} {imm:Imm}
def b2v (d:Option Tmp) (x:HR) (t:List (Nat × Option HR)):List (Nat × Option HR):=match d with | some d=>(d,some x) :: t | none=>t
class TabC (imm:Imm):Prop where
 ok:sw imm
def cI (imm:Imm) (A:World) [ht:TabC imm]:Ctx:={ old:=(imm,gw A,(fun _=>undef),(fun _=>none),fun _ _=>undef),imm:=imm,tab:=ht.ok,own:=fun _=>undef,blk:=fun _=>noB,rows:=fun _ _=>undef }
variable [TabC imm]
structure It (imm:Imm) [TabC imm] (nt:Nat) (t:List (Nat × Option HR)) (a:Act) (A:World):Prop where
 defers:a.defers = []
 rel:ah A nt (cI imm A) ⟨bi t,fun _=>none⟩ a A
def b0q {us:List Value} {args:List PC} (hi:∀ b ob,imm b = some ob -> A.heap[b]? = some ob) (hr:cn imm args us) (hn:args.length <= nt):It imm nt (a0z 0 args) { tmps:=us.toArray ++ Array.replicate (nt - us.toArray.size) undef,defers:=[] } A:=by
 have hul:=hr.length;refine ⟨rfl,rj.nil _ _ _ _, ?_,Below.refl _ _,fun d x hx=>?_,(fun id ob ho=>by cases ho),(fun i i' ob ob' b ho=>by cases ho),hi,(fun id ob b ho=>by cases ho),fun b _=>rfl,fun b ob hb=>hb,(fun id ob b ho=>by cases ho),fun id _=>.inl rfl⟩
 · simp only [bpe,Array.size_replicate,bnz];omega
 obtain ⟨y,_,hy,rfl⟩:=a5j args 0 d x hx;simp only [bpz] at hy;obtain ⟨u,hu,hr⟩:=hr.get d y hy;have hd:d < us.length:=(bop.1 hu).1
 have:(us.toArray ++ Array.replicate (nt - us.toArray.size) undef).getD d undef = u:=by
  have e1:(us.toArray ++ Array.replicate (nt - us.toArray.size) undef)[d]? = some u:=by
   rw [bq3 (by simpa using hd)];simpa using hu
  rw [Array.getD_eq_getD_getElem?,e1];rfl
 show am (cI imm A) _ _ _;rw [this];exact fw.of_P (c:=cI imm A) hr
section
variable {t:List (Nat × Option HR)}
theorem It.sub {t':List (Nat × Option HR)} (h:It imm nt t a A) (hs:rz t' t):It imm nt t' a A :=
 ⟨h.defers,h.rel.relax ⟨bi t',fun _=>none⟩ (fun d x hx=>xn hs d x hx) (fun id ob ho=>by cases ho)⟩
theorem It.move {A':World} (h:It imm nt t a A) (hi:∀ b ob,imm b = some ob -> A'.heap[b]? = some ob):It imm nt t a A':=by
 refine ⟨h.defers,by rw [h.defers];exact rj.nil _ _ _ _,h.rel.size,Below.refl _ _,fun d x hx=>?_,(fun id ob ho=>by cases ho),(fun i i' ob ob' b ho=>by cases ho),hi,(fun id ob b ho=>by cases ho),fun b _=>rfl,fun b ob hb=>hb,(fun id ob b ho=>by cases ho),fun id _=>.inl rfl⟩;exact am.evo (c:=cI imm A) (o:=fun _=>none) (Imm.le.refl imm) (fun _ _=>.inl rfl) (h.rel.tmps d x hx)
theorem It.put (h:It imm nt t a A) {d:Option Tmp} (hd:dp nt d = true) (x:HR) (v:Value) (hx:am (cI imm A) (fun _=>none) x v):It imm nt (b2v d x t) (a.put d v) A:=by
 cases d with
 | none=>exact h
 | some d =>
  have:=h.rel.put d (of_decide_eq_true hd) (some x) v (fun y hy=>by cases hy;exact hx);refine ⟨h.defers, ?_⟩
  have e:(S.put ⟨bi t,fun _=>none⟩ d (some x)) = ⟨bi ((d,some x) :: t),fun _=>none⟩:=by
   unfold S.put;simp [bu]
  rw [e] at this;exact this
def a3e (h:It imm nt t a A) {x:Operand} {r:HR} (hx:ev ⟨bi t,fun _=>none⟩ x = some r):am (cI imm A) (fun _=>none) r (a.eval x):=af h.rel hx
def iq (hE:d7 P E) {L:List Nat} {out:Out} {gb:Bool} (h:It imm nt t a A) (hi:ops[i]? = some o) (hw:b4 ops ⟨bi t,fun _=>none⟩ o = some gb) (hd:dp nt o.dst = true) (hq':hq E true (fun _=>none) (ev ⟨bi t,fun _=>none⟩) o.op = some out) (hnd:(match o.op with | .defer _=>false | _=>true) = true) (hg:gb = true) (hK:∀ a',It imm nt (b2v o.dst out.val t) a' A -> wpOpsIn (rf none) 0 P ops Q L a' A) (hp:out.pre:=by first | exact trivial | (simp only [ik,inR,n3,oc];omega) | exact ⟨trivial,trivial⟩ | exact ⟨trivial,bmn rfl⟩ | (try dsimp only) <;> ((repeat' apply And.intro) <;> first | trivial | rfl | omega | assumption | exact bmn rfl)):wpOpsIn (rf none) 0 P ops Q (i :: L) a A:=by
 rw [wpOpsIn_cons];unfold wpOpIn;simp only [hi];rw [if_pos (f7 h.rel (by rw [hw,hg]))];obtain ⟨v,h1,h2⟩:=al1 hE h.rel hq' hp;have hnd':∀ c,o.op ≠ .defer c:=fun c hc=>by rw [hc] at hnd;cases hnd
 refine aae hnd' ?_;unfold Oper.wp;rw [h1];exact hK _ (h.put hd out.val v h2)
def iy {L:List Nat} {cl:Call} {f:Operand} {l:Nat} {R:World -> Prop} (h:It imm nt t a A) (hi:ops[i]? = some o) (hw:b4 ops ⟨bi t,fun _=>none⟩ o = some true) (hd:dp nt o.dst = true) (ho:o.op = .call cl) (hcl:cl.callee = .value f) (hf:ev ⟨bi t,fun _=>none⟩ f = some (bp (.raw (.func (.yield l) #[] #[])))) (hy:YieldAt (rf none) 0 P l (cl.args.toList.map a.eval).toArray A fun e A'=>e = .returned (.bool true) /\ R A') (him:∀ A',R A' -> ∀ b ob,imm b = some ob -> A'.heap[b]? = some ob) (hK:∀ a' A',R A' -> It imm nt (b2v o.dst (bp (.raw (.bool true))) t) a' A' -> wpOpsIn (rf none) 0 P ops Q L a' A'):wpOpsIn (rf none) 0 P ops Q (i :: L) a A:=by
 rw [wpOpsIn_cons];unfold wpOpIn;simp only [hi];rw [if_pos (f7 h.rel hw)];obtain ⟨fn,tmps,assign,body,hyr,hround⟩:=hy;have hfe:a.eval f = .func (.yield l) #[] #[]:=(a3e h hf).1;refine ⟨fun _ _=>trivial, ?_⟩;have hsem:Oper.semAt (rf none).round a.eval o = execOp a.eval o:=rfl;rw [hsem];have hma:(cl.args.toList.map a.eval).toArray = cl.args.map a.eval:=by apply Array.toList_inj.1;rw [bpd]
 rw [hma] at hyr
 have hrun:(execOp a.eval o).run P A = .ok (.round l fn tmps assign body) A:=by
  simp only [execOp,ho,resolve,hcl,hfe,bnw,Deferred.ofValue,boi,bn8,invoke];simpa using hyr
 rw [hrun,Oper.uponIn_round];refine ⟨fun hh=>absurd hh (by simp [rf]),hround.mono ?_⟩;rintro e A' ⟨rfl,hR⟩;exact hK _ A' hR ((h.move (him A' hR)).put hd (bp (.raw (.bool true))) (.bool true) ⟨rfl,rfl⟩)
end
end
def f5.of_H {c:Ctx} {o:b6}:∀ {l:List PV} {us:List Value},bc c o (l.map .p) us -> f5 c.imm l us
 | [],[],_=>trivial
 | _ :: _,_ :: _,h=>⟨h.1,f5.of_H h.2⟩
 | [],_ :: _,h=>h.elim
 | _ :: _,[],h=>h.elim
def iu.of_H {c:Ctx} {o:b6} {x:PC} {u:Value} (h:am c o (.v x.toH) u):iu c.imm x u:=by
 cases x with
 | one x=>exact h
 | agg l=>obtain ⟨us,e,hl⟩:=h;exact ⟨us,e,f5.of_H hl⟩
theorem CoP.vp {k k':Nat} {f f':Nat -> PV} (hk:k' = k) (hf:∀ j,j < k -> CoP (f j) (f' j)):CoP (.vp k f) (.vp k' f'):=by
 subst hk;rintro m u ⟨b,off,rfl,h⟩
 exact ⟨b,off,rfl,fun j hj=>by
  obtain ⟨x,hx,hr⟩:=h j hj
  exact ⟨x,hx,hf j hj m x hr⟩⟩
theorem CoP.fn {g:FuncId} {k k':Nat} {f f':Nat -> PV} (hk:k' = k) (hf:∀ j,j < k -> CoP (f j) (f' j)):CoP (.fn g k f) (.fn g k' f'):=by
 subst hk;rintro m u ⟨cs,rfl,hl,h⟩
 exact ⟨cs,rfl,hl,fun j hj=>by
  obtain ⟨x,hx,hr⟩:=h j hj
  exact ⟨x,hx,hf j hj m x hr⟩⟩
def RN (P:Program) (nt:Nat) (ops:Array Oper) (L:List Nat) (st:HSt) (Q:HSt -> Prop):Prop :=
 ∀ (ro:Option Nat) (n:Nat) w0 m0 a w (QQ:Exit -> Act -> World -> Prop),Rel w0 m0 nt st.den a w -> (∀ st' a' w',Q st' -> Rel w0 m0 nt st'.den a' w' -> QQ .normal a' w') -> wpOpsIn (rf ro) n P ops QQ L a w
section
variable {P:Program} {E:Env} {nt:Nat} {ops:Array Oper} {st:HSt}
def aam (hE:d7 P E) {ro:Option Nat} {n:Nat} {w0:World} {m0:Old} {sf:S} {L2:List Nat} {QQ:Exit -> Act -> World -> Prop} (hQ:∀ a' w',Rel w0 m0 nt sf a' w' -> wpOpsIn (rf ro) n P ops QQ L2 a' w') :
 ∀ (T:List Tr) (s:S) (a:Act) (w:World),ng P E nt ops T s sf -> Rel w0 m0 nt s a w -> wpOpsIn (rf ro) n P ops QQ (T.map (·.i) ++ L2) a w
 | [],s,a,w,hT,hr=>by
  cases hT;exact hQ _ _ hr
 | t :: T,s,a,w,hT,hr=>by
  cases hT with
  | cons hi he hR hO hF hrest =>
  rw [bo7,bpj,wpOpsIn_cons];exact a7x hE he hr hi fun a' w' hr'=>aam hE hQ T _ a' w' hrest hr'
section
variable {Q:HSt -> Prop}
def azj (hE:d7 P E) {L1 L2:List Nat} (h:Reg P E nt ops L1 st fun _ sf=>RN P nt ops L2 sf Q):RN P nt ops (L1 ++ L2) st Q:=fun ro n w0 m0 a w QQ hr hQ=>by
 obtain ⟨T,sf,hl,hT,h⟩:=h;rw [<- hl];exact aam hE (fun a' w' hr'=>h ro n w0 m0 a' w' QQ hr' hQ) T _ a w hT hr
def bfs (h:Q st):RN P nt ops [] st Q:=fun ro n w0 m0 a w QQ hr hQ=>hQ st a w h hr
def bhl {L:List Nat} (h:HE nt st fun st'=>RN P nt ops L st' Q):RN P nt ops L st Q:=fun ro n w0 m0 a w QQ hr hQ=>by
 obtain ⟨st',h1,h2⟩:=h w0 m0 a w hr;exact h1 ro n w0 m0 a w QQ h2 hQ
def auv {ro:Option Nat} {Q:Exit -> HSt -> Prop} {id:Nat} (L1 L2:List Nat) (hl:List.range ops.size = L1 ++ L2) (h:RN P nt ops (L1 ++ L2) st (Q .normal)):HW (ro:=ro) P nt (.region id ops false) st Q:=fun w0 m0 a w hr=>by
 refine wpIn_region ?_;rw [hl];exact h ro 0 w0 m0 a w _ hr fun st' a' w' hq hr'=>⟨st',hq,hr'⟩
def bdq (st1:HSt) (d:Nat) (x:HR) (hs:∀ w0 m0 a w,Rel w0 m0 nt st.den a w -> ∃ cc,cc.old = m0 /\ ah w0 nt cc st1.den a w /\ am cc st1.den.o x (a.tmps.getD d undef)) (h:HE nt ⟨(d,some x) :: st1.t,st1.o⟩ Q):HE nt st Q:=fun w0 m0 a w hr=>by
 obtain ⟨cc,hold,hrr,hx⟩:=hs w0 m0 a w hr;refine h w0 m0 a w ⟨cc,hold,hrr.defers,hrr.size,hrr.below,fun k y hy=>?_,hrr.objs,hrr.inj,hrr.imm,hrr.sep,hrr.was,hrr.frm,hrr.fsep,hrr.fixed⟩;simp only [HSt.den] at hy;rw [bu] at hy;dsimp only at hy;split at hy
 · rename_i hk
   subst hk;simp only [bmk] at hy;subst hy;exact hx
 exact hrr.tmps k y hy
def aw1 (d:Nat) {id n n' s:Nat} {wr:Bool} {e:TypeId} {f:Nat -> Nat -> PV} (hd:bi st.t d = some (.v (.one (.ref id n)))) (ho:bi st.o id = some (.arr wr s e n' f)) (hn:n' = n) (h:HE nt ⟨(d,some (bp (.sl n s false f))) :: st.t,(id,none) :: st.o⟩ Q):HE nt st Q:=by
 subst hn;refine bdq ⟨st.t,(id,none) :: st.o⟩ d (bp (.sl n' s false f)) (fun w0 m0 a w hr=>?_) h;obtain ⟨cc,hold,hrr⟩:=hr;refine ⟨_, ?_,by rw [tg];exact hrr.freeze ho, ?_⟩
 · exact hold
 obtain ⟨_,_,h3⟩:=hrr.tmps d _ hd;have:=(h3 _ _ _ _ ho rfl).2 rfl;rw [this];exact qx hrr ho
end
end
end
section
open Go.Proofs
def c74 (n:Nat) (cl:Bool) (f:Nat -> Nat -> PV):a6 brj 91 [.one (.sl n 1 cl f)] (a8 [.one (.fn 147 1 fun _=>.vp 1 fun _=>.sl n 1 cl f)]):=by
 refine hpx (nt:=4) Tryz.func91 ?_;refine sx7 ?_;refine m9 0 ?_;refine w_3 ?_;refine d8 1 rfl rfl rfl ?_;refine w_5 ?_;refine ⟨.inr rfl, ?_⟩
 exact ⟨_,_,_,_,rfl,(by (repeat' apply And.intro) <;> trivial),rfl,(by (repeat' apply And.intro) <;> trivial),⟨CoC.one (CoP.fn rfl fun i hi=>by
  obtain rfl:i = 0:=by simpa using hi
  exact CoP.vp rfl fun j hj=>by
   obtain rfl:j = 0:=by simpa using hj
   exact CoP.refl _),trivial⟩⟩
def bhb (n:Nat) (cl:Bool) (f:Nat -> Nat -> PV) (hn:n <= 68719476736) :
 b4e brj 147 [.one (.vp 1 fun _=>.sl n 1 cl f)] n fun i=>[.one (.raw (.int .i64 ((n - 1 - i:Nat):Int))), .one (f (n - 1 - i) 0)]:=by
 intro imm htab us W l J hcaps him hJb hY h0;haveI:TabC imm:=⟨htab⟩;refine callsIn_of_wp Tryz.func147 rfl trivial ?_ rfl;have e0:#[Value.func (.yield l) #[] #[]] ++ us.toArray = (Value.func (.yield l) #[] #[] :: us).toArray:=by simp
 rw [e0];have hst:=b0q (A:=W) (nt:=19) (us:=Value.func (.yield l) #[] #[] :: us) (args:=[.one (.raw (.func (.yield l) #[] #[])), .one (.vp 1 fun _=>.sl n 1 cl f)]) (him 0 W h0) ⟨⟨rfl,rfl⟩,hcaps⟩ l9;refine wpIn_seq (wpIn_region ?_);refine iq (E:=gq) fk hst rfl rfl rfl rfl rfl rfl (fun a h1=>?_);refine iq (E:=gq) fk h1 rfl rfl rfl rfl rfl rfl (fun a h2=>?_);refine iq (E:=gq) fk h2 rfl rfl rfl rfl rfl rfl (fun a h3=>?_);refine iq (E:=gq) fk h3 rfl rfl rfl rfl rfl rfl (fun a h4=>?_);show Code.wpIn _ _ _ _ _ _ _;refine wpIn_block ?_;refine a7c (fun m a A=>∃ i,i <= n /\ m = n - i /\ J i A /\ It imm 19 [(0,some (bp (.raw (.func (.yield l) #[] #[])))),(1,some (bp (.vp 1 fun _=>.sl n 1 cl f))),(3,some (bp (.raw (.int .i64 ((n:Int) - 1 - i)))))] a A) n ⟨0,bms _,by omega,h0,h4.sub ⟨c9,c9,⟨_,rfl,coi bqx⟩,trivial⟩⟩ ?_;rintro m a A ⟨i,hi,rfl,hJ,h⟩;refine wpIn_seq ?_;refine wpIn_seq (wpIn_region ?_);refine iq (E:=gq) fk h rfl rfl rfl rfl rfl rfl (fun a h1=>?_);refine iq (E:=gq) fk h1 rfl rfl rfl rfl rfl rfl (fun a h2=>?_);show Code.wpIn _ _ _ _ _ _ _;refine wpIn_cond_split (a3e (x:=.tmp 8) h2 rfl).1 (fun hb=>?_) (fun hb=>?_)
 · have hb:=a08 hb
   have hin:i < n:=by omega
   refine wpIn_skip ?_;show Code.wpIn _ _ _ _ _ _ _;refine wpIn_seq (wpIn_block ?_);refine wpIn_seq (wpIn_region ?_);refine iq (E:=gq) fk h2 rfl rfl rfl rfl rfl rfl (fun a h3=>?_);refine iq (E:=gq) fk h3 rfl rfl rfl rfl rfl rfl (fun a h4=>?_);refine iq (E:=gq) fk h4 rfl rfl rfl rfl rfl rfl (fun a h5=>?_);refine iq (E:=gq) fk h5 rfl rfl rfl rfl rfl rfl (fun a h6=>?_);refine iq (E:=gq) fk h6 rfl rfl rfl rfl rfl rfl (fun a h7=>?_) (hp:=⟨rfl,by omega,by omega⟩);refine iq (E:=gq) fk h7 rfl rfl rfl rfl rfl rfl (fun a h8=>?_);have ei:((n:Int) - 1 - i).toNat = n - 1 - i:=by omega
   have e12:=a3e (x:=.tmp 12) h8 rfl;rw [show bp (.raw (.int .i64 ((n:Int) - 1 - i))) = bp (.raw (.int .i64 ((n - 1 - i:Nat):Int))) by congr 3;omega] at e12;have e16:=a3e (x:=.tmp 16) h8 rfl;rw [ei] at e16;have e16:=iu.of_H (x:=.one (f (n - 1 - i) 0)) e16;refine iy h8 rfl rfl rfl rfl rfl rfl (R:=J (i + 1)) (hY i A [_,_] hin hJ ⟨e12,e16,trivial⟩) (fun A'=>him (i + 1) A') (fun a A1 hJ1 h9=>?_);refine iq (E:=gq) fk h9 rfl rfl rfl rfl rfl rfl (fun a h10=>?_);show Code.wpIn _ _ _ _ _ _ _;refine wpIn_cond_false (a3e (x:=.tmp 18) h10 rfl).1 (wpIn_skip ?_);show Code.wpIn _ _ _ _ _ _ _;refine wpIn_region ?_;refine iq (E:=gq) fk h10 rfl rfl rfl rfl rfl rfl (fun a h11=>?_);refine iq (E:=gq) fk h11 rfl rfl rfl rfl rfl rfl (fun a h12=>?_);refine iq (E:=gq) fk h12 rfl rfl rfl rfl rfl rfl (fun a h13=>?_);exact ⟨n - (i + 1),by omega,i + 1,hin,rfl,hJ1,h13.sub ⟨c9,c9,⟨_,rfl,coi bqx⟩,trivial⟩⟩
 have hb:=a2a hb;obtain rfl:i = n:=by omega
 refine wpIn_exit ?_;exact ⟨h2.defers,_,results_none rfl _ _ _,⟨_,rfl⟩,hJ⟩
end
section
def bca {l:List AS} {k n p j m c d e:Nat} {z:List Value} {cl:Bool} (hk:k < l.length) (hn:n = l.length - 1) (hp:p = k) (hj:j = k + 1) (hm:m = l.length - (k + 1)) (hc:l.length - 1 <= c) (he:e = 0) :
 CoR (akk [.one (.p (.sl n 1 cl fun a b=>pf (mvF (lf sC l) p j m) c d z (e + a) b))]) (.v (.one (.p (asl (l.eraseIdx k))))):=by
 subst hp hj hm he;refine CoP.sl (by rw [List.length_eraseIdx,if_pos hk,hn]) (.inl rfl) (fun h=>by cases h) fun i b hi hb=>CoP.of_eq ?_;show pf (mvF (lf sC l) p (p + 1) (l.length - (p + 1))) c d z (0 + i) b = lf sC (l.eraseIdx p) i b;unfold pf;rw [if_neg bqx,bnk];unfold mvF;simp only [lf,List.getD];rw [List.getElem?_eraseIdx];by_cases h:i < p
 · rw [if_neg bqx,if_pos h]
 rw [if_pos bqx,if_neg h,show i - p + (p + 1) = i + 1 by omega]
def orL (ps:List AS):AS:=ps.foldl (· ||| ·) 0
section
variable {ps:List AS}
def a4r {i:Nat} (h:i < ps.length):orL (ps.take (i + 1)) = orL (ps.take i) ||| ps.getD i default:=by
 unfold orL;rw [aq h,bo0];rfl
def xa (n:Int) (l:List Fd) (ps:List AS):Bool:=decide (orL ps = a7 n) && p8 l ps && ps.any (j7 n l)
variable {l:List Fd} {n:Int}
def akg (h:¬ asI (orL (ps.take ps.length)) = asI (a7 n)):xa n l ps = false:=by
 rw [bmt] at h;unfold xa;rw [decide_eq_false (fun e=>h (congrArg asI e))];rfl
def alu (h:p8 l ps = false):xa n l ps = false:=by
 unfold xa;rw [h];simp
def abq:(bif bif decide (asI (orL (ps.take ps.length)) = asI (a7 n)) then p8 l ps else false then ps.any (j7 n l) else false) = xa n l ps:=by
 unfold xa;rw [bmt,adc];cases decide (orL ps = a7 n) <;> cases p8 l ps <;> rfl
def xb (n:Int) (l:List Fd) (ps:List AS) (s:AS):List AS:=if xa n l (ps.eraseIdx (idx (fun x=>decide (x = s)) ps).toNat) = true then ps.eraseIdx (idx (fun x=>decide (x = s)) ps).toNat else ps
def ajm (n:Int) (l:List Fd) (p0:List AS):Nat -> List AS
 | 0=>p0
 | i + 1=>xb n l (ajm n l p0 i) (p0.getD (p0.length - 1 - i) default)
def a8z (n:Int) (l:List Fd):Bool:=p8 l (iz n l)
def a0y (n:Int) (l:List Fd):List AS:=if er n l 8 = 0 /\ a8z n l = true then ajm n l (ek (iz n l)) (ek (iz n l)).length else []
def x7 (n:Int) (l:List Fd):Bool:=decide (er n l 8 = 0) && a8z n l
def bd6 (h:¬ er n l 8 = 0):a0y n l = [] /\ x7 n l = false:=⟨if_neg fun e=>h e.1,by unfold x7;rw [decide_eq_false h];rfl⟩
def bf7 (h:a8z n l = false):a0y n l = [] /\ x7 n l = false:=⟨if_neg (fun e=>(by rw [h] at e;exact absurd e.2 br1)),by unfold x7;rw [h];simp⟩
def be4 (h:er n l 8 = 0) (h2:a8z n l = true):a0y n l = ajm n l (ek (iz n l)) (ek (iz n l)).length /\ x7 n l = true:=⟨if_pos ⟨h,h2⟩,by unfold x7;rw [h2,decide_eq_true h];rfl⟩
def aen (l:List AS):(ek l).Nodup:=by
 unfold ek vd;exact (um l).sublist List.filter_sublist
def b3a (l:List AS):(ek l).length <= l.length:=by
 unfold ek vd;exact bmy (boj _ _) (ke l)
def ae0 {s:AS} (h:s ∈ ps):∃ k:Nat,idx (fun x=>decide (x = s)) ps = k /\ k < ps.length /\ ps.getD k default = s:=by
 have hne:¬ idx (fun x=>decide (x = s)) ps = -1:=fun e=>by
  have hf:=abt e;obtain ⟨j,hj,rfl⟩:=bng h;have:=of_decide_eq_false (hf j hj);rw [bmm,bml hj] at this;exact this rfl
 obtain ⟨k,h1,h2,h3,_⟩:=a0k hne;exact ⟨k,h1,h2,of_decide_eq_true h3⟩
def ajh (n:Int) (l:List Fd) (p0:List AS) (i:Nat) (ps:List AS):Prop:=ps = ajm n l p0 i /\ ps.length <= p0.length /\ ∀ j,j < p0.length - i -> p0.getD j default ∈ ps
def azf (n:Int) (l:List Fd) (p0:List AS):ajh n l p0 0 p0:=⟨rfl,bmp _,fun j hj=>abb bqx⟩
def az5 {p0:List AS} (h:p0.Nodup) {i j:Nat} (hi:i < p0.length) (hj:j < p0.length) (hne:i ≠ j):p0.getD i default ≠ p0.getD j default:=by
 rw [bmm,bmm,bml hi,bml hj];intro e
 rcases Nat.lt_or_gt_of_ne hne with h1 | h1
 · exact boq.1 h i j hi hj h1 e
 exact boq.1 h j i hj hi h1 e.symm
def aht {p0:List AS} {i:Nat} (hn:p0.Nodup) (h:ajh n l p0 i ps) (hi:i < p0.length):ajh n l p0 (i + 1) (xb n l ps (p0.getD (p0.length - 1 - i) default)):=by
 obtain ⟨h1,h2,h3⟩:=h;obtain ⟨k,k1,k2,k3⟩:=ae0 (h3 (p0.length - 1 - i) bqx);refine ⟨by rw [h1];rfl, ?_,fun j hj=>?_⟩
 · unfold xb
   split
   · rw [List.length_eraseIdx];split <;> omega
   exact h2
 have hm:=h3 j bqx;unfold xb;rw [k1,bmz];split
 · have hne:=az5 hn (i:=j) (j:=p0.length - 1 - i) bqx bqx bqx
   obtain ⟨q,hq,he⟩:=bng hm
   have hqk:q ≠ k:=fun e=>by
    subst e;rw [bmm,bml hq,bnf,he] at k3;exact hne k3
   rw [List.mem_eraseIdx_iff_getElem?];exact ⟨q,hqk,by rw [bml hq,he]⟩
 exact hm
def bd3 (n:Int) (l:List Fd):Option Fd:=(ye n l).find? fun f=>!yt l (iz n l) f
def bm9 (n:Int) (l:List Fd):Int:=if er n l 8 = 0 then (match bd3 n l with | some _=>0 | none=>4) else er n l 8
def bm0 (n:Int) (l:List Fd):Fd:=if er n l 8 = 0 then (match bd3 n l with | some f=>f | none=>⟨0,0⟩) else ⟨0,0⟩
end
end
section
open Go.Proofs
def bb5 (l:List AS) (k:Nat) (hk:k < l.length):cb brj 93 [.one (.ref 900 l.length), .one (.p (.raw (.int .i64 (k:Int)))), .one (.p (.raw (.int .i64 ((k:Int) + 1))))] [(900, .arr true 1 46 l.length (lf sC l))] (.v (.one (.p (asl (l.eraseIdx k))))) [] []:=by
 refine hfx (nt:=33) Tryz.func93 ?_;refine cg ?_;refine aea 900 rfl fun hlen=>?_;refine a2o ?_;refine hcd (fun h0=>?_) (fun h0=>?_)
 · exfalso;omega
 refine n7 ?_;refine r9 0 true ?_;refine bz ?_;refine r9 1 true ?_;refine w_6 ?_;refine auo 6 rfl rfl rfl ?_;refine hrr ?_;exact ⟨_,_,rfl,bqz,(by show CoR _ _;dsimp only [d5,ar];exact bca hk bqx bqx bqx bqx bqx bqx),trivial⟩
def bcs (p:AS) (n:Int) (l:List Fd):a6 brj 149 [pA p,pP (bx (.raw (.int .i64 n))),pP (bx (fdl l))] (a8 [pB (j7 n l p)]):=by
 refine hpx (nt:=9) Tryz.func149 ?_;refine w_9 ?_;refine qcx aep (ajw n l p) ?_;refine v_2 ?_;exact CoL.refl _
def bhk (n:Int) (l:List Fd) (ps:List AS) (hn0:0 <= n) (hn1:n <= 16) (hl:l.length <= 16777216):a6 brj 94 [pI n,pP (fdl l),pP (asl ps)] (a8 [pB (xa n l ps)]):=by
 refine hpx (nt:=34) Tryz.func94 ?_;refine sx7 ?_;refine m9 0 ?_;refine m9 1 ?_;refine w_8 ?_;refine ca 2 rfl fun hn=>?_;refine w_6 ?_;refine d8 3 rfl rfl rfl ?_;refine d8 4 rfl rfl rfl ?_;refine b7 (ka 2 (ka 3 (ka 4 (ka 10 (ka 11 kn))))) km (fun i=>⟨[(7,some (vA (orL (ps.take i)))),(12,some (vI i))],[]⟩) ps.length kk ?_;rintro i hi;refine w_5 ?_;refine hcd (fun h0=>?_) (fun h0=>?_)
 · refine a2o ?_;exact lpx (i + 1) ⟨⟨⟨_,rfl,(bn (by rw [bOr,a4r bqx];rfl))⟩,tt⟩,trivial⟩
 obtain rfl:i = ps.length:=by omega
 refine w_5 ?_;refine qcx alt (auu n hn0 hn1) ?_;refine w_2 ?_;refine ai rfl rfl (fun r1=>?_) (fun r1=>?_)
 ·
  have h1:=tz1 r1;(iterate 2 refine qy ?_ (hg:=(gtt r1)));refine qcx ake (b1h l ps hl) ?_ (hg:=(gtt r1));refine w_2 ?_;refine ai rfl rfl (fun r2=>?_) (fun r2=>?_)
  ·
   have h2:=bt r1 r2;(iterate 2 refine qy ?_ (hg:=(gtt r2)));refine qcx ago (aum ps 149 2 (fun i=>[bx (.raw (.int .i64 n)),bx (fdl l)].getD i .any) (j7 n l) (wgx Tryz.func149) (fun p=>bcs p n l)) ?_ (hg:=(gtt r2));refine w_3 ?_
   exact hx8 rfl rfl rfl (⟨ccb (by first | exact abq | exact (akg bqy).symm | exact (alu bqy).symm),trivial⟩)
  have h2:=bt r1 r2;(iterate 3 refine k9 (gft r2) ?_);refine rq rfl rfl rfl rfl rfl ?_ (hp:=r2);refine w_2 ?_
  exact hx8 rfl rfl rfl (⟨ccb (by first | exact abq | exact (akg bqy).symm | exact (alu bqy).symm),trivial⟩)
 have h1:=tz2 r1;(iterate 3 refine k9 (gft r1) ?_);refine rq rfl rfl rfl rfl rfl ?_ (hp:=r1);refine qy ?_;(iterate 3 refine k9 rfl ?_);refine w_3 ?_
 exact hx8 rfl rfl rfl (⟨ccb (by first | exact abq | exact (akg bqy).symm | exact (alu bqy).symm),trivial⟩)
end
end Go.Hx
