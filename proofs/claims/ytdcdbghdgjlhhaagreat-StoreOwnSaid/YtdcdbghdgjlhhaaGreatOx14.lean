/- A part of the proof: Hx20 Hx28 Hx29 Hx25. -/
import Derived.Laws.IdiomRangeMap
import Derived.Test.YtdcdbghdgjlhhaaGreatOx13
set_option linter.all false
namespace Go.Hx
section
open Go.RowKit
def ae0 (P:Program) (g:FuncId) (caps:List PC) (n:Nat) (xs:Nat → List PC):Prop :=
 ∀ (imm:Imm) (_:mi imm) (us:List Value) (W:World) (l:Nat) (J:Nat → World → Prop),ce imm caps us →
  (∀ i A,J i A → ∀ b ob,imm b = some ob → A.heap[b]? = some ob) →
  (∀ i A A',J i A → Below A.heap.size A A' → J i A') →
  (∀ i A vs,i < n → J i A → ce imm (xs i) vs → YieldAt (rf none) 0 P l vs.toArray A fun e A'=>e = .returned (.bool true) ∧ J (i + 1) A') →
  J 0 W → CallsIn (rf none) 0 P g (#[.func (.yield l) #[] #[]] ++ us.toArray) W fun e W'=>(∃ v,e = .returned v) ∧ J n W'
section
variable {P:Program} {nt:Nat} {c:Ctx} {s:S} {a:Act} {w w0:World}
theorem pi {l b:Nat} {o:Obj} (hb:b ≠ l):(w.putObj l o).heap[b]? = w.heap[b]?:=by
 show (w.heap.setIfInBounds l _)[b]? = _
 rw [Array.getElem?_setIfInBounds_ne (Ne.symm hb)]
theorem a3m {l:Nat} {o o1:Obj} (hl:w.heap[l]? = some o1):(w.putObj l o).heap[l]? = some o:=by
 show (w.heap.setIfInBounds l _)[l]? = _
 rw [Array.getElem?_setIfInBounds_self_of_lt (Array.getElem?_eq_some_iff.1 hl).1]
theorem ak.turn (h:ak w0 nt c s a w) {l:Nat} {o1:Obj} (o2:Obj) (fo:Option Obj) (hl:w.heap[l]? = some o1) (hc:ne o1 = false) (hd:∀ ds,o1 ≠ .deferred ds) (hi:c.imm l = none) (hi0:fo ≠ none → c.old.1 l = none) (hfo:fo = none ∨ fo = some o2) :
 ak w0 nt { old:=(c.old.1,fun b=>if b = l then fo else c.frm b,c.old.2.2),imm:=c.imm,tab:=c.tab,own:=c.own,blk:=c.blk,rows:=c.rows } s a (w.putObj l o2):=by
 have hblk:∀ id ob b,s.o id = some ob → c.blk id b → b ≠ l:=fun id ob b ho hb e=>by
  obtain ⟨x1,hcc,hdt⟩:=(h.objs id ob ho).data hb
  rw [e,hl] at hcc
  simp only [Option.some.injEq] at hcc
  rw [← hcc,hc] at hdt
  cases hdt
 have hil:∀ b ob,c.imm b = some ob → b ≠ l:=fun b ob hb e=>by rw [e,hi] at hb;cases hb
 refine ⟨⟨h.defers.1,fun d hdd=>?_⟩,h.size, ?_,fun d x hx=>ax.evo (c:=c) (o:=s.o) (Imm.le.refl c.imm) (fun _ _=>Evo.of_same rfl rfl) (h.tmps d x hx),fun id ob ho=>?_,h.inj,fun b ob hb=>(pi (hil b ob hb)).trans (h.imm b ob hb),h.sep,fun b hb=>?_,fun b ob hb=>?_,fun id ob b ho hb=>?_,fun id hid=>h.fixed id hid⟩
 · obtain ⟨D,e,g1,g2,g3,g4⟩:=h.defers.2 d hdd
   have hne:D ≠ l:=fun e=>by
    rw [e,hl] at g1
    simp only [Option.some.injEq] at g1
    exact hd _ g1
   exact ⟨D,e,(pi hne).trans g1,g2,by show (if D = l then fo else c.frm D) = none;rw [if_neg hne];exact g3,g4⟩
 · have hb:=h.below
   exact ⟨hb.os,hb.tape,hb.output,by show _ ≤ (w.heap.setIfInBounds l _).size;rw [Array.size_setIfInBounds];exact hb.size,fun k hk=>absurd hk (Nat.not_lt_zero k),hb.drawn⟩
 · exact (h.objs id ob ho).keep (Imm.le.refl c.imm) rfl rfl (fun _ _=>Evo.of_same rfl rfl) fun b hb=>pi (hblk id ob b ho hb)
 · have hb:(if b = l then fo else c.frm b) ≠ none:=hb
   show c.imm b = c.old.1 b
   by_cases e:b = l
   · subst e
     rw [if_pos rfl] at hb
     rw [hi,hi0 hb]
   rw [if_neg e] at hb
   exact h.was b hb
 · have hb:(if b = l then fo else c.frm b) = some ob:=hb
   by_cases e:b = l
   · subst e
     rw [if_pos rfl] at hb
     rcases hfo with rfl | rfl
     · cases hb
     rw [a3m hl];exact hb
   rw [if_neg e] at hb
   exact (pi e).trans (h.frm b ob hb)
 show (if b = l then fo else c.frm b) = none
 rw [if_neg (hblk id ob b ho hb)]
 exact h.fsep id ob b ho hb
theorem ak.turn0 (h:ak w0 nt c s a w) {l:Nat} {o1:Obj} (o2:Obj) (hl:w.heap[l]? = some o1) (hc:ne o1 = false) (hd:∀ ds,o1 ≠ .deferred ds) (hi:c.imm l = none) (hf:c.frm l = none):ak w0 nt c s a (w.putObj l o2):=by
 have:=h.turn o2 none hl hc hd hi (fun e=>absurd rfl e) (.inl rfl)
 have e:(fun b=>if b = l then none else c.frm b) = c.frm:=by
  funext b
  by_cases hb:b = l
  · rw [if_pos hb,hb,hf]
  rw [if_neg hb]
 rw [e] at this
 exact this
end
def sd (r:Nat → Nat):List (Nat × Option HR) → List (Nat × Option HR)
 | []=>[]
 | (d,some x) :: l=>(d,some (x.ren r)) :: sd r l
 | (d,none) :: l=>(d,none) :: sd r l
theorem xm (r:Nat → Nat):∀ (l:List (Nat × Option HR)) (d:Nat),bs (sd r l) d = (bs l d).map (HR.ren r)
 | [],d=>rfl
 | (e,some x) :: l,d=>by
  simp only [sd,bs]
  cases Nat.beq e d with
  | true=>rfl
  | false=>simpa using xm r l d
 | (e,none) :: l,d=>by
  simp only [sd,bs]
  cases Nat.beq e d with
  | true=>rfl
  | false=>simpa using xm r l d
def rgB (r:Nat → Nat) (T:List (Nat × Option HR)) (o1 o2:List (Nat × af)) (fx:List Nat):Bool :=
 (fx.all fun id=>Nat.ble 1000 (r id)) && ((d7 o2).all fun id=>(o6 fx id && o6 (d7 o1) id) || (Nat.blt id 1000 && nmT id T)) && (a30 o2).all (o6 (d7 o2))
theorem acb {r:Nat → Nat} {T:List (Nat × Option HR)} {o1 o2:List (Nat × af)} {fx:List Nat} (h:rgB r T o1 o2 fx = true) :
 (∀ id ∈ fx,1000 ≤ r id) ∧ (∀ id ∈ d7 o2,id ∉ fx ∨ id ∉ d7 o1 → id < 1000 ∧ nmT id T = true) ∧ (∀ id ob,lk o2 id = some ob → ∀ k,ob.men k → k ∈ d7 o2):=by
 simp only [rgB,Bool.and_eq_true,List.all_eq_true] at h
 obtain ⟨⟨h1,h2⟩,h3⟩:=h
 refine ⟨fun id hid=>Nat.le_of_ble_eq_true (h1 id hid),fun id hid hor=>?_,fun id ob hid k hk=>?_⟩
 · have:=h2 id hid
   simp only [Bool.or_eq_true,Bool.and_eq_true] at this
   rcases this with ⟨q1,q2⟩ | ⟨q1,q2⟩
   · rcases hor with e | e
     · exact absurd (gq.1 q1) e
     exact absurd (gq.1 q2) e
   exact ⟨by simpa [Nat.blt_eq] using q1,q2⟩
 have hmem:∀ {l:List (Nat × af)},lk l id = some ob → (id,ob) ∈ l:=by
  intro l
  induction l with
  | nil=>intro h;cases h
  | cons p l ih =>
   obtain ⟨e,x⟩:=p
   intro h
   simp only [lk] at h
   cases hb:Nat.beq e id with
   | true =>
    rw [hb] at h
    simp only [cond_true,Option.some.injEq] at h
    rw [← Nat.eq_of_beq_eq_true hb,h]
    exact List.mem_cons_self
   | false =>
    rw [hb] at h
    exact List.mem_cons_of_mem _ (ih (by simpa using h))
 exact gq.1 (h3 k (vi (hmem hid) (af.men_ids hk)))
def aik (P:Program) (nt l:Nat) (body:Code) (Q:HSt → Prop) (e:Exit) (st:HSt):Prop:=e = .normal ∧ HW (ro:=some l) P nt body st fun e st=>e = .normal ∧ Q st
theorem acs {st:HSt} {P:Program} {nt:Nat} {Q:Exit → HSt → Prop} {ι:Type} {g:Operand} {p0 p1:Tmp} {assign body:Code} {gf:FuncId} {k:Nat} {caps:Nat → PV} {n:Nat} {xs0 xs1:Nat → PC} (r:Nat → Nat) (hr:∀ k,r (r k) = k)
 (hg:ev st.den g = some (.v (.one (.p (.fn gf k caps))))) (hf:am P gf) (hit:ae0 P gf (mb caps k 0) n fun i=>[xs0 i,xs1 i])
 (T:List (Nat × Option HR)) (O:ι → List (Nat × af)) (p:Nat → ι → Prop) (x0:ι) (hx0:p 0 x0) (hsub:Sub ⟨T,j9 (O x0)⟩ st) (fx:List Nat)
 (hB:∀ x y,rgB r T (O x) (O y) fx = true) (hp0:Nat.blt p0 nt = true) (hp1:Nat.blt p1 nt = true)
 (hround:∀ (l i:Nat) (x:ι),i < n → p i x → HW (ro:=some l) P nt assign ⟨(p1,some (.v (xs1 i).toH)) :: (p0,some (.v (xs0 i).toH)) :: sd r T,j9 (gp r (O x))⟩
  (aik P nt l body fun st2=>∃ y,p (i + 1) y ∧ a5u (gp r (O y)) st2.den.o))
 (hdone:∀ y,p n y → Q .normal ⟨T,j9 (O y)⟩):HW (ro:=none) P nt (.rangeFunc g #[p0,p1] assign body) st Q:=by
 classical
 intro w0 m0 a w hrel
 obtain ⟨c0,hold0,h0⟩:=hrel
 obtain ⟨cs,e1,hcl,hcr⟩:=ai h0 hg
 have hsT:∀ x:ι,(HSt.den ⟨T,j9 (O x)⟩).o = lk (O x):=fun x=>qi _
 have h1:=h0.relax (HSt.den ⟨T,j9 (O x0)⟩) (fun d x hx=>pn hsub.1 d x hx) (fun d x hx=>t9 hsub.2 d x hx)
 have hcaps:ce c0.imm (mb caps k 0) cs:=by
  have:=np (m:=c0.imm) (caps:=caps) k 0 cs (by omega) (fun j hj=>by
   obtain ⟨x,hx,hr⟩:=hcr j (by omega)
   exact ⟨x,hx,hr⟩)
  simpa using this
 obtain ⟨fg,hfg,hname,hbody⟩:=hf
 have eg:∀ args (w:World),(callFunc gf args).run P w = .ok (.enter gf args) w:=fun args w=>by
  simp only [callFunc,Sem.run_bind,run_program,Result.andThen_ok,hfg,hname,hbody]
  simp
 refine wpIn_rangeFunc ?_
 intro fn hfn
 obtain ⟨rec,hrec⟩:∃ rec:LoopState → Option Code → Loop,rec = fun st pe=>{ state:=st,pending:=pe,fn,tmps:=a.tmps,params:=#[p0,p1],assign,body,defers:=w.heap.size }:=⟨_,rfl⟩
 obtain ⟨W1,hW1⟩:∃ W1,(w.alloc (.deferred (some []))).alloc (.loop (rec .ready none)) = W1:=⟨_,rfl⟩
 have hL1:W1.heap[w.heap.size + 1]? = some (.loop (rec .ready none)):=by
  rw [← hW1];have:=World.alloc_heap_new (w.alloc (.deferred (some []))) (.loop (rec .ready none));rwa [World.size_alloc] at this
 have hK1:W1.heap[w.heap.size]? = some (.deferred (some [])):=by
  rw [← hW1];exact (Below.heap_alloc _ _ _ (by simp)).trans (World.alloc_heap_new w _)
 have hb1:Below w.heap.size w W1:=by
  rw [← hW1];exact (((Below.refl _ w).alloc (Nat.le_refl _) _).alloc (by simp) _)
 obtain ⟨l,hl⟩:∃ l,l = w.heap.size + 1:=⟨_,rfl⟩
 rw [← hl] at hL1
 have hnew:∀ b,w.heap.size ≤ b → c0.imm b = none ∧ c0.frm b = none:=fun b hb=>by
  refine ⟨?_, ?_⟩
  · cases hi:c0.imm b with
    | none=>rfl
    | some ob=>have:=(Array.getElem?_eq_some_iff.1 (h0.imm b ob hi)).1;omega
  cases hi:c0.frm b with
  | none=>rfl
  | some ob=>have:=(Array.getElem?_eq_some_iff.1 (h0.frm b ob hi)).1;omega
 have hfl:m0.2.1 l = none:=by rw [← hold0];exact (hnew l (by omega)).2
 let aM:Act:={ a with defers:=[{ target:=.collected w.heap.size,args:=#[] }] ++ a.defers }
 have hM:ak w0 nt c0 (HSt.den ⟨T,j9 (O x0)⟩) aM W1:=by
  have h2:=h1.later W1 hb1 c0.imm (fun _ _=>rfl) (fun b ob hb=>(hb1.block b (Array.getElem?_eq_some_iff.1 (h1.imm b ob hb)).1).trans (h1.imm b ob hb))
  refine ⟨⟨List.pairwise_cons.2 ⟨fun d hd e=>?_,h2.defers.1⟩,fun d hd=>?_⟩,h2.size,h2.below,h2.tmps,h2.objs,h2.inj,h2.imm,h2.sep,h2.was,h2.frm,h2.fsep,h2.fixed⟩
  · obtain ⟨D,e2,g1,_⟩:=h1.defers.2 d hd
    rw [← e] at e2
    simp only [Deferred.mk.injEq,Target.collected.injEq,and_true] at e2
    have:=(Array.getElem?_eq_some_iff.1 g1).1
    omega
  rcases List.mem_cons.1 hd with rfl | hd
  · exact ⟨w.heap.size,rfl,hK1,(hnew _ (Nat.le_refl _)).1,(hnew _ (Nat.le_refl _)).2,h0.below.size⟩
  exact h2.defers.2 d hd
 let J:Nat → World → Prop:=fun i A=>∃ x c,p i x ∧ c.old = m0 ∧ Imm.le c0.imm c.imm ∧ c.imm l = none ∧ ak w0 nt c (HSt.den ⟨T,j9 (O x)⟩) aM A ∧ A.heap[l]? = some (.loop (rec .ready none))
 refine ⟨l,[{ target:=.collected w.heap.size,args:=#[] }],W1,{ target:=.fn (.func gf) cs.toArray,args:=#[.func (.yield l) #[] #[]] },W1,gf,#[.func (.yield l) #[] #[]] ++ cs.toArray,W1, ?_, ?_,fun _ _=>trivial, ?_,fun hh=>absurd hh (by simp [rf]), ?_⟩
 · rw [← hW1,hrec,hl];exact run_enterLoop_outer _ _ _ _ _
 · simp only [resolve,e1]
   simp [go_sem]
 · simp [invoke,go_sem,eg]
 have hJ0:J 0 W1:=⟨x0,c0,hx0,hold0,Imm.le.refl _,(hnew l (by omega)).1,hM,hL1⟩
 have hnd:∀ (st:LoopState) (pe:Option Code),ne (Obj.loop (rec st pe)) = false ∧ ∀ ds,Obj.loop (rec st pe) ≠ .deferred ds:=fun st pe=>⟨rfl,(fun _ e=>by cases e)⟩
 refine (hit c0.imm c0.tab cs W1 l J hcaps (fun i A ⟨x,c,_,_,hle,_,hR,_⟩ b ob hb=>hR.imm b ob (hle b ob hb)) (fun i A A' ⟨x,c,hp,ho,hle,hil,hR,hA⟩ hb=>?_) (fun i A vs hi hJ hvs=>?_) hJ0).mono ?_
 · refine ⟨x,_,hp,ho,hle,hil,hR.later A' hb c.imm (fun _ _=>rfl) (fun b ob hb'=>(hb.block b (Array.getElem?_eq_some_iff.1 (hR.imm b ob hb')).1).trans (hR.imm b ob hb')),(hb.block l (Array.getElem?_eq_some_iff.1 hA).1).trans hA⟩
 · obtain ⟨x,c,hp,ho,hle,hil,hR,hA⟩:=hJ
   obtain ⟨v0,v1,rfl,hv0,hv1⟩:∃ v0 v1,vs = [v0,v1] ∧ fz c0.imm (xs0 i) v0 ∧ fz c0.imm (xs1 i) v1:=by
    match vs,hvs with
    | [v0,v1],⟨q0,q1,_⟩=>exact ⟨v0,v1,rfl,q0,q1⟩
   refine ⟨fn,(a.tmps.setIfInBounds p0 v0).setIfInBounds p1 v1,assign,body, ?_, ?_⟩
   · have:=run_yield (P:=P) (l:=l) (r:=rec .ready none) (args:=#[v0,v1]) hA (by rw [hrec];rfl)
     rw [this,hrec]
     simp
   have hmem:Mem c (lk (O x)) A:=by
    have:=hR
    rw [← hsT x]
    exact ⟨hR.objs,hR.inj,hR.imm,hR.sep⟩
   have hmemR:Mem (c.ren r) (lk (gp r (O x))) A:=(Mem.ren hr (md hr (O x))).2 (by rw [Ctx.ren_ren hr];exact hmem)
   let own2:Nat → Prop:=fun b=>∃ id ob,lk (gp r (O x)) id = some ob ∧ (c.ren r).blk id b
   let frmR:Imm:=fun b=>if own2 b then none else A.heap[b]?
   let oldR:Old:=(c.imm,frmR,(c.ren r).own,lk (gp r (O x)),(c.ren r).rows)
   let cR:Ctx:={ old:=oldR,imm:=c.imm,tab:=c.tab,own:=(c.ren r).own,blk:=(c.ren r).blk,rows:=(c.ren r).rows }
   have hsR:(HSt.den ⟨sd r T,j9 (gp r (O x))⟩).o = lk (gp r (O x)):=qi _
   have hround0:ak A nt cR (HSt.den ⟨sd r T,j9 (gp r (O x))⟩) { tmps:=a.tmps,defers:=[] } A:=by
    refine ⟨lh.nil _ _ _ _,hR.size,Below.refl _ _,fun d y hy=>?_,fun id ob hob=>?_,fun id id' ob ob' b hob hob'=>?_,hR.imm,fun id ob b hob=>?_,fun b _=>rfl,fun b ob hbo=>?_,fun id ob b hob hbb=>?_,fun id _=>Evo.of_same (congrFun hsR id) rfl⟩
    · have hy:bs (sd r T) d = some y:=hy
      rw [xm] at hy
      cases hd:bs T d with
      | none=>rw [hd] at hy;cases hy
      | some z =>
       rw [hd] at hy
       simp only [Option.map_some,Option.some.injEq] at hy
       subst hy
       have hz:=hR.tmps d z hd
       rw [hsT x] at hz
       rw [hsR]
       have:=(ax.ren (c:=c.ren r) (r:=r) (md hr (O x)) (x:=z) (u:=aM.tmps.getD d undef)).2 (by rw [Ctx.ren_ren hr];exact hz)
       exact ax.evo (c:=c.ren r) (o:=lk (gp r (O x))) (Imm.le.refl c.imm) (fun _ _=>Evo.of_same rfl rfl) this
    · rw [hsR] at hob ⊢
      exact (hmemR.objs id ob hob).keep (Imm.le.refl c.imm) rfl rfl (fun _ _=>Evo.of_same rfl rfl) fun _ _=>rfl
    · rw [hsR] at hob hob'
      exact hmemR.inj id id' ob ob' b hob hob'
    · rw [hsR] at hob
      exact hmemR.sep id ob b hob
    · have hbo:frmR b = some ob:=hbo
      simp only [frmR] at hbo
      split at hbo
      · cases hbo
      exact hbo
    rw [hsR] at hob
    show frmR b = none
    simp only [frmR]
    rw [if_pos ⟨id,ob,hob,hbb⟩]
   have hround1:=(hround0.put p0 (by simpa [Nat.blt_eq] using hp0) (some (.v (xs0 i).toH)) v0 (fun y hy=>by cases hy;exact dq.of_P (c:=cR) (fz.mono hle hv0))).put p1 (by simpa [Nat.blt_eq] using hp1) (some (.v (xs1 i).toH)) v1 (fun y hy=>by cases hy;exact dq.of_P (c:=cR) (fz.mono hle hv1))
   have hst:((HSt.den ⟨sd r T,j9 (gp r (O x))⟩).put p0 (some (.v (xs0 i).toH))).put p1 (some (.v (xs1 i).toH)) = HSt.den ⟨(p1,some (.v (xs1 i).toH)) :: (p0,some (.v (xs0 i).toH)) :: sd r T,j9 (gp r (O x))⟩:=by
    unfold HSt.den S.put
    simp [be]
   rw [hst] at hround1
   have hown_l:¬ own2 l:=fun ⟨id,ob,q1,q2⟩=>by
    obtain ⟨x1,hcc,hdt⟩:=(hmemR.objs id ob q1).data q2
    rw [hA] at hcc;cases hcc;cases hdt
   have hfl1:oldR.2.1 l = some (.loop (rec .ready none)):=by
    show frmR l = _
    simp only [frmR]
    rw [if_neg hown_l];exact hA
   refine roundIn_of_wpIn (P:=P) (F:=rf none) (n:=0) trivial ?_;refine wpIn_mono (hround l i x hi hp A oldR _ A ⟨cR,rfl,hround1⟩) ?_
   rintro e a1 w1 ⟨st1,⟨rfl,hbody1⟩,⟨c1,hold1,hR1⟩⟩
   have hfrm1:c1.frm l = some (.loop (rec .ready none)):=by show c1.old.2.1 l = _;rw [hold1];exact hfl1
   have hl1:w1.heap[l]? = some (.loop (rec .ready none)):=hR1.frm l _ hfrm1
   have hi1:c1.imm l = none:=by rw [hR1.was l (by rw [hfrm1];simp),hold1];exact hil
   refine ⟨_,run_beginRound hl1 (by rw [hrec]), ?_⟩
   have hready:({ rec .ready none with state:=.busy }:Loop) = rec .busy none:=by rw [hrec]
   rw [hready]
   have hRb:=hR1.turn (.loop (rec .busy none)) (some (.loop (rec .busy none))) hl1 (hnd _ _).1 (hnd _ _).2 hi1 (fun _=>by rw [hold1];exact hil) (.inr rfl)
   let oldB:Old:=(oldR.1,fun b=>if b = l then some (.loop (rec .busy none)) else oldR.2.1 b,oldR.2.2)
   have hRb':Rel A oldB nt st1.den a1 (w1.putObj l (.loop (rec .busy none))):=⟨_,by
    show ((c1.old.1,(fun b=>if b = l then some (Obj.loop (rec .busy none)) else c1.old.2.1 b),c1.old.2.2):Old) = oldB
    rw [hold1],hRb⟩
   refine wpIn_mono (hbody1 A oldB a1 _ hRb') ?_
   rintro e a2 w2 ⟨st2,⟨rfl,y,hpy,hsub2⟩,⟨c2,hold2,hR2⟩⟩
   have hfrm2:c2.frm l = some (.loop (rec .busy none)):=by show c2.old.2.1 l = _;rw [hold2];show (if l = l then _ else _) = _;rw [if_pos rfl]
   have hl2:w2.heap[l]? = some (.loop (rec .busy none)):=hR2.frm l _ hfrm2
   have hi2:c2.imm l = none:=by rw [hR2.was l (by rw [hfrm2];simp),hold2];exact hil
   refine ⟨_,_,run_endRound none hl2,by simp, ?_⟩
   have hready2:({ rec .busy none with state:=if (none:Option Code).isNone then .ready else .done,pending:=none }:Loop) = rec .ready none:=by rw [hrec];simp
   rw [hready2]
   have hR3:=(hR2.relax ⟨fun _=>none,lk (gp r (O y))⟩ (fun d x hx=>by cases hx) (th hsub2)).turn (.loop (rec .ready none)) none hl2 (hnd _ _).1 (hnd _ _).2 hi2 (fun e=>absurd rfl e) (.inl rfl)
   have hw3:(w2.putObj l (.loop (rec .ready none))).heap[l]? = some (.loop (rec .ready none)):=a3m hl2
   obtain ⟨bB1,bB2,bB3⟩:=acb (hB x y)
   have hmem3:Mem (c2.ren r) (lk (O y)) (w2.putObj l (.loop (rec .ready none))):=(Mem.ren hr (md hr (O y))).1 ⟨fun id ob hob=>(hR3.objs id ob hob).keep (Imm.le.refl c2.imm) rfl rfl (fun _ _=>Evo.of_same rfl rfl) fun _ _=>rfl,hR3.inj,hR3.imm,hR3.sep⟩
   have forth:∀ (q:List (Nat × af)) id ob,lk (gp r q) id = some ob → ∃ ob',lk q (r id) = some ob' ∧ ob = ob'.ren r:=fun q id ob h=>by
    have:=md hr q (r id)
    rw [hr,h] at this
    cases hid:lk q (r id) with
    | none=>rw [hid] at this;cases this
    | some ob'=>rw [hid] at this;exact ⟨ob',rfl,by simpa using this⟩
   have back:∀ (q:List (Nat × af)) id ob,lk q id = some ob → lk (gp r q) (r id) = some (ob.ren r):=fun q id ob h=>by rw [md hr,h];rfl
   have hfr2:∀ b,c2.frm b = if b = l then some (.loop (rec .busy none)) else frmR b:=fun b=>by show c2.old.2.1 b = _;rw [hold2]
   have hnot:∀ b,b < A.heap.size → ¬ own2 b → (w2.putObj l (.loop (rec .ready none))).heap[b]? = A.heap[b]? ∧ c2.imm b = c.imm b:=fun b hb hno=>by
    by_cases e:b = l
    · subst e
      exact ⟨hw3.trans hA.symm,hi2.trans hil.symm⟩
    have e2:c2.frm b = some A.heap[b]:=by
     rw [hfr2,if_neg e]
     simp only [frmR]
     rw [if_neg hno]
     exact Array.getElem?_eq_getElem hb
    refine ⟨(pi e).trans ?_, ?_⟩
    · rw [hR2.frm b _ e2,Array.getElem?_eq_getElem hb]
    rw [hR2.was b (by rw [e2];simp),hold2]
   have hsO:∀ id ob,lk (O x) id = some ob → ∃ ob',(HSt.den ⟨T,j9 (O x)⟩).o id = some ob' ∧ CoO ob' ob:=fun id ob h=>⟨ob,by rw [hsT x];exact h,CoO.refl ob⟩
   have hnoO:∀ b,(∀ id ob,lk (O x) id = some ob → ¬ c.blk id b) → ¬ own2 b:=fun b hno ⟨id,ob,q1,q2⟩=>by
    obtain ⟨ob',q3,_⟩:=forth _ _ _ q1
    exact hno (r id) ob' q3 q2
   obtain ⟨c4,hc4,hc4i,hR4,_⟩:=hR.fcall (o1:=O x) (o2:=O y) (fx:=fx) hsO (fun id h2 h1=>by
    rw [hsT x]
    cases hid:lk (O x) id with
    | none=>rfl
    | some ob=>exact absurd (ux hid) h1)
    (fun id h2 hor=>⟨sy (bB2 id h2 hor).2,fun id' ob' hni ho'=>by
     rw [hsT x] at ho'
     exact absurd (List.mem_append_left _ (ux ho')) hni,(bB2 id h2 hor).1⟩)
    bB3 (w':=w2.putObj l (.loop (rec .ready none))) (c':=c2.ren r) hmem3
    (by
     have hb:=hR3.below
     exact ⟨hb.os,hb.tape,hb.output,hb.size,fun k hk=>absurd hk (Nat.not_lt_zero k),hb.drawn⟩)
    (fun b hb hno=>hnot b hb (hnoO b hno))
    (fun id ob b hid hbk=>by
     have hid':=back _ _ _ hid
     have e:=hR3.fsep (r id) _ b hid' hbk
     have e:(if b = l then none else c2.frm b) = none:=e
     have hbl:b ≠ l:=fun e2=>by
      obtain ⟨x1,hcc,hdt⟩:=(hR3.objs (r id) _ hid').data hbk
      rw [e2,hw3] at hcc;cases hcc;cases hdt
     rw [if_neg hbl,hfr2,if_neg hbl] at e
     simp only [frmR] at e
     by_cases ho2:own2 b
     · obtain ⟨id0,ob0,q1,q2⟩:=ho2
       obtain ⟨ob',q3,_⟩:=forth _ _ _ q1
       exact .inr ⟨r id0,ob',q3,q2⟩
     rw [if_neg ho2] at e
     exact .inl (Nat.le_of_not_lt fun hlt=>by simp [hlt] at e))
    (fun id hid=>by
     have e:=hR3.fixed (r id) (bB1 id hid)
     have e2:∀ (o:Old) (ho:c2.old = o) (ht:mi o.1),Evo { old:=o,imm:=o.1,tab:=ht,own:=o.2.2.1,blk:=c2.blk,rows:=o.2.2.2.2 } o.2.2.2.1 c2 (lk (gp r (O y))) (r id):=by
      intro o ho ht
      subst ho
      exact e
     have e2:=e2 oldB hold2 c.tab
     have e3:Evo cR (lk (gp r (O x))) c2 (lk (gp r (O y))) (r id):=by
      rcases e2 with q | ⟨l1,l2,q1,q2,q3⟩ | ⟨oa,ob,sz,et,n1,n2,q1,q2,q3,q4,q5,q6,q7⟩
      · exact .inl q
      · exact .inr (.inl ⟨l1,l2,q1,q2,q3⟩)
      exact .inr (.inr ⟨oa,ob,sz,et,n1,n2,q1,q2,q3,q4,q5,q6,q7⟩)
     rcases e3 with q | ⟨l1,l2,q1,q2,q3⟩ | ⟨oa,ob,sz,et,n1,n2,q1,q2,q3,q4,q5,q6,q7⟩
     · left
       cases hid2:lk (O y) id with
       | none=>rfl
       | some ob=>rw [back _ _ _ hid2] at q;cases q
     · obtain ⟨ob1,g1,g2⟩:=forth _ _ _ q1
       obtain ⟨ob2,g3,g4⟩:=forth _ _ _ q2
       rw [hr] at g1 g3
       have hbx:∀ {ob:af} {l1:List HV},af.box l1 = ob.ren r → ∃ l0,ob = .box l0:=fun {ob l1} h=>by
        cases ob with
        | box l0=>exact ⟨l0,rfl⟩
        | mp kk n f=>cases h
        | bld fr T e l=>cases h
        | ex d v b x=>cases h
        | bun B=>cases h
        | opq s e n R=>cases h
        | nest e et es n m g pd=>cases pd <;> cases h
        | arr wr s e n f=>cases h
        | arrh s e n ms f=>cases h
       obtain ⟨l3,rfl⟩:=hbx g2
       obtain ⟨l4,rfl⟩:=hbx g4
       refine .inr (.inl ⟨l3,l4,g1,g3, ?_⟩)
       show c2.own (r id) = c.own id
       rw [q3]
       show c.own (r (r id)) = c.own id
       rw [hr]
     obtain ⟨ob1,g1,rfl⟩:=forth _ _ _ q1
     obtain ⟨ob2,g3,rfl⟩:=forth _ _ _ q3
     rw [hr] at g1 g3
     rw [af.ren_dim] at q2 q4
     refine .inr (.inr ⟨ob1,ob2,sz,et,n1,n2,g1,q2,g3,q4,q5,fun hn=>?_,fun ea et2 es na ma ga pd hb=>?_⟩)
     · show c2.own (r id) = c.own id
       rw [q6 hn]
       show c.own (r (r id)) = c.own id
       rw [hr]
     obtain ⟨e0,et0,n0,m0,g0,pd0,t1,t2,t3⟩:=(dt.unren q7) ea et2 es na ma ga pd hb
     refine ⟨e0,et0,n0,m0,g0,pd0,t1,t2,fun i hi=>⟨(t3 i hi).1,fun hm=>?_⟩⟩
     have t4:=(t3 i hi).2 hm
     have t5:c2.rows (r id) i = c.rows (r (r id)) i:=t4
     rw [hr] at t5
     exact t5)
   have hnl:∀ id ob,lk (O x) id = some ob → ¬ c.blk id l:=fun id ob hid hbk=>by
    obtain ⟨x1,hcc,hdt⟩:=(hmem.objs id ob hid).data hbk
    rw [hA] at hcc;cases hcc;cases hdt
   refine ⟨y,c4,hpy,hc4.trans ho,fun b ob hb=>?_, ?_, ?_,hw3⟩
   · rw [hc4i]
     show c2.imm b = some ob
     have hb':=hle b ob hb
     have hlt:=(Array.getElem?_eq_some_iff.1 (hR.imm b ob hb')).1
     rw [(hnot b hlt (hnoO b fun id ob2 hid hbk=>by
      rw [hmem.sep id ob2 b hid hbk] at hb';cases hb')).2]
     exact hb'
   · rw [hc4i];exact hi2
   refine hR4.weaken _ (fun d z hz=>hz) (fun id ob hob=>?_)
   rw [hsT y] at hob
   show (match fw (tu (O x) (O y)) id with | some q=>q | none=>_) = some ob
   rw [a1x,hob]
 rintro e W3 ⟨⟨v,rfl⟩,x,c,hp,ho,hle,hil,hR,hA⟩
 refine ⟨_,_,run_endLoop hA (by rw [hrec];simp), ?_⟩
 have hpe:(rec .ready none).pending = none:=by rw [hrec]
 rw [hpe]
 refine ⟨_,hdone x hp,c,ho, ?_⟩
 exact hR.turn0 _ hA (hnd _ _).1 (hnd _ _).2 hil (by show c.old.2.1 l = none;rw [ho];exact hfl)
section
variable {P:Program} {E:Env} {nt:Nat} {ops:Array Oper} {i:Nat} {o:Oper} {Q:Exit → Act → World → Prop} {a:Act} {A:World} {imm:Imm}
def ac0 (d:Option Tmp) (x:HR) (t:List (Nat × Option HR)):List (Nat × Option HR):=match d with | some d=>(d,some x) :: t | none=>t
class TabC (imm:Imm):Prop where
 ok:mi imm
def cI (imm:Imm) (A:World) [ht:TabC imm]:Ctx:={ old:=(imm,fq A,(fun _=>undef),(fun _=>none),fun _ _=>undef),imm:=imm,tab:=ht.ok,own:=fun _=>undef,blk:=fun _=>noB,rows:=fun _ _=>undef }
variable [TabC imm]
structure It (imm:Imm) [TabC imm] (nt:Nat) (t:List (Nat × Option HR)) (a:Act) (A:World):Prop where
 defers:a.defers = []
 rel:ak A nt (cI imm A) ⟨bs t,fun _=>none⟩ a A
theorem ac3 {us:List Value} {args:List PC} (hi:∀ b ob,imm b = some ob → A.heap[b]? = some ob) (hr:ce imm args us) (hn:args.length ≤ nt):It imm nt (wh 0 args) { tmps:=us.toArray ++ Array.replicate (nt - us.toArray.size) undef,defers:=[] } A:=by
 have hul:=hr.length
 refine ⟨rfl,lh.nil _ _ _ _, ?_,Below.refl _ _,fun d x hx=>?_,(fun id ob ho=>by cases ho),(fun i i' ob ob' b ho=>by cases ho),hi,(fun id ob b ho=>by cases ho),fun b _=>rfl,fun b ob hb=>hb,(fun id ob b ho=>by cases ho),fun id _=>.inl rfl⟩
 · simp only [Array.size_append,Array.size_replicate,List.size_toArray];omega
 obtain ⟨y,_,hy,rfl⟩:=vo args 0 d x hx
 simp only [Nat.sub_zero] at hy
 obtain ⟨u,hu,hr⟩:=hr.get d y hy
 have hd:d < us.length:=(List.getElem?_eq_some_iff.1 hu).1
 have:(us.toArray ++ Array.replicate (nt - us.toArray.size) undef).getD d undef = u:=by
  have e1:(us.toArray ++ Array.replicate (nt - us.toArray.size) undef)[d]? = some u:=by
   rw [Array.getElem?_append_left (by simpa using hd)]
   simpa using hu
  rw [Array.getD_eq_getD_getElem?,e1]
  rfl
 show ax (cI imm A) _ _ _
 rw [this]
 exact dq.of_P (c:=cI imm A) hr
theorem It.sub {t t':List (Nat × Option HR)} (h:It imm nt t a A) (hs:xw t' t):It imm nt t' a A :=
 ⟨h.defers,h.rel.relax ⟨bs t',fun _=>none⟩ (fun d x hx=>pn hs d x hx) (fun id ob ho=>by cases ho)⟩
theorem It.move {t:List (Nat × Option HR)} {A':World} (h:It imm nt t a A) (hi:∀ b ob,imm b = some ob → A'.heap[b]? = some ob):It imm nt t a A':=by
 refine ⟨h.defers,by rw [h.defers];exact lh.nil _ _ _ _,h.rel.size,Below.refl _ _,fun d x hx=>?_,(fun id ob ho=>by cases ho),(fun i i' ob ob' b ho=>by cases ho),hi,(fun id ob b ho=>by cases ho),fun b _=>rfl,fun b ob hb=>hb,(fun id ob b ho=>by cases ho),fun id _=>.inl rfl⟩
 exact ax.evo (c:=cI imm A) (o:=fun _=>none) (Imm.le.refl imm) (fun _ _=>.inl rfl) (h.rel.tmps d x hx)
theorem It.put {t:List (Nat × Option HR)} (h:It imm nt t a A) {d:Option Tmp} (hd:dk nt d = true) (x:HR) (v:Value) (hx:ax (cI imm A) (fun _=>none) x v):It imm nt (ac0 d x t) (a.put d v) A:=by
 cases d with
 | none=>exact h
 | some d =>
  have:=h.rel.put d (of_decide_eq_true hd) (some x) v (fun y hy=>by cases hy;exact hx)
  refine ⟨h.defers, ?_⟩
  have e:(S.put ⟨bs t,fun _=>none⟩ d (some x)) = ⟨bs ((d,some x) :: t),fun _=>none⟩:=by
   unfold S.put
   simp [be]
  rw [e] at this
  exact this
theorem ve {t:List (Nat × Option HR)} (h:It imm nt t a A) {x:Operand} {r:HR} (hx:ev ⟨bs t,fun _=>none⟩ x = some r):ax (cI imm A) (fun _=>none) r (a.eval x):=ai h.rel hx
theorem iq (hE:cr P E) {t:List (Nat × Option HR)} {L:List Nat} {out:Out} {gb:Bool} (h:It imm nt t a A) (hi:ops[i]? = some o) (hw:bj ops ⟨bs t,fun _=>none⟩ o = some gb) (hd:dk nt o.dst = true) (hq':hq E true (fun _=>none) (ev ⟨bs t,fun _=>none⟩) o.op = some out) (hnd:(match o.op with | .defer _=>false | _=>true) = true) (hg:gb = true)
 (hK:∀ a',It imm nt (ac0 o.dst out.val t) a' A → wpOpsIn (rf none) 0 P ops Q L a' A)
 (hp:out.pre:=by first | exact trivial | (simp only [jf,inR,xy,a31];omega) | exact ⟨trivial,trivial⟩ | exact ⟨trivial,Nat.le_of_ble_eq_true rfl⟩ | (try dsimp only) <;> ((repeat' apply And.intro) <;> first | trivial | rfl | omega | assumption | exact Nat.le_of_ble_eq_true rfl)):wpOpsIn (rf none) 0 P ops Q (i :: L) a A:=by
 rw [wpOpsIn_cons]
 unfold wpOpIn
 simp only [hi]
 rw [if_pos (dx h.rel (by rw [hw,hg]))]
 obtain ⟨v,h1,h2⟩:=a5a hE h.rel hq' hp
 have hnd':∀ c,o.op ≠ .defer c:=fun c hc=>by rw [hc] at hnd;cases hnd
 refine zo hnd' ?_
 unfold Oper.wp
 rw [h1]
 exact hK _ (h.put hd out.val v h2)
theorem iy {t:List (Nat × Option HR)} {L:List Nat} {cl:Call} {f:Operand} {l:Nat} {R:World → Prop} (h:It imm nt t a A) (hi:ops[i]? = some o) (hw:bj ops ⟨bs t,fun _=>none⟩ o = some true) (hd:dk nt o.dst = true) (ho:o.op = .call cl) (hcl:cl.callee = .value f) (hf:ev ⟨bs t,fun _=>none⟩ f = some (cf (.raw (.func (.yield l) #[] #[]))))
 (hy:YieldAt (rf none) 0 P l (cl.args.toList.map a.eval).toArray A fun e A'=>e = .returned (.bool true) ∧ R A') (him:∀ A',R A' → ∀ b ob,imm b = some ob → A'.heap[b]? = some ob)
 (hK:∀ a' A',R A' → It imm nt (ac0 o.dst (cf (.raw (.bool true))) t) a' A' → wpOpsIn (rf none) 0 P ops Q L a' A'):wpOpsIn (rf none) 0 P ops Q (i :: L) a A:=by
 rw [wpOpsIn_cons]
 unfold wpOpIn
 simp only [hi]
 rw [if_pos (dx h.rel hw)]
 obtain ⟨fn,tmps,assign,body,hyr,hround⟩:=hy
 have hfe:a.eval f = .func (.yield l) #[] #[]:=(ve h hf).1
 refine ⟨fun _ _=>trivial, ?_⟩
 have hsem:Oper.semAt (rf none).round a.eval o = execOp a.eval o:=rfl
 rw [hsem]
 have hma:(cl.args.toList.map a.eval).toArray = cl.args.map a.eval:=by apply Array.toList_inj.1;rw [Array.toList_map]
 rw [hma] at hyr
 have hrun:(execOp a.eval o).run P A = .ok (.round l fn tmps assign body) A:=by
  simp only [execOp,ho,resolve,hcl,hfe,Sem.run_bind,Deferred.ofValue,Sem.run_pure,Result.andThen_ok,invoke]
  simpa using hyr
 rw [hrun,Oper.uponIn_round]
 refine ⟨fun hh=>absurd hh (by simp [rf]),hround.mono ?_⟩
 rintro e A' ⟨rfl,hR⟩
 exact hK _ A' hR ((h.move (him A' hR)).put hd (cf (.raw (.bool true))) (.bool true) ⟨rfl,rfl⟩)
end
theorem eb.of_H {c:Ctx} {o:aw}:∀ {l:List PV} {us:List Value},bh c o (l.map .p) us → eb c.imm l us
 | [],[],_=>trivial
 | _ :: _,_ :: _,h=>⟨h.1,eb.of_H h.2⟩
 | [],_ :: _,h=>h.elim
 | _ :: _,[],h=>h.elim
theorem fz.of_H {c:Ctx} {o:aw} {x:PC} {u:Value} (h:ax c o (.v x.toH) u):fz c.imm x u:=by
 cases x with
 | one x=>exact h
 | agg l=>obtain ⟨us,e,hl⟩:=h;exact ⟨us,e,eb.of_H hl⟩
theorem CoP.vp {k k':Nat} {f f':Nat → PV} (hk:k' = k) (hf:∀ j,j < k → CoP (f j) (f' j)):CoP (.vp k f) (.vp k' f'):=by
 subst hk
 rintro m u ⟨b,off,rfl,h⟩
 exact ⟨b,off,rfl,fun j hj=>by
  obtain ⟨x,hx,hr⟩:=h j hj
  exact ⟨x,hx,hf j hj m x hr⟩⟩
theorem CoP.fn {g:FuncId} {k k':Nat} {f f':Nat → PV} (hk:k' = k) (hf:∀ j,j < k → CoP (f j) (f' j)):CoP (.fn g k f) (.fn g k' f'):=by
 subst hk
 rintro m u ⟨cs,rfl,hl,h⟩
 exact ⟨cs,rfl,hl,fun j hj=>by
  obtain ⟨x,hx,hr⟩:=h j hj
  exact ⟨x,hx,hf j hj m x hr⟩⟩
def RN (P:Program) (nt:Nat) (ops:Array Oper) (L:List Nat) (st:HSt) (Q:HSt → Prop):Prop :=
 ∀ (ro:Option Nat) (n:Nat) w0 m0 a w (QQ:Exit → Act → World → Prop),Rel w0 m0 nt st.den a w → (∀ st' a' w',Q st' → Rel w0 m0 nt st'.den a' w' → QQ .normal a' w') → wpOpsIn (rf ro) n P ops QQ L a w
section
variable {P:Program} {E:Env} {nt:Nat} {ops:Array Oper} {st:HSt}
theorem zk (hE:cr P E) {ro:Option Nat} {n:Nat} {w0:World} {m0:Old} {sf:S} {L2:List Nat} {QQ:Exit → Act → World → Prop} (hQ:∀ a' w',Rel w0 m0 nt sf a' w' → wpOpsIn (rf ro) n P ops QQ L2 a' w') :
 ∀ (T:List Tr) (s:S) (a:Act) (w:World),jk P E nt ops T s sf → Rel w0 m0 nt s a w → wpOpsIn (rf ro) n P ops QQ (T.map (·.i) ++ L2) a w
 | [],s,a,w,hT,hr=>by
  cases hT
  exact hQ _ _ hr
 | t :: T,s,a,w,hT,hr=>by
  cases hT with
  | cons hi he hR hO hF hrest =>
  rw [List.map_cons,List.cons_append,wpOpsIn_cons]
  exact yb hE he hr hi fun a' w' hr'=>zk hE hQ T _ a' w' hrest hr'
theorem rz (hE:cr P E) {L1 L2:List Nat} {Q:HSt → Prop} (h:Reg P E nt ops L1 st fun _ sf=>RN P nt ops L2 sf Q):RN P nt ops (L1 ++ L2) st Q:=fun ro n w0 m0 a w QQ hr hQ=>by
 obtain ⟨T,sf,hl,hT,h⟩:=h
 rw [← hl]
 exact zk hE (fun a' w' hr'=>h ro n w0 m0 a' w' QQ hr' hQ) T _ a w hT hr
theorem a55 {Q:HSt → Prop} (h:Q st):RN P nt ops [] st Q:=fun ro n w0 m0 a w QQ hr hQ=>hQ st a w h hr
theorem a4g {L:List Nat} {Q:HSt → Prop} (h:HE nt st fun st'=>RN P nt ops L st' Q):RN P nt ops L st Q:=fun ro n w0 m0 a w QQ hr hQ=>by
 obtain ⟨st',h1,h2⟩:=h w0 m0 a w hr
 exact h1 ro n w0 m0 a w QQ h2 hQ
theorem vg {ro:Option Nat} {Q:Exit → HSt → Prop} {id:Nat} (L1 L2:List Nat) (hl:List.range ops.size = L1 ++ L2) (h:RN P nt ops (L1 ++ L2) st (Q .normal)):HW (ro:=ro) P nt (.region id ops false) st Q:=fun w0 m0 a w hr=>by
 refine wpIn_region ?_
 rw [hl]
 exact h ro 0 w0 m0 a w _ hr fun st' a' w' hq hr'=>⟨st',hq,hr'⟩
theorem agu {Q:HSt → Prop} (st1:HSt) (d:Nat) (x:HR) (hs:∀ w0 m0 a w,Rel w0 m0 nt st.den a w → ∃ cc,cc.old = m0 ∧ ak w0 nt cc st1.den a w ∧ ax cc st1.den.o x (a.tmps.getD d undef))
 (h:HE nt ⟨(d,some x) :: st1.t,st1.o⟩ Q):HE nt st Q:=fun w0 m0 a w hr=>by
 obtain ⟨cc,hold,hrr,hx⟩:=hs w0 m0 a w hr
 refine h w0 m0 a w ⟨cc,hold,hrr.defers,hrr.size,hrr.below,fun k y hy=>?_,hrr.objs,hrr.inj,hrr.imm,hrr.sep,hrr.was,hrr.frm,hrr.fsep,hrr.fixed⟩
 simp only [HSt.den] at hy
 rw [be] at hy
 dsimp only at hy
 split at hy
 · rename_i hk
   subst hk
   simp only [Option.some.injEq] at hy
   subst hy
   exact hx
 exact hrr.tmps k y hy
theorem a3j {Q:HSt → Prop} (d:Nat) {id n n' s:Nat} {wr:Bool} {e:TypeId} {f:Nat → Nat → PV} (hd:bs st.t d = some (.v (.one (.ref id n)))) (ho:bs st.o id = some (.arr wr s e n' f)) (hn:n' = n)
 (h:HE nt ⟨(d,some (cf (.sl n s false f))) :: st.t,(id,none) :: st.o⟩ Q):HE nt st Q:=by
 subst hn
 refine agu ⟨st.t,(id,none) :: st.o⟩ d (cf (.sl n' s false f)) (fun w0 m0 a w hr=>?_) h
 obtain ⟨cc,hold,hrr⟩:=hr
 refine ⟨_, ?_,by rw [re];exact hrr.freeze ho, ?_⟩
 · exact hold
 obtain ⟨_,_,h3⟩:=hrr.tmps d _ hd
 have:=(h3 _ _ _ _ ho rfl).2 rfl
 rw [this]
 exact ns hrr ho
end
end
section
open Go.RowKit
structure ExF (kk:KK) (n:Nat) (f:MK → Option PV) (es:Array MapEntry) (clock:Nat):Prop where
 st:Go.MapKept.Stamped es clock
 le:es.size ≤ n
 mx:es.size ≤ maxLen
 to:∀ x ∈ es.toList,∃ key v,x.key = key.val ∧ f key = some (.raw v) ∧ x.val = v ∧ v.oneCell' = true
 of:∀ key y,f key = some y → MK.ok kk key ∧ ∃ x ∈ es.toList,x.key = key.val
structure Vis (es:Array MapEntry) (seen:Array Nat) (vs:List MK):Prop where
 nod:vs.Nodup
 inn:∀ k ∈ vs,∃ x ∈ es.toList,x.key = k.val ∧ seen.contains x.born = true
 all:∀ x ∈ es.toList,seen.contains x.born = true → ∃ k ∈ vs,x.key = k.val
section
variable {kk:KK} {n:Nat} {f:MK → Option PV} {es:Array MapEntry} {clock:Nat} {seen:Array Nat} {vs:List MK} {e:MapEntry} {key:MK}
end
section
variable {nt:Nat} {st:HSt}
end
abbrev itO (bi b clock:Nat) (seen:Array Nat):af:=.ex 2 (.pointer (some ⟨bi,0,none⟩)) bi (.mapIter (some b) clock seen clock)
abbrev mpO (b:Nat) (es:Array MapEntry) (clock:Nat):af:=.ex 0 (.map (some b)) b (.map es clock)
section
variable {P:Program} {nt:Nat} {ops:Array Oper} {st:HSt}
variable {k:Nat} {o:Oper} {L:List Nat} {Q:HSt → Prop} {x:Operand} {mid j b clock d bi id n:Nat} {es:Array MapEntry} {seen:Array Nat} {kk:KK} {f:MK → Option PV}
end
end
section
open Go.RowKit
def ajm (f:MK → Option PV) (m:MK):MK → Option PV:=fun k=>bif k.same m then none else f k
section
variable {P:Program} {E:Env} {nt:Nat} {ops:Array Oper} {st:HSt}
end
theorem jc {P:Program} {nt:Nat} {st:HSt} {ro:Option Nat} {c:Code} {Q:Exit → HSt → Prop} (h:HE nt st fun st'=>HW (ro:=ro) P nt c st' Q):HW (ro:=ro) P nt c st Q:=fun w0 m0 a w hr=>by
 obtain ⟨st',h1,h2⟩:=h w0 m0 a w hr
 exact h1 w0 m0 a w h2
section
variable {P:Program} {E:Env} {nt:Nat} {ops:Array Oper} {st:HSt} {k:Nat} {o:Oper} {L:List Nat} {Q:HSt → Prop}
end
end
section
open Go.RowKit
section
variable {w0:World} {nt:Nat} {c:Ctx} {s:S} {a:Act} {w:World}
def ajn (m:Nat → Nat) (n k:Nat):Nat → Nat:=fun i=>bif Nat.beq i n then k else m i
def aji (g:Nat → Nat → Nat → PV) (n:Nat) (f:Nat → Nat → PV):Nat → Nat → Nat → PV:=fun i=>bif Nat.beq i n then f else g i
def ajl (es:Nat) (m:Nat → Nat) (g:Nat → Nat → Nat → PV):Nat → Nat → PV:=fun i _=>.sl (m i) es false (g i)
open Classical in
noncomputable def thinImm (c:Ctx) (w:World) (id n:Nat):Imm:=fun b=>if ∃ i,i < n ∧ ci (c.rows id i) = some b then w.heap[b]? else c.imm b
end
section
variable {ro:Option Nat} {P:Program} {nt:Nat} {st:HSt} {Q:Exit → HSt → Prop}
end
end
end Go.Hx
