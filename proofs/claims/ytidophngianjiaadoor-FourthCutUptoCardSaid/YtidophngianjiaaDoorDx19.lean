/- A part of the proof: Hx24 Cs17 Cs18 Cs19 Hx20 Cs20 Cs21 Cs22 Cs23 Hx21. -/
import Derived.ChangeArms
import Derived.OpenShut
import Derived.ProofKit
import Derived.WalkKit
import Derived.WideKeyArgs
import Derived.Test.YtidophngianjiaaDoorDx13
import Derived.Test.YtidophngianjiaaDoorDx14
import Derived.Test.YtidophngianjiaaDoorDx18
set_option linter.all false
section
namespace Go.Hx
open Go.RowKit
section
variable {w0:World} {nt:Nat} {c:Ctx} {s:S} {a:Act} {w:World}
theorem aj.short (h:aj w0 nt c s a w) {id id' sz n m:Nat} {el:TypeId} {f:Nat → Nat → PV} (ho:s.o id = some (.arr true sz el n f)) (hm:m ≤ n) (hnm:NM s id') (hno:s.o id' = none) {u:Value} (hu:b4 c s.o (.win id n 0 m) u) :
 ∃ c',c'.old = c.old ∧ aj w0 nt c' ((s.setO id none).setO id' (some (.arr true sz el m f))) a w ∧ ap c' ((s.setO id none).setO id' (some (.arr true sz el m f))).o (.v (.one (.ref id' m))) u:=by
 have hne:id ≠ id':=fun e=>by rw [← e,ho] at hno;cases hno
 obtain ⟨ad,ad',cap,q1,q2,q3,q4,q5,q6⟩:=oi hu ho rfl
 obtain ⟨h0,h1,h5⟩:=h.objs id _ ho
 have hold:∀ k ob,((s.setO id none).setO id' (some (.arr true sz el m f))).o k = some ob → k ≠ id' → s.o k = some ob ∧ k ≠ id:=fun k ob hk hk'=>by
  simp only [S.setO,if_neg hk'] at hk
  by_cases hki:k = id
  · subst hki;simp at hk
  · rw [if_neg hki] at hk;exact ⟨hk,hki⟩
 obtain ⟨bk,hbk,hok⟩:∃ bk:Nat → Prop,(∀ b,bk b → c.blk id b) ∧ ∀ c':Ctx,c'.imm = c.imm → c'.own id' = u → c'.blk id' = bk → ∀ o':aq,cj 0 c' o' w id' (.arr true sz el m f):=by
  rcases h5 with ⟨h6,xs,h2,h4⟩ | ⟨h6 | h6,h7,h8⟩
  · obtain ⟨hxl,hrow⟩:=h2
    rcases hrow with ⟨hv0,hz⟩ | ⟨g,cap',cur,hown,hbase,hheap,hnc,hcm,hcs,htake⟩
    · rw [hv0] at q1
      simp only [Value.slice.injEq] at q1
      obtain ⟨rfl,_,rfl⟩:=q1
      obtain rfl:n = 0:=by omega
      obtain rfl:m = 0:=by omega
      refine ⟨noB,fun b hb=>hb.elim,fun c' e1 e2 e3 o'=>⟨h0,Nat.zero_le _, .inr ⟨.inr rfl,e3, ?_⟩⟩⟩
      rw [e2,q2]
      exact ⟨ad',0,rfl,Nat.le_refl _,Nat.zero_le _,fun _=>rfl,fun h=>absurd h (Nat.lt_irrefl 0)⟩
    · rw [hown] at q1
      simp only [Value.slice.injEq,true_and] at q1
      obtain ⟨rfl,rfl⟩:=q1
      by_cases hcap:cap' = 0
      · subst hcap
        obtain rfl:m = 0:=by omega
        refine ⟨noB,fun b hb=>hb.elim,fun c' e1 e2 e3 o'=>⟨h0,Nat.zero_le _, .inr ⟨.inr rfl,e3, ?_⟩⟩⟩
        rw [e2,q2]
        exact ⟨ad',0,rfl,Nat.le_refl _,Nat.zero_le _,fun _=>rfl,fun h=>absurd h (Nat.lt_irrefl 0)⟩
      · obtain rfl:=q6 (by omega)
        simp only [Option.map_some,br,Nat.zero_mul,Nat.add_zero,Nat.sub_zero] at q2
        have hmul:m * sz ≤ n * sz:=Nat.mul_le_mul_right _ hm
        refine ⟨fj u,fun b hb=>by rw [h6,hown];rw [q2] at hb;exact hb,fun c' e1 e2 e3 o'=>⟨h0,Nat.le_trans hm h1, .inl ⟨by rw [e2,e3],xs.take (m * sz),⟨by rw [List.length_take,hxl,Nat.min_eq_left hmul], .inr ⟨g,cap',cur,by rw [e2,q2],hbase,hheap,by omega,hcm,hcs, ?_⟩⟩,fun i j hi hj=>?_⟩⟩⟩
        · rw [← htake,List.take_take,Nat.min_eq_left hmul]
        · obtain ⟨x,hx,hr⟩:=h4 i j (by omega) hj
          refine ⟨x, ?_,by rw [e1];exact hr⟩
          rw [List.getElem?_take,if_pos (sm hi hj)]
          exact hx
  · cases h6
  · subst h6
    obtain rfl:m = 0:=by omega
    refine ⟨noB,fun b hb=>hb.elim,fun c' e1 e2 e3 o'=>⟨h0,Nat.zero_le _, .inr ⟨.inr rfl,e3, ?_⟩⟩⟩
    obtain ⟨ad2,cap2,r1,r2,r3,r4,_⟩:=h8
    rw [q1] at r1
    simp only [Value.slice.injEq,true_and] at r1
    obtain ⟨rfl,rfl⟩:=r1
    obtain rfl:cap = 0:=r4 rfl
    rw [e2,q2]
    exact ⟨ad',0,rfl,Nat.le_refl _,Nat.zero_le _,fun _=>rfl,fun h=>absurd h (Nat.lt_irrefl 0)⟩
 have hevo:∀ k,k ≠ id' → Evo c s.o { c with own:=fun k=>if k = id' then u else c.own k,blk:=fun k=>if k = id' then bk else c.blk k } ((s.setO id none).setO id' (some (.arr true sz el m f))).o k:=fun k hk=>by
  by_cases hki:k = id
  · subst hki
    exact .inl (by simp [S.setO,hk])
  · exact Evo.of_same (by simp [S.setO,hk,hki]) (by simp [hk])
 refine ⟨{ c with own:=fun k=>if k = id' then u else c.own k,blk:=fun k=>if k = id' then bk else c.blk k },rfl,⟨h.defers,h.size,h.below,fun d x hx=>?_,fun k ob hk=>?_,fun i i' obi obi' b hi hi' hb hb'=>?_,h.imm,fun k ob b hk hb=>?_,h.was,h.frm,fun k ob b hk hb=>?_,fun k hk=>?_⟩, ?_⟩
 · exact (h.tmps d x hx).evo (Imm.le.refl c.imm) fun k hkm=>hevo k (by rintro rfl;exact hnm.1 d x hx hkm)
 · by_cases hk':k = id'
   · subst hk'
     obtain rfl:ob = .arr true sz el m f:=by simpa [S.setO] using hk.symm
     refine hok _ ?_ ?_ ?_ _ <;> first | rfl | exact if_pos rfl
   · obtain ⟨hk1,hk2⟩:=hold k ob hk hk'
     exact (h.objs k ob hk1).keep (Imm.le.refl c.imm) (by simp [hk']) (by simp [hk']) (fun j hj=>hevo j (by rintro rfl;exact hnm.2.1 k ob hk1 hj)) fun b _=>rfl
 · have hone:∀ k ob b,k ≠ id' → ((s.setO id none).setO id' (some (.arr true sz el m f))).o k = some ob → c.blk k b → bk b → False:=fun k ob b hk' hk hb hbb=>by
    obtain ⟨hk1,hk2⟩:=hold k ob hk hk'
    exact hk2 (h.inj k id ob _ b hk1 ho hb (hbk b hbb))
   by_cases e1:i = id'
   · by_cases e2:i' = id'
     · rw [e1,e2]
     · exact (hone i' obi' b e2 hi' (by simpa [e2] using hb') (by simpa [e1] using hb)).elim
   · by_cases e2:i' = id'
     · exact (hone i obi b e1 hi (by simpa [e1] using hb) (by simpa [e2] using hb')).elim
     · exact h.inj i i' obi obi' b (hold i obi hi e1).1 (hold i' obi' hi' e2).1 (by simpa [e1] using hb) (by simpa [e2] using hb')
 · by_cases hk':k = id'
   · exact h.sep id _ b ho (hbk b (by simpa [hk'] using hb))
   · exact h.sep k ob b (hold k ob hk hk').1 (by simpa [hk'] using hb)
 · by_cases hk':k = id'
   · exact h.fsep id _ b ho (hbk b (by simpa [hk'] using hb))
   · exact h.fsep k ob b (hold k ob hk hk').1 (by simpa [hk'] using hb)
 · exact (h.fixed k hk).trans (hevo k (by have:=hnm.2.2;omega))
 · refine ⟨hu.1,fun l=>by simp [S.setO],fun ob2 s2 e2 n2 ho2 hd2=>?_⟩
   simp only [S.setO,if_true,Option.some.injEq] at ho2
   subst ho2
   simp only [ab.dim,Option.some.injEq,Prod.mk.injEq] at hd2
   obtain ⟨rfl,rfl,rfl⟩:=hd2
   exact ⟨Nat.le_refl _,fun _=>by simp⟩
end
section
variable {ro:Option Nat} {P:Program} {nt:Nat} {st:HSt} {Q:Exit → HSt → Prop}
theorem ahd {c:Code} (d id2:Nat) {id n n' i m s:Nat} {e:TypeId} {f:Nat → Nat → PV} (hd:bc st.t d = some (.v (.one (.win id n i m)))) (ho:bc st.o id = some (.arr true s e n' f)) (hn:n' = n) (hi:i = 0) (hm:m ≤ n) (hnew:pe id2 st = true)
 (h:HW (ro:=ro) P nt c ⟨(d,some (.v (.one (.ref id2 m)))) :: st.t,(id2,some (.arr true s e m f)) :: (id,none) :: st.o⟩ Q):HW (ro:=ro) P nt c st Q:=by
 subst hn hi
 obtain ⟨hnm,hno⟩:=jm hnew
 refine td ⟨st.t,(id2,some (.arr true s e m f)) :: (id,none) :: st.o⟩ d (.v (.one (.ref id2 m))) (fun w0 m0 a w hr=>?_) h
 obtain ⟨cc,hold,hrr⟩:=hr
 obtain ⟨c',e1,e2,e3⟩:=hrr.short ho hm hnm hno (hrr.tmps d _ hd)
 have e4:(HSt.den ⟨st.t,(id2,some (.arr true s e m f)) :: (id,none) :: st.o⟩) = (st.den.setO id none).setO id2 (some (.arr true s e m f)):=by
  unfold HSt.den S.setO
  simp [be]
 exact ⟨c',e1.trans hold,by rw [e4];exact e2,by rw [e4];exact e3⟩
theorem ww {c:Code} (d id2:Nat) {id n n' s:Nat} {e:TypeId} {f:Nat → Nat → PV} (hd:bc st.t d = some (.v (.one (.ref id n)))) (ho:bc st.o id = some (.arr true s e n' f)) (hn:n' = n) (hnew:pe id2 st = true)
 (h:HW (ro:=ro) P nt c ⟨(d,some (.v (.one (.ref id2 n)))) :: st.t,(id2,some (.arr true s e n f)) :: (id,none) :: st.o⟩ Q):HW (ro:=ro) P nt c st Q:=by
 subst hn
 obtain ⟨hnm,hno⟩:=jm hnew
 refine td ⟨st.t,(id2,some (.arr true s e n' f)) :: (id,none) :: st.o⟩ d (.v (.one (.ref id2 n'))) (fun w0 m0 a w hr=>?_) h
 obtain ⟨cc,hold,hrr⟩:=hr
 have hu:b4 cc st.den.o (.ref id n') (a.tmps.getD d undef):=hrr.tmps d _ hd
 have hw:b4 cc st.den.o (.win id n' 0 n') (a.tmps.getD d undef):=by
  refine ⟨hu.1,hu.2.1,fun ob s2 e2 n2 ho2 hd2=>⟨(hu.2.2 _ _ _ _ ho2 hd2).1,fun hk=>?_⟩⟩
  have he:=(hu.2.2 _ _ _ _ ho2 hd2).2 hk
  obtain rfl:ob = .arr true s e n' f:=Option.some.inj (ho2.symm.trans ho)
  simp only [ab.dim,Option.some.injEq,Prod.mk.injEq] at hd2
  obtain ⟨rfl,rfl,rfl⟩:=hd2
  obtain ⟨ad,cap,hv,hc1,hc2⟩:=ol (hrr.objs _ _ ho2)
  exact ⟨ad,ad,cap,hv,by rw [he,hv];rfl,by omega,hc1,hc2,fun _=>by cases ad <;> simp [j1]⟩
 obtain ⟨c',e1,e2,e3⟩:=hrr.short ho (Nat.le_refl _) hnm hno hw
 have e4:(HSt.den ⟨st.t,(id2,some (.arr true s e n' f)) :: (id,none) :: st.o⟩) = (st.den.setO id none).setO id2 (some (.arr true s e n' f)):=by
  unfold HSt.den S.setO
  simp [be]
 exact ⟨c',e1.trans hold,by rw [e4];exact e2,by rw [e4];exact e3⟩
end
end Go.Hx
end
section
namespace Go.Hx
theorem a11 {id n m:Nat} (h:n = m):CoR (.v (.one (.ref id n))) (.v (.one (.ref id m))):=by rw [h];exact CoR.refl _
end Go.Hx
end
section
namespace Go.Hx
def aoq (l:List Fd) (p:AS):Int:=if cu 16 l = 0 then (if 8 < bsz p then 3 else if p >>> 16 = 0 then 0 else 1) else cu 16 l
def auf (l:List Fd) (p:AS):Fd:=if aoq l p = 0 then a4y l p else ⟨0,0⟩
def ats (l:List Fd) (p:AS):Bool:=decide (aoq l p = 0) && o6 l p
def bcP (n:Int) (l:List Fd) (f:Fd):Bool:=decide (f.rhs &&& ~~~f.lhs ≠ 0) && decide (clo l f.lhs ≠ ah n)
def bcS (n:Int) (l:List Fd):Bool:=decide (cu n l = 0) && !l.any (bcP n l)
def aax (n:Int) (l:List Fd):List AS:=if zq n l 8 = 0 then (bg (ah n)).filter fun s=>!o6 l s else []
end Go.Hx
end
section
namespace Go.Hx
def alj (l:List Fd) (p z:AS):AS:=(p &&& clo l (z &&& p)) &&& ~~~z
def aqx (l:List Fd) (z p:AS):Bool:=decide (alj l p z ≠ 0)
def ahb (l:List Fd) (ps:List AS):Nat → AS → AS
 | 0,z=>z
 | n + 1,z=>match ps.find? (aqx l z) with
  | none=>z
  | some p=>ahb l ps n (z ||| alj l p z)
def agx (l:List Fd) (ps:List AS) (z:AS):AS:=ahb l ps 4294967297 z
def aao (l:List Fd) (ps:List AS) (f:Fd):Bool:=decide (sub f.rhs (agx l ps f.lhs))
def auc (l:List Fd) (ps:List AS) (z0:AS) (x:Nat × List Nat × AS):Prop:=ahb l ps x.1 x.2.2 = agx l ps z0 ∧ 4294967296 < x.1 + x.2.2.toNat ∧ x.2.1.length + x.1 = 4294967297
def att (l:List Fd) (ps:List AS) (i:Nat):List Nat:=(List.range i).filter fun j=>!aao l ps (l.getD j default)
def ap6 (l:List Fd) (ps:List AS):Bool:=(List.range l.length).all fun j=>aao l ps (l.getD j default)
end Go.Hx
end
section
namespace Go.Hx
open Go.RowKit
def atc (P:Program) (g:FuncId) (caps:List PC) (n:Nat) (xs:Nat → List PC):Prop :=
 ∀ (imm:Imm) (_:lq imm) (us:List Value) (W:World) (l:Nat) (J:Nat → World → Prop),bq imm caps us →
  (∀ i A,J i A → ∀ b ob,imm b = some ob → A.heap[b]? = some ob) →
  (∀ i A A',J i A → Below A.heap.size A A' → J i A') →
  (∀ i A vs,i < n → J i A → bq imm (xs i) vs → YieldAt (rf none) 0 P l vs.toArray A fun e A'=>e = .returned (.bool true) ∧ J (i + 1) A') →
  J 0 W → CallsIn (rf none) 0 P g (#[.func (.yield l) #[] #[]] ++ us.toArray) W fun e W'=>(∃ v,e = .returned v) ∧ J n W'
section
variable {P:Program} {nt:Nat} {c:Ctx} {s:S} {a:Act} {w w0:World}
end
def aq3 (r:Nat → Nat):List (Nat × Option HR) → List (Nat × Option HR)
 | []=>[]
 | (d,some x) :: l=>(d,some (x.ren r)) :: aq3 r l
 | (d,none) :: l=>(d,none) :: aq3 r l
def rgB (r:Nat → Nat) (T:List (Nat × Option HR)) (o1 o2:List (Nat × ab)) (fx:List Nat):Bool :=
 (fx.all fun id=>Nat.ble 1000 (r id)) && ((bu o2).all fun id=>(mj fx id && mj (bu o1) id) || (Nat.blt id 1000 && nmT id T)) && (a2l o2).all (mj (bu o2))
def aty (P:Program) (nt l:Nat) (body:Code) (Q:HSt → Prop) (e:Exit) (st:HSt):Prop:=e = .normal ∧ HW (ro:=some l) P nt body st fun e st=>e = .normal ∧ Q st
section
variable {P:Program} {E:Env} {nt:Nat} {ops:Array Oper} {i:Nat} {o:Oper} {Q:Exit → Act → World → Prop} {a:Act} {A:World} {imm:Imm}
def aod (d:Option Tmp) (x:HR) (t:List (Nat × Option HR)):List (Nat × Option HR):=match d with | some d=>(d,some x) :: t | none=>t
class TabC (imm:Imm):Prop where
 ok:lq imm
def cI (imm:Imm) (A:World) [ht:TabC imm]:Ctx:={ old:=(imm,d3 A,(fun _=>undef),(fun _=>none),fun _ _=>undef),imm:=imm,tab:=ht.ok,own:=fun _=>undef,blk:=fun _=>noB,rows:=fun _ _=>undef }
variable [TabC imm]
structure It (imm:Imm) [TabC imm] (nt:Nat) (t:List (Nat × Option HR)) (a:Act) (A:World):Prop where
 defers:a.defers = []
 rel:aj A nt (cI imm A) ⟨bc t,fun _=>none⟩ a A
theorem It.sub {t t':List (Nat × Option HR)} (h:It imm nt t a A) (hs:vz t' t):It imm nt t' a A :=
 ⟨h.defers,h.rel.relax ⟨bc t',fun _=>none⟩ (fun d x hx=>qj hs d x hx) (fun id ob ho=>by cases ho)⟩
theorem It.move {t:List (Nat × Option HR)} {A':World} (h:It imm nt t a A) (hi:∀ b ob,imm b = some ob → A'.heap[b]? = some ob):It imm nt t a A':=by
 refine ⟨h.defers,by rw [h.defers];exact lx.nil _ _ _ _,h.rel.size,Below.refl _ _,fun d x hx=>?_,(fun id ob ho=>by cases ho),(fun i i' ob ob' b ho=>by cases ho),hi,(fun id ob b ho=>by cases ho),fun b _=>rfl,fun b ob hb=>hb,(fun id ob b ho=>by cases ho),fun id _=>.inl rfl⟩
 exact ap.evo (c:=cI imm A) (o:=fun _=>none) (Imm.le.refl imm) (fun _ _=>.inl rfl) (h.rel.tmps d x hx)
theorem It.put {t:List (Nat × Option HR)} (h:It imm nt t a A) {d:Option Tmp} (hd:cg nt d = true) (x:HR) (v:Value) (hx:ap (cI imm A) (fun _=>none) x v):It imm nt (aod d x t) (a.put d v) A:=by
 cases d with
 | none=>exact h
 | some d =>
  have:=h.rel.put d (of_decide_eq_true hd) (some x) v (fun y hy=>by cases hy;exact hx)
  refine ⟨h.defers, ?_⟩
  have e:(S.put ⟨bc t,fun _=>none⟩ d (some x)) = ⟨bc ((d,some x) :: t),fun _=>none⟩:=by
   unfold S.put
   simp [be]
  rw [e] at this
  exact this
theorem an1 {t:List (Nat × Option HR)} (h:It imm nt t a A) {x:Operand} {r:HR} (hx:ev ⟨bc t,fun _=>none⟩ x = some r):ap (cI imm A) (fun _=>none) r (a.eval x):=ae h.rel hx
theorem iy {t:List (Nat × Option HR)} {L:List Nat} {cl:Call} {f:Operand} {l:Nat} {R:World → Prop} (h:It imm nt t a A) (hi:ops[i]? = some o) (hw:aw ops ⟨bc t,fun _=>none⟩ o = some true) (hd:cg nt o.dst = true) (ho:o.op = .call cl) (hcl:cl.callee = .value f) (hf:ev ⟨bc t,fun _=>none⟩ f = some (bd (.raw (.func (.yield l) #[] #[]))))
 (hy:YieldAt (rf none) 0 P l (cl.args.toList.map a.eval).toArray A fun e A'=>e = .returned (.bool true) ∧ R A') (him:∀ A',R A' → ∀ b ob,imm b = some ob → A'.heap[b]? = some ob)
 (hK:∀ a' A',R A' → It imm nt (aod o.dst (bd (.raw (.bool true))) t) a' A' → wpOpsIn (rf none) 0 P ops Q L a' A'):wpOpsIn (rf none) 0 P ops Q (i :: L) a A:=by
 rw [wpOpsIn_cons]
 unfold wpOpIn
 simp only [hi]
 rw [if_pos (d6 h.rel hw)]
 obtain ⟨fn,tmps,assign,body,hyr,hround⟩:=hy
 have hfe:a.eval f = .func (.yield l) #[] #[]:=(an1 h hf).1
 refine ⟨fun _ _=>trivial, ?_⟩
 have hsem:Oper.semAt (rf none).round a.eval o = execOp a.eval o:=rfl
 rw [hsem]
 have hma:(cl.args.toList.map a.eval).toArray = cl.args.map a.eval:=by apply Array.toList_inj.1;rw [Array.toList_map]
 rw [hma] at hyr
 have hrun:(execOp a.eval o).run P A = .ok (.round l fn tmps assign body) A:=by
  simp only [execOp,ho,resolve,hcl,hfe,Sem.run_bind,Deferred.ofValue,Sem.run_pure,Result.andThen_ok,invoke]
  simpa using hyr
 rw [hrun,Oper.uponIn_round]
 refine ⟨fun hh=>absurd hh (by simp [rf]),hround.mono ?_⟩
 rintro e A' ⟨rfl,hR⟩
 exact hK _ A' hR ((h.move (him A' hR)).put hd (bd (.raw (.bool true))) (.bool true) ⟨rfl,rfl⟩)
end
theorem CoP.vp {k k':Nat} {f f':Nat → PV} (hk:k' = k) (hf:∀ j,j < k → CoP (f j) (f' j)):CoP (.vp k f) (.vp k' f'):=by
 subst hk
 rintro m u ⟨b,off,rfl,h⟩
 exact ⟨b,off,rfl,fun j hj=>by
  obtain ⟨x,hx,hr⟩:=h j hj
  exact ⟨x,hx,hf j hj m x hr⟩⟩
theorem CoP.fn {g:FuncId} {k k':Nat} {f f':Nat → PV} (hk:k' = k) (hf:∀ j,j < k → CoP (f j) (f' j)):CoP (.fn g k f) (.fn g k' f'):=by
 subst hk
 rintro m u ⟨cs,rfl,hl,h⟩
 exact ⟨cs,rfl,hl,fun j hj=>by
  obtain ⟨x,hx,hr⟩:=h j hj
  exact ⟨x,hx,hf j hj m x hr⟩⟩
def RN (P:Program) (nt:Nat) (ops:Array Oper) (L:List Nat) (st:HSt) (Q:HSt → Prop):Prop :=
 ∀ (ro:Option Nat) (n:Nat) w0 m0 a w (QQ:Exit → Act → World → Prop),Rel w0 m0 nt st.den a w → (∀ st' a' w',Q st' → Rel w0 m0 nt st'.den a' w' → QQ .normal a' w') → wpOpsIn (rf ro) n P ops QQ L a w
section
variable {P:Program} {E:Env} {nt:Nat} {ops:Array Oper} {st:HSt}
theorem zd (hE:bm P E) {ro:Option Nat} {n:Nat} {w0:World} {m0:Old} {sf:S} {L2:List Nat} {QQ:Exit → Act → World → Prop} (hQ:∀ a' w',Rel w0 m0 nt sf a' w' → wpOpsIn (rf ro) n P ops QQ L2 a' w') :
 ∀ (T:List Tr) (s:S) (a:Act) (w:World),gz P E nt ops T s sf → Rel w0 m0 nt s a w → wpOpsIn (rf ro) n P ops QQ (T.map (·.i) ++ L2) a w
 | [],s,a,w,hT,hr=>by
  cases hT
  exact hQ _ _ hr
 | t :: T,s,a,w,hT,hr=>by
  cases hT with
  | cons hi he hR hO hF hrest =>
  rw [List.map_cons,List.cons_append,wpOpsIn_cons]
  exact vw hE he hr hi fun a' w' hr'=>zd hE hQ T _ a' w' hrest hr'
theorem a2f (hE:bm P E) {L1 L2:List Nat} {Q:HSt → Prop} (h:Reg P E nt ops L1 st fun _ sf=>RN P nt ops L2 sf Q):RN P nt ops (L1 ++ L2) st Q:=fun ro n w0 m0 a w QQ hr hQ=>by
 obtain ⟨T,sf,hl,hT,h⟩:=h
 rw [← hl]
 exact zd hE (fun a' w' hr'=>h ro n w0 m0 a' w' QQ hr' hQ) T _ a w hT hr
theorem afv {Q:HSt → Prop} (h:Q st):RN P nt ops [] st Q:=fun ro n w0 m0 a w QQ hr hQ=>hQ st a w h hr
theorem al2 {L:List Nat} {Q:HSt → Prop} (h:HE nt st fun st'=>RN P nt ops L st' Q):RN P nt ops L st Q:=fun ro n w0 m0 a w QQ hr hQ=>by
 obtain ⟨st',h1,h2⟩:=h w0 m0 a w hr
 exact h1 ro n w0 m0 a w QQ h2 hQ
theorem a1n {ro:Option Nat} {Q:Exit → HSt → Prop} {id:Nat} (L1 L2:List Nat) (hl:List.range ops.size = L1 ++ L2) (h:RN P nt ops (L1 ++ L2) st (Q .normal)):HW (ro:=ro) P nt (.region id ops false) st Q:=fun w0 m0 a w hr=>by
 refine wpIn_region ?_
 rw [hl]
 exact h ro 0 w0 m0 a w _ hr fun st' a' w' hq hr'=>⟨st',hq,hr'⟩
theorem aq6 {Q:HSt → Prop} (st1:HSt) (d:Nat) (x:HR) (hs:∀ w0 m0 a w,Rel w0 m0 nt st.den a w → ∃ cc,cc.old = m0 ∧ aj w0 nt cc st1.den a w ∧ ap cc st1.den.o x (a.tmps.getD d undef))
 (h:HE nt ⟨(d,some x) :: st1.t,st1.o⟩ Q):HE nt st Q:=fun w0 m0 a w hr=>by
 obtain ⟨cc,hold,hrr,hx⟩:=hs w0 m0 a w hr
 refine h w0 m0 a w ⟨cc,hold,hrr.defers,hrr.size,hrr.below,fun k y hy=>?_,hrr.objs,hrr.inj,hrr.imm,hrr.sep,hrr.was,hrr.frm,hrr.fsep,hrr.fixed⟩
 simp only [HSt.den] at hy
 rw [be] at hy
 dsimp only at hy
 split at hy
 · rename_i hk
   subst hk
   simp only [Option.some.injEq] at hy
   subst hy
   exact hx
 · exact hrr.tmps k y hy
theorem a42 {Q:HSt → Prop} (d:Nat) {id n n' s:Nat} {wr:Bool} {e:TypeId} {f:Nat → Nat → PV} (hd:bc st.t d = some (.v (.one (.ref id n)))) (ho:bc st.o id = some (.arr wr s e n' f)) (hn:n' = n)
 (h:HE nt ⟨(d,some (bd (.sl n s false f))) :: st.t,(id,none) :: st.o⟩ Q):HE nt st Q:=by
 subst hn
 refine aq6 ⟨st.t,(id,none) :: st.o⟩ d (bd (.sl n' s false f)) (fun w0 m0 a w hr=>?_) h
 obtain ⟨cc,hold,hrr⟩:=hr
 refine ⟨_, ?_,by rw [ov];exact hrr.freeze ho, ?_⟩
 · exact hold
 · obtain ⟨_,_,h3⟩:=hrr.tmps d _ hd
   have:=(h3 _ _ _ _ ho rfl).2 rfl
   rw [this]
   exact jr hrr ho
end
end Go.Hx
end
section
namespace Go.Hx
def orL (ps:List AS):AS:=ps.foldl (· ||| ·) 0
theorem ak5 {ps:List AS} {i:Nat} (h:i < ps.length):orL (ps.take (i + 1)) = orL (ps.take i) ||| ps.getD i default:=by
 unfold orL
 rw [b8 h,List.foldl_append]
 rfl
def ar6 (n:Int) (l:List Fd) (ps:List AS):Bool:=decide (orL ps = ah n) && ap6 l ps && ps.any (a38 n l)
def arw (n:Int) (l:List Fd) (ps:List AS) (s:AS):List AS:=if ar6 n l (ps.eraseIdx (idx (fun x=>decide (x = s)) ps).toNat) = true then ps.eraseIdx (idx (fun x=>decide (x = s)) ps).toNat else ps
def ab9 (n:Int) (l:List Fd) (p0:List AS):Nat → List AS
 | 0=>p0
 | i + 1=>arw n l (ab9 n l p0 i) (p0.getD (p0.length - 1 - i) default)
def aa6 (n:Int) (l:List Fd):Bool:=ap6 l (aax n l)
def atn (n:Int) (l:List Fd):List AS:=if zq n l 8 = 0 ∧ aa6 n l = true then ab9 n l (a05 (aax n l)) (a05 (aax n l)).length else []
def atp (n:Int) (l:List Fd):Bool:=decide (zq n l 8 = 0) && aa6 n l
def atr (n:Int) (l:List Fd) (p0:List AS) (i:Nat) (ps:List AS):Prop:=ps = ab9 n l p0 i ∧ ps.length ≤ p0.length ∧ ∀ j,j < p0.length - i → p0.getD j default ∈ ps
def aob (n:Int) (l:List Fd):Option Fd:=(abl n l).find? fun f=>!aao l (aax n l) f
def aug (n:Int) (l:List Fd):Int:=if zq n l 8 = 0 then (match aob n l with | some _=>0 | none=>4) else zq n l 8
def aum (n:Int) (l:List Fd):Fd:=if zq n l 8 = 0 then (match aob n l with | some f=>f | none=>⟨0,0⟩) else ⟨0,0⟩
end Go.Hx
end
section
namespace Go.Hx
theorem tl {a s:AS} (h:sub a s) (hne:a ≠ s):bsz a < bsz s:=by
 rcases Nat.lt_or_eq_of_le (a9b h) with h1 | h1
 · exact h1
 · exfalso
   apply hne
   have hs:(bi a).Sublist (bi s):=by
    have:bi a = (bi s).filter fun i=>a.getLsbD i:=by
     unfold bi
     rw [List.filter_filter]
     apply List.filter_congr
     intro i hi
     rw [List.mem_range] at hi
     cases ha:a.getLsbD i with
     | false=>rfl
     | true=>rw [ar.1 h i hi ha];rfl
    rw [this]
    exact List.filter_sublist
   rw [l7,l7] at h1
   have he:=hs.eq_of_length h1
   refine dw h (ar.2 fun i hi hb=>?_)
   have:i ∈ bi s:=iq.2 ⟨hi,hb⟩
   rw [← he] at this
   exact (iq.1 this).2
def spA (l:List Fd) (s:AS):AS:=(a4y l s).lhs ||| (a4y l s).rhs
def spB (l:List Fd) (s:AS):AS:=s &&& ~~~(a4y l s).rhs
theorem l5 {a b:AS}:sub (a &&& b) b:=ar.2 fun i hi h=>by rw [BitVec.getLsbD_and,Bool.and_eq_true] at h;exact h.2
theorem qq {a b:AS}:sub (a &&& b) a:=ar.2 fun i hi h=>by rw [BitVec.getLsbD_and,Bool.and_eq_true] at h;exact h.1
def abd (l:List Fd):Nat → List AS → List AS → List AS
 | 0,_,out=>out
 | n + 1,todo,out =>
  if todo.length = 0 then out
  else if o6 l (todo.getD (todo.length - 1) default) = true then abd l n (todo.take (todo.length - 1) ++ [spA l (todo.getD (todo.length - 1) default),spB l (todo.getD (todo.length - 1) default)]) out
  else abd l n (todo.take (todo.length - 1)) (out ++ [todo.getD (todo.length - 1) default])
def aoe (n:Int) (l:List Fd):List AS:=abd l 6562 [ah n] []
def auh (n:Int) (l:List Fd):List AS:=if zq n l 8 = 0 then a05 (aoe n l) else []
def jx (todo:List AS):Nat:=(todo.map fun s=>3 ^ bsz s).sum
theorem zt (a b:List AS):jx (a ++ b) = jx a + jx b:=by unfold jx;rw [List.map_append,List.sum_append]
theorem a6o:∀ todo:List AS,todo.length ≤ jx todo
 | []=>Nat.zero_le _
 | s :: t=>by
  have h1:=a6o t
  have h2:0 < 3 ^ bsz s:=Nat.pow_pos (by omega)
  have e:jx (s :: t) = 3 ^ bsz s + jx t:=by unfold jx;rw [List.map_cons,List.sum_cons]
  rw [List.length_cons,e]
  omega
theorem a3q {todo:List AS} (h:0 < todo.length):todo = todo.take (todo.length - 1) ++ [todo.getD (todo.length - 1) default]:=by
 have:=b8 (l:=todo) (q:=todo.length - 1) (by omega)
 rw [show todo.length - 1 + 1 = todo.length by omega,List.take_length] at this
 exact this
def aun (n:Int) (l:List Fd) (x:Nat × List AS × List AS):Prop:=abd l x.1 x.2.1 x.2.2 = aoe n l ∧ jx x.2.1 < x.1 ∧ x.2.2.length + x.1 ≤ 6562
theorem acr {k:Nat} (h:k ≤ 32):bsz (ja k) ≤ k:=by
 unfold bsz
 have e:(List.range 32).countP (fun i=>(ja k).getLsbD i) = (List.range 32).countP fun i=>decide (i < k):=by
  apply List.countP_congr
  intro i hi
  rw [List.mem_range] at hi
  rw [n8 k i hi]
 have h2:∀ m,(List.range m).countP (fun i=>decide (i < k)) ≤ k ∧ (List.range m).countP (fun i=>decide (i < k)) ≤ m:=by
  intro m
  induction m with
  | zero=>simp
  | succ m ih =>
   rw [List.range_succ,List.countP_append]
   simp only [List.countP_cons,List.countP_nil]
   by_cases hm:m < k
   · rw [if_pos (decide_eq_true hm)];omega
   · rw [if_neg (by simpa using hm)];omega
 rw [e]
 exact (h2 32).1
theorem aif {n:Int} {m:Nat} (h:n ≤ m) (hm:m ≤ 32):bsz (ah n) ≤ m:=by
 unfold ah
 exact Nat.le_trans (acr (Nat.min_le_right _ _)) (by omega)
theorem aa9 {α:Type} [Inhabited α] {wr wr':Bool} {n m:Nat} {e:TypeId} {c:α → Nat → PV} {l:List α} {x y:α} {f g:Nat → Nat → PV} (hn:n = l.length) (hf:∀ i,i < l.length → CoP (f i 0) (lf c l i 0)) (h0:CoP (g 0 0) (c x 0)) (h1:CoP (g 1 0) (c y 0)) (hm:m = n + 2) (hw:wr' = true → wr = true:=by exact fun h=>h) :
 CoO (.arr wr 1 e m (er n f g)) (.arr wr' 1 e (l ++ [x,y]).length (lf c (l ++ [x,y]))):=by
 subst hn hm
 refine ⟨hw,rfl,rfl,by simp,fun i j hi hj=>?_⟩
 obtain rfl:j = 0:=by omega
 unfold er
 by_cases h:i < l.length
 · rw [if_pos h]
   have:=hf i h
   simp only [lf,List.getD,List.getElem?_append_left h] at this ⊢
   exact this
 · rw [if_neg h]
   rcases (by omega:i = l.length ∨ i = l.length + 1) with rfl | rfl
   · rw [Nat.sub_self]
     simp only [lf,List.getD]
     rw [List.getElem?_append_right (Nat.le_refl _),Nat.sub_self]
     exact h0
   · rw [show l.length + 1 - l.length = 1 by omega]
     simp only [lf,List.getD]
     rw [List.getElem?_append_right (by omega),show l.length + 1 - l.length = 1 by omega]
     exact h1
theorem a7d {α:Type} [Inhabited α] {wr wr':Bool} {k m:Nat} {e:TypeId} {c:α → Nat → PV} {l:List α} (hk:k ≤ l.length) (hm:m = k) (hw:wr' = true → wr = true:=by exact fun h=>h):CoO (.arr wr 1 e m (lf c l)) (.arr wr' 1 e (l.take k).length (lf c (l.take k))):=by
 subst hm
 refine ⟨hw,rfl,rfl,by rw [List.length_take,Nat.min_eq_left hk],fun i j hi hj=>CoP.of_eq ?_⟩
 simp only [lf,List.getD,List.getElem?_take,if_pos hi]
theorem a80 {l:List AS} {k i:Nat} (hi:i < (l.take k).length):lf sC l i 0 = lf sC (l.take k) i 0:=by
 rw [List.length_take] at hi
 simp only [lf,List.getD,List.getElem?_take,if_pos (show i < k by omega)]
end Go.Hx
end
section
namespace Go.Hx
open Go.Proofs
set_option maxRecDepth 100000
def at2:List Fd:=[⟨1,2⟩,⟨2,4⟩]
def ath:List Fd:=[⟨3,4⟩,⟨4,1⟩]
theorem a6u {α:Type} [Inhabited α] {wr wr':Bool} {e:TypeId} {c:α → Nat → PV} {x y:α} {f:Nat → Nat → PV} (h0:CoP (f 0 0) (c x 0)) (h1:CoP (f 1 0) (c y 0)) (hw:wr' = true → wr = true:=by exact fun h=>h):CoO (.arr wr 1 e 2 f) (.arr wr' 1 e 2 (lf c [x,y])) :=
 ⟨hw,rfl,rfl,rfl,fun i j hi hj=>by
  have hi:i < 2:=hi
  have hj:j < 1:=hj
  obtain rfl:j = 0:=by omega
  rcases (by omega:i = 0 ∨ i = 1) with rfl | rfl
  · exact h0
  · exact h1⟩
end Go.Hx
end
section
namespace Go.Hx
open Go.Proofs
def w1 (l:List Fd) (p:AS):Int:=if cu 16 l = 0 ∧ (8:Int) < bsz p then 3 else cu 16 l
section
variable {l:List Fd} {p:AS}
end
section
variable {n:Int} {l:List Fd}
end
end Go.Hx
end
section
namespace Go.Hx
open Go.RowKit Go.ChangeShapes Go.WideShapes Go.ChangeAt
def Rd (P:Program) (t:TypeId) (n:Nat) {α:Type} (c:α → Nat → PV):Prop :=
 ∀ (H:Type) (enc:TypeId × Value → H) (w:World) (sp:Nat → Bool) (held:Bool) (fuel:Nat) (cs:List Value) (x:DataW H × List MemPlace),DataW.trod enc P w 0 sp held fuel t cs = some x →
  cs.length = n ∧ ∃ a:α,∀ j,j < n → ∃ v,cs[j]? = some v ∧ b5 (d3 w) (c a j) v
section
variable {P:Program} {t e:TypeId}
def aut (k:IntKind) (z:Int):Nat → PV:=fun _=>.raw (.int k z)
def atv (b:Bool):Nat → PV:=fun _=>.raw (.bool b)
def atu (s:ByteArray):Nat → PV:=fun _=>.raw (.string s)
def u8P (u:UInt8):Nat → PV:=fun _=>.raw (.int .u8 (u.toNat:Int))
theorem ar4 (ht:P.underlying t = some (.int .u8)):Rd P t 1 u8P:=by
 intro H enc w sp held fuel cs x h
 obtain ⟨n,rfl,_,hw⟩:=DataW.trod_int ht h
 have hx:0 ≤ n ∧ n ≤ 255:=by simpa [Lit.wf,IntKind.min,IntKind.max,IntKind.signed,IntKind.bits] using hw
 refine ⟨rfl,UInt8.ofNat n.toNat,fun j hj=>?_⟩
 obtain rfl:j = 0:=by omega
 refine ⟨_,rfl, ?_,rfl⟩
 have:(UInt8.ofNat n.toNat).toNat = n.toNat:=by
  rw [UInt8.toNat_ofNat']
  omega
 rw [this]
 congr 1
 omega
theorem Rd.co {n:Nat} {α β:Type} {c:α → Nat → PV} {c':β → Nat → PV} (h:Rd P t n c) (f:α → β) (hc:∀ a j,j < n → CoP (c a j) (c' (f a) j)):Rd P t n c':=by
 intro H enc w sp held fuel cs x hx
 obtain ⟨h1,a,h2⟩:=h _ enc w sp held fuel cs x hx
 refine ⟨h1,f a,fun j hj=>?_⟩
 obtain ⟨v,h3,h4⟩:=h2 j hj
 exact ⟨v,h3,hc a j hj _ _ h4⟩
def anp {α:Type} [Inhabited α] (s:Nat) (c:α → Nat → PV) (l:List α):Nat → PV:=fun _=>psl s c l
theorem acl {H:Type} {enc:TypeId × Value → H} {w:World} {sp:Nat → Bool} {held:Bool} {fuel:Nat} {cs:List Value} {x:DataW H × List MemPlace} {fs:Array Field} (ht:P.underlying t = some (.struct fs)) (h:DataW.trod enc P w 0 sp held fuel t cs = some x) :
 cs.length = P.cellsOf t ∧ ∃ n,∀ (i:Nat) (f:Field),fs[i]? = some f → ∃ y,DataW.trod enc P w 0 sp held n f.type ((cs.drop f.offset).take (P.cellsOf f.type)) = some y:=by
 obtain ⟨xs,n,_,_,h1,h2,h3⟩:=DataW.trod_struct ht h
 refine ⟨h1,n,fun i f hf=>?_⟩
 have:=h3 i f hf
 rw [this]
 have hi:i < xs.length:=by rw [h2];exact (Array.getElem?_eq_some_iff.1 hf).1
 exact ⟨_,List.getElem?_eq_getElem hi⟩
theorem a72 {H:Type} {enc:TypeId × Value → H} {w:World} {sp:Nat → Bool} {held:Bool} {n off s:Nat} {ft:TypeId} {cs:List Value} {y:DataW H × List MemPlace} {α:Type} {c:α → Nat → PV} (h:Rd P ft s c) (hy:DataW.trod enc P w 0 sp held n ft ((cs.drop off).take (P.cellsOf ft)) = some y) :
 ∃ a:α,∀ j,j < s → ∃ v,cs[off + j]? = some v ∧ b5 (d3 w) (c a j) v:=by
 obtain ⟨h1,a,h2⟩:=h _ enc w sp held n _ y hy
 refine ⟨a,fun j hj=>?_⟩
 obtain ⟨v,h3,h4⟩:=h2 j hj
 refine ⟨v, ?_,h4⟩
 rw [List.getElem?_take] at h3
 split at h3
 · rwa [List.getElem?_drop] at h3
 · cases h3
end
theorem a4t {W W':World} (hb:Below W.heap.size W W') (may:MemPlace → Prop):W.keptBut W' may:=by
 refine ⟨hb.os,hb.output,fun i hi=>?_⟩
 rw [hb.block i hi]
 cases W.heap[i]? with
 | none=>exact rfl
 | some o=>cases o <;> first | exact ⟨rfl,rfl,rfl,fun _ _=>rfl⟩ | exact .inr ⟨rfl,rfl⟩ | exact rfl
theorem a4v {W W':World} (hb:Below W.heap.size W W') (p:MemPlace) (hp:p.block < W.heap.size):W.sameAt W' p:=by
 cases p with
 | cell b off=>show W'.cell? _ = W.cell? _;unfold World.cell?;rw [hb.block b hp]
 | map b=>exact hb.block b hp
section
variable {H:Type} {enc:TypeId × Value → H} {P:Program}
theorem vc (hl:laidOutB P = true) {W W':World} {sp':Nat → Bool}:∀ {ts:List TypeId} {vs:List Value} {ds:List (DataW H)} {ps:List MemPlace},(∀ t ∈ ts,P.readableRec t = true ∧ t < P.types.size) → DataW.TrodAll enc P W 0 (fun _=>true) true ts vs ds ps →
 (∀ p ∈ ps,W.sameAt W' p) → (∀ p ∈ ps,sp' p.block = true) → DataW.TrodAll enc P W' 0 sp' true ts vs ds ps
 | [],[],[],ps,_,h,_,_=>h
 | t :: ts,v :: vs,d :: ds,ps,ht,⟨p,q,h1,h2,e⟩,hs,hsp=>by
  subst e
  refine ⟨p,q,WideElems.Trod_stays hl (ht t (by simp)).1 (ht t (by simp)).2 h1 (fun z hz=>hs z (by simp [hz])) (fun z hz=>hsp z (by simp [hz])), ?_,rfl⟩
  exact vc hl (fun t ht'=>ht t (by simp [ht'])) h2 (fun z hz=>hs z (by simp [hz])) (fun z hz=>hsp z (by simp [hz]))
 | [],_ :: _,_,_,_,h,_,_=>h.elim
 | [],[],_ :: _,_,_,h,_,_=>h.elim
 | _ :: _,[],_,_,_,h,_,_=>h.elim
 | _ :: _,_ :: _,[],_,_,h,_,_=>h.elim
theorem a5l {f:Func} {s:ChangeSpec} {W W':World} {args:Array Value} {ds:List (DataW H)} {before:List MemPlace} {tb:TypeId} (hl:laidOutB P = true) (hpar:∀ t ∈ f.params.toList,P.readableRec t = true ∧ t < P.types.size)
 (hres:f.resultTypes = #[tb]) (htb:P.underlying tb = some .bool) (hv:s.vars = []) (hfn:s.fn H ds = { results:=[.lit (.bool true)],args:=ds })
 (hW:DataW.Whole enc P f.params.toList s.vars false W args.toList ds [] before) (hb:Below W.heap.size W W'):s.post enc P f false true false false W args (.bool true) W':=by
 have hW':=hW
 have hlt:∀ p ∈ before,p.block < W.heap.size:=fun p hp=>hW.lt p hp
 obtain ⟨p,q,hA,hV,rfl,hfz,hnd⟩:=hW
 rw [hv] at hV
 obtain ⟨_,rfl⟩:=trodVars_none hV
 have hfn':s.fn H (ds ++ []) = { results:=[.lit (.bool true)],args:=ds }:=by rw [List.append_nil];exact hfn
 have hargs:∀ sp:Nat → Bool,(∀ z ∈ p ++ [],sp z.block = true) → DataW.TrodAll enc P W' 0 sp true f.params.toList args.toList (s.fn H (ds ++ [])).args p:=fun sp hsp=>by
  rw [hfn']
  exact vc hl hpar hA (fun z hz=>a4v hb z (hlt z (by simpa using hz))) (fun z hz=>hsp z (by simpa using hz))
 have hrs:∀ (b:Nat) (sp:Nat → Bool) (hd:Bool),DataW.TrodAll enc P W' b sp hd f.resultTypes.toList ((Value.bool true).resultList f.resultTypes.size) (s.fn H (ds ++ [])).results []:=fun b sp hd=>by
  rw [hfn',hres]
  exact trodAll_cons_mk (shut_bool htb _) trodAll_mk0
 have hok:∀ (j:Nat) (t:TypeId) (r:Value),f.resultTypes[j]? = some t → ((Value.bool true).resultList f.resultTypes.size)[j]? = some r → Value.okWide P W' .any 0 t r:=ok_one hres rfl (okWide_bool_mk htb _)
 have hvars:∀ sp:Nat → Bool,(∀ z ∈ p ++ [],sp z.block = true) → DataW.TrodVars enc P W' sp s.vars (s.fn H (ds ++ [])).vars []:=fun sp _=>by
  rw [hfn',hv];exact rfl
 have hold:∀ z ∈ p ++ [],(fun b=>decide (b < W.heap.size)) z.block = true:=fun z hz=>by simpa using hlt z hz
 refine ⟨ds,[],p ++ [],[],p,[],hW',hrs _ _ _,hargs _ hold,hvars _ hold,World.keptBut_mono (fun z hz=>⟨hz, ?_⟩) (a4t hb (· ∈ p ++ [])),fun _=>?_⟩
 · exact Or.inr (by simpa using hz)
 · refine ⟨hok,_,_,([] ++ p) ++ [],⟨[] ++ p,[],trodAll_append (hargs _ (fun _ _=>rfl)) (hrs _ _ _),hvars _ (fun _ _=>rfl),rfl, ?_, ?_⟩, ?_⟩
   · intro b off hp
     have hp':MemPlace.cell b off ∈ p ++ []:=by simpa using hp
     have:=hfz b off hp'
     unfold World.frozen? at this ⊢
     rw [hb.block b (hlt _ hp')]
     exact this
   · intro ha;cases ha
   · intro z hz _
     simpa using hz
end
theorem aay {P:Program} {W:World} {r:Reach} {b:Nat} {t:TypeId} {k:IntKind} {v:Value} (ht:P.underlying t = some (.int k)) (h:Value.okWide P W r b t v):v.cells.toList = [v]:=by
 unfold Value.okWide at h
 rw [ht] at h
 unfold Cell.okWide at h
 rw [ht] at h
 cases v <;> first | rfl | (simp [Cell.ok,ht] at h)
theorem a3s {P:Program} {f:FuncId} {args:List PC} {us:List Value} {W:World} {R:Ending → World → Prop} (ht:lq (d3 W)) (h:ao P f args (ay [.one (.raw (.bool true))])) (hr:bq (d3 W) args us) (hR:∀ W',Below W.heap.size W W' → R (.returned (.bool true)) W'):Calls P f us.toArray W R:=by
 refine (h W (d3 W) us ht (fun _ _ hh=>hh) hr).mono ?_
 rintro e w' ⟨v,imm',rfl,hv,_,_,hb⟩
 obtain ⟨rfl,_⟩:=hv
 exact hR w' hb
end Go.Hx
end
