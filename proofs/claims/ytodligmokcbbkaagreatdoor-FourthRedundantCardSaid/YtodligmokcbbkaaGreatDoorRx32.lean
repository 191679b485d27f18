/- A part of the proof: Hx29 Hx30 Hx32 Hx33. -/
import Derived.Test.YtodligmokcbbkaaGreatDoorRx22
import Derived.Test.YtodligmokcbbkaaGreatDoorRx31
set_option linter.all false
section
namespace Go.Hx
open Go.RowKit
def ax8 (f:MK → Option PV) (m:MK):MK → Option PV:=fun k=>bif k.same m then none else f k
section
variable {P:Program} {E:Env} {nt:Nat} {ops:Array Oper} {st:HSt}
theorem as3 {k:Nat} {o:Oper} {L:List Nat} {Q:HSt → Prop} (hi:ops[k]? = some o) (hg:o.guard = none) (hdn:c4 nt o.dst = true) (hnd:∀ c,o.op ≠ .defer c)
 (h:∀ w0 a w c,al w0 nt c st.den a w → ∃ y w' o' c',c'.old = c.old ∧ (execOp a.eval o).run P w = .ok y w' ∧ (y = .skip ∨ ∃ v,y = .value v) ∧ al w0 nt c' (HSt.den ⟨st.t,o'⟩) a w' ∧ RN P nt ops L ⟨(match o.dst with | some d=>[(d,none)] | none=>[]) ++ st.t,o'⟩ Q):RN P nt ops (k :: L) st Q:=fun ro n w0 m0 a w QQ ⟨c,hold,hr⟩ hQ=>by
 obtain ⟨y,w',o',c',h1,h2,hy,h3,h5⟩:=h w0 a w c hr
 rw [wpOpsIn_cons]
 unfold wpOpIn
 simp only [hi]
 have hw:Region.wanted o (yielded ops a.tmps) = true:=by unfold Region.wanted;rw [hg]
 rw [if_pos hw]
 refine ul hnd ?_
 unfold Oper.wp
 rw [h2]
 rcases hy with rfl | ⟨v,rfl⟩
 · refine h5 ro n w0 m0 _ w' QQ ⟨c',h1.trans hold, ?_⟩ hQ
   cases hdd:o.dst with
   | none=>exact h3
   | some d =>
    have e:HSt.den ⟨[(d,none)] ++ st.t,o'⟩ = (HSt.den ⟨st.t,o'⟩).putD (some d) none:=by
     unfold HSt.den S.putD S.put
     simp [bq]
    rw [e]
    exact h3.putD (some d) (fun k hk=>by cases hk;rw [hdd] at hdn;exact of_decide_eq_true hdn) none undef (fun y hy=>by cases hy)
 · refine h5 ro n w0 m0 _ w' QQ ⟨c',h1.trans hold, ?_⟩ hQ
   cases hdd:o.dst with
   | none=>exact h3
   | some d =>
    have e:HSt.den ⟨[(d,none)] ++ st.t,o'⟩ = (HSt.den ⟨st.t,o'⟩).putD (some d) none:=by
     unfold HSt.den S.putD S.put
     simp [bq]
    rw [e]
    exact h3.putD (some d) (fun k hk=>by cases hk;rw [hdd] at hdn;exact of_decide_eq_true hdn) none v (fun y hy=>by cases hy)
end
section
variable {P:Program} {E:Env} {nt:Nat} {ops:Array Oper} {st:HSt} {k:Nat} {o:Oper} {L:List Nat} {Q:HSt → Prop}
end
end Go.Hx
end
section
namespace Go.Hx
open Go.RowKit
section
variable {w0:World} {nt:Nat} {c:Ctx} {s:S} {a:Act} {w:World}
theorem al.redo (h:al w0 nt c s a w) (D:Nat → Prop) (own':Nat → Value) (blk':Nat → Nat → Prop) (rows':Nat → Nat → Value) (o':au)
 (hD:∀ q,D q → q < 1000) (hs:∀ q,¬ D q → o' q = s.o q ∧ own' q = c.own q ∧ blk' q = c.blk q ∧ rows' q = c.rows q)
 (he:∀ q,D q → ((∀ d x,s.t d = some x → ¬ x.men q) ∧ ∀ id ob,¬ D id → s.o id = some ob → ¬ ob.men q) ∨ Evo c s.o { old:=c.old,imm:=c.imm,tab:=c.tab,own:=own',blk:=blk',rows:=rows' } o' q)
 (hob:∀ q ob,D q → o' q = some ob → d9 0 { old:=c.old,imm:=c.imm,tab:=c.tab,own:=own',blk:=blk',rows:=rows' } o' w q ob)
 (hfrom:∀ q ob b,D q → o' q = some ob → blk' q b → ∃ q0 ob0,D q0 ∧ s.o q0 = some ob0 ∧ c.blk q0 b)
 (hin:∀ q q' ob ob' b,D q → D q' → o' q = some ob → o' q' = some ob' → blk' q b → blk' q' b → q = q') :
 al w0 nt { old:=c.old,imm:=c.imm,tab:=c.tab,own:=own',blk:=blk',rows:=rows' } ⟨s.t,o'⟩ a w:=by
 have hevo:∀ q,¬ D q → Evo c s.o { old:=c.old,imm:=c.imm,tab:=c.tab,own:=own',blk:=blk',rows:=rows' } o' q:=fun q hq=>by
  obtain ⟨h1,h2,h3,h4⟩:=hs q hq
  exact Evo.of_same h1 h2 h4
 refine ⟨h.defers,h.size,h.below,fun d x hx=>?_,fun q ob hq=>?_,fun q q' ob ob' b hq hq' hb hb'=>?_,h.imm,fun q ob b hq hb=>?_,h.was,h.frm,fun q ob b hq hb=>?_,fun q hq=>?_⟩
 · refine (h.tmps d x hx).evo (Imm.le.refl c.imm) fun q hm=>?_
   by_cases hd:D q
   · rcases he q hd with ⟨h1,_⟩ | h1
     · exact absurd hm (h1 d x hx)
     · exact h1
   · exact hevo q hd
 · by_cases hd:D q
   · exact hob q ob hd hq
   · obtain ⟨h1,h2,h3,h4⟩:=hs q hd
     have hq:o' q = some ob:=hq
     rw [h1] at hq
     refine (h.objs q ob hq).keep (Imm.le.refl c.imm) h2 h3 (fun j hj=>?_) (fun b hb=>rfl) h4
     by_cases hdj:D j
     · rcases he j hdj with ⟨_,h5⟩ | h5
       · exact absurd hj (h5 q ob hd hq)
       · exact h5
     · exact hevo j hdj
 · have hq:o' q = some ob:=hq
   have hq':o' q' = some ob':=hq'
   have cross:∀ q q' ob ob',D q → ¬ D q' → o' q = some ob → o' q' = some ob' → blk' q b → blk' q' b → False:=fun q q' ob ob' hd hd' hq hq' hb hb'=>by
    obtain ⟨q0,ob0,h1,h2,h3⟩:=hfrom q ob b hd hq hb
    obtain ⟨h4,_,h5,_⟩:=hs q' hd'
    rw [h4] at hq'
    rw [h5] at hb'
    have:=h.inj q0 q' ob0 ob' b h2 hq' h3 hb'
    exact hd' (this ▸ h1)
   by_cases hd:D q
   · by_cases hd':D q'
     · exact hin q q' ob ob' b hd hd' hq hq' hb hb'
     · exact (cross q q' ob ob' hd hd' hq hq' hb hb').elim
   · by_cases hd':D q'
     · exact (cross q' q ob' ob hd' hd hq' hq hb' hb).elim
     · obtain ⟨h1,_,h3,_⟩:=hs q hd
       obtain ⟨h1',_,h3',_⟩:=hs q' hd'
       rw [h1] at hq;rw [h1'] at hq'
       simp only [h3] at hb;simp only [h3'] at hb'
       exact h.inj q q' ob ob' b hq hq' hb hb'
 · have hq:o' q = some ob:=hq
   by_cases hd:D q
   · obtain ⟨q0,ob0,_,h2,h3⟩:=hfrom q ob b hd hq hb
     exact h.sep q0 ob0 b h2 h3
   · obtain ⟨h1,_,h3,_⟩:=hs q hd
     rw [h1] at hq
     simp only [h3] at hb
     exact h.sep q ob b hq hb
 · have hq:o' q = some ob:=hq
   by_cases hd:D q
   · obtain ⟨q0,ob0,_,h2,h3⟩:=hfrom q ob b hd hq hb
     exact h.fsep q0 ob0 b h2 h3
   · obtain ⟨h1,_,h3,_⟩:=hs q hd
     rw [h1] at hq
     simp only [h3] at hb
     exact h.fsep q ob b hq hb
 · have:¬ D q:=fun hd=>by have:=hD q hd;omega
   exact (h.fixed q hq).trans (hevo q this)
structure apn (et:TypeId) (es n r:Nat) (m:Nat → Nat) (g:Nat → Nat → Nat → PV) (hd:Nat → Value) (B:Nat → Option Obj):Prop where
 pos:0 < es
 len:n ≤ maxLen
 row:∀ i,i < n → i ≠ r → (m i = 0 ∧ ∃ a,hd i = .slice a 0 0) ∨ ∃ b cap cur,hd i = .slice (some ⟨b,0,none⟩) (m i) cap ∧ br (hd i) = some b ∧ B b = some (.cells cur et (0,0)) ∧ m i ≤ cap ∧ cap ≤ maxLen ∧ cur.size = cap * es ∧
  ∀ q j,q < m i → j < es → ∃ x,(cur.toList.take (m i * es))[q * es + j]? = some x ∧ g i q j = .raw x ∧ x.oneCell' = true
 apart:∀ i i' b,i < n → i ≠ r → i' < n → i' ≠ r → br (hd i) = some b → br (hd i') = some b → i' = i
 blk:∀ b,B b ≠ none → ∃ i,i < n ∧ i ≠ r ∧ br (hd i) = some b
def hdF (hd:Nat → Value) (id' r k:Nat):Nat → Nat → HV:=fun i _=>bif Nat.beq i r then .ref id' k else .p (.raw (hd i))
theorem aib (hd:Nat → Value) (id' r k j:Nat):hdF hd id' r k r j = .ref id' k:=by simp [hdF]
theorem agd {hd:Nat → Value} {id' r k i j:Nat} (h:i ≠ r):hdF hd id' r k i j = .p (.raw (hd i)):=by
 have:Nat.beq i r = false:=by rw [Bool.eq_false_iff];exact fun hb=>h (Nat.eq_of_beq_eq_true hb)
 simp [hdF,this]
theorem ajs {imm:Imm} {s':Nat} {f:Nat → Nat → PV} {a:Option Addr}:b4 imm (.sl 0 s' true f) (.slice a 0 0):=⟨a,0,rfl,Nat.le_refl _,Nat.zero_le _,fun _=>rfl,fun h=>absurd h (Nat.lt_irrefl 0)⟩
theorem al.split (h:al w0 nt c s a w) {id id' idb r n:Nat} {e et:TypeId} {es:Nat} {m:Nat → Nat} {g:Nat → Nat → Nat → PV} (ho:s.o id = some (.nest e et es n m g none)) (hid:id < 1000) (hr:r < n) (hraw:∀ i q j,i < n → q < m i → j < es → ∃ v,g i q j = .raw v)
 (hm':NM s id') (hn':s.o id' = none) (hmb:NM s idb) (hnb:s.o idb = none) (hne:id' ≠ idb) :
 ∃ hd B c',apn et es n r m g hd B ∧ c'.old = c.old ∧ al w0 nt c' ⟨s.t,fun q=>if q = idb then some (.bun B) else if q = id' then some (.arr true es et (m r) (g r)) else if q = id then some (.arrh 1 e n [id'] (hdF hd id' r (m r))) else s.o q⟩ a w:=by
 classical
 have hnk:jb 0 c s.o w id e et es n m g none:=h.objs id _ ho
 have hid':id' ≠ id:=by rintro rfl;rw [ho] at hn';cases hn'
 have hidb:idb ≠ id:=by rintro rfl;rw [ho] at hnb;cases hnb
 let hd:Nat → Value:=fun i=>c.rows id i
 let B:Nat → Option Obj:=fun b=>if ∃ i,i < n ∧ i ≠ r ∧ br (c.rows id i) = some b then w.heap[b]? else none
 have hB:∀ i b,i < n → i ≠ r → br (c.rows id i) = some b → B b = w.heap[b]?:=fun i b h1 h2 h3=>if_pos ⟨i,h1,h2,h3⟩
 have hlen:=hnk.len
 simp only [kz] at hlen
 have hbf:apn et es n r m g hd B:=by
  refine ⟨hnk.pos,by omega,fun i hi hir=>?_,fun i i' b h1 h2 h3 h4 h5 h6=>(hnk.apart i b h1 h5).2 i' h3 h6,fun b hb=>?_⟩
  · rcases hnk.row i hi with r0 | ⟨ys,r1,r2⟩
    · exact .inl r0
    · rcases fk r1 with r0 | ⟨b,cap,rv,rb⟩
      · exact .inl r0
      · rcases r1.2 with ⟨hv,_⟩ | ⟨b',cap',cur,hv,_,hh,q1,q2,q3,q4⟩
        · rw [rv] at hv;cases hv
        · rw [rv] at hv
          simp only [Value.slice.injEq,Option.some.injEq,Addr.mk.injEq,and_true,true_and] at hv
          obtain ⟨rfl,rfl⟩:=hv
          refine .inr ⟨b,cap,cur,rv,rb,(hB i b hi hir rb).trans hh,q1,q2,q3,fun q j hq hj=>?_⟩
          obtain ⟨x,hx,hxr⟩:=r2 q j hq hj
          obtain ⟨v,hv⟩:=hraw i q j hi hq hj
          rw [hv] at hxr
          obtain ⟨e1,e2⟩:=hxr
          subst e1
          exact ⟨x,by rw [q4];exact hx,hv,e2⟩
  · by_cases hex:∃ i,i < n ∧ i ≠ r ∧ br (c.rows id i) = some b
    · exact hex
    · exact absurd (if_neg hex) hb
 obtain ⟨xt,t1,t2,_⟩:∃ xs,w.ownsRow 0 e 1 (c.own id) (n + kz none) xs ∧ (∀ i,i < n → xs[i]? = some (c.rows id i)) ∧ ∀ p,(none:Option (Nat × Nat)) = some p → ∃ x,xs[n]? = some x ∧ b5 c s.o (.ref p.1 p.2) x:=by
  rcases hnk.top with ⟨h1,_⟩ | h1
  · simp only [kz] at h1;omega
  · exact h1
 have t1:w.ownsRow 0 e 1 (c.own id) n xt:=t1
 obtain ⟨bt,capt,ht0,htc⟩:∃ b cap,c.own id = .slice (some ⟨b,0,none⟩) n cap ∧ br (c.own id) = some b:=by
  rcases fk t1 with ⟨h1,_⟩ | h1
  · omega
  · exact h1
 have hbs:∀ b,f0 (c.own id) b ↔ b = bt:=fun b=>by rw [ht0];simp [f0,ce,eq_comm]
 have hrow1:∀ i,i < n → (c.rows id i).oneCell' = true:=fun i hi=>by
  rcases hnk.row i hi with ⟨_,x,h1⟩ | ⟨ys,h1,_⟩
  · rw [h1];rfl
  · rcases h1.2 with ⟨h1,_⟩ | ⟨_,_,_,h1,_⟩ <;> (rw [h1];rfl)
 let blr:Nat → Prop:=fun b=>br (c.rows id r) = some b
 let own':Nat → Value:=fun q=>if q = id' then c.rows id r else c.own q
 let blk':Nat → Nat → Prop:=fun q=>if q = idb then (fun b=>B b ≠ none) else if q = id' then blr else if q = id then f0 (c.own id) else c.blk q
 let o':au:=fun q=>if q = idb then some (.bun B) else if q = id' then some (.arr true es et (m r) (g r)) else if q = id then some (.arrh 1 e n [id'] (hdF hd id' r (m r))) else s.o q
 have ob1:o' idb = some (.bun B):=if_pos rfl
 have ob2:o' id' = some (.arr true es et (m r) (g r)):=by show (if id' = idb then _ else if id' = id' then _ else _) = _;rw [if_neg hne,if_pos rfl]
 have ob3:o' id = some (.arrh 1 e n [id'] (hdF hd id' r (m r))):=by show (if id = idb then _ else if id = id' then _ else if id = id then _ else _) = _;rw [if_neg (Ne.symm hidb),if_neg (Ne.symm hid'),if_pos rfl]
 have bk1:blk' idb = fun b=>B b ≠ none:=if_pos rfl
 have bk2:blk' id' = blr:=by show (if id' = idb then _ else if id' = id' then _ else _) = _;rw [if_neg hne,if_pos rfl]
 have bk3:blk' id = f0 (c.own id):=by show (if id = idb then _ else if id = id' then _ else if id = id then _ else _) = _;rw [if_neg (Ne.symm hidb),if_neg (Ne.symm hid'),if_pos rfl]
 have ow2:own' id' = c.rows id r:=if_pos rfl
 have ow3:own' id = c.own id:=if_neg (Ne.symm hid')
 have hDc:∀ q,(q = id ∨ q = id' ∨ q = idb) → ∀ ob,o' q = some ob → ∀ b,blk' q b → c.blk id b:=fun q hq ob hob b hb=>by
  rcases hq with rfl | rfl | rfl
  · rw [bk3] at hb
    exact (hnk.blks b).2 (.inl (by rw [(hbs b).1 hb];exact htc))
  · rw [bk2] at hb
    exact (hnk.blks b).2 (.inr ⟨r,hr,hb⟩)
  · rw [bk1] at hb
    obtain ⟨i,h1,h2,h3⟩:=hbf.blk b hb
    exact (hnk.blks b).2 (.inr ⟨i,h1,h3⟩)
 refine ⟨hd,B,{ old:=c.old,imm:=c.imm,tab:=c.tab,own:=own',blk:=blk',rows:=c.rows },hbf,rfl,h.redo (fun q=>q = id ∨ q = id' ∨ q = idb) own' blk' c.rows o' ?_ ?_ ?_ ?_ ?_ ?_⟩
 · rintro q (rfl | rfl | rfl)
   · exact hid
   · exact hm'.2.2
   · exact hmb.2.2
 · intro q hq
   have h1:q ≠ id:=fun e=>hq (.inl e)
   have h2:q ≠ id':=fun e=>hq (.inr (.inl e))
   have h3:q ≠ idb:=fun e=>hq (.inr (.inr e))
   refine ⟨?_,if_neg h2, ?_,rfl⟩
   · show (if q = idb then _ else if q = id' then _ else if q = id then _ else _) = _;rw [if_neg h3,if_neg h2,if_neg h1]
   · show (if q = idb then _ else if q = id' then _ else if q = id then _ else _) = _;rw [if_neg h3,if_neg h2,if_neg h1]
 · rintro q (rfl | rfl | rfl)
   · exact .inr (.inr (.inr ⟨_,_,1,e,n,n,ho,rfl,ob3,rfl,Nat.le_refl _,fun _=>ow3,fun _ _ _ _ _ _ _ hb=>by cases hb⟩))
   · exact .inl ⟨hm'.1,fun id0 ob _ h0=>hm'.2.1 id0 ob h0⟩
   · exact .inl ⟨hmb.1,fun id0 ob _ h0=>hmb.2.1 id0 ob h0⟩
 · rintro q ob (rfl | rfl | rfl) hq
   · rw [ob3] at hq
     cases hq
     refine ⟨Nat.one_pos,by omega,fun i j k hi hj hk=>?_, .inl ⟨by show blk' q = f0 (own' q);rw [bk3,ow3],xt,by show w.ownsRow 0 e 1 (own' q) n xt;rw [ow3];exact t1,fun i j hi hj=>?_⟩⟩
     · by_cases hir:i = r
       · subst hir;rw [aib] at hk;simp only [HV.men] at hk;simp [hk]
       · rw [agd hir] at hk;exact hk.elim
     · obtain rfl:j = 0:=by omega
       refine ⟨c.rows q i,by rw [Nat.mul_one,Nat.add_zero];exact t2 i hi, ?_⟩
       by_cases hir:i = r
       · subst hir
         rw [aib]
         refine ⟨hrow1 i hi,fun l hl=>?_,fun ob0 s0 e0 n0 ho0 hd0=>?_⟩
         · rw [ob2] at hl;cases hl
         · rw [ob2] at ho0
           cases ho0
           simp only [ah.dim,Option.some.injEq,Prod.mk.injEq] at hd0
           obtain ⟨rfl,rfl,rfl⟩:=hd0
           exact ⟨Nat.le_refl _,fun _=>ow2.symm⟩
       · rw [agd hir]
         exact ⟨rfl,hrow1 i hi⟩
   · rw [ob2] at hq
     cases hq
     refine ⟨hnk.pos,hnk.lens r hr, ?_⟩
     have hemp:(m r = 0 ∧ ∃ x,c.rows id r = .slice x 0 0) → (true = false ∨ m r = 0) ∧ blk' q = noB ∧ b4 c.imm (.sl (m r) es true (g r)) (own' q):=fun ⟨h1,x,h2⟩=>by
      refine ⟨.inr h1, ?_, ?_⟩
      · rw [bk2]
        funext b
        show (br (c.rows id r) = some b) = False
        rw [h2]
        cases x <;> simp [br]
      · rw [ow2,h2,h1];exact ajs
     rcases hnk.row r hr with r0 | ⟨ys,r1,r2⟩
     · exact .inr (hemp r0)
     · rcases fk r1 with r0 | ⟨b,cap,rv,rb⟩
       · exact .inr (hemp r0)
       · have hb2:blk' q = f0 (own' q):=by
          rw [bk2]
          funext b'
          show (br (c.rows id r) = some b') = (ce (own' q) = some b')
          rw [ow2,rb,rv]
          rfl
         have ho2:w.ownsRow 0 et es (own' q) (m r) ys:=by rw [ow2];exact r1
         exact .inl ⟨hb2,ys,ho2,r2⟩
   · rw [ob1] at hq
     cases hq
     refine ⟨fun b hb=>by have hb:blk' q b:=hb;rw [bk1] at hb;exact hb,fun b x hx=>?_⟩
     have hne2:B b ≠ none:=fun e=>by rw [e] at hx;cases hx
     obtain ⟨i,h1,h2,h3⟩:=hbf.blk b hne2
     have hc:c.blk id b:=(hnk.blks b).2 (.inr ⟨i,h1,h3⟩)
     rw [hB i b h1 h2 h3] at hx
     obtain ⟨y,hy,hyd⟩:=(h.objs id _ ho).data hc
     rw [hx] at hy
     cases hy
     exact ⟨by show blk' q b;rw [bk1];exact hne2,Nat.zero_le _,hx,hyd⟩
 · intro q ob b hq hob hb
   exact ⟨id,_, .inl rfl,ho,hDc q hq ob hob b hb⟩
 · have x12:∀ b,blk' id b → blk' id' b → False:=fun b h1 h2=>by
    rw [bk3] at h1;rw [bk2] at h2
    exact (hnk.apart r b hr h2).1 (by rw [(hbs b).1 h1];exact htc)
   have x13:∀ b,blk' id b → blk' idb b → False:=fun b h1 h2=>by
    rw [bk3] at h1;rw [bk1] at h2
    obtain ⟨i,q1,q2,q3⟩:=hbf.blk b h2
    exact (hnk.apart i b q1 q3).1 (by rw [(hbs b).1 h1];exact htc)
   have x23:∀ b,blk' id' b → blk' idb b → False:=fun b h1 h2=>by
    rw [bk2] at h1;rw [bk1] at h2
    obtain ⟨i,q1,q2,q3⟩:=hbf.blk b h2
    exact q2 ((hnk.apart r b hr h1).2 i q1 q3)
   rintro q q' ob ob' b (rfl | rfl | rfl) (rfl | rfl | rfl) _ _ hb hb'
   · rfl
   · exact (x12 b hb hb').elim
   · exact (x13 b hb hb').elim
   · exact (x12 b hb' hb).elim
   · rfl
   · exact (x23 b hb hb').elim
   · exact (x13 b hb' hb).elim
   · exact (x23 b hb' hb).elim
   · rfl
theorem al.renN (h:al w0 nt c s a w) {id id2 n:Nat} {e et:TypeId} {es:Nat} {m:Nat → Nat} {g:Nat → Nat → Nat → PV} (ho:s.o id = some (.nest e et es n m g none)) (hid:id < 1000) (hm2:NM s id2) (hn2:s.o id2 = none) :
 ∃ c',c'.old = c.old ∧ c'.own id2 = c.own id ∧ al w0 nt c' ⟨s.t,fun q=>if q = id2 then some (.nest e et es n m g none) else if q = id then none else s.o q⟩ a w:=by
 have y1:id2 ≠ id:=by rintro rfl;rw [ho] at hn2;cases hn2
 have hnk:jb 0 c s.o w id e et es n m g none:=h.objs id _ ho
 let own':Nat → Value:=fun q=>if q = id2 then c.own id else c.own q
 let blk':Nat → Nat → Prop:=fun q=>if q = id2 then c.blk id else c.blk q
 let rows':Nat → Nat → Value:=fun q=>if q = id2 then c.rows id else c.rows q
 let o':au:=fun q=>if q = id2 then some (.nest e et es n m g none) else if q = id then none else s.o q
 have o2:o' id2 = some (.nest e et es n m g none):=if_pos rfl
 have o1:o' id = none:=by
  show (if id = id2 then _ else if id = id then none else s.o id) = none
  rw [if_neg (Ne.symm y1),if_pos rfl]
 have w2:own' id2 = c.own id:=if_pos rfl
 have k2:blk' id2 = c.blk id:=if_pos rfl
 have s2:rows' id2 = c.rows id:=if_pos rfl
 refine ⟨{ old:=c.old,imm:=c.imm,tab:=c.tab,own:=own',blk:=blk',rows:=rows' },rfl,w2,h.redo (fun q=>q = id2 ∨ q = id) own' blk' rows' o' ?_ ?_ ?_ ?_ ?_ ?_⟩
 · rintro q (rfl | rfl)
   · exact hm2.2.2
   · exact hid
 · intro q hq
   have z1:q ≠ id2:=fun e=>hq (.inl e)
   refine ⟨?_,if_neg z1,if_neg z1,if_neg z1⟩
   show (if q = id2 then _ else if q = id then none else s.o q) = _
   rw [if_neg z1,if_neg (fun e=>hq (.inr e))]
 · rintro q (rfl | rfl)
   · exact .inl ⟨hm2.1,fun id0 ob _ h0=>hm2.2.1 id0 ob h0⟩
   · exact .inr (.inl o1)
 · rintro q ob (rfl | rfl) hob'
   · rw [o2] at hob'
     cases hob'
     obtain ⟨p1,p2,p3,p4,p5,p6,p7⟩:=hnk
     have z4:∀ b,blk' q b ↔ (br (own' q) = some b ∨ ∃ i,i < n ∧ br (rows' q i) = some b):=by rw [k2,w2,s2];exact p4
     have z5:∀ i b,i < n → br (rows' q i) = some b → br (own' q) ≠ some b ∧ ∀ i',i' < n → br (rows' q i') = some b → i' = i:=by rw [w2,s2];exact p5
     have z6:∀ i,i < n → (m i = 0 ∧ ∃ a,rows' q i = .slice a 0 0) ∨ ∃ ys,w.ownsRow 0 et es (rows' q i) (m i) ys ∧ ∀ r j,r < m i → j < es → ∃ x,ys[r * es + j]? = some x ∧ b4 c.imm (g i r j) x:=by rw [s2];exact p6
     have z7:(n + kz none = 0 ∧ ∃ a,own' q = .slice a 0 0) ∨ ∃ xs,w.ownsRow 0 e 1 (own' q) (n + kz none) xs ∧ ∀ i,i < n → xs[i]? = some (rows' q i):=by
      rw [w2,s2]
      exact p7.imp (fun z=>z) fun ⟨xs,h1,h2,_⟩=>⟨xs,h1,h2⟩
     exact ⟨p1,p2,p3,z4,z5,z6,z7.imp (fun z=>z) fun ⟨xs,h1,h2⟩=>⟨xs,h1,h2,fun p hp=>by cases hp⟩⟩
   · rw [o1] at hob';cases hob'
 · rintro q ob b (rfl | rfl) hob' hb
   · rw [k2] at hb
     exact ⟨id,_, .inr rfl,ho,hb⟩
   · rw [o1] at hob';cases hob'
 · rintro q q' ob ob' b (rfl | rfl) (rfl | rfl) h7 h8 _ _
   · rfl
   · rw [o1] at h8;cases h8
   · rw [o1] at h7;cases h7
   · rfl
end
section
variable {ro:Option Nat} {P:Program} {nt:Nat} {st:HSt} {Q:Exit → HSt → Prop} {co:Code}
theorem a94 {t:List (Nat × Option HR)} {l:List (Nat × Option ah)} {o':au} (h:∀ q,bn l q = o' q):HSt.den ⟨t,l⟩ = ⟨(HSt.den ⟨t,l⟩).t,o'⟩:=by
 unfold HSt.den
 congr 1
 exact funext h
end
end Go.Hx
end
section
namespace Go.Hx
open Go.RowKit
def d6 (B:Nat → Option Obj) (b:Nat) (x:Option Obj):Nat → Option Obj:=fun q=>if q = b then x else B q
theorem ge {B:Nat → Option Obj} {b:Nat} {x:Option Obj}:d6 B b x b = x:=if_pos rfl
theorem c7 {B:Nat → Option Obj} {b q:Nat} {x:Option Obj} (h:q ≠ b):d6 B b x q = B q:=if_neg h
def mt (o:au) (x y:HV):Prop:=x = y ∨ ∃ id d v b ob,o id = some (.ex d v b ob) ∧ v.oneCell' = true ∧ ((x = .ref id 0 ∧ y = .p (.raw v)) ∨ (x = .p (.raw v) ∧ y = .ref id 0))
def a3a (o:au):List HV → List HV → Prop
 | [],[]=>True
 | x :: xs,y :: ys=>mt o x y ∧ a3a o xs ys
 | _,_=>False
def awc (o:au):HC → HC → Prop
 | .one x, .one y=>mt o x y
 | .agg l, .agg m=>a3a o l m
 | _,_=>False
def aqa (o:au):HR → HR → Prop
 | .v x, .v y=>awc o x y
 | _,_=>False
theorem mt.to {o:au} {id d:Nat} {v:Value} {b:Nat} {ob:Obj} (h:o id = some (.ex d v b ob)) (h1:v.oneCell' = true):mt o (.ref id 0) (.p (.raw v)):=.inr ⟨id,d,v,b,ob,h,h1, .inl ⟨rfl,rfl⟩⟩
theorem mt.from {o:au} {id d:Nat} {v:Value} {b:Nat} {ob:Obj} (h:o id = some (.ex d v b ob)) (h1:v.oneCell' = true):mt o (.p (.raw v)) (.ref id 0):=.inr ⟨id,d,v,b,ob,h,h1, .inr ⟨rfl,rfl⟩⟩
section
variable {w0:World} {nt:Nat} {c:Ctx} {s:S} {a:Act} {w:World}
theorem mt.rep (h:al w0 nt c s a w) {x y:HV} {u:Value} (hs:mt s.o x y) (hr:b5 c s.o x u):b5 c s.o y u:=by
 rcases hs with rfl | ⟨id,d,v,b,ob,ho,h1,⟨rfl,rfl⟩ | ⟨rfl,rfl⟩⟩
 · exact hr
 · have h2:=(h.objs id _ ho).1
   obtain ⟨h3,_,h4⟩:=hr
   have h5:=(h4 _ _ _ _ ho rfl).2 rfl
   exact ⟨h5.trans h2,h1⟩
 · have h2:=(h.objs id _ ho).1
   obtain ⟨h3,_⟩:=hr
   refine ⟨by rw [h3];exact h1,fun l hl=>(by rw [ho] at hl;cases hl),fun ob2 s2 e2 n2 ho2 hd2=>?_⟩
   rw [ho] at ho2
   cases ho2
   simp only [ah.dim,Option.some.injEq,Prod.mk.injEq] at hd2
   obtain ⟨rfl,rfl,rfl⟩:=hd2
   exact ⟨Nat.le_refl _,fun _=>h3.trans h2.symm⟩
theorem a3a.rep (h:al w0 nt c s a w):∀ {x y:List HV} {u:List Value},a3a s.o x y → ay c s.o x u → ay c s.o y u
 | [],[],_,_,hr=>hr
 | _ :: _,_ :: _,_ :: _,hs,hr=>⟨hs.1.rep h hr.1,a3a.rep h hs.2 hr.2⟩
 | [],_ :: _,_,hs,_=>hs.elim
 | _ :: _,[],_,hs,_=>hs.elim
 | _ :: _,_ :: _,[],_,hr=>hr.elim
theorem aqa.rep (h:al w0 nt c s a w) {x y:HR} {u:Value} (hs:aqa s.o x y) (hr:aq c s.o x u):aq c s.o y u:=by
 match x,y,hs with
 | .v (.one x), .v (.one y),hs=>exact mt.rep h hs hr
 | .v (.agg l), .v (.agg m),hs =>
  obtain ⟨us,e,hl⟩:=hr
  exact ⟨us,e,a3a.rep h hs hl⟩
theorem al.bunNew (h:al w0 nt c s a w) {idb:Nat} (hm:NM s idb) (hn:s.o idb = none):∃ c',c'.old = c.old ∧ al w0 nt c' ⟨s.t,fun q=>if q = idb then some (.bun fun _=>none) else s.o q⟩ a w:=by
 refine ⟨{ old:=c.old,imm:=c.imm,tab:=c.tab,own:=c.own,blk:=fun q=>if q = idb then noB else c.blk q,rows:=c.rows },rfl,h.redo (fun q=>q = idb) _ _ _ _ ?_ ?_ ?_ ?_ ?_ ?_⟩
 · rintro q rfl;exact hm.2.2
 · exact fun q hq=>⟨if_neg hq,rfl,if_neg hq,rfl⟩
 · rintro q rfl;exact .inl ⟨hm.1,fun id0 ob _ h0=>hm.2.1 id0 ob h0⟩
 · rintro q ob rfl hq
   rw [if_pos rfl] at hq
   cases hq
   refine ⟨fun b hb=>?_,fun b x hx=>by cases hx⟩
   have hb:(if q = q then noB else c.blk q) b:=hb
   rw [if_pos rfl] at hb
   exact hb.elim
 · rintro q ob b rfl hq hb
   rw [if_pos rfl] at hb
   exact hb.elim
 · rintro q q' ob ob' b rfl rfl _ _ _ _;rfl
theorem al.exIn (h:al w0 nt c s a w) {id idb d b:Nat} {v:Value} {x:Obj} {B:Nat → Option Obj} (ho:s.o id = some (.ex d v b x)) (hob:s.o idb = some (.bun B)) (hid:id < 1000) (hidb:idb < 1000) :
 B b = none ∧ ∃ c',c'.old = c.old ∧ al w0 nt c' ⟨s.t,fun q=>if q = id then none else if q = idb then some (.bun (d6 B b (some x))) else s.o q⟩ a w:=by
 have hne:idb ≠ id:=by rintro rfl;rw [ho] at hob;cases hob
 obtain ⟨e1,e2,_,e4,e5⟩:=h.objs id _ ho
 obtain ⟨b1,b2⟩:=h.objs idb _ hob
 have hbo:c.blk id b:=by rw [e2];exact rfl
 have hB:B b = none:=by
  cases hb:B b with
  | none=>rfl
  | some y=>exact absurd (h.inj _ _ _ _ b hob ho (b2 b y hb).1 hbo) hne
 refine ⟨hB,{ old:=c.old,imm:=c.imm,tab:=c.tab,own:=c.own,blk:=fun q=>if q = idb then (fun b'=>c.blk idb b' ∨ b' = b) else c.blk q,rows:=c.rows },rfl,h.redo (fun q=>q = id ∨ q = idb) _ _ _ _ ?_ ?_ ?_ ?_ ?_ ?_⟩
 · rintro q (rfl | rfl) <;> assumption
 · intro q hq
   have h1:q ≠ id:=fun e=>hq (.inl e)
   have h2:q ≠ idb:=fun e=>hq (.inr e)
   exact ⟨by rw [if_neg h1,if_neg h2],rfl,if_neg h2,rfl⟩
 · rintro q (rfl | rfl)
   · exact .inr (.inl (if_pos rfl))
   · exact .inr (.inr (.inr ⟨_, .bun (d6 B b (some x)),0,3,0,0,hob,rfl,(if_neg hne).trans (if_pos rfl),rfl,Nat.le_refl _,fun _=>rfl,fun _ _ _ _ _ _ _ hb=>by cases hb⟩))
 · rintro q ob (rfl | rfl) hq
   · rw [if_pos rfl] at hq;cases hq
   · rw [if_neg hne,if_pos rfl] at hq
     cases hq
     refine ⟨fun b' hb=>?_,fun b' y hy=>?_⟩
     · have hb:(if q = q then (fun b'=>c.blk q b' ∨ b' = b) else c.blk q) b':=hb
       rw [if_pos rfl] at hb
       by_cases e:b' = b
       · subst e;rw [ge];simp
       · rw [c7 e];exact b1 b' (hb.resolve_right e)
     · show (if q = q then (fun b'=>c.blk q b' ∨ b' = b) else c.blk q) b' ∧ _
       rw [if_pos rfl]
       by_cases e:b' = b
       · subst e
         rw [ge] at hy
         cases hy
         exact ⟨.inr rfl,Nat.zero_le _,e4,e5⟩
       · rw [c7 e] at hy
         obtain ⟨q1,q2⟩:=b2 b' y hy
         exact ⟨.inl q1,q2⟩
 · rintro q ob b' (rfl | rfl) hq hb
   · rw [if_pos rfl] at hq;cases hq
   · rw [if_pos rfl] at hb
     rcases hb with hb | rfl
     · exact ⟨q,_, .inr rfl,hob,hb⟩
     · exact ⟨id,_, .inl rfl,ho,hbo⟩
 · rintro q q' ob ob' b' (rfl | rfl) (rfl | rfl) hq hq' _ _
   · rfl
   · rw [if_pos rfl] at hq;cases hq
   · rw [if_pos rfl] at hq';cases hq'
   · rfl
theorem al.exOut (h:al w0 nt c s a w) {id idb b:Nat} (d:Nat) (v:Value) {x:Obj} {B:Nat → Option Obj} (hob:s.o idb = some (.bun B)) (hB:B b = some x) (hidb:idb < 1000) (hm:NM s id) (hn:s.o id = none) :
 ∃ c',c'.old = c.old ∧ al w0 nt c' ⟨s.t,fun q=>if q = id then some (.ex d v b x) else if q = idb then some (.bun (d6 B b none)) else s.o q⟩ a w:=by
 have hne:idb ≠ id:=by rintro rfl;rw [hn] at hob;cases hob
 obtain ⟨b1,b2⟩:=h.objs idb _ hob
 obtain ⟨x1,_,x3,x4⟩:=b2 b x hB
 refine ⟨{ old:=c.old,imm:=c.imm,tab:=c.tab,own:=fun q=>if q = id then v else c.own q,blk:=fun q=>if q = id then my b else if q = idb then (fun b'=>c.blk idb b' ∧ b' ≠ b) else c.blk q,rows:=c.rows },rfl,h.redo (fun q=>q = id ∨ q = idb) _ _ _ _ ?_ ?_ ?_ ?_ ?_ ?_⟩
 · rintro q (rfl | rfl)
   · exact hm.2.2
   · exact hidb
 · intro q hq
   have h1:q ≠ id:=fun e=>hq (.inl e)
   have h2:q ≠ idb:=fun e=>hq (.inr e)
   exact ⟨by rw [if_neg h1,if_neg h2],if_neg h1,by rw [if_neg h1,if_neg h2],rfl⟩
 · rintro q (rfl | rfl)
   · exact .inl ⟨hm.1,fun id0 ob _ h0=>hm.2.1 id0 ob h0⟩
   · exact .inr (.inr (.inr ⟨_, .bun (d6 B b none),0,3,0,0,hob,rfl,(if_neg hne).trans (if_pos rfl),rfl,Nat.le_refl _,fun _=>if_neg hne,fun _ _ _ _ _ _ _ hb=>by cases hb⟩))
 · rintro q ob (rfl | rfl) hq
   · rw [if_pos rfl] at hq
     cases hq
     exact ⟨if_pos rfl,if_pos rfl,Nat.zero_le _,x3,x4⟩
   · rw [if_neg hne,if_pos rfl] at hq
     cases hq
     have hbk:(fun q'=>if q' = id then my b else if q' = q then (fun b'=>c.blk q b' ∧ b' ≠ b) else c.blk q') q = fun b'=>c.blk q b' ∧ b' ≠ b:=by
      show (if q = id then my b else if q = q then _ else _) = _
      rw [if_neg hne,if_pos rfl]
     refine ⟨fun b' hb=>?_,fun b' y hy=>?_⟩
     · have hb:((fun q'=>if q' = id then my b else if q' = q then (fun b'=>c.blk q b' ∧ b' ≠ b) else c.blk q') q) b':=hb
       rw [hbk] at hb
       rw [c7 hb.2];exact b1 b' hb.1
     · show ((fun q'=>if q' = id then my b else if q' = q then (fun b'=>c.blk q b' ∧ b' ≠ b) else c.blk q') q) b' ∧ _
       rw [hbk]
       by_cases e:b' = b
       · subst e
         rw [ge] at hy
         cases hy
       · rw [c7 e] at hy
         obtain ⟨q1,q2⟩:=b2 b' y hy
         exact ⟨⟨q1,e⟩,q2⟩
 · rintro q ob b' (rfl | rfl) hq hb
   · rw [if_pos rfl] at hb
     have hb:b' = b:=hb
     subst hb
     exact ⟨idb,_, .inr rfl,hob,x1⟩
   · rw [if_neg hne,if_pos rfl] at hb
     exact ⟨q,_, .inr rfl,hob,hb.1⟩
 · rintro q q' ob ob' b' (rfl | rfl) (rfl | rfl) hq hq' hb hb'
   · rfl
   · rw [if_pos rfl] at hb
     rw [if_neg hne,if_pos rfl] at hb'
     exact absurd hb hb'.2
   · rw [if_pos rfl] at hb'
     rw [if_neg hne,if_pos rfl] at hb
     exact absurd hb' hb.2
   · rfl
end
section
variable {ro:Option Nat} {P:Program} {nt:Nat} {co:Code} {st:HSt} {Q:Exit → HSt → Prop}
theorem agf (idb:Nat) (h:HW (ro:=ro) P nt co ⟨st.t,(idb,some (.bun fun _=>none)) :: st.o⟩ Q) (hn:o6 idb st = true:=by exact rfl):HW (ro:=ro) P nt co st Q:=fun w0 m0 a w hr0=>by
 obtain ⟨cc,hold,hrr⟩:=hr0
 obtain ⟨hm,hn⟩:=gt hn
 obtain ⟨c',q1,q2⟩:=hrr.bunNew hm hn
 refine h w0 m0 a w ⟨c',q1.trans hold, ?_⟩
 rw [a94 (o':=fun q=>if q = idb then some (.bun fun _=>none) else st.den.o q) (fun q=>by simp only [bq];rfl)]
 exact q2
theorem lp (id idb:Nat) {d b:Nat} {v:Value} {x:Obj} {B:Nat → Option Obj} (ho:bn st.o id = some (.ex d v b x)) (hob:bn st.o idb = some (.bun B))
 (h:B b = none → HW (ro:=ro) P nt co ⟨st.t,(id,none) :: (idb,some (.bun (d6 B b (some x)))) :: st.o⟩ Q) (hid:(Nat.blt id 1000 && Nat.blt idb 1000) = true:=by exact rfl):HW (ro:=ro) P nt co st Q:=fun w0 m0 a w hr0=>by
 obtain ⟨cc,hold,hrr⟩:=hr0
 simp only [Bool.and_eq_true,Nat.blt_eq] at hid
 obtain ⟨hB,c',q1,q2⟩:=hrr.exIn ho hob hid.1 hid.2
 refine h hB w0 m0 a w ⟨c',q1.trans hold, ?_⟩
 rw [a94 (o':=fun q=>if q = id then none else if q = idb then some (.bun (d6 B b (some x))) else st.den.o q) (fun q=>by simp only [bq];rfl)]
 exact q2
theorem om (id idb d:Nat) (v:Value) {b:Nat} {x:Obj} {B:Nat → Option Obj} (hob:bn st.o idb = some (.bun B)) (hB:B b = some x)
 (h:HW (ro:=ro) P nt co ⟨st.t,(id,some (.ex d v b x)) :: (idb,some (.bun (d6 B b none))) :: st.o⟩ Q) (hid:Nat.blt idb 1000 = true:=by exact rfl) (hn:o6 id st = true:=by exact rfl):HW (ro:=ro) P nt co st Q:=fun w0 m0 a w hr0=>by
 obtain ⟨cc,hold,hrr⟩:=hr0
 simp only [Nat.blt_eq] at hid
 obtain ⟨hm,hn⟩:=gt hn
 obtain ⟨c',q1,q2⟩:=hrr.exOut d v hob hB hid hm hn
 refine h w0 m0 a w ⟨c',q1.trans hold, ?_⟩
 rw [a94 (o':=fun q=>if q = id then some (.ex d v b x) else if q = idb then some (.bun (d6 B b none)) else st.den.o q) (fun q=>by simp only [bq];rfl)]
 exact q2
theorem acj (id:Nat) {l:List HV} (l':List HV) (ho:bn st.o id = some (.box l)) (hs:a3a st.den.o l l') (h:HW (ro:=ro) P nt co ⟨st.t,(id,some (.box l')) :: st.o⟩ Q):HW (ro:=ro) P nt co st Q:=fun w0 m0 a w hr0=>by
 obtain ⟨cc,hold,hrr⟩:=hr0
 obtain ⟨b,C,e,h1,h2,h3,h4,h5⟩:=hrr.objs id _ ho
 refine h w0 m0 a w ?_
 have h6:=hs.rep hrr h5
 have hw:=hrr.write id (.box l) ho (.box l') w (cc.own id) (cc.blk id) none (Grw.refl w _) (fun _ e=>by cases e) (.inr (.inl ⟨l,l',ho,by simp [S.setO],by simp⟩)) (fun b hb=>.inl hb)
  ⟨b,C,e,by simpa using h1,by simpa using h2,h3,h4,by
   refine ay.of_get h6.length fun i y u hy hu=>?_
   obtain ⟨u',hu',hr⟩:=h6.get i y hy
   rw [hu] at hu'
   cases hu'
   refine b5.evo (c:=cc) (o:=st.den.o) (Imm.le.refl cc.imm) (fun k hk=>?_) hr
   by_cases hki:k = id
   · subst hki
     exact .inr (.inl ⟨l,l',ho,by simp [S.setO],by simp⟩)
   · exact Evo.of_same (by simp [S.setO,hki]) (by simp [hki])⟩
 rw [← gw] at hw
 exact ⟨_,(by exact hold),hw⟩
theorem yq (mid:Nat) {b n:Nat} {f:MK → Option PV} (ho:bn st.o mid = some (.mp (.pstr b) n f)) (hraw:∀ key y,f key = some y → ∃ v,y = .raw v)
 (h:∀ es clock,ExF .str n f es clock → HW (ro:=ro) P nt co ⟨st.t,(mid,some (.ex 0 (.map (some b)) b (.map es clock))) :: st.o⟩ Q):HW (ro:=ro) P nt co st Q:=fun w0 m0 a w hr=>by
 obtain ⟨cc,hold,hrr⟩:=hr
 obtain ⟨b',es,clock,h1,h2,⟨h3,hb⟩,h4,h5,h6,h7,h8,h9⟩:=hrr.objs mid _ ho
 have hb:b = b':=hb
 subst hb
 refine h es clock ⟨h5,h6,h7,fun x hx=>?_,fun key y hy=>?_⟩ w0 m0 a w ?_
 · obtain ⟨key,y,q1,q2,q3⟩:=h8 x hx
   obtain ⟨v,rfl⟩:=hraw key y q2
   obtain ⟨e1,e2⟩:=q3
   exact ⟨key,v,q1,q2,e1,e2⟩
 · obtain ⟨q1,q2⟩:=h9 key y hy
   exact ⟨MK.ok_base.2 q1,q2⟩
 · have hw:=hrr.write mid (.mp (.pstr b) n f) ho (.ex 0 (.map (some b)) b (.map es clock)) w (cc.own mid) (cc.blk mid) none (Grw.refl w _) (fun _ e=>by cases e)
    (.inr (.inr ⟨_, .ex 0 (.map (some b)) b (.map es clock),0,0,0,0,ho,rfl,by simp [S.setO],rfl,Nat.le_refl _,fun _=>by simp,fun _ _ _ _ _ _ _ hb=>by cases hb⟩)) (fun b hb=>.inl hb) ⟨by simpa using h1,by simpa using h2,h3,h4,rfl⟩
   rw [← gw] at hw
   exact ⟨_,(by exact hold),hw⟩
theorem a32 {b n:Nat} {f:MK → Option PV} {es:Array MapEntry} {clock:Nat} (h:ExF .str n f es clock):ExF (.pstr b) n f es clock:=⟨h.st,h.le,h.mx,h.to,fun key y hy=>by
 obtain ⟨q1,q2⟩:=h.of key y hy
 exact ⟨MK.ok_base.1 q1,q2⟩⟩
theorem xe (mid:Nat) {kk:KK} {n b clock:Nat} {es:Array MapEntry} {f:MK → Option PV} (ho:bn st.o mid = some (.ex 0 (.map (some b)) b (.map es clock))) (hf:ExF kk n f es clock)
 (h:HW (ro:=ro) P nt co ⟨st.t,(mid,some (.mp kk n f)) :: st.o⟩ Q) (hh:kk.has b:=by first | exact trivial | exact rfl):HW (ro:=ro) P nt co st Q:=fun w0 m0 a w hr=>by
 obtain ⟨cc,hold,hrr⟩:=hr
 obtain ⟨h1,h2,h3,h4,h5⟩:=hrr.objs mid _ ho
 refine h w0 m0 a w ?_
 have hw:=hrr.write mid (.ex 0 (.map (some b)) b (.map es clock)) ho (.mp kk n f) w (cc.own mid) (cc.blk mid) none (Grw.refl w _) (fun _ e=>by cases e)
  (.inr (.inr ⟨_, .mp kk n f,0,0,0,0,ho,rfl,by simp [S.setO],rfl,Nat.le_refl _,fun _=>by simp,fun _ _ _ _ _ _ _ hb=>by cases hb⟩)) (fun b hb=>.inl hb) ⟨b,es,clock,by simpa using h1,by simpa using h2,⟨h3,hh⟩,h4,hf.st,hf.le,hf.mx,fun x hx=>by
   obtain ⟨key,v,q1,q2,q3,q4⟩:=hf.to x hx
   exact ⟨key, .raw v,q1,q2,q3,q4⟩,hf.of⟩
 rw [← gw] at hw
 exact ⟨_,(by exact hold),hw⟩
end
end Go.Hx
end
section
namespace Go.Hx
open Go.RowKit
def vHC:Value → HC
 | .agg l=>.agg (l.toList.map fun v=>.p (.raw v))
 | v=>.one (.p (.raw v))
def vOk:Value → Bool
 | .agg l=>l.toList.all Value.oneCell'
 | v=>v.oneCell'
theorem a8w {c:Ctx} {o:au}:∀ {l:List Value},l.all Value.oneCell' = true → ay c o (l.map fun v=>.p (.raw v)) l
 | [],_=>trivial
 | v :: l,h=>by
  rw [List.all_cons,Bool.and_eq_true] at h
  exact ⟨⟨rfl,h.1⟩,a8w h.2⟩
theorem qz {c:Ctx} {o:au} {v:Value} (h:vOk v = true):eg c o (vHC v) v:=by
 cases v with
 | agg l=>exact ⟨l.toList,by simp,a8w h⟩
 | _=>exact ⟨rfl,h⟩
def vi:List HV → Option (List Value)
 | []=>some []
 | .p (.raw v) :: r=>(vi r).map (v :: ·)
 | _=>none
def kOf:HR → Option Value
 | .v (.one (.p (.raw v)))=>some v
 | .v (.agg l)=>(vi l).map fun vs=>.agg vs.toArray
 | _=>none
theorem a3d {c:Ctx} {o:au}:∀ {l:List HV} {vs us:List Value},vi l = some vs → ay c o l us → us = vs ∧ vs.all Value.oneCell' = true
 | [],vs,us,h,hr=>by
  cases h
  cases us with
  | nil=>exact ⟨rfl,rfl⟩
  | cons=>exact hr.elim
 | .p (.raw v) :: r,vs,us,h,hr=>by
  unfold vi at h
  cases hq:vi r with
  | none=>rw [hq] at h;cases h
  | some ws =>
   rw [hq] at h
   cases h
   cases us with
   | nil=>exact hr.elim
   | cons u us =>
    obtain ⟨h1,h2⟩:=a3d hq hr.2
    obtain ⟨e1,e2⟩:=hr.1
    subst h1 e1
    exact ⟨rfl,by rw [List.all_cons,e2,h2];rfl⟩
theorem a5c {c:Ctx} {o:au} {x:HR} {v u:Value} (h:kOf x = some v) (hr:aq c o x u):u = v ∧ vOk v = true:=by
 unfold kOf at h
 split at h
 · cases h
   obtain ⟨e1,e2⟩:=hr
   subst e1
   refine ⟨rfl, ?_⟩
   unfold vOk
   split
   · simp [Value.oneCell'] at e2
   · exact e2
 · rename_i l
   cases hq:vi l with
   | none=>rw [hq] at h;cases h
   | some ws =>
    rw [hq] at h
    cases h
    obtain ⟨us,e,hl⟩:=hr
    obtain ⟨h1,h2⟩:=a3d hq hl
    subst h1 e
    exact ⟨rfl,h2⟩
 · cases h
structure mq (P:Program) (kt:TypeId) (es:Array MapEntry) (clock:Nat):Prop where
 st:Go.MapKept.Stamped es clock
 mx:es.size ≤ maxLen
 ky:∀ x ∈ es.toList,∃ l,keyOf P kt x.key = some l
 vl:∀ x ∈ es.toList,vOk x.key = true ∧ vOk x.val = true
theorem mq.nil {P:Program} {kt:TypeId} {clock:Nat}:mq P kt #[] clock:=⟨Go.MapKept.stamped_empty clock,by simp,fun x hx=>by simp at hx,fun x hx=>by simp at hx⟩
theorem mq.inj {P:Program} {kt:TypeId} {es:Array MapEntry} {clock:Nat} (h:mq P kt es clock) {x y:MapEntry} (hx:x ∈ es.toList) (hy:y ∈ es.toList) (e:x.key = y.key):x = y:=by
 have hp:=((Go.MapKept.stamped_iff es clock).1 h.st).2.2
 obtain ⟨i,hi,rfl⟩:=List.getElem_of_mem hx
 obtain ⟨j,hj,rfl⟩:=List.getElem_of_mem hy
 rcases Nat.lt_trichotomy i j with h1 | h1 | h1
 · exact absurd e (List.pairwise_iff_getElem.1 hp i j hi hj h1)
 · subst h1;rfl
 · exact absurd e.symm (List.pairwise_iff_getElem.1 hp j i hj hi h1)
section
variable {P:Program} {nt:Nat} {ops:Array Oper} {st:HSt} {k:Nat} {o:Oper} {L:List Nat} {Q:HSt → Prop} {x ix:Operand} {mid j b clock d:Nat} {es:Array MapEntry} {t kt et:TypeId}
theorem akb {z kv:Value} {kl:Lit} {kx:HR} (hi:ops[k]? = some o) (ht:P.underlying t = some (.map kt et)) (K:Go.Maps.Keyed P kt) (hz:∀ w,(zeroValue et).run P w = .ok z w) (hzo:vOk z = true) (hX:mq P kt es clock)
 (hkey:keyOf P kt kv = some kl) (hkv:kOf kx = some kv)
 (h0:(∀ e ∈ es.toList,e.key ≠ kv) → RN P nt ops L ⟨(d,some (.tup [vHC z, .one (.p (.raw (.bool false)))])) :: st.t,st.o⟩ Q)
 (h1:∀ e ∈ es.toList,e.key = kv → RN P nt ops L ⟨(d,some (.tup [vHC e.val, .one (.p (.raw (.bool true)))])) :: st.t,st.o⟩ Q)
 (hg:o.guard = none:=by exact rfl) (ho:o.op = .lookup t x ix true:=by exact rfl) (hd:o.dst = some d:=by exact rfl) (hdn:c4 nt (some d) = true:=by exact rfl)
 (hx:ev st.den x = some (.v (.one (.ref mid 0))):=by exact rfl) (hm:st.den.o mid = some (mpO b es clock):=by exact rfl) (hk:ev st.den ix = some kx:=by exact rfl):RN P nt ops (k :: L) st Q :=
 sw hi hg hd hdn (fun c hc=>by rw [hc] at ho;cases ho) fun w0 a w c hrr=>by
  obtain ⟨e1,e2⟩:=nq hrr hx hm
  obtain ⟨e3,_⟩:=a5c hkv (ab hrr hk)
  rcases a8j true K ht (hz w) e2 hX.mx hX.st hX.ky hkey with ⟨hrun,hno⟩ | ⟨e0,he0,hk0,hrun⟩
  · exact ⟨_,w,st.o, .tup [vHC z, .one (.p (.raw (.bool false)))],c,rfl,by simp [execOp,ho,e1,e3,hrun],hrr,⟨[z, .bool false],rfl,qz hzo,⟨rfl,rfl⟩,trivial⟩,h0 hno⟩
  · exact ⟨_,w,st.o, .tup [vHC e0.val, .one (.p (.raw (.bool true)))],c,rfl,by simp [execOp,ho,e1,e3,hrun],hrr,⟨[e0.val, .bool true],rfl,qz (hX.vl e0 he0).2,⟨rfl,rfl⟩,trivial⟩,h1 e0 he0 hk0⟩
theorem xx (id:Nat) {t:TypeId} (hi:ops[k]? = some o) (h:∀ b,RN P nt ops L ⟨(d,some (.v (.one (.ref id 0)))) :: st.t,(id,some (mpO b #[] 0)) :: st.o⟩ Q)
 (hg:o.guard = none:=by exact rfl) (ho:o.op = .makeMap t none:=by exact rfl) (hd:o.dst = some d:=by exact rfl) (hdn:c4 nt (some d) = true:=by exact rfl) (hn:o6 id st = true:=by exact rfl):RN P nt ops (k :: L) st Q :=
 sw hi hg hd hdn (fun c hc=>by rw [hc] at ho;cases ho) fun w0 a w c hrr=>by
  obtain ⟨hnm,hno⟩:=gt hn
  have hf:=hrr.fresh id hnm hno (mpO w.heap.size #[] 0) (w.alloc (.map #[] 0)) (.map (some w.heap.size)) (my w.heap.size) (Grw.alloc w _ none) (fun b hb=>Nat.le_of_eq (Eq.symm hb))
   ⟨by simp,by simp,Nat.zero_le _,Go.heap_alloc_new w _,rfl⟩
  rw [← gw] at hf
  refine ⟨.map (some w.heap.size),_,_, .v (.one (.ref id 0)),_,(by exact rfl), ?_,hf,⟨rfl,fun l=>by simp [gw,S.setO],fun ob2 s2 e2 n2 ho2 hd2=>?_⟩,h w.heap.size⟩
  · simp [execOp,ho,Go.run_makeMap_plain]
  · rw [gw] at ho2
    simp only [S.setO,if_true,Option.some.injEq] at ho2
    subst ho2
    simp only [ah.dim,Option.some.injEq,Prod.mk.injEq] at hd2
    obtain ⟨rfl,rfl,rfl⟩:=hd2
    exact ⟨Nat.le_refl _,fun _=>by simp⟩
structure al7 (es es':Array MapEntry) (kv v:Value):Prop where
 to:∀ x' ∈ es'.toList,(x' ∈ es.toList ∧ x'.key ≠ kv) ∨ (x'.key = kv ∧ x'.val = v)
 at_:∃ x' ∈ es'.toList,x'.key = kv ∧ x'.val = v
 old:∀ x ∈ es.toList,x.key ≠ kv → ∃ x' ∈ es'.toList,x'.key = x.key ∧ x'.val = x.val
 sz:es'.size ≤ es.size + 1
theorem anm {y:Operand} {kv v:Value} {kl:Lit} {kx vx:HR} (hi:ops[k]? = some o) (ht:P.underlying t = some (.map kt et)) (K:Go.Maps.Keyed P kt) (hX:mq P kt es clock) (hlt:es.size < maxLen)
 (hkey:keyOf P kt kv = some kl) (hkv:kOf kx = some kv) (hvv:kOf vx = some v)
 (h:∀ es' clock',mq P kt es' clock' → al7 es es' kv v → RN P nt ops L ⟨(match o.dst with | some d=>[(d,none)] | none=>[]) ++ st.t,(mid,some (mpO b es' clock')) :: st.o⟩ Q)
 (hg:o.guard = none:=by exact rfl) (ho:o.op = .mapUpdate t x ix y:=by exact rfl) (hdn:c4 nt o.dst = true:=by exact rfl)
 (hx:ev st.den x = some (.v (.one (.ref mid 0))):=by exact rfl) (hm:bn st.o mid = some (mpO b es clock):=by exact rfl) (hk:ev st.den ix = some kx:=by exact rfl) (hv:ev st.den y = some vx:=by exact rfl):RN P nt ops (k :: L) st Q:=by
 refine as3 hi hg hdn (fun c hc=>by rw [hc] at ho;cases ho) fun w0 a w c hrr=>?_
 obtain ⟨e1,e2⟩:=nq hrr hx hm
 obtain ⟨e3,e3'⟩:=a5c hkv (ab hrr hk)
 obtain ⟨e4,e4'⟩:=a5c hvv (ab hrr hv)
 obtain ⟨q1,q2,q3,q4,q5⟩:=hrr.objs mid _ hm
 obtain ⟨es',clock',hrun,hst,hsz,hall,hat,hold⟩:=a6i (val:=v) K ht e2 hlt hX.st hX.ky hkey
 have hblk:=Go.ChangeMaps.heap_setBlock_same e2 (.map es' clock')
 have hP:al7 es es' kv v:=by
  refine ⟨hall, ?_,fun x hx hne=>?_,hsz⟩
  · obtain ⟨x',hx',hk'⟩:=hat
    refine ⟨x',hx',hk', ?_⟩
    rcases hall x' hx' with ⟨_,h2⟩ | ⟨_,h2⟩
    · exact absurd hk' h2
    · exact h2
  · obtain ⟨x',hx',hk'⟩:=hold x hx
    refine ⟨x',hx',hk', ?_⟩
    rcases hall x' hx' with ⟨h1,_⟩ | ⟨h2,_⟩
    · rw [hX.inj h1 hx hk']
    · exact absurd (hk'.symm.trans h2) hne
 have hX':mq P kt es' clock':=⟨hst,by omega,fun x' hx'=>by
  rcases hall x' hx' with ⟨h1,_⟩ | ⟨h2,_⟩
  · exact hX.ky x' h1
  · exact ⟨kl,by rw [h2];exact hkey⟩,fun x' hx'=>by
  rcases hall x' hx' with ⟨h1,_⟩ | ⟨h2,h3⟩
  · exact hX.vl x' h1
  · rw [h2,h3];exact ⟨e3',e4'⟩⟩
 have hw:=hrr.write mid _ hm (mpO b es' clock') (Go.ChangeMaps.setBlock w b (.map es' clock')) (c.own mid) (c.blk mid) (some b) (by
  exact ⟨⟨rfl,rfl,rfl,by simp [Go.ChangeMaps.setBlock],fun i _ hi=>Go.ChangeMaps.heap_setBlock_other e2 _ (fun e=>hi (by rw [e]))⟩,Nat.le_refl _⟩) (fun b' hb'=>by cases hb';rw [q2];rfl)
  (.inr (.inr ⟨_,mpO b es' clock',0,0,0,0,hm,rfl,by simp [S.setO],rfl,Nat.le_refl _,fun _=>by simp,fun _ _ _ _ _ _ _ hb=>by cases hb⟩)) (fun b hb=>.inl hb) ⟨by simpa using q1,by simpa using q2,q3,hblk,rfl⟩
 rw [← gw] at hw
 exact ⟨.skip,_,_,_,(by exact rfl),by simp [execOp,ho,e1,e3,e4,hrun], .inl rfl,hw,h es' clock' hX' hP⟩
theorem a5i {cl:Call} (hi:ops[k]? = some o) (ht:P.underlying t = some (.map kt et)) (hmx:es.size ≤ maxLen)
 (h:RN P nt ops L ⟨(d,some (.v (.one (.p (.raw (.int .i64 es.size)))))) :: st.t,st.o⟩ Q)
 (hg:o.guard = none:=by exact rfl) (ho:o.op = .call cl:=by exact rfl) (hcl:cl.callee = .builtin .len:=by exact rfl) (har:cl.args = #[x]:=by exact rfl) (hat:cl.argTypes = #[t]:=by exact rfl) (hd:o.dst = some d:=by exact rfl) (hdn:c4 nt (some d) = true:=by exact rfl)
 (hx:ev st.den x = some (.v (.one (.ref mid 0))):=by exact rfl) (hm:st.den.o mid = some (mpO b es clock):=by exact rfl):RN P nt ops (k :: L) st Q :=
 sw hi hg hd hdn (fun c hc=>by rw [hc] at ho;cases ho) fun w0 a w c hrr=>by
  obtain ⟨e1,e2⟩:=nq hrr hx hm
  have hk1:P.underlying t = some (.map (P.mapKeyOf t) (P.mapElemOf t)):=by
   simp [Program.mapKeyOf,Program.mapElemOf,ht]
  have hrun:=run_len_map (P:=P) (w:=w) t o.type b es clock hk1 e2
  refine ⟨.int .i64 es.size,w,st.o, .v (.one (.p (.raw (.int .i64 es.size)))),c,rfl, ?_,hrr,⟨rfl,rfl⟩,h⟩
  cases cl with
  | mk ca ar at' =>
   simp only at hcl har hat
   subst hcl har hat
   simp [execOp,ho,resolve,invoke,builtin,e1,hrun,goInt,Result.andThen]
theorem al3 {x:Operand} {id bi:Nat} {seen:Array Nat} (hi:ops[k]? = some o) (hX:mq P kt es clock)
 (h0:(leftOf es seen).size = 0 → RN P nt ops L ⟨(d,some (.tup [.one (.p (.raw (.bool false)))])) :: st.t,st.o⟩ Q)
 (h1:∀ e ∈ (leftOf es seen).toList,RN P nt ops L ⟨(d,some (.tup [.one (.p (.raw (.bool true))),vHC e.key,vHC e.val])) :: st.t,(id,some (itO bi b clock (seen.push e.born))) :: st.o⟩ Q)
 (hg:o.guard = none:=by exact rfl) (ho:o.op = .next x false:=by exact rfl) (hd:o.dst = some d:=by exact rfl) (hdn:c4 nt (some d) = true:=by exact rfl)
 (hx:ev st.den x = some (.v (.one (.ref id j))):=by exact rfl) (hm:st.den.o id = some (itO bi b clock seen):=by exact rfl)
 (hm2:st.den.o mid = some (mpO b es clock):=by exact rfl):RN P nt ops (k :: L) st Q :=
 sw hi hg hd hdn (fun c hc=>by rw [hc] at ho;cases ho) fun w0 a w c hrr=>by
  obtain ⟨e1,e2⟩:=nq hrr hx hm
  obtain ⟨_,_,_,e3,_⟩:=hrr.objs mid _ hm2
  have hob:=hrr.objs id _ hm
  rcases abk (P:=P) w o.type bi b clock seen es e2 e3 hX.st.1 with ⟨h2,h3⟩ | ⟨e,he,w1,hw1,h3⟩
  · exact ⟨_,w,st.o, .tup [.one (.p (.raw (.bool false)))],c,rfl,by simp [execOp,ho,e1,h3],hrr,⟨[.bool false],rfl,⟨⟨rfl,rfl⟩,trivial⟩⟩,h0 h2⟩
  · obtain ⟨q1,q2⟩:=mem_left he
    obtain ⟨r1,r2⟩:=hX.vl e q1
    have hw:=hrr.write id _ hm (itO bi b clock (seen.push e.born)) _ (c.own id) (c.blk id) (some bi) (ak0 w w1 hw1 bi (.mapIter (some b) clock (seen.push e.born) clock)) (fun b hb=>by cases hb;rw [hob.2.1];exact rfl)
     (.inr (.inr ⟨_,itO bi b clock (seen.push e.born),0,2,0,0,hm,rfl,by simp [S.setO],rfl,Nat.le_refl _,fun _=>by simp,fun _ _ _ _ _ _ _ hb=>by cases hb⟩)) (fun b hb=>.inl hb) ⟨by simpa using hob.1,by simpa using hob.2.1,hob.2.2.1,by simp [(Array.getElem?_eq_some_iff.1 e2).1],rfl⟩
    rw [← gw] at hw
    exact ⟨_,_,_, .tup [.one (.p (.raw (.bool true))),vHC e.key,vHC e.val],_,(by exact rfl),by simp [execOp,ho,e1,h3],hw,⟨[.bool true,e.key,e.val],rfl,⟨rfl,rfl⟩,qz r1,qz r2,trivial⟩,h1 e he⟩
theorem aj3 {z kv:Value} {kl:Lit} {kx:HR} (hi:ops[k]? = some o) (ht:P.underlying t = some (.map kt et)) (K:Go.Maps.Keyed P kt) (hz:∀ w,(zeroValue et).run P w = .ok z w) (hzo:vOk z = true) (hX:mq P kt es clock)
 (hkey:keyOf P kt kv = some kl) (hkv:kOf kx = some kv)
 (h:∀ (ok:Bool) (v:Value),(ok = true → ∃ e ∈ es.toList,e.key = kv ∧ v = e.val) → (ok = false → v = z ∧ ∀ e ∈ es.toList,e.key ≠ kv) → RN P nt ops L ⟨(d,some (.tup [vHC v, .one (.p (.raw (.bool ok)))])) :: st.t,st.o⟩ Q)
 (hg:o.guard = none:=by exact rfl) (ho:o.op = .lookup t x ix true:=by exact rfl) (hd:o.dst = some d:=by exact rfl) (hdn:c4 nt (some d) = true:=by exact rfl)
 (hx:ev st.den x = some (.v (.one (.ref mid 0))):=by exact rfl) (hm:st.den.o mid = some (mpO b es clock):=by exact rfl) (hk:ev st.den ix = some kx:=by exact rfl):RN P nt ops (k :: L) st Q :=
 akb hi ht K hz hzo hX hkey hkv (fun hno=>h false z (fun e=>by cases e) fun _=>⟨rfl,hno⟩) (fun e he hk=>h true e.val (fun _=>⟨e,he,hk,rfl⟩) fun e=>by cases e) hg ho hd hdn hx hm hk
theorem ai8 {x:Operand} {id bi:Nat} {seen:Array Nat} {e:MapEntry} (hi:ops[k]? = some o) (hX:mq P kt es clock) (he:e ∈ (leftOf es seen).toList)
 (h:RN P nt ops L ⟨(d,some (.tup [vHC e.key,vHC e.val])) :: st.t,st.o⟩ Q)
 (hg:o.guard = none:=by exact rfl) (ho:o.op = .entry x:=by exact rfl) (hd:o.dst = some d:=by exact rfl) (hdn:c4 nt (some d) = true:=by exact rfl)
 (hx:ev st.den x = some (.v (.one (.ref id j))):=by exact rfl) (hm:st.den.o id = some (itO bi b clock (seen.push e.born)):=by exact rfl)
 (hm2:st.den.o mid = some (mpO b es clock):=by exact rfl):RN P nt ops (k :: L) st Q :=
 sw hi hg hd hdn (fun c hc=>by rw [hc] at ho;cases ho) fun w0 a w c hrr=>by
  obtain ⟨e1,e2⟩:=nq hrr hx hm
  obtain ⟨_,_,_,e3,_⟩:=hrr.objs mid _ hm2
  obtain ⟨q1,_⟩:=mem_left he
  obtain ⟨r1,r2⟩:=hX.vl e q1
  exact ⟨_,w,st.o, .tup [vHC e.key,vHC e.val],c,rfl,by simp [execOp,ho,e1,aa1 (P:=P) w bi b clock seen es e e2 e3 q1 hX.st.2.1],hrr,⟨[e.key,e.val],rfl,qz r1,qz r2,trivial⟩,h⟩
theorem ai7 {x y z:Operand} {m0 m1 m2 b0 b1 b2 c0 c1 c2:Nat} {e0 e1 e2:Array MapEntry} (hi:ops[k]? = some o) (hb:P.built t [(0, .map (some b0)),(1, .map (some b1)),(2, .map (some b2))] = some #[.map (some b0), .map (some b1), .map (some b2)])
 (h:RN P nt ops L ⟨(d,some (.v (.agg [.p (.raw (.map (some b0))), .p (.raw (.map (some b1))), .p (.raw (.map (some b2)))]))) :: st.t,st.o⟩ Q)
 (hg:o.guard = none:=by exact rfl) (ho:o.op = .build t #[(0,x),(1,y),(2,z)]:=by exact rfl) (hd:o.dst = some d:=by exact rfl) (hdn:c4 nt (some d) = true:=by exact rfl)
 (hx:ev st.den x = some (.v (.one (.ref m0 0))):=by exact rfl) (hm0:st.den.o m0 = some (mpO b0 e0 c0):=by exact rfl)
 (hy:ev st.den y = some (.v (.one (.ref m1 0))):=by exact rfl) (hm1:st.den.o m1 = some (mpO b1 e1 c1):=by exact rfl)
 (hz:ev st.den z = some (.v (.one (.ref m2 0))):=by exact rfl) (hm2:st.den.o m2 = some (mpO b2 e2 c2):=by exact rfl):RN P nt ops (k :: L) st Q :=
 sw hi hg hd hdn (fun c hc=>by rw [hc] at ho;cases ho) fun w0 a w c hrr=>by
  obtain ⟨q0,_⟩:=nq hrr hx hm0
  obtain ⟨q1,_⟩:=nq hrr hy hm1
  obtain ⟨q2,_⟩:=nq hrr hz hm2
  have hrun:=run_build w t #[(0,Value.map (some b0)),(1, .map (some b1)),(2, .map (some b2))] _ hb
  exact ⟨_,w,st.o, .v (.agg [.p (.raw (.map (some b0))), .p (.raw (.map (some b1))), .p (.raw (.map (some b2)))]),c,rfl,by simp [execOp,ho,q0,q1,q2,hrun],hrr,⟨[.map (some b0), .map (some b1), .map (some b2)],rfl,⟨rfl,rfl⟩,⟨rfl,rfl⟩,⟨rfl,rfl⟩,trivial⟩,h⟩
end
end Go.Hx
end
