/- A part of the proof: Hx30 Hx32 Hx33 Hx35 Hx36 Hx39. -/
import Derived.Test.YtdcdbghdgjlhhaaGreatOx14
set_option linter.all false
namespace Go.Hx
section
open Go.RowKit
section
variable {w0:World} {nt:Nat} {c:Ctx} {s:S} {a:Act} {w:World}
theorem ak.redo (h:ak w0 nt c s a w) (D:Nat → Prop) (own':Nat → Value) (blk':Nat → Nat → Prop) (rows':Nat → Nat → Value) (o':aw)
 (hD:∀ q,D q → q < 1000) (hs:∀ q,¬ D q → o' q = s.o q ∧ own' q = c.own q ∧ blk' q = c.blk q ∧ rows' q = c.rows q)
 (he:∀ q,D q → ((∀ d x,s.t d = some x → ¬ x.men q) ∧ ∀ id ob,¬ D id → s.o id = some ob → ¬ ob.men q) ∨ Evo c s.o { old:=c.old,imm:=c.imm,tab:=c.tab,own:=own',blk:=blk',rows:=rows' } o' q)
 (hob:∀ q ob,D q → o' q = some ob → d9 0 { old:=c.old,imm:=c.imm,tab:=c.tab,own:=own',blk:=blk',rows:=rows' } o' w q ob)
 (hfrom:∀ q ob b,D q → o' q = some ob → blk' q b → ∃ q0 ob0,D q0 ∧ s.o q0 = some ob0 ∧ c.blk q0 b)
 (hin:∀ q q' ob ob' b,D q → D q' → o' q = some ob → o' q' = some ob' → blk' q b → blk' q' b → q = q') :
 ak w0 nt { old:=c.old,imm:=c.imm,tab:=c.tab,own:=own',blk:=blk',rows:=rows' } ⟨s.t,o'⟩ a w:=by
 have hevo:∀ q,¬ D q → Evo c s.o { old:=c.old,imm:=c.imm,tab:=c.tab,own:=own',blk:=blk',rows:=rows' } o' q:=fun q hq=>by
  obtain ⟨h1,h2,h3,h4⟩:=hs q hq
  exact Evo.of_same h1 h2 h4
 refine ⟨h.defers,h.size,h.below,fun d x hx=>?_,fun q ob hq=>?_,fun q q' ob ob' b hq hq' hb hb'=>?_,h.imm,fun q ob b hq hb=>?_,h.was,h.frm,fun q ob b hq hb=>?_,fun q hq=>?_⟩
 · refine (h.tmps d x hx).evo (Imm.le.refl c.imm) fun q hm=>?_
   grind
 · by_cases hd:D q
   · grind
   obtain ⟨h1,h2,h3,h4⟩:=hs q hd
   have hq:o' q = some ob:=hq
   rw [h1] at hq
   refine (h.objs q ob hq).keep (Imm.le.refl c.imm) h2 h3 (fun j hj=>?_) (fun b hb=>rfl) h4
   grind
 · have hq:o' q = some ob:=hq
   have hq':o' q' = some ob':=hq'
   have cross:∀ q q' ob ob',D q → ¬ D q' → o' q = some ob → o' q' = some ob' → blk' q b → blk' q' b → False:=fun q q' ob ob' hd hd' hq hq' hb hb'=>by
    obtain ⟨q0,ob0,h1,h2,h3⟩:=hfrom q ob b hd hq hb
    obtain ⟨h4,_,h5,_⟩:=hs q' hd'
    rw [h4] at hq'
    rw [h5] at hb'
    have:=h.inj q0 q' ob0 ob' b h2 hq' h3 hb'
    grind
   by_cases hd:D q
   · grind
   by_cases hd':D q'
   · grind
   obtain ⟨h1,_,h3,_⟩:=hs q hd
   obtain ⟨h1',_,h3',_⟩:=hs q' hd'
   rw [h1] at hq;rw [h1'] at hq'
   simp only [h3] at hb;simp only [h3'] at hb'
   exact h.inj q q' ob ob' b hq hq' hb hb'
 · have hq:o' q = some ob:=hq
   by_cases hd:D q
   · obtain ⟨q0,ob0,_,h2,h3⟩:=hfrom q ob b hd hq hb
     exact h.sep q0 ob0 b h2 h3
   obtain ⟨h1,_,h3,_⟩:=hs q hd
   rw [h1] at hq
   simp only [h3] at hb
   exact h.sep q ob b hq hb
 · have hq:o' q = some ob:=hq
   by_cases hd:D q
   · obtain ⟨q0,ob0,_,h2,h3⟩:=hfrom q ob b hd hq hb
     exact h.fsep q0 ob0 b h2 h3
   obtain ⟨h1,_,h3,_⟩:=hs q hd
   rw [h1] at hq
   simp only [h3] at hb
   exact h.fsep q ob b hq hb
 have:¬ D q:=fun hd=>by have:=hD q hd;omega
 exact (h.fixed q hq).trans (hevo q this)
structure agt (et:TypeId) (es n r:Nat) (m:Nat → Nat) (g:Nat → Nat → Nat → PV) (hd:Nat → Value) (B:Nat → Option Obj):Prop where
 pos:0 < es
 len:n ≤ maxLen
 row:∀ i,i < n → i ≠ r → (m i = 0 ∧ ∃ a,hd i = .slice a 0 0) ∨ ∃ b cap cur,hd i = .slice (some ⟨b,0,none⟩) (m i) cap ∧ ci (hd i) = some b ∧ B b = some (.cells cur et (0,0)) ∧ m i ≤ cap ∧ cap ≤ maxLen ∧ cur.size = cap * es ∧
  ∀ q j,q < m i → j < es → ∃ x,(cur.toList.take (m i * es))[q * es + j]? = some x ∧ g i q j = .raw x ∧ x.oneCell' = true
 apart:∀ i i' b,i < n → i ≠ r → i' < n → i' ≠ r → ci (hd i) = some b → ci (hd i') = some b → i' = i
 blk:∀ b,B b ≠ none → ∃ i,i < n ∧ i ≠ r ∧ ci (hd i) = some b
def hdF (hd:Nat → Value) (id' r k:Nat):Nat → Nat → HV:=fun i _=>bif Nat.beq i r then .ref id' k else .p (.raw (hd i))
theorem abh (hd:Nat → Value) (id' r k j:Nat):hdF hd id' r k r j = .ref id' k:=by simp [hdF]
theorem aag {hd:Nat → Value} {id' r k i j:Nat} (h:i ≠ r):hdF hd id' r k i j = .p (.raw (hd i)):=by
 have:Nat.beq i r = false:=by rw [Bool.eq_false_iff];exact fun hb=>h (Nat.eq_of_beq_eq_true hb)
 simp [hdF,this]
theorem adl {imm:Imm} {s':Nat} {f:Nat → Nat → PV} {a:Option Addr}:bc imm (.sl 0 s' true f) (.slice a 0 0):=⟨a,0,rfl,Nat.le_refl _,Nat.zero_le _,fun _=>rfl,fun h=>absurd h (Nat.lt_irrefl 0)⟩
theorem ak.split (h:ak w0 nt c s a w) {id id' idb r n:Nat} {e et:TypeId} {es:Nat} {m:Nat → Nat} {g:Nat → Nat → Nat → PV} (ho:s.o id = some (.nest e et es n m g none)) (hid:id < 1000) (hr:r < n) (hraw:∀ i q j,i < n → q < m i → j < es → ∃ v,g i q j = .raw v)
 (hm':NM s id') (hn':s.o id' = none) (hmb:NM s idb) (hnb:s.o idb = none) (hne:id' ≠ idb) :
 ∃ hd B c',agt et es n r m g hd B ∧ c'.old = c.old ∧ ak w0 nt c' ⟨s.t,fun q=>if q = idb then some (.bun B) else if q = id' then some (.arr true es et (m r) (g r)) else if q = id then some (.arrh 1 e n [id'] (hdF hd id' r (m r))) else s.o q⟩ a w:=by
 classical
 have hnk:jl 0 c s.o w id e et es n m g none:=h.objs id _ ho
 have hid':id' ≠ id:=by rintro rfl;rw [ho] at hn';cases hn'
 have hidb:idb ≠ id:=by rintro rfl;rw [ho] at hnb;cases hnb
 let hd:Nat → Value:=fun i=>c.rows id i
 let B:Nat → Option Obj:=fun b=>if ∃ i,i < n ∧ i ≠ r ∧ ci (c.rows id i) = some b then w.heap[b]? else none
 have hB:∀ i b,i < n → i ≠ r → ci (c.rows id i) = some b → B b = w.heap[b]?:=fun i b h1 h2 h3=>if_pos ⟨i,h1,h2,h3⟩
 have hlen:=hnk.len
 simp only [li] at hlen
 have hbf:agt et es n r m g hd B:=by
  refine ⟨hnk.pos,by omega,fun i hi hir=>?_,fun i i' b h1 h2 h3 h4 h5 h6=>(hnk.apart i b h1 h5).2 i' h3 h6,fun b hb=>?_⟩
  · rcases hnk.row i hi with r0 | ⟨ys,r1,r2⟩
    · exact .inl r0
    rcases fb r1 with r0 | ⟨b,cap,rv,rb⟩
    · exact .inl r0
    rcases r1.2 with ⟨hv,_⟩ | ⟨b',cap',cur,hv,_,hh,q1,q2,q3,q4⟩
    · grind
    rw [rv] at hv
    simp only [Value.slice.injEq,Option.some.injEq,Addr.mk.injEq,and_true,true_and] at hv
    obtain ⟨rfl,rfl⟩:=hv
    refine .inr ⟨b,cap,cur,rv,rb,(hB i b hi hir rb).trans hh,q1,q2,q3,fun q j hq hj=>?_⟩
    obtain ⟨x,hx,hxr⟩:=r2 q j hq hj
    obtain ⟨v,hv⟩:=hraw i q j hi hq hj
    rw [hv] at hxr
    obtain ⟨e1,e2⟩:=hxr
    grind
  grind
 obtain ⟨xt,t1,t2,_⟩:∃ xs,w.ownsRow 0 e 1 (c.own id) (n + li none) xs ∧ (∀ i,i < n → xs[i]? = some (c.rows id i)) ∧ ∀ p,(none:Option (Nat × Nat)) = some p → ∃ x,xs[n]? = some x ∧ bq c s.o (.ref p.1 p.2) x:=by
  rcases hnk.top with ⟨h1,_⟩ | h1
  · grind
  exact h1
 have t1:w.ownsRow 0 e 1 (c.own id) n xt:=t1
 obtain ⟨bt,capt,ht0,htc⟩:∃ b cap,c.own id = .slice (some ⟨b,0,none⟩) n cap ∧ ci (c.own id) = some b:=by
  rcases fb t1 with ⟨h1,_⟩ | h1
  · omega
  exact h1
 have hbs:∀ b,er (c.own id) b ↔ b = bt:=fun b=>by rw [ht0];simp [er,c3,eq_comm]
 have hrow1:∀ i,i < n → (c.rows id i).oneCell' = true:=fun i hi=>by
  rcases hnk.row i hi with ⟨_,x,h1⟩ | ⟨ys,h1,_⟩
  · rw [h1];rfl
  rcases h1.2 with ⟨h1,_⟩ | ⟨_,_,_,h1,_⟩ <;> (rw [h1];rfl)
 let blr:Nat → Prop:=fun b=>ci (c.rows id r) = some b
 let own':Nat → Value:=fun q=>if q = id' then c.rows id r else c.own q
 let blk':Nat → Nat → Prop:=fun q=>if q = idb then (fun b=>B b ≠ none) else if q = id' then blr else if q = id then er (c.own id) else c.blk q
 let o':aw:=fun q=>if q = idb then some (.bun B) else if q = id' then some (.arr true es et (m r) (g r)) else if q = id then some (.arrh 1 e n [id'] (hdF hd id' r (m r))) else s.o q
 have ob1:o' idb = some (.bun B):=if_pos rfl
 have ob2:o' id' = some (.arr true es et (m r) (g r)):=by show (if id' = idb then _ else if id' = id' then _ else _) = _;rw [if_neg hne,if_pos rfl]
 have ob3:o' id = some (.arrh 1 e n [id'] (hdF hd id' r (m r))):=by show (if id = idb then _ else if id = id' then _ else if id = id then _ else _) = _;rw [if_neg (Ne.symm hidb),if_neg (Ne.symm hid'),if_pos rfl]
 have bk1:blk' idb = fun b=>B b ≠ none:=if_pos rfl
 have bk2:blk' id' = blr:=by show (if id' = idb then _ else if id' = id' then _ else _) = _;rw [if_neg hne,if_pos rfl]
 have bk3:blk' id = er (c.own id):=by show (if id = idb then _ else if id = id' then _ else if id = id then _ else _) = _;rw [if_neg (Ne.symm hidb),if_neg (Ne.symm hid'),if_pos rfl]
 have ow2:own' id' = c.rows id r:=if_pos rfl
 have ow3:own' id = c.own id:=if_neg (Ne.symm hid')
 have hDc:∀ q,(q = id ∨ q = id' ∨ q = idb) → ∀ ob,o' q = some ob → ∀ b,blk' q b → c.blk id b:=fun q hq ob hob b hb=>by
  rcases hq with rfl | rfl | rfl
  · rw [bk3] at hb
    exact (hnk.blks b).2 (.inl (by rw [(hbs b).1 hb];exact htc))
  · rw [bk2] at hb
    exact (hnk.blks b).2 (.inr ⟨r,hr,hb⟩)
  rw [bk1] at hb
  obtain ⟨i,h1,h2,h3⟩:=hbf.blk b hb
  exact (hnk.blks b).2 (.inr ⟨i,h1,h3⟩)
 refine ⟨hd,B,{ old:=c.old,imm:=c.imm,tab:=c.tab,own:=own',blk:=blk',rows:=c.rows },hbf,rfl,h.redo (fun q=>q = id ∨ q = id' ∨ q = idb) own' blk' c.rows o' ?_ ?_ ?_ ?_ ?_ ?_⟩
 · rintro q (rfl | rfl | rfl)
   · exact hid
   · exact hm'.2.2
   exact hmb.2.2
 · grind
 · rintro q (rfl | rfl | rfl)
   · exact .inr (.inr (.inr ⟨_,_,1,e,n,n,ho,rfl,ob3,rfl,Nat.le_refl _,fun _=>ow3,fun _ _ _ _ _ _ _ hb=>by cases hb⟩))
   · exact .inl ⟨hm'.1,fun id0 ob _ h0=>hm'.2.1 id0 ob h0⟩
   exact .inl ⟨hmb.1,fun id0 ob _ h0=>hmb.2.1 id0 ob h0⟩
 · rintro q ob (rfl | rfl | rfl) hq
   · rw [ob3] at hq
     cases hq
     refine ⟨Nat.one_pos,by omega,fun i j k hi hj hk=>?_, .inl ⟨by show blk' q = er (own' q);rw [bk3,ow3],xt,by show w.ownsRow 0 e 1 (own' q) n xt;rw [ow3];exact t1,fun i j hi hj=>?_⟩⟩
     · by_cases hir:i = r
       · subst hir;rw [abh] at hk;simp only [HV.men] at hk;simp [hk]
       rw [aag hir] at hk;exact hk.elim
     obtain rfl:j = 0:=by omega
     refine ⟨c.rows q i,by rw [Nat.mul_one,Nat.add_zero];exact t2 i hi, ?_⟩
     by_cases hir:i = r
     · subst hir
       rw [abh]
       refine ⟨hrow1 i hi,fun l hl=>?_,fun ob0 s0 e0 n0 ho0 hd0=>?_⟩
       · grind
       rw [ob2] at ho0
       cases ho0
       simp only [af.dim,Option.some.injEq,Prod.mk.injEq] at hd0
       grind
     rw [aag hir]
     exact ⟨rfl,hrow1 i hi⟩
   · rw [ob2] at hq
     cases hq
     refine ⟨hnk.pos,hnk.lens r hr, ?_⟩
     have hemp:(m r = 0 ∧ ∃ x,c.rows id r = .slice x 0 0) → (true = false ∨ m r = 0) ∧ blk' q = noB ∧ bc c.imm (.sl (m r) es true (g r)) (own' q):=fun ⟨h1,x,h2⟩=>by
      refine ⟨.inr h1, ?_, ?_⟩
      · rw [bk2]
        funext b
        show (ci (c.rows id r) = some b) = False
        rw [h2]
        cases x <;> simp [ci]
      rw [ow2,h2,h1];exact adl
     rcases hnk.row r hr with r0 | ⟨ys,r1,r2⟩
     · grind
     rcases fb r1 with r0 | ⟨b,cap,rv,rb⟩
     · grind
     have hb2:blk' q = er (own' q):=by
      rw [bk2]
      funext b'
      show (ci (c.rows id r) = some b') = (c3 (own' q) = some b')
      rw [ow2,rb,rv]
      rfl
     grind
   rw [ob1] at hq
   cases hq
   refine ⟨fun b hb=>by have hb:blk' q b:=hb;rw [bk1] at hb;exact hb,fun b x hx=>?_⟩
   have hne2:B b ≠ none:=fun e=>by rw [e] at hx;cases hx
   obtain ⟨i,h1,h2,h3⟩:=hbf.blk b hne2
   have hc:c.blk id b:=(hnk.blks b).2 (.inr ⟨i,h1,h3⟩)
   rw [hB i b h1 h2 h3] at hx
   obtain ⟨y,hy,hyd⟩:=(h.objs id _ ho).data hc
   grind
 · intro q ob b hq hob hb
   exact ⟨id,_, .inl rfl,ho,hDc q hq ob hob b hb⟩
 have x12:∀ b,blk' id b → blk' id' b → False:=fun b h1 h2=>by
  rw [bk3] at h1;rw [bk2] at h2
  exact (hnk.apart r b hr h2).1 (by rw [(hbs b).1 h1];exact htc)
 have x13:∀ b,blk' id b → blk' idb b → False:=fun b h1 h2=>by
  rw [bk3] at h1;rw [bk1] at h2
  obtain ⟨i,q1,q2,q3⟩:=hbf.blk b h2
  exact (hnk.apart i b q1 q3).1 (by rw [(hbs b).1 h1];exact htc)
 have x23:∀ b,blk' id' b → blk' idb b → False:=fun b h1 h2=>by
  rw [bk2] at h1;rw [bk1] at h2
  obtain ⟨i,q1,q2,q3⟩:=hbf.blk b h2
  exact q2 ((hnk.apart r b hr h1).2 i q1 q3)
 rintro q q' ob ob' b (rfl | rfl | rfl) (rfl | rfl | rfl) _ _ hb hb'
 · rfl
 · simp_all
 · simp_all
 · simp_all
 · rfl
 · grind
 · simp_all
 · grind
 rfl
theorem ak.renN (h:ak w0 nt c s a w) {id id2 n:Nat} {e et:TypeId} {es:Nat} {m:Nat → Nat} {g:Nat → Nat → Nat → PV} (ho:s.o id = some (.nest e et es n m g none)) (hid:id < 1000) (hm2:NM s id2) (hn2:s.o id2 = none) :
 ∃ c',c'.old = c.old ∧ c'.own id2 = c.own id ∧ ak w0 nt c' ⟨s.t,fun q=>if q = id2 then some (.nest e et es n m g none) else if q = id then none else s.o q⟩ a w:=by
 have y1:id2 ≠ id:=by rintro rfl;rw [ho] at hn2;cases hn2
 have hnk:jl 0 c s.o w id e et es n m g none:=h.objs id _ ho
 let own':Nat → Value:=fun q=>if q = id2 then c.own id else c.own q
 let blk':Nat → Nat → Prop:=fun q=>if q = id2 then c.blk id else c.blk q
 let rows':Nat → Nat → Value:=fun q=>if q = id2 then c.rows id else c.rows q
 let o':aw:=fun q=>if q = id2 then some (.nest e et es n m g none) else if q = id then none else s.o q
 have o2:o' id2 = some (.nest e et es n m g none):=if_pos rfl
 have o1:o' id = none:=by
  grind
 have w2:own' id2 = c.own id:=if_pos rfl
 have k2:blk' id2 = c.blk id:=if_pos rfl
 have s2:rows' id2 = c.rows id:=if_pos rfl
 refine ⟨{ old:=c.old,imm:=c.imm,tab:=c.tab,own:=own',blk:=blk',rows:=rows' },rfl,w2,h.redo (fun q=>q = id2 ∨ q = id) own' blk' rows' o' ?_ ?_ ?_ ?_ ?_ ?_⟩
 · rintro q (rfl | rfl)
   · exact hm2.2.2
   exact hid
 · grind
 · rintro q (rfl | rfl)
   · exact .inl ⟨hm2.1,fun id0 ob _ h0=>hm2.2.1 id0 ob h0⟩
   exact .inr (.inl o1)
 · rintro q ob (rfl | rfl) hob'
   · rw [o2] at hob'
     cases hob'
     obtain ⟨p1,p2,p3,p4,p5,p6,p7⟩:=hnk
     have z4:∀ b,blk' q b ↔ (ci (own' q) = some b ∨ ∃ i,i < n ∧ ci (rows' q i) = some b):=by rw [k2,w2,s2];exact p4
     have z5:∀ i b,i < n → ci (rows' q i) = some b → ci (own' q) ≠ some b ∧ ∀ i',i' < n → ci (rows' q i') = some b → i' = i:=by rw [w2,s2];exact p5
     have z6:∀ i,i < n → (m i = 0 ∧ ∃ a,rows' q i = .slice a 0 0) ∨ ∃ ys,w.ownsRow 0 et es (rows' q i) (m i) ys ∧ ∀ r j,r < m i → j < es → ∃ x,ys[r * es + j]? = some x ∧ bc c.imm (g i r j) x:=by rw [s2];exact p6
     have z7:(n + li none = 0 ∧ ∃ a,own' q = .slice a 0 0) ∨ ∃ xs,w.ownsRow 0 e 1 (own' q) (n + li none) xs ∧ ∀ i,i < n → xs[i]? = some (rows' q i):=by
      grind
     exact ⟨p1,p2,p3,z4,z5,z6,z7.imp (fun z=>z) fun ⟨xs,h1,h2⟩=>⟨xs,h1,h2,fun p hp=>by cases hp⟩⟩
   grind
 · grind
 grind
end
section
variable {ro:Option Nat} {P:Program} {nt:Nat} {st:HSt} {Q:Exit → HSt → Prop} {co:Code}
theorem l7 {t:List (Nat × Option HR)} {l:List (Nat × Option af)} {o':aw} (h:∀ q,bs l q = o' q):HSt.den ⟨t,l⟩ = ⟨(HSt.den ⟨t,l⟩).t,o'⟩:=by
 unfold HSt.den
 congr 1
 exact funext h
end
end
section
open Go.RowKit
def ajq (B:Nat → Option Obj) (b:Nat) (x:Option Obj):Nat → Option Obj:=fun q=>if q = b then x else B q
def wl (o:aw) (x y:HV):Prop:=x = y ∨ ∃ id d v b ob,o id = some (.ex d v b ob) ∧ v.oneCell' = true ∧ ((x = .ref id 0 ∧ y = .p (.raw v)) ∨ (x = .p (.raw v) ∧ y = .ref id 0))
def a2x (o:aw):List HV → List HV → Prop
 | [],[]=>True
 | x :: xs,y :: ys=>wl o x y ∧ a2x o xs ys
 | _,_=>False
def ahi (o:aw):HC → HC → Prop
 | .one x, .one y=>wl o x y
 | .agg l, .agg m=>a2x o l m
 | _,_=>False
def afz (o:aw):HR → HR → Prop
 | .v x, .v y=>ahi o x y
 | _,_=>False
theorem wl.to {o:aw} {id d:Nat} {v:Value} {b:Nat} {ob:Obj} (h:o id = some (.ex d v b ob)) (h1:v.oneCell' = true):wl o (.ref id 0) (.p (.raw v)):=.inr ⟨id,d,v,b,ob,h,h1, .inl ⟨rfl,rfl⟩⟩
theorem wl.from {o:aw} {id d:Nat} {v:Value} {b:Nat} {ob:Obj} (h:o id = some (.ex d v b ob)) (h1:v.oneCell' = true):wl o (.p (.raw v)) (.ref id 0):=.inr ⟨id,d,v,b,ob,h,h1, .inr ⟨rfl,rfl⟩⟩
section
variable {w0:World} {nt:Nat} {c:Ctx} {s:S} {a:Act} {w:World}
theorem wl.rep (h:ak w0 nt c s a w) {x y:HV} {u:Value} (hs:wl s.o x y) (hr:bq c s.o x u):bq c s.o y u:=by
 rcases hs with rfl | ⟨id,d,v,b,ob,ho,h1,⟨rfl,rfl⟩ | ⟨rfl,rfl⟩⟩
 · exact hr
 · have h2:=(h.objs id _ ho).1
   obtain ⟨h3,_,h4⟩:=hr
   have h5:=(h4 _ _ _ _ ho rfl).2 rfl
   exact ⟨h5.trans h2,h1⟩
 have h2:=(h.objs id _ ho).1
 obtain ⟨h3,_⟩:=hr
 refine ⟨by rw [h3];exact h1,fun l hl=>(by rw [ho] at hl;cases hl),fun ob2 s2 e2 n2 ho2 hd2=>?_⟩
 rw [ho] at ho2
 cases ho2
 simp only [af.dim,Option.some.injEq,Prod.mk.injEq] at hd2
 obtain ⟨rfl,rfl,rfl⟩:=hd2
 exact ⟨Nat.le_refl _,fun _=>h3.trans h2.symm⟩
theorem a2x.rep (h:ak w0 nt c s a w):∀ {x y:List HV} {u:List Value},a2x s.o x y → bh c s.o x u → bh c s.o y u
 | [],[],_,_,hr=>hr
 | _ :: _,_ :: _,_ :: _,hs,hr=>⟨hs.1.rep h hr.1,a2x.rep h hs.2 hr.2⟩
 | [],_ :: _,_,hs,_=>hs.elim
 | _ :: _,[],_,hs,_=>hs.elim
 | _ :: _,_ :: _,[],_,hr=>hr.elim
theorem afz.rep (h:ak w0 nt c s a w) {x y:HR} {u:Value} (hs:afz s.o x y) (hr:ax c s.o x u):ax c s.o y u:=by
 match x,y,hs with
 | .v (.one x), .v (.one y),hs=>exact wl.rep h hs hr
 | .v (.agg l), .v (.agg m),hs =>
  obtain ⟨us,e,hl⟩:=hr
  exact ⟨us,e,a2x.rep h hs hl⟩
end
section
variable {ro:Option Nat} {P:Program} {nt:Nat} {co:Code} {st:HSt} {Q:Exit → HSt → Prop}
end
end
section
open Go.RowKit
def vHC:Value → HC
 | .agg l=>.agg (l.toList.map fun v=>.p (.raw v))
 | v=>.one (.p (.raw v))
def vOk:Value → Bool
 | .agg l=>l.toList.all Value.oneCell'
 | v=>v.oneCell'
def aa2:List HV → Option (List Value)
 | []=>some []
 | .p (.raw v) :: r=>(aa2 r).map (v :: ·)
 | _=>none
def kOf:HR → Option Value
 | .v (.one (.p (.raw v)))=>some v
 | .v (.agg l)=>(aa2 l).map fun vs=>.agg vs.toArray
 | _=>none
structure a8h (P:Program) (kt:TypeId) (es:Array MapEntry) (clock:Nat):Prop where
 st:Go.MapKept.Stamped es clock
 mx:es.size ≤ maxLen
 ky:∀ x ∈ es.toList,∃ l,keyOf P kt x.key = some l
 vl:∀ x ∈ es.toList,vOk x.key = true ∧ vOk x.val = true
theorem a8h.nil {P:Program} {kt:TypeId} {clock:Nat}:a8h P kt #[] clock:=⟨Go.MapKept.stamped_empty clock,by simp,fun x hx=>by simp at hx,fun x hx=>by simp at hx⟩
theorem a8h.inj {P:Program} {kt:TypeId} {es:Array MapEntry} {clock:Nat} (h:a8h P kt es clock) {x y:MapEntry} (hx:x ∈ es.toList) (hy:y ∈ es.toList) (e:x.key = y.key):x = y:=by
 have hp:=((Go.MapKept.stamped_iff es clock).1 h.st).2.2
 obtain ⟨i,hi,rfl⟩:=List.getElem_of_mem hx
 obtain ⟨j,hj,rfl⟩:=List.getElem_of_mem hy
 rcases Nat.lt_trichotomy i j with h1 | h1 | h1
 · exact absurd e (List.pairwise_iff_getElem.1 hp i j hi hj h1)
 · subst h1;rfl
 exact absurd e.symm (List.pairwise_iff_getElem.1 hp j i hj hi h1)
section
variable {P:Program} {nt:Nat} {ops:Array Oper} {st:HSt} {k:Nat} {o:Oper} {L:List Nat} {Q:HSt → Prop} {x ix:Operand} {mid j b clock d:Nat} {es:Array MapEntry} {t kt et:TypeId}
structure ajp (es es':Array MapEntry) (kv v:Value):Prop where
 to:∀ x' ∈ es'.toList,(x' ∈ es.toList ∧ x'.key ≠ kv) ∨ (x'.key = kv ∧ x'.val = v)
 at_:∃ x' ∈ es'.toList,x'.key = kv ∧ x'.val = v
 old:∀ x ∈ es.toList,x.key ≠ kv → ∃ x' ∈ es'.toList,x'.key = x.key ∧ x'.val = x.val
 sz:es'.size ≤ es.size + 1
end
end
section
open Go.RowKit
abbrev d8:=Value → (Nat → Prop) → (Nat → Option Obj) → Prop
noncomputable def rst (bk:Nat → Prop) (h:Nat → Option Obj):Nat → Option Obj:=fun b=>by classical exact if bk b then h b else none
theorem uo {bk:Nat → Prop} {h:Nat → Option Obj} {b:Nat} (hb:bk b):rst bk h b = h b:=by unfold rst;exact if_pos hb
theorem pf {bk bk1:Nat → Prop} {w:World} (hs:∀ b,bk1 b → bk b):rst bk1 (onB bk w) = onB bk1 w:=by
 funext b
 by_cases hb:bk1 b
 · rw [uo hb,rg hb,rg (hs b hb)]
 unfold rst onB
 grind
theorem qt {bk bk1:Nat → Prop} {h:Nat → Option Obj} (hs:∀ b,bk1 b → bk b):rst bk1 (rst bk h) = rst bk1 h:=by
 funext b
 by_cases hb:bk1 b
 · rw [uo hb,uo hb,uo (hs b hb)]
 unfold rst
 grind
def Bag:List (Value × d8) → (Nat → Prop) → (Nat → Option Obj) → Prop
 | [],bk,_=>∀ b,¬ bk b
 | (v,R) :: L,bk,h=>v.oneCell' = true ∧ ∃ bk1 bk2:Nat → Prop,(∀ b,bk b ↔ bk1 b ∨ bk2 b) ∧ (∀ b,bk1 b → bk2 b → False) ∧ R v bk1 (rst bk1 h) ∧ Bag L bk2 (rst bk2 h)
def gz (v:Value) (R:d8):d8:=fun u bk h=>u = v ∧ R u bk h
def en (L:List (Value × d8)):d8:=fun _ bk h=>Bag L bk h
theorem Bag.swap {x y:Value × d8} {L:List (Value × d8)} {bk:Nat → Prop} {h:Nat → Option Obj} (hb:Bag (x :: y :: L) bk h):Bag (y :: x :: L) bk h:=by
 obtain ⟨v,R⟩:=x
 obtain ⟨v2,R2⟩:=y
 obtain ⟨h1,b1,b2,i1,d1,r1,h2,b3,b4,i2,d2,r2,hL⟩:=hb
 have s3:∀ b,b3 b → b2 b:=fun b hb=>(i2 b).2 (.inl hb)
 have s4:∀ b,b4 b → b2 b:=fun b hb=>(i2 b).2 (.inr hb)
 rw [qt s3] at r2
 rw [qt s4] at hL
 refine ⟨h2,b3,fun b=>b1 b ∨ b4 b,fun b=>?_,fun b hb3 hb=>?_,r2,h1,b1,b4,fun b=>Iff.rfl,fun b hb1 hb4=>d1 b hb1 (s4 b hb4), ?_, ?_⟩
 · grind
 · grind
 · rw [qt fun b hb=>.inl hb];exact r1
 rw [qt fun b hb=>.inr hb];exact hL
theorem Bag.snoc {x:Value × d8}:∀ {L:List (Value × d8)} {bk:Nat → Prop} {h:Nat → Option Obj},Bag (x :: L) bk h → Bag (L ++ [x]) bk h
 | [],_,_,hb=>hb
 | y :: L,bk,h,hb=>by
  obtain ⟨v,R⟩:=y
  obtain ⟨h1,b1,b2,i1,d1,r1,hL⟩:=hb.swap
  exact ⟨h1,b1,b2,i1,d1,r1,Bag.snoc hL⟩
section
variable {w0:World} {nt:Nat} {c:Ctx} {s:S} {a:Act} {w:World}
theorem ak.bagIn (h:ak w0 nt c s a w) {id idb s1 n1 s2 n2:Nat} {e1 e2:TypeId} {v:Value} {R:d8} {L:List (Value × d8)} (ho:s.o id = some (.opq s1 e1 n1 (gz v R))) (hob:s.o idb = some (.opq s2 e2 n2 (en L))) (hne:idb ≠ id) (hid:id < 1000) (hidb:idb < 1000) :
 ∃ c',c'.old = c.old ∧ ak w0 nt c' ⟨s.t,fun q=>if q = id then none else if q = idb then some (.opq s2 e2 n2 (en (L ++ [(v,R)]))) else s.o q⟩ a w:=by
 obtain ⟨a1,a2,a3,a4⟩:=h.objs id _ ho
 obtain ⟨b1,b2,b3⟩:=h.objs idb _ hob
 let bk:Nat → Prop:=fun b=>c.blk id b ∨ c.blk idb b
 let o':aw:=fun q=>if q = id then none else if q = idb then some (.opq s2 e2 n2 (en (L ++ [(v,R)]))) else s.o q
 have ob1:o' id = none:=if_pos rfl
 have ob2:o' idb = some (.opq s2 e2 n2 (en (L ++ [(v,R)]))):=(if_neg hne).trans (if_pos rfl)
 refine ⟨{ old:=c.old,imm:=c.imm,tab:=c.tab,own:=c.own,blk:=fun q=>if q = idb then bk else c.blk q,rows:=c.rows },rfl,h.redo (fun q=>q = id ∨ q = idb) _ _ _ o' ?_ ?_ ?_ ?_ ?_ ?_⟩
 · grind
 · grind
 · rintro q (rfl | rfl)
   · exact .inr (.inl ob1)
   exact .inr (.inr (.inr ⟨_,_,s2,e2,n2,n2,hob,rfl,ob2,rfl,Nat.le_refl _,fun _=>rfl,fun _ _ _ _ _ _ _ hb=>by cases hb⟩))
 · rintro q ob (rfl | rfl) hq
   · grind
   rw [ob2] at hq
   cases hq
   have hbk:(fun q'=>if q' = q then bk else c.blk q') q = bk:=if_pos rfl
   refine ⟨?_,b2, ?_⟩
   · grind
   show en _ _ ((fun q'=>if q' = q then bk else c.blk q') q) (onB ((fun q'=>if q' = q then bk else c.blk q') q) w)
   rw [hbk]
   refine Bag.snoc ⟨by rw [← a3];exact a2,c.blk id,c.blk q,fun b=>Iff.rfl,fun b hb1 hb2=>hne (h.inj _ _ _ _ b hob ho hb2 hb1), ?_, ?_⟩
   · rw [pf fun b hb=>.inl hb,← a3];exact a4
   rw [pf fun b hb=>.inr hb];exact b3
 · rintro q ob b (rfl | rfl) hq hb
   · grind
   grind
 grind
theorem ak.bagOut (h:ak w0 nt c s a w) {id idb s2 n2:Nat} {e2:TypeId} (s1 n1:Nat) (e1:TypeId) {v:Value} {R:d8} {L:List (Value × d8)} (hob:s.o idb = some (.opq s2 e2 n2 (en ((v,R) :: L)))) (hidb:idb < 1000) (hm:NM s id) (hn:s.o id = none) :
 ∃ c',c'.old = c.old ∧ ak w0 nt c' ⟨s.t,fun q=>if q = id then some (.opq s1 e1 n1 (gz v R)) else if q = idb then some (.opq s2 e2 n2 (en L)) else s.o q⟩ a w:=by
 have hne:idb ≠ id:=by rintro rfl;rw [hob] at hn;cases hn
 obtain ⟨b1,b2,hv1,k1,k2,ki,kd,kR,kL⟩:=h.objs idb _ hob
 have s1':∀ b,k1 b → c.blk idb b:=fun b hb=>(ki b).2 (.inl hb)
 have s2':∀ b,k2 b → c.blk idb b:=fun b hb=>(ki b).2 (.inr hb)
 rw [pf s1'] at kR
 rw [pf s2'] at kL
 let o':aw:=fun q=>if q = id then some (.opq s1 e1 n1 (gz v R)) else if q = idb then some (.opq s2 e2 n2 (en L)) else s.o q
 have ob1:o' id = some (.opq s1 e1 n1 (gz v R)):=if_pos rfl
 have ob2:o' idb = some (.opq s2 e2 n2 (en L)):=(if_neg hne).trans (if_pos rfl)
 let blk':Nat → Nat → Prop:=fun q=>if q = id then k1 else if q = idb then k2 else c.blk q
 let own':Nat → Value:=fun q=>if q = id then v else c.own q
 have bk1:blk' id = k1:=if_pos rfl
 have bk2:blk' idb = k2:=(if_neg hne).trans (if_pos rfl)
 have ow1:own' id = v:=if_pos rfl
 have ow2:own' idb = c.own idb:=if_neg hne
 refine ⟨{ old:=c.old,imm:=c.imm,tab:=c.tab,own:=own',blk:=blk',rows:=c.rows },rfl,h.redo (fun q=>q = id ∨ q = idb) own' blk' c.rows o' ?_ ?_ ?_ ?_ ?_ ?_⟩
 · rintro q (rfl | rfl)
   · exact hm.2.2
   exact hidb
 · grind
 · rintro q (rfl | rfl)
   · exact .inl ⟨hm.1,fun id0 ob _ h0=>hm.2.1 id0 ob h0⟩
   exact .inr (.inr (.inr ⟨_,_,s2,e2,n2,n2,hob,rfl,ob2,rfl,Nat.le_refl _,fun _=>ow2,fun _ _ _ _ _ _ _ hb=>by cases hb⟩))
 · rintro q ob (rfl | rfl) hq
   · rw [ob1] at hq
     cases hq
     refine ⟨?_, ?_, ?_⟩
     · grind
     · grind
     show gz v R (own' q) (blk' q) (onB (blk' q) w)
     rw [bk1,ow1]
     exact ⟨rfl,kR⟩
   rw [ob2] at hq
   cases hq
   refine ⟨?_, ?_, ?_⟩
   · grind
   · grind
   show en L (own' q) (blk' q) (onB (blk' q) w)
   rw [bk2]
   exact kL
 · grind
 grind
theorem ak.pin (h:ak w0 nt c s a w) {id s1 n1:Nat} {e1:TypeId} {R:d8} (ho:s.o id = some (.opq s1 e1 n1 R)) (hid:id < 1000) :
 (c.own id).oneCell' = true ∧ ak w0 nt c ⟨s.t,fun q=>if q = id then some (.opq s1 e1 n1 (gz (c.own id) R)) else s.o q⟩ a w:=by
 obtain ⟨a1,a2,a3⟩:=h.objs id _ ho
 have ob1:(fun q=>if q = id then some (af.opq s1 e1 n1 (gz (c.own id) R)) else s.o q) id = some (.opq s1 e1 n1 (gz (c.own id) R)):=if_pos rfl
 refine ⟨a2,h.redo (fun q=>q = id) c.own c.blk c.rows _ ?_ ?_ ?_ ?_ ?_ ?_⟩
 · grind
 · grind
 · rintro q rfl
   exact .inr (.inr (.inr ⟨_,_,s1,e1,n1,n1,ho,rfl,ob1,rfl,Nat.le_refl _,fun _=>rfl,fun _ _ _ _ _ _ _ hb=>by cases hb⟩))
 · rintro q ob rfl hq
   rw [if_pos rfl] at hq
   cases hq
   exact ⟨a1,a2,rfl,a3⟩
 · grind
 grind
def JSl (s:Nat) (e:TypeId) (m:Nat) (g:Nat → Nat → PV):d8:=fun v bk h=>(m = 0 ∧ (∃ a,v = .slice a 0 0) ∧ ∀ b,¬ bk b) ∨
 ∃ b cap cur,v = .slice (some ⟨b,0,none⟩) m cap ∧ 0 < cap ∧ (∀ b',bk b' ↔ b' = b) ∧ h b = some (.cells cur e (0,0)) ∧ m ≤ cap ∧ cap ≤ maxLen ∧ cur.size = cap * s ∧ ∀ i j,i < m → j < s → ∃ x,cur[i * s + j]? = some x ∧ bc (fun _=>none) (g i j) x
def iz:PV → Bool
 | .raw _=>true
 | .any=>true
 | _=>false
theorem mn {m m':Imm} {x:PV} {u:Value} (h:iz x = true) (hr:bc m x u):bc m' x u:=by
 cases x <;> first | exact hr | cases h
theorem ak.arrOpq (h:ak w0 nt c s a w) {id s1 n1:Nat} {e1:TypeId} {f:Nat → Nat → PV} (ho:s.o id = some (.arr true s1 e1 n1 f)) (hf:∀ i j,i < n1 → j < s1 → iz (f i j) = true) (hid:id < 1000) :
 ∃ c',c'.old = c.old ∧ ak w0 nt c' ⟨s.t,fun q=>if q = id then some (.opq s1 e1 n1 (JSl s1 e1 n1 f)) else s.o q⟩ a w:=by
 obtain ⟨a1,a2,a3⟩:=h.objs id _ ho
 have key:∃ bk:Nat → Prop,(∀ b,bk b → c.blk id b) ∧ (∀ b,bk b → 0 ≤ b ∧ ∃ x,w.heap[b]? = some x ∧ ne x = true) ∧ (c.own id).oneCell' = true ∧ JSl s1 e1 n1 f (c.own id) bk (onB bk w):=by
  rcases a3 with ⟨hblk,xs,hrow,hcell⟩ | ⟨hz,hb,hsl⟩
  · rcases fb hrow with ⟨hm0,a0,hv⟩ | ⟨b,cap,hv,hcb⟩
    · exact ⟨fun _=>False,fun _ hb=>hb.elim,fun _ hb=>hb.elim,by rw [hv];rfl, .inl ⟨hm0,⟨a0,hv⟩,fun _ hb=>hb⟩⟩
    have hcap:0 < cap:=by
     rcases Nat.eq_zero_or_pos cap with h0 | h0
     · subst h0;rw [hv] at hcb;simp [ci] at hcb
     exact h0
    rcases hrow.2 with ⟨hv',_⟩ | ⟨b',cap',cur,hv',_,hh,q1,q2,q3,q4⟩
    · grind
    rw [hv] at hv'
    simp only [Value.slice.injEq,Option.some.injEq,Addr.mk.injEq,and_true,true_and] at hv'
    obtain ⟨rfl,rfl⟩:=hv'
    refine ⟨fun b''=>b'' = b,fun b'' hb=>by subst hb;rw [hblk,hv];rfl,fun b'' hb=>by subst hb;exact ⟨Nat.zero_le _,_,hh,rfl⟩,by rw [hv];rfl, .inr ⟨b,cap,cur,hv,hcap,fun _=>Iff.rfl,by rw [rg (bk:=fun b''=>b'' = b) rfl];exact hh,q1,q2,q3,fun i j hi hj=>?_⟩⟩
    obtain ⟨x,hx,hr⟩:=hcell i j hi hj
    have hlt:i * s1 + j < n1 * s1:=by
     grind
    rw [← q4,List.getElem?_take,if_pos hlt,Array.getElem?_toList] at hx
    exact ⟨x,hx,mn (hf i j hi hj) hr⟩
  obtain rfl:n1 = 0:=by rcases hz with hz | hz;cases hz;exact hz
  obtain ⟨a0,cap,e1,_,_,e2,_⟩:=hsl
  obtain rfl:=e2 rfl
  exact ⟨fun _=>False,fun _ hb=>hb.elim,fun _ hb=>hb.elim,by rw [e1];rfl, .inl ⟨rfl,⟨a0,e1⟩,fun _ hb=>hb⟩⟩
 obtain ⟨bk,k1,k2,k3,k4⟩:=key
 have ob1:(fun q=>if q = id then some (af.opq s1 e1 n1 (JSl s1 e1 n1 f)) else s.o q) id = some (.opq s1 e1 n1 (JSl s1 e1 n1 f)):=if_pos rfl
 refine ⟨{ old:=c.old,imm:=c.imm,tab:=c.tab,own:=c.own,blk:=fun q=>if q = id then bk else c.blk q,rows:=c.rows },rfl,h.redo (fun q=>q = id) _ _ _ _ ?_ ?_ ?_ ?_ ?_ ?_⟩
 · grind
 · grind
 · rintro q rfl
   exact .inr (.inr (.inr ⟨_,_,s1,e1,n1,n1,ho,rfl,ob1,rfl,Nat.le_refl _,fun _=>rfl,fun _ _ _ _ _ _ _ hb=>by cases hb⟩))
 · rintro q ob rfl hq
   rw [if_pos rfl] at hq
   cases hq
   have hbk:(fun q'=>if q' = q then bk else c.blk q') q = bk:=if_pos rfl
   refine ⟨?_,k3, ?_⟩
   · grind
   grind
 · grind
 grind
theorem ak.opqArr (h:ak w0 nt c s a w) {id s1 n1:Nat} {e1:TypeId} {f:Nat → Nat → PV} (ho:s.o id = some (.opq s1 e1 n1 (JSl s1 e1 n1 f))) (hs:0 < s1) (hmax:n1 ≤ maxLen) (hid:id < 1000) (hf:∀ i j,i < n1 → j < s1 → iz (f i j) = true) :
 ak w0 nt c ⟨s.t,fun q=>if q = id then some (.arr true s1 e1 n1 f) else s.o q⟩ a w:=by
 obtain ⟨a1,a2,a3⟩:=h.objs id _ ho
 have ob1:(fun q=>if q = id then some (af.arr true s1 e1 n1 f) else s.o q) id = some (.arr true s1 e1 n1 f):=if_pos rfl
 refine h.redo (fun q=>q = id) c.own c.blk c.rows _ ?_ ?_ ?_ ?_ ?_ ?_
 · grind
 · grind
 · rintro q rfl
   exact .inr (.inr (.inr ⟨_,_,s1,e1,n1,n1,ho,rfl,ob1,rfl,Nat.le_refl _,fun _=>rfl,fun _ _ _ _ _ _ _ hb=>by cases hb⟩))
 · rintro q ob rfl hq
   rw [if_pos rfl] at hq
   cases hq
   refine ⟨hs,hmax, ?_⟩
   rcases a3 with ⟨h0,⟨a0,hv⟩,hb⟩ | ⟨b,cap,cur,hv,h0,hbk,hh,h3,h4,h5,h6⟩
   · refine .inr ⟨.inr h0, ?_, ?_⟩
     · show c.blk q = noB
       funext b
       exact propext ⟨fun hx=>(hb b hx).elim,fun hx=>hx.elim⟩
     show bc c.imm _ (c.own q)
     rw [hv]
     subst h0
     exact ⟨a0,0,rfl,Nat.le_refl _,Nat.zero_le _,fun _=>rfl,fun hx=>absurd hx (Nat.lt_irrefl _)⟩
   rw [rg ((hbk b).2 rfl)] at hh
   refine .inl ⟨?_,cur.toList.take (n1 * s1), ?_,fun i j hi hj=>?_⟩
   · show c.blk q = er (c.own q)
     funext b'
     rw [hv]
     exact propext ((hbk b').trans (by simp [er,c3,eq_comm]))
   · show w.ownsRow 0 e1 s1 (c.own q) n1 _
     refine ⟨?_, .inr ⟨b,cap,cur,hv,Nat.zero_le _,hh,h3,h4,h5,rfl⟩⟩
     simp_all
   obtain ⟨x,hx,hr⟩:=h6 i j hi hj
   have hlt:i * s1 + j < n1 * s1:=by
    have:(i + 1) * s1 ≤ n1 * s1:=Nat.mul_le_mul_right _ (by omega)
    grind
   exact ⟨x,by rw [List.getElem?_take,if_pos hlt,Array.getElem?_toList];exact hx,mn (hf i j hi hj) hr⟩
 · grind
 grind
def JP (s:Nat) (e:TypeId) (n:Nat) (P:(Nat → Nat → PV) → List (Value × d8) → Prop):d8:=fun v bk h=>∃ f L,P f L ∧ (∀ i j,i < n → j < s → iz (f i j) = true) ∧
 ∃ bk1 bk2:Nat → Prop,(∀ b,bk b ↔ bk1 b ∨ bk2 b) ∧ (∀ b,bk1 b → bk2 b → False) ∧ JSl s e n f v bk1 (rst bk1 h) ∧ Bag L bk2 (rst bk2 h)
theorem ak.packP (h:ak w0 nt c s a w) {id idb s1 n1 s2 n2:Nat} {e1 e2:TypeId} {f:Nat → Nat → PV} {L:List (Value × d8)} (P:(Nat → Nat → PV) → List (Value × d8) → Prop) (ho:s.o id = some (.opq s1 e1 n1 (JSl s1 e1 n1 f))) (hob:s.o idb = some (.opq s2 e2 n2 (en L))) (hP:P f L) (hf:∀ i j,i < n1 → j < s1 → iz (f i j) = true) (hne:idb ≠ id) (hid:id < 1000) (hidb:idb < 1000) :
 ∃ c',c'.old = c.old ∧ ak w0 nt c' ⟨s.t,fun q=>if q = idb then none else if q = id then some (.opq s1 e1 n1 (JP s1 e1 n1 P)) else s.o q⟩ a w:=by
 obtain ⟨a1,a2,a3⟩:=h.objs id _ ho
 obtain ⟨b1,b2,b3⟩:=h.objs idb _ hob
 let bk:Nat → Prop:=fun b=>c.blk id b ∨ c.blk idb b
 let o':aw:=fun q=>if q = idb then none else if q = id then some (.opq s1 e1 n1 (JP s1 e1 n1 P)) else s.o q
 have ob1:o' idb = none:=if_pos rfl
 have ob2:o' id = some (.opq s1 e1 n1 (JP s1 e1 n1 P)):=(if_neg (Ne.symm hne)).trans (if_pos rfl)
 refine ⟨{ old:=c.old,imm:=c.imm,tab:=c.tab,own:=c.own,blk:=fun q=>if q = id then bk else c.blk q,rows:=c.rows },rfl,h.redo (fun q=>q = id ∨ q = idb) _ _ _ o' ?_ ?_ ?_ ?_ ?_ ?_⟩
 · grind
 · grind
 · rintro q (rfl | rfl)
   · exact .inr (.inr (.inr ⟨_,_,s1,e1,n1,n1,ho,rfl,ob2,rfl,Nat.le_refl _,fun _=>rfl,fun _ _ _ _ _ _ _ hb=>by cases hb⟩))
   exact .inr (.inl ob1)
 · rintro q ob (rfl | rfl) hq
   · rw [ob2] at hq
     cases hq
     have hbk:(fun q'=>if q' = q then bk else c.blk q') q = bk:=if_pos rfl
     refine ⟨?_,a2, ?_⟩
     · grind
     show JP _ _ _ _ _ ((fun q'=>if q' = q then bk else c.blk q') q) (onB ((fun q'=>if q' = q then bk else c.blk q') q) w)
     rw [hbk]
     refine ⟨f,L,hP,hf,c.blk q,c.blk idb,fun b=>Iff.rfl,fun b hb1 hb2=>hne (h.inj _ _ _ _ b hob ho hb2 hb1), ?_, ?_⟩
     · rw [pf fun b hb=>.inl hb];exact a3
     rw [pf fun b hb=>.inr hb];exact b3
   grind
 · rintro q ob b (rfl | rfl) hq hb
   · grind
   grind
 grind
theorem ak.unpackP (h:ak w0 nt c s a w) {id idb s1 n1:Nat} {e1:TypeId} {P:(Nat → Nat → PV) → List (Value × d8) → Prop} (ho:s.o id = some (.opq s1 e1 n1 (JP s1 e1 n1 P))) (hid:id < 1000) (hm:NM s idb) (hn:s.o idb = none) :
 ∃ f L c',P f L ∧ (∀ i j,i < n1 → j < s1 → iz (f i j) = true) ∧ c'.old = c.old ∧ ak w0 nt c' ⟨s.t,fun q=>if q = id then some (.opq s1 e1 n1 (JSl s1 e1 n1 f)) else if q = idb then some (.opq 0 0 0 (en L)) else s.o q⟩ a w:=by
 have hne:idb ≠ id:=by rintro rfl;rw [ho] at hn;cases hn
 obtain ⟨a1,a2,f,L,hP,hf,k1,k2,ki,kd,kS,kL⟩:=h.objs id _ ho
 have s1':∀ b,k1 b → c.blk id b:=fun b hb=>(ki b).2 (.inl hb)
 have s2':∀ b,k2 b → c.blk id b:=fun b hb=>(ki b).2 (.inr hb)
 rw [pf s1'] at kS
 rw [pf s2'] at kL
 let o':aw:=fun q=>if q = id then some (.opq s1 e1 n1 (JSl s1 e1 n1 f)) else if q = idb then some (.opq 0 0 0 (en L)) else s.o q
 have ob1:o' id = some (.opq s1 e1 n1 (JSl s1 e1 n1 f)):=if_pos rfl
 have ob2:o' idb = some (.opq 0 0 0 (en L)):=(if_neg hne).trans (if_pos rfl)
 let blk':Nat → Nat → Prop:=fun q=>if q = id then k1 else if q = idb then k2 else c.blk q
 let own':Nat → Value:=fun q=>if q = idb then .bool false else c.own q
 have bk1:blk' id = k1:=if_pos rfl
 have bk2:blk' idb = k2:=(if_neg hne).trans (if_pos rfl)
 have ow1:own' id = c.own id:=if_neg (Ne.symm hne)
 have ow2:own' idb = .bool false:=if_pos rfl
 refine ⟨f,L,{ old:=c.old,imm:=c.imm,tab:=c.tab,own:=own',blk:=blk',rows:=c.rows },hP,hf,rfl,h.redo (fun q=>q = id ∨ q = idb) own' blk' c.rows o' ?_ ?_ ?_ ?_ ?_ ?_⟩
 · rintro q (rfl | rfl)
   · exact hid
   exact hm.2.2
 · grind
 · rintro q (rfl | rfl)
   · exact .inr (.inr (.inr ⟨_,_,s1,e1,n1,n1,ho,rfl,ob1,rfl,Nat.le_refl _,fun _=>ow1,fun _ _ _ _ _ _ _ hb=>by cases hb⟩))
   exact .inl ⟨hm.1,fun id0 ob _ h0=>hm.2.1 id0 ob h0⟩
 · rintro q ob (rfl | rfl) hq
   · rw [ob1] at hq
     cases hq
     refine ⟨?_, ?_, ?_⟩
     · grind
     · grind
     grind
   rw [ob2] at hq
   cases hq
   refine ⟨?_, ?_, ?_⟩
   · grind
   · show (own' q).oneCell' = true
     rw [ow2];rfl
   show en L (own' q) (blk' q) (onB (blk' q) w)
   rw [bk2]
   exact kL
 · grind
 grind
theorem ak.bagNew (h:ak w0 nt c s a w) {idb:Nat} (hm:NM s idb) (hn:s.o idb = none):∃ c',c'.old = c.old ∧ ak w0 nt c' ⟨s.t,fun q=>if q = idb then some (.opq 0 0 0 (en [])) else s.o q⟩ a w:=by
 refine ⟨{ old:=c.old,imm:=c.imm,tab:=c.tab,own:=fun q=>if q = idb then .bool false else c.own q,blk:=fun q=>if q = idb then noB else c.blk q,rows:=c.rows },rfl,h.redo (fun q=>q = idb) _ _ _ _ ?_ ?_ ?_ ?_ ?_ ?_⟩
 · rintro q rfl;exact hm.2.2
 · grind
 · rintro q rfl
   exact .inl ⟨hm.1,fun id0 ob _ h0=>hm.2.1 id0 ob h0⟩
 · rintro q ob rfl hq
   rw [if_pos rfl] at hq
   cases hq
   have hbk:(fun q'=>if q' = q then noB else c.blk q') q = noB:=if_pos rfl
   have how:(fun q'=>if q' = q then Value.bool false else c.own q') q = .bool false:=if_pos rfl
   refine ⟨?_, ?_, ?_⟩
   · show ∀ b,(fun q'=>if q' = q then noB else c.blk q') q b → _
     rw [hbk]
     exact fun b hb=>hb.elim
   · show ((fun q'=>if q' = q then Value.bool false else c.own q') q).oneCell' = true
     rw [how];rfl
   show en [] _ ((fun q'=>if q' = q then noB else c.blk q') q) _
   rw [hbk]
   exact fun b hb=>hb
 · rintro q ob b rfl hq hb
   rw [if_pos rfl] at hb
   exact hb.elim
 grind
end
def fm (o:aw) (x y:HV):Prop:=x = y ∨ ∃ id s n e v R,o id = some (.opq s e n (gz v R)) ∧ ((x = .ref id n ∧ y = .p (.raw v)) ∨ (x = .p (.raw v) ∧ y = .ref id n))
def qp (o:aw):List HV → List HV → Prop
 | [],[]=>True
 | x :: xs,y :: ys=>fm o x y ∧ qp o xs ys
 | _,_=>False
def ah7 (o:aw):HC → HC → Prop
 | .one x, .one y=>fm o x y
 | .agg l, .agg m=>qp o l m
 | _,_=>False
def adx (o:aw):HR → HR → Prop
 | .v x, .v y=>ah7 o x y
 | _,_=>False
theorem fm.to {o:aw} {id s n:Nat} {e:TypeId} {v:Value} {R:d8} (h:o id = some (.opq s e n (gz v R))):fm o (.ref id n) (.p (.raw v)):=.inr ⟨id,s,n,e,v,R,h, .inl ⟨rfl,rfl⟩⟩
theorem fm.from {o:aw} {id s n:Nat} {e:TypeId} {v:Value} {R:d8} (h:o id = some (.opq s e n (gz v R))):fm o (.p (.raw v)) (.ref id n):=.inr ⟨id,s,n,e,v,R,h, .inr ⟨rfl,rfl⟩⟩
section
variable {w0:World} {nt:Nat} {c:Ctx} {s:S} {a:Act} {w:World}
theorem fm.rep (h:ak w0 nt c s a w) {x y:HV} {u:Value} (hs:fm s.o x y) (hr:bq c s.o x u):bq c s.o y u:=by
 rcases hs with rfl | ⟨id,s1,n,e,v,R,ho,⟨rfl,rfl⟩ | ⟨rfl,rfl⟩⟩
 · exact hr
 · obtain ⟨_,h1,h2,_⟩:=h.objs id _ ho
   obtain ⟨h3,_,h4⟩:=hr
   have h5:=(h4 _ _ _ _ ho rfl).2 rfl
   exact ⟨h5.trans h2,by rw [← h2];exact h1⟩
 obtain ⟨_,h1,h2,_⟩:=h.objs id _ ho
 obtain ⟨h3,_⟩:=hr
 refine ⟨by rw [h3,← h2];exact h1,fun l hl=>(by rw [ho] at hl;cases hl),fun ob2 s2 e2 n2 ho2 hd2=>?_⟩
 rw [ho] at ho2
 cases ho2
 simp only [af.dim,Option.some.injEq,Prod.mk.injEq] at hd2
 grind
theorem qp.rep (h:ak w0 nt c s a w):∀ {x y:List HV} {u:List Value},qp s.o x y → bh c s.o x u → bh c s.o y u
 | [],[],_,_,hr=>hr
 | _ :: _,_ :: _,_ :: _,hs,hr=>⟨hs.1.rep h hr.1,qp.rep h hs.2 hr.2⟩
 | [],_ :: _,_,hs,_=>hs.elim
 | _ :: _,[],_,hs,_=>hs.elim
 | _ :: _,_ :: _,[],_,hr=>hr.elim
theorem adx.rep (h:ak w0 nt c s a w) {x y:HR} {u:Value} (hs:adx s.o x y) (hr:ax c s.o x u):ax c s.o y u:=by
 match x,y,hs with
 | .v (.one x), .v (.one y),hs=>exact fm.rep h hs hr
 | .v (.agg l), .v (.agg m),hs =>
  obtain ⟨us,e,hl⟩:=hr
  exact ⟨us,e,qp.rep h hs hl⟩
end
section
variable {w0:World} {nt:Nat} {c:Ctx} {s:S} {a:Act} {w:World}
theorem ak.subA (h:ak w0 nt c s a w) {id s1 n1:Nat} {e1:TypeId} {ms:List Nat} {F:Nat → Nat → HV} (f:Nat → Nat → PV) (ho:s.o id = some (.arrh s1 e1 n1 ms F)) (hs:∀ i j,i < n1 → j < s1 → fm s.o (F i j) (.p (f i j))) (hid:id < 1000) :
 ak w0 nt c ⟨s.t,fun q=>if q = id then some (.arr true s1 e1 n1 f) else s.o q⟩ a w:=by
 obtain ⟨a1,a2,_,a3⟩:=h.objs id _ ho
 have ob1:(fun q=>if q = id then some (af.arr true s1 e1 n1 f) else s.o q) id = some (.arr true s1 e1 n1 f):=if_pos rfl
 refine h.redo (fun q=>q = id) c.own c.blk c.rows _ ?_ ?_ ?_ ?_ ?_ ?_
 · grind
 · grind
 · rintro q rfl
   exact .inr (.inr (.inr ⟨_,_,s1,e1,n1,n1,ho,rfl,ob1,rfl,Nat.le_refl _,fun _=>rfl,fun _ _ _ _ _ _ _ hb=>by cases hb⟩))
 · rintro q ob rfl hq
   rw [if_pos rfl] at hq
   cases hq
   refine ⟨a1,a2, ?_⟩
   rcases a3 with ⟨t1,xs,t2,t3⟩ | ⟨h0,t1,t2⟩
   · refine .inl ⟨t1,xs,t2,fun i j hi hj=>?_⟩
     obtain ⟨x,hx,hr⟩:=t3 i j hi hj
     exact ⟨x,hx,(hs i j hi hj).rep h hr⟩
   subst h0
   refine .inr ⟨.inr rfl,t1, ?_⟩
   obtain ⟨a0,cap,e1,h1,h2,h3,_⟩:=t2
   exact ⟨a0,cap,e1,h1,h2,h3,fun hx=>absurd hx (Nat.lt_irrefl _)⟩
 · grind
 grind
end
section
variable {ro:Option Nat} {P:Program} {nt:Nat} {co:Code} {st:HSt} {Q:HSt → Prop}
theorem v8 (id:Nat) (f:Nat → Nat → PV) {s1 n1:Nat} {e1:TypeId} {ms:List Nat} {F:Nat → Nat → HV} (ho:bs st.o id = some (.arrh s1 e1 n1 ms F)) (hs:∀ i j,i < n1 → j < s1 → fm st.den.o (F i j) (.p (f i j))) (h:HE nt ⟨st.t,(id,some (.arr true s1 e1 n1 f)) :: st.o⟩ Q) (hid:Nat.blt id 1000 = true:=by exact rfl):HE nt st Q:=fun w0 m0 a w hr0=>by
 obtain ⟨cc,hold,hrr⟩:=hr0
 simp only [Nat.blt_eq] at hid
 have q2:=hrr.subA f ho hs hid
 refine h w0 m0 a w ⟨cc,hold, ?_⟩
 rw [l7 (o':=fun q=>if q = id then some (.arr true s1 e1 n1 f) else st.den.o q) (fun q=>by simp only [be];rfl)]
 exact q2
theorem te (idb:Nat) (h:HE nt ⟨st.t,(idb,some (.opq 0 0 0 (en []))) :: st.o⟩ Q) (hn:nq idb st = true:=by exact rfl):HE nt st Q:=fun w0 m0 a w hr0=>by
 obtain ⟨cc,hold,hrr⟩:=hr0
 obtain ⟨hm,hn⟩:=jb hn
 obtain ⟨c',q1,q2⟩:=hrr.bagNew hm hn
 refine h w0 m0 a w ⟨c',q1.trans hold, ?_⟩
 rw [l7 (o':=fun q=>if q = idb then some (.opq 0 0 0 (en [])) else st.den.o q) (fun q=>by simp only [be];rfl)]
 exact q2
theorem mq (id idb:Nat) {s1 n1 s2 n2:Nat} {e1 e2:TypeId} {v:Value} {R:d8} {L:List (Value × d8)} (ho:bs st.o id = some (.opq s1 e1 n1 (gz v R))) (hob:bs st.o idb = some (.opq s2 e2 n2 (en L)))
 (h:HE nt ⟨st.t,(id,none) :: (idb,some (.opq s2 e2 n2 (en (L ++ [(v,R)])))) :: st.o⟩ Q) (hid:(Nat.blt id 1000 && Nat.blt idb 1000 && !Nat.beq idb id) = true:=by exact rfl):HE nt st Q:=fun w0 m0 a w hr0=>by
 obtain ⟨cc,hold,hrr⟩:=hr0
 simp only [Bool.and_eq_true,Nat.blt_eq,Bool.not_eq_true'] at hid
 obtain ⟨c',q1,q2⟩:=hrr.bagIn ho hob (fun e=>by subst e;simp at hid) hid.1.1 hid.1.2
 refine h w0 m0 a w ⟨c',q1.trans hold, ?_⟩
 rw [l7 (o':=fun q=>if q = id then none else if q = idb then some (.opq s2 e2 n2 (en (L ++ [(v,R)]))) else st.den.o q) (fun q=>by simp only [be];rfl)]
 exact q2
theorem n9 (id idb s1 n1:Nat) (e1:TypeId) {s2 n2:Nat} {e2:TypeId} {v:Value} {R:d8} {L:List (Value × d8)} (hob:bs st.o idb = some (.opq s2 e2 n2 (en ((v,R) :: L))))
 (h:HE nt ⟨st.t,(id,some (.opq s1 e1 n1 (gz v R))) :: (idb,some (.opq s2 e2 n2 (en L))) :: st.o⟩ Q) (hid:Nat.blt idb 1000 = true:=by exact rfl) (hn:nq id st = true:=by exact rfl):HE nt st Q:=fun w0 m0 a w hr0=>by
 obtain ⟨cc,hold,hrr⟩:=hr0
 simp only [Nat.blt_eq] at hid
 obtain ⟨hm,hn⟩:=jb hn
 obtain ⟨c',q1,q2⟩:=hrr.bagOut s1 n1 e1 hob hid hm hn
 refine h w0 m0 a w ⟨c',q1.trans hold, ?_⟩
 rw [l7 (o':=fun q=>if q = id then some (.opq s1 e1 n1 (gz v R)) else if q = idb then some (.opq s2 e2 n2 (en L)) else st.den.o q) (fun q=>by simp only [be];rfl)]
 exact q2
theorem pq (id:Nat) {s1 n1:Nat} {e1:TypeId} {R:d8} (ho:bs st.o id = some (.opq s1 e1 n1 R)) (h:∀ v,v.oneCell' = true → HE nt ⟨st.t,(id,some (.opq s1 e1 n1 (gz v R))) :: st.o⟩ Q) (hid:Nat.blt id 1000 = true:=by exact rfl):HE nt st Q:=fun w0 m0 a w hr0=>by
 obtain ⟨cc,hold,hrr⟩:=hr0
 simp only [Nat.blt_eq] at hid
 obtain ⟨q1,q2⟩:=hrr.pin ho hid
 refine h (cc.own id) q1 w0 m0 a w ⟨cc,hold, ?_⟩
 rw [l7 (o':=fun q=>if q = id then some (.opq s1 e1 n1 (gz (cc.own id) R)) else st.den.o q) (fun q=>by simp only [be];rfl)]
 exact q2
theorem ic (id:Nat) {s1 n1:Nat} {e1:TypeId} {f:Nat → Nat → PV} (ho:bs st.o id = some (.arr true s1 e1 n1 f)) (hf:∀ i j,i < n1 → j < s1 → iz (f i j) = true) (h:HE nt ⟨st.t,(id,some (.opq s1 e1 n1 (JSl s1 e1 n1 f))) :: st.o⟩ Q) (hid:Nat.blt id 1000 = true:=by exact rfl):HE nt st Q:=fun w0 m0 a w hr0=>by
 obtain ⟨cc,hold,hrr⟩:=hr0
 simp only [Nat.blt_eq] at hid
 obtain ⟨c',q1,q2⟩:=hrr.arrOpq ho hf hid
 refine h w0 m0 a w ⟨c',q1.trans hold, ?_⟩
 rw [l7 (o':=fun q=>if q = id then some (.opq s1 e1 n1 (JSl s1 e1 n1 f)) else st.den.o q) (fun q=>by simp only [be];rfl)]
 exact q2
theorem kp (id:Nat) {s1 n1:Nat} {e1:TypeId} {f:Nat → Nat → PV} (ho:bs st.o id = some (.opq s1 e1 n1 (JSl s1 e1 n1 f))) (hs:0 < s1) (hmax:n1 ≤ maxLen) (hf:∀ i j,i < n1 → j < s1 → iz (f i j) = true) (h:HE nt ⟨st.t,(id,some (.arr true s1 e1 n1 f)) :: st.o⟩ Q) (hid:Nat.blt id 1000 = true:=by exact rfl):HE nt st Q:=fun w0 m0 a w hr0=>by
 obtain ⟨cc,hold,hrr⟩:=hr0
 simp only [Nat.blt_eq] at hid
 have q2:=hrr.opqArr ho hs hmax hid hf
 refine h w0 m0 a w ⟨cc,hold, ?_⟩
 rw [l7 (o':=fun q=>if q = id then some (.arr true s1 e1 n1 f) else st.den.o q) (fun q=>by simp only [be];rfl)]
 exact q2
theorem vr (id idb:Nat) (P:(Nat → Nat → PV) → List (Value × d8) → Prop) {s1 n1 s2 n2:Nat} {e1 e2:TypeId} {f:Nat → Nat → PV} {L:List (Value × d8)} (ho:bs st.o id = some (.opq s1 e1 n1 (JSl s1 e1 n1 f))) (hob:bs st.o idb = some (.opq s2 e2 n2 (en L))) (hP:P f L) (hf:∀ i j,i < n1 → j < s1 → iz (f i j) = true)
 (h:HE nt ⟨st.t,(idb,none) :: (id,some (.opq s1 e1 n1 (JP s1 e1 n1 P))) :: st.o⟩ Q) (hid:(Nat.blt id 1000 && Nat.blt idb 1000 && !Nat.beq idb id) = true:=by exact rfl):HE nt st Q:=fun w0 m0 a w hr0=>by
 obtain ⟨cc,hold,hrr⟩:=hr0
 simp only [Bool.and_eq_true,Nat.blt_eq,Bool.not_eq_true'] at hid
 obtain ⟨c',q1,q2⟩:=hrr.packP P ho hob hP hf (fun e=>by subst e;simp at hid) hid.1.1 hid.1.2
 refine h w0 m0 a w ⟨c',q1.trans hold, ?_⟩
 rw [l7 (o':=fun q=>if q = idb then none else if q = id then some (.opq s1 e1 n1 (JP s1 e1 n1 P)) else st.den.o q) (fun q=>by simp only [be];rfl)]
 exact q2
theorem vv (id idb:Nat) {s1 n1:Nat} {e1:TypeId} {P:(Nat → Nat → PV) → List (Value × d8) → Prop} (ho:bs st.o id = some (.opq s1 e1 n1 (JP s1 e1 n1 P)))
 (h:∀ f L,P f L → (∀ i j,i < n1 → j < s1 → iz (f i j) = true) → HE nt ⟨st.t,(id,some (.opq s1 e1 n1 (JSl s1 e1 n1 f))) :: (idb,some (.opq 0 0 0 (en L))) :: st.o⟩ Q) (hid:Nat.blt id 1000 = true:=by exact rfl) (hn:nq idb st = true:=by exact rfl):HE nt st Q:=fun w0 m0 a w hr0=>by
 obtain ⟨cc,hold,hrr⟩:=hr0
 simp only [Nat.blt_eq] at hid
 obtain ⟨hm,hn⟩:=jb hn
 obtain ⟨f,L,c',hP,hf,q1,q2⟩:=hrr.unpackP ho hid hm hn
 refine h f L hP hf w0 m0 a w ⟨c',q1.trans hold, ?_⟩
 rw [l7 (o':=fun q=>if q = id then some (.opq s1 e1 n1 (JSl s1 e1 n1 f)) else if q = idb then some (.opq 0 0 0 (en L)) else st.den.o q) (fun q=>by simp only [be];rfl)]
 exact q2
end
theorem Bag.mem {v:Value} {R:d8}:∀ {L:List (Value × d8)} {bk:Nat → Prop} {h:Nat → Option Obj},Bag L bk h → (v,R) ∈ L → ∃ bk1:Nat → Prop,(∀ b,bk1 b → bk b) ∧ R v bk1 (rst bk1 h)
 | [],_,_,_,hm=>by cases hm
 | (v',R') :: L,bk,h,hb,hm=>by
  obtain ⟨_,b1,b2,hi,_,hR,hL⟩:=hb
  rcases List.mem_cons.1 hm with e | hm
  · grind
  obtain ⟨b3,q1,q2⟩:=Bag.mem hL hm
  refine ⟨b3,fun b hx=>(hi b).2 (.inr (q1 b hx)), ?_⟩
  rw [qt q1] at q2
  exact q2
theorem JSl.rep {s m:Nat} {e:TypeId} {g:Nat → Nat → PV} {v:Value} {bk:Nat → Prop} {h:Nat → Option Obj} {im:Imm} (hj:JSl s e m g v bk h) (hi:∀ b x,bk b → h b = some x → im b = some x):bc im (.sl m s false g) v:=by
 rcases hj with ⟨h0,⟨a,hv⟩,_⟩ | ⟨b,cap,cur,hv,h0,hbk,hh,h3,h4,h5,h6⟩
 · subst h0
   exact ⟨a,0,hv,Nat.le_refl _,Nat.zero_le _,(fun hx=>by cases hx),fun hx=>absurd hx (Nat.lt_irrefl _)⟩
 refine ⟨some ⟨b,0,none⟩,cap,hv,h3,h4,(fun hx=>by cases hx),fun _=>⟨b,0,rfl,fun i j hi' hj'=>?_⟩⟩
 obtain ⟨x,hx,hr⟩:=h6 i j hi' hj'
 refine ⟨x, ?_,bc.mono (fun b x hb=>by cases hb) hr⟩
 unfold i4
 grind
section
variable {w0:World} {nt:Nat} {c:Ctx} {s:S} {a:Act} {w:World}
end
section
variable {ro:Option Nat} {P:Program} {nt:Nat} {co:Code} {st:HSt} {Q:HSt → Prop}
end
end
section
open Go.RowKit
def pj:af → Prop
 | .opq ..=>True
 | .arr true s _ n f=>∀ i j,i < n → j < s → iz (f i j) = true
 | _=>False
theorem pj.move {c c':Ctx} {o o':aw} {w w':World} {id:Nat} {ob:af} (hs:pj ob) (h:d9 0 c o w id ob) (hw:c'.own id = c.own id) (hk:c'.blk id = c.blk id) (hb:∀ b,c.blk id b → w'.heap[b]? = w.heap[b]?):d9 0 c' o' w' id ob:=by
 match ob,hs with
 | .opq s e n R,_ =>
  obtain ⟨h1,h2,h3⟩:=h
  refine ⟨fun b hx=>?_,by rw [hw];exact h2, ?_⟩
  · rw [hk] at hx
    rw [hb b hx]
    exact h1 b hx
  rw [hw,hk,a4o hb]
  exact h3
 | .arr true s e n f,hs =>
  obtain ⟨h1,h2,h3⟩:=h
  refine ⟨h1,h2, ?_⟩
  rcases h3 with ⟨t1,xs,t2,t3⟩ | ⟨h0,t1,t2⟩
  · refine .inl ⟨by rw [hw,hk];exact t1,xs,by rw [hw];exact j0 t2 fun b hx=>hb b (by rw [t1];exact hx),fun i j hi hj=>?_⟩
    obtain ⟨x,hx,hr⟩:=t3 i j hi hj
    exact ⟨x,hx,mn (hs i j hi hj) hr⟩
  obtain rfl:n = 0:=by rcases h0 with h0 | h0;cases h0;exact h0
  refine .inr ⟨.inr rfl,by rw [hk];exact t1, ?_⟩
  rw [hw]
  obtain ⟨a0,cap,e1,h1,h2,h3,_⟩:=t2
  exact ⟨a0,cap,e1,h1,h2,h3,fun hx=>absurd hx (Nat.lt_irrefl _)⟩
def a4e (own:aw):HV → Prop
 | .p x=>iz x = true
 | .ref id _=>own id = none
 | _=>False
def a2b (own:aw):List HV → Prop
 | []=>True
 | x :: xs=>a4e own x ∧ a2b own xs
def ajg (own:aw):HC → Prop
 | .one x=>a4e own x
 | .agg l=>a2b own l
theorem a4e.rep {c c':Ctx} {own o o':aw} (ho:∀ id,own id = none → o' id = o id ∧ c'.own id = c.own id) {x:HV} {u:Value} (hl:a4e own x) (hr:bq c o x u):bq c' o' x u:=by
 match x,hl with
 | .p x,hl=>exact mn hl hr
 | .ref id n,hl =>
  obtain ⟨q1,q2⟩:=ho id hl
  obtain ⟨h1,h2,h3⟩:=hr
  exact ⟨h1,fun l=>by rw [q1];exact h2 l,fun ob s e n' h4 h5=>by rw [q1] at h4;rw [q2];exact h3 ob s e n' h4 h5⟩
theorem a2b.rep {c c':Ctx} {own o o':aw} (ho:∀ id,own id = none → o' id = o id ∧ c'.own id = c.own id):∀ {x:List HV} {u:List Value},a2b own x → bh c o x u → bh c' o' x u
 | [],[],_,hr=>hr
 | _ :: _,_ :: _,hl,hr=>⟨hl.1.rep ho hr.1,a2b.rep ho hl.2 hr.2⟩
 | [],_ :: _,_,hr=>hr.elim
 | _ :: _,[],_,hr=>hr.elim
end
section
open Go.RowKit
section
variable {w0:World} {nt:Nat} {c:Ctx} {s:S} {a:Act} {w:World}
theorem ak.subH (h:ak w0 nt c s a w) {id s1 n1:Nat} {e1:TypeId} (ms:List Nat) {f:Nat → Nat → PV} (F:Nat → Nat → HV) (ho:s.o id = some (.arr true s1 e1 n1 f)) (hm:∀ i j k,i < n1 → j < s1 → (F i j).men k → k ∈ ms) (hs:∀ i j,i < n1 → j < s1 → fm s.o (.p (f i j)) (F i j)) (hid:id < 1000) :
 ak w0 nt c ⟨s.t,fun q=>if q = id then some (.arrh s1 e1 n1 ms F) else s.o q⟩ a w:=by
 obtain ⟨a1,a2,a3⟩:=h.objs id _ ho
 have ob1:(fun q=>if q = id then some (af.arrh s1 e1 n1 ms F) else s.o q) id = some (.arrh s1 e1 n1 ms F):=if_pos rfl
 refine h.redo (fun q=>q = id) c.own c.blk c.rows _ ?_ ?_ ?_ ?_ ?_ ?_
 · grind
 · grind
 · rintro q rfl
   exact .inr (.inr (.inr ⟨_,_,s1,e1,n1,n1,ho,rfl,ob1,rfl,Nat.le_refl _,fun _=>rfl,fun _ _ _ _ _ _ _ hb=>by cases hb⟩))
 · rintro q ob rfl hq
   rw [if_pos rfl] at hq
   cases hq
   refine ⟨a1,a2,hm, ?_⟩
   rcases a3 with ⟨t1,xs,t2,t3⟩ | ⟨h0,t1,t2⟩
   · refine .inl ⟨t1,xs,t2,fun i j hi hj=>?_⟩
     obtain ⟨x,hx,hr⟩:=t3 i j hi hj
     refine ⟨x,hx, ?_⟩
     have hr1:bq c s.o (F i j) x:=(hs i j hi hj).rep h hr
     rcases hs i j hi hj with e | ⟨id2,s2,n2,e2,v,R,q1,⟨q2,q3⟩ | ⟨q2,q3⟩⟩
     · rw [← e] at hr1 ⊢
       exact hr1
     · cases q2
     rw [q3] at hr1 ⊢
     have hne:¬ id2 = q:=fun e=>by subst e;rw [ho] at q1;cases q1
     obtain ⟨r1,r2,r3⟩:=hr1
     refine ⟨r1,fun l hl=>?_,fun ob sz et nn hl hd=>?_⟩
     · have hl:(if id2 = q then some (af.arrh s1 e1 n1 ms F) else s.o id2) = some (.box l):=hl
       rw [if_neg hne] at hl
       exact r2 l hl
     have hl:(if id2 = q then some (af.arrh s1 e1 n1 ms F) else s.o id2) = some ob:=hl
     rw [if_neg hne] at hl
     exact r3 ob sz et nn hl hd
   obtain rfl:n1 = 0:=by rcases h0 with h0 | h0;cases h0;exact h0
   refine .inr ⟨rfl,t1, ?_⟩
   obtain ⟨a0,cap,e1,h1,h2,h3,_⟩:=t2
   exact ⟨a0,cap,e1,h1,h2,h3,fun hx=>absurd hx (Nat.lt_irrefl _)⟩
 · grind
 grind
theorem ak.subBx (h:ak w0 nt c s a w) {id:Nat} {l:List HV} (l':List HV) (ho:s.o id = some (.box l)) (hs:qp s.o l l') (hid:id < 1000) :
 ak w0 nt c ⟨s.t,fun q=>if q = id then some (.box l') else s.o q⟩ a w:=by
 obtain ⟨b,C,e,a1,a2,a3,a4,a5⟩:=h.objs id _ ho
 have ob1:(fun q=>if q = id then some (af.box l') else s.o q) id = some (.box l'):=if_pos rfl
 have ev:Evo c s.o { old:=c.old,imm:=c.imm,tab:=c.tab,own:=c.own,blk:=c.blk,rows:=c.rows } (fun q=>if q = id then some (af.box l') else s.o q) id:=.inr (.inl ⟨l,l',ho,ob1,rfl⟩)
 refine h.redo (fun q=>q = id) c.own c.blk c.rows _ ?_ ?_ ?_ ?_ ?_ ?_
 · grind
 · grind
 · rintro q rfl
   exact .inr ev
 · rintro q ob rfl hq
   rw [if_pos rfl] at hq
   cases hq
   refine ⟨b,C,e,a1,a2,a3,a4, ?_⟩
   refine (qp.rep h hs a5).evo (Imm.le.refl c.imm) fun k _=>?_
   by_cases hk:k = q
   · rw [hk];exact ev
   exact Evo.of_same (if_neg hk) rfl
 · grind
 grind
end
section
variable {ro:Option Nat} {P:Program} {nt:Nat} {co:Code} {st:HSt} {Q:HSt → Prop}
theorem aeu (id:Nat) (ms:List Nat) (F:Nat → Nat → HV) {s1 n1:Nat} {e1:TypeId} {f:Nat → Nat → PV} (ho:bs st.o id = some (.arr true s1 e1 n1 f)) (hm:∀ i j k,i < n1 → j < s1 → (F i j).men k → k ∈ ms) (hs:∀ i j,i < n1 → j < s1 → fm st.den.o (.p (f i j)) (F i j)) (h:HE nt ⟨st.t,(id,some (.arrh s1 e1 n1 ms F)) :: st.o⟩ Q) (hid:Nat.blt id 1000 = true:=by exact rfl):HE nt st Q:=fun w0 m0 a w hr0=>by
 obtain ⟨cc,hold,hrr⟩:=hr0
 simp only [Nat.blt_eq] at hid
 have q2:=hrr.subH ms F ho hm hs hid
 refine h w0 m0 a w ⟨cc,hold, ?_⟩
 rw [l7 (o':=fun q=>if q = id then some (.arrh s1 e1 n1 ms F) else st.den.o q) (fun q=>by simp only [be];rfl)]
 exact q2
theorem a6j (id:Nat) {l:List HV} (l':List HV) (ho:bs st.o id = some (.box l)) (hs:qp st.den.o l l') (h:HE nt ⟨st.t,(id,some (.box l')) :: st.o⟩ Q) (hid:Nat.blt id 1000 = true:=by exact rfl):HE nt st Q:=fun w0 m0 a w hr0=>by
 obtain ⟨cc,hold,hrr⟩:=hr0
 simp only [Nat.blt_eq] at hid
 have q2:=hrr.subBx l' ho hs hid
 refine h w0 m0 a w ⟨cc,hold, ?_⟩
 rw [l7 (o':=fun q=>if q = id then some (.box l') else st.den.o q) (fun q=>by simp only [be];rfl)]
 exact q2
theorem ip (x:Nat) (ob':af) {ob:af} (ho:bs st.o x = some ob) (hc:CoO ob ob') (h:HE nt ⟨st.t,(x,some ob') :: st.o⟩ Q):HE nt st Q:=fun w0 m0 a w hr=>by
 obtain ⟨cc,hold,hrr⟩:=hr
 refine h w0 m0 a w ⟨cc,hold,hrr.relax _ (fun d y hy=>⟨y,hy,CoR.refl _⟩) fun id ob2 ho2=>?_⟩
 simp only [HSt.den,be] at ho2
 by_cases hk:id = x
 · subst hk
   rw [if_pos rfl] at ho2
   simp only [Option.some.injEq] at ho2
   subst ho2
   exact ⟨ob,ho,hc⟩
 rw [if_neg hk] at ho2
 exact ⟨ob2,ho2,CoO.refl _⟩
theorem o8 {s n:Nat} {e:TypeId} {v:Value} {R:d8}:CoO (.opq s e n (gz v R)) (.opq s e n R):=⟨rfl,rfl,rfl,fun _ _ _ h=>h.2⟩
theorem afp {s n:Nat} {e:TypeId} {R R':d8} (h:∀ v bk g,R v bk g → R' v bk g):CoO (.opq s e n R) (.opq s e n R'):=⟨rfl,rfl,rfl,h⟩
theorem JP.mono {s n:Nat} {e:TypeId} {P P':(Nat → Nat → PV) → List (Value × d8) → Prop} (h:∀ f L,P f L → P' f L):CoO (.opq s e n (JP s e n P)) (.opq s e n (JP s e n P')):=afp fun v bk g ⟨f,L,hP,r⟩=>⟨f,L,h f L hP,r⟩
end
end
end Go.Hx
