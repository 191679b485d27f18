/- A part of the proof: Hx30 Ms1. -/
import Derived.Test.YtaegkccfbmekbaaGreatNq23
set_option linter.all false
section
namespace Go.Hx
open Go.RowKit
section
variable {w0:World} {nt:Nat} {c:Ctx} {s:S} {a:Act} {w:World}
theorem al.redo (h:al w0 nt c s a w) (D:Nat → Prop) (own':Nat → Value) (blk':Nat → Nat → Prop) (rows':Nat → Nat → Value) (o':b8)
 (hD:∀ q,D q → q < 1000) (hs:∀ q,¬ D q → o' q = s.o q ∧ own' q = c.own q ∧ blk' q = c.blk q ∧ rows' q = c.rows q)
 (he:∀ q,D q → ((∀ d x,s.t d = some x → ¬ x.men q) ∧ ∀ id ob,¬ D id → s.o id = some ob → ¬ ob.men q) ∨ Evo c s.o { old:=c.old,imm:=c.imm,tab:=c.tab,own:=own',blk:=blk',rows:=rows' } o' q)
 (hob:∀ q ob,D q → o' q = some ob → ec 0 { old:=c.old,imm:=c.imm,tab:=c.tab,own:=own',blk:=blk',rows:=rows' } o' w q ob)
 (hfrom:∀ q ob b,D q → o' q = some ob → blk' q b → ∃ q0 ob0,D q0 ∧ s.o q0 = some ob0 ∧ c.blk q0 b)
 (hin:∀ q q' ob ob' b,D q → D q' → o' q = some ob → o' q' = some ob' → blk' q b → blk' q' b → q = q') :
 al w0 nt { old:=c.old,imm:=c.imm,tab:=c.tab,own:=own',blk:=blk',rows:=rows' } ⟨s.t,o'⟩ a w:=by
 have hevo:∀ q,¬ D q → Evo c s.o { old:=c.old,imm:=c.imm,tab:=c.tab,own:=own',blk:=blk',rows:=rows' } o' q:=fun q hq=>by
  obtain ⟨h1,h2,h3,h4⟩:=hs q hq
  exact Evo.of_same h1 h2 h4
 refine ⟨h.defers,h.size,h.below,fun d x hx=>?_,fun q ob hq=>?_,fun q q' ob ob' b hq hq' hb hb'=>?_,h.imm,fun q ob b hq hb=>?_,h.was,h.frm,fun q ob b hq hb=>?_,fun q hq=>?_⟩
 · refine (h.tmps d x hx).evo (Imm.le.refl c.imm) fun q hm=>?_
   by_cases hd:D q
   · rcases he q hd with ⟨h1,_⟩ | h1
     · exact absurd hm (h1 d x hx)
     · exact h1
   · exact hevo q hd
 · by_cases hd:D q
   · exact hob q ob hd hq
   · obtain ⟨h1,h2,h3,h4⟩:=hs q hd
     have hq:o' q = some ob:=hq
     rw [h1] at hq
     refine (h.objs q ob hq).keep (Imm.le.refl c.imm) h2 h3 (fun j hj=>?_) (fun b hb=>rfl) h4
     by_cases hdj:D j
     · rcases he j hdj with ⟨_,h5⟩ | h5
       · exact absurd hj (h5 q ob hd hq)
       · exact h5
     · exact hevo j hdj
 · have hq:o' q = some ob:=hq
   have hq':o' q' = some ob':=hq'
   have cross:∀ q q' ob ob',D q → ¬ D q' → o' q = some ob → o' q' = some ob' → blk' q b → blk' q' b → False:=fun q q' ob ob' hd hd' hq hq' hb hb'=>by
    obtain ⟨q0,ob0,h1,h2,h3⟩:=hfrom q ob b hd hq hb
    obtain ⟨h4,_,h5,_⟩:=hs q' hd'
    rw [h4] at hq'
    rw [h5] at hb'
    have:=h.inj q0 q' ob0 ob' b h2 hq' h3 hb'
    exact hd' (this ▸ h1)
   by_cases hd:D q
   · by_cases hd':D q'
     · exact hin q q' ob ob' b hd hd' hq hq' hb hb'
     · exact (cross q q' ob ob' hd hd' hq hq' hb hb').elim
   · by_cases hd':D q'
     · exact (cross q' q ob' ob hd' hd hq' hq hb' hb).elim
     · obtain ⟨h1,_,h3,_⟩:=hs q hd
       obtain ⟨h1',_,h3',_⟩:=hs q' hd'
       rw [h1] at hq;rw [h1'] at hq'
       simp only [h3] at hb;simp only [h3'] at hb'
       exact h.inj q q' ob ob' b hq hq' hb hb'
 · have hq:o' q = some ob:=hq
   by_cases hd:D q
   · obtain ⟨q0,ob0,_,h2,h3⟩:=hfrom q ob b hd hq hb
     exact h.sep q0 ob0 b h2 h3
   · obtain ⟨h1,_,h3,_⟩:=hs q hd
     rw [h1] at hq
     simp only [h3] at hb
     exact h.sep q ob b hq hb
 · have hq:o' q = some ob:=hq
   by_cases hd:D q
   · obtain ⟨q0,ob0,_,h2,h3⟩:=hfrom q ob b hd hq hb
     exact h.fsep q0 ob0 b h2 h3
   · obtain ⟨h1,_,h3,_⟩:=hs q hd
     rw [h1] at hq
     simp only [h3] at hb
     exact h.fsep q ob b hq hb
 · have:¬ D q:=fun hd=>by have:=hD q hd;omega
   exact (h.fixed q hq).trans (hevo q this)
structure a7a (et:TypeId) (es n r:Nat) (m:Nat → Nat) (g:Nat → Nat → Nat → PV) (hd:Nat → Value) (B:Nat → Option Obj):Prop where
 pos:0 < es
 len:n ≤ maxLen
 row:∀ i,i < n → i ≠ r → (m i = 0 ∧ ∃ a,hd i = .slice a 0 0) ∨ ∃ b cap cur,hd i = .slice (some ⟨b,0,none⟩) (m i) cap ∧ am (hd i) = some b ∧ B b = some (.cells cur et (0,0)) ∧ m i ≤ cap ∧ cap ≤ maxLen ∧ cur.size = cap * es ∧
  ∀ q j,q < m i → j < es → ∃ x,(cur.toList.take (m i * es))[q * es + j]? = some x ∧ g i q j = .raw x ∧ x.oneCell' = true
 apart:∀ i i' b,i < n → i ≠ r → i' < n → i' ≠ r → am (hd i) = some b → am (hd i') = some b → i' = i
 blk:∀ b,B b ≠ none → ∃ i,i < n ∧ i ≠ r ∧ am (hd i) = some b
def hdF (hd:Nat → Value) (id' r k:Nat):Nat → Nat → HV:=fun i _=>bif Nat.beq i r then .ref id' k else .p (.raw (hd i))
theorem re (hd:Nat → Value) (id' r k j:Nat):hdF hd id' r k r j = .ref id' k:=by simp [hdF]
theorem tt {hd:Nat → Value} {id' r k i j:Nat} (h:i ≠ r):hdF hd id' r k i j = .p (.raw (hd i)):=by
 have:Nat.beq i r = false:=by rw [Bool.eq_false_iff];exact fun hb=>h (Nat.eq_of_beq_eq_true hb)
 simp [hdF,this]
theorem a31 {imm:Imm} {s':Nat} {f:Nat → Nat → PV} {a:Option Addr}:b9 imm (.sl 0 s' true f) (.slice a 0 0):=⟨a,0,rfl,Nat.le_refl _,Nat.zero_le _,fun _=>rfl,fun h=>absurd h (Nat.lt_irrefl 0)⟩
theorem al.split (h:al w0 nt c s a w) {id id' idb r n:Nat} {e et:TypeId} {es:Nat} {m:Nat → Nat} {g:Nat → Nat → Nat → PV} (ho:s.o id = some (.nest e et es n m g none)) (hid:id < 1000) (hr:r < n) (hraw:∀ i q j,i < n → q < m i → j < es → ∃ v,g i q j = .raw v)
 (hm':NM s id') (hn':s.o id' = none) (hmb:NM s idb) (hnb:s.o idb = none) (hne:id' ≠ idb) :
 ∃ hd B c',a7a et es n r m g hd B ∧ c'.old = c.old ∧ al w0 nt c' ⟨s.t,fun q=>if q = idb then some (.bun B) else if q = id' then some (.arr true es et (m r) (g r)) else if q = id then some (.arrh 1 e n [id'] (hdF hd id' r (m r))) else s.o q⟩ a w:=by
 classical
 have hnk:jp 0 c s.o w id e et es n m g none:=h.objs id _ ho
 have hid':id' ≠ id:=by rintro rfl;rw [ho] at hn';cases hn'
 have hidb:idb ≠ id:=by rintro rfl;rw [ho] at hnb;cases hnb
 let hd:Nat → Value:=fun i=>c.rows id i
 let B:Nat → Option Obj:=fun b=>if ∃ i,i < n ∧ i ≠ r ∧ am (c.rows id i) = some b then w.heap[b]? else none
 have hB:∀ i b,i < n → i ≠ r → am (c.rows id i) = some b → B b = w.heap[b]?:=fun i b h1 h2 h3=>if_pos ⟨i,h1,h2,h3⟩
 have hlen:=hnk.len
 simp only [j1] at hlen
 have hbf:a7a et es n r m g hd B:=by
  refine ⟨hnk.pos,by omega,fun i hi hir=>?_,fun i i' b h1 h2 h3 h4 h5 h6=>(hnk.apart i b h1 h5).2 i' h3 h6,fun b hb=>?_⟩
  · rcases hnk.row i hi with r0 | ⟨ys,r1,r2⟩
    · exact .inl r0
    · rcases eq r1 with r0 | ⟨b,cap,rv,rb⟩
      · exact .inl r0
      · rcases r1.2 with ⟨hv,_⟩ | ⟨b',cap',cur,hv,_,hh,q1,q2,q3,q4⟩
        · rw [rv] at hv;cases hv
        · rw [rv] at hv
          simp only [Value.slice.injEq,Option.some.injEq,Addr.mk.injEq,and_true,true_and] at hv
          obtain ⟨rfl,rfl⟩:=hv
          refine .inr ⟨b,cap,cur,rv,rb,(hB i b hi hir rb).trans hh,q1,q2,q3,fun q j hq hj=>?_⟩
          obtain ⟨x,hx,hxr⟩:=r2 q j hq hj
          obtain ⟨v,hv⟩:=hraw i q j hi hq hj
          rw [hv] at hxr
          obtain ⟨e1,e2⟩:=hxr
          subst e1
          exact ⟨x,by rw [q4];exact hx,hv,e2⟩
  · by_cases hex:∃ i,i < n ∧ i ≠ r ∧ am (c.rows id i) = some b
    · exact hex
    · exact absurd (if_neg hex) hb
 obtain ⟨xt,t1,t2,_⟩:∃ xs,w.ownsRow 0 e 1 (c.own id) (n + j1 none) xs ∧ (∀ i,i < n → xs[i]? = some (c.rows id i)) ∧ ∀ p,(none:Option (Nat × Nat)) = some p → ∃ x,xs[n]? = some x ∧ bp c s.o (.ref p.1 p.2) x:=by
  rcases hnk.top with ⟨h1,_⟩ | h1
  · simp only [j1] at h1;omega
  · exact h1
 have t1:w.ownsRow 0 e 1 (c.own id) n xt:=t1
 obtain ⟨bt,capt,ht0,htc⟩:∃ b cap,c.own id = .slice (some ⟨b,0,none⟩) n cap ∧ am (c.own id) = some b:=by
  rcases eq t1 with ⟨h1,_⟩ | h1
  · omega
  · exact h1
 have hbs:∀ b,dv (c.own id) b ↔ b = bt:=fun b=>by rw [ht0];simp [dv,br,eq_comm]
 have hrow1:∀ i,i < n → (c.rows id i).oneCell' = true:=fun i hi=>by
  rcases hnk.row i hi with ⟨_,x,h1⟩ | ⟨ys,h1,_⟩
  · rw [h1];rfl
  · rcases h1.2 with ⟨h1,_⟩ | ⟨_,_,_,h1,_⟩ <;> (rw [h1];rfl)
 let blr:Nat → Prop:=fun b=>am (c.rows id r) = some b
 let own':Nat → Value:=fun q=>if q = id' then c.rows id r else c.own q
 let blk':Nat → Nat → Prop:=fun q=>if q = idb then (fun b=>B b ≠ none) else if q = id' then blr else if q = id then dv (c.own id) else c.blk q
 let o':b8:=fun q=>if q = idb then some (.bun B) else if q = id' then some (.arr true es et (m r) (g r)) else if q = id then some (.arrh 1 e n [id'] (hdF hd id' r (m r))) else s.o q
 have ob1:o' idb = some (.bun B):=if_pos rfl
 have ob2:o' id' = some (.arr true es et (m r) (g r)):=by show (if id' = idb then _ else if id' = id' then _ else _) = _;rw [if_neg hne,if_pos rfl]
 have ob3:o' id = some (.arrh 1 e n [id'] (hdF hd id' r (m r))):=by show (if id = idb then _ else if id = id' then _ else if id = id then _ else _) = _;rw [if_neg (Ne.symm hidb),if_neg (Ne.symm hid'),if_pos rfl]
 have bk1:blk' idb = fun b=>B b ≠ none:=if_pos rfl
 have bk2:blk' id' = blr:=by show (if id' = idb then _ else if id' = id' then _ else _) = _;rw [if_neg hne,if_pos rfl]
 have bk3:blk' id = dv (c.own id):=by show (if id = idb then _ else if id = id' then _ else if id = id then _ else _) = _;rw [if_neg (Ne.symm hidb),if_neg (Ne.symm hid'),if_pos rfl]
 have ow2:own' id' = c.rows id r:=if_pos rfl
 have ow3:own' id = c.own id:=if_neg (Ne.symm hid')
 have hDc:∀ q,(q = id ∨ q = id' ∨ q = idb) → ∀ ob,o' q = some ob → ∀ b,blk' q b → c.blk id b:=fun q hq ob hob b hb=>by
  rcases hq with rfl | rfl | rfl
  · rw [bk3] at hb
    exact (hnk.blks b).2 (.inl (by rw [(hbs b).1 hb];exact htc))
  · rw [bk2] at hb
    exact (hnk.blks b).2 (.inr ⟨r,hr,hb⟩)
  · rw [bk1] at hb
    obtain ⟨i,h1,h2,h3⟩:=hbf.blk b hb
    exact (hnk.blks b).2 (.inr ⟨i,h1,h3⟩)
 refine ⟨hd,B,{ old:=c.old,imm:=c.imm,tab:=c.tab,own:=own',blk:=blk',rows:=c.rows },hbf,rfl,h.redo (fun q=>q = id ∨ q = id' ∨ q = idb) own' blk' c.rows o' ?_ ?_ ?_ ?_ ?_ ?_⟩
 · rintro q (rfl | rfl | rfl)
   · exact hid
   · exact hm'.2.2
   · exact hmb.2.2
 · intro q hq
   have h1:q ≠ id:=fun e=>hq (.inl e)
   have h2:q ≠ id':=fun e=>hq (.inr (.inl e))
   have h3:q ≠ idb:=fun e=>hq (.inr (.inr e))
   refine ⟨?_,if_neg h2, ?_,rfl⟩
   · show (if q = idb then _ else if q = id' then _ else if q = id then _ else _) = _;rw [if_neg h3,if_neg h2,if_neg h1]
   · show (if q = idb then _ else if q = id' then _ else if q = id then _ else _) = _;rw [if_neg h3,if_neg h2,if_neg h1]
 · rintro q (rfl | rfl | rfl)
   · exact .inr (.inr (.inr ⟨_,_,1,e,n,n,ho,rfl,ob3,rfl,Nat.le_refl _,fun _=>ow3,fun _ _ _ _ _ _ _ hb=>by cases hb⟩))
   · exact .inl ⟨hm'.1,fun id0 ob _ h0=>hm'.2.1 id0 ob h0⟩
   · exact .inl ⟨hmb.1,fun id0 ob _ h0=>hmb.2.1 id0 ob h0⟩
 · rintro q ob (rfl | rfl | rfl) hq
   · rw [ob3] at hq
     cases hq
     refine ⟨Nat.one_pos,by omega,fun i j k hi hj hk=>?_, .inl ⟨by show blk' q = dv (own' q);rw [bk3,ow3],xt,by show w.ownsRow 0 e 1 (own' q) n xt;rw [ow3];exact t1,fun i j hi hj=>?_⟩⟩
     · by_cases hir:i = r
       · subst hir;rw [re] at hk;simp only [HV.men] at hk;simp [hk]
       · rw [tt hir] at hk;exact hk.elim
     · obtain rfl:j = 0:=by omega
       refine ⟨c.rows q i,by rw [Nat.mul_one,Nat.add_zero];exact t2 i hi, ?_⟩
       by_cases hir:i = r
       · subst hir
         rw [re]
         refine ⟨hrow1 i hi,fun l hl=>?_,fun ob0 s0 e0 n0 ho0 hd0=>?_⟩
         · rw [ob2] at hl;cases hl
         · rw [ob2] at ho0
           cases ho0
           simp only [ag.dim,Option.some.injEq,Prod.mk.injEq] at hd0
           obtain ⟨rfl,rfl,rfl⟩:=hd0
           exact ⟨Nat.le_refl _,fun _=>ow2.symm⟩
       · rw [tt hir]
         exact ⟨rfl,hrow1 i hi⟩
   · rw [ob2] at hq
     cases hq
     refine ⟨hnk.pos,hnk.lens r hr, ?_⟩
     have hemp:(m r = 0 ∧ ∃ x,c.rows id r = .slice x 0 0) → (true = false ∨ m r = 0) ∧ blk' q = noB ∧ b9 c.imm (.sl (m r) es true (g r)) (own' q):=fun ⟨h1,x,h2⟩=>by
      refine ⟨.inr h1, ?_, ?_⟩
      · rw [bk2]
        funext b
        show (am (c.rows id r) = some b) = False
        rw [h2]
        cases x <;> simp [am]
      · rw [ow2,h2,h1];exact a31
     rcases hnk.row r hr with r0 | ⟨ys,r1,r2⟩
     · exact .inr (hemp r0)
     · rcases eq r1 with r0 | ⟨b,cap,rv,rb⟩
       · exact .inr (hemp r0)
       · have hb2:blk' q = dv (own' q):=by
          rw [bk2]
          funext b'
          show (am (c.rows id r) = some b') = (br (own' q) = some b')
          rw [ow2,rb,rv]
          rfl
         have ho2:w.ownsRow 0 et es (own' q) (m r) ys:=by rw [ow2];exact r1
         exact .inl ⟨hb2,ys,ho2,r2⟩
   · rw [ob1] at hq
     cases hq
     refine ⟨fun b hb=>by have hb:blk' q b:=hb;rw [bk1] at hb;exact hb,fun b x hx=>?_⟩
     have hne2:B b ≠ none:=fun e=>by rw [e] at hx;cases hx
     obtain ⟨i,h1,h2,h3⟩:=hbf.blk b hne2
     have hc:c.blk id b:=(hnk.blks b).2 (.inr ⟨i,h1,h3⟩)
     rw [hB i b h1 h2 h3] at hx
     obtain ⟨y,hy,hyd⟩:=(h.objs id _ ho).data hc
     rw [hx] at hy
     cases hy
     exact ⟨by show blk' q b;rw [bk1];exact hne2,Nat.zero_le _,hx,hyd⟩
 · intro q ob b hq hob hb
   exact ⟨id,_, .inl rfl,ho,hDc q hq ob hob b hb⟩
 · have x12:∀ b,blk' id b → blk' id' b → False:=fun b h1 h2=>by
    rw [bk3] at h1;rw [bk2] at h2
    exact (hnk.apart r b hr h2).1 (by rw [(hbs b).1 h1];exact htc)
   have x13:∀ b,blk' id b → blk' idb b → False:=fun b h1 h2=>by
    rw [bk3] at h1;rw [bk1] at h2
    obtain ⟨i,q1,q2,q3⟩:=hbf.blk b h2
    exact (hnk.apart i b q1 q3).1 (by rw [(hbs b).1 h1];exact htc)
   have x23:∀ b,blk' id' b → blk' idb b → False:=fun b h1 h2=>by
    rw [bk2] at h1;rw [bk1] at h2
    obtain ⟨i,q1,q2,q3⟩:=hbf.blk b h2
    exact q2 ((hnk.apart r b hr h1).2 i q1 q3)
   rintro q q' ob ob' b (rfl | rfl | rfl) (rfl | rfl | rfl) _ _ hb hb'
   · rfl
   · exact (x12 b hb hb').elim
   · exact (x13 b hb hb').elim
   · exact (x12 b hb' hb).elim
   · rfl
   · exact (x23 b hb hb').elim
   · exact (x13 b hb' hb).elim
   · exact (x23 b hb' hb).elim
   · rfl
theorem al.join (h:al w0 nt c s a w) {id id' idb id2 r n k:Nat} {e et:TypeId} {es:Nat} {m:Nat → Nat} {g:Nat → Nat → Nat → PV} {ms:List Nat} {f:Nat → Nat → HV} {ff:Nat → Nat → PV} {hd:Nat → Value} {B:Nat → Option Obj}
 (ho:s.o id = some (.arrh 1 e n ms f)) (ho':s.o id' = some (.arr true es et k ff)) (hob:s.o idb = some (.bun B)) (hbf:a7a et es n r m g hd B) (hr:r < n) (hfr:f r 0 = .ref id' k) (hfi:∀ i,i < n → i ≠ r → f i 0 = .p (.raw (hd i)))
 (hid:id < 1000) (hid':id' < 1000) (hidb:idb < 1000) (hm2:NM s id2) (hn2:s.o id2 = none) :
 ∃ c',c'.old = c.old ∧ c'.own id2 = c.own id ∧ al w0 nt c' ⟨s.t,fun q=>if q = id2 then some (.nest e et es n (gu m r k) (iz g r ff) none) else if q = id ∨ q = id' ∨ q = idb then none else s.o q⟩ a w:=by
 have x1:id' ≠ id:=by rintro rfl;rw [ho] at ho';cases ho'
 have x2:idb ≠ id:=by rintro rfl;rw [ho] at hob;cases hob
 have x3:idb ≠ id':=by rintro rfl;rw [ho'] at hob;cases hob
 have y1:id2 ≠ id:=by rintro rfl;rw [ho] at hn2;cases hn2
 have y2:id2 ≠ id':=by rintro rfl;rw [ho'] at hn2;cases hn2
 have y3:id2 ≠ idb:=by rintro rfl;rw [hob] at hn2;cases hn2
 obtain ⟨_,_,_,h5⟩:=h.objs id _ ho
 obtain ⟨h6,xt,t1,t2⟩:c.blk id = dv (c.own id) ∧ ∃ xs,w.ownsRow 0 e 1 (c.own id) n xs ∧ ∀ i j,i < n → j < 1 → ∃ x,xs[i * 1 + j]? = some x ∧ bp c s.o (f i j) x:=by
  rcases h5 with h5 | ⟨h5,_⟩
  · exact h5
  · omega
 obtain ⟨q0,q1,q5⟩:=h.objs id' _ ho'
 obtain ⟨b1,b2⟩:=h.objs idb _ hob
 obtain ⟨bt,capt,ht0,htc⟩:∃ b cap,c.own id = .slice (some ⟨b,0,none⟩) n cap ∧ am (c.own id) = some b:=by
  rcases eq t1 with ⟨h1,_⟩ | h1
  · omega
  · exact h1
 have hct:c.blk id bt:=by rw [h6,ht0];rfl
 let rws:Nat → Value:=fun i=>if i = r then c.own id' else hd i
 have rr:rws r = c.own id':=if_pos rfl
 have rn:∀ i,i ≠ r → rws i = hd i:=fun i hi=>if_neg hi
 have hcr:∀ b,am (c.own id') = some b → c.blk id' b:=fun b hb=>by
  rcases q5 with ⟨q6,_⟩ | ⟨q7,_,q8⟩
  · rw [q6];exact a0j hb
  · obtain ⟨ad,cap,r1,_,_,r4,_⟩:=q8
    rcases q7 with q7 | q7
    · cases q7
    · subst q7
      rw [r1,r4 rfl] at hb
      cases ad <;> simp [am] at hb
 have hrow:(k = 0 ∧ ∃ a,c.own id' = .slice a 0 0) ∨ ∃ ys,w.ownsRow 0 et es (c.own id') k ys ∧ ∀ r j,r < k → j < es → ∃ x,ys[r * es + j]? = some x ∧ b9 c.imm (ff r j) x:=by
  rcases q5 with ⟨_,xs,q7,q8⟩ | ⟨q6,_,q8⟩
  · exact .inr ⟨xs,q7,q8⟩
  · rcases q6 with q6 | q6
    · cases q6
    · subst q6
      exact .inl ⟨rfl,yb q8⟩
 have hrows:∀ i,i < n → xt[i]? = some (rws i):=fun i hi=>by
  obtain ⟨x,hx,hxr⟩:=t2 i 0 hi (by omega)
  rw [Nat.mul_one,Nat.add_zero] at hx
  by_cases hir:i = r
  · subst hir
    rw [hfr] at hxr
    rw [rr,hx,(hxr.2.2 _ _ _ _ ho' rfl).2 rfl]
  · rw [hfi i hi hir] at hxr
    rw [rn i hir,hx,hxr.1]
 have hcb:∀ i b,i < n → i ≠ r → am (hd i) = some b → c.blk idb b:=fun i b hi hir hb=>by
  rcases hbf.row i hi hir with ⟨_,x,h1⟩ | ⟨b',cap,cur,h1,h2,h3,_⟩
  · rw [h1] at hb;cases x <;> simp [am] at hb
  · rw [h2] at hb
    cases hb
    exact (b2 _ _ h3).1
 let bk:Nat → Prop:=fun b=>am (c.own id) = some b ∨ ∃ i,i < n ∧ am (rws i) = some b
 have hfrom:∀ b,bk b → c.blk id b ∨ c.blk id' b ∨ c.blk idb b:=fun b hb=>by
  rcases hb with hb | ⟨i,hi,hb⟩
  · rw [htc] at hb
    cases hb
    exact .inl hct
  · by_cases hir:i = r
    · subst hir;rw [rr] at hb;exact .inr (.inl (hcr b hb))
    · rw [rn i hir] at hb;exact .inr (.inr (hcb i b hi hir hb))
 let own':Nat → Value:=fun q=>if q = id2 then c.own id else c.own q
 let blk':Nat → Nat → Prop:=fun q=>if q = id2 then bk else c.blk q
 let rows':Nat → Nat → Value:=fun q=>if q = id2 then rws else c.rows q
 let o':b8:=fun q=>if q = id2 then some (.nest e et es n (gu m r k) (iz g r ff) none) else if q = id ∨ q = id' ∨ q = idb then none else s.o q
 have o2:o' id2 = some (.nest e et es n (gu m r k) (iz g r ff) none):=if_pos rfl
 have o1:∀ q,(q = id ∨ q = id' ∨ q = idb) → o' q = none:=fun q hq=>by
  show (if q = id2 then _ else if q = id ∨ q = id' ∨ q = idb then none else s.o q) = none
  rw [if_neg (by rcases hq with rfl | rfl | rfl <;> (intro e;first | exact y1 e.symm | exact y2 e.symm | exact y3 e.symm)),if_pos hq]
 have w2:own' id2 = c.own id:=if_pos rfl
 have k2:blk' id2 = bk:=if_pos rfl
 have s2:rows' id2 = rws:=if_pos rfl
 refine ⟨{ old:=c.old,imm:=c.imm,tab:=c.tab,own:=own',blk:=blk',rows:=rows' },rfl,w2,h.redo (fun q=>q = id2 ∨ q = id ∨ q = id' ∨ q = idb) own' blk' rows' o' ?_ ?_ ?_ ?_ ?_ ?_⟩
 · rintro q (rfl | rfl | rfl | rfl)
   · exact hm2.2.2
   · exact hid
   · exact hid'
   · exact hidb
 · intro q hq
   have z1:q ≠ id2:=fun e=>hq (.inl e)
   refine ⟨?_,if_neg z1,if_neg z1,if_neg z1⟩
   show (if q = id2 then _ else if q = id ∨ q = id' ∨ q = idb then none else s.o q) = _
   rw [if_neg z1,if_neg (fun e=>hq (.inr e))]
 · rintro q (rfl | hq)
   · exact .inl ⟨hm2.1,fun id0 ob _ h0=>hm2.2.1 id0 ob h0⟩
   · exact .inr (.inl (o1 q hq))
 · rintro q ob (rfl | hq) hob'
   · rw [o2] at hob'
     cases hob'
     have hlenn:n ≤ maxLen:=hbf.len
     have apart:∀ i b,i < n → am (rws i) = some b → am (c.own id) ≠ some b ∧ ∀ i',i' < n → am (rws i') = some b → i' = i:=fun i b hi hb=>by
      have own_i:(i = r ∧ c.blk id' b) ∨ (i ≠ r ∧ c.blk idb b):=by
       by_cases hir:i = r
       · subst hir;rw [rr] at hb;exact .inl ⟨rfl,hcr b hb⟩
       · rw [rn i hir] at hb;exact .inr ⟨hir,hcb i b hi hir hb⟩
      refine ⟨fun he=>?_,fun i' hi' hb'=>?_⟩
      · rw [htc] at he
        cases he
        rcases own_i with ⟨_,h7⟩ | ⟨_,h7⟩
        · exact x1 (h.inj id' id _ _ _ ho' ho h7 hct)
        · exact x2 (h.inj idb id _ _ _ hob ho h7 hct)
      · by_cases hir:i = r
        · by_cases hir':i' = r
          · rw [hir,hir']
          · rw [rn i' hir'] at hb'
            have h7:=hcb i' b hi' hir' hb'
            rcases own_i with ⟨_,h8⟩ | ⟨h8,_⟩
            · exact (x3 (h.inj idb id' _ _ b hob ho' h7 h8)).elim
            · exact (h8 hir).elim
        · by_cases hir':i' = r
          · subst hir'
            rw [rr] at hb'
            have h7:=hcr b hb'
            rcases own_i with ⟨h8,_⟩ | ⟨_,h8⟩
            · exact (hir h8).elim
            · exact (x3 (h.inj idb id' _ _ b hob ho' h8 h7)).elim
          · rw [rn i hir] at hb
            rw [rn i' hir'] at hb'
            exact hbf.apart i i' b hi hir hi' hir' hb hb'
     have hlens:∀ i,i < n → gu m r k i ≤ maxLen:=fun i hi=>by
      by_cases hir:i = r
      · subst hir;rw [a14];exact q1
      · rw [a3b hir]
        rcases hbf.row i hi hir with ⟨h1,_⟩ | ⟨_,_,_,_,_,_,h1,h2,_⟩
        · omega
        · omega
     have hrow2:∀ i,i < n → (gu m r k i = 0 ∧ ∃ a,rws i = .slice a 0 0) ∨ ∃ ys,w.ownsRow 0 et es (rws i) (gu m r k i) ys ∧ ∀ q j,q < gu m r k i → j < es → ∃ x,ys[q * es + j]? = some x ∧ b9 c.imm (iz g r ff i q j) x:=fun i hi=>by
      by_cases hir:i = r
      · subst hir
        rw [rr,a14,an6]
        exact hrow
      · rw [rn i hir,a3b hir,al2 hir]
        rcases hbf.row i hi hir with h1 | ⟨b,cap,cur,h1,_,h3,h4,h6,h7,h8⟩
        · exact .inl h1
        · have hh:=(b2 b _ h3).2.2.1
          refine .inr ⟨cur.toList.take (m i * es),⟨?_, .inr ⟨b,cap,cur,h1,Nat.zero_le _,hh,h4,h6,h7,rfl⟩⟩,fun q j hq hj=>?_⟩
          · rw [List.length_take,Array.length_toList,h7,Nat.min_eq_left (Nat.mul_le_mul_right _ h4)]
          · obtain ⟨x,e1,e2,e3⟩:=h8 q j hq hj
            exact ⟨x,e1,by rw [e2];exact ⟨rfl,e3⟩⟩
     refine ⟨q0,by simpa [j1] using hlenn,hlens,fun b=>?_,fun i b hi hb=>?_,fun i hi=>?_, .inr ⟨xt, ?_,fun i hi=>?_,fun p hp=>by cases hp⟩⟩
     · show blk' q b ↔ (am (own' q) = some b ∨ ∃ i,i < n ∧ am (rows' q i) = some b)
       rw [k2,w2,s2]
     · have hb:am (rows' q i) = some b:=hb
       rw [s2] at hb
       show am (own' q) ≠ some b ∧ ∀ i',i' < n → am (rows' q i') = some b → i' = i
       rw [w2,s2]
       exact apart i b hi hb
     · show (gu m r k i = 0 ∧ ∃ a,rows' q i = .slice a 0 0) ∨ ∃ ys,w.ownsRow 0 et es (rows' q i) (gu m r k i) ys ∧ _
       rw [s2]
       exact hrow2 i hi
     · show w.ownsRow 0 e 1 (own' q) n xt
       rw [w2];exact t1
     · show xt[i]? = some (rows' q i)
       rw [s2];exact hrows i hi
   · rw [o1 q hq] at hob';cases hob'
 · rintro q ob b (rfl | hq) hob' hb
   · rw [k2] at hb
     rcases hfrom b hb with h7 | h7 | h7
     · exact ⟨id,_, .inr (.inl rfl),ho,h7⟩
     · exact ⟨id',_, .inr (.inr (.inl rfl)),ho',h7⟩
     · exact ⟨idb,_, .inr (.inr (.inr rfl)),hob,h7⟩
   · rw [o1 q hq] at hob';cases hob'
 · rintro q q' ob ob' b (rfl | hq) (rfl | hq') h7 h8 _ _
   · rfl
   · rw [o1 q' hq'] at h8;cases h8
   · rw [o1 q hq] at h7;cases h7
   · rw [o1 q hq] at h7;cases h7
theorem al.nestNil (h:al w0 nt c s a w) {id id2 n:Nat} {e et:TypeId} {es s':Nat} {g:Nat → Nat → Nat → PV} {f f':Nat → Nat → PV} (ho:s.o id = some (.arr true 1 e n f)) (hes:0 < es) (hf:∀ i,i < n → f i 0 = .sl 0 s' true f')
 (hid:id < 1000) (hm2:NM s id2) (hn2:s.o id2 = none) :
 ∃ c',c'.old = c.old ∧ c'.own id2 = c.own id ∧ al w0 nt c' ⟨s.t,fun q=>if q = id2 then some (.nest e et es n (fun _=>0) g none) else if q = id then none else s.o q⟩ a w:=by
 have y1:id2 ≠ id:=by rintro rfl;rw [ho] at hn2;cases hn2
 obtain ⟨_,q1,q5⟩:=h.objs id _ ho
 let rws:Nat → Value:=fun i=>match w.cell? ⟨(br (c.own id)).getD 0,i,none⟩ with | some v=>v | none=>.slice none 0 0
 have htop:(n = 0 ∧ ∃ a,c.own id = .slice a 0 0) ∨ ∃ xt,w.ownsRow 0 e 1 (c.own id) n xt ∧ c.blk id = dv (c.own id) ∧ ∀ i,i < n → ∃ x,xt[i]? = some x ∧ x = rws i ∧ ∃ ad,x = .slice ad 0 0:=by
  rcases q5 with ⟨q6,xs,q7,q8⟩ | ⟨q6,_,q8⟩
  · refine .inr ⟨xs,q7,q6,fun i hi=>?_⟩
    obtain ⟨x,hx,hxr⟩:=q8 i 0 hi (by omega)
    rw [Nat.mul_one,Nat.add_zero] at hx
    rw [hf i hi] at hxr
    refine ⟨x,hx, ?_,yb hxr⟩
    rcases eq q7 with ⟨h1,_⟩ | ⟨b,cap,rv,rb⟩
    · omega
    · have:=q7.cells (g:=b) (by rw [rv];rfl) _ _ hx
      rw [add_lit,Nat.zero_add] at this
      show x = (match w.cell? ⟨(br (c.own id)).getD 0,i,none⟩ with | some v=>v | none=>.slice none 0 0)
      rw [rv]
      show x = (match w.cell? ⟨b,i,none⟩ with | some v=>v | none=>.slice none 0 0)
      rw [this]
  · rcases q6 with q6 | q6
    · cases q6
    · subst q6
      exact .inl ⟨rfl,yb q8⟩
 have hz:∀ i,i < n → ∃ ad,rws i = .slice ad 0 0:=fun i hi=>by
  rcases htop with ⟨h1,_⟩ | ⟨xt,_,_,h3⟩
  · omega
  · obtain ⟨x,_,e2,e3⟩:=h3 i hi
    rw [← e2];exact e3
 have hzc:∀ i b,i < n → am (rws i) ≠ some b:=fun i b hi hb=>by
  obtain ⟨ad,e⟩:=hz i hi
  rw [e] at hb
  cases ad <;> simp [am] at hb
 let bk:Nat → Prop:=fun b=>am (c.own id) = some b
 let own':Nat → Value:=fun q=>if q = id2 then c.own id else c.own q
 let blk':Nat → Nat → Prop:=fun q=>if q = id2 then bk else c.blk q
 let rows':Nat → Nat → Value:=fun q=>if q = id2 then rws else c.rows q
 let o':b8:=fun q=>if q = id2 then some (.nest e et es n (fun _=>0) g none) else if q = id then none else s.o q
 have o2:o' id2 = some (.nest e et es n (fun _=>0) g none):=if_pos rfl
 have o1:o' id = none:=by
  show (if id = id2 then _ else if id = id then none else s.o id) = none
  rw [if_neg (Ne.symm y1),if_pos rfl]
 have w2:own' id2 = c.own id:=if_pos rfl
 have k2:blk' id2 = bk:=if_pos rfl
 have s2:rows' id2 = rws:=if_pos rfl
 have hcb:∀ b,bk b → c.blk id b:=fun b hb=>by
  rcases htop with ⟨_,ad,h1⟩ | ⟨xt,_,h2,_⟩
  · have hb:am (c.own id) = some b:=hb
    rw [h1] at hb
    cases ad <;> simp [am] at hb
  · rw [h2];exact a0j hb
 refine ⟨{ old:=c.old,imm:=c.imm,tab:=c.tab,own:=own',blk:=blk',rows:=rows' },rfl,w2,h.redo (fun q=>q = id2 ∨ q = id) own' blk' rows' o' ?_ ?_ ?_ ?_ ?_ ?_⟩
 · rintro q (rfl | rfl)
   · exact hm2.2.2
   · exact hid
 · intro q hq
   have z1:q ≠ id2:=fun e=>hq (.inl e)
   refine ⟨?_,if_neg z1,if_neg z1,if_neg z1⟩
   show (if q = id2 then _ else if q = id then none else s.o q) = _
   rw [if_neg z1,if_neg (fun e=>hq (.inr e))]
 · rintro q (rfl | rfl)
   · exact .inl ⟨hm2.1,fun id0 ob _ h0=>hm2.2.1 id0 ob h0⟩
   · exact .inr (.inl o1)
 · rintro q ob (rfl | rfl) hob'
   · rw [o2] at hob'
     cases hob'
     refine ⟨hes,by simpa [j1] using q1,fun i hi=>Nat.zero_le _,fun b=>?_,fun i b hi hb=>?_,fun i hi=>?_, ?_⟩
     · show blk' q b ↔ (am (own' q) = some b ∨ ∃ i,i < n ∧ am (rows' q i) = some b)
       rw [k2,w2,s2]
       exact ⟨fun h1=>.inl h1,fun h1=>h1.elim (fun z=>z) fun ⟨i,hi,h2⟩=>absurd h2 (hzc i b hi)⟩
     · have hb:am (rows' q i) = some b:=hb
       rw [s2] at hb
       exact absurd hb (hzc i b hi)
     · have:∃ a,rows' q i = .slice a 0 0:=by rw [s2];exact hz i hi
       exact .inl ⟨rfl,this⟩
     · rcases htop with ⟨h1,h2⟩ | ⟨xt,h1,h2,h3⟩
       · refine .inl ⟨by simpa [j1] using h1, ?_⟩
         show ∃ a,own' q = _
         rw [w2];exact h2
       · have z1:w.ownsRow 0 e 1 (own' q) (n + j1 none) xt:=by rw [w2];exact h1
         have z2:∀ i,i < n → xt[i]? = some (rows' q i):=fun i hi=>by
          rw [s2]
          obtain ⟨x,e1,e2,_⟩:=h3 i hi
          rw [e1,e2]
         exact .inr ⟨xt,z1,z2,fun p hp=>by cases hp⟩
   · rw [o1] at hob';cases hob'
 · rintro q ob b (rfl | rfl) hob' hb
   · rw [k2] at hb
     exact ⟨id,_, .inr rfl,ho,hcb b hb⟩
   · rw [o1] at hob';cases hob'
 · rintro q q' ob ob' b (rfl | rfl) (rfl | rfl) h7 h8 _ _
   · rfl
   · rw [o1] at h8;cases h8
   · rw [o1] at h7;cases h7
   · rfl
theorem al.renN (h:al w0 nt c s a w) {id id2 n:Nat} {e et:TypeId} {es:Nat} {m:Nat → Nat} {g:Nat → Nat → Nat → PV} (ho:s.o id = some (.nest e et es n m g none)) (hid:id < 1000) (hm2:NM s id2) (hn2:s.o id2 = none) :
 ∃ c',c'.old = c.old ∧ c'.own id2 = c.own id ∧ al w0 nt c' ⟨s.t,fun q=>if q = id2 then some (.nest e et es n m g none) else if q = id then none else s.o q⟩ a w:=by
 have y1:id2 ≠ id:=by rintro rfl;rw [ho] at hn2;cases hn2
 have hnk:jp 0 c s.o w id e et es n m g none:=h.objs id _ ho
 let own':Nat → Value:=fun q=>if q = id2 then c.own id else c.own q
 let blk':Nat → Nat → Prop:=fun q=>if q = id2 then c.blk id else c.blk q
 let rows':Nat → Nat → Value:=fun q=>if q = id2 then c.rows id else c.rows q
 let o':b8:=fun q=>if q = id2 then some (.nest e et es n m g none) else if q = id then none else s.o q
 have o2:o' id2 = some (.nest e et es n m g none):=if_pos rfl
 have o1:o' id = none:=by
  show (if id = id2 then _ else if id = id then none else s.o id) = none
  rw [if_neg (Ne.symm y1),if_pos rfl]
 have w2:own' id2 = c.own id:=if_pos rfl
 have k2:blk' id2 = c.blk id:=if_pos rfl
 have s2:rows' id2 = c.rows id:=if_pos rfl
 refine ⟨{ old:=c.old,imm:=c.imm,tab:=c.tab,own:=own',blk:=blk',rows:=rows' },rfl,w2,h.redo (fun q=>q = id2 ∨ q = id) own' blk' rows' o' ?_ ?_ ?_ ?_ ?_ ?_⟩
 · rintro q (rfl | rfl)
   · exact hm2.2.2
   · exact hid
 · intro q hq
   have z1:q ≠ id2:=fun e=>hq (.inl e)
   refine ⟨?_,if_neg z1,if_neg z1,if_neg z1⟩
   show (if q = id2 then _ else if q = id then none else s.o q) = _
   rw [if_neg z1,if_neg (fun e=>hq (.inr e))]
 · rintro q (rfl | rfl)
   · exact .inl ⟨hm2.1,fun id0 ob _ h0=>hm2.2.1 id0 ob h0⟩
   · exact .inr (.inl o1)
 · rintro q ob (rfl | rfl) hob'
   · rw [o2] at hob'
     cases hob'
     obtain ⟨p1,p2,p3,p4,p5,p6,p7⟩:=hnk
     have z4:∀ b,blk' q b ↔ (am (own' q) = some b ∨ ∃ i,i < n ∧ am (rows' q i) = some b):=by rw [k2,w2,s2];exact p4
     have z5:∀ i b,i < n → am (rows' q i) = some b → am (own' q) ≠ some b ∧ ∀ i',i' < n → am (rows' q i') = some b → i' = i:=by rw [w2,s2];exact p5
     have z6:∀ i,i < n → (m i = 0 ∧ ∃ a,rows' q i = .slice a 0 0) ∨ ∃ ys,w.ownsRow 0 et es (rows' q i) (m i) ys ∧ ∀ r j,r < m i → j < es → ∃ x,ys[r * es + j]? = some x ∧ b9 c.imm (g i r j) x:=by rw [s2];exact p6
     have z7:(n + j1 none = 0 ∧ ∃ a,own' q = .slice a 0 0) ∨ ∃ xs,w.ownsRow 0 e 1 (own' q) (n + j1 none) xs ∧ ∀ i,i < n → xs[i]? = some (rows' q i):=by
      rw [w2,s2]
      exact p7.imp (fun z=>z) fun ⟨xs,h1,h2,_⟩=>⟨xs,h1,h2⟩
     exact ⟨p1,p2,p3,z4,z5,z6,z7.imp (fun z=>z) fun ⟨xs,h1,h2⟩=>⟨xs,h1,h2,fun p hp=>by cases hp⟩⟩
   · rw [o1] at hob';cases hob'
 · rintro q ob b (rfl | rfl) hob' hb
   · rw [k2] at hb
     exact ⟨id,_, .inr rfl,ho,hb⟩
   · rw [o1] at hob';cases hob'
 · rintro q q' ob ob' b (rfl | rfl) (rfl | rfl) h7 h8 _ _
   · rfl
   · rw [o1] at h8;cases h8
   · rw [o1] at h7;cases h7
   · rfl
end
section
variable {ro:Option Nat} {P:Program} {nt:Nat} {st:HSt} {Q:Exit → HSt → Prop} {co:Code}
theorem mn {t:List (Nat × Option HR)} {l:List (Nat × Option ag)} {o':b8} (h:∀ q,bj l q = o' q):HSt.den ⟨t,l⟩ = ⟨(HSt.den ⟨t,l⟩).t,o'⟩:=by
 unfold HSt.den
 congr 1
 exact funext h
theorem alh (id r id' idb:Nat) {n:Nat} {e et:TypeId} {es:Nat} {m:Nat → Nat} {g:Nat → Nat → Nat → PV} (ho:bj st.o id = some (.nest e et es n m g none)) (hr:r < n) (hraw:∀ i q j,i < n → q < m i → j < es → ∃ v,g i q j = .raw v)
 (h:∀ hd B,a7a et es n r m g hd B → HW (ro:=ro) P nt co ⟨st.t,(idb,some (.bun B)) :: (id',some (.arr true es et (m r) (g r))) :: (id,some (.arrh 1 e n [id'] (hdF hd id' r (m r)))) :: st.o⟩ Q)
 (hid:Nat.blt id 1000 = true:=by exact rfl) (h1:jv id' st = true:=by exact rfl) (h2:jv idb st = true:=by exact rfl) (hne:Nat.beq id' idb = false:=by exact rfl):HW (ro:=ro) P nt co st Q:=fun w0 m0 a w hr0=>by
 obtain ⟨cc,hold,hrr⟩:=hr0
 obtain ⟨hm',hn'⟩:=f8 h1
 obtain ⟨hmb,hnb⟩:=f8 h2
 have hne':id' ≠ idb:=by intro e;subst e;simp at hne
 obtain ⟨hd,B,c',q1,q2,q3⟩:=hrr.split ho (by simpa [Nat.blt_eq] using hid) hr hraw hm' hn' hmb hnb hne'
 refine h hd B q1 w0 m0 a w ⟨c',q2.trans hold, ?_⟩
 rw [mn (o':=fun q=>if q = idb then some (.bun B) else if q = id' then some (.arr true es et (m r) (g r)) else if q = id then some (.arrh 1 e n [id'] (hdF hd id' r (m r))) else st.den.o q) (fun q=>by simp only [bo];rfl)]
 exact q3
theorem y9 (d id id' idb id2:Nat) {r n n' k:Nat} {e et:TypeId} {es:Nat} {m:Nat → Nat} {g:Nat → Nat → Nat → PV} {ms:List Nat} {f:Nat → Nat → HV} {ff:Nat → Nat → PV} {hd:Nat → Value} {B:Nat → Option Obj} (hbf:a7a et es n r m g hd B)
 (hd0:bj st.t d = some (.v (.one (.ref id n')))) (ho:bj st.o id = some (.arrh 1 e n ms f)) (ho':bj st.o id' = some (.arr true es et k ff)) (hob:bj st.o idb = some (.bun B)) (hr:r < n) (hfr:f r 0 = .ref id' k) (hfi:∀ i,i < n → i ≠ r → f i 0 = .p (.raw (hd i)))
 (h:HW (ro:=ro) P nt co ⟨(d,some (.v (.one (.ref id2 n)))) :: st.t,(id2,some (.nest e et es n (gu m r k) (iz g r ff) none)) :: (id,none) :: (id',none) :: (idb,none) :: st.o⟩ Q)
 (hn:n' = n:=by exact rfl) (hid:(Nat.blt id 1000 && Nat.blt id' 1000 && Nat.blt idb 1000) = true:=by exact rfl) (h1:jv id2 st = true:=by exact rfl):HW (ro:=ro) P nt co st Q:=by
 subst hn
 obtain ⟨hm2,hn2⟩:=f8 h1
 simp only [Bool.and_eq_true,Nat.blt_eq] at hid
 refine wd ⟨st.t,(id2,some (.nest e et es n' (gu m r k) (iz g r ff) none)) :: (id,none) :: (id',none) :: (idb,none) :: st.o⟩ d (.v (.one (.ref id2 n'))) (fun w0 m0 a w hr0=>?_) h
 obtain ⟨cc,hold,hrr⟩:=hr0
 obtain ⟨c',q1,q2,q3⟩:=hrr.join ho ho' hob hbf hr hfr hfi hid.1.1 hid.1.2 hid.2 hm2 hn2
 have hu:bp cc st.den.o (.ref id n') (a.tmps.getD d undef):=hrr.tmps d _ hd0
 have he:a.tmps.getD d undef = cc.own id:=(hu.2.2 _ _ _ _ ho rfl).2 rfl
 have hl:∀ q,bj ((id2,some (ag.nest e et es n' (gu m r k) (iz g r ff) none)) :: (id,none) :: (id',none) :: (idb,none) :: st.o) q = (if q = id2 then some (.nest e et es n' (gu m r k) (iz g r ff) none) else if q = id ∨ q = id' ∨ q = idb then none else st.den.o q):=fun q=>by
  simp only [bo]
  by_cases a1:q = id2
  · rw [if_pos a1,if_pos a1]
  · rw [if_neg a1,if_neg a1]
    by_cases a2:q = id
    · rw [if_pos a2,if_pos (.inl a2)]
    · rw [if_neg a2]
      by_cases a3:q = id'
      · rw [if_pos a3,if_pos (.inr (.inl a3))]
      · rw [if_neg a3]
        by_cases a4:q = idb
        · rw [if_pos a4,if_pos (.inr (.inr a4))]
        · rw [if_neg a4,if_neg (by rintro (e | e | e) <;> contradiction)];rfl
 refine ⟨c',q1.trans hold,by rw [mn hl];exact q3, ?_⟩
 rw [mn hl]
 refine ⟨hu.1,fun l hl2=>by simp at hl2,fun ob2 s2 e2 n2 ho2 hd2=>?_⟩
 simp only [if_true,Option.some.injEq] at ho2
 subst ho2
 simp only [ag.dim,Option.some.injEq,Prod.mk.injEq] at hd2
 obtain ⟨rfl,rfl,rfl⟩:=hd2
 exact ⟨Nat.le_refl _,fun _=>by rw [q2,he]⟩
theorem adf {w0:World} {cc c':Ctx} {a:Act} {w:World} {m0:Old} {d id id2 n:Nat} {ob ob2:ag} {sz:Nat} {e:TypeId} (hrr:al w0 nt cc st.den a w) (hold:cc.old = m0) (hd0:bj st.t d = some (.v (.one (.ref id n)))) (ho:bj st.o id = some ob) (hdm:ob.dim = some (sz,e,n)) (hdm2:ob2.dim = some (sz,e,n))
 (q1:c'.old = cc.old) (q2:c'.own id2 = cc.own id) (q3:al w0 nt c' ⟨st.den.t,fun q=>if q = id2 then some ob2 else if q = id then none else st.den.o q⟩ a w) :
 ∃ c,c.old = m0 ∧ al w0 nt c (HSt.den ⟨st.t,(id2,some ob2) :: (id,none) :: st.o⟩) a w ∧ b7 c (HSt.den ⟨st.t,(id2,some ob2) :: (id,none) :: st.o⟩).o (.v (.one (.ref id2 n))) (a.tmps.getD d undef):=by
 have hu:bp cc st.den.o (.ref id n) (a.tmps.getD d undef):=hrr.tmps d _ hd0
 have he:a.tmps.getD d undef = cc.own id:=(hu.2.2 _ _ _ _ ho hdm).2 rfl
 have hl:∀ q,bj ((id2,some ob2) :: (id,none) :: st.o) q = (if q = id2 then some ob2 else if q = id then none else st.den.o q):=fun q=>by
  simp only [bo];rfl
 refine ⟨c',q1.trans hold,by rw [mn hl];exact q3, ?_⟩
 rw [mn hl]
 refine ⟨hu.1,fun l hl2=>?_,fun ob3 s3 e3 n3 ho3 hd3=>?_⟩
 · simp only [if_true,Option.some.injEq] at hl2
   rw [hl2] at hdm2;cases hdm2
 · simp only [if_true,Option.some.injEq] at ho3
   subst ho3
   rw [hdm2] at hd3
   simp only [Option.some.injEq,Prod.mk.injEq] at hd3
   obtain ⟨rfl,rfl,rfl⟩:=hd3
   exact ⟨Nat.le_refl _,fun _=>by rw [q2,he]⟩
theorem afw (d id id2:Nat) (et:TypeId) (es:Nat) (g:Nat → Nat → Nat → PV) {n n':Nat} {e:TypeId} {s':Nat} {f f':Nat → Nat → PV} (hd0:bj st.t d = some (.v (.one (.ref id n')))) (ho:bj st.o id = some (.arr true 1 e n f)) (hf:∀ i,i < n → f i 0 = .sl 0 s' true f')
 (h:HW (ro:=ro) P nt co ⟨(d,some (.v (.one (.ref id2 n)))) :: st.t,(id2,some (.nest e et es n (fun _=>0) g none)) :: (id,none) :: st.o⟩ Q)
 (hes:Nat.blt 0 es = true:=by exact rfl) (hn:n' = n:=by exact rfl) (hid:Nat.blt id 1000 = true:=by exact rfl) (h1:jv id2 st = true:=by exact rfl):HW (ro:=ro) P nt co st Q:=by
 subst hn
 obtain ⟨hm2,hn2⟩:=f8 h1
 refine wd ⟨st.t,(id2,some (.nest e et es n' (fun _=>0) g none)) :: (id,none) :: st.o⟩ d (.v (.one (.ref id2 n'))) (fun w0 m0 a w hr0=>?_) h
 obtain ⟨cc,hold,hrr⟩:=hr0
 obtain ⟨c',q1,q2,q3⟩:=hrr.nestNil (g:=g) (et:=et) ho (by simpa [Nat.blt_eq] using hes) hf (by simpa [Nat.blt_eq] using hid) hm2 hn2
 exact adf hrr hold hd0 ho rfl rfl q1 q2 q3
theorem a1a (d id id2:Nat) {n n':Nat} {e et:TypeId} {es:Nat} {m:Nat → Nat} {g:Nat → Nat → Nat → PV} (hd0:bj st.t d = some (.v (.one (.ref id n')))) (ho:bj st.o id = some (.nest e et es n m g none))
 (h:HW (ro:=ro) P nt co ⟨(d,some (.v (.one (.ref id2 n)))) :: st.t,(id2,some (.nest e et es n m g none)) :: (id,none) :: st.o⟩ Q)
 (hn:n' = n:=by exact rfl) (hid:Nat.blt id 1000 = true:=by exact rfl) (h1:jv id2 st = true:=by exact rfl):HW (ro:=ro) P nt co st Q:=by
 subst hn
 obtain ⟨hm2,hn2⟩:=f8 h1
 refine wd ⟨st.t,(id2,some (.nest e et es n' m g none)) :: (id,none) :: st.o⟩ d (.v (.one (.ref id2 n'))) (fun w0 m0 a w hr0=>?_) h
 obtain ⟨cc,hold,hrr⟩:=hr0
 obtain ⟨c',q1,q2,q3⟩:=hrr.renN ho (by simpa [Nat.blt_eq] using hid) hm2 hn2
 exact adf hrr hold hd0 ho rfl rfl q1 q2 q3
end
end Go.Hx
end
section
namespace Go.Hx
theorem wfA (s:AS):(Lit.int .u32 (asI s)).wf = true:=by
 have h1:=wc s
 have h2:=a0f s
 have e1:IntKind.min .u32 = 0:=by decide
 have e2:IntKind.max .u32 = 4294967295:=by decide
 simp only [Lit.wf,e1,e2,Bool.and_eq_true,decide_eq_true_eq]
 omega
abbrev nI (k:Int):PV:=.raw (.int .i64 k)
def mpF (c:AS → Int):MK → Option PV
 | .i .u32 z=>if 0 ≤ z ∧ z < 4294967296 ∧ c (BitVec.ofNat 32 z.toNat) ≠ 0 then some (nI (c (BitVec.ofNat 32 z.toNat))) else none
 | _=>none
abbrev mkA (s:AS):MK:=.i .u32 (asI s)
theorem okA (s:AS):MK.ok (.int .u32) (mkA s):=⟨rfl,wfA s⟩
theorem ant (s:AS):BitVec.ofNat 32 (asI s).toNat = s:=by
 unfold asI
 rw [Int.toNat_natCast]
 exact (BitVec.ofNat_toNat 32 s).trans (BitVec.setWidth_eq s)
theorem a0g (c:AS → Int) (s:AS):mpF c (mkA s) = if c s ≠ 0 then some (nI (c s)) else none:=by
 have h1:=wc s
 have h2:=a0f s
 simp only [mkA,mpF,ant]
 by_cases h:c s ≠ 0
 · rw [if_pos ⟨h1,by omega,h⟩,if_pos h]
 · rw [if_neg (fun e=>h e.2.2),if_neg h]
theorem aej {f:MK → Option PV} {m:MK} {y:PV} (h:f m = some y) (z:Value):me f m z = y:=by
 unfold me;rw [h]
theorem af1 {f:MK → Option PV} {m:MK} (h:f m = none) (z:Value):me f m z = jx z:=by
 unfold me;rw [h]
theorem asx (c:AS → Int) (s:AS):me (mpF c) (mkA s) (.int .i64 0) = nI (c s):=by
 have e:=a0g c s
 by_cases h:c s = 0
 · rw [if_neg (by simpa using h)] at e
   rw [af1 e,h];rfl
 · rw [if_pos h] at e
   exact aej e _
theorem aj8 (f:MK → Option PV) (m:MK) (y:PV) (z:Value):me (ja f m y) m z = y:=by
 unfold me ja
 rw [MK.same_iff.2 rfl];rfl
theorem l5 {c:AS → Int} {m:MK} {y:PV} (h:mpF c m = some y):∃ s,m = mkA s ∧ c s ≠ 0 ∧ y = nI (c s):=by
 unfold mpF at h
 split at h
 · rename_i z
   split at h
   · rename_i hz
     cases h
     refine ⟨BitVec.ofNat 32 z.toNat, ?_,hz.2.2,rfl⟩
     have e:asI (BitVec.ofNat 32 z.toNat) = z:=by
      rw [ik (by omega)]
      omega
     show MK.i .u32 z = MK.i .u32 (asI _)
     rw [e]
   · cases h
 · cases h
theorem w7 {c:AS → Int} (key:MK) (y:PV) (h:mpF c key = some y):∃ v,y = .raw v:=by
 obtain ⟨s,_,_,rfl⟩:=l5 h
 exact ⟨_,rfl⟩
theorem a5x {c:AS → Int} {f:MK → Option PV} (h1:∀ s,f (mkA s) = if c s ≠ 0 then some (nI (c s)) else none) (h2:∀ m,(∀ s,m ≠ mkA s) → f m = none):f = mpF c:=by
 funext m
 by_cases h:∃ s,m = mkA s
 · obtain ⟨s,rfl⟩:=h
   rw [h1,a0g]
 · have hm:∀ s,m ≠ mkA s:=fun s e=>h ⟨s,e⟩
   rw [h2 m hm]
   cases hc:mpF c m with
   | none=>rfl
   | some y =>
    obtain ⟨s,e,_⟩:=l5 hc
    exact absurd e (hm s)
theorem a6o {a b:AS}:mkA a = mkA b ↔ a = b:=⟨fun h=>im.1 (MK.i.inj h).2,fun h=>h ▸ rfl⟩
theorem aas {a b:AS}:(mkA a).same (mkA b) = decide (a = b):=by
 rw [Bool.eq_iff_iff,MK.same_iff,decide_eq_true_iff,a6o]
theorem adj {x y:MK} (h:x ≠ y):x.same y = false:=by
 rw [Bool.eq_false_iff]
 exact fun e=>h (MK.same_iff.1 e)
theorem a6u {c:AS → Int} {x:AS} {v:Int} (hv:v ≠ 0):ja (mpF c) (mkA x) (nI v) = mpF (fun s=>if s = x then v else c s):=a5x (fun s=>by
 unfold ja
 rw [aas]
 by_cases h:s = x
 · subst h
   simp [hv]
 · simp [h,a0g]) (fun m hm=>by
 unfold ja
 rw [adj (hm x)]
 show mpF c m = none
 cases hc:mpF c m with
 | none=>rfl
 | some y =>
  obtain ⟨s,e,_⟩:=l5 hc
  exact absurd e (hm s))
theorem a6s {c:AS → Int} {x:AS} {v:Int} (hv:v = 0):um (ja (mpF c) (mkA x) (nI v)) (mkA x) = mpF (fun s=>if s = x then v else c s):=a5x (fun s=>by
 unfold um ja
 rw [aas]
 by_cases h:s = x
 · subst h
   simp [hv]
 · simp [h,a0g]) (fun m hm=>by
 unfold um ja
 rw [adj (hm x)]
 show mpF c m = none
 cases hc:mpF c m with
 | none=>rfl
 | some y =>
  obtain ⟨s,e,_⟩:=l5 hc
  exact absurd e (hm s))
theorem qd {n:Nat} {f f':MK → Option PV} (h:f = f'):CoO (.mp (.int .u32) n f) (.mp (.int .u32) n f'):=⟨rfl,Nat.le_refl _,fun m=>CoM.of_eq (congrFun h m)⟩
theorem anv {l:List Row} {r:Row} {y:Int} {c:AS → Int} (hy:y = 1 ∨ y = -1) (s:AS):c s - l.length ≤ f5 l r y c s ∧ f5 l r y c s ≤ c s + l.length:=by
 unfold f5
 have h1:(((l.filter fun x=>decide (x.id ≠ r.id)).map fun x=>agR x r).count s) ≤ l.length :=
  Nat.le_trans List.count_le_length (by rw [List.length_map];exact List.length_filter_le _ _)
 rcases hy with rfl | rfl <;> omega
theorem xf {l:List Row} {i:Nat} {r:Row} {y:Int} {c:AS → Int} (hi:i < l.length) (h:¬ (l.getD i default).id = r.id) :
 (fun s=>if s = agR (l.getD i default) r then f5 (l.take i) r y c (agR (l.getD i default) r) + y else f5 (l.take i) r y c s) = f5 (l.take (i + 1)) r y c:=by
 rw [agm hi h]
 funext s
 by_cases e:s = agR (l.getD i default) r
 · rw [if_pos e,if_pos e,e]
 · rw [if_neg e,if_neg e]
structure MSt where
 t:Tbl
 c:AS → Int
 fds:List Fd
 add:List Fd
 rem:List Fd
abbrev akg (t:Tbl) (fds add rem:List Fd):ag:=.box [.p (t.c 0), .p (t.c 1), .p (t.c 2), .ref 901 0, .p (fdl fds), .p (fdl add), .p (fdl rem)]
abbrev a6b (c:AS → Int):ag:=.mp (.int .u32) 4294967296 (mpF c)
abbrev MSt.objsAt (x:MSt) (b:Nat):List (Nat × ag):=[(b,akg x.t x.fds x.add x.rem),(901,a6b x.c)]
abbrev MSt.objs (x:MSt):List (Nat × ag):=x.objsAt 1000
end Go.Hx
end
