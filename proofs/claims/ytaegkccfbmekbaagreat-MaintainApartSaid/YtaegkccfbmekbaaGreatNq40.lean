/- A part of the proof: Hx34 Hx31 Mw22 Mw12. -/
import Derived.Test.YtaegkccfbmekbaaGreatNq23
import Derived.Test.YtaegkccfbmekbaaGreatNq26
import Derived.Test.YtaegkccfbmekbaaGreatNq39
set_option linter.all false
section
namespace Go.Hx
open Go.RowKit
def HdB (e:TypeId) (s:Nat) (B:Nat → Option Obj) (m:Nat) (hd:Value):Prop :=
 (m = 0 ∧ ∃ a,hd = .slice a 0 0) ∨ ∃ b cap cur,hd = .slice (some ⟨b,0,none⟩) m cap ∧ 0 < cap ∧ B b = some (.cells cur e (0,0)) ∧ m ≤ cap ∧ cap ≤ maxLen ∧ cur.size = cap * s ∧ ∀ k,k < m * s → ∃ x,cur[k]? = some x ∧ x.oneCell' = true
theorem HdB.one {e:TypeId} {s m:Nat} {B:Nat → Option Obj} {hd:Value} (h:HdB e s B m hd):hd.oneCell' = true:=by
 rcases h with ⟨_,a,rfl⟩ | ⟨b,cap,cur,rfl,_⟩ <;> rfl
theorem HdB.upd {e:TypeId} {s m:Nat} {B:Nat → Option Obj} {hd:Value} (h:HdB e s B m hd) {b:Nat} {x:Option Obj} (hb:B b = none):HdB e s (aab B b x) m hd:=by
 rcases h with h | ⟨b',cap,cur,h1,h0,h2,h3⟩
 · exact .inl h
 · refine .inr ⟨b',cap,cur,h1,h0, ?_,h3⟩
   rw [a6q (by rintro rfl;rw [hb] at h2;cases h2)]
   exact h2
def a0s (B B':Nat → Option Obj) (hd:Value):Prop:=(B' = B ∧ am hd = none) ∨ ∃ b x,B b = none ∧ B' = aab B b (some x) ∧ am hd = some b
section
variable {w0:World} {nt:Nat} {c:Ctx} {s:S} {a:Act} {w:World}
theorem al.rowIn (h:al w0 nt c s a w) {id idb id' r n m s2 j:Nat} {es:Nat} {e eR:TypeId} {ms:List Nat} {F:Nat → Nat → HV} {f0:Nat → Nat → PV} {f:Nat → Nat → PV} {B:Nat → Option Obj} (ho:s.o id = some (.arrh s2 eR n ms F)) (hob:s.o idb = some (.bun B)) (ho':s.o id' = some (.arr true es e m f)) (hr:r < n) (hj:j < s2) (hF:F r j = .ref id' m)
 (hF0:∀ i jj,i < n → jj < s2 → ¬ (i = r ∧ jj = j) → F i jj = .p (f0 i jj)) (hid:id < 1000) (hidb:idb < 1000) (hid':id' < 1000) :
 ∃ B' hd c',c'.old = c.old ∧ HdB e es B' m hd ∧ a0s B B' hd ∧ al w0 nt c' ⟨s.t,fun q=>if q = id' then none else if q = idb then some (.bun B') else if q = id then some (.arr true s2 eR n fun i jj=>if i = r ∧ jj = j then .raw hd else f0 i jj) else s.o q⟩ a w:=by
 have hne:idb ≠ id:=by rintro rfl;rw [ho] at hob;cases hob
 have hn1:id' ≠ id:=by rintro rfl;rw [ho] at ho';cases ho'
 have hn2:id' ≠ idb:=by rintro rfl;rw [hob] at ho';cases ho'
 obtain ⟨b1,b2⟩:=h.objs idb _ hob
 obtain ⟨p1,p2,_,p4⟩:=h.objs id _ ho
 obtain ⟨hes,hmax,hrep⟩:=h.objs id' _ ho'
 have key:∃ (B':Nat → Option Obj) (bk:Nat → Prop),HdB e es B' m (c.own id') ∧ a0s B B' (c.own id') ∧ (∀ b,bk b → c.blk idb b ∨ c.blk id' b) ∧ (∀ b,bk b → B' b ≠ none) ∧ ∀ b x,B' b = some x → bk b ∧ 0 ≤ b ∧ w.heap[b]? = some x ∧ o0 x = true:=by
  rcases hrep with ⟨hblk,xs,hrow,hcell⟩ | ⟨hz,_,hsl⟩
  · rcases eq hrow with ⟨hm0,a0,hv⟩ | ⟨b,cap,hv,hcb⟩
    · exact ⟨B,c.blk idb, .inl ⟨hm0,a0,hv⟩, .inl ⟨rfl,by rw [hv];cases a0 <;> simp [am]⟩,fun b hb=>.inl hb,b1,fun b x hx=>b2 b x hx⟩
    · have hcap:0 < cap:=by
       rcases Nat.eq_zero_or_pos cap with h0 | h0
       · subst h0;rw [hv] at hcb;simp [am] at hcb
       · exact h0
      rcases hrow.2 with ⟨hv',_⟩ | ⟨b',cap',cur,hv',_,hh,q1,q2,q3,q4⟩
      · rw [hv] at hv';cases hv'
      · rw [hv] at hv'
        simp only [Value.slice.injEq,Option.some.injEq,Addr.mk.injEq,and_true,true_and] at hv'
        obtain ⟨rfl,rfl⟩:=hv'
        have hbb:∀ b'',c.blk id' b'' ↔ b'' = b:=fun b''=>by rw [hblk,hv];simp [dv,br,eq_comm]
        have hB:B b = none:=by
         cases hb:B b with
         | none=>rfl
         | some y=>exact absurd (h.inj _ _ _ _ b ho' hob ((hbb b).2 rfl) (b2 b y hb).1) hn2
        refine ⟨aab B b (some (.cells cur e (0,0))),fun b'=>c.blk idb b' ∨ b' = b, .inr ⟨b,cap,cur,hv,hcap,a6f,q1,q2,q3,fun k hk=>?_⟩, .inr ⟨b,_,hB,rfl,by rw [hv];simp [am,Nat.pos_iff_ne_zero.1 hcap]⟩,fun b' hb=>hb.imp_right fun e=>(hbb b').2 e,fun b' hb=>?_,fun b' y hy=>?_⟩
        · have hk1:k / es < m:=Nat.div_lt_of_lt_mul (by rw [Nat.mul_comm];exact hk)
          have hk2:k % es < es:=Nat.mod_lt _ hes
          obtain ⟨x,hx,hr⟩:=hcell (k / es) (k % es) hk1 hk2
          rw [show k / es * es + k % es = k by rw [Nat.mul_comm];exact Nat.div_add_mod k es,← q4,List.getElem?_take,if_pos hk,Array.getElem?_toList] at hx
          exact ⟨x,hx,hr.oneCell⟩
        · by_cases e:b' = b
          · subst e;rw [a6f];simp
          · rw [a6q e];exact b1 b' (hb.resolve_right e)
        · by_cases e:b' = b
          · subst e
            rw [a6f] at hy
            cases hy
            exact ⟨.inr rfl,Nat.zero_le _,hh,rfl⟩
          · rw [a6q e] at hy
            obtain ⟨q1,q2⟩:=b2 b' y hy
            exact ⟨.inl q1,q2⟩
  · obtain rfl:m = 0:=by rcases hz with hz | hz;cases hz;exact hz
    obtain ⟨a0,cap,e1,_,_,e2,_⟩:=hsl
    obtain rfl:=e2 rfl
    exact ⟨B,c.blk idb, .inl ⟨rfl,a0,e1⟩, .inl ⟨rfl,by rw [e1];cases a0 <;> simp [am]⟩,fun b hb=>.inl hb,b1,fun b x hx=>b2 b x hx⟩
 obtain ⟨B',bk,k1,k2,k3,k4,k5⟩:=key
 let blk':Nat → Nat → Prop:=fun q=>if q = idb then bk else c.blk q
 let o':b8:=fun q=>if q = id' then none else if q = idb then some (.bun B') else if q = id then some (.arr true s2 eR n fun i jj=>if i = r ∧ jj = j then .raw (c.own id') else f0 i jj) else s.o q
 have ob1:o' id' = none:=if_pos rfl
 have ob2:o' idb = some (.bun B'):=(if_neg (Ne.symm hn2)).trans (if_pos rfl)
 have ob3:o' id = some (.arr true s2 eR n fun i jj=>if i = r ∧ jj = j then .raw (c.own id') else f0 i jj):=(if_neg (Ne.symm hn1)).trans ((if_neg (Ne.symm hne)).trans (if_pos rfl))
 have bk2:blk' idb = bk:=if_pos rfl
 have bk3:blk' id = c.blk id:=if_neg (Ne.symm hne)
 refine ⟨B',c.own id',{ old:=c.old,imm:=c.imm,tab:=c.tab,own:=c.own,blk:=blk',rows:=c.rows },rfl,k1,k2,h.redo (fun q=>q = id ∨ q = idb ∨ q = id') c.own blk' c.rows o' ?_ ?_ ?_ ?_ ?_ ?_⟩
 · rintro q (rfl | rfl | rfl) <;> assumption
 · intro q hq
   have h1:q ≠ id:=fun e=>hq (.inl e)
   have h2:q ≠ idb:=fun e=>hq (.inr (.inl e))
   have h3:q ≠ id':=fun e=>hq (.inr (.inr e))
   exact ⟨(if_neg h3).trans ((if_neg h2).trans (if_neg h1)),rfl,if_neg h2,rfl⟩
 · rintro q (rfl | rfl | rfl)
   · exact .inr (.inr (.inr ⟨_,_,s2,eR,n,n,ho,rfl,ob3,rfl,Nat.le_refl _,fun _=>rfl,fun _ _ _ _ _ _ _ hb=>by cases hb⟩))
   · exact .inr (.inr (.inr ⟨_,_,0,3,0,0,hob,rfl,ob2,rfl,Nat.le_refl _,fun _=>rfl,fun _ _ _ _ _ _ _ hb=>by cases hb⟩))
   · exact .inr (.inl ob1)
 · rintro q ob (rfl | rfl | rfl) hq
   · rw [ob3] at hq
     cases hq
     rcases p4 with ⟨t1,xs,t2,t3⟩ | ⟨t1,_⟩
     · refine ⟨p1,p2, .inl ⟨by show blk' q = dv (c.own q);rw [bk3];exact t1,xs,t2,fun i jj hi hjj=>?_⟩⟩
       obtain ⟨x,hx,hxr⟩:=t3 i jj hi hjj
       refine ⟨x,hx, ?_⟩
       by_cases hc:i = r ∧ jj = j
       · obtain ⟨rfl,rfl⟩:=hc
         dsimp only
         rw [if_pos ⟨rfl,rfl⟩]
         rw [hF] at hxr
         have:x = c.own id':=(hxr.2.2 _ _ _ _ ho' rfl).2 rfl
         exact ⟨this,k1.one⟩
       · dsimp only
         rw [if_neg hc]
         rw [hF0 i jj hi hjj hc] at hxr
         exact hxr
     · omega
   · rw [ob2] at hq
     cases hq
     refine ⟨fun b hb=>?_,fun b x hx=>?_⟩
     · have hb:blk' q b:=hb
       rw [bk2] at hb
       exact k4 b hb
     · show blk' q b ∧ _
       rw [bk2]
       exact k5 b x hx
   · rw [ob1] at hq;cases hq
 · rintro q ob b (rfl | rfl | rfl) hq hb
   · rw [bk3] at hb;exact ⟨q,_, .inl rfl,ho,hb⟩
   · rw [bk2] at hb
     rcases k3 b hb with hb | hb
     · exact ⟨q,_, .inr (.inl rfl),hob,hb⟩
     · exact ⟨id',_, .inr (.inr rfl),ho',hb⟩
   · rw [ob1] at hq;cases hq
 · have x12:∀ b,blk' id b → blk' idb b → False:=fun b h1 h2=>by
    rw [bk3] at h1;rw [bk2] at h2
    rcases k3 b h2 with h2 | h2
    · exact hne (h.inj _ _ _ _ b hob ho h2 h1)
    · exact hn1 (h.inj _ _ _ _ b ho' ho h2 h1)
   rintro q q' ob ob' b (rfl | rfl | rfl) (rfl | rfl | rfl) hq hq' hb hb'
   · rfl
   · exact (x12 b hb hb').elim
   · rw [ob1] at hq';cases hq'
   · exact (x12 b hb' hb).elim
   · rfl
   · rw [ob1] at hq';cases hq'
   · rw [ob1] at hq;cases hq
   · rw [ob1] at hq;cases hq
   · rfl
theorem al.rowOut (h:al w0 nt c s a w) {id idb id' r n m s2 j:Nat} {es:Nat} {e eR:TypeId} {ms:List Nat} {F:Nat → Nat → HV} {B:Nat → Option Obj} {hd:Value} (ho:s.o id = some (.arrh s2 eR n ms F)) (hob:s.o idb = some (.bun B)) (hr:r < n) (hj:j < s2) (hF:F r j = .p (.raw hd)) (hB:HdB e es B m hd) (hes:0 < es)
 (hid:id < 1000) (hidb:idb < 1000) (hm:NM s id') (hn:s.o id' = none) :
 ∃ B' c',c'.old = c.old ∧ (∀ b,am hd ≠ some b → B' b = B b) ∧ al w0 nt c' ⟨s.t,fun q=>if q = id' then some (.arr true es e m fun _ _=>.any) else if q = idb then some (.bun B') else if q = id then some (.arrh s2 eR n (id' :: ms) (fq F r j [.ref id' m])) else s.o q⟩ a w:=by
 classical
 have hne:idb ≠ id:=by rintro rfl;rw [ho] at hob;cases hob
 have hn1:id' ≠ id:=by rintro rfl;rw [ho] at hn;cases hn
 have hn2:id' ≠ idb:=by rintro rfl;rw [hob] at hn;cases hn
 obtain ⟨b1,b2⟩:=h.objs idb _ hob
 have hO:=h.objs id _ ho
 let B':Nat → Option Obj:=fun b=>if am hd = some b then none else B b
 let bk':Nat → Prop:=fun b=>am hd = some b
 let own':Nat → Value:=fun q=>if q = id' then hd else c.own q
 let blk':Nat → Nat → Prop:=fun q=>if q = id' then bk' else if q = idb then (fun b=>c.blk idb b ∧ ¬ am hd = some b) else c.blk q
 let o':b8:=fun q=>if q = id' then some (.arr true es e m fun _ _=>.any) else if q = idb then some (.bun B') else if q = id then some (.arrh s2 eR n (id' :: ms) (fq F r j [.ref id' m])) else s.o q
 have ob1:o' id' = some (.arr true es e m fun _ _=>.any):=if_pos rfl
 have ob2:o' idb = some (.bun B'):=(if_neg (Ne.symm hn2)).trans (if_pos rfl)
 have ob3:o' id = some (.arrh s2 eR n (id' :: ms) (fq F r j [.ref id' m])):=(if_neg (Ne.symm hn1)).trans ((if_neg (Ne.symm hne)).trans (if_pos rfl))
 have bk1:blk' id' = bk':=if_pos rfl
 have bk2:blk' idb = fun b=>c.blk idb b ∧ ¬ am hd = some b:=(if_neg (Ne.symm hn2)).trans (if_pos rfl)
 have bk3:blk' id = c.blk id:=(if_neg (Ne.symm hn1)).trans (if_neg (Ne.symm hne))
 have ow1:own' id' = hd:=if_pos rfl
 have ow2:own' id = c.own id:=if_neg (Ne.symm hn1)
 have inB:∀ b,am hd = some b → c.blk idb b:=fun b hb=>by
  rcases hB with ⟨_,a0,rfl⟩ | ⟨b',cap,cur,rfl,h0,h2,_⟩
  · cases a0 <;> simp [am] at hb
  · have:b' = b:=by simpa [am,Nat.pos_iff_ne_zero.1 h0] using hb
    subst this
    exact (b2 _ _ h2).1
 refine ⟨B',{ old:=c.old,imm:=c.imm,tab:=c.tab,own:=own',blk:=blk',rows:=c.rows },rfl,fun b hb=>if_neg hb,h.redo (fun q=>q = id ∨ q = idb ∨ q = id') own' blk' c.rows o' ?_ ?_ ?_ ?_ ?_ ?_⟩
 · rintro q (rfl | rfl | rfl)
   · exact hid
   · exact hidb
   · exact hm.2.2
 · intro q hq
   have h1:q ≠ id:=fun e=>hq (.inl e)
   have h2:q ≠ idb:=fun e=>hq (.inr (.inl e))
   have h3:q ≠ id':=fun e=>hq (.inr (.inr e))
   exact ⟨(if_neg h3).trans ((if_neg h2).trans (if_neg h1)),if_neg h3,(if_neg h3).trans (if_neg h2),rfl⟩
 · rintro q (rfl | rfl | rfl)
   · exact .inr (.inr (.inr ⟨_,_,s2,eR,n,n,ho,rfl,ob3,rfl,Nat.le_refl _,fun _=>ow2,fun _ _ _ _ _ _ _ hb=>by cases hb⟩))
   · exact .inr (.inr (.inr ⟨_,_,0,3,0,0,hob,rfl,ob2,rfl,Nat.le_refl _,fun _=>if_neg (Ne.symm hn2),fun _ _ _ _ _ _ _ hb=>by cases hb⟩))
   · exact .inl ⟨hm.1,fun id0 ob _ h0=>hm.2.1 id0 ob h0⟩
 · rintro q ob (rfl | rfl | rfl) hq
   · rw [ob3] at hq
     cases hq
     obtain ⟨q1,q2,q3,q4⟩:=hO
     refine ⟨q1,q2,fun i jj k hi hjj hk=>?_, ?_⟩
     · unfold fq at hk
       split at hk
       · rename_i hc
         have:jj - j = 0:=by simp at hc;omega
         rw [this] at hk
         have hk:k = id':=hk
         subst hk
         simp
       · exact List.mem_cons_of_mem _ (q3 i jj k hi hjj hk)
     · rcases q4 with ⟨t1,xs,t2,t3⟩ | ⟨t1,_⟩
       · refine .inl ⟨by show blk' q = dv (own' q);rw [bk3,ow2];exact t1,xs,by show w.ownsRow 0 eR s2 (own' q) n xs;rw [ow2];exact t2,fun i jj hi hjj=>?_⟩
         obtain ⟨x,hx,hxr⟩:=t3 i jj hi hjj
         refine ⟨x,hx, ?_⟩
         unfold fq
         split
         · rename_i hc
           have hjj0:jj - j = 0:=by simp at hc;omega
           have hjj1:jj = j:=by simp at hc;omega
           obtain ⟨rfl,_⟩:=hc
           subst hjj1
           rw [hjj0]
           show bp _ o' (.ref id' m) x
           rw [hF] at hxr
           obtain ⟨e1,_⟩:=hxr
           refine ⟨by rw [e1];exact hB.one,fun l hl=>(by rw [ob1] at hl;cases hl),fun ob0 s0 e0 n0 ho0 hd0=>?_⟩
           rw [ob1] at ho0
           cases ho0
           simp only [ag.dim,Option.some.injEq,Prod.mk.injEq] at hd0
           obtain ⟨rfl,rfl,rfl⟩:=hd0
           exact ⟨Nat.le_refl _,fun _=>by rw [e1];exact ow1.symm⟩
         · refine bp.evo (c:=c) (o:=s.o) (Imm.le.refl c.imm) (fun k hk=>?_) hxr
           have hkm:=q3 i jj k hi hjj hk
           by_cases k1:k = q
           · subst k1;exact .inr (.inr ⟨_,_,s2,eR,n,n,ho,rfl,ob3,rfl,Nat.le_refl _,fun _=>ow2,fun _ _ _ _ _ _ _ hb=>by cases hb⟩)
           · by_cases k2:k = idb
             · subst k2;exact .inr (.inr ⟨_,_,0,3,0,0,hob,rfl,ob2,rfl,Nat.le_refl _,fun _=>if_neg (Ne.symm hn2),fun _ _ _ _ _ _ _ hb=>by cases hb⟩)
             · by_cases k3:k = id'
               · subst k3;exact absurd hkm (hm.2.1 q _ ho)
               · exact Evo.of_same ((if_neg k3).trans ((if_neg k2).trans (if_neg k1))) (if_neg k3)
       · omega
   · rw [ob2] at hq
     cases hq
     refine ⟨fun b hb=>?_,fun b x hx=>?_⟩
     · have hb:blk' q b:=hb
       rw [bk2] at hb
       show (if am hd = some b then none else B b) ≠ none
       rw [if_neg hb.2]
       exact b1 b hb.1
     · have hx:(if am hd = some b then none else B b) = some x:=hx
       by_cases hc:am hd = some b
       · rw [if_pos hc] at hx;cases hx
       · rw [if_neg hc] at hx
         obtain ⟨q1,q2⟩:=b2 b x hx
         exact ⟨by show blk' q b;rw [bk2];exact ⟨q1,hc⟩,q2⟩
   · rw [ob1] at hq
     cases hq
     rcases hB with ⟨rfl,a0,hv⟩ | ⟨b,cap,cur,hv,h0,h2,h3,h4,h5,h6⟩
     · refine ⟨hes,Nat.zero_le _, .inr ⟨.inr rfl, ?_, ?_⟩⟩
       · show blk' q = noB
         rw [bk1]
         funext b
         show (am hd = some b) = False
         rw [hv]
         cases a0 <;> simp [am]
       · show b9 c.imm _ (own' q)
         rw [ow1,hv]
         exact a31
     · have hcb:∀ b',am hd = some b' ↔ b' = b:=fun b'=>by rw [hv];simp [am,Nat.pos_iff_ne_zero.1 h0,eq_comm]
       refine ⟨hes,Nat.le_trans h3 h4, .inl ⟨?_,cur.toList.take (m * es), ?_,fun i jj hi hjj=>?_⟩⟩
       · show blk' q = dv (own' q)
         rw [bk1,ow1]
         funext b'
         show (am hd = some b') = (br hd = some b')
         rw [propext (hcb b'),hv]
         simp [br,eq_comm]
       · show w.ownsRow 0 e es (own' q) m _
         rw [ow1]
         refine ⟨?_, .inr ⟨b,cap,cur,hv,Nat.zero_le _,(b2 b _ h2).2.2.1,h3,h4,h5,rfl⟩⟩
         rw [List.length_take,Array.length_toList,h5]
         exact Nat.min_eq_left (Nat.mul_le_mul_right _ h3)
       · have hlt:i * es + jj < m * es:=by
          have:(i + 1) * es ≤ m * es:=Nat.mul_le_mul_right _ (by omega)
          rw [Nat.add_mul] at this;omega
         obtain ⟨x,hx,hx1⟩:=h6 _ hlt
         exact ⟨x,by rw [List.getElem?_take,if_pos hlt,Array.getElem?_toList];exact hx,hx1⟩
 · rintro q ob b (rfl | rfl | rfl) hq hb
   · rw [bk3] at hb;exact ⟨q,_, .inl rfl,ho,hb⟩
   · rw [bk2] at hb;exact ⟨q,_, .inr (.inl rfl),hob,hb.1⟩
   · rw [bk1] at hb;exact ⟨idb,_, .inr (.inl rfl),hob,inB b hb⟩
 · have x12:∀ b,blk' id b → blk' idb b → False:=fun b h1 h2=>by
    rw [bk3] at h1;rw [bk2] at h2
    exact hne (h.inj _ _ _ _ b hob ho h2.1 h1)
   have x13:∀ b,blk' id b → blk' id' b → False:=fun b h1 h2=>by
    rw [bk3] at h1;rw [bk1] at h2
    exact hne (h.inj _ _ _ _ b hob ho (inB b h2) h1)
   have x23:∀ b,blk' idb b → blk' id' b → False:=fun b h1 h2=>by
    rw [bk2] at h1;rw [bk1] at h2
    exact h1.2 h2
   rintro q q' ob ob' b (rfl | rfl | rfl) (rfl | rfl | rfl) _ _ hb hb'
   · rfl
   · exact (x12 b hb hb').elim
   · exact (x13 b hb hb').elim
   · exact (x12 b hb' hb).elim
   · rfl
   · exact (x23 b hb hb').elim
   · exact (x13 b hb' hb).elim
   · exact (x23 b hb' hb).elim
   · rfl
end
structure jm (eV:TypeId) (B:Nat → Option Obj) (n:Nat) (ms:Nat → Nat) (hd:Nat → Value):Prop where
 h:∀ q,q < n → HdB eV 3 B (ms q) (hd q)
 d:∀ p q b,p < q → q < n → am (hd p) = some b → am (hd q) = some b → False
theorem HdB.blk {e:TypeId} {s m b:Nat} {B:Nat → Option Obj} {hd:Value} (h:HdB e s B m hd) (hb:am hd = some b):B b ≠ none:=by
 rcases h with ⟨_,a,rfl⟩ | ⟨b',cap,cur,rfl,h0,h2,_⟩
 · cases a <;> simp [am] at hb
 · have:b' = b:=by simpa [am,Nat.pos_iff_ne_zero.1 h0] using hb
   subst this
   rw [h2];simp
theorem jm.zero {eV:TypeId} {B:Nat → Option Obj} {ms:Nat → Nat} {hd:Nat → Value}:jm eV B 0 ms hd:=⟨fun q hq=>absurd hq (Nat.not_lt_zero _),fun p q b _ hq=>absurd hq (Nat.not_lt_zero _)⟩
theorem jm.add {eV:TypeId} {B B':Nat → Option Obj} {n:Nat} {ms:Nat → Nat} {hd:Nat → Value} {x:Value} (h:jm eV B n ms hd) (hx:HdB eV 3 B' (ms n) x) (hN:a0s B B' x):jm eV B' (n + 1) ms (fun q=>if q = n then x else hd q) where
 h:=fun q hq=>by
  by_cases e:q = n
  · subst e;rw [if_pos rfl];exact hx
  · rw [if_neg e]
    have h1:=h.h q (by omega)
    rcases hN with ⟨rfl,_⟩ | ⟨b,y,hb,rfl,_⟩
    · exact h1
    · exact h1.upd hb
 d:=fun p q b hpq hq hp hqb=>by
  rw [if_neg (by omega:p ≠ n)] at hp
  by_cases e:q = n
  · subst e
    rw [if_pos rfl] at hqb
    have h1:=(h.h p hpq).blk hp
    rcases hN with ⟨_,h2⟩ | ⟨b',y,hb,_,h2⟩
    · rw [h2] at hqb;cases hqb
    · rw [h2] at hqb
      cases hqb
      exact h1 hb
  · rw [if_neg e] at hqb
    exact h.d p q b hpq (by omega) hp hqb
theorem HdB.mono {e:TypeId} {s m:Nat} {B B':Nat → Option Obj} {hd:Value} (h:HdB e s B m hd) (hB:∀ b,am hd = some b → B' b = B b):HdB e s B' m hd:=by
 rcases h with h | ⟨b,cap,cur,rfl,h0,h2,h3⟩
 · exact .inl h
 · exact .inr ⟨b,cap,cur,rfl,h0,by rw [hB b (by simp [am,Nat.pos_iff_ne_zero.1 h0])];exact h2,h3⟩
theorem HdB.new {e:TypeId} {s m:Nat} {B B':Nat → Option Obj} {hd x:Value} (h:HdB e s B m hd) (hN:a0s B B' x):HdB e s B' m hd:=by
 rcases hN with ⟨rfl,_⟩ | ⟨b,y,hb,rfl,_⟩
 · exact h
 · exact h.upd hb
theorem a0s.no {B B':Nat → Option Obj} {x:Value} {b:Nat} (hN:a0s B B' x) (hx:am x = some b):B b = none:=by
 rcases hN with ⟨_,h2⟩ | ⟨b',y,hb,_,h2⟩
 · rw [h2] at hx;cases hx
 · rw [h2] at hx;cases hx;exact hb
theorem jm.put {eV:TypeId} {B B1 B':Nat → Option Obj} {n k:Nat} {ms:Nat → Nat} {hd:Nat → Value} {x:Value} (h:jm eV B n ms hd) (hk:k < n) (h1:∀ b,am (hd k) ≠ some b → B1 b = B b) (hx:HdB eV 3 B' (ms k) x) (hN:a0s B1 B' x):jm eV B' n ms (fun q=>if q = k then x else hd q):=by
 have old:∀ q,q < n → q ≠ k → HdB eV 3 B1 (ms q) (hd q):=fun q hq e=>(h.h q hq).mono fun b hb=>h1 b fun hkb=>by
  rcases Nat.lt_or_gt_of_ne e with hlt | hgt
  · exact h.d q k b hlt hk hb hkb
  · exact h.d k q b hgt hq hkb hb
 refine ⟨fun q hq=>?_,fun p q b hpq hq hp hqb=>?_⟩
 · by_cases e:q = k
   · subst e;rw [if_pos rfl];exact hx
   · rw [if_neg e];exact (old q hq e).new hN
 · by_cases e1:p = k
   · rw [if_pos e1] at hp
     rw [if_neg (by omega:q ≠ k)] at hqb
     exact (old q hq (by omega)).blk hqb (hN.no hp)
   · rw [if_neg e1] at hp
     by_cases e2:q = k
     · rw [if_pos e2] at hqb
       exact (old p (by omega) e1).blk hp (hN.no hqb)
     · rw [if_neg e2] at hqb
       exact h.d p q b hpq hq hp hqb
def JR (eR eV:TypeId) (n:Nat):Value → (Nat → Prop) → (Nat → Option Obj) → Prop:=fun v bk h=>∃ B ms hd,jm eV B n ms hd ∧ (∀ b x,B b = some x → bk b ∧ h b = some x ∧ o0 x = true) ∧
 ((n = 0 ∧ ∃ a,v = .slice a 0 0) ∨ ∃ b cap cur,v = .slice (some ⟨b,0,none⟩) n cap ∧ 0 < cap ∧ bk b ∧ B b = none ∧ h b = some (.cells cur eR (0,0)) ∧ n ≤ cap ∧ cap ≤ maxLen ∧ cur.size = cap * 2 ∧ ∀ q,q < n → (∃ x,cur[q * 2]? = some x ∧ x.oneCell' = true) ∧ cur[q * 2 + 1]? = some (hd q))
def rwF (hd:Nat → Value):Nat → Nat → HV:=fun q j=>if j = 1 then .p (.raw (hd q)) else .p .any
section
variable {w0:World} {nt:Nat} {c:Ctx} {s:S} {a:Act} {w:World}
theorem al.pack (h:al w0 nt c s a w) {id idb n:Nat} {eR eV:TypeId} {f:Nat → Nat → PV} {B:Nat → Option Obj} {ms:Nat → Nat} {hd:Nat → Value} (ho:s.o id = some (.arr true 2 eR n f)) (hob:s.o idb = some (.bun B)) (hf:∀ q,q < n → f q 1 = .raw (hd q)) (hR:jm eV B n ms hd) (hid:id < 1000) (hidb:idb < 1000) :
 ∃ c',c'.old = c.old ∧ al w0 nt c' ⟨s.t,fun q=>if q = id then some (.opq 2 eR n (JR eR eV n)) else if q = idb then none else s.o q⟩ a w:=by
 have hne:idb ≠ id:=by rintro rfl;rw [ho] at hob;cases hob
 obtain ⟨_,hmax,hrep⟩:=h.objs id _ ho
 obtain ⟨b1,b2⟩:=h.objs idb _ hob
 let bk':Nat → Prop:=fun b=>c.blk id b ∨ c.blk idb b
 let o':b8:=fun q=>if q = id then some (.opq 2 eR n (JR eR eV n)) else if q = idb then none else s.o q
 have ob1:o' id = some (.opq 2 eR n (JR eR eV n)):=if_pos rfl
 have ob2:o' idb = none:=(if_neg hne).trans (if_pos rfl)
 refine ⟨{ old:=c.old,imm:=c.imm,tab:=c.tab,own:=c.own,blk:=fun q=>if q = id then bk' else c.blk q,rows:=c.rows },rfl,h.redo (fun q=>q = id ∨ q = idb) _ _ _ o' ?_ ?_ ?_ ?_ ?_ ?_⟩
 · rintro q (rfl | rfl) <;> assumption
 · intro q hq
   have h1:q ≠ id:=fun e=>hq (.inl e)
   have h2:q ≠ idb:=fun e=>hq (.inr e)
   exact ⟨(if_neg h1).trans (if_neg h2),rfl,if_neg h1,rfl⟩
 · rintro q (rfl | rfl)
   · exact .inr (.inr (.inr ⟨_,_,2,eR,n,n,ho,rfl,ob1,rfl,Nat.le_refl _,fun _=>rfl,fun _ _ _ _ _ _ _ hb=>by cases hb⟩))
   · exact .inr (.inl ob2)
 · rintro q ob (rfl | rfl) hq
   · rw [ob1] at hq
     cases hq
     have hbk:(fun q'=>if q' = q then bk' else c.blk q') q = bk':=if_pos rfl
     have hin:∀ b,bk' b → 0 ≤ b ∧ ∃ x,w.heap[b]? = some x ∧ o0 x = true:=fun b hb=>by
      rcases hb with hb | hb
      · exact ⟨Nat.zero_le _,(h.objs q _ ho).data hb⟩
      · exact ⟨Nat.zero_le _,(h.objs idb _ hob).data hb⟩
     have hv:(c.own q).oneCell' = true:=by
      rcases hrep with ⟨_,xs,hrow,_⟩ | ⟨_,_,a0,cap,e1,_⟩
      · rcases hrow.2 with ⟨e1,_⟩ | ⟨_,_,_,e1,_⟩ <;> rw [e1] <;> rfl
      · rw [e1];rfl
     have hJ:JR eR eV n (c.own q) bk' (onB bk' w):=by
      refine ⟨B,ms,hd,hR,fun b x hx=>?_, ?_⟩
      · obtain ⟨q1,_,q3,q4⟩:=b2 b x hx
        exact ⟨.inr q1,by rw [a5a (.inr q1)];exact q3,q4⟩
      · rcases hrep with ⟨hblk,xs,hrow,hcell⟩ | ⟨hz,_,hsl⟩
        · rcases eq hrow with ⟨hm0,a0,hv⟩ | ⟨b,cap,hv,hcb⟩
          · exact .inl ⟨hm0,a0,hv⟩
          · have hcap:0 < cap:=by
             rcases Nat.eq_zero_or_pos cap with h0 | h0
             · subst h0;rw [hv] at hcb;simp [am] at hcb
             · exact h0
            rcases hrow.2 with ⟨hv',_⟩ | ⟨b',cap',cur,hv',_,hh,q1,q2,q3,q4⟩
            · rw [hv] at hv';cases hv'
            · rw [hv] at hv'
              simp only [Value.slice.injEq,Option.some.injEq,Addr.mk.injEq,and_true,true_and] at hv'
              obtain ⟨rfl,rfl⟩:=hv'
              have hbb:c.blk q b:=by rw [hblk,hv];rfl
              have hB:B b = none:=by
               cases hb:B b with
               | none=>rfl
               | some y=>exact absurd (h.inj _ _ _ _ b hob ho (b2 b y hb).1 hbb) hne
              refine .inr ⟨b,cap,cur,hv,hcap, .inl hbb,hB,by rw [a5a (.inl hbb)];exact hh,q1,q2,q3,fun k hk=>?_⟩
              have hat:∀ jj,jj < 2 → ∃ x,cur[k * 2 + jj]? = some x ∧ b9 c.imm (f k jj) x:=fun jj hjj=>by
               obtain ⟨x,hx,hr⟩:=hcell k jj hk hjj
               rw [← q4,List.getElem?_take,if_pos (by omega),Array.getElem?_toList] at hx
               exact ⟨x,hx,hr⟩
              obtain ⟨x,hx,hr⟩:=hat 0 (by omega)
              obtain ⟨y,hy,hr2⟩:=hat 1 (by omega)
              rw [hf k hk] at hr2
              obtain ⟨e1,_⟩:=hr2
              exact ⟨⟨x,hx,hr.oneCell⟩,by rw [hy,e1]⟩
        · obtain rfl:n = 0:=by rcases hz with hz | hz;cases hz;exact hz
          obtain ⟨a0,cap,e1,_,_,e2,_⟩:=hsl
          obtain rfl:=e2 rfl
          exact .inl ⟨rfl,a0,e1⟩
     refine ⟨?_,hv, ?_⟩
     · show ∀ b,(fun q'=>if q' = q then bk' else c.blk q') q b → _
       rw [hbk]
       exact hin
     · show JR eR eV n (c.own q) ((fun q'=>if q' = q then bk' else c.blk q') q) (onB ((fun q'=>if q' = q then bk' else c.blk q') q) w)
       rw [hbk]
       exact hJ
   · rw [ob2] at hq;cases hq
 · rintro q ob b (rfl | rfl) hq hb
   · rw [if_pos rfl] at hb
     rcases hb with hb | hb
     · exact ⟨q,_, .inl rfl,ho,hb⟩
     · exact ⟨idb,_, .inr rfl,hob,hb⟩
   · rw [ob2] at hq;cases hq
 · rintro q q' ob ob' b (rfl | rfl) (rfl | rfl) hq hq' _ _
   · rfl
   · rw [ob2] at hq';cases hq'
   · rw [ob2] at hq;cases hq
   · rfl
theorem al.unpack (h:al w0 nt c s a w) {id idb n:Nat} {eR eV:TypeId} (ho:s.o id = some (.opq 2 eR n (JR eR eV n))) (hid:id < 1000) (hm:NM s idb) (hn:s.o idb = none) (hmax:n ≤ maxLen) :
 ∃ B ms hd c',c'.old = c.old ∧ jm eV B n ms hd ∧ al w0 nt c' ⟨s.t,fun q=>if q = id then some (.arrh 2 eR n [] (rwF hd)) else if q = idb then some (.bun B) else s.o q⟩ a w:=by
 have hne:idb ≠ id:=by rintro rfl;rw [hn] at ho;cases ho
 obtain ⟨hin,hv1,B,ms,hd,hR,hBb,hrow⟩:=h.objs id _ ho
 let bk1:Nat → Prop:=fun b=>am (c.own id) = some b
 let bk2:Nat → Prop:=fun b=>B b ≠ none
 let o':b8:=fun q=>if q = id then some (.arrh 2 eR n [] (rwF hd)) else if q = idb then some (.bun B) else s.o q
 have ob1:o' id = some (.arrh 2 eR n [] (rwF hd)):=if_pos rfl
 have ob2:o' idb = some (.bun B):=(if_neg hne).trans (if_pos rfl)
 have hhp:∀ b x,B b = some x → c.blk id b ∧ w.heap[b]? = some x ∧ o0 x = true:=fun b x hx=>by
  obtain ⟨q1,q2,q3⟩:=hBb b x hx
  rw [a5a q1] at q2
  exact ⟨q1,q2,q3⟩
 have hb1:∀ b,bk1 b → c.blk id b ∧ B b = none:=fun b hb=>by
  rcases hrow with ⟨_,a0,hv⟩ | ⟨b',cap,cur,hv,h0,hbk,hB,_⟩
  · have hb:am (c.own id) = some b:=hb
    rw [hv] at hb;cases a0 <;> simp [am] at hb
  · have hb:am (c.own id) = some b:=hb
    have:b' = b:=by rw [hv] at hb;simpa [am,Nat.pos_iff_ne_zero.1 h0] using hb
    subst this
    exact ⟨hbk,hB⟩
 have hsub:∀ q b,(q = id ∨ q = idb) → (if q = id then bk1 else if q = idb then bk2 else c.blk q) b → c.blk id b:=fun q b hq hb=>by
  by_cases e:q = id
  · rw [if_pos e] at hb;exact (hb1 b hb).1
  · have e2:q = idb:=hq.resolve_left e
    rw [if_neg e,if_pos e2] at hb
    have hb:B b ≠ none:=hb
    cases hx:B b with
    | none=>exact absurd hx hb
    | some x=>exact (hhp b x hx).1
 refine ⟨B,ms,hd,{ old:=c.old,imm:=c.imm,tab:=c.tab,own:=c.own,blk:=fun q=>if q = id then bk1 else if q = idb then bk2 else c.blk q,rows:=c.rows },rfl,hR,h.redo (fun q=>q = id ∨ q = idb) _ _ _ o' ?_ ?_ ?_ ?_ ?_ ?_⟩
 · rintro q (rfl | rfl)
   · exact hid
   · exact hm.2.2
 · intro q hq
   have h1:q ≠ id:=fun e=>hq (.inl e)
   have h2:q ≠ idb:=fun e=>hq (.inr e)
   exact ⟨(if_neg h1).trans (if_neg h2),rfl,(if_neg h1).trans (if_neg h2),rfl⟩
 · rintro q (rfl | rfl)
   · exact .inr (.inr (.inr ⟨_,_,2,eR,n,n,ho,rfl,ob1,rfl,Nat.le_refl _,fun _=>rfl,fun _ _ _ _ _ _ _ hb=>by cases hb⟩))
   · exact .inl ⟨hm.1,fun id0 ob _ h0=>hm.2.1 id0 ob h0⟩
 · rintro q ob (rfl | rfl) hq
   · rw [ob1] at hq
     cases hq
     have hbk:(fun q'=>if q' = q then bk1 else if q' = idb then bk2 else c.blk q') q = bk1:=if_pos rfl
     refine ⟨by omega,hmax,fun i jj k _ _ hk=>?_, ?_⟩
     · unfold rwF at hk
       split at hk <;> exact hk.elim
     · rcases hrow with ⟨h0,a0,hv⟩ | ⟨b,cap,cur,hv,h0,hbkk,hB,hh,h3,h4,h5,h6⟩
       · refine .inr ⟨h0, ?_,by rw [show c.own q = .slice a0 0 0 from hv];exact a31⟩
         show (fun q'=>if q' = q then bk1 else if q' = idb then bk2 else c.blk q') q = noB
         rw [hbk]
         funext b
         show (am (c.own q) = some b) = False
         rw [hv]
         cases a0 <;> simp [am]
       · rw [a5a hbkk] at hh
         refine .inl ⟨?_,cur.toList.take (n * 2), ?_,fun i jj hi hjj=>?_⟩
         · show (fun q'=>if q' = q then bk1 else if q' = idb then bk2 else c.blk q') q = dv (c.own q)
           rw [hbk]
           funext b'
           show (am (c.own q) = some b') = (br (c.own q) = some b')
           rw [hv]
           simp [am,br,Nat.pos_iff_ne_zero.1 h0]
         · show w.ownsRow 0 eR 2 (c.own q) n _
           refine ⟨?_, .inr ⟨b,cap,cur,hv,Nat.zero_le _,hh,h3,h4,h5,rfl⟩⟩
           rw [List.length_take,Array.length_toList,h5]
           exact Nat.min_eq_left (Nat.mul_le_mul_right _ h3)
         · obtain ⟨⟨x,hx,hx1⟩,hy⟩:=h6 i hi
           have hlt:i * 2 + jj < n * 2:=by omega
           by_cases hj1:jj = 1
           · subst hj1
             refine ⟨hd i,by rw [List.getElem?_take,if_pos hlt,Array.getElem?_toList];exact hy, ?_⟩
             show bp _ _ (rwF hd i 1) _
             unfold rwF
             rw [if_pos rfl]
             exact ⟨rfl,(hR.h i hi).one⟩
           · obtain rfl:jj = 0:=by omega
             refine ⟨x,by rw [List.getElem?_take,if_pos hlt,Array.getElem?_toList];exact hx, ?_⟩
             show bp _ _ (rwF hd i 0) _
             unfold rwF
             rw [if_neg (by decide)]
             exact hx1
   · rw [ob2] at hq
     cases hq
     have hbk:(fun q'=>if q' = id then bk1 else if q' = q then bk2 else c.blk q') q = bk2:=(if_neg hne).trans (if_pos rfl)
     refine ⟨fun b hb=>?_,fun b x hx=>?_⟩
     · have hb:(fun q'=>if q' = id then bk1 else if q' = q then bk2 else c.blk q') q b:=hb
       rw [hbk] at hb
       exact hb
     · obtain ⟨_,q2,q3⟩:=hhp b x hx
       refine ⟨?_,Nat.zero_le _,q2,q3⟩
       show (fun q'=>if q' = id then bk1 else if q' = q then bk2 else c.blk q') q b
       rw [hbk]
       show B b ≠ none
       rw [hx];simp
 · rintro q ob b hq _ hb
   exact ⟨id,_, .inl rfl,ho,hsub q b hq hb⟩
 · have x12:∀ b,(if id = id then bk1 else if id = idb then bk2 else c.blk id) b → (if idb = id then bk1 else if idb = idb then bk2 else c.blk idb) b → False:=fun b h1 h2=>by
    rw [if_pos rfl] at h1
    rw [if_neg hne,if_pos rfl] at h2
    exact h2 (hb1 b h1).2
   rintro q q' ob ob' b (rfl | rfl) (rfl | rfl) hq hq' hb hb'
   · rfl
   · exact (x12 b hb hb').elim
   · exact (x12 b hb' hb).elim
   · rfl
end
section
variable {ro:Option Nat} {P:Program} {nt:Nat} {co:Code} {st:HSt} {Q:HSt → Prop}
theorem lq (d id:Nat) {n s:Nat} {e:TypeId} {wr:Bool} {f:Nat → Nat → PV} (hd0:bj st.t d = some (.v (.one (.ref id n)))) (ho:bj st.o id = some (.arr wr s e n f))
 (h:HE nt ⟨(d,some (.v (.one (.win id n 0 n)))) :: st.t,st.o⟩ Q):HE nt st Q:=aj9 st d _ (fun w0 m0 a w hr=>by
 obtain ⟨cc,hold,hrr⟩:=hr
 refine ⟨cc,hold,hrr, ?_⟩
 have hu:bp cc st.den.o (.ref id n) (a.tmps.getD d undef):=hrr.tmps d _ hd0
 obtain ⟨q1,q2,q3⟩:=hu
 refine ⟨q1,q2,fun ob s' e' n' ho' hdim=>?_⟩
 obtain ⟨z1,z2⟩:=q3 ob s' e' n' ho' hdim
 refine ⟨z1,fun hn=>?_⟩
 have hu:=z2 hn
 rw [hu]
 obtain rfl:ob = .arr wr s e n f:=Option.some.inj (ho'.symm.trans ho)
 obtain ⟨_,hmax,hrep⟩:=hrr.objs id _ ho
 simp only [ag.dim,Option.some.injEq,Prod.mk.injEq] at hdim
 obtain ⟨rfl,rfl,rfl⟩:=hdim
 have addz:∀ ad:Option Addr,ad = ad.map (·.add (0 * s)):=fun ad=>by
  rw [Nat.zero_mul]
  cases ad with
  | none=>rfl
  | some x=>cases x;simp [Addr.add]
 have key:∃ ad cap,cc.own id = .slice ad n cap ∧ n ≤ cap ∧ cap ≤ maxLen:=by
  rcases hrep with ⟨_,xs,hrow,_⟩ | ⟨_,_,hsl⟩
  · rcases hrow.2 with ⟨hv,hz⟩ | ⟨b,cap,cur,hv,_,_,h3,h4,_⟩
    · subst hz
      exact ⟨_,_,hv,Nat.le_refl _,hmax⟩
    · exact ⟨_,cap,hv,h3,h4⟩
  · obtain ⟨a0,cap,e1,h1,h2,_⟩:=hsl
    exact ⟨a0,cap,e1,h1,h2⟩
 obtain ⟨ad,cap,k1,k2,k3⟩:=key
 exact ⟨ad,ad,cap,k1,by rw [k1,Nat.sub_zero],by omega,k2,k3,fun _=>addz ad⟩) h
theorem apm (id idb:Nat) {n:Nat} {eR eV:TypeId} {f:Nat → Nat → PV} {B:Nat → Option Obj} {ms:Nat → Nat} {hd:Nat → Value} (ho:bj st.o id = some (.arr true 2 eR n f)) (hob:bj st.o idb = some (.bun B)) (hf:∀ q,q < n → f q 1 = .raw (hd q)) (hR:jm eV B n ms hd)
 (h:HE nt ⟨st.t,(id,some (.opq 2 eR n (JR eR eV n))) :: (idb,none) :: st.o⟩ Q) (hid:(Nat.blt id 1000 && Nat.blt idb 1000) = true:=by exact rfl):HE nt st Q:=fun w0 m0 a w hr0=>by
 obtain ⟨cc,hold,hrr⟩:=hr0
 simp only [Bool.and_eq_true,Nat.blt_eq] at hid
 obtain ⟨c',q1,q2⟩:=hrr.pack ho hob hf hR hid.1 hid.2
 refine h w0 m0 a w ⟨c',q1.trans hold, ?_⟩
 rw [mn (o':=fun q=>if q = id then some (.opq 2 eR n (JR eR eV n)) else if q = idb then none else st.den.o q) (fun q=>by simp only [bo];rfl)]
 exact q2
theorem ah6 (id idb:Nat) {n:Nat} {eR eV:TypeId} (ho:bj st.o id = some (.opq 2 eR n (JR eR eV n))) (hmax:n ≤ maxLen)
 (h:∀ B ms hd,jm eV B n ms hd → HE nt ⟨st.t,(id,some (.arrh 2 eR n [] (rwF hd))) :: (idb,some (.bun B)) :: st.o⟩ Q) (hid:Nat.blt id 1000 = true:=by exact rfl) (hn:jv idb st = true:=by exact rfl):HE nt st Q:=fun w0 m0 a w hr0=>by
 obtain ⟨cc,hold,hrr⟩:=hr0
 simp only [Nat.blt_eq] at hid
 obtain ⟨hm,hn⟩:=f8 hn
 obtain ⟨B,ms,hd,c',q1,q2,q3⟩:=hrr.unpack ho hid hm hn hmax
 refine h B ms hd q2 w0 m0 a w ⟨c',q1.trans hold, ?_⟩
 rw [mn (o':=fun q=>if q = id then some (.arrh 2 eR n [] (rwF hd)) else if q = idb then some (.bun B) else st.den.o q) (fun q=>by simp only [bo];rfl)]
 exact q3
theorem abk (id idb id' r j:Nat) {n m s2 es:Nat} {e eR:TypeId} {ms:List Nat} {F:Nat → Nat → HV} {f:Nat → Nat → PV} {B:Nat → Option Obj} (f0:Nat → Nat → PV) (ho:bj st.o id = some (.arrh s2 eR n ms F)) (hob:bj st.o idb = some (.bun B)) (ho':bj st.o id' = some (.arr true es e m f)) (hr:r < n) (hj:j < s2) (hF:F r j = .ref id' m)
 (hF0:∀ i jj,i < n → jj < s2 → ¬ (i = r ∧ jj = j) → F i jj = .p (f0 i jj))
 (h:∀ B' hd,HdB e es B' m hd → a0s B B' hd → HE nt ⟨st.t,(id',none) :: (idb,some (.bun B')) :: (id,some (.arr true s2 eR n fun i jj=>if i = r ∧ jj = j then .raw hd else f0 i jj)) :: st.o⟩ Q)
 (hid:(Nat.blt id 1000 && Nat.blt idb 1000 && Nat.blt id' 1000) = true:=by exact rfl):HE nt st Q:=fun w0 m0 a w hr0=>by
 obtain ⟨cc,hold,hrr⟩:=hr0
 simp only [Bool.and_eq_true,Nat.blt_eq] at hid
 obtain ⟨B',hd,c',q1,q2,q3,q4⟩:=hrr.rowIn ho hob ho' hr hj hF hF0 hid.1.1 hid.1.2 hid.2
 refine h B' hd q2 q3 w0 m0 a w ⟨c',q1.trans hold, ?_⟩
 rw [mn (o':=fun q=>if q = id' then none else if q = idb then some (.bun B') else if q = id then some (.arr true s2 eR n fun i jj=>if i = r ∧ jj = j then .raw hd else f0 i jj) else st.den.o q) (fun q=>by simp only [bo];rfl)]
 exact q4
theorem ag4 (id idb id' r j:Nat) {n m s2 es:Nat} {e eR:TypeId} {ms:List Nat} {F:Nat → Nat → HV} {B:Nat → Option Obj} {hd:Value} (ho:bj st.o id = some (.arrh s2 eR n ms F)) (hob:bj st.o idb = some (.bun B)) (hr:r < n) (hj:j < s2) (hF:F r j = .p (.raw hd)) (hB:HdB e es B m hd) (hes:0 < es)
 (h:∀ B',(∀ b,am hd ≠ some b → B' b = B b) → HE nt ⟨st.t,(id',some (.arr true es e m fun _ _=>.any)) :: (idb,some (.bun B')) :: (id,some (.arrh s2 eR n (id' :: ms) (fq F r j [.ref id' m]))) :: st.o⟩ Q)
 (hid:(Nat.blt id 1000 && Nat.blt idb 1000) = true:=by exact rfl) (hn:jv id' st = true:=by exact rfl):HE nt st Q:=fun w0 m0 a w hr0=>by
 obtain ⟨cc,hold,hrr⟩:=hr0
 simp only [Bool.and_eq_true,Nat.blt_eq] at hid
 obtain ⟨hm,hn⟩:=f8 hn
 obtain ⟨B',c',q1,q2,q3⟩:=hrr.rowOut ho hob hr hj hF hB hes hid.1 hid.2 hm hn
 refine h B' q2 w0 m0 a w ⟨c',q1.trans hold, ?_⟩
 rw [mn (o':=fun q=>if q = id' then some (.arr true es e m fun _ _=>.any) else if q = idb then some (.bun B') else if q = id then some (.arrh s2 eR n (id' :: ms) (fq F r j [.ref id' m])) else st.den.o q) (fun q=>by simp only [bo];rfl)]
 exact q3
end
end Go.Hx
end
section
namespace Go.Hx
open Go.RowKit
def aw9 (id n s:Nat) (F:Nat → Nat → PV):List HC → List HC → Prop
 | [],[]=>True
 | x :: xs,y :: ys=>(y = x ∨ (x = .one (.ref id n) ∧ y = .one (.p (.sl n s false F)))) ∧ aw9 id n s F xs ys
 | _,_=>False
def awi (i0:Nat) (h:HV) (g:Nat → Nat → PV):Nat → Nat → HV:=fun i j=>if i = i0 then h else .p (g i j)
theorem ahj {ro:Option Nat} {P:Program} {nt:Nat} {st:HSt} {Q:Exit → HSt → Prop} {co:Code} (x:Nat) (ob':ag) {ob:ag} (ho:bj st.o x = some ob) (hc:CoO ob ob')
 (h:HW (ro:=ro) P nt co ⟨st.t,(x,some ob') :: st.o⟩ Q):HW (ro:=ro) P nt co st Q:=fun w0 m0 a w hr=>by
 obtain ⟨cc,hold,hrr⟩:=hr
 refine h w0 m0 a w ⟨cc,hold,hrr.relax _ (fun d y hy=>⟨y,hy,CoR.refl _⟩) fun id ob2 ho2=>?_⟩
 simp only [HSt.den,bo] at ho2
 by_cases hk:id = x
 · subst hk
   rw [if_pos rfl] at ho2
   simp only [Option.some.injEq] at ho2
   subst ho2
   exact ⟨ob,ho,hc⟩
 · rw [if_neg hk] at ho2
   exact ⟨ob2,ho2,CoO.refl _⟩
end Go.Hx
end
section
namespace Go.Hx
open Go.Proofs
set_option maxRecDepth 100000
def rwP (l:List Row) (hd:Nat → Value):Nat → Nat → PV:=fun q j=>if j = 1 then .raw (hd q) else Row.c (l.getD q default) j
abbrev aq2 (l:List Row):Nat → Nat:=fun q=>(l.getD q default).vals.length
theorem ao7 {i:Nat} {l:List Row} {hd:Nat → Value} {g:Nat → Nat → HV} (h:g 0 0 = .p (Row.c (l.getD i default) 0)):∀ q jj,q < i + 1 → jj < 2 → ¬ (q = i ∧ jj = 1) → iq i (fun q j=>.p (rwP l hd q j)) g q jj = .p (rwP l hd q jj):=fun q jj hq hj hn=>by
 unfold iq
 by_cases e:q < i
 · rw [if_pos e]
 · rw [if_neg e]
   obtain rfl:q = i:=by omega
   obtain rfl:jj = 0:=by omega
   rw [Nat.sub_self,h]
   rfl
theorem apy {l:List Row} {hd:Nat → Value} {i:Nat} {x:Value} (q j:Nat) (hj:j < 2):CoP (if q = i ∧ j = 1 then .raw x else rwP l hd q j) (rwP l (fun q=>if q = i then x else hd q) q j):=by
 unfold rwP
 by_cases e:j = 1
 · subst e
   by_cases e2:q = i
   · rw [if_pos ⟨e2,rfl⟩,if_pos rfl];dsimp only;rw [if_pos e2];exact CoP.refl _
   · rw [if_neg (fun h=>e2 h.1),if_pos rfl,if_pos rfl];dsimp only;rw [if_neg e2];exact CoP.refl _
 · rw [if_neg (fun h=>e h.2),if_neg e,if_neg e];exact CoP.refl _
theorem are (t:Tbl) (fds add rem:List Fd) (ht:TOk t):ce Tryz.prog 37 [.one (.ptr 1000 0)] (mst t fds add rem).objs (.v (.agg [.p (t.c 0), .ref 905 t.attrs.length, .ref 906 t.rows.length])) ((mst t fds add rem).objs ++ [(905, .arr true 1 9 t.attrs.length (lf a0v t.attrs)),(906, .opq 2 48 t.rows.length (JR 48 81 t.rows.length))]) [1000]:=by
 refine ct (nt:=41) ae Tryz.func37 rfl rfl l9 rfl ?_
 have hnr:=ht.nr
 have hna:=ht.na
 have hw:=fun i (h:i < t.rows.length)=>ht.width h
 refine sx7 ?_;refine m9 0 ?_;refine a6 ?_;refine a7 ?_;refine ax (E:=aq) ae ak [0,1,2,3,4,5,6,7,8,9,10,11,12,13] ?_;(iterate 10 refine qy ?_)
 refine ay rfl rfl rfl rfl rfl rfl vz ((ado t.attrs.length false (lf a0v t.attrs) (by omega)).swap 0 905) (bs.refl _) trivial rfl rfl ?_;refine qy ?_;refine m9 1 ?_;refine s9 ?_;refine a6 ?_
 refine ⟨by kernel_rfl, ?_⟩;refine a7 ?_;refine sx7 ?_;(iterate 7 refine qy ?_);refine a6 ?_;refine af ?_
 refine fg 1 2 906 true 2 48 (rwP t.rows fun _=>default) (by decide) rfl rfl (CoP.sl rfl (.inr rfl) (fun h=>h) (fun i j hi _=>absurd hi (Nat.not_lt_zero i))) (.inr rfl) rfl rfl ?_;refine aih 908 ?_
 refine av (ι:=(Nat × (Nat → Option Obj) × (Nat → Value))) ⟨[(2,some _),(3,some _),(22,some _),(23,some _)],[(1000,some _),(901,some _),(905,some _),(0,some _)]⟩ ⟨⟨c9,c9,c9,c9,trivial⟩,⟨u9,u9,u9,u9,trivial⟩⟩ (fun z=>⟨[(24,some (vI z.1))],[(1,some (.box [.p (t.c 0), .ref 905 t.attrs.length, .ref 906 z.1])),(906,some (.arr true 2 48 z.1 (rwP t.rows z.2.2))),(908,some (.bun z.2.1))]⟩) (fun z=>z.1 ≤ t.rows.length ∧ jm 81 z.2.1 z.1 (aq2 t.rows) z.2.2) (fun z=>t.rows.length - z.1) ((0,fun _=>none,fun _=>default)) (⟨Nat.zero_le _,jm.zero⟩) ⟨⟨zy,trivial⟩,⟨u9,u9,u9,trivial⟩⟩ ?_
 rintro ⟨i,B,hd⟩ ⟨hi,hR⟩
 dsimp only at hi hR ⊢
 refine sx7 ?_;refine qy ?_;refine a6 ?_;refine a7 ?_;refine a8 _ rfl (fun r0=>?_) (fun r0=>?_)
 ·
  have h0:=of_decide_eq_true r0
  try simp only [ty] at h0
  refine aa ?_;refine a7 ?_;refine af ?_;refine sx7 ?_;(iterate 2 refine qy ?_);refine m9 2 ?_;refine s9 ?_;refine a6 ?_
  refine ahj 906 (.arrh 2 48 i [] fun q j=>.p (rwP t.rows hd q j)) rfl ⟨.inl rfl,rfl,rfl,rfl,fun _ _ _ _=>CoH.refl _⟩ ?_;refine ax (E:=aq) ae ak [0,1,2,3,4,5,6,7,8,9,10,11] ?_
  (iterate 6 refine qy ?_)
  refine ay rfl rfl rfl rfl rfl rfl a51 ((a6d (t.rows.getD i default).vals.length false (lf Val.c (t.rows.getD i default).vals) (by rw [hw i (by omega)];omega)).swap 0 907) (bs.refl _) trivial rfl rfl ?_
  refine qy ?_;refine m9 3 ?_;refine ra 4 true rfl rfl rfl rfl rfl rfl ?_;refine qy ?_;refine s9 ?_;refine a6 ?_;refine ⟨by kernel_rfl, ?_⟩
  refine a1e (abk 906 908 907 i 1 (rwP t.rows hd) rfl rfl rfl (by omega) (by decide) (by show (if i < i then _ else _) = _;rw [if_neg (Nat.lt_irrefl i),Nat.sub_self];rfl) (ao7 rfl) fun B2 hx hH hN=>dp ?_)
  refine gy ?_;(iterate 2 refine qy ?_);refine a6 ?_;refine ⟨(i + 1,B2,fun q=>if q = i then hx else hd q), ?_, ?_, ?_⟩
  · exact ⟨by show i + 1 ≤ _;omega,hR.add hH hN⟩
  · first | omega | (dsimp only;omega)
  · exact ⟨⟨zy,c9,c9,c9,c9,trivial⟩,⟨⟨_,rfl,⟨CoH.refl _,CoH.refl _,CoH.refl _,trivial⟩⟩,⟨_,rfl,⟨fun h=>h,rfl,rfl,rfl,fun q j _ hj=>apy q j hj⟩⟩,u9,u9,u9,u9,u9,trivial⟩⟩
 ·
  have h0:=of_decide_eq_false r0
  try simp only [ty] at h0
  obtain rfl:i = t.rows.length:=by omega
  refine au ?_;refine a7 ?_;refine a1e (apm 906 908 (ms:=aq2 t.rows) rfl rfl (fun _ _=>rfl) hR (dp ?_));refine gy ?_;refine qy ?_;refine s9 ?_;refine a6 ?_;refine aw ?_
  refine ⟨.inr rfl, ?_⟩
  exact ⟨_,_,rfl,(by (repeat' apply And.intro) <;> first | trivial | exact Nat.le_of_ble_eq_true rfl),CoR.refl _,⟨u9,u9,u9,u9,trivial⟩⟩
end Go.Hx
end
section
namespace Go.Hx
open Go.Proofs
set_option maxRecDepth 100000
theorem ai4:aj Tryz.prog 15:=⟨Tryz.f15,Tryz.func15,by kernel_rfl,by kernel_rfl⟩
theorem ahu (t:Tbl) (add rem:List Fd) (ht:TOk t) (hna:t.attrs.length ≤ 8) (hnr:t.rows.length ≤ 200) (hA:add.length ≤ 68719476736) (hR:rem.length ≤ 68719476736):ce Tryz.prog 15 [.one (.ptr 1000 0),t.pc.toH] (mst t (bg t) add rem).objs (.v (.one (.p (.raw (.bool true))))) (mst t (bg t) add rem).objs [1000]:=by
 refine ct (nt:=36) ae Tryz.func15 rfl rfl l9 rfl ?_
 have hfl:=jd hna
 have e1:=anl ht hnr
 have e2:=aqj ht hnr hna
 have e3:=an7 ht hna
 refine sx7 ?_;refine m9 0 ?_;refine qy ?_;refine a6 ?_;refine sx7 ?_;refine qy ?_;refine rc rfl rfl rfl rfl rfl rfl ate (aux t) (CoL.refl _) rfl rfl ?_;(iterate 5 refine qy ?_);refine a6 ?_;refine a7 ?_
 refine ax (E:=aq) ae ak [0,1,2,3,4,5,6,7,8,9,10,11,12,13,14,15,16,17,18,19,20,21,22,23,24] ?_;refine qy ?_
 refine ay rfl rfl rfl rfl rfl rfl aiu (aut t (bg t) add rem ht) (bs.refl _) ⟨u9,u9,trivial⟩ rfl rfl ?_;refine qy ?_;refine rc rfl rfl rfl rfl rfl rfl asc (c47 t t ht.ok ht.ok) (CoL.refl _) rfl rfl ?_
 refine qy ?_;refine b5 rfl rfl (fun r0=>?_) (fun r0=>?_)
 ·
  have h0:=r0
  refine qy ?_ (hg:=(gtt r0));refine ay rfl rfl rfl rfl rfl rfl ait (anj t (bg t) add rem (by omega)) (bs.refl _) ⟨u9,u9,trivial⟩ rfl (gtt r0) ?_;refine qy ?_ (hg:=(gtt r0))
  refine rc rfl rfl rfl rfl rfl rfl aqu (ao8 (gr t.rows) (a59 t)) (CoL.refl _) rfl (gtt r0) ?_;(iterate 2 refine qy ?_);refine b5 rfl rfl (fun r1=>?_) (fun r1=>?_)
  ·
   have h1:=r1
   have h1:=d4 r0 h1
   refine qy ?_ (hg:=(gtt r1));refine ay rfl rfl rfl rfl rfl rfl a3w (af8 t (bg t) add rem hfl hA hR) (bs.refl _) ⟨u9,u9,trivial⟩ rfl (gtt r1) ?_;refine qy ?_ (hg:=(gtt r1))
   refine rc rfl rfl rfl rfl rfl rfl asa (atx t) (CoL.refl _) rfl (gtt r1) ?_;refine rc rfl rfl rfl rfl rfl rfl a3x (a4e (bg t) (a3i t)) (CoL.refl _) rfl (gtt r1) ?_;(iterate 2 refine qy ?_)
   refine b5 rfl rfl (fun r2=>?_) (fun r2=>?_)
   ·
    have h2:=r2
    have h2:=d4 r1 h2
    refine qy ?_ (hg:=(gtt r2));refine ay rfl rfl rfl rfl rfl rfl a5j (abr t (bg t) add rem hna) (bs.refl _) ⟨u9,u9,trivial⟩ rfl (gtt r2) ?_;refine qy ?_ (hg:=(gtt r2))
    refine rc rfl rfl rfl rfl rfl rfl aq8 (aql t ht) (CoL.refl _) rfl (gtt r2) ?_
    refine rc rfl rfl rfl rfl rfl rfl a9c (ak1 (o8 (prs t.rows) t.attrs.length) (a6g t.rows t.attrs.length)) (CoL.refl _) rfl (gtt r2) ?_;(iterate 2 refine qy ?_);refine a6 ?_;refine ⟨by kernel_rfl, ?_⟩
    refine aw ?_;refine ⟨.inr rfl, ?_⟩
    exact ⟨_,_,rfl,(by (repeat' apply And.intro) <;> first | trivial | exact Nat.le_of_ble_eq_true rfl),(cob (by simp_all)),⟨u9,u9,trivial⟩⟩
   ·
    have h2:=r2
    have h2:=d4 r1 h2
    (iterate 5 refine k9 (gft r2) ?_);refine rq rfl rfl rfl rfl rfl ?_ (hp:=r2);refine qy ?_;refine a6 ?_;refine ⟨by kernel_rfl, ?_⟩;refine aw ?_;refine ⟨.inr rfl, ?_⟩
    exact ⟨_,_,rfl,(by (repeat' apply And.intro) <;> first | trivial | exact Nat.le_of_ble_eq_true rfl),(cob (by simp_all)),⟨u9,u9,trivial⟩⟩
  ·
   have h1:=r1
   have h1:=d4 r0 h1
   (iterate 5 refine k9 (gft r1) ?_);refine rq rfl rfl rfl rfl rfl ?_ (hp:=r1);refine qy ?_;(iterate 5 refine k9 rfl ?_);(iterate 2 refine qy ?_);refine a6 ?_;refine ⟨by kernel_rfl, ?_⟩;refine aw ?_
   refine ⟨.inr rfl, ?_⟩
   exact ⟨_,_,rfl,(by (repeat' apply And.intro) <;> first | trivial | exact Nat.le_of_ble_eq_true rfl),(cob (by simp_all)),⟨u9,u9,trivial⟩⟩
 ·
  have h0:=r0
  (iterate 4 refine k9 (gft r0) ?_);refine rq rfl rfl rfl rfl rfl ?_ (hp:=r0);refine qy ?_;(iterate 5 refine k9 rfl ?_);(iterate 2 refine qy ?_);(iterate 5 refine k9 rfl ?_);(iterate 2 refine qy ?_);refine a6 ?_
  refine ⟨by kernel_rfl, ?_⟩;refine aw ?_;refine ⟨.inr rfl, ?_⟩
  exact ⟨_,_,rfl,(by (repeat' apply And.intro) <;> first | trivial | exact Nat.le_of_ble_eq_true rfl),(cob (by simp_all)),⟨u9,u9,trivial⟩⟩
end Go.Hx
end
