/- A part of the proof: SrK. -/
import Derived.Shelf.SlSortCmp.NoneTotal
import Derived.Test.YtaegkccfbmekbaaGreatNq20
set_option linter.all false
section
namespace Go.Hx
open Go.Proofs Go.RowKit Go.Sort
set_option maxRecDepth 100000
theorem a9h {α:Type} [Inhabited α] {enc:α → List Value} {k:Nat} (hk:∀ x,(enc x).length = k) {l:List α} {i j:Nat} (hi:i < l.length) (hj:j < k) :
 (flatK enc k l.toArray).toList[i * k + j]? = some ((enc (l.getD i default)).getD j (.bool false)):=by
 have hlt:i * k + j < l.toArray.size * k:=by rw [List.size_toArray];exact x6 hi hj
 have hlt2:i * k + j < (flatK enc k l.toArray).size:=by rw [size_flatK];exact hlt
 have h:=get_flatK enc k l.toArray (i * k + j) hlt
 have k0:0 < k:=by omega
 have e1:(i * k + j) / k = i:=(blk_iff k i _ k0).1 ⟨by omega,by omega⟩
 have e2:(i * k + j) % k = j:=by rw [Nat.mod_eq_sub_div_mul,e1];omega
 rw [e1,e2,getElem!_pos (flatK enc k l.toArray) _ hlt2,getElem!_pos l.toArray i (by simpa using hi)] at h
 rw [Array.getElem?_toList,Array.getElem?_eq_getElem hlt2,h]
 have hj2:j < (enc l.toArray[i]).length:=by rw [hk];exact hj
 rw [getElem!_pos (enc l.toArray[i]) _ hj2]
 simp only [List.getElem_toArray,List.getD_eq_getElem?_getD,List.getElem?_eq_getElem hi,Option.getD_some] at hj2 ⊢
 rw [List.getElem?_eq_getElem hj2];rfl
theorem aff {P:Program} {ρ:Go.Shelf.Ren} {α:Type} [Inhabited α] (L:SlLaysF0.n6 P ρ) (k:Nat) (hk0:0 < k) (aE:∀ w,(isAgg (ρ.t 24)).run P w = .ok true w) (zE:∀ w,(Go.sizeOf (ρ.t 24)).run P w = .ok k w) (enc:α → List Value) (hk:∀ x,(enc x).length = k) (h1:∀ x,∀ v ∈ enc x,v.oneCell' = true)
 (cf:α → α → Int) (hO:SWO (ltOf cf)) (hT:∀ x y,(ltOf cf) x y = false → (ltOf cf) y x = false → x = y)
 (g:Nat) (caps:Nat → PV) (hg:∀ args w,(callFunc g args).run P w = .ok (.enter g args) w) (hc:∀ x y,ap P g [.agg ((enc x).map .raw), .agg ((enc y).map .raw)] (b4 [.one (.raw (.int .i64 (cf x y)))])) (id:Nat) (e:TypeId) (l:List α) (hsz:l.length ≤ 8589934592) :
 ce P (ρ.f 6) [.one (.ref id l.length), .one (.p (.fn g 0 caps))] [(id, .arr true k e l.length (lf (fun x j=>.raw ((enc x).getD j (.bool false))) l))] (.tup [])
  [(id, .arr true k e l.length (lf (fun x j=>.raw ((enc x).getD j (.bool false))) (l.mergeSort fun x y=>!(ltOf cf) y x)))] [id]:=by
 intro w c us hM hus
 match us,hus with
 | [u,v],⟨hu,hv,_⟩ =>
  obtain ⟨cs,rfl,hcl,_⟩:=hv
  have hcs:cs = []:=List.eq_nil_of_length_eq_zero hcl
  subst hcs
  have hl1:lk [(id,ag.arr true k e l.length (lf (fun x j=>.raw ((enc x).getD j (.bool false))) l))] id = some (.arr true k e l.length (lf (fun x j=>.raw ((enc x).getD j (.bool false))) l)):=by simp [lk]
  have hu2:=(hu.2.2 _ _ _ _ hl1 rfl).2 rfl
  subst hu2
  have hob:=hM.objs id _ hl1
  obtain ⟨h0,hmax,h5⟩:=hob
  have hlen:(l.mergeSort fun x y=>!(ltOf cf) y x).length = l.length:=List.length_mergeSort _
  have hev:∀ f':Nat → Nat → PV,Evo c (lk [(id,ag.arr true k e l.length (lf (fun x j=>.raw ((enc x).getD j (.bool false))) l))]) c (lk [(id,ag.arr true k e l.length f')]) id:=fun f' =>
   .inr (.inr ⟨_, .arr true k e l.length f',k,e,l.length,l.length,hl1,rfl,by simp [lk],rfl,Nat.le_refl _,fun _=>rfl,fun _ _ _ _ _ _ _ h=>by cases h⟩)
  rcases Nat.eq_zero_or_pos l.length with hz | hpos
  · have hl:l = []:=List.eq_nil_of_length_eq_zero hz
    subst hl
    have hform:∃ ad cap,c.own id = .slice ad 0 cap:=by
     rcases h5 with ⟨_,xs,h2,_⟩ | ⟨_,_,ad,cap,hv,_⟩
     · rcases h2.2 with ⟨hv,_⟩ | ⟨g,cap,cur,hv,_⟩
       · exact ⟨none,0,hv⟩
       · exact ⟨_,cap,hv⟩
     · exact ⟨ad,cap,hv⟩
    obtain ⟨ad,cap,hown⟩:=hform
    have hms:([]:List α).mergeSort (fun x y=>!(ltOf cf) y x) = []:=by simp
    rw [hown,hms]
    refine (AnyF.slices_SortFunc_none { L with } ad cap (.func (.func g) #[] #[]) w).mono ?_
    rintro e' w' ⟨rfl,rfl⟩
    exact ⟨_,c,rfl,⟨[],rfl,trivial⟩,hM,Below.refl _ _,fun _ _ _=>⟨rfl,rfl⟩,fun id0 ob b ho hb=>.inr ⟨id0,ob,ho,hb⟩,fun id0 hid=>by
     rw [List.mem_singleton.1 hid]
     exact Evo.refl _ _ _⟩
  · obtain ⟨h6,xs,h2,h4⟩:c.blk id = dv (c.own id) ∧ ∃ xs,w.ownsRow 0 e k (c.own id) l.length xs ∧ ∀ i j,i < l.length → j < k → ∃ x,xs[i * k + j]? = some x ∧ b9 c.imm (lf (fun x j=>.raw ((enc x).getD j (.bool false))) l i j) x:=by
     rcases h5 with h5 | ⟨h6 | h6,_⟩
     · exact h5
     · cases h6
     · omega
    obtain ⟨hxl,hrow⟩:=h2
    rcases hrow with ⟨_,hz⟩ | ⟨b,cap,cur,hown,hbase,hheap,hnc,hcm,hcs,htake⟩
    · omega
    have hblk:c.blk id b:=by rw [h6,hown];rfl
    have hlt:b < w.heap.size:=(Array.getElem?_eq_some_iff.1 hheap).1
    have hcell:∀ t,t < l.length * k → cur[t]? = some (flatK enc k l.toArray)[t]!:=fun t ht=>by
     have htk:t / k < l.length:=Nat.div_lt_of_lt_mul (by rw [Nat.mul_comm];exact ht)
     have hmk:t % k < k:=Nat.mod_lt _ hk0
     have hdm:t / k * k + t % k = t:=by rw [Nat.mul_comm];exact Nat.div_add_mod t k
     obtain ⟨x,hx,hr⟩:=h4 (t / k) (t % k) htk hmk
     have hf:=a9h (enc:=enc) hk htk hmk
     rw [hdm] at hx hf
     rw [← htake,List.getElem?_take,if_pos ht,Array.getElem?_toList] at hx
     rw [hx]
     have hr:x = (enc (l.getD (t / k) default)).getD (t % k) (.bool false) ∧ _:=hr
     rw [hr.1]
     have hft:t < (flatK enc k l.toArray).size:=by rw [size_flatK,List.size_toArray];exact ht
     rw [Array.getElem?_toList,Array.getElem?_eq_getElem hft] at hf
     rw [getElem!_pos (flatK enc k l.toArray) _ hft]
     exact hf.symm
    have hH:HoldsK enc k w b 0 l.toArray:=fun j hj=>by
     have hj:j < l.length * k:=by rw [size_flatK,List.size_toArray] at hj;exact hj
     rw [Nat.zero_add]
     refine ⟨?_,by simp [World.frozen?,hheap]⟩
     simp only [World.cell?,hheap,hcell j hj]
     rfl
    have hcmp:CmpLays P g #[] enc k cf b 0 l.toArray.size w:=by
     intro m os dk hdk x y
     have hcimm:∀ b' ob,c.imm b' = some ob → (sortWorldK enc k w b 0 m dk os).heap[b']? = some ob:=fun b' ob hb'=>by
      have hne:b' ≠ b:=fun he=>by
       have:=hM.sep id _ b hl1 hblk
       rw [← he,hb'] at this
       cases this
      have hw:=hM.imm b' ob hb'
      rw [show sortWorldK enc k w b 0 m dk os = sortWorld (fun x:Value=>x) w b 0 m (flatK enc k dk) os from rfl,mg (Array.getElem?_eq_some_iff.1 hw).1 hne]
      exact hw
     have hrep:∀ x,iw c.imm (.agg ((enc x).map .raw)) (.agg (enc x).toArray):=fun x=>⟨enc x,rfl,by
      have:∀ l:List Value,(∀ v ∈ l,v.oneCell' = true) → ep c.imm (l.map .raw) l:=by
       intro l
       induction l with
       | nil=>intro _;trivial
       | cons v l ih=>exact fun h=>⟨⟨rfl,h v (by simp)⟩,ih fun u hu=>h u (by simp [hu])⟩
      exact this _ (h1 x)⟩
     have h:=hc x y (sortWorldK enc k w b 0 m dk os) c.imm [.agg (enc x).toArray, .agg (enc y).toArray] c.tab hcimm ⟨hrep x,hrep y,trivial⟩
     refine h.mono ?_
     rintro e' w' ⟨v,imm',rfl,hr,_,_,hb⟩
     obtain ⟨q,os',hq⟩:=a5i hb
     exact ⟨by rw [hr.1],q,os',hq⟩
    have hS:=AnyQ.slices_SortFunc_total L k aE zE enc hk h1 cf hO g #[] b 0 cap l.toArray w hg hcmp hH hlt (by rw [List.size_toArray];omega) hT
    rw [hown]
    refine Calls.mono hS ?_
    rintro e' w' ⟨rfl,m,os,rfl⟩
    generalize hSd:(l.mergeSort fun x y=>!(ltOf cf) y x) = S at *
    rw [show sortWorldK enc k w b 0 m S.toArray os = sortWorld (fun x:Value=>x) w b 0 m (flatK enc k S.toArray) os from rfl]
    refine ⟨_,c,rfl,⟨[],rfl,trivial⟩,⟨fun id0 ob ho=>?_,fun id0 id1 ob0 ob1 b' ho0 ho1 _ _=>(gq ho0).1.trans (gq ho1).1.symm,fun b' ob hb'=>?_,fun id0 ob b' ho hb'=>?_⟩,a4x,
     fun b' hb' hno=>⟨mg hb' (fun he=>hno _ _ hl1 (by rw [he];exact hblk)),rfl⟩,fun id0 ob b' ho hb'=>.inr ⟨_,_,hl1,by rw [← (gq ho).1];exact hb'⟩,fun id0 hid=>by
      rw [List.mem_singleton.1 hid]
      exact hev _⟩
    · obtain ⟨rfl,rfl⟩:=gq ho
      refine ⟨h0,hmax, .inl ⟨h6,(flatK enc k S.toArray).toList,⟨by rw [Array.length_toList,size_flatK,List.size_toArray,hlen], .inr ⟨b,cap,putCells (fun x=>x) 0 (flatK enc k S.toArray) cur,hown,hbase,a5u hheap,hnc,hcm,by simpa [putCells] using hcs, ?_⟩⟩,fun i j hi hj=>?_⟩⟩
      · have hle:l.length * k ≤ cap * k:=Nat.mul_le_mul_right _ hnc
        have:=ac5 (enc:=fun x:Value=>x) (d:=flatK enc k S.toArray) (cur:=cur) (by rw [size_flatK,List.size_toArray,hlen,hcs];exact hle)
        rw [size_flatK,List.size_toArray,hlen,List.map_id'] at this
        exact this
      · have hi':i < S.length:=by rw [hlen];exact hi
        refine ⟨_,a9h hk hi' hj, ?_⟩;refine ⟨rfl, ?_⟩
        have hj2:j < (enc (S.getD i default)).length:=by rw [hk];exact hj
        rw [List.getD_eq_getElem?_getD,List.getElem?_eq_getElem hj2,Option.getD_some]
        exact h1 _ _ (List.getElem_mem hj2)
    · have hne:b' ≠ b:=fun he=>by
       have:=hM.sep id _ b hl1 hblk
       rw [← he,hb'] at this
       cases this
      have hw:=hM.imm b' ob hb'
      rw [mg (Array.getElem?_eq_some_iff.1 hw).1 hne]
      exact hw
    · have:=(gq ho).1
      subst this
      exact hM.sep id0 _ b' hl1 hb'
 | [],h=>exact h.elim
 | [_],⟨_,h⟩=>exact h.elim
 | _ :: _ :: _ :: _,⟨_,_,h⟩=>exact h.elim
end Go.Hx
end
