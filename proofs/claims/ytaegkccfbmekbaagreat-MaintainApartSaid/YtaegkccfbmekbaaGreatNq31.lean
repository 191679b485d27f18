/- A part of the proof: W15 W17 W18 W19 W20 Hx22. -/
import Derived.Test.YtaegkccfbmekbaaGreatNq15
import Derived.Test.YtaegkccfbmekbaaGreatNq16
import Derived.Test.YtaegkccfbmekbaaGreatNq26
import Derived.Test.YtaegkccfbmekbaaGreatNq30
set_option linter.all false
section
namespace Go.Hx
open Go.Proofs Go.Lib Go.RowKit
set_option maxHeartbeats 4000000 in
set_option maxRecDepth 100000 in
theorem ad4 (b n c i vb vc:Nat) (cur vcur:Array Value) (w:World) (hi:i < n) (hroom:n + 1 ≤ c) (hc:c ≤ maxLen) (hvb:vb ≠ b)
 (hb:w.heap[b]? = some (.cells cur 48 (0,0))) (hcur:cur.size = c * 2) (hv:w.heap[vb]? = some (.cells vcur 48 (0,0))) (hvs:vcur.size = vc * 2) (hvc:1 ≤ vc)
 (h1c:∀ v ∈ (cur.toList.take (n * 2)),v.oneCell' = true) (h1v:∀ v ∈ vcur.toList.take 2,v.oneCell' = true) :
 Calls Tryz.prog 92 #[.slice (some ⟨b,0,none⟩) n c, .int .i64 i, .slice (some ⟨vb,0,none⟩) 1 vc] w fun e w' =>
  e = .returned (.slice (some ⟨b,0,none⟩) (n + 1) c) ∧ ∃ A1:Array Value,w' = w.drew.setRow b A1 ∧ A1.size = cur.size ∧ A1.toList.take ((n + 1) * 2) = i9 (i * 2) (cur.toList.take (n * 2)) (vcur.toList.take 2):=by
 have hcM:c ≤ 9223372036854775807:=by unfold maxLen at hc;omega
 have hsz:(Tryz.prog.info? 48).map (·.size) = some 2:=by kernel_rfl
 have hz2:¬ ((i:Int) = (n:Int)):=by omega
 have hov:∀ o lb cb,(callFunc 123 #[.slice (some ⟨vb,0,none⟩) 1 vc, .slice (some ⟨b,o,none⟩) lb cb]).run Tryz.prog w = .ok (.value (.bool false)) w:=fun o lb cb=>by
  rw [run_callFunc_extern Tryz.func123 (by kernel_rfl) (by kernel_rfl) (by kernel_rfl) (e:=Extern.SlicesOverlaps.overlaps #[29,29] #[4]) (by kernel_rfl),
   Lib.run_overlaps_apart w 29 4 48 Tryz.underlying29 2 Tryz.sizeOf48 ⟨vb,0,none⟩ ⟨b,o,none⟩ 1 vc lb cb hvb 48 48 vcur.size cur.size (by simp [World.shape?,hv]) (by simp [World.shape?,hb]) (by omega) (by simp [World.frozen?,hv]) (by simp [World.frozen?,hv])]
  rfl
 have mixed:=ak
 have hw1:IntKind.i64.wrap ((i:Int) + 1) = (i:Int) + 1:=by rw [IntKind.wrap_i64];omega
 have hw2:IntKind.i64.wrap ((n:Int) + 1) = (n:Int) + 1:=by rw [IntKind.wrap_i64];omega
 have hb1:(0:Int) ≤ (i:Int) + 1:=by omega
 have hin:i ≤ n:=by omega
 have htn:((i:Int) + 1).toNat = i + 1:=by omega
 have hb2:¬ (c = i + 1):=by omega
 have hb3:(i:Int) ≤ (n:Int) + 1:=by omega
 have hb4:¬ (c = i):=by omega
 have hcl:cur.toList.length = c * 2:=by simpa using hcur
 obtain ⟨seg,hseg⟩:∃ seg,seg = (cur.toList.take (n * 2)).drop (i * 2):=⟨_,rfl⟩
 have hsl:seg.length = (n - i) * 2:=by rw [hseg,List.length_drop,List.length_take,hcl];omega
 obtain ⟨A0,hA0⟩:∃ A0:Array Value,A0 = (cur.toList.take ((i + 1) * 2) ++ seg ++ cur.toList.drop ((i + 1) * 2 + seg.length)).toArray:=⟨_,rfl⟩
 have hA0s:A0.size = cur.size:=by rw [hA0];simp [hsl,hcur];omega
 obtain ⟨vs,hvsd⟩:∃ vs,vs = vcur.toList.take 2:=⟨_,rfl⟩
 have hvl:vs.length = 2:=by rw [hvsd,List.length_take,Array.length_toList];omega
 have hcp1:∀ ty dc sc,(Builtin.copy_ #[29,29] ty #[.slice (some ⟨b,(i + 1) * 2,none⟩) (n - i) dc, .slice (some ⟨b,i * 2,none⟩) (n + 1 - i) sc]).run Tryz.prog w.drew = .ok (goInt ((n - i:Nat):Int)) (w.drew.setRow b A0):=fun ty dc sc=>by
  have h:=n9 (P:=Tryz.prog) w.drew 29 29 ty 48 b ((i + 1) * 2) (n - i) dc ⟨b,i * 2,none⟩ (n + 1 - i) sc 2 cur 48 seg Tryz.underlying29 hsz hb (by rw [hsl];simp only [Nat.min_def];split <;> omega)
   (fun j v hj=>by
    rw [Addr.add_lit]
    rw [hseg,List.getElem?_drop,List.getElem?_take] at hj
    split at hj
    · show (w.cell? _) = _
      rw [World.cell?,hb]
      simpa using hj
    · cases hj)
   (by rw [hsl,hcur];omega) (fun v hv=>h1c v (by rw [hseg] at hv;exact List.mem_of_mem_drop hv))
  rw [show Nat.min (n + 1 - i) (n - i) = n - i by simp only [Nat.min_def];split <;> omega,← hA0] at h
  exact h
 obtain ⟨A1,hA1d⟩:∃ A1:Array Value,A1 = (A0.toList.take (i * 2) ++ vs ++ A0.toList.drop (i * 2 + vs.length)).toArray:=⟨_,rfl⟩
 have hA1:A1.size = cur.size:=by rw [hA1d];simp [hvl,hA0s,hcur];omega
 have hA2:A1.toList.take ((n + 1) * 2) = i9 (i * 2) (cur.toList.take (n * 2)) vs:=by
  rw [hA1d,hA0]
  show (List.take (i * 2) _ ++ vs ++ List.drop (i * 2 + vs.length) _).take ((n + 1) * 2) = _
  rw [show (n + 1) * 2 = n * 2 + vs.length by rw [hvl];omega]
  exact al9 (r:=(i + 1) * 2) (Nat.mul_le_mul_right _ (by omega)) (by omega) (by omega) (by rw [← hseg])
 have hcp2:∀ ty dc,(Builtin.copy_ #[29,29] ty #[.slice (some ⟨b,i * 2,none⟩) (n + 1 - i) dc, .slice (some ⟨vb,0,none⟩) 1 vc]).run Tryz.prog (w.drew.setRow b A0) = .ok (goInt 1) (w.drew.setRow b A1):=fun ty dc=>by
  have h:=n9 (P:=Tryz.prog) (w.drew.setRow b A0) 29 29 ty 48 b (i * 2) (n + 1 - i) dc ⟨vb,0,none⟩ 1 vc 2 A0 48 vs Tryz.underlying29 hsz (setRow_heap _ _ _ _ _ _ hb) (by rw [hvl];simp only [Nat.min_def];split <;> omega)
   (fun j v hj=>by
    rw [Addr.add_lit]
    rw [hvsd,List.getElem?_take] at hj
    split at hj
    · rw [World.cell?,setRow_other _ _ _ _ hvb]
      show (match w.heap[vb]? with | some (.cells c _ _)=>_ | _=>_) = _
      rw [hv]
      simpa using hj
    · cases hj)
   (by rw [hvl,hA0s,hcur];omega) (fun v hv=>h1v v (by rw [hvsd] at hv;exact hv))
  rw [show Nat.min 1 (n + 1 - i) = 1 by simp only [Nat.min_def];split <;> omega,← hA1d,setRow_setRow] at h
  exact h
 rw [← hvsd]
 clear hA0 hseg hvsd hA1d
 go_enter Tryz.func92,Tryz.ntmps92
 go_wp2_with (simp only [hov])
 go_region_law_o (refine step_copy_runI rfl _ _ 29 29 rfl _ _ (by simp [Act.eval,Act.put]) (by simp [Act.eval,Act.put]) (hcp1 _ _ _) ?_)
 go_wp2_with (at_builtin;refine wpList_copy_runI _ rfl _ _ 29 29 rfl _ _ rfl rfl (hcp2 _ _ _) ?_)
 go_ret
 exact ⟨rfl,_,rfl,hA1,hA2⟩
set_option maxHeartbeats 4000000 in
set_option maxRecDepth 100000 in
theorem afz (b n c i vb vc:Nat) (cur vcur:Array Value) (w:World) (hi:i < n) (hnc:n ≤ c) (hroom:c < n + 1) (hbig:(n + 1) * 32 ≤ 140737488355328)
 (hb:w.heap[b]? = some (.cells cur 48 (0,0))) (hcur:cur.size = c * 2) (hv:w.heap[vb]? = some (.cells vcur 48 (0,0))) (hvs:vcur.size = vc * 2) (hvc:1 ≤ vc)
 (h1c:∀ v ∈ (cur.toList.take (n * 2)),v.oneCell' = true) (h1v:∀ v ∈ vcur.toList.take 2,v.oneCell' = true) :
 Calls Tryz.prog 92 #[.slice (some ⟨b,0,none⟩) n c, .int .i64 i, .slice (some ⟨vb,0,none⟩) 1 vc] w fun e w' =>
  ∃ G:Nat,∃ ROW A0 A1:Array Value,e = .returned (.slice (some ⟨w.heap.size,0,none⟩) (n + 1) G) ∧ n + 1 ≤ G ∧ G ≤ maxLen ∧
   w' = (((w.alloc (.cells ROW 48)).drew.setRow w.heap.size A0).drew).setRow w.heap.size A1 ∧ A1.size = G * 2 ∧ A1.toList.take ((n + 1) * 2) = i9 (i * 2) (cur.toList.take (n * 2)) (vcur.toList.take 2):=by
 have hc:n + 1 ≤ maxLen:=by unfold maxLen;omega
 have hcM:c ≤ 9223372036854775807:=by unfold maxLen at hc;omega
 obtain ⟨i0,z,hi0,hz0,hzs,hzb,hzc⟩:∃ i0 z,Tryz.prog.info? 48 = some i0 ∧ i0.zero = some z ∧ i0.size = 2 ∧ i0.bytes = 32 ∧ z.cells.size = 2:=by
  have h:(Tryz.prog.info? 48).map (fun i=>(i.zero.map (fun z=>z.cells.size),i.size,i.bytes)) = some (some 2,2,32):=by kernel_rfl
  cases hq:Tryz.prog.info? 48 with
  | none=>rw [hq] at h;cases h
  | some i0 =>
   rw [hq] at h
   cases hz:i0.zero with
   | none=>simp [hz] at h
   | some z=>simp [hz] at h;exact ⟨i0,z,rfl,hz,h.2.1,h.2.2,h.1⟩
 have hsz:(Tryz.prog.info? 48).map (·.size) = some 2:=by rw [hi0];simp [hzs]
 have hz2:¬ ((i:Int) = (n:Int)):=by omega
 have hz3:(c:Int) < (n:Int) + 1:=by omega
 have hbw:b < w.heap.size:=(Array.getElem?_eq_some_iff.1 hb).1
 have hvw:vb < w.heap.size:=(Array.getElem?_eq_some_iff.1 hv).1
 have hkk:(n:Int) + 1 - (i:Int) = ((n + 1 - i:Nat):Int):=by omega
 have hik:i + (n + 1 - i) = n + 1:=by omega
 have hcl:cur.toList.length = c * 2:=by simpa using hcur
 have hold:(Builtin.firstCells i0.size i (.slice (some ⟨b,0,none⟩) i c)).run Tryz.prog w.drew = .ok (cur.toList.take (i * 2)).toArray w.drew:=by
  rw [hzs]
  exact run_firstCells_some w.drew 2 i ⟨b,0,none⟩ i c (cur.toList.take (i * 2)) (by rw [List.length_take];omega) (fun j v hj=>by
   rw [Addr.add_lit]
   rw [List.getElem?_take] at hj
   split at hj
   · show (w.cell? _) = _
     rw [World.cell?,hb]
     simpa using hj
   · cases hj)
 obtain ⟨G,hG⟩:∃ G,G = grownCap w (n + 1) c 48:=⟨_,rfl⟩
 obtain ⟨ROW,hROW⟩:∃ ROW:Array Value,ROW = (cur.toList.take (i * 2)).toArray ++ Builtin.zeroCells z.cells (n + 1 - i) ++ Builtin.zeroCells z.cells (G - (n + 1)):=⟨_,rfl⟩
 have hrz:∀ ty,(Builtin.append_ #[29,3] ty #[.slice (some ⟨b,0,none⟩) i c, .int .i64 ((n:Int) + 1 - (i:Int))]).run Tryz.prog w =
  .ok (.slice (some ⟨w.heap.size,0,none⟩) (n + 1) G) (w.drew.alloc (.cells ROW 48)):=fun ty=>by
  have h:=Lib.run_append_grow_zeros w 29 3 ty 48 i0 z .i64 .i64 Tryz.underlying29 Tryz.underlying3 hi0 hz0 (some ⟨b,0,none⟩) i c (cur.toList.take (i * 2)) hold (n + 1 - i) (by omega) (by omega) (by omega) (by unfold maxLen at hc;omega) (by rw [hzb];omega) (by rw [hzb,hik];exact growslice_fits hroom hbig)
  rw [hik,← hG,← hROW] at h
  rw [hkk]
  exact h
 have hGn:n + 1 ≤ G:=by rw [hG];exact grownCap_ge w _ _ _
 have hGm:G ≤ maxLen:=by rw [hG];exact grownCap_le_maxLen w (n + 1) c 48 hc
 have hG63:G ≤ 9223372036854775807:=by unfold maxLen at hGm;omega
 have hRs:ROW.size = G * 2:=by
  rw [hROW]
  simp only [Array.size_append,List.size_toArray,List.length_take,hcl,size_zeroCells,hzc]
  omega
 obtain ⟨vs,hvsd⟩:∃ vs,vs = vcur.toList.take 2:=⟨_,rfl⟩
 have hvl:vs.length = 2:=by rw [hvsd,List.length_take,Array.length_toList];omega
 obtain ⟨seg,hseg⟩:∃ seg,seg = (cur.toList.take (n * 2)).drop (i * 2):=⟨_,rfl⟩
 have hsl:seg.length = (n - i) * 2:=by rw [hseg,List.length_drop,List.length_take,hcl];omega
 obtain ⟨A0,hA0⟩:∃ A0:Array Value,A0 = (ROW.toList.take (i * 2) ++ vs ++ ROW.toList.drop (i * 2 + vs.length)).toArray:=⟨_,rfl⟩
 have hA0s:A0.size = G * 2:=by rw [hA0];simp [hvl,hRs];omega
 obtain ⟨A1,hA1d⟩:∃ A1:Array Value,A1 = (A0.toList.take ((i + 1) * 2) ++ seg ++ A0.toList.drop ((i + 1) * 2 + seg.length)).toArray:=⟨_,rfl⟩
 have hA1:A1.size = G * 2:=by rw [hA1d];simp [hsl,hA0s];omega
 have hA2:A1.toList.take ((n + 1) * 2) = i9 (i * 2) (cur.toList.take (n * 2)) vs:=by
  have hR:ROW.toList.take (i * 2) = cur.toList.take (i * 2):=by
   rw [hROW]
   simp only [Array.toList_append,List.append_assoc]
   rw [List.take_append_of_le_length (by simp [hcl];omega),List.take_take]
   congr 1;omega
  have hL:=aka (l:=cur.toList) (vs:=vs) (p:=i * 2) (q:=n * 2) (r:=(i + 1) * 2) (R:=ROW.toList) (A:=A0.toList) (Nat.mul_le_mul_right _ (by omega)) (by omega) (by omega) (by simp [hRs];omega) hR (by rw [hA0])
  rw [hA1d]
  show (List.take ((i + 1) * 2) _ ++ seg ++ List.drop _ _).take ((n + 1) * 2) = _
  rw [show (n + 1) * 2 = n * 2 + vs.length by rw [hvl];omega,hseg]
  exact hL
 have hcpA:∀ (W:World),W.heap[w.heap.size]? = some (.cells ROW 48 (0,0)) → W.heap[vb]? = some (.cells vcur 48 (0,0)) → ∀ ty dc,(Builtin.copy_ #[29,29] ty #[.slice (some ⟨w.heap.size,i * 2,none⟩) (n + 1 - i) dc, .slice (some ⟨vb,0,none⟩) 1 vc]).run Tryz.prog W = .ok (goInt 1) (W.setRow w.heap.size A0):=fun W hWc hWv ty dc=>by
  have h:=n9 (P:=Tryz.prog) W 29 29 ty 48 w.heap.size (i * 2) (n + 1 - i) dc ⟨vb,0,none⟩ 1 vc 2 ROW 48 vs Tryz.underlying29 hsz hWc (by rw [hvl];simp only [Nat.min_def];split <;> omega)
   (fun j v hj=>by
    rw [Addr.add_lit]
    rw [hvsd,List.getElem?_take] at hj
    split at hj
    · rw [World.cell?,hWv]
      simpa using hj
    · cases hj)
   (by rw [hvl,hRs];omega) (fun v hv=>h1v v (by rw [hvsd] at hv;exact hv))
  rw [show Nat.min 1 (n + 1 - i) = 1 by simp only [Nat.min_def];split <;> omega,← hA0] at h
  exact h
 have hcpB:∀ (W:World),W.heap[w.heap.size]? = some (.cells A0 48 (0,0)) → W.heap[b]? = some (.cells cur 48 (0,0)) → ∀ ty dc sc,(Builtin.copy_ #[29,29] ty #[.slice (some ⟨w.heap.size,(i + 1) * 2,none⟩) (n - i) dc, .slice (some ⟨b,i * 2,none⟩) (n - i) sc]).run Tryz.prog W = .ok (goInt ((n - i:Nat):Int)) (W.setRow w.heap.size A1):=fun W hWc hWb ty dc sc=>by
  have h:=n9 (P:=Tryz.prog) W 29 29 ty 48 w.heap.size ((i + 1) * 2) (n - i) dc ⟨b,i * 2,none⟩ (n - i) sc 2 A0 48 seg Tryz.underlying29 hsz hWc (by rw [hsl];simp only [Nat.min_def];split <;> omega)
   (fun j v hj=>by
    rw [Addr.add_lit]
    rw [hseg,List.getElem?_drop,List.getElem?_take] at hj
    split at hj
    · rw [World.cell?,hWb]
      simpa using hj
    · cases hj)
   (by rw [hsl,hA0s];omega) (fun v hv=>h1c v (by rw [hseg] at hv;exact List.mem_of_mem_drop hv))
  rw [show Nat.min (n - i) (n - i) = n - i by simp only [Nat.min_def];split <;> omega,← hA1d] at h
  exact h
 have mixed:=ak
 have hGi:¬ (G = i):=by omega
 have hGim:¬ (G = i + 1):=by omega
 have hci:¬ (c = i):=by omega
 have hw1:IntKind.i64.wrap ((i:Int) + 1) = (i:Int) + 1:=by rw [IntKind.wrap_i64];omega
 have hw2:IntKind.i64.wrap ((n:Int) + 1) = (n:Int) + 1:=by rw [IntKind.wrap_i64];omega
 have hw3:IntKind.i64.wrap ((n:Int) + 1 - (i:Int)) = (n:Int) + 1 - (i:Int):=by rw [IntKind.wrap_i64];omega
 have hb1:(0:Int) ≤ (i:Int) + 1:=by omega
 have hin:i ≤ n:=by omega
 have htn:((i:Int) + 1).toNat = i + 1:=by omega
 have hb3:(i:Int) ≤ (n:Int):=by omega
 have hE1:((w.alloc (.cells ROW 48)).drew).heap[w.heap.size]? = some (.cells ROW 48 (0,0)):=heap_alloc_new w _
 have hE2:((w.alloc (.cells ROW 48)).drew).heap[vb]? = some (.cells vcur 48 (0,0)):=(a41 w _ hvw).trans hv
 have hE3:(((w.alloc (.cells ROW 48)).drew.setRow w.heap.size A0).drew).heap[w.heap.size]? = some (.cells A0 48 (0,0)):=setRow_heap _ _ _ _ _ _ (heap_alloc_new w _)
 have hE4:(((w.alloc (.cells ROW 48)).drew.setRow w.heap.size A0).drew).heap[b]? = some (.cells cur 48 (0,0)):=(setRow_other (w.alloc (.cells ROW 48)).drew _ _ _ (by omega)).trans ((a41 w _ hbw).trans hb)
 have hB:=hcpB _ hE3 hE4
 have hA:=hcpA _ hE1 hE2
 rw [← hvsd]
 clear hkk hik hold hROW hG hRs hA0 hseg hvsd hA1d hA0s hsl hvl hcpA hcpB hE1 hE2 hE3 hE4
 go_enter Tryz.func92,Tryz.ntmps92
 go_wp2_with (first
  | (at_builtin;refine Lib.wpList_append_run _ rfl _ _ _ _ rfl _ _ rfl rfl _ _ (hrz _) ?_)
  | (at_builtin;refine wpList_copy_runI _ rfl _ _ 29 29 rfl _ _ rfl rfl (hA _ _) ?_))
 go_region_law_o (refine step_copy_runI rfl _ _ 29 29 rfl _ _ (by simp [Act.eval,Act.put]) (by simp [Act.eval,Act.put]) (hB _ _ _) ?_)
 go_wp2
 go_ret
 exact ⟨G,ROW,A0,A1,rfl,hGn,hGm,rfl,hA1,hA2⟩
theorem aty (n i:Nat) (hi:i < n) (hbig:(n + 1) * 32 ≤ 140737488355328) (w:World) (own vb:Value) (xs vs:List Value) (ho:w.ownsRow 0 48 2 own n xs) (hv:w.ownsRow 0 48 2 vb 1 vs)
 (hne:br own ≠ br vb) (h1:∀ x ∈ xs,x.oneCell' = true) (h2:∀ x ∈ vs,x.oneCell' = true) :
 Calls Tryz.prog 92 #[own, .int .i64 i,vb] w fun e w'=>∃ v,e = .returned v ∧ ahv w w' 48 2 own v n (i9 (i * 2) xs vs):=by
 obtain ⟨hxl,⟨_,h0⟩ | ⟨g,c,cur,rfl,_,hg,hnc,hcm,hcs,rfl⟩⟩:=ho
 · omega
 obtain ⟨hvl,⟨_,h0⟩ | ⟨g2,c2,cur2,rfl,_,hg2,hnc2,hcm2,hcs2,rfl⟩⟩:=hv
 · omega
 simp only [Nat.one_mul] at hvl h2 ⊢
 have hgl:g < w.heap.size:=(Array.getElem?_eq_some_iff.1 hg).1
 have hlen:(i9 (i * 2) (cur.toList.take (n * 2)) (cur2.toList.take 2)).length = (n + 1) * 2:=by
  rw [aju (by rw [hxl];exact Nat.mul_le_mul_right _ (by omega)),hxl,hvl];omega
 by_cases hroom:n + 1 ≤ c
 · refine (ad4 g n c i g2 c2 cur cur2 w hi hroom hcm (fun h=>hne (by rw [h];rfl)) hg hcs hg2 hcs2 hnc2 h1 h2).mono ?_
   rintro e w' ⟨rfl,A1,rfl,ha,hb⟩
   refine ⟨_,rfl,⟨⟨hlen, .inr ⟨g,c,A1,rfl,Nat.zero_le _,setRow_heap _ _ _ _ _ _ hg,hroom,hcm,ha.trans hcs,hb⟩⟩,⟨rfl,rfl,rfl,by rw [setRow_size];exact Nat.le_refl _,fun k hk=>absurd hk (Nat.not_lt_zero k),Nat.le_succ _⟩,fun q hq hb=>?_,fun q hq=>.inr hq⟩⟩
   exact setRow_other w.drew _ _ _ (fun h=>hb (by rw [h];rfl))
 · refine (afz g n c i g2 c2 cur cur2 w hi hnc (by omega) hbig hg hcs hg2 hcs2 hnc2 h1 h2).mono ?_
   rintro e w' ⟨G,ROW,A0,A1,rfl,hn,hm,rfl,ha,hb⟩
   have e1:=setRow_heap ((w.alloc (.cells ROW 48)).drew) w.heap.size ROW A0 48 (0,0) (heap_alloc_new w _)
   refine ⟨_,rfl,⟨⟨hlen, .inr ⟨w.heap.size,G,A1,rfl,Nat.zero_le _,setRow_heap _ _ _ _ _ _ e1,hn,hm,ha,hb⟩⟩,⟨rfl,rfl,rfl, ?_,fun k hk=>absurd hk (Nat.not_lt_zero k),Nat.le_trans (Nat.le_succ _) (Nat.le_succ _)⟩,fun q hq hb=>?_,fun q hq=>.inl ?_⟩⟩
   · rw [setRow_size]
     show _ ≤ (((w.alloc _).drew.setRow _ _)).heap.size
     rw [setRow_size]
     show _ ≤ (w.heap.push _).size
     rw [Array.size_push];omega
   · exact (setRow_other _ _ _ _ (by omega)).trans ((setRow_other (w.alloc (.cells ROW 48)).drew _ _ _ (by omega)).trans (a41 w _ hq))
   · have:w.heap.size = q:=by simpa [br] using hq
     omega
theorem ava (n i a b r:Nat) (F G:Nat → Nat → PV) (hab:Nat.beq a b = false) (hi:i < n) (hn:n ≤ 68719476736) :
 ce Tryz.prog 92 [.one (.ref a n), .one (.p (.raw (.int .i64 i))), .one (.ref b 1)] [(a, .arr true 2 48 n F),(b, .arr true 2 48 1 G)] (.v (.one (.ref r (n + 1)))) [(r, .arr true 2 48 (n + 1) (vi i F G))] [] :=
 ajo hab hi (by unfold maxLen;omega) (fun w own vb xs vs h1 h2 h3 h4 h5=>aty n i hi (by omega) w own vb xs vs h1 h2 h3 h4 h5)
set_option maxHeartbeats 4000000 in
set_option maxRecDepth 100000 in
theorem aiv (w w1:World) (n:Nat) (base:Option Addr) (c:Nat) (vb vc:Nat) (v':Value) (hnc:n ≤ c) (hc:c ≤ maxLen) (hnil:base = none → n = 0 ∧ c = 0)
 (hrun:(Builtin.append_ #[29,29] 29 #[.slice base n c, .slice (some ⟨vb,0,none⟩) 1 vc]).run Tryz.prog w = .ok v' w1) :
 Calls Tryz.prog 92 #[.slice base n c, .int .i64 n, .slice (some ⟨vb,0,none⟩) 1 vc] w fun e w'=>e = .returned v' ∧ w' = w1:=by
 have hcM:c ≤ 9223372036854775807:=by unfold maxLen at hc;omega
 have mixed:=ak
 cases base with
 | none =>
  obtain ⟨h0,h1⟩:=hnil rfl
  subst h0 h1
  clear hnil hnc hc hcM
  go_enter Tryz.func92,Tryz.ntmps92
  go_wp2_with (at_builtin;refine Lib.wpList_append_run _ rfl _ _ _ _ rfl _ _ rfl rfl _ _ hrun ?_)
  go_ret
  exact ⟨rfl,rfl⟩
 | some a =>
  obtain ⟨ab,ao,asp⟩:=a
  clear hnil hc
  go_enter Tryz.func92,Tryz.ntmps92
  go_wp2_with (at_builtin;refine Lib.wpList_append_run _ rfl _ _ _ _ rfl _ _ rfl rfl _ _ hrun ?_)
  all_goals (go_ret;exact ⟨rfl,rfl⟩)
theorem av0 (n i a b r:Nat) (F G:Nat → Nat → PV) (hab:Nat.beq a b = false) (hi:i ≤ n) (hn:n ≤ 68719476736) :
 ce Tryz.prog 92 [.one (.ref a n), .one (.p (.raw (.int .i64 i))), .one (.ref b 1)] [(a, .arr true 2 48 n F),(b, .arr true 2 48 1 G)] (.v (.one (.ref r (n + 1)))) [(r, .arr true 2 48 (n + 1) (vi i F G))] []:=by
 rcases Nat.lt_or_eq_of_le hi with hi | rfl
 · exact ava n i a b r F G hab hi hn
 · obtain ⟨i0,z,hi0,hz0,hzs,hzb,hzc⟩:∃ i0 z,Tryz.prog.info? 48 = some i0 ∧ i0.zero = some z ∧ i0.size = 2 ∧ i0.bytes = 32 ∧ z.cells.size = 2:=by
    have h:(Tryz.prog.info? 48).map (fun i=>(i.zero.map (fun z=>z.cells.size),i.size,i.bytes)) = some (some 2,2,32):=by kernel_rfl
    cases hq:Tryz.prog.info? 48 with
    | none=>rw [hq] at h;cases h
    | some i0 =>
     rw [hq] at h
     cases hz:i0.zero with
     | none=>simp [hz] at h
     | some z=>simp [hz] at h;exact ⟨i0,z,rfl,hz,h.2.1,h.2.2,h.1⟩
   exact aj6 Tryz.underlying29 hi0 hz0 hzs hzb hzc hab (by omega) (by unfold maxLen;omega) (fun w w1 base c vb vc v' h1 h2 h3 h4=>aiv w w1 i base c vb vc v' h1 h2 h3 h4)
end Go.Hx
end
section
namespace Go.Hx
open Go.Proofs
set_option maxRecDepth 100000
theorem asj:aj Tryz.prog 92:=⟨Tryz.f92,Tryz.func92,by kernel_rfl,by kernel_rfl⟩
theorem ajf:aj Tryz.prog 91:=⟨Tryz.f91,Tryz.func91,by kernel_rfl,by kernel_rfl⟩
theorem c96 (r:Row) (id:Int):ap Tryz.prog 91 [r.pc,pI id] (b4 [pI (qk r.id id)]):=by
 refine ah (nt:=15) ae Tryz.func91 rfl rfl l9 ?_;refine sx7 ?_;refine m9 0 ?_;refine qy ?_;refine a6 ?_;refine a7 ?_;refine af ?_;refine sx7 ?_;(iterate 5 refine qy ?_);refine a6 ?_
 refine a8 _ rfl (fun r0=>?_) (fun r0=>?_)
 ·
  have h0:=of_decide_eq_true r0
  try simp only [ty] at h0
  refine sx7 ?_;refine qy ?_;refine a6 ?_
  exact hx8 rfl rfl rfl (⟨cci (by unfold qk;split <;> omega),trivial⟩)
 ·
  have h0:=of_decide_eq_false r0
  try simp only [ty] at h0
  refine sx7 ?_;(iterate 5 refine qy ?_);refine a6 ?_;refine a8 _ rfl (fun r1=>?_) (fun r1=>?_)
  ·
   have h1:=of_decide_eq_true r1
   try simp only [ty] at h1
   refine sx7 ?_;refine qy ?_;refine a6 ?_
   exact hx8 rfl rfl rfl (⟨cci (by unfold qk;split <;> (try split) <;> omega),trivial⟩)
  ·
   have h1:=of_decide_eq_false r1
   try simp only [ty] at h1
   refine aa ?_;refine sx7 ?_;refine qy ?_;refine a6 ?_
   exact hx8 rfl rfl rfl (⟨cci (by unfold qk;split <;> (try split) <;> omega),trivial⟩)
theorem at4:aj Tryz.prog 90:=⟨Tryz.f90,Tryz.func90,by kernel_rfl,by kernel_rfl⟩
theorem c95 (l:List Row) (id:Int) (caps:Nat → PV) (hs:gc l) (hl:l.length ≤ 68719476736):ap Tryz.prog 90 [pP (rows l),pI id,pP (.fn 91 0 caps)] (b4 [pI (lbd l id),pB (bsF l id)]):=by
 refine ah (nt:=49) ae Tryz.func90 rfl rfl l9 ?_;refine sx7 ?_;(iterate 2 refine qy ?_);refine a6 ?_;refine sx7 ?_;(iterate 3 refine qy ?_);refine a6 ?_;refine sx7 ?_;(iterate 3 refine qy ?_)
 refine a6 ?_;refine a7 ?_;refine af ?_
 refine av (ι:=(Nat × Nat)) ⟨[(0,some _),(1,some _),(2,some _),(8,some _)],[]⟩ ⟨⟨c9,c9,c9,c9,trivial⟩,trivial⟩ (fun q=>match q with | (i,j)=>⟨[(9,some (vI i)),(10,some (vI j))],[]⟩) (fun q=>match q with | (i,j)=>i ≤ j ∧ j ≤ l.length ∧ (∀ k,k < i → (l.getD k default).id < id) ∧ (∀ k,j ≤ k → k < l.length → id ≤ (l.getD k default).id)) (fun q=>match q with | (i,j)=>j - i) ((0,l.length)) (⟨Nat.zero_le _,Nat.le_refl _,dl,fun k h1 h2=>by omega⟩) ⟨⟨zy,zy,trivial⟩,trivial⟩ ?_
 rintro ⟨i,j⟩ hq
 obtain ⟨h1,h2,hA,hB⟩:i ≤ j ∧ j ≤ l.length ∧ (∀ k,k < i → (l.getD k default).id < id) ∧ (∀ k,j ≤ k → k < l.length → id ≤ (l.getD k default).id):=hq
 have hmid:=ar9 i j
 refine a7 ?_;refine sx7 ?_;(iterate 3 refine qy ?_);refine a6 ?_;refine a8 _ rfl (fun r0=>?_) (fun r0=>?_)
 ·
  have h0:=of_decide_eq_true r0
  try simp only [ty] at h0
  refine aa ?_;refine af ?_;refine sx7 ?_;(iterate 7 refine qy ?_);refine a6 ?_;refine sx7 ?_;(iterate 6 refine qy ?_);refine rc rfl rfl rfl rfl rfl rfl ajf (c96 _ _) (CoL.refl _) rfl rfl ?_;refine qy ?_
  refine a6 ?_;refine a8 _ rfl (fun r1=>?_) (fun r1=>?_)
  ·
   have h1:=of_decide_eq_true r1
   try simp only [ty] at h1
   have hc:=h1
   refine gy ?_;(iterate 3 refine qy ?_);refine a6 ?_
   first | (refine ⟨((i + j) / 2 + 1, j), ?_, ?_, ?_⟩
            · show ((i + j) / 2 + 1) ≤ j ∧ j ≤ l.length ∧ (∀ k,k < ((i + j) / 2 + 1) → (l.getD k default).id < id) ∧ (∀ k,j ≤ k → k < l.length → id ≤ (l.getD k default).id)
              exact amq hs (by omega) h2 hA hB (by rw [hmid] at hc;exact hc)
            · show j - ((i + j) / 2 + 1) < j - i
              omega
            · exact ⟨⟨⟨_,rfl,(coi (by rw [hmid];omega))⟩,⟨_,rfl,(CoR.refl _)⟩,c9,c9,c9,c9,trivial⟩,trivial⟩)
         | (refine ⟨(i,(i + j) / 2), ?_, ?_, ?_⟩
            · show i ≤ ((i + j) / 2) ∧ ((i + j) / 2) ≤ l.length ∧ (∀ k,k < i → (l.getD k default).id < id) ∧ (∀ k,((i + j) / 2) ≤ k → k < l.length → id ≤ (l.getD k default).id)
              exact amo hs (by omega) h2 hA hB (by rw [hmid] at hc;exact hc)
            · show (i + j) / 2 - i < j - i
              omega
            · exact ⟨⟨⟨_,rfl,(CoR.refl _)⟩,⟨_,rfl,(coi hmid)⟩,c9,c9,c9,c9,trivial⟩,trivial⟩)
  ·
   have h1:=of_decide_eq_false r1
   try simp only [ty] at h1
   have hc:=h1
   refine gy ?_;(iterate 2 refine qy ?_);refine a6 ?_
   first | (refine ⟨((i + j) / 2 + 1, j), ?_, ?_, ?_⟩
            · show ((i + j) / 2 + 1) ≤ j ∧ j ≤ l.length ∧ (∀ k,k < ((i + j) / 2 + 1) → (l.getD k default).id < id) ∧ (∀ k,j ≤ k → k < l.length → id ≤ (l.getD k default).id)
              exact amq hs (by omega) h2 hA hB (by rw [hmid] at hc;exact hc)
            · show j - ((i + j) / 2 + 1) < j - i
              omega
            · exact ⟨⟨⟨_,rfl,(coi (by rw [hmid];omega))⟩,⟨_,rfl,(CoR.refl _)⟩,c9,c9,c9,c9,trivial⟩,trivial⟩)
         | (refine ⟨(i,(i + j) / 2), ?_, ?_, ?_⟩
            · show i ≤ ((i + j) / 2) ∧ ((i + j) / 2) ≤ l.length ∧ (∀ k,k < i → (l.getD k default).id < id) ∧ (∀ k,((i + j) / 2) ≤ k → k < l.length → id ≤ (l.getD k default).id)
              exact amo hs (by omega) h2 hA hB (by rw [hmid] at hc;exact hc)
            · show (i + j) / 2 - i < j - i
              omega
            · exact ⟨⟨⟨_,rfl,(CoR.refl _)⟩,⟨_,rfl,(coi hmid)⟩,c9,c9,c9,c9,trivial⟩,trivial⟩)
 ·
  have h0:=of_decide_eq_false r0
  try simp only [ty] at h0
  obtain rfl:i = j:=by omega
  have hb:=aj0 h2 hA (fun hi=>by have:=hB i (Nat.le_refl _) hi;omega)
  refine au ?_;refine sx7 ?_;(iterate 5 refine qy ?_);refine b5 rfl rfl (fun r2=>?_) (fun r2=>?_)
  ·
   have h2:=of_decide_eq_true r2
   try simp only [ty] at h2
   (iterate 6 refine qy ?_ (hg:=(gtt r2)));refine rc rfl rfl rfl rfl rfl rfl ajf (c96 _ _) (CoL.refl _) rfl (gtt r2) ?_;refine qy ?_ (hg:=(gtt r2));(iterate 3 refine qy ?_);refine a6 ?_;refine aw ?_
   refine ⟨.inr rfl, ?_⟩
   rw [hb]
   exact f9 rfl rfl (⟨CoC.refl _,ccb (by first | (simp [bsF,hb,a16, *];done) | (unfold bsF;rw [hb];simp [a16, *] <;> (intros;omega))),trivial⟩)
  ·
   have h2:=of_decide_eq_false r2
   try simp only [ty] at h2
   (iterate 8 refine k9 (gft r2) ?_);refine rq rfl rfl rfl rfl rfl ?_ (hp:=r2);(iterate 2 refine qy ?_);refine a6 ?_;refine aw ?_;refine ⟨.inr rfl, ?_⟩
   rw [hb]
   exact f9 rfl rfl (⟨CoC.refl _,ccb (by first | (simp [bsF,hb,a16, *];done) | (unfold bsF;rw [hb];simp [a16, *] <;> (intros;omega))),trivial⟩)
end Go.Hx
end
section
namespace Go.Hx
open Go.Proofs
set_option maxRecDepth 100000
theorem arj:aj Tryz.prog 50:=⟨Tryz.f50,Tryz.func50,by kernel_rfl,by kernel_rfl⟩
theorem c70 (t:Tbl) (r:Row):ap Tryz.prog 50 [t.pc,r.pc] (b4 [(gj t r).pc,pI (c4 t r)]):=by
 refine ah (nt:=75) ae Tryz.func50 rfl rfl l9 ?_;refine sx7 ?_;refine m9 0 ?_;refine m9 1 ?_;refine m9 2 ?_;refine qy ?_;refine a6 ?_;refine a7 ?_;refine sx7 ?_;refine qy ?_
 refine rc rfl rfl rfl rfl rfl rfl a44 (c88 _) (CoL.refl _) rfl rfl ?_;refine qy ?_;refine a6 ?_;refine sx7 ?_;(iterate 2 refine qy ?_);refine a6 ?_;refine a8 _ rfl (fun r0=>?_) (fun r0=>?_)
 ·
  have h0:=r0
  have h0:=of_decide_eq_false (be h0)
  try simp only [ty] at h0
  refine sx7 ?_;(iterate 2 refine qy ?_);refine s9 ?_;refine qy ?_;refine a6 ?_;refine aw ?_;refine ⟨.inr rfl, ?_⟩
  have he:c4 t r = c6 t:=by unfold c4;rw [if_pos (by assumption)]
  rw [gz he (by first | assumption | omega | decide)]
  exact f9 rfl rfl (⟨CoC.agg ⟨CoP.refl _,bd,bd,trivial⟩,cci he.symm,trivial⟩)
 ·
  have h0:=r0
  have h0:=of_decide_eq_true (bf h0)
  try simp only [ty] at h0
  have hT:=ek.1 (show c6 t = 0 by simpa using h0)
  have hok:=hT.ok
  refine aa ?_;refine sx7 ?_;(iterate 3 refine qy ?_);refine rc rfl rfl rfl rfl rfl rfl zu (c68 _ _) (CoL.refl _) rfl rfl ?_;(iterate 5 refine qy ?_);refine a6 ?_;refine a7 ?_;refine af ?_
  refine sx7 ?_;(iterate 8 refine qy ?_);refine a6 ?_;refine a8 _ rfl (fun r1=>?_) (fun r1=>?_)
  ·
   have h1:=r1
   have h1:=of_decide_eq_false (be h1)
   try simp only [ty] at h1
   refine sx7 ?_;refine qy ?_;refine s9 ?_;refine qy ?_;refine a6 ?_;refine aw ?_;refine ⟨.inr rfl, ?_⟩
   have he:c4 t r = 6:=by unfold c4;rw [if_neg (by omega),if_pos (by omega)]
   rw [gz he (by first | assumption | omega | decide)]
   exact f9 rfl rfl (⟨CoC.agg ⟨CoP.refl _,bd,bd,trivial⟩,cci he.symm,trivial⟩)
  ·
   have h1:=r1
   have h1:=of_decide_eq_true (bf h1)
   try simp only [ty] at h1
   refine sx7 ?_;(iterate 4 refine qy ?_);refine b5 rfl rfl (fun r2=>?_) (fun r2=>?_)
   ·
    have h2:=of_decide_eq_true r2
    try simp only [ty] at h2
    (iterate 4 refine k9 (gtf r2) ?_);refine rq rfl rfl rfl rfl rfl ?_ (hp:=r2);refine qy ?_;refine a6 ?_;refine a8 _ rfl (fun _=>?_) (fun e=>by cases e);refine sx7 ?_;refine qy ?_;refine s9 ?_
    refine qy ?_;refine a6 ?_;refine aw ?_;refine ⟨.inr rfl, ?_⟩
    have he:c4 t r = 1:=by unfold c4;rw [if_neg (by omega),if_neg (by omega),if_pos (by first | exact .inl (by omega) | exact .inr (by assumption))]
    rw [gz he (by first | assumption | omega | decide)]
    exact f9 rfl rfl (⟨CoC.agg ⟨CoP.refl _,bd,bd,trivial⟩,cci he.symm,trivial⟩)
   ·
    have h2:=of_decide_eq_false r2
    try simp only [ty] at h2
    (iterate 2 refine qy ?_ (hg:=(gff r2)));refine rc rfl rfl rfl rfl rfl rfl aja (c93 _) (CoL.refl _) rfl (gff r2) ?_;refine qy ?_ (hg:=(gff r2));(iterate 2 refine qy ?_);refine a6 ?_
    refine a8 _ rfl (fun r3=>?_) (fun r3=>?_)
    ·
     have h3:=r3
     have h3:=bv r2 h3
     have h3:=be h3
     refine sx7 ?_;refine qy ?_;refine s9 ?_;refine qy ?_;refine a6 ?_;refine aw ?_;refine ⟨.inr rfl, ?_⟩
     have he:c4 t r = 1:=by unfold c4;rw [if_neg (by omega),if_neg (by omega),if_pos (by first | exact .inl (by omega) | exact .inr (by assumption))]
     rw [gz he (by first | assumption | omega | decide)]
     exact f9 rfl rfl (⟨CoC.agg ⟨CoP.refl _,bd,bd,trivial⟩,cci he.symm,trivial⟩)
    ·
     have h3:=r3
     have h3:=bv r2 h3
     have h3:=bf h3
     refine sx7 ?_;(iterate 2 refine qy ?_);refine a6 ?_;refine a8 _ rfl (fun r4=>?_) (fun r4=>?_)
     ·
      have h4:=r4
      have hkn:=of_decide_eq_true h4
      refine sx7 ?_;refine qy ?_;refine s9 ?_;refine qy ?_;refine a6 ?_;refine aw ?_;refine ⟨.inr rfl, ?_⟩
      have he:c4 t r = 5:=by unfold c4;rw [if_neg (by omega),if_neg (by omega),if_neg (by rintro (h | h) <;> first | omega | simp_all),if_pos (by assumption)]
      rw [gz he (by first | assumption | omega | decide)]
      exact f9 rfl rfl (⟨CoC.agg ⟨CoP.refl _,bd,bd,trivial⟩,cci he.symm,trivial⟩)
     ·
      have h4:=r4
      have hkn:=of_decide_eq_false h4
      refine sx7 ?_;(iterate 5 refine qy ?_);refine a6 ?_;refine a8 _ rfl (fun r5=>?_) (fun r5=>?_)
      ·
       have h5:=of_decide_eq_true r5
       try simp only [ty] at h5
       refine sx7 ?_;refine qy ?_;refine s9 ?_;refine qy ?_;refine a6 ?_;refine aw ?_;refine ⟨.inr rfl, ?_⟩
       have he:c4 t r = 3:=by unfold c4;rw [if_neg (by omega),if_neg (by omega),if_neg (by rintro (h | h) <;> first | omega | simp_all),if_neg (by omega),if_pos (by omega)]
       rw [gz he (by first | assumption | omega | decide)]
       exact f9 rfl rfl (⟨CoC.agg ⟨CoP.refl _,bd,bd,trivial⟩,cci he.symm,trivial⟩)
      ·
       have h5:=of_decide_eq_false r5
       try simp only [ty] at h5
       refine aa ?_;refine a7 ?_
       have hie:c4 t r = 0:=by unfold c4;rw [if_neg (by omega),if_neg (by omega),if_neg (by rintro (h | h) <;> first | omega | simp_all),if_neg (by omega),if_neg (by omega)]
       have hs:=fu hT.rs
       have hnr:=hT.nr
       have hna:=hT.na
       refine gy ?_;(iterate 3 refine qy ?_);refine ay rfl rfl rfl rfl rfl rfl a9x (avv t t.rows hok.1 hok.2.1 hok.2.2) (bs.refl _) trivial rfl rfl ?_;refine m9 3 ?_;refine s9 ?_;refine a6 ?_
       refine sx7 ?_;(iterate 4 refine qy ?_);refine rc rfl rfl rfl rfl rfl rfl at4 (c95 t.rows r.id _ hs (by omega)) (CoL.refl _) rfl rfl ?_;(iterate 5 refine qy ?_);refine a6 ?_;refine a7 ?_
       refine ax (E:=aq) ae ak [0,1,2,3,4,5,6,7,8] ?_;(iterate 4 refine qy ?_);refine rc rfl rfl rfl rfl rfl rfl xl (c98 r (by omega)) (CoL.refl _) rfl rfl ?_;refine m9 4 ?_
       refine ay rfl rfl rfl rfl rfl rfl asj (av0 t.rows.length (lbd t.rows r.id) 100 4 102 (lf Row.c t.rows) (lf Row.c [r]) rfl wq (by omega)) (bs.refl _) ⟨u9,⟨_,rfl,⟨fun h=>h,rfl,rfl,rfl,alp (lt2 (CoP.refl _) (CoP.refl _))⟩⟩,trivial⟩ rfl rfl ?_
       refine qy ?_;refine s9 ?_;refine a6 ?_;refine ⟨by kernel_rfl, ?_⟩;refine sx7 ?_;refine qy ?_;refine s9 ?_;refine qy ?_;refine a6 ?_;refine aw ?_;refine ⟨.inr rfl, ?_⟩
       rw [l6 hie,← ag2 hs (yg (by omega))]
       exact f9 rfl rfl (⟨CoC.agg ⟨CoP.refl _,CoP.refl _,CoP.sl (lw wq) (.inl rfl) (fun h=>h) (fun i j _ _=>aps wq i j),trivial⟩,cci hie.symm,trivial⟩)
end Go.Hx
end
section
namespace Go.Hx
open Go.Proofs Go.Lib Go.RowKit
set_option maxHeartbeats 4000000 in
set_option maxRecDepth 100000 in
theorem ab6 (k:Nat) (hk:0 < k) (hbig:k * 32 ≤ 140737488355328) (w:World) (ad:Option Addr) :
 Calls Tryz.prog 135 #[.slice ad 0 0, .int .i64 k] w fun e w'=>∃ G ROW,e = .returned (.slice (some ⟨w.heap.size,0,none⟩) 0 G) ∧ G ≤ maxLen ∧ w' = w.drew.alloc (.cells ROW 48) ∧ ROW.size = G * 2:=by
 obtain ⟨i0,z,hi0,hz0,hzs,hzb,hzc⟩:∃ i0 z,Tryz.prog.info? 48 = some i0 ∧ i0.zero = some z ∧ i0.size = 2 ∧ i0.bytes = 32 ∧ z.cells.size = 2:=by
  have h:(Tryz.prog.info? 48).map (fun i=>(i.zero.map (fun z=>z.cells.size),i.size,i.bytes)) = some (some 2,2,32):=by kernel_rfl
  cases hq:Tryz.prog.info? 48 with
  | none=>rw [hq] at h;cases h
  | some i0 =>
   rw [hq] at h
   cases hz:i0.zero with
   | none=>simp [hz] at h
   | some z=>simp [hz] at h;exact ⟨i0,z,rfl,hz,h.2.1,h.2.2,h.1⟩
 have hc:0 + k ≤ maxLen:=by unfold maxLen;omega
 have hold:(Builtin.firstCells i0.size 0 (.slice ad 0 0)).run Tryz.prog w.drew = .ok (([]:List Value)).toArray w.drew:=by
  cases ad with
  | none=>exact run_firstCells_none w.drew _ _ _ _
  | some a=>exact run_firstCells_some w.drew _ 0 a 0 0 [] (by simp) (fun j v hj=>by simp at hj)
 obtain ⟨G,hG⟩:∃ G,G = grownCap w (0 + k) 0 48:=⟨_,rfl⟩
 have hGn:0 + k ≤ G:=by rw [hG];exact grownCap_ge w _ _ _
 have hGm:G ≤ maxLen:=by rw [hG];exact grownCap_le_maxLen w (0 + k) 0 48 hc
 obtain ⟨ROW,hROW⟩:∃ ROW:Array Value,ROW = ([]:List Value).toArray ++ Builtin.zeroCells z.cells k ++ Builtin.zeroCells z.cells (G - (0 + k)):=⟨_,rfl⟩
 have hrz:(Builtin.append_ #[29,3] 29 #[.slice ad 0 0, .int .i64 (k:Int)]).run Tryz.prog w = .ok (.slice (some ⟨w.heap.size,0,none⟩) k G) (w.drew.alloc (.cells ROW 48)):=by
  have h:=Lib.run_append_grow_zeros w 29 3 29 48 i0 z .i64 .i64 Tryz.underlying29 Tryz.underlying3 hi0 hz0 ad 0 0 [] hold k hk (by omega) (by omega) (by unfold maxLen at hc;omega) (by rw [hzb];omega) (by rw [hzb,Nat.zero_add];exact growslice_fits (by omega) hbig)
  rw [← hG,← hROW] at h
  rw [h]
  simp
 have hRs:ROW.size = G * 2:=by
  rw [hROW]
  simp only [Array.size_append,List.size_toArray,List.length_nil,size_zeroCells,hzc]
  omega
 have mixed:=ak
 have hcM:G ≤ 9223372036854775807:=by unfold maxLen at hGm;omega
 have hk0:¬ ((k:Int) < 0):=by omega
 have hk1:(0:Int) < (k:Int):=by omega
 have hw1:IntKind.i64.wrap (k:Int) = (k:Int):=by rw [IntKind.wrap_i64];omega
 clear hG hROW hold
 rcases ad with _ | ⟨ab,ao,asp⟩
 all_goals go_enter Tryz.func135,Tryz.ntmps135
 all_goals go_wp2_with (at_builtin;refine Lib.wpList_append_run _ rfl _ _ _ _ rfl _ _ rfl rfl _ _ hrz ?_)
 all_goals go_ret
 all_goals first | exact ⟨G,ROW,rfl,hGm,rfl,hRs⟩ | exact ⟨G,rfl,hGm,ROW,rfl,hRs⟩
theorem aam (w:World) (ad:Option Addr):Calls Tryz.prog 135 #[.slice ad 0 0, .int .i64 0] w fun e w'=>e = .returned (.slice ad 0 0) ∧ w' = w:=by
 have mixed:=ak
 go_enter Tryz.func135,Tryz.ntmps135
 go_wp2
 go_ret
 exact ⟨rfl,rfl⟩
theorem aum (k a:Nat) (hk:k ≤ 68719476736) (F:Nat → Nat → PV) :
 ce Tryz.prog 135 [.one (.p (jx (.slice none 0 0))), .one (.p (.raw (.int .i64 k)))] [] (.v (.one (.ref a 0))) [(a, .arr true 2 48 0 F)] []:=by
 refine ak2 (by omega) fun w ad=>?_
 rcases Nat.eq_zero_or_pos k with rfl | hk0
 · refine (aam w ad).mono ?_
   rintro e w' ⟨rfl,rfl⟩
   exact ⟨_,rfl,Below.refl _ _, .inl rfl⟩
 · refine (ab6 k hk0 (by omega) w ad).mono ?_
   rintro e w' ⟨G,ROW,rfl,hG,rfl,hR⟩
   refine ⟨_,rfl,⟨rfl,rfl,rfl, ?_,fun q hq=>a41 w.drew _ hq,Nat.le_succ _⟩, .inr ⟨⟨by simp, .inr ⟨_,G,ROW,rfl,Nat.zero_le _,heap_alloc_new w.drew _,Nat.zero_le _,hG,hR,by simp⟩⟩,fun g hg=>?_⟩⟩
   · show _ ≤ (w.heap.push _).size
     rw [Array.size_push];omega
   · have:w.heap.size = g:=by simpa [br] using hg
     omega
end Go.Hx
end
section
namespace Go.Hx
open Go.Proofs
set_option maxRecDepth 100000
def rwC (l:List Row):Nat → PV
 | 0=>rows l
 | _=>.any
abbrev avn (ls:List (List Row)):PV:=psl 1 rwC ls
theorem aot:aj Tryz.prog 135:=⟨Tryz.f135,Tryz.func135,by kernel_rfl,by kernel_rfl⟩
theorem ajx {α:Type} [Inhabited α] {s n k':Nat} {k:Int} {cl:Bool} {c:α → Nat → PV} {l:List α} (hn:n = l.length) (h:k.toNat = k'):CoP (.sl (kb n (some k)) s cl (qj (lf c l) (some k))) (psl s c (l.drop k')):=by
 subst h hn;exact aov
theorem aoy:aj Tryz.prog 103:=⟨Tryz.f103,Tryz.func103,by kernel_rfl,by kernel_rfl⟩
theorem c99 (ls:List (List Row)) (h:ls.flatten.length ≤ 68719476736):ap Tryz.prog 103 [pP (avn ls)] (b4 [pP (rows ls.flatten)]):=by
 refine ah (nt:=36) ae Tryz.func103 rfl rfl l9 ?_;refine sx7 ?_;refine qy ?_;refine a6 ?_;refine sx7 ?_;refine qy ?_;refine a6 ?_;(iterate 2 refine a7 ?_);refine j0 0 rfl (fun hn=>?_)
 refine gy ?_;(iterate 3 refine qy ?_);refine a6 ?_;refine af ?_
 refine av (ι:=Nat) ⟨[(0,some _),(9,some _),(10,some _)],[]⟩ ⟨⟨c9,c9,c9,trivial⟩,trivial⟩ (fun i=>⟨[(3,some (vI (ls.take i).flatten.length)),(11,some (vI i))],[]⟩) (fun i=>i ≤ ls.length) (fun i=>ls.length - i) (0) (Nat.zero_le _) ⟨⟨zy,zy,trivial⟩,trivial⟩ ?_
 rintro i hi
 refine sx7 ?_;refine qy ?_;refine a6 ?_;refine a7 ?_;refine a8 _ rfl (fun r0=>?_) (fun r0=>?_)
 ·
  have h0:=of_decide_eq_true r0
  try simp only [ty] at h0
  have hts:(ls.take (i + 1)).flatten.length = (ls.take i).flatten.length + (ls.getD ((i:Nat):Int).toNat default).length:=by rw [tsf _ _ (by omega),List.length_append];rfl
  have hfl:(ls.take i).flatten.length + (ls.getD ((i:Nat):Int).toNat default).length ≤ ls.flatten.length:=a04 ls i (by omega)
  refine aa ?_;refine a7 ?_;refine af ?_;refine sx7 ?_;(iterate 3 refine qy ?_);refine a6 ?_;refine sx7 ?_;(iterate 5 refine qy ?_);refine a6 ?_;refine sx7 ?_;(iterate 2 refine qy ?_)
  refine a6 ?_;refine a8 _ rfl (fun r1=>?_) (fun r1=>?_)
  ·
   have h1:=of_decide_eq_true r1
   try simp only [ty] at h1
   exfalso
   omega
  ·
   have h1:=of_decide_eq_false r1
   try simp only [ty] at h1
   refine aa ?_;refine gy ?_;(iterate 2 refine qy ?_);refine a6 ?_;refine ⟨i + 1, ?_, ?_, ?_⟩
   · show i + 1 ≤ _
     omega
   · first | omega | (dsimp only;omega)
   · exact ⟨⟨zy,zy,c9,c9,c9,trivial⟩,trivial⟩
 ·
  have h0:=of_decide_eq_false r0
  try simp only [ty] at h0
  obtain rfl:i = ls.length:=by omega
  have hfe:(ls.take ls.length).flatten.length = ls.flatten.length:=by rw [List.take_length]
  refine au ?_;refine sx7 ?_;refine qy ?_;refine ay rfl rfl rfl rfl rfl rfl aot (aum (ls.take ls.length).flatten.length 100 (by omega) (lf Row.c [])) (bs.refl _) trivial rfl rfl ?_;refine qy ?_
  refine a6 ?_;refine a7 ?_;refine sx7 ?_;(iterate 3 refine qy ?_);refine a6 ?_;refine af ?_
  refine av (ι:=Nat) ⟨[(25,some _),(26,some _)],[]⟩ ⟨⟨c9,c9,trivial⟩,trivial⟩ (fun i=>⟨[(6,some (.v (.one (.ref 100 (ls.take i).flatten.length)))),(27,some (vI i))],[(100,some (.arr true 2 48 (ls.take i).flatten.length (lf Row.c (ls.take i).flatten)))]⟩) (fun i=>i ≤ ls.length) (fun i=>ls.length - i) (0) (Nat.zero_le _) ⟨⟨zy,zy,trivial⟩,⟨u9,trivial⟩⟩ ?_
  rintro i hi
  refine sx7 ?_;refine qy ?_;refine a6 ?_;refine a7 ?_;refine a8 _ rfl (fun r2=>?_) (fun r2=>?_)
  ·
   have h2:=of_decide_eq_true r2
   try simp only [ty] at h2
   have hts:(ls.take (i + 1)).flatten.length = (ls.take i).flatten.length + (ls.getD ((i:Nat):Int).toNat default).length:=by rw [tsf _ _ (by omega),List.length_append];rfl
   have hfl:(ls.take i).flatten.length + (ls.getD ((i:Nat):Int).toNat default).length ≤ ls.flatten.length:=a04 ls i (by omega)
   refine aa ?_;refine a7 ?_;refine af ?_;refine sx7 ?_;(iterate 3 refine qy ?_);refine a6 ?_;refine gy ?_;(iterate 2 refine qy ?_);refine ra 0 true rfl rfl rfl rfl rfl rfl ?_;refine qy ?_
   refine a6 ?_;refine gy ?_;(iterate 2 refine qy ?_);refine a6 ?_;refine ⟨i + 1, ?_, ?_, ?_⟩
   · show i + 1 ≤ _
     omega
   · first | omega | (dsimp only;omega)
   · exact ⟨⟨⟨_,rfl,(CoR.of_eq (by rw [hts]))⟩,zy,c9,c9,trivial⟩,⟨⟨_,rfl,(by rw [tsf _ _ (by omega)];exact ab1 _ (fun h=>h) rfl (fun i j hi hj=>CoP.refl _))⟩,trivial⟩⟩
  ·
   have h2:=of_decide_eq_false r2
   try simp only [ty] at h2
   obtain rfl:i = ls.length:=by omega
   refine au ?_;refine sx7 ?_;(iterate 2 refine qy ?_);refine a6 ?_;refine aw ?_;refine ⟨.inr rfl, ?_⟩
   rw [show ls.flatten = (ls.take ls.length).flatten by rw [List.take_length]]
   exact f9 rfl rfl (CoL.refl _)
theorem aq9:aj Tryz.prog 64:=⟨Tryz.f64,Tryz.func64,by kernel_rfl,by kernel_rfl⟩
theorem c71 (t:Tbl) (id:Int):ap Tryz.prog 64 [t.pc,pI id] (b4 [(ml t id).pc,pI (dq t id)]):=by
 refine ah (nt:=37) ae Tryz.func64 rfl rfl l9 ?_;refine sx7 ?_;refine m9 0 ?_;refine m9 1 ?_;refine qy ?_;refine a6 ?_;refine a7 ?_;refine sx7 ?_;refine qy ?_
 refine rc rfl rfl rfl rfl rfl rfl a44 (c88 _) (CoL.refl _) rfl rfl ?_;refine qy ?_;refine a6 ?_;refine sx7 ?_;(iterate 2 refine qy ?_);refine a6 ?_;refine a8 _ rfl (fun r0=>?_) (fun r0=>?_)
 ·
  have h0:=r0
  have h0:=of_decide_eq_false (be h0)
  try simp only [ty] at h0
  refine sx7 ?_;(iterate 2 refine qy ?_);refine s9 ?_;refine qy ?_;refine a6 ?_;refine aw ?_;refine ⟨.inr rfl, ?_⟩
  have he:dq t id = c6 t:=by unfold dq;rw [if_pos (by assumption)]
  rw [yo he (by first | assumption | omega | decide)]
  exact f9 rfl rfl (⟨CoC.agg ⟨CoP.refl _,bd,bd,trivial⟩,cci he.symm,trivial⟩)
 ·
  have h0:=r0
  have h0:=of_decide_eq_true (bf h0)
  try simp only [ty] at h0
  have hT:=ek.1 (show c6 t = 0 by simpa using h0)
  have hok:=hT.ok
  refine aa ?_;refine sx7 ?_;(iterate 2 refine qy ?_);refine rc rfl rfl rfl rfl rfl rfl zu (c68 _ _) (CoL.refl _) rfl rfl ?_;(iterate 5 refine qy ?_);refine a6 ?_;refine a7 ?_;refine sx7 ?_
  (iterate 2 refine qy ?_);refine a6 ?_;refine a8 _ rfl (fun r1=>?_) (fun r1=>?_)
  ·
   have h1:=r1
   have h1:=be h1
   have hfd:=of_decide_eq_false h1
   refine sx7 ?_;refine qy ?_;refine s9 ?_;refine qy ?_;refine a6 ?_;refine aw ?_;refine ⟨.inr rfl, ?_⟩
   have he:dq t id = 4:=by unfold dq;rw [if_neg (by omega),if_neg (by omega)]
   rw [yo he (by first | assumption | omega | decide)]
   exact f9 rfl rfl (⟨CoC.agg ⟨CoP.refl _,bd,bd,trivial⟩,cci he.symm,trivial⟩)
  ·
   have h1:=r1
   have h1:=bf h1
   have hfd:=of_decide_eq_true h1
   have hix:=zf hfd
   refine aa ?_;refine a7 ?_
   have he:dq t id = 0:=by unfold dq;rw [if_neg (by omega),if_pos (by assumption)]
   have hnr:=hT.nr
   have hll:([t.rows.take (max (az t.rows id) 0).toNat,t.rows.drop (max (az t.rows id) 0 + 1).toNat].flatten).length ≤ 68719476736:=by simp;omega
   refine ax (E:=aq) ae ak [0,1,2,3,4,5,6,7,8,9,10,11,12,13,14] ?_;(iterate 10 refine qy ?_);refine m9 2 ?_
   refine ay rfl rfl rfl rfl rfl rfl aoy (ap.eat (hcs:=[.one (.ref 2 2)]) (o1:=[(2, .arr true 1 29 2 (lf rwC [t.rows.take (max (az t.rows id) 0).toNat,t.rows.drop (max (az t.rows id) 0 + 1).toNat]))]) (c99 [t.rows.take (max (az t.rows id) 0).toNat,t.rows.drop (max (az t.rows id) 0 + 1).toNat] hll) rfl (by (repeat' apply And.intro) <;> first | trivial | rfl) (CoL.refl _)) (bs.refl _) ⟨⟨_,rfl,⟨fun h=>h,rfl,rfl,rfl,fun i j hi hj=>(by have hi:i < 2:=hi;have hj:j < 1:=hj;obtain rfl:j = 0:=(by omega);rcases (show i = 0 ∨ i = 1 by omega) with rfl | rfl;exact ajv rfl (by omega);exact ajx rfl rfl)⟩⟩,trivial⟩ rfl rfl ?_
   refine rc rfl rfl rfl rfl rfl rfl a9x (c94 t [t.rows.take (max (az t.rows id) 0).toNat,t.rows.drop (max (az t.rows id) 0 + 1).toNat].flatten hok.1 hll (fun j hj=>(hok.2.2:js t.rows).sub (fun x hx=>(by simp only [List.flatten_cons,List.flatten_nil,List.append_nil] at hx;exact (List.mem_append.1 hx).elim (fun h=>List.mem_of_mem_take h) (fun h=>List.mem_of_mem_drop h))) j hj)) (CoL.refl _) rfl rfl ?_
   refine s9 ?_;refine qy ?_;refine a6 ?_;refine ⟨by kernel_rfl, ?_⟩;refine aw ?_;refine ⟨.inr rfl, ?_⟩
   have hL:[t.rows.take (max (az t.rows id) 0).toNat,t.rows.drop (max (az t.rows id) 0 + 1).toNat].flatten = t.rows.eraseIdx (az t.rows id).toNat:=by rw [← abw,show (max (az t.rows id) 0).toNat = (az t.rows id).toNat from by omega,show (max (az t.rows id) 0 + 1).toNat = (az t.rows id).toNat + 1 from by omega];simp
   rw [nu he,← hL]
   exact f9 rfl rfl (⟨CoC.refl _,cci he.symm,trivial⟩)
end Go.Hx
end
section
namespace Go.Hx
open Go.Proofs Go.Lib Go.RowKit
universe u in
def awm (m i:Nat) (F G:Nat → Nat → PV):Nat → Nat → PV:=fun k j=>if k < i then F k j else if k < i + m then G (k - i) j else F (k - m) j
structure awc (w w':World) (T s:Nat) (own v:Value) (N:Nat) (xs:List Value):Prop where
 row:w'.ownsRow 0 T s v N xs
 bl:Below 0 w w'
 out:∀ g,g < w.heap.size → br own ≠ some g → w'.heap[g]? = w.heap[g]?
 at_:∀ g,br v = some g → w.heap.size ≤ g ∨ br own = some g
structure awj (c:Ctx) (w w':World) (T s a:Nat) (v:Value) (N:Nat) (ys:List Value):Prop where
 row:w'.ownsRow 0 T s v N ys
 bl:Below 0 w w'
 out:∀ g,g < w.heap.size → ¬ c.blk a g → w'.heap[g]? = w.heap[g]?
 at_:∀ g,br v = some g → w.heap.size ≤ g ∨ c.blk a g
end Go.Hx
end
