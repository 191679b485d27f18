/- A part of the proof: W15. -/
import Derived.Test.YtdcdbghdgjlhhaaGreatOx13
import Derived.Test.YtdcdbghdgjlhhaaGreatOx16
set_option linter.all false
namespace Go.Hx
section
open Go.Proofs Go.Lib Go.RowKit
set_option maxHeartbeats 4000000 in
set_option maxRecDepth 100000 in
theorem a75 (b n c i vb vc:Nat) (cur vcur:Array Value) (w:World) (hi:i < n) (hroom:n + 1 ≤ c) (hc:c ≤ maxLen) (hvb:vb ≠ b)
 (hb:w.heap[b]? = some (.cells cur 45 (0,0))) (hcur:cur.size = c * 2) (hv:w.heap[vb]? = some (.cells vcur 45 (0,0))) (hvs:vcur.size = vc * 2) (hvc:1 ≤ vc)
 (h1c:∀ v ∈ (cur.toList.take (n * 2)),v.oneCell' = true) (h1v:∀ v ∈ vcur.toList.take 2,v.oneCell' = true) :
 Calls Tryz.prog 97 #[.slice (some ⟨b,0,none⟩) n c, .int .i64 i, .slice (some ⟨vb,0,none⟩) 1 vc] w fun e w' =>
  e = .returned (.slice (some ⟨b,0,none⟩) (n + 1) c) ∧ ∃ A1:Array Value,w' = w.drew.setRow b A1 ∧ A1.size = cur.size ∧ A1.toList.take ((n + 1) * 2) = i7 (i * 2) (cur.toList.take (n * 2)) (vcur.toList.take 2):=by
 have hcM:c ≤ 9223372036854775807:=by unfold maxLen at hc;omega
 have hsz:(Tryz.prog.info? 45).map (·.size) = some 2:=by kernel_rfl
 have hz2:¬ ((i:Int) = (n:Int)):=by omega
 have hov:∀ o lb cb,(callFunc 108 #[.slice (some ⟨vb,0,none⟩) 1 vc, .slice (some ⟨b,o,none⟩) lb cb]).run Tryz.prog w = .ok (.value (.bool false)) w:=fun o lb cb=>by
  rw [run_callFunc_extern Tryz.func108 (by kernel_rfl) (by kernel_rfl) (by kernel_rfl) (e:=Extern.SlicesOverlaps.overlaps #[40,40] #[4]) (by kernel_rfl),
   Lib.run_overlaps_apart w 40 4 45 Tryz.underlying40 2 Tryz.sizeOf45 ⟨vb,0,none⟩ ⟨b,o,none⟩ 1 vc lb cb hvb 45 45 vcur.size cur.size (by simp [World.shape?,hv]) (by simp [World.shape?,hb]) (by omega) (by simp [World.frozen?,hv]) (by simp [World.frozen?,hv])]
  rfl
 have mixed:=ag
 have hw1:IntKind.i64.wrap ((i:Int) + 1) = (i:Int) + 1:=by rw [IntKind.wrap_i64];omega
 have hw2:IntKind.i64.wrap ((n:Int) + 1) = (n:Int) + 1:=by rw [IntKind.wrap_i64];omega
 have hb1:(0:Int) ≤ (i:Int) + 1:=by omega
 have hin:i ≤ n:=by omega
 have htn:((i:Int) + 1).toNat = i + 1:=by omega
 have hb2:¬ (c = i + 1):=by omega
 have hb3:(i:Int) ≤ (n:Int) + 1:=by omega
 have hb4:¬ (c = i):=by omega
 have hcl:cur.toList.length = c * 2:=by simpa using hcur
 obtain ⟨seg,hseg⟩:∃ seg,seg = (cur.toList.take (n * 2)).drop (i * 2):=⟨_,rfl⟩
 have hsl:seg.length = (n - i) * 2:=by rw [hseg,List.length_drop,List.length_take,hcl];omega
 obtain ⟨A0,hA0⟩:∃ A0:Array Value,A0 = (cur.toList.take ((i + 1) * 2) ++ seg ++ cur.toList.drop ((i + 1) * 2 + seg.length)).toArray:=⟨_,rfl⟩
 have hA0s:A0.size = cur.size:=by rw [hA0];simp [hsl,hcur];omega
 obtain ⟨vs,hvsd⟩:∃ vs,vs = vcur.toList.take 2:=⟨_,rfl⟩
 have hvl:vs.length = 2:=by rw [hvsd,List.length_take,Array.length_toList];omega
 have hcp1:∀ ty dc sc,(Builtin.copy_ #[40,40] ty #[.slice (some ⟨b,(i + 1) * 2,none⟩) (n - i) dc, .slice (some ⟨b,i * 2,none⟩) (n + 1 - i) sc]).run Tryz.prog w.drew = .ok (goInt ((n - i:Nat):Int)) (w.drew.setRow b A0):=fun ty dc sc=>by
  have h:=mf (P:=Tryz.prog) w.drew 40 40 ty 45 b ((i + 1) * 2) (n - i) dc ⟨b,i * 2,none⟩ (n + 1 - i) sc 2 cur 45 seg Tryz.underlying40 hsz hb (by rw [hsl];simp only [Nat.min_def];split <;> omega)
   (fun j v hj=>by
    rw [Addr.add_lit]
    rw [hseg,List.getElem?_drop,List.getElem?_take] at hj
    split at hj
    · show (w.cell? _) = _
      rw [World.cell?,hb]
      simpa using hj
    cases hj)
   (by rw [hsl,hcur];omega) (fun v hv=>h1c v (by rw [hseg] at hv;exact List.mem_of_mem_drop hv))
  rw [show Nat.min (n + 1 - i) (n - i) = n - i by simp only [Nat.min_def];split <;> omega,← hA0] at h
  exact h
 obtain ⟨A1,hA1d⟩:∃ A1:Array Value,A1 = (A0.toList.take (i * 2) ++ vs ++ A0.toList.drop (i * 2 + vs.length)).toArray:=⟨_,rfl⟩
 have hA1:A1.size = cur.size:=by rw [hA1d];simp [hvl,hA0s,hcur];omega
 have hA2:A1.toList.take ((n + 1) * 2) = i7 (i * 2) (cur.toList.take (n * 2)) vs:=by
  rw [hA1d,hA0]
  show (List.take (i * 2) _ ++ vs ++ List.drop (i * 2 + vs.length) _).take ((n + 1) * 2) = _
  rw [show (n + 1) * 2 = n * 2 + vs.length by rw [hvl];omega]
  exact acm (r:=(i + 1) * 2) (Nat.mul_le_mul_right _ (by omega)) (by omega) (by omega) (by rw [← hseg])
 have hcp2:∀ ty dc,(Builtin.copy_ #[40,40] ty #[.slice (some ⟨b,i * 2,none⟩) (n + 1 - i) dc, .slice (some ⟨vb,0,none⟩) 1 vc]).run Tryz.prog (w.drew.setRow b A0) = .ok (goInt 1) (w.drew.setRow b A1):=fun ty dc=>by
  have h:=mf (P:=Tryz.prog) (w.drew.setRow b A0) 40 40 ty 45 b (i * 2) (n + 1 - i) dc ⟨vb,0,none⟩ 1 vc 2 A0 45 vs Tryz.underlying40 hsz (setRow_heap _ _ _ _ _ _ hb) (by rw [hvl];simp only [Nat.min_def];split <;> omega)
   (fun j v hj=>by
    rw [Addr.add_lit]
    rw [hvsd,List.getElem?_take] at hj
    split at hj
    · rw [World.cell?,setRow_other _ _ _ _ hvb]
      show (match w.heap[vb]? with | some (.cells c _ _)=>_ | _=>_) = _
      rw [hv]
      simpa using hj
    cases hj)
   (by rw [hvl,hA0s,hcur];omega) (fun v hv=>h1v v (by rw [hvsd] at hv;exact hv))
  rw [show Nat.min 1 (n + 1 - i) = 1 by simp only [Nat.min_def];split <;> omega,← hA1d,setRow_setRow] at h
  exact h
 rw [← hvsd]
 clear hA0 hseg hvsd hA1d
 go_enter Tryz.func97,Tryz.ntmps97
 go_wp2_with (simp only [hov])
 go_region_law_o (refine step_copy_runI rfl _ _ 40 40 rfl _ _ (by simp [Act.eval,Act.put]) (by simp [Act.eval,Act.put]) (hcp1 _ _ _) ?_)
 go_wp2_with (at_builtin;refine wpList_copy_runI _ rfl _ _ 40 40 rfl _ _ rfl rfl (hcp2 _ _ _) ?_)
 go_ret
 exact ⟨rfl,_,rfl,hA1,hA2⟩
set_option maxHeartbeats 4000000 in
set_option maxRecDepth 100000 in
theorem a87 (b n c i vb vc:Nat) (cur vcur:Array Value) (w:World) (hi:i < n) (hnc:n ≤ c) (hroom:c < n + 1) (hbig:(n + 1) * 32 ≤ 140737488355328)
 (hb:w.heap[b]? = some (.cells cur 45 (0,0))) (hcur:cur.size = c * 2) (hv:w.heap[vb]? = some (.cells vcur 45 (0,0))) (hvs:vcur.size = vc * 2) (hvc:1 ≤ vc)
 (h1c:∀ v ∈ (cur.toList.take (n * 2)),v.oneCell' = true) (h1v:∀ v ∈ vcur.toList.take 2,v.oneCell' = true) :
 Calls Tryz.prog 97 #[.slice (some ⟨b,0,none⟩) n c, .int .i64 i, .slice (some ⟨vb,0,none⟩) 1 vc] w fun e w' =>
  ∃ G:Nat,∃ ROW A0 A1:Array Value,e = .returned (.slice (some ⟨w.heap.size,0,none⟩) (n + 1) G) ∧ n + 1 ≤ G ∧ G ≤ maxLen ∧
   w' = (((w.alloc (.cells ROW 45)).drew.setRow w.heap.size A0).drew).setRow w.heap.size A1 ∧ A1.size = G * 2 ∧ A1.toList.take ((n + 1) * 2) = i7 (i * 2) (cur.toList.take (n * 2)) (vcur.toList.take 2):=by
 have hc:n + 1 ≤ maxLen:=by unfold maxLen;omega
 have hcM:c ≤ 9223372036854775807:=by unfold maxLen at hc;omega
 obtain ⟨i0,z,hi0,hz0,hzs,hzb,hzc⟩:∃ i0 z,Tryz.prog.info? 45 = some i0 ∧ i0.zero = some z ∧ i0.size = 2 ∧ i0.bytes = 32 ∧ z.cells.size = 2:=by
  have h:(Tryz.prog.info? 45).map (fun i=>(i.zero.map (fun z=>z.cells.size),i.size,i.bytes)) = some (some 2,2,32):=by kernel_rfl
  cases hq:Tryz.prog.info? 45 with
  | none=>rw [hq] at h;cases h
  | some i0 =>
   rw [hq] at h
   cases hz:i0.zero with
   | none=>simp [hz] at h
   | some z=>simp [hz] at h;exact ⟨i0,z,rfl,hz,h.2.1,h.2.2,h.1⟩
 have hsz:(Tryz.prog.info? 45).map (·.size) = some 2:=by rw [hi0];simp [hzs]
 have hz2:¬ ((i:Int) = (n:Int)):=by omega
 have hz3:(c:Int) < (n:Int) + 1:=by omega
 have hbw:b < w.heap.size:=(Array.getElem?_eq_some_iff.1 hb).1
 have hvw:vb < w.heap.size:=(Array.getElem?_eq_some_iff.1 hv).1
 have hkk:(n:Int) + 1 - (i:Int) = ((n + 1 - i:Nat):Int):=by omega
 have hik:i + (n + 1 - i) = n + 1:=by omega
 have hcl:cur.toList.length = c * 2:=by simpa using hcur
 have hold:(Builtin.firstCells i0.size i (.slice (some ⟨b,0,none⟩) i c)).run Tryz.prog w.drew = .ok (cur.toList.take (i * 2)).toArray w.drew:=by
  rw [hzs]
  exact run_firstCells_some w.drew 2 i ⟨b,0,none⟩ i c (cur.toList.take (i * 2)) (by rw [List.length_take];omega) (fun j v hj=>by
   rw [Addr.add_lit]
   rw [List.getElem?_take] at hj
   split at hj
   · show (w.cell? _) = _
     rw [World.cell?,hb]
     simpa using hj
   cases hj)
 obtain ⟨G,hG⟩:∃ G,G = grownCap w (n + 1) c 45:=⟨_,rfl⟩
 obtain ⟨ROW,hROW⟩:∃ ROW:Array Value,ROW = (cur.toList.take (i * 2)).toArray ++ Builtin.zeroCells z.cells (n + 1 - i) ++ Builtin.zeroCells z.cells (G - (n + 1)):=⟨_,rfl⟩
 have hrz:∀ ty,(Builtin.append_ #[40,3] ty #[.slice (some ⟨b,0,none⟩) i c, .int .i64 ((n:Int) + 1 - (i:Int))]).run Tryz.prog w =
  .ok (.slice (some ⟨w.heap.size,0,none⟩) (n + 1) G) (w.drew.alloc (.cells ROW 45)):=fun ty=>by
  have h:=Lib.run_append_grow_zeros w 40 3 ty 45 i0 z .i64 .i64 Tryz.underlying40 Tryz.underlying3 hi0 hz0 (some ⟨b,0,none⟩) i c (cur.toList.take (i * 2)) hold (n + 1 - i) (by omega) (by omega) (by omega) (by unfold maxLen at hc;omega) (by rw [hzb];omega) (by rw [hzb,hik];exact growslice_fits hroom hbig)
  rw [hik,← hG,← hROW] at h
  rw [hkk]
  exact h
 have hGn:n + 1 ≤ G:=by rw [hG];exact grownCap_ge w _ _ _
 have hGm:G ≤ maxLen:=by rw [hG];exact grownCap_le_maxLen w (n + 1) c 45 hc
 have hG63:G ≤ 9223372036854775807:=by unfold maxLen at hGm;omega
 have hRs:ROW.size = G * 2:=by
  rw [hROW]
  simp only [Array.size_append,List.size_toArray,List.length_take,hcl,size_zeroCells,hzc]
  omega
 obtain ⟨vs,hvsd⟩:∃ vs,vs = vcur.toList.take 2:=⟨_,rfl⟩
 have hvl:vs.length = 2:=by rw [hvsd,List.length_take,Array.length_toList];omega
 obtain ⟨seg,hseg⟩:∃ seg,seg = (cur.toList.take (n * 2)).drop (i * 2):=⟨_,rfl⟩
 have hsl:seg.length = (n - i) * 2:=by rw [hseg,List.length_drop,List.length_take,hcl];omega
 obtain ⟨A0,hA0⟩:∃ A0:Array Value,A0 = (ROW.toList.take (i * 2) ++ vs ++ ROW.toList.drop (i * 2 + vs.length)).toArray:=⟨_,rfl⟩
 have hA0s:A0.size = G * 2:=by rw [hA0];simp [hvl,hRs];omega
 obtain ⟨A1,hA1d⟩:∃ A1:Array Value,A1 = (A0.toList.take ((i + 1) * 2) ++ seg ++ A0.toList.drop ((i + 1) * 2 + seg.length)).toArray:=⟨_,rfl⟩
 have hA1:A1.size = G * 2:=by rw [hA1d];simp [hsl,hA0s];omega
 have hA2:A1.toList.take ((n + 1) * 2) = i7 (i * 2) (cur.toList.take (n * 2)) vs:=by
  have hR:ROW.toList.take (i * 2) = cur.toList.take (i * 2):=by
   rw [hROW]
   simp only [Array.toList_append,List.append_assoc]
   rw [List.take_append_of_le_length (by simp [hcl];omega),List.take_take]
   congr 1;omega
  have hL:=ace (l:=cur.toList) (vs:=vs) (p:=i * 2) (q:=n * 2) (r:=(i + 1) * 2) (R:=ROW.toList) (A:=A0.toList) (Nat.mul_le_mul_right _ (by omega)) (by omega) (by omega) (by simp [hRs];omega) hR (by rw [hA0])
  rw [hA1d]
  show (List.take ((i + 1) * 2) _ ++ seg ++ List.drop _ _).take ((n + 1) * 2) = _
  rw [show (n + 1) * 2 = n * 2 + vs.length by rw [hvl];omega,hseg]
  exact hL
 have hcpA:∀ (W:World),W.heap[w.heap.size]? = some (.cells ROW 45 (0,0)) → W.heap[vb]? = some (.cells vcur 45 (0,0)) → ∀ ty dc,(Builtin.copy_ #[40,40] ty #[.slice (some ⟨w.heap.size,i * 2,none⟩) (n + 1 - i) dc, .slice (some ⟨vb,0,none⟩) 1 vc]).run Tryz.prog W = .ok (goInt 1) (W.setRow w.heap.size A0):=fun W hWc hWv ty dc=>by
  have h:=mf (P:=Tryz.prog) W 40 40 ty 45 w.heap.size (i * 2) (n + 1 - i) dc ⟨vb,0,none⟩ 1 vc 2 ROW 45 vs Tryz.underlying40 hsz hWc (by rw [hvl];simp only [Nat.min_def];split <;> omega)
   (fun j v hj=>by
    rw [Addr.add_lit]
    rw [hvsd,List.getElem?_take] at hj
    split at hj
    · rw [World.cell?,hWv]
      simpa using hj
    cases hj)
   (by rw [hvl,hRs];omega) (fun v hv=>h1v v (by rw [hvsd] at hv;exact hv))
  rw [show Nat.min 1 (n + 1 - i) = 1 by simp only [Nat.min_def];split <;> omega,← hA0] at h
  exact h
 have hcpB:∀ (W:World),W.heap[w.heap.size]? = some (.cells A0 45 (0,0)) → W.heap[b]? = some (.cells cur 45 (0,0)) → ∀ ty dc sc,(Builtin.copy_ #[40,40] ty #[.slice (some ⟨w.heap.size,(i + 1) * 2,none⟩) (n - i) dc, .slice (some ⟨b,i * 2,none⟩) (n - i) sc]).run Tryz.prog W = .ok (goInt ((n - i:Nat):Int)) (W.setRow w.heap.size A1):=fun W hWc hWb ty dc sc=>by
  have h:=mf (P:=Tryz.prog) W 40 40 ty 45 w.heap.size ((i + 1) * 2) (n - i) dc ⟨b,i * 2,none⟩ (n - i) sc 2 A0 45 seg Tryz.underlying40 hsz hWc (by rw [hsl];simp only [Nat.min_def];split <;> omega)
   (fun j v hj=>by
    rw [Addr.add_lit]
    rw [hseg,List.getElem?_drop,List.getElem?_take] at hj
    split at hj
    · rw [World.cell?,hWb]
      simpa using hj
    cases hj)
   (by rw [hsl,hA0s];omega) (fun v hv=>h1c v (by rw [hseg] at hv;exact List.mem_of_mem_drop hv))
  rw [show Nat.min (n - i) (n - i) = n - i by simp only [Nat.min_def];split <;> omega,← hA1d] at h
  exact h
 have mixed:=ag
 have hGi:¬ (G = i):=by omega
 have hGim:¬ (G = i + 1):=by omega
 have hci:¬ (c = i):=by omega
 have hw1:IntKind.i64.wrap ((i:Int) + 1) = (i:Int) + 1:=by rw [IntKind.wrap_i64];omega
 have hw2:IntKind.i64.wrap ((n:Int) + 1) = (n:Int) + 1:=by rw [IntKind.wrap_i64];omega
 have hw3:IntKind.i64.wrap ((n:Int) + 1 - (i:Int)) = (n:Int) + 1 - (i:Int):=by rw [IntKind.wrap_i64];omega
 have hb1:(0:Int) ≤ (i:Int) + 1:=by omega
 have hin:i ≤ n:=by omega
 have htn:((i:Int) + 1).toNat = i + 1:=by omega
 have hb3:(i:Int) ≤ (n:Int):=by omega
 have hE1:((w.alloc (.cells ROW 45)).drew).heap[w.heap.size]? = some (.cells ROW 45 (0,0)):=heap_alloc_new w _
 have hE2:((w.alloc (.cells ROW 45)).drew).heap[vb]? = some (.cells vcur 45 (0,0)):=(a1t w _ hvw).trans hv
 have hE3:(((w.alloc (.cells ROW 45)).drew.setRow w.heap.size A0).drew).heap[w.heap.size]? = some (.cells A0 45 (0,0)):=setRow_heap _ _ _ _ _ _ (heap_alloc_new w _)
 have hE4:(((w.alloc (.cells ROW 45)).drew.setRow w.heap.size A0).drew).heap[b]? = some (.cells cur 45 (0,0)):=(setRow_other (w.alloc (.cells ROW 45)).drew _ _ _ (by omega)).trans ((a1t w _ hbw).trans hb)
 have hB:=hcpB _ hE3 hE4
 have hA:=hcpA _ hE1 hE2
 rw [← hvsd]
 clear hkk hik hold hROW hG hRs hA0 hseg hvsd hA1d hA0s hsl hvl hcpA hcpB hE1 hE2 hE3 hE4
 go_enter Tryz.func97,Tryz.ntmps97
 go_wp2_with (first
  | (at_builtin;refine Lib.wpList_append_run _ rfl _ _ _ _ rfl _ _ rfl rfl _ _ (hrz _) ?_)
  | (at_builtin;refine wpList_copy_runI _ rfl _ _ 40 40 rfl _ _ rfl rfl (hA _ _) ?_))
 go_region_law_o (refine step_copy_runI rfl _ _ 40 40 rfl _ _ (by simp [Act.eval,Act.put]) (by simp [Act.eval,Act.put]) (hB _ _ _) ?_)
 go_wp2
 go_ret
 exact ⟨G,ROW,A0,A1,rfl,hGn,hGm,rfl,hA1,hA2⟩
theorem ah8 (n i:Nat) (hi:i < n) (hbig:(n + 1) * 32 ≤ 140737488355328) (w:World) (own vb:Value) (xs vs:List Value) (ho:w.ownsRow 0 45 2 own n xs) (hv:w.ownsRow 0 45 2 vb 1 vs)
 (hne:c3 own ≠ c3 vb) (h1:∀ x ∈ xs,x.oneCell' = true) (h2:∀ x ∈ vs,x.oneCell' = true) :
 Calls Tryz.prog 97 #[own, .int .i64 i,vb] w fun e w'=>∃ v,e = .returned v ∧ aaw w w' 45 2 own v n (i7 (i * 2) xs vs):=by
 obtain ⟨hxl,⟨_,h0⟩ | ⟨g,c,cur,rfl,_,hg,hnc,hcm,hcs,rfl⟩⟩:=ho
 · omega
 obtain ⟨hvl,⟨_,h0⟩ | ⟨g2,c2,cur2,rfl,_,hg2,hnc2,hcm2,hcs2,rfl⟩⟩:=hv
 · omega
 simp only [Nat.one_mul] at hvl h2 ⊢
 have hgl:g < w.heap.size:=(Array.getElem?_eq_some_iff.1 hg).1
 have hlen:(i7 (i * 2) (cur.toList.take (n * 2)) (cur2.toList.take 2)).length = (n + 1) * 2:=by
  rw [acq (by rw [hxl];exact Nat.mul_le_mul_right _ (by omega)),hxl,hvl];omega
 by_cases hroom:n + 1 ≤ c
 · refine (a75 g n c i g2 c2 cur cur2 w hi hroom hcm (fun h=>hne (by rw [h];rfl)) hg hcs hg2 hcs2 hnc2 h1 h2).mono ?_
   rintro e w' ⟨rfl,A1,rfl,ha,hb⟩
   refine ⟨_,rfl,⟨⟨hlen, .inr ⟨g,c,A1,rfl,Nat.zero_le _,setRow_heap _ _ _ _ _ _ hg,hroom,hcm,ha.trans hcs,hb⟩⟩,⟨rfl,rfl,rfl,by rw [setRow_size];exact Nat.le_refl _,fun k hk=>absurd hk (Nat.not_lt_zero k),Nat.le_succ _⟩,fun q hq hb=>?_,fun q hq=>.inr hq⟩⟩
   exact setRow_other w.drew _ _ _ (fun h=>hb (by rw [h];rfl))
 refine (a87 g n c i g2 c2 cur cur2 w hi hnc (by omega) hbig hg hcs hg2 hcs2 hnc2 h1 h2).mono ?_
 rintro e w' ⟨G,ROW,A0,A1,rfl,hn,hm,rfl,ha,hb⟩
 have e1:=setRow_heap ((w.alloc (.cells ROW 45)).drew) w.heap.size ROW A0 45 (0,0) (heap_alloc_new w _)
 refine ⟨_,rfl,⟨⟨hlen, .inr ⟨w.heap.size,G,A1,rfl,Nat.zero_le _,setRow_heap _ _ _ _ _ _ e1,hn,hm,ha,hb⟩⟩,⟨rfl,rfl,rfl, ?_,fun k hk=>absurd hk (Nat.not_lt_zero k),Nat.le_trans (Nat.le_succ _) (Nat.le_succ _)⟩,fun q hq hb=>?_,fun q hq=>.inl ?_⟩⟩
 · rw [setRow_size]
   show _ ≤ (((w.alloc _).drew.setRow _ _)).heap.size
   rw [setRow_size]
   show _ ≤ (w.heap.push _).size
   rw [Array.size_push];omega
 · exact (setRow_other _ _ _ _ (by omega)).trans ((setRow_other (w.alloc (.cells ROW 45)).drew _ _ _ (by omega)).trans (a1t w _ hq))
 have:w.heap.size = q:=by simpa [c3] using hq
 omega
theorem aij (n i a b r:Nat) (F G:Nat → Nat → PV) (hab:Nat.beq a b = false) (hi:i < n) (hn:n ≤ 68719476736) :
 br Tryz.prog 97 [.one (.ref a n), .one (.p (.raw (.int .i64 i))), .one (.ref b 1)] [(a, .arr true 2 45 n F),(b, .arr true 2 45 1 G)] (.v (.one (.ref r (n + 1)))) [(r, .arr true 2 45 (n + 1) (ud i F G))] [] :=
 acp hab hi (by unfold maxLen;omega) (fun w own vb xs vs h1 h2 h3 h4 h5=>ah8 n i hi (by omega) w own vb xs vs h1 h2 h3 h4 h5)
set_option maxHeartbeats 4000000 in
set_option maxRecDepth 100000 in
theorem ab4 (w w1:World) (n:Nat) (base:Option Addr) (c:Nat) (vb vc:Nat) (v':Value) (hnc:n ≤ c) (hc:c ≤ maxLen) (hnil:base = none → n = 0 ∧ c = 0)
 (hrun:(Builtin.append_ #[40,40] 40 #[.slice base n c, .slice (some ⟨vb,0,none⟩) 1 vc]).run Tryz.prog w = .ok v' w1) :
 Calls Tryz.prog 97 #[.slice base n c, .int .i64 n, .slice (some ⟨vb,0,none⟩) 1 vc] w fun e w'=>e = .returned v' ∧ w' = w1:=by
 have hcM:c ≤ 9223372036854775807:=by unfold maxLen at hc;omega
 have mixed:=ag
 cases base with
 | none =>
  obtain ⟨h0,h1⟩:=hnil rfl
  subst h0 h1
  clear hnil hnc hc hcM
  go_enter Tryz.func97,Tryz.ntmps97
  go_wp2_with (at_builtin;refine Lib.wpList_append_run _ rfl _ _ _ _ rfl _ _ rfl rfl _ _ hrun ?_)
  go_ret
  exact ⟨rfl,rfl⟩
 | some a =>
  obtain ⟨ab,ao,asp⟩:=a
  clear hnil hc
  go_enter Tryz.func97,Tryz.ntmps97
  go_wp2_with (at_builtin;refine Lib.wpList_append_run _ rfl _ _ _ _ rfl _ _ rfl rfl _ _ hrun ?_)
  all_goals (go_ret;exact ⟨rfl,rfl⟩)
theorem ai3 (n i a b r:Nat) (F G:Nat → Nat → PV) (hab:Nat.beq a b = false) (hi:i ≤ n) (hn:n ≤ 68719476736) :
 br Tryz.prog 97 [.one (.ref a n), .one (.p (.raw (.int .i64 i))), .one (.ref b 1)] [(a, .arr true 2 45 n F),(b, .arr true 2 45 1 G)] (.v (.one (.ref r (n + 1)))) [(r, .arr true 2 45 (n + 1) (ud i F G))] []:=by
 rcases Nat.lt_or_eq_of_le hi with hi | rfl
 · exact aij n i a b r F G hab hi hn
 obtain ⟨i0,z,hi0,hz0,hzs,hzb,hzc⟩:∃ i0 z,Tryz.prog.info? 45 = some i0 ∧ i0.zero = some z ∧ i0.size = 2 ∧ i0.bytes = 32 ∧ z.cells.size = 2:=by
  have h:(Tryz.prog.info? 45).map (fun i=>(i.zero.map (fun z=>z.cells.size),i.size,i.bytes)) = some (some 2,2,32):=by kernel_rfl
  cases hq:Tryz.prog.info? 45 with
  | none=>rw [hq] at h;cases h
  | some i0 =>
   rw [hq] at h
   cases hz:i0.zero with
   | none=>simp [hz] at h
   | some z=>simp [hz] at h;exact ⟨i0,z,rfl,hz,h.2.1,h.2.2,h.1⟩
 exact aau Tryz.underlying40 hi0 hz0 hzs hzb hzc hab (by omega) (by unfold maxLen;omega) (fun w w1 base c vb vc v' h1 h2 h3 h4=>ab4 w w1 i base c vb vc v' h1 h2 h3 h4)
end
end Go.Hx
