/- A part of the proof: Ji1 Jw10. -/
import Derived.Test.YteklilhbjjofbaaGreatDoorLb35
set_option linter.all false
set_option maxRecDepth 100000
set_option maxHeartbeats 1000000
namespace Go.Hx
section
open Go.Proofs Go.Lib Go.RowKit
set_option maxHeartbeats 4000000 in
set_option maxRecDepth 100000 in
def ad9 (b n c i vb vc:Nat) (cur vcur:Array Value) (w:World) (hi:i < n) (hroom:n + 1 <= c) (hc:c <= maxLen) (hvb:vb ≠ b)
 (hb:w.heap[b]? = some (.cells cur 85 (0,0))) (hcur:cur.size = c * 4) (hv:w.heap[vb]? = some (.cells vcur 85 (0,0))) (hvs:vcur.size = vc * 4) (hvc:1 <= vc)
 (h1c:∀ v ∈ (cur.toList.take (n * 4)),v.oneCell' = true) (h1v:∀ v ∈ vcur.toList.take 4,v.oneCell' = true) :
 Calls b62 42 #[.slice (some ⟨b,0,none⟩) n c, .int .i64 i, .slice (some ⟨vb,0,none⟩) 1 vc] w fun e w' =>
  e = .returned (.slice (some ⟨b,0,none⟩) (n + 1) c) /\ ∃ A1:Array Value,w' = w.drew.setRow b A1 /\ A1.size = cur.size /\ A1.toList.take ((n + 1) * 4) = gj (i * 4) (cur.toList.take (n * 4)) (vcur.toList.take 4):=by
 have hcM:c <= 9223372036854775807:=by unfold maxLen at hc;omega
 have hsz:(b62.info? 85).map (·.size) = some 4:=by kernel_rfl
 have hz2:¬ ((i:Int) = (n:Int)):=by omega
 have hov:∀ o lb cb,(callFunc 82 #[.slice (some ⟨vb,0,none⟩) 1 vc, .slice (some ⟨b,o,none⟩) lb cb]).run b62 w = .ok (.value (.bool false)) w:=fun o lb cb=>by
  rw [run_callFunc_extern Tryz.func82 (by kernel_rfl) (by kernel_rfl) (by kernel_rfl) (e:=Extern.SlicesOverlaps.overlaps #[46,46] #[4]) (by kernel_rfl),
   Lib.run_overlaps_apart w 46 4 85 Tryz.underlying46 4 Tryz.sizeOf85 ⟨vb,0,none⟩ ⟨b,o,none⟩ 1 vc lb cb hvb 85 85 vcur.size cur.size (by simp [World.shape?,hv]) (by simp [World.shape?,hb]) b5c (by simp [World.frozen?,hv]) (by simp [World.frozen?,hv])]
  rfl
 have mixed:=pz;have hw1:IntKind.i64.wrap ((i:Int) + 1) = (i:Int) + 1:=by rw [IntKind.wrap_i64];omega
 have hw2:IntKind.i64.wrap ((n:Int) + 1) = (n:Int) + 1:=by rw [IntKind.wrap_i64];omega
 have hb1:(0:Int) <= (i:Int) + 1:=by omega
 have hin:i <= n:=by omega
 have htn:((i:Int) + 1).toNat = i + 1:=by omega
 have hb2:¬ (c = i + 1):=by omega
 have hb3:(i:Int) <= (n:Int) + 1:=by omega
 have hb4:¬ (c = i):=by omega
 have hcl:cur.toList.length = c * 4:=by simpa using hcur
 obtain ⟨seg,hseg⟩:∃ seg,seg = (cur.toList.take (n * 4)).drop (i * 4):=⟨_,rfl⟩;have hsl:seg.length = (n - i) * 4:=by rw [hseg,b3q,b2g,hcl];omega
 obtain ⟨A0,hA0⟩:∃ A0:Array Value,A0 = (cur.toList.take ((i + 1) * 4) ++ seg ++ cur.toList.drop ((i + 1) * 4 + seg.length)).toArray:=⟨_,rfl⟩;have hA0s:A0.size = cur.size:=by rw [hA0];simp [hsl,hcur];omega
 obtain ⟨vs,hvsd⟩:∃ vs,vs = vcur.toList.take 4:=⟨_,rfl⟩;have hvl:vs.length = 4:=by rw [hvsd,b2g,b2w];omega
 have hcp1:∀ ty dc sc,(Builtin.copy_ #[46,46] ty #[.slice (some ⟨b,(i + 1) * 4,none⟩) (n - i) dc, .slice (some ⟨b,i * 4,none⟩) (n + 1 - i) sc]).run b62 w.drew = .ok (goInt ((n - i:Nat):Int)) (w.drew.setRow b A0):=fun ty dc sc=>by
  have h:=lx (P:=b62) w.drew 46 46 ty 85 b ((i + 1) * 4) (n - i) dc ⟨b,i * 4,none⟩ (n + 1 - i) sc 4 cur 85 seg Tryz.underlying46 hsz hb (by rw [hsl];simp only [b54];split <;> omega)
   (fun j v hj=>by
    rw [Addr.add_lit];rw [hseg,b42,b2o] at hj;split at hj
    · show (w.cell? _) = _
      rw [World.cell?,hb];simpa using hj
    cases hj)
   (by rw [hsl,hcur];omega) (fun v hv=>h1c v (by rw [hseg] at hv;exact b4t hv))
  rw [show Nat.min (n + 1 - i) (n - i) = n - i by simp only [b54];split <;> omega,<- hA0] at h;exact h
 obtain ⟨A1,hA1d⟩:∃ A1:Array Value,A1 = (A0.toList.take (i * 4) ++ vs ++ A0.toList.drop (i * 4 + vs.length)).toArray:=⟨_,rfl⟩;have hA1:A1.size = cur.size:=by rw [hA1d];simp [hvl,hA0s,hcur];omega
 have hA2:A1.toList.take ((n + 1) * 4) = gj (i * 4) (cur.toList.take (n * 4)) vs:=by
  rw [hA1d,hA0];show (List.take (i * 4) _ ++ vs ++ List.drop (i * 4 + vs.length) _).take ((n + 1) * 4) = _;rw [show (n + 1) * 4 = n * 4 + vs.length by rw [hvl];omega];exact ant (r:=(i + 1) * 4) (b2d _ b5c) b5c b5c (by rw [<- hseg])
 have hcp2:∀ ty dc,(Builtin.copy_ #[46,46] ty #[.slice (some ⟨b,i * 4,none⟩) (n + 1 - i) dc, .slice (some ⟨vb,0,none⟩) 1 vc]).run b62 (w.drew.setRow b A0) = .ok (goInt 1) (w.drew.setRow b A1):=fun ty dc=>by
  have h:=lx (P:=b62) (w.drew.setRow b A0) 46 46 ty 85 b (i * 4) (n + 1 - i) dc ⟨vb,0,none⟩ 1 vc 4 A0 85 vs Tryz.underlying46 hsz (setRow_heap _ _ _ _ _ _ hb) (by rw [hvl];simp only [b54];split <;> omega)
   (fun j v hj=>by
    rw [Addr.add_lit];rw [hvsd,b2o] at hj;split at hj
    · rw [World.cell?,setRow_other _ _ _ _ hvb]
      show (match w.heap[vb]? with | some (.cells c _ _)=>_ | _=>_) = _;rw [hv];simpa using hj
    cases hj)
   (by rw [hvl,hA0s,hcur];omega) (fun v hv=>h1v v (by rw [hvsd] at hv;exact hv))
  rw [show Nat.min 1 (n + 1 - i) = 1 by simp only [b54];split <;> omega,<- hA1d,setRow_setRow] at h;exact h
 rw [<- hvsd];clear hA0 hseg hvsd hA1d
 go_enter Tryz.func42,Tryz.ntmps42
 go_wp2_with (simp only [hov])
 go_region_law_o (refine step_copy_runI rfl _ _ 46 46 rfl _ _ (by simp [Act.eval,Act.put]) (by simp [Act.eval,Act.put]) (hcp1 _ _ _) ?_)
 go_wp2_with (at_builtin;refine wpList_copy_runI _ rfl _ _ 46 46 rfl _ _ rfl rfl (hcp2 _ _ _) ?_)
 go_ret
 exact ⟨rfl,_,rfl,hA1,hA2⟩
set_option maxHeartbeats 4000000 in
set_option maxRecDepth 100000 in
def ago (b n c i vb vc:Nat) (cur vcur:Array Value) (w:World) (hi:i < n) (hnc:n <= c) (hroom:c < n + 1) (hbig:(n + 1) * 32 <= 140737488355328)
 (hb:w.heap[b]? = some (.cells cur 85 (0,0))) (hcur:cur.size = c * 4) (hv:w.heap[vb]? = some (.cells vcur 85 (0,0))) (hvs:vcur.size = vc * 4) (hvc:1 <= vc)
 (h1c:∀ v ∈ (cur.toList.take (n * 4)),v.oneCell' = true) (h1v:∀ v ∈ vcur.toList.take 4,v.oneCell' = true) :
 Calls b62 42 #[.slice (some ⟨b,0,none⟩) n c, .int .i64 i, .slice (some ⟨vb,0,none⟩) 1 vc] w fun e w' =>
  ∃ G:Nat,∃ ROW A0 A1:Array Value,e = .returned (.slice (some ⟨w.heap.size,0,none⟩) (n + 1) G) /\ n + 1 <= G /\ G <= maxLen /\
   w' = (((w.alloc (.cells ROW 85)).drew.setRow w.heap.size A0).drew).setRow w.heap.size A1 /\ A1.size = G * 4 /\ A1.toList.take ((n + 1) * 4) = gj (i * 4) (cur.toList.take (n * 4)) (vcur.toList.take 4):=by
 have hc:n + 1 <= maxLen:=by unfold maxLen;omega
 have hcM:c <= 9223372036854775807:=by unfold maxLen at hc;omega
 obtain ⟨i0,z,hi0,hz0,hzs,hzb,hzc⟩:∃ i0 z,b62.info? 85 = some i0 /\ i0.zero = some z /\ i0.size = 4 /\ i0.bytes = 32 /\ z.cells.size = 4:=by
  have h:(b62.info? 85).map (fun i=>(i.zero.map (fun z=>z.cells.size),i.size,i.bytes)) = some (some 4,4,32):=by kernel_rfl
  cases hq:b62.info? 85 with
  | none=>rw [hq] at h;cases h
  | some i0 =>
   rw [hq] at h
   cases hz:i0.zero with
   | none=>simp [hz] at h
   | some z=>simp [hz] at h;exact ⟨i0,z,rfl,hz,h.2.1,h.2.2,h.1⟩
 have hsz:(b62.info? 85).map (·.size) = some 4:=by rw [hi0];simp [hzs]
 have hz2:¬ ((i:Int) = (n:Int)):=by omega
 have hz3:(c:Int) < (n:Int) + 1:=by omega
 have hbw:b < w.heap.size:=(b28.1 hb).1;have hvw:vb < w.heap.size:=(b28.1 hv).1;have hkk:(n:Int) + 1 - (i:Int) = ((n + 1 - i:Nat):Int):=by omega
 have hik:i + (n + 1 - i) = n + 1:=by omega
 have hcl:cur.toList.length = c * 4:=by simpa using hcur
 have hold:(Builtin.firstCells i0.size i (.slice (some ⟨b,0,none⟩) i c)).run b62 w.drew = .ok (cur.toList.take (i * 4)).toArray w.drew:=by
  rw [hzs]
  exact run_firstCells_some w.drew 4 i ⟨b,0,none⟩ i c (cur.toList.take (i * 4)) (by rw [b2g];omega) (fun j v hj=>by
   rw [Addr.add_lit];rw [b2o] at hj;split at hj
   · show (w.cell? _) = _
     rw [World.cell?,hb];simpa using hj
   cases hj)
 obtain ⟨G,hG⟩:∃ G,G = grownCap w (n + 1) c 85:=⟨_,rfl⟩;obtain ⟨ROW,hROW⟩:∃ ROW:Array Value,ROW = (cur.toList.take (i * 4)).toArray ++ Builtin.zeroCells z.cells (n + 1 - i) ++ Builtin.zeroCells z.cells (G - (n + 1)):=⟨_,rfl⟩
 have hrz:∀ ty,(Builtin.append_ #[46,3] ty #[.slice (some ⟨b,0,none⟩) i c, .int .i64 ((n:Int) + 1 - (i:Int))]).run b62 w =
  .ok (.slice (some ⟨w.heap.size,0,none⟩) (n + 1) G) (w.drew.alloc (.cells ROW 85)):=fun ty=>by
  have h:=Lib.run_append_grow_zeros w 46 3 ty 85 i0 z .i64 .i64 Tryz.underlying46 Tryz.underlying3 hi0 hz0 (some ⟨b,0,none⟩) i c (cur.toList.take (i * 4)) hold (n + 1 - i) b5c b5c b5c (by unfold maxLen at hc;omega) (by rw [hzb];omega) (by rw [hzb,hik];exact growslice_fits hroom hbig);rw [hik,<- hG,<- hROW] at h;rw [hkk];exact h
 have hGn:n + 1 <= G:=by rw [hG];exact grownCap_ge w _ _ _
 have hGm:G <= maxLen:=by rw [hG];exact grownCap_le_maxLen w (n + 1) c 85 hc
 have hG63:G <= 9223372036854775807:=by unfold maxLen at hGm;omega
 have hRs:ROW.size = G * 4:=by
  rw [hROW];simp only [b4j,b2z,b2g,hcl,size_zeroCells,hzc];omega
 obtain ⟨vs,hvsd⟩:∃ vs,vs = vcur.toList.take 4:=⟨_,rfl⟩;have hvl:vs.length = 4:=by rw [hvsd,b2g,b2w];omega
 obtain ⟨seg,hseg⟩:∃ seg,seg = (cur.toList.take (n * 4)).drop (i * 4):=⟨_,rfl⟩;have hsl:seg.length = (n - i) * 4:=by rw [hseg,b3q,b2g,hcl];omega
 obtain ⟨A0,hA0⟩:∃ A0:Array Value,A0 = (ROW.toList.take (i * 4) ++ vs ++ ROW.toList.drop (i * 4 + vs.length)).toArray:=⟨_,rfl⟩;have hA0s:A0.size = G * 4:=by rw [hA0];simp [hvl,hRs];omega
 obtain ⟨A1,hA1d⟩:∃ A1:Array Value,A1 = (A0.toList.take ((i + 1) * 4) ++ seg ++ A0.toList.drop ((i + 1) * 4 + seg.length)).toArray:=⟨_,rfl⟩;have hA1:A1.size = G * 4:=by rw [hA1d];simp [hsl,hA0s];omega
 have hA2:A1.toList.take ((n + 1) * 4) = gj (i * 4) (cur.toList.take (n * 4)) vs:=by
  have hR:ROW.toList.take (i * 4) = cur.toList.take (i * 4):=by
   rw [hROW];simp only [b4z,b3g];rw [b47 (by simp [hcl];omega),List.take_take];congr 1;omega
  have hL:=ani (l:=cur.toList) (vs:=vs) (p:=i * 4) (q:=n * 4) (r:=(i + 1) * 4) (R:=ROW.toList) (A:=A0.toList) (b2d _ b5c) b5c b5c (by simp [hRs];omega) hR (by rw [hA0]);rw [hA1d];show (List.take ((i + 1) * 4) _ ++ seg ++ List.drop _ _).take ((n + 1) * 4) = _;rw [show (n + 1) * 4 = n * 4 + vs.length by rw [hvl];omega,hseg];exact hL
 have hcpA:∀ (W:World),W.heap[w.heap.size]? = some (.cells ROW 85 (0,0)) -> W.heap[vb]? = some (.cells vcur 85 (0,0)) -> ∀ ty dc,(Builtin.copy_ #[46,46] ty #[.slice (some ⟨w.heap.size,i * 4,none⟩) (n + 1 - i) dc, .slice (some ⟨vb,0,none⟩) 1 vc]).run b62 W = .ok (goInt 1) (W.setRow w.heap.size A0):=fun W hWc hWv ty dc=>by
  have h:=lx (P:=b62) W 46 46 ty 85 w.heap.size (i * 4) (n + 1 - i) dc ⟨vb,0,none⟩ 1 vc 4 ROW 85 vs Tryz.underlying46 hsz hWc (by rw [hvl];simp only [b54];split <;> omega)
   (fun j v hj=>by
    rw [Addr.add_lit];rw [hvsd,b2o] at hj;split at hj
    · rw [World.cell?,hWv]
      simpa using hj
    cases hj)
   (by rw [hvl,hRs];omega) (fun v hv=>h1v v (by rw [hvsd] at hv;exact hv))
  rw [show Nat.min 1 (n + 1 - i) = 1 by simp only [b54];split <;> omega,<- hA0] at h;exact h
 have hcpB:∀ (W:World),W.heap[w.heap.size]? = some (.cells A0 85 (0,0)) -> W.heap[b]? = some (.cells cur 85 (0,0)) -> ∀ ty dc sc,(Builtin.copy_ #[46,46] ty #[.slice (some ⟨w.heap.size,(i + 1) * 4,none⟩) (n - i) dc, .slice (some ⟨b,i * 4,none⟩) (n - i) sc]).run b62 W = .ok (goInt ((n - i:Nat):Int)) (W.setRow w.heap.size A1):=fun W hWc hWb ty dc sc=>by
  have h:=lx (P:=b62) W 46 46 ty 85 w.heap.size ((i + 1) * 4) (n - i) dc ⟨b,i * 4,none⟩ (n - i) sc 4 A0 85 seg Tryz.underlying46 hsz hWc (by rw [hsl];simp only [b54];split <;> omega)
   (fun j v hj=>by
    rw [Addr.add_lit];rw [hseg,b42,b2o] at hj;split at hj
    · rw [World.cell?,hWb]
      simpa using hj
    cases hj)
   (by rw [hsl,hA0s];omega) (fun v hv=>h1c v (by rw [hseg] at hv;exact b4t hv))
  rw [show Nat.min (n - i) (n - i) = n - i by simp only [b54];split <;> omega,<- hA1d] at h;exact h
 have mixed:=pz;have hGi:¬ (G = i):=by omega
 have hGim:¬ (G = i + 1):=by omega
 have hci:¬ (c = i):=by omega
 have hw1:IntKind.i64.wrap ((i:Int) + 1) = (i:Int) + 1:=by rw [IntKind.wrap_i64];omega
 have hw2:IntKind.i64.wrap ((n:Int) + 1) = (n:Int) + 1:=by rw [IntKind.wrap_i64];omega
 have hw3:IntKind.i64.wrap ((n:Int) + 1 - (i:Int)) = (n:Int) + 1 - (i:Int):=by rw [IntKind.wrap_i64];omega
 have hb1:(0:Int) <= (i:Int) + 1:=by omega
 have hin:i <= n:=by omega
 have htn:((i:Int) + 1).toNat = i + 1:=by omega
 have hb3:(i:Int) <= (n:Int):=by omega
 have hE1:((w.alloc (.cells ROW 85)).drew).heap[w.heap.size]? = some (.cells ROW 85 (0,0)):=heap_alloc_new w _;have hE2:((w.alloc (.cells ROW 85)).drew).heap[vb]? = some (.cells vcur 85 (0,0)):=(abg w _ hvw).trans hv;have hE3:(((w.alloc (.cells ROW 85)).drew.setRow w.heap.size A0).drew).heap[w.heap.size]? = some (.cells A0 85 (0,0)):=setRow_heap _ _ _ _ _ _ (heap_alloc_new w _);have hE4:(((w.alloc (.cells ROW 85)).drew.setRow w.heap.size A0).drew).heap[b]? = some (.cells cur 85 (0,0)):=(setRow_other (w.alloc (.cells ROW 85)).drew _ _ _ b5c).trans ((abg w _ hbw).trans hb);have hB:=hcpB _ hE3 hE4;have hA:=hcpA _ hE1 hE2;rw [<- hvsd];clear hkk hik hold hROW hG hRs hA0 hseg hvsd hA1d hA0s hsl hvl hcpA hcpB hE1 hE2 hE3 hE4
 go_enter Tryz.func42,Tryz.ntmps42
 go_wp2_with (first
  | (at_builtin;refine Lib.wpList_append_run _ rfl _ _ _ _ rfl _ _ rfl rfl _ _ (hrz _) ?_)
  | (at_builtin;refine wpList_copy_runI _ rfl _ _ 46 46 rfl _ _ rfl rfl (hA _ _) ?_))
 go_region_law_o (refine step_copy_runI rfl _ _ 46 46 rfl _ _ (by simp [Act.eval,Act.put]) (by simp [Act.eval,Act.put]) (hB _ _ _) ?_)
 go_wp2
 go_ret
 exact ⟨G,ROW,A0,A1,rfl,hGn,hGm,rfl,hA1,hA2⟩
def ax5 (n i:Nat) (hi:i < n) (hbig:(n + 1) * 32 <= 140737488355328) (w:World) (own vb:Value) (xs vs:List Value) (ho:w.ownsRow 0 85 4 own n xs) (hv:w.ownsRow 0 85 4 vb 1 vs)
 (hne:b9 own ≠ b9 vb) (h1:∀ x ∈ xs,x.oneCell' = true) (h2:∀ x ∈ vs,x.oneCell' = true) :
 Calls b62 42 #[own, .int .i64 i,vb] w fun e w'=>∃ v,e = .returned v /\ aii w w' 85 4 own v n (gj (i * 4) xs vs):=by
 obtain ⟨hxl,⟨_,h0⟩ | ⟨g,c,cur,rfl,_,hg,hnc,hcm,hcs,rfl⟩⟩:=ho
 · omega
 obtain ⟨hvl,⟨_,h0⟩ | ⟨g2,c2,cur2,rfl,_,hg2,hnc2,hcm2,hcs2,rfl⟩⟩:=hv
 · omega
 simp only [Nat.one_mul] at hvl h2 ⊢;have hgl:g < w.heap.size:=(b28.1 hg).1
 have hlen:(gj (i * 4) (cur.toList.take (n * 4)) (cur2.toList.take 4)).length = (n + 1) * 4:=by
  rw [am6 (by rw [hxl];exact b2d _ b5c),hxl,hvl];omega
 by_cases hroom:n + 1 <= c
 · refine (ad9 g n c i g2 c2 cur cur2 w hi hroom hcm (fun h=>hne (by rw [h];rfl)) hg hcs hg2 hcs2 hnc2 h1 h2).mono ?_
   rintro e w' ⟨rfl,A1,rfl,ha,hb⟩;refine ⟨_,rfl,⟨⟨hlen, .inr ⟨g,c,A1,rfl,b2b _,setRow_heap _ _ _ _ _ _ hg,hroom,hcm,ha.trans hcs,hb⟩⟩,⟨rfl,rfl,rfl,by rw [setRow_size];exact b29 _,fun k hk=>absurd hk (b2c k),b49 _⟩,fun q hq hb=>?_,fun q hq=>.inr hq⟩⟩;exact setRow_other w.drew _ _ _ (fun h=>hb (by rw [h];rfl))
 refine (ago g n c i g2 c2 cur cur2 w hi hnc b5c hbig hg hcs hg2 hcs2 hnc2 h1 h2).mono ?_;rintro e w' ⟨G,ROW,A0,A1,rfl,hn,hm,rfl,ha,hb⟩;have e1:=setRow_heap ((w.alloc (.cells ROW 85)).drew) w.heap.size ROW A0 85 (0,0) (heap_alloc_new w _);refine ⟨_,rfl,⟨⟨hlen, .inr ⟨w.heap.size,G,A1,rfl,b2b _,setRow_heap _ _ _ _ _ _ e1,hn,hm,ha,hb⟩⟩,⟨rfl,rfl,rfl, ?_,fun k hk=>absurd hk (b2c k),b37 (b49 _) (b49 _)⟩,fun q hq hb=>?_,fun q hq=>.inl ?_⟩⟩
 · rw [setRow_size]
   show _ <= (((w.alloc _).drew.setRow _ _)).heap.size;rw [setRow_size];show _ <= (w.heap.push _).size;rw [Array.size_push];omega
 · exact (setRow_other _ _ _ _ b5c).trans ((setRow_other (w.alloc (.cells ROW 85)).drew _ _ _ b5c).trans (abg w _ hq))
 have:w.heap.size = q:=by simpa [b9] using hq
 omega
def azl (n i a b r:Nat) (F G:Nat -> Nat -> PV) (hab:Nat.beq a b = false) (hi:i < n) (hn:n <= 68719476736) :
 c4 b62 42 [.one (.ref a n), .one (.p (.raw (.int .i64 i))), .one (.ref b 1)] [(a, .arr true 4 85 n F),(b, .arr true 4 85 1 G)] (.v (.one (.ref r (n + 1)))) [(r, .arr true 4 85 (n + 1) (tj i F G))] [] :=
 amc hab hi (by unfold maxLen;omega) (fun w own vb xs vs h1 h2 h3 h4 h5=>ax5 n i hi b5c w own vb xs vs h1 h2 h3 h4 h5)
set_option maxHeartbeats 4000000 in
set_option maxRecDepth 100000 in
def aiv (w w1:World) (n:Nat) (base:Option Addr) (c:Nat) (vb vc:Nat) (v':Value) (hnc:n <= c) (hc:c <= maxLen) (hnil:base = none -> n = 0 /\ c = 0)
 (hrun:(Builtin.append_ #[46,46] 46 #[.slice base n c, .slice (some ⟨vb,0,none⟩) 1 vc]).run b62 w = .ok v' w1) :
 Calls b62 42 #[.slice base n c, .int .i64 n, .slice (some ⟨vb,0,none⟩) 1 vc] w fun e w'=>e = .returned v' /\ w' = w1:=by
 have hcM:c <= 9223372036854775807:=by unfold maxLen at hc;omega
 have mixed:=pz
 cases base with
 | none =>
  obtain ⟨h0,h1⟩:=hnil rfl;subst h0 h1;clear hnil hnc hc hcM
  go_enter Tryz.func42,Tryz.ntmps42
  go_wp2_with (at_builtin;refine Lib.wpList_append_run _ rfl _ _ _ _ rfl _ _ rfl rfl _ _ hrun ?_)
  go_ret
  exact ⟨rfl,rfl⟩
 | some a =>
  obtain ⟨ab,ao,asp⟩:=a;clear hnil hc
  go_enter Tryz.func42,Tryz.ntmps42
  go_wp2_with (at_builtin;refine Lib.wpList_append_run _ rfl _ _ _ _ rfl _ _ rfl rfl _ _ hrun ?_)
  all_goals (go_ret;exact ⟨rfl,rfl⟩)
def azd (n i a b r:Nat) (F G:Nat -> Nat -> PV) (hab:Nat.beq a b = false) (hi:i <= n) (hn:n <= 68719476736) :
 c4 b62 42 [.one (.ref a n), .one (.p (.raw (.int .i64 i))), .one (.ref b 1)] [(a, .arr true 4 85 n F),(b, .arr true 4 85 1 G)] (.v (.one (.ref r (n + 1)))) [(r, .arr true 4 85 (n + 1) (tj i F G))] []:=by
 rcases b4h hi with hi | rfl
 · exact azl n i a b r F G hab hi hn
 obtain ⟨i0,z,hi0,hz0,hzs,hzb,hzc⟩:∃ i0 z,b62.info? 85 = some i0 /\ i0.zero = some z /\ i0.size = 4 /\ i0.bytes = 32 /\ z.cells.size = 4:=by
  have h:(b62.info? 85).map (fun i=>(i.zero.map (fun z=>z.cells.size),i.size,i.bytes)) = some (some 4,4,32):=by kernel_rfl
  cases hq:b62.info? 85 with
  | none=>rw [hq] at h;cases h
  | some i0 =>
   rw [hq] at h
   cases hz:i0.zero with
   | none=>simp [hz] at h
   | some z=>simp [hz] at h;exact ⟨i0,z,rfl,hz,h.2.1,h.2.2,h.1⟩
 exact ajj Tryz.underlying46 hi0 hz0 hzs hzb hzc hab b5c (by unfold maxLen;omega) (fun w w1 base c vb vc v' h1 h2 h3 h4=>aiv w w1 i base c vb vc v' h1 h2 h3 h4)
end
section
open Go.Proofs
def afd (n:Nat) (c:Bool) (f:Nat -> Nat -> PV) (hn:n <= 4398046511104) :
 c4 b62 40 [.one (.p (.sl n 4 c f))] [] (.v (.one (.ref 0 n))) [(0, .arr true 4 85 n f)] []:=by
 refine hfx (nt:=8) Tryz.func40 ?_;refine sx7 ?_;refine bg true rfl rfl rfl rfl rfl trivial ?_;refine ck ?_;refine ww (ι:=Bool) (fun c=>⟨[(0,some (b5 (.sl n 4 c f)))],[]⟩) (fun _=>True) ?_ fun c _=>?_
 · rcases b3h n with hz | h0
   · subst hz
     refine hw_exact' 0 rfl fun ad cap hcap=>?_;refine sx7 ?_;(iterate 2 refine bg true rfl rfl rfl rfl rfl trivial ?_);refine ck ?_;refine al ad.isNone rfl (fun hc=>?_) (fun hc=>?_)
     · refine sx7 ?_
       refine bg true rfl rfl rfl rfl rfl trivial ?_;refine ck ?_;refine fe 2 0 true 4 85 f b5i rfl (CoP.sl rfl (.inr rfl) (fun h=>h) fun i j hi _=>absurd hi (b2c i)) (.inr rfl) rfl ?_;refine hrr ?_;exact ⟨_,_,rfl,trivial,CoR.refl _,uu⟩
     refine da ?_;exact ⟨false,trivial,⟨⟨_,rfl,CoP.raw_sl hcap⟩,trivial⟩,trivial⟩
   refine sx7 ?_;refine bg true rfl rfl rfl rfl rfl trivial ?_;refine bg true rfl rfl rfl rfl rfl h0 ?_;refine ck ?_;refine al false rfl (fun hc=>by cases hc) (fun hc=>?_);refine da ?_;exact ⟨c,trivial,tt,trivial⟩
 refine sx7 ?_;refine se 0 rfl rfl rfl rfl rfl rfl trivial ?_;refine bg true rfl rfl rfl rfl rfl trivial ?_;refine wa 0 true rfl rfl rfl rfl rfl rfl ⟨trivial,rfl,rfl,rfl, .inl rfl,by show 0 + n <= 9223372036854775807;omega,by show (0 + n) * 32 <= 140737488355328;omega,fun _=>.inl rfl⟩ ?_;refine bg true rfl rfl rfl rfl rfl trivial ?_;refine ck ?_;refine hrr ?_;refine ⟨_,_,rfl,trivial,CoR.of_eq (by show HR.v (.one (.ref 0 (0 + n))) = _;rw [b2r]),⟨⟨_,rfl, ?_⟩,trivial⟩⟩;exact ⟨fun h=>h,rfl,rfl,(b2r n).symm,fun i j _ _=>CoP.of_eq (by simp [d6])⟩
def am7 (n:Nat) (c:Bool) (f:Nat -> Nat -> PV) (hn:n <= 4398046511104):a8 b62 40 [.one (.sl n 4 c f)] (.v (.one (.sl n 4 false f))) :=
 c4.pure (args:=[.one (.sl n 4 c f)]) (l:=[.one (.ref 0 n)]) (afd n c f hn) rfl ⟨rfl,trivial⟩
def avl (l:List RSt) (k:Nat) (hk:k < l.length):c4 b62 41 [.one (.ref 900 l.length), .one (.p (.raw (.int .i64 (k:Int)))), .one (.p (.raw (.int .i64 ((k:Int) + 1))))] [(900, .arr true 4 85 l.length (lf RSt.c l))] (.v (.one (.ref 903 (l.length - 1)))) [(903, .arr true 4 85 (l.length - 1) (lf RSt.c (l.eraseIdx k)))] []:=by
 refine hfx (nt:=33) Tryz.func41 ?_;refine c7 ?_;refine ag8 900 rfl fun hlen=>?_;refine a2k ?_;refine hcd (fun h0=>?_) (fun h0=>?_)
 · exfalso;omega
 refine ml ?_;refine r9 0 true ?_;refine dm ?_;refine r9 1 true ?_;refine w_6 ?_;refine alx 6 903 rfl rfl rfl rfl (by first | omega | (simp only [f0,bd];omega)) rfl ?_;refine hrr ?_;exact ⟨_,_,rfl,b5e,CoR.of_eq (by show HR.v (.one (.ref 903 _)) = _;congr 3;first | omega | (simp only [f0,bd];omega)),⟨⟨_,rfl,(by dsimp only [f0,bd];exact asm hk b5c (by rw [b3t,if_pos hk]) b5c b5c b5c b5c)⟩,trivial⟩⟩
def aub (d:Rcp) (sts:List RSt) (c0 c1 c2:BitVec 8) (hf:d.f.length <= 16777216) (hm:d.m.length <= 16777216) (hp:d.p.length <= 16777216):a8 b62 10 [d.pc,pP (xg sts), .agg [.raw (.int .u8 (c0.toNat:Int)), .raw (.int .u8 (c1.toNat:Int)), .raw (.int .u8 (c2.toNat:Int))]] (ah [pB true]):=by
 refine hpx (nt:=139) Tryz.func10 ?_;have hc0:=c0.isLt;have hc1:=c1.isLt;have hc2:=c2.isLt;refine sx7 ?_;refine m9 0 ?_;refine m9 1 ?_;refine w_5 ?_;refine qcx (wgx Tryz.func15) (ayl d hf hm hp) ?_;refine ml ?_;refine qcx a5b (xk) ?_;refine w_2 ?_;refine ag rfl rfl (fun r0=>?_) (fun r0=>?_)
 ·
  have h0:=dq r0;(iterate 2 refine k9 (gtf r0) ?_);refine w_2 ?_;(iterate 3 refine k9 rfl ?_);refine w_5 ?_;refine qcx a5b (xk) ?_;refine w_2 ?_
  exact hx8 rfl rfl rfl (CoL.refl _)
 have h0:=dt r0;(iterate 2 refine qy ?_ (hg:=(gff r0)));refine w_2 ?_;refine ag rfl rfl (fun r1=>?_) (fun r1=>?_)
 ·
  have h1:=dq (af r0 r1);(iterate 3 refine k9 (gtf r1) ?_);refine w_5 ?_;refine qcx a5b (xk) ?_;refine w_2 ?_
  exact hx8 rfl rfl rfl (CoL.refl _)
 have h1:=dt (af r0 r1);(iterate 3 refine qy ?_ (hg:=(gff r1)));refine w_2 ?_;refine al _ rfl (fun r2=>?_) (fun r2=>?_)
 · have h2:=tz1 (af r1 r2);refine sx7 ?_;refine qcx a5b (xk) ?_;refine v_2 ?_;exact CoL.refl _
 have h2:=tz2 (af r1 r2);have hok:d.f.length <= 4 /\ d.m.length <= 4 /\ d.p.length <= 3:=by simp_all
 have hfl:(d.fs 5).length <= 4:=by unfold Rcp.fs;rw [b33];exact hok.1
 have hml:(d.ms 5).length <= 4:=by unfold Rcp.ms;rw [b33];exact hok.2.1
 have hpl:(d.ps 5).length <= 3:=by unfold Rcp.ps;rw [b33];exact hok.2.2
 have hst:sts.length <= 20:=by simp_all;omega
 have hrl:((prS (d.num 5) (c6 (d.num 5) (d.ps 5)) (d.fs 5) (d.ms 5)).map St.r).length <= 1300000:=by rw [b33];exact api
 refine w_5 ?_;refine qcx (wgx Tryz.func16) (avo (d.num 5) (d.ps 5) b5c) ?_;refine w_7 ?_;refine a4l (ka 7 (ka 8 (ka 9 (ka 10 kn)))) km ⟨[(12,some (vP (xg (nf sts ((prS (d.num 5) (c6 (d.num 5) (d.ps 5)) (d.fs 5) (d.ms 5)).map St.r) (prC (d.num 5) (c6 (d.num 5) (d.ps 5)) (d.fs 5) (d.ms 5)) c0.toNat c1.toNat c2.toNat))))],[]⟩ ?_ ?_
 ·
  refine atu ?_;refine w_6 ?_;refine qcx (wgx Tryz.func22) (af8 (d.num 5) (c6 (d.num 5) (d.ps 5)) (d.fs 5) (d.ms 5)) ?_;refine dn ?_;refine ag rfl rfl (fun r3=>?_) (fun r3=>?_)
  ·
   have h3:=tz1 r3;(iterate 4 refine qy ?_ (hg:=(gtt r3)));refine w_2 ?_;refine al _ rfl (fun r4=>?_) (fun r4=>?_)
   ·
    have h4:=tz1 (cn r3 r4);refine w_3 ?_;refine fl rfl rfl rfl rfl rfl rfl (wgx Tryz.func40) ((afd ((prS (d.num 5) (c6 (d.num 5) (d.ps 5)) (d.fs 5) (d.ms 5)).map St.r).length false (lf RSt.c ((prS (d.num 5) (c6 (d.num 5) (d.ps 5)) (d.fs 5) (d.ms 5)).map St.r)) b5c).swap 0 904) (⟨aez,trivial⟩) trivial rfl rfl ?_;refine ml ?_;refine hcd (fun h5=>?_) (fun h5=>?_)
    ·
     have hk1:=a5y (r:=((prS (d.num 5) (c6 (d.num 5) (d.ps 5)) (d.fs 5) (d.ms 5)).map St.r)) (b:=c1.toNat) h5;have hk2:=a5y (r:=((prS (d.num 5) (c6 (d.num 5) (d.ps 5)) (d.fs 5) (d.ms 5)).map St.r)) (b:=c2.toNat) h5;have hi1:=w3 (r:=((prS (d.num 5) (c6 (d.num 5) (d.ps 5)) (d.fs 5) (d.ms 5)).map St.r)) (b:=c1.toNat);have hi2:=w3 (r:=((prS (d.num 5) (c6 (d.num 5) (d.ps 5)) (d.fs 5) (d.ms 5)).map St.r)) (b:=c2.toNat);refine ah5 ?_;refine hcd (fun h6=>?_) (fun h6=>?_)
     ·
      refine w_8 ?_;refine rq rfl rfl rfl rfl rfl ?_ (hp:=⟨rfl,rfl,by omega,by omega⟩);refine rq rfl rfl rfl rfl rfl ?_ (hp:=⟨⟨rfl,by omega⟩,trivial⟩);refine rs rfl rfl rfl rfl rfl ?_ (hp:=⟨rfl,by omega,b27 rfl⟩);refine ck ?_;show HE _ _ _
      first | refine jd 12 rfl rfl rfl ?_ | skip
      refine n4 ?_;exact ⟨⟨⟨_,rfl,(by unfold nf;first | (rw [if_neg b5h];exact CoR.refl _) | (rw [if_pos b5h];unfold xi;first | (rw [if_neg b5d];exact CoR.refl _) | (rw [if_pos b5d];first | (rw [if_pos b5d];exact CoC.one (pg hk1 kf rfl rfl)) | (rw [if_neg b5d];first | (rw [if_pos b5d];exact CoC.one (xa (by rw [b3t,if_pos hk1]))) | (rw [if_neg b5d];first | (rw [if_pos b5d];exact CoC.one (oe b5c)) | (rw [if_neg b5d];exact CoR.refl _))))))⟩,tt⟩,trivial⟩
     refine w_5 ?_;refine hcd (fun h7=>?_) (fun h7=>?_)
     ·
      refine w_4 ?_;refine qy ?_ (hp:=(by simp only [inR,ss,xh];omega));refine fl rfl rfl rfl rfl rfl rfl (wgx Tryz.func41) ((avl ((prS (d.num 5) (c6 (d.num 5) (d.ps 5)) (d.fs 5) (d.ms 5)).map St.r) (vm ((prS (d.num 5) (c6 (d.num 5) (d.ps 5)) (d.fs 5) (d.ms 5)).map St.r) c1.toNat) hk1).swap 900 904) (⟨th.refl _,CoP.of_eq (by show PV.raw (.int .i64 _) = PV.raw (.int .i64 _);rw [w3]),CoP.of_eq (by show PV.raw (.int .i64 _) = PV.raw (.int .i64 _);rw [w3]),trivial⟩) uu rfl rfl ?_;refine w_2 ?_;show HE _ _ _
      first | refine jd 12 rfl rfl rfl ?_ | skip
      refine n4 ?_;exact ⟨⟨⟨_,rfl,(by unfold nf;first | (rw [if_neg b5h];exact CoR.refl _) | (rw [if_pos b5h];unfold xi;first | (rw [if_neg b5d];exact CoR.refl _) | (rw [if_pos b5d];first | (rw [if_pos b5d];exact CoC.one (pg hk1 kf rfl rfl)) | (rw [if_neg b5d];first | (rw [if_pos b5d];exact CoC.one (xa (by rw [b3t,if_pos hk1]))) | (rw [if_neg b5d];first | (rw [if_pos b5d];exact CoC.one (oe b5c)) | (rw [if_neg b5d];exact CoR.refl _))))))⟩,tt⟩,trivial⟩
     refine w_5 ?_;refine hcd (fun h8=>?_) (fun h8=>?_)
     ·
      refine dm ?_;refine rq rfl rfl rfl rfl rfl ?_ (hp:=⟨rfl,rfl,by omega,by omega⟩);refine rq rfl rfl rfl rfl rfl ?_ (hp:=⟨⟨rfl,by omega⟩,b27 rfl⟩);refine m9 2 ?_;refine fl rfl rfl rfl rfl rfl rfl (wgx Tryz.func42) (azd ((prS (d.num 5) (c6 (d.num 5) (d.ps 5)) (d.fs 5) (d.ms 5)).map St.r).length (vm ((prS (d.num 5) (c6 (d.num 5) (d.ps 5)) (d.fs 5) (d.ms 5)).map St.r) c1.toNat) 904 2 903 (lf RSt.c ((prS (d.num 5) (c6 (d.num 5) (d.ps 5)) (d.fs 5) (d.ms 5)).map St.r)) (lf RSt.c [(((prS (d.num 5) (c6 (d.num 5) (d.ps 5)) (d.fs 5) (d.ms 5)).map St.r).getD (vm ((prS (d.num 5) (c6 (d.num 5) (d.ps 5)) (d.fs 5) (d.ms 5)).map St.r) c2.toNat) default)]) rfl b5c b5c) (⟨th.refl _,CoP.of_eq (by show PV.raw (.int .i64 _) = PV.raw (.int .i64 _);rw [w3]),th.refl _,trivial⟩) ⟨u9,⟨_,rfl,⟨fun h=>h,rfl,rfl,rfl,ayj (azt (a97 kf) (a97 kf) (a97 kf) (a97 kf))⟩⟩,trivial⟩ rfl rfl ?_;refine w_2 ?_;show HE _ _ _
      first | refine jd 12 rfl rfl rfl ?_ | skip
      refine n4 ?_;exact ⟨⟨⟨_,rfl,(by unfold nf;first | (rw [if_neg b5h];exact CoR.refl _) | (rw [if_pos b5h];unfold xi;first | (rw [if_neg b5d];exact CoR.refl _) | (rw [if_pos b5d];first | (rw [if_pos b5d];exact CoC.one (pg hk1 kf rfl rfl)) | (rw [if_neg b5d];first | (rw [if_pos b5d];exact CoC.one (xa (by rw [b3t,if_pos hk1]))) | (rw [if_neg b5d];first | (rw [if_pos b5d];exact CoC.one (oe b5c)) | (rw [if_neg b5d];exact CoR.refl _))))))⟩,tt⟩,trivial⟩
     refine da ?_;show HE _ _ _
     first | refine jd 12 rfl rfl rfl ?_ | skip
     refine n4 ?_;exact ⟨⟨⟨_,rfl,(by unfold nf;first | (rw [if_neg b5h];exact CoR.refl _) | (rw [if_pos b5h];unfold xi;first | (rw [if_neg b5d];exact CoR.refl _) | (rw [if_pos b5d];first | (rw [if_pos b5d];exact CoC.one (pg hk1 kf rfl rfl)) | (rw [if_neg b5d];first | (rw [if_pos b5d];exact CoC.one (xa (by rw [b3t,if_pos hk1]))) | (rw [if_neg b5d];first | (rw [if_pos b5d];exact CoC.one (oe b5c)) | (rw [if_neg b5d];exact CoR.refl _))))))⟩,tt⟩,trivial⟩
    refine da ?_;show HE _ _ _
    first | refine jd 12 rfl rfl rfl ?_ | skip
    refine n4 ?_;exact ⟨⟨⟨_,rfl,(by unfold nf;first | (rw [if_neg b5h];exact CoR.refl _) | (rw [if_pos b5h];unfold xi;first | (rw [if_neg b5d];exact CoR.refl _) | (rw [if_pos b5d];first | (rw [if_pos b5d];exact CoC.one (pg hk1 kf rfl rfl)) | (rw [if_neg b5d];first | (rw [if_pos b5d];exact CoC.one (xa (by rw [b3t,if_pos hk1]))) | (rw [if_neg b5d];first | (rw [if_pos b5d];exact CoC.one (oe b5c)) | (rw [if_neg b5d];exact CoR.refl _))))))⟩,tt⟩,trivial⟩
   have h4:=tz2 (cn r3 r4);refine da ?_;show HE _ _ _
   first | refine jd 12 rfl rfl rfl ?_ | skip
   refine n4 ?_;exact ⟨⟨⟨_,rfl,(by unfold nf;first | (rw [if_neg b5h];exact CoR.refl _) | (rw [if_pos b5h];unfold xi;first | (rw [if_neg b5d];exact CoR.refl _) | (rw [if_pos b5d];first | (rw [if_pos b5d];exact CoC.one (pg hk1 kf rfl rfl)) | (rw [if_neg b5d];first | (rw [if_pos b5d];exact CoC.one (xa (by rw [b3t,if_pos hk1]))) | (rw [if_neg b5d];first | (rw [if_pos b5d];exact CoC.one (oe b5c)) | (rw [if_neg b5d];exact CoR.refl _))))))⟩,tt⟩,trivial⟩
  have h3:=tz2 r3;(iterate 4 refine k9 (gft r3) ?_);refine w_4 ?_
  show HE _ _ _
  first | refine jd 12 rfl rfl rfl ?_ | skip
  refine n4 ?_;exact ⟨⟨⟨_,rfl,(by unfold nf;first | (rw [if_neg b5h];exact CoR.refl _) | (rw [if_pos b5h];unfold xi;first | (rw [if_neg b5d];exact CoR.refl _) | (rw [if_pos b5d];first | (rw [if_pos b5d];exact CoC.one (pg hk1 kf rfl rfl)) | (rw [if_neg b5d];first | (rw [if_pos b5d];exact CoC.one (xa (by rw [b3t,if_pos hk1]))) | (rw [if_neg b5d];first | (rw [if_pos b5d];exact CoC.one (oe b5c)) | (rw [if_neg b5d];exact CoR.refl _))))))⟩,tt⟩,trivial⟩
 refine w_7 ?_;refine qcx (wgx Tryz.func40) (am7 (nf sts ((prS (d.num 5) (c6 (d.num 5) (d.ps 5)) (d.fs 5) (d.ms 5)).map St.r) (prC (d.num 5) (c6 (d.num 5) (d.ps 5)) (d.fs 5) (d.ms 5)) c0.toNat c1.toNat c2.toNat).length false (lf RSt.c (nf sts ((prS (d.num 5) (c6 (d.num 5) (d.ps 5)) (d.fs 5) (d.ms 5)).map St.r) (prC (d.num 5) (c6 (d.num 5) (d.ps 5)) (d.fs 5) (d.ms 5)) c0.toNat c1.toNat c2.toNat)) (by have:=ao4 (sts:=sts) (r:=((prS (d.num 5) (c6 (d.num 5) (d.ps 5)) (d.fs 5) (d.ms 5)).map St.r)) (e:=prC (d.num 5) (c6 (d.num 5) (d.ps 5)) (d.fs 5) (d.ms 5)) (b0:=c0.toNat) (b1:=c1.toNat) (b2:=c2.toNat);omega)) ?_;refine qcx (wgx Tryz.func24) (aep (d.num 5) (c6 (d.num 5) (d.ps 5)) (d.fs 5) (d.ms 5) (nf sts ((prS (d.num 5) (c6 (d.num 5) (d.ps 5)) (d.fs 5) (d.ms 5)).map St.r) (prC (d.num 5) (c6 (d.num 5) (d.ps 5)) (d.fs 5) (d.ms 5)) c0.toNat c1.toNat c2.toNat)) ?_;refine dn ?_;refine qcx (wgx Tryz.func43) (aqf (d.num 5) (c6 (d.num 5) (d.ps 5)) (d.fs 5) (d.ms 5) (nf sts ((prS (d.num 5) (c6 (d.num 5) (d.ps 5)) (d.fs 5) (d.ms 5)).map St.r) (prC (d.num 5) (c6 (d.num 5) (d.ps 5)) (d.fs 5) (d.ms 5)) c0.toNat c1.toNat c2.toNat)) ?_;refine w_2 ?_;refine al _ rfl (fun r9=>?_) (fun r9=>?_)
 · have h9:=r9;exfalso;simp at r9
 have h9:=r9;refine w_7 ?_;refine qcx (wgx Tryz.func20) (ay9 (d.num 5) (c6 (d.num 5) (d.ps 5)) (d.fs 5) (d.ms 5)) ?_;refine dn ?_;refine ag rfl rfl (fun r10=>?_) (fun r10=>?_)
 ·
  have h10:=dq r10;(iterate 2 refine k9 (gtf r10) ?_);refine w_2 ?_;refine k9 rfl ?_;refine w_3 ?_
  exact hx8 rfl rfl rfl (⟨ccb (by first | rfl | exact acr fun h1 h2=>nv h1 h2 | (rw [nv b5h b5h]) | exact nv b5h b5h),trivial⟩)
 have h10:=dt r10;(iterate 2 refine qy ?_ (hg:=(gff r10)));refine w_2 ?_;refine ag rfl rfl (fun r11=>?_) (fun r11=>?_)
 · have h11:=tz2 (dq (af r10 r11));refine k9 (gtf r11) ?_;refine v_3 ?_;exact ⟨ccb (by first | rfl | exact acr fun h1 h2=>nv h1 h2 | (rw [nv b5h b5h]) | exact nv b5h b5h),trivial⟩
 have h11:=tz1 (dt (af r10 r11));refine qy ?_ (hg:=(gff r11));refine v_3 ?_;exact ⟨ccb (by first | rfl | exact acr fun h1 h2=>nv h1 h2 | (rw [nv b5h b5h]) | exact nv b5h b5h),trivial⟩
end
end Go.Hx
