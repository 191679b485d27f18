/- A part of the proof: SrQ Mw11 Mw21 Hx32 Hx33. -/
import Derived.Test.YtaegkccfbmekbaaGreatNq23
import Derived.Test.YtaegkccfbmekbaaGreatNq24
import Derived.Test.YtaegkccfbmekbaaGreatNq26
import Derived.Test.YtaegkccfbmekbaaGreatNq36
import Derived.Test.YtaegkccfbmekbaaGreatNq37
import Derived.Test.YtaegkccfbmekbaaGreatNq38
set_option linter.all false
section
namespace Go.Hx
open Go.Proofs Go.RowKit Go.Sort
set_option maxRecDepth 100000
abbrev ar0 (c:AS → Int) (s:AS):List Value:=[.int .u32 (asI s), .int .i64 (c s)]
abbrev eC (c:AS → Int) (s:AS) (j:Nat):PV:=.raw ((ar0 c s).getD j (.bool false))
theorem ai9:aj Tryz.prog 68:=⟨Tryz.f68,Tryz.func68,by kernel_rfl,by kernel_rfl⟩
theorem ag1 (g:Nat) (caps:Nat → PV) (hg:∀ args w,(callFunc g args).run Tryz.prog w = .ok (.enter g args) w) (c:AS → Int) (hc:∀ x y:AS,ap Tryz.prog g [.agg [asC x,nI (c x)], .agg [asC y,nI (c y)]] (b4 [pI (p9 x y)])) (id:Nat) (l:List AS) (hsz:l.length ≤ 8589934592) :
 ce Tryz.prog 68 [.one (.ref id l.length), .one (.p (.fn g 0 caps))] [(id, .arr true 2 119 l.length (lf (eC c) l))] (.tup []) [(id, .arr true 2 119 l.length (lf (eC c) (srt l)))] [id]:=by
 have h:=aff Tryz.laysSortC 2 (by decide) Tryz.isAgg119 Tryz.sizeOf119 (ar0 c) (fun _=>rfl) (fun x v hv=>by
  rcases List.mem_cons.1 hv with rfl | hv
  · rfl
  · rcases List.mem_cons.1 hv with rfl | hv
    · rfl
    · cases hv) p9 aby (fun x y h k=>by
  rw [pl] at h k
  apply Classical.byContradiction
  intro hne
  rcases py hne with h2 | h2
  · rw [h] at h2;cases h2
  · rw [k] at h2;cases h2) g caps hg (fun x y=>hc x y) id 119 l hsz
 have e:(fun x y:AS=>!(ltOf p9) y x) = fun x y=>!bef y x:=by
  funext x y
  rw [pl]
 rw [e] at h
 exact h
theorem a5w {K L:List AS} (hn:K.Nodup) (h:∀ z,z ∈ K ↔ z ∈ L):srt K = ord L:=by
 refine ahp ?_ fun z=>by rw [adx];exact h z
 have h:=List.pairwise_mergeSort (le:=fun x y:AS=>!bef y x) (fun a b c h k=>by
  simp only [Bool.not_eq_true'] at *
  rw [Bool.eq_false_iff,ne_eq,gk] at *
  omega) (fun a b=>by
  simp only [Bool.or_eq_true,Bool.not_eq_true']
  rw [Bool.eq_false_iff,Bool.eq_false_iff,ne_eq,ne_eq,gk,gk]
  omega) K
 have hn2:(srt K).Nodup:=(List.mergeSort_perm K _).nodup_iff.2 hn
 refine (h.and hn2).imp fun {a b} hab=>?_
 rcases py hab.2 with h1 | h1
 · exact h1
 · exact absurd h1 (by simpa using hab.1)
theorem a1c {es:Array MapEntry} {seen:Array Nat} {K:List AS} (hv:Vis es seen (K.map mkA)):K.Nodup:=by
 have:=hv.nod
 exact (List.pairwise_map.1 this).imp fun h e=>h (by rw [e])
theorem ahb {rows:List Row}:∀ i j,i < (ord (prs rows)).length → j < 2 → CoP (lf (eC (cw rows)) (ord (prs rows)) i j) (lf Cnt.c (gr rows) i j):=fun i j hi hj=>by
 have e:(gr rows).getD i default = afg rows ((ord (prs rows)).getD i default):=by
  unfold gr
  simp [List.getD,hi]
 show CoP _ (Cnt.c ((gr rows).getD i default) j)
 rw [e]
 rcases (by omega:j = 0 ∨ j = 1) with rfl | rfl
 · exact CoP.refl _
 · exact CoP.refl _
theorem anu {rows:List Row} {K:List AS} {b:Bool} (hso:srt K = ord (prs rows)):CoP (.sl K.length 2 b (lf (eC (cw rows)) (srt K))) (a9a (gr rows)):=by
 have hl:K.length = (ord (prs rows)).length:=by rw [← hso,sv]
 refine CoP.sl ?_ (.inl rfl) (fun h=>by cases h) fun i j hi hj=>?_
 · rw [hl];unfold gr;rw [List.length_map]
 · rw [hso];exact ahb i j (by rw [← hl];exact hi) hj
theorem arx {K:List AS} (hn:K.Nodup):K.length ≤ 4294967296:=by
 have h:=a2p 4294967296 (K.map BitVec.toNat) (List.pairwise_map.2 (hn.imp fun h e=>h (BitVec.eq_of_toNat_eq e))) fun x hx=>by
  obtain ⟨y,_,rfl⟩:=List.mem_map.1 hx
  exact y.isLt
 rw [List.length_map] at h
 exact h
theorem aml {rows:List Row} {K:List AS} (hn:K.Nodup) (h:∀ z,z ∈ K ↔ z ∈ prs rows) (hr:rows.length ≤ 1000):K.length ≤ 1000000:=by
 have e:=a5w hn h
 have h1:=sv K
 rw [e] at h1
 have h2:=t6 (prs rows)
 have h3:=a1m rows
 have h4:rows.length * rows.length ≤ 1000000:=Nat.mul_le_mul hr hr
 omega
end Go.Hx
end
section
namespace Go.Hx
open Go.Proofs
set_option maxRecDepth 100000
theorem ams (c:AS → Int) (a b:AS):ap Tryz.prog 69 [.agg [asC a,nI (c a)], .agg [asC b,nI (c b)]] (b4 [pI (p9 a b)]):=by
 refine ah (nt:=19) ae Tryz.func69 rfl rfl l9 ?_;refine sx7 ?_;refine m9 0 ?_;refine m9 1 ?_;refine qy ?_;refine a6 ?_;refine a7 ?_
 refine ax (E:=aq) ae ak [0,1,2,3,4,5,6,7,8,9,10,11,12,13,14] ?_;(iterate 2 refine qy ?_);refine rc rfl rfl rfl rfl rfl rfl a07 (a4j _) (CoL.refl _) rfl rfl ?_;(iterate 2 refine qy ?_)
 refine rc rfl rfl rfl rfl rfl rfl a07 (a4j _) (CoL.refl _) rfl rfl ?_;refine rc rfl rfl rfl rfl rfl rfl aa0 (afk _ _) (CoL.refl _) rfl rfl ?_;(iterate 4 refine qy ?_)
 refine rc rfl rfl rfl rfl rfl rfl aha (amm _ _) (CoL.refl _) rfl rfl ?_;refine m9 2 ?_
 refine rc rfl rfl rfl rfl rfl rfl a99 (cOr [fh (bsz a) (bsz b),fh (asI a) (asI b)]) (⟨CoC.one (ws (CoP.refl _) (CoP.refl _)),trivial⟩) rfl rfl ?_;refine qy ?_;refine a6 ?_;refine ⟨by kernel_rfl, ?_⟩
 exact hx8 rfl rfl rfl (⟨cci (ae0 a b),trivial⟩)
theorem ait:aj Tryz.prog 38:=⟨Tryz.f38,Tryz.func38,by kernel_rfl,by kernel_rfl⟩
theorem anj (t:Tbl) (fds add rem:List Fd) (hnr:t.rows.length ≤ 1000):ce Tryz.prog 38 [.one (.ptr 1000 0)] (mst t fds add rem).objs (.v (.one (.p (a9a (gr t.rows))))) (mst t fds add rem).objs [1000]:=by
 refine ct (nt:=25) ae Tryz.func38 rfl rfl l9 rfl ?_;refine sx7 ?_;refine qy ?_;refine a6 ?_;refine sx7 ?_;refine qy ?_;refine a6 ?_;(iterate 2 refine a7 ?_)
 refine c7 [] [0,1,2,3,4] rfl ?_;refine cj (E:=aq) (L1:=[0,1,2,3]) (L2:=[4]) ae ?_;(iterate 4 refine qy ?_);refine a6 ?_;refine gt ?_
 refine qz 901 rfl w7 fun b es clock hf=>?_
 refine dp ?_
 refine ue (k:=4) (L:=[]) 0 rfl rfl fun bi=>?_
 refine dm ?_;refine af ?_;refine dw 3 905 true 2 119 (lf (eC (cw t.rows)) []) (by decide) rfl (CoP.sl rfl (.inr rfl) (fun h=>h) (fun i j hi _=>absurd hi (Nat.not_lt_zero i))) (.inr rfl) rfl ?_
 refine av (ι:=(Array Nat × List AS)) ⟨[(10,some _)],[(1000,some _),(901,some _)]⟩ ⟨⟨c9,trivial⟩,⟨u9,u9,trivial⟩⟩ (fun v=>⟨[(3,some (.v (.one (.ref 905 v.2.length))))],[(0,some (.ex 2 (.pointer (some ⟨bi,0,none⟩)) bi (.mapIter (some b) clock v.1 clock))),(905,some (.arr true 2 119 v.2.length (lf (eC (cw t.rows)) v.2)))]⟩) (fun v=>Vis es v.1 (v.2.map mkA)) (fun v=>(leftOf es v.1).size) ((#[],[])) (w4) ⟨⟨zy,trivial⟩,⟨u9,u9,trivial⟩⟩ ?_
 rintro ⟨s,K⟩ hV
 dsimp only at hV ⊢
 refine a7 ?_;refine c7 [] [0,1] rfl ?_;refine wn (mid:=901) (k:=0) (L:=[1]) rfl hf (fun h0=>?_) (fun e he key v hk hv hev=>?_)
 ·
  have hD:=w8 hf hV h0
  have hnd:K.Nodup:=a1c hV
  have hkl:K.length ≤ 1000000:=aml hnd hD hnr
  have hso:srt K = ord (prs t.rows):=a5w hnd hD
  refine gt ?_;refine oh 901 rfl hf ?_;refine dp ?_;refine cj (E:=aq) (L1:=[1]) (L2:=[]) ae ?_;refine qy ?_;refine a6 ?_;refine dm ?_;refine a7 ?_
  refine a8 _ rfl (fun e=>by cases e) (fun _=>?_);refine au ?_;refine sx7 ?_;refine qy ?_
  refine ay rfl rfl rfl rfl rfl rfl ai9 (ag1 69 _ (enters_of Tryz.func69 (by kernel_rfl) rfl) (cw t.rows) (fun x y=>ams (cw t.rows) x y) 905 K (by omega)) (bs.refl _) ⟨u9,trivial⟩ rfl rfl ?_
  refine a6 ?_;refine a7 ?_;refine dn 3 rfl rfl rfl ?_;refine gy ?_;(iterate 2 refine qy ?_);refine a6 ?_;refine aw ?_;refine ⟨.inr rfl, ?_⟩
  exact ⟨_,_,rfl,(by (repeat' apply And.intro) <;> first | trivial | exact Nat.le_of_ble_eq_true rfl),(anu hso),⟨u9,u9,trivial⟩⟩
 ·
  obtain ⟨k,rfl,hck,hy⟩:=l5 hv
  obtain rfl:=ajk hy
  have hkl2:K.length ≤ 4294967296:=arx (a1c hV)
  refine cj (E:=aq) (L1:=[1]) (L2:=[]) ae ?_;refine qy ?_;refine a6 ?_;refine dm ?_;refine a7 ?_;refine a8 _ rfl (fun _=>?_) (fun e=>by cases e);refine aa ?_;refine af ?_
  refine a7 ?_;refine c7 [] [0,1,2,3,4] rfl ?_;refine ud (mid:=901) (k:=0) (L:=[1,2,3,4]) rfl hf he hk hv hev ?_;refine cj (E:=aq) (L1:=[1,2,3,4]) (L2:=[]) ae ?_
  (iterate 4 refine qy ?_);refine a6 ?_;refine dm ?_;refine gy ?_;(iterate 4 refine qy ?_);refine m9 1 ?_
  refine ra 2 true rfl rfl rfl rfl rfl rfl ?_ (hp:=⟨rfl,rfl,rfl,rfl, .inl rfl,(by omega),(by show (K.length + 1) * 16 ≤ _;omega),fun _=>.inl rfl⟩);refine qy ?_;refine a6 ?_
  refine ⟨(s.push e.born,K ++ [k]), ?_, ?_, ?_⟩
  · exact mr hf hV he hk
  · exact left_shrinks es s e he
  · exact ⟨⟨⟨_,rfl,(df rfl)⟩,c9,trivial⟩,⟨u9,⟨_,rfl,(ji rfl (CoP.refl _) (CoP.refl _))⟩,u9,u9,trivial⟩⟩
end Go.Hx
end
section
namespace Go.Hx
open Go.Proofs
set_option maxRecDepth 100000
theorem atl (t:Tbl) (fds add rem:List Fd) (hf:fds.length ≤ 68719476736) (hA:add.length ≤ 68719476736) (hR:rem.length ≤ 68719476736):ce Tryz.prog 26 [.one (.ptr 1000 0)] (mst t fds add rem).objs (.v (.one (.ref 905 fds.length))) ((mst t fds add rem).objs ++ [(905, .arr true 2 71 fds.length (lf Fd.c fds))]) [1000]:=by
 refine ct (nt:=8) ae Tryz.func26 rfl rfl l9 rfl ?_;refine sx7 ?_;refine qy ?_;refine a6 ?_;refine sx7 ?_;(iterate 4 refine qy ?_)
 refine ay rfl rfl rfl rfl rfl rfl xg ((a1b fds.length false (lf Fd.c fds) (by omega)).swap 0 905) (bs.refl _) trivial rfl rfl ?_;refine qy ?_;refine a6 ?_;refine aw ?_;refine ⟨.inr rfl, ?_⟩
 exact ⟨_,_,rfl,(by (repeat' apply And.intro) <;> first | trivial | exact Nat.le_of_ble_eq_true rfl),CoR.refl _,⟨u9,u9,u9,trivial⟩⟩
theorem at9 (t:Tbl) (fds add rem:List Fd) (hf:fds.length ≤ 68719476736) (hA:add.length ≤ 68719476736) (hR:rem.length ≤ 68719476736):ce Tryz.prog 14 [.one (.ptr 1000 0)] (mst t fds add rem).objs (.tup [.one (.ref 905 add.length), .one (.ref 906 rem.length)]) ((mst t fds add rem).objs ++ [(905, .arr true 2 71 add.length (lf Fd.c add)),(906, .arr true 2 71 rem.length (lf Fd.c rem))]) [1000]:=by
 refine ct (nt:=14) ae Tryz.func14 rfl rfl l9 rfl ?_;refine sx7 ?_;(iterate 2 refine qy ?_);refine a6 ?_;refine a7 ?_;refine ax (E:=aq) ae ak [0,1,2,3,4,5,6,7,8,9,10,11] ?_
 (iterate 4 refine qy ?_);refine ay rfl rfl rfl rfl rfl rfl xg ((a1b add.length false (lf Fd.c add) (by omega)).swap 0 905) (bs.refl _) trivial rfl rfl ?_;(iterate 4 refine qy ?_)
 refine ay rfl rfl rfl rfl rfl rfl xg ((a1b rem.length false (lf Fd.c rem) (by omega)).swap 0 906) (bs.refl _) trivial rfl rfl ?_;(iterate 2 refine qy ?_);refine a6 ?_;refine ⟨by kernel_rfl, ?_⟩
 refine aw ?_;refine ⟨.inr rfl, ?_⟩
 exact ⟨_,_,rfl,(by (repeat' apply And.intro) <;> first | trivial | exact Nat.le_of_ble_eq_true rfl),CoR.refl _,⟨u9,u9,u9,u9,trivial⟩⟩
theorem a9q {rows:List Row} {K:List AS} (hso:srt K = ord (prs rows)):K.length = (gr rows).length:=by
 have hl:K.length = (ord (prs rows)).length:=by rw [← hso,sv]
 rw [hl];unfold gr;rw [List.length_map]
theorem ajy {rows:List Row} {K:List AS} (hso:srt K = ord (prs rows)):CoO (.arr true 2 119 K.length (lf (eC (cw rows)) (srt K))) (.arr true 2 119 (gr rows).length (lf Cnt.c (gr rows))):=by
 have hl:K.length = (ord (prs rows)).length:=by rw [← hso,sv]
 exact ⟨fun h=>h,rfl,rfl,(a9q hso).symm,fun i j hi hj=>by rw [hso];exact ahb i j (by rw [← hl];exact hi) hj⟩
theorem apt (t:Tbl) (fds add rem:List Fd) (hna:t.attrs.length ≤ 8):ce Tryz.prog 27 [.one (.ptr 1000 0)] (mst t fds add rem).objs (.v (.one (.ref 905 (o8 (prs t.rows) t.attrs.length).length))) ((mst t fds add rem).objs ++ [(905, .arr true 1 69 (o8 (prs t.rows) t.attrs.length).length (lf sC (o8 (prs t.rows) t.attrs.length)))]) [1000]:=by
 refine ct (nt:=43) ae Tryz.func27 rfl rfl l9 rfl ?_
 have hsl:=ny (b6 (t.attrs.length:Nat))
 refine sx7 ?_;refine qy ?_;refine a6 ?_;refine sx7 ?_;refine qy ?_;refine a6 ?_;refine a7 ?_;refine sx7 ?_;refine qy ?_
 refine ay rfl rfl rfl rfl rfl rfl a4h (a5p t fds add rem hna) (bs.refl _) ⟨u9,u9,trivial⟩ rfl rfl ?_;refine rc rfl rfl rfl rfl rfl rfl aat (aes (b6 (t.attrs.length:Nat))) (CoL.refl _) rfl rfl ?_
 (iterate 2 refine qy ?_);refine a6 ?_;refine af ?_;refine dw 3 905 true 1 69 (lf sC []) (by decide) rfl (CoP.sl rfl (.inr rfl) (fun h=>h) (fun i j hi _=>absurd hi (Nat.not_lt_zero i))) (.inr rfl) rfl ?_
 refine av (ι:=Nat) ⟨[(0,some _),(10,some _),(11,some _)],[(1000,some _),(901,some _)]⟩ ⟨⟨c9,c9,c9,trivial⟩,⟨u9,u9,trivial⟩⟩ (fun i=>⟨[(3,some (.v (.one (.ref 905 (je (prs t.rows) t.attrs.length i).length)))),(12,some (vI i))],[(905,some (.arr true 1 69 (je (prs t.rows) t.attrs.length i).length (lf sC (je (prs t.rows) t.attrs.length i))))]⟩) (fun i=>i ≤ (ck (b6 (t.attrs.length:Nat))).length) (fun i=>(ck (b6 (t.attrs.length:Nat))).length - i) (0) (Nat.zero_le _) ⟨⟨zy,zy,trivial⟩,⟨u9,trivial⟩⟩ ?_
 rintro i hi
 refine sx7 ?_;refine qy ?_;refine a6 ?_;refine a7 ?_;refine a8 _ rfl (fun r0=>?_) (fun r0=>?_)
 ·
  have h0:=of_decide_eq_true r0
  try simp only [ty] at h0
  have hil:i < (d6 t.attrs.length).length:=Int.ofNat_lt.1 h0
  have hkl:=aae (prs t.rows) t.attrs.length i
  refine aa ?_;refine a7 ?_;refine af ?_;refine sx7 ?_;(iterate 2 refine qy ?_);refine m9 0 ?_;refine s9 ?_;refine a6 ?_;refine nb 5 rfl rfl rfl ?_;refine sx7 ?_;(iterate 2 refine qy ?_)
  refine rc rfl rfl rfl rfl rfl rfl acg (af3 (je (prs t.rows) t.attrs.length i) 60 1 (fun j=>[bx (asC ((ck (b6 (t.attrs.length:Nat))).getD i default))].getD j .any) (fun y=>decide (sub y ((ck (b6 (t.attrs.length:Nat))).getD i default))) ahh (fun y=>amf y ((ck (b6 (t.attrs.length:Nat))).getD i default))) (CoL.refl _) rfl rfl ?_
  (iterate 2 refine qy ?_);refine a6 ?_;(iterate 2 refine a7 ?_);refine c7 [] [0,1,2,3,4] rfl ?_;refine cj (E:=aq) (L1:=[0,1,2,3]) (L2:=[4]) ae ?_;(iterate 4 refine qy ?_)
  refine a6 ?_;refine gt ?_
  refine qz 901 rfl w7 fun b es clock hf=>?_
  refine dp ?_
  refine ue (k:=4) (L:=[]) 1 rfl rfl fun bi=>?_
  refine dm ?_;refine af ?_
  refine av (ι:=(Array Nat × List AS)) ⟨[(0,some _),(3,some _),(5,some _),(10,some _),(11,some _),(12,some _),(24,some _)],[(905,some _),(1000,some _),(901,some _)]⟩ ⟨⟨c9,c9,c9,c9,c9,c9,c9,trivial⟩,⟨u9,u9,u9,trivial⟩⟩ (fun v=>⟨[(6,some (vB ((!((je (prs t.rows) t.attrs.length i).any fun y=>decide (sub y ((ck (b6 (t.attrs.length:Nat))).getD i default)))) && pK v.2 ((ck (b6 (t.attrs.length:Nat))).getD i default))))],[(1,some (.ex 2 (.pointer (some ⟨bi,0,none⟩)) bi (.mapIter (some b) clock v.1 clock)))]⟩) (fun v=>Vis es v.1 (v.2.map mkA)) (fun v=>(leftOf es v.1).size) ((#[],[])) (w4) ⟨⟨⟨_,rfl,(cob (by simp [pK]))⟩,trivial⟩,⟨u9,trivial⟩⟩ ?_
  rintro ⟨s,K⟩ hV
  refine a7 ?_;refine c7 [] [0,1] rfl ?_;refine wn (mid:=901) (k:=0) (L:=[1]) rfl hf (fun h0=>?_) (fun e he key v hk hv hev=>?_)
  ·
   have hD:=aht (w8 hf hV h0) ((ck (b6 (t.attrs.length:Nat))).getD i default)
   refine gt ?_;refine oh 901 rfl hf ?_;refine dp ?_;refine cj (E:=aq) (L1:=[1]) (L2:=[]) ae ?_;refine qy ?_;refine a6 ?_;refine dm ?_;refine a7 ?_
   refine a8 _ rfl (fun e=>by cases e) (fun _=>?_);refine au ?_;refine sx7 ?_;refine qy ?_;refine a6 ?_;refine a8 _ rfl (fun r1=>?_) (fun r1=>?_)
   ·
    have h1:=r1
    have hb:=r1
    dsimp only at hb
    rw [hD] at hb
    refine gy ?_;(iterate 2 refine qy ?_);refine m9 2 ?_;refine ra 3 true rfl rfl rfl rfl rfl rfl ?_;refine qy ?_;refine a6 ?_;refine gy ?_;(iterate 2 refine qy ?_);refine a6 ?_
    first | (refine ⟨i + 1, ?_, ?_, ?_⟩
             · show i + 1 ≤ _;omega
             · first | omega | (dsimp only;omega)
             · exact ⟨⟨⟨_,rfl,(df (qq hil hb))⟩,zy,c9,c9,c9,trivial⟩,⟨⟨_,rfl,(dx (qq hil hb) (CoP.refl _))⟩,u9,u9,trivial⟩⟩)
          | (refine ⟨i + 1, ?_, ?_, ?_⟩
             · show i + 1 ≤ _;omega
             · first | omega | (dsimp only;omega)
             · exact ⟨⟨⟨_,rfl,(d5 (rj hil hb))⟩,zy,c9,c9,c9,trivial⟩,⟨⟨_,rfl,(ci (rj hil hb))⟩,u9,u9,trivial⟩⟩)
   ·
    have h1:=r1
    have hb:=r1
    dsimp only at hb
    rw [hD] at hb
    refine aa ?_;refine gy ?_;(iterate 2 refine qy ?_);refine a6 ?_
    first | (refine ⟨i + 1, ?_, ?_, ?_⟩
             · show i + 1 ≤ _;omega
             · first | omega | (dsimp only;omega)
             · exact ⟨⟨⟨_,rfl,(df (qq hil hb))⟩,zy,c9,c9,c9,trivial⟩,⟨⟨_,rfl,(dx (qq hil hb) (CoP.refl _))⟩,u9,u9,trivial⟩⟩)
          | (refine ⟨i + 1, ?_, ?_, ?_⟩
             · show i + 1 ≤ _;omega
             · first | omega | (dsimp only;omega)
             · exact ⟨⟨⟨_,rfl,(d5 (rj hil hb))⟩,zy,c9,c9,c9,trivial⟩,⟨⟨_,rfl,(ci (rj hil hb))⟩,u9,u9,trivial⟩⟩)
  ·
   obtain ⟨k,rfl,hck,hy⟩:=l5 hv
   refine cj (E:=aq) (L1:=[1]) (L2:=[]) ae ?_;refine qy ?_;refine a6 ?_;refine dm ?_;refine a7 ?_;refine a8 _ rfl (fun _=>?_) (fun e=>by cases e);refine aa ?_;refine af ?_
   refine a7 ?_;refine c7 [] [0,1,2] rfl ?_;refine ud (mid:=901) (k:=0) (L:=[1,2]) rfl hf he hk hv hev ?_;refine cj (E:=aq) (L1:=[1,2]) (L2:=[]) ae ?_;(iterate 2 refine qy ?_)
   refine a6 ?_;refine dm ?_;refine gy ?_;(iterate 2 refine qy ?_);refine b5 rfl rfl (fun r2=>?_) (fun r2=>?_)
   ·
    have h2:=r2
    (iterate 4 refine qy ?_ (hg:=(gtt r2)));(iterate 2 refine qy ?_);refine a6 ?_;refine ⟨(s.push e.born,K ++ [k]), ?_, ?_, ?_⟩
    · exact mr hf hV he hk
    · exact left_shrinks es s e he
    · exact ⟨⟨⟨_,rfl,(cob (by first | exact a8v | exact a92 (by assumption)))⟩,c9,c9,c9,c9,c9,c9,c9,trivial⟩,⟨u9,u9,u9,u9,trivial⟩⟩
   ·
    have h2:=r2
    (iterate 4 refine k9 (gft r2) ?_);refine rq rfl rfl rfl rfl rfl ?_ (hp:=r2);refine qy ?_;refine a6 ?_;refine ⟨(s.push e.born,K ++ [k]), ?_, ?_, ?_⟩
    · exact mr hf hV he hk
    · exact left_shrinks es s e he
    · exact ⟨⟨⟨_,rfl,(cob (by first | exact a8v | exact a92 (by assumption)))⟩,c9,c9,c9,c9,c9,c9,c9,trivial⟩,⟨u9,u9,u9,u9,trivial⟩⟩
 ·
  have h0:=of_decide_eq_false r0
  try simp only [ty] at h0
  obtain rfl:i = (ck (b6 (t.attrs.length:Nat))).length:=by omega
  refine au ?_;refine sx7 ?_;(iterate 2 refine qy ?_);refine a6 ?_;refine aw ?_;refine ⟨.inr rfl, ?_⟩
  exact ⟨_,_,rfl,(by (repeat' apply And.intro) <;> first | trivial | exact Nat.le_of_ble_eq_true rfl),(CoR.of_eq (by rw [a30 (Nat.le_refl _)];rfl)),⟨u9,u9,⟨_,rfl,(CoO.of_eq (by rw [a30 (Nat.le_refl _)]))⟩,trivial⟩⟩
theorem ak3 (t:Tbl) (fds add rem:List Fd) (hnr:t.rows.length ≤ 1000):ce Tryz.prog 38 [.one (.ptr 1000 0)] (mst t fds add rem).objs (.v (.one (.ref 905 (gr t.rows).length))) ((mst t fds add rem).objs ++ [(905, .arr true 2 119 (gr t.rows).length (lf Cnt.c (gr t.rows)))]) [1000]:=by
 refine ct (nt:=25) ae Tryz.func38 rfl rfl l9 rfl ?_;refine sx7 ?_;refine qy ?_;refine a6 ?_;refine sx7 ?_;refine qy ?_;refine a6 ?_;(iterate 2 refine a7 ?_)
 refine c7 [] [0,1,2,3,4] rfl ?_;refine cj (E:=aq) (L1:=[0,1,2,3]) (L2:=[4]) ae ?_;(iterate 4 refine qy ?_);refine a6 ?_;refine gt ?_
 refine qz 901 rfl w7 fun b es clock hf=>?_
 refine dp ?_
 refine ue (k:=4) (L:=[]) 0 rfl rfl fun bi=>?_
 refine dm ?_;refine af ?_;refine dw 3 905 true 2 119 (lf (eC (cw t.rows)) []) (by decide) rfl (CoP.sl rfl (.inr rfl) (fun h=>h) (fun i j hi _=>absurd hi (Nat.not_lt_zero i))) (.inr rfl) rfl ?_
 refine av (ι:=(Array Nat × List AS)) ⟨[(10,some _)],[(1000,some _),(901,some _)]⟩ ⟨⟨c9,trivial⟩,⟨u9,u9,trivial⟩⟩ (fun v=>⟨[(3,some (.v (.one (.ref 905 v.2.length))))],[(0,some (.ex 2 (.pointer (some ⟨bi,0,none⟩)) bi (.mapIter (some b) clock v.1 clock))),(905,some (.arr true 2 119 v.2.length (lf (eC (cw t.rows)) v.2)))]⟩) (fun v=>Vis es v.1 (v.2.map mkA)) (fun v=>(leftOf es v.1).size) ((#[],[])) (w4) ⟨⟨zy,trivial⟩,⟨u9,u9,trivial⟩⟩ ?_
 rintro ⟨s,K⟩ hV
 dsimp only at hV ⊢
 refine a7 ?_;refine c7 [] [0,1] rfl ?_;refine wn (mid:=901) (k:=0) (L:=[1]) rfl hf (fun h0=>?_) (fun e he key v hk hv hev=>?_)
 ·
  have hD:=w8 hf hV h0
  have hnd:K.Nodup:=a1c hV
  have hkl:K.length ≤ 1000000:=aml hnd hD hnr
  have hso:srt K = ord (prs t.rows):=a5w hnd hD
  refine gt ?_;refine oh 901 rfl hf ?_;refine dp ?_;refine cj (E:=aq) (L1:=[1]) (L2:=[]) ae ?_;refine qy ?_;refine a6 ?_;refine dm ?_;refine a7 ?_
  refine a8 _ rfl (fun e=>by cases e) (fun _=>?_);refine au ?_;refine sx7 ?_;refine qy ?_
  refine ay rfl rfl rfl rfl rfl rfl ai9 (ag1 69 _ (enters_of Tryz.func69 (by kernel_rfl) rfl) (cw t.rows) (fun x y=>ams (cw t.rows) x y) 905 K (by omega)) (bs.refl _) ⟨u9,trivial⟩ rfl rfl ?_
  refine a6 ?_;refine sx7 ?_;(iterate 2 refine qy ?_);refine a6 ?_;refine aw ?_;refine ⟨.inr rfl, ?_⟩
  exact ⟨_,_,rfl,(by (repeat' apply And.intro) <;> first | trivial | exact Nat.le_of_ble_eq_true rfl),(CoR.of_eq (by rw [a9q hso];rfl)),⟨u9,u9,⟨_,rfl,(ajy hso)⟩,trivial⟩⟩
 ·
  obtain ⟨k,rfl,hck,hy⟩:=l5 hv
  obtain rfl:=ajk hy
  have hkl2:K.length ≤ 4294967296:=arx (a1c hV)
  refine cj (E:=aq) (L1:=[1]) (L2:=[]) ae ?_;refine qy ?_;refine a6 ?_;refine dm ?_;refine a7 ?_;refine a8 _ rfl (fun _=>?_) (fun e=>by cases e);refine aa ?_;refine af ?_
  refine a7 ?_;refine c7 [] [0,1,2,3,4] rfl ?_;refine ud (mid:=901) (k:=0) (L:=[1,2,3,4]) rfl hf he hk hv hev ?_;refine cj (E:=aq) (L1:=[1,2,3,4]) (L2:=[]) ae ?_
  (iterate 4 refine qy ?_);refine a6 ?_;refine dm ?_;refine gy ?_;(iterate 4 refine qy ?_);refine m9 1 ?_
  refine ra 2 true rfl rfl rfl rfl rfl rfl ?_ (hp:=⟨rfl,rfl,rfl,rfl, .inl rfl,(by omega),(by show (K.length + 1) * 16 ≤ _;omega),fun _=>.inl rfl⟩);refine qy ?_;refine a6 ?_
  refine ⟨(s.push e.born,K ++ [k]), ?_, ?_, ?_⟩
  · exact mr hf hV he hk
  · exact left_shrinks es s e he
  · exact ⟨⟨⟨_,rfl,(df rfl)⟩,c9,trivial⟩,⟨u9,⟨_,rfl,(ji rfl (CoP.refl _) (CoP.refl _))⟩,u9,u9,trivial⟩⟩
end Go.Hx
end
section
namespace Go.Hx
open Go.RowKit
def aab (B:Nat → Option Obj) (b:Nat) (x:Option Obj):Nat → Option Obj:=fun q=>if q = b then x else B q
theorem a6f {B:Nat → Option Obj} {b:Nat} {x:Option Obj}:aab B b x b = x:=if_pos rfl
theorem a6q {B:Nat → Option Obj} {b q:Nat} {x:Option Obj} (h:q ≠ b):aab B b x q = B q:=if_neg h
def a6h (o:b8) (x y:HV):Prop:=x = y ∨ ∃ id d v b ob,o id = some (.ex d v b ob) ∧ v.oneCell' = true ∧ ((x = .ref id 0 ∧ y = .p (.raw v)) ∨ (x = .p (.raw v) ∧ y = .ref id 0))
def at3 (o:b8):List HV → List HV → Prop
 | [],[]=>True
 | x :: xs,y :: ys=>a6h o x y ∧ at3 o xs ys
 | _,_=>False
def avy (o:b8):HC → HC → Prop
 | .one x, .one y=>a6h o x y
 | .agg l, .agg m=>at3 o l m
 | _,_=>False
def ax5 (o:b8):HR → HR → Prop
 | .v x, .v y=>avy o x y
 | _,_=>False
theorem a6h.to {o:b8} {id d:Nat} {v:Value} {b:Nat} {ob:Obj} (h:o id = some (.ex d v b ob)) (h1:v.oneCell' = true):a6h o (.ref id 0) (.p (.raw v)):=.inr ⟨id,d,v,b,ob,h,h1, .inl ⟨rfl,rfl⟩⟩
theorem a6h.from {o:b8} {id d:Nat} {v:Value} {b:Nat} {ob:Obj} (h:o id = some (.ex d v b ob)) (h1:v.oneCell' = true):a6h o (.p (.raw v)) (.ref id 0):=.inr ⟨id,d,v,b,ob,h,h1, .inr ⟨rfl,rfl⟩⟩
section
variable {w0:World} {nt:Nat} {c:Ctx} {s:S} {a:Act} {w:World}
theorem al.bunNew (h:al w0 nt c s a w) {idb:Nat} (hm:NM s idb) (hn:s.o idb = none):∃ c',c'.old = c.old ∧ al w0 nt c' ⟨s.t,fun q=>if q = idb then some (.bun fun _=>none) else s.o q⟩ a w:=by
 refine ⟨{ old:=c.old,imm:=c.imm,tab:=c.tab,own:=c.own,blk:=fun q=>if q = idb then noB else c.blk q,rows:=c.rows },rfl,h.redo (fun q=>q = idb) _ _ _ _ ?_ ?_ ?_ ?_ ?_ ?_⟩
 · rintro q rfl;exact hm.2.2
 · exact fun q hq=>⟨if_neg hq,rfl,if_neg hq,rfl⟩
 · rintro q rfl;exact .inl ⟨hm.1,fun id0 ob _ h0=>hm.2.1 id0 ob h0⟩
 · rintro q ob rfl hq
   rw [if_pos rfl] at hq
   cases hq
   refine ⟨fun b hb=>?_,fun b x hx=>by cases hx⟩
   have hb:(if q = q then noB else c.blk q) b:=hb
   rw [if_pos rfl] at hb
   exact hb.elim
 · rintro q ob b rfl hq hb
   rw [if_pos rfl] at hb
   exact hb.elim
 · rintro q q' ob ob' b rfl rfl _ _ _ _;rfl
end
section
variable {ro:Option Nat} {P:Program} {nt:Nat} {co:Code} {st:HSt} {Q:Exit → HSt → Prop}
theorem aih (idb:Nat) (h:HW (ro:=ro) P nt co ⟨st.t,(idb,some (.bun fun _=>none)) :: st.o⟩ Q) (hn:jv idb st = true:=by exact rfl):HW (ro:=ro) P nt co st Q:=fun w0 m0 a w hr0=>by
 obtain ⟨cc,hold,hrr⟩:=hr0
 obtain ⟨hm,hn⟩:=f8 hn
 obtain ⟨c',q1,q2⟩:=hrr.bunNew hm hn
 refine h w0 m0 a w ⟨c',q1.trans hold, ?_⟩
 rw [mn (o':=fun q=>if q = idb then some (.bun fun _=>none) else st.den.o q) (fun q=>by simp only [bo];rfl)]
 exact q2
end
end Go.Hx
end
section
namespace Go.Hx
open Go.RowKit
def vHC:Value → HC
 | .agg l=>.agg (l.toList.map fun v=>.p (.raw v))
 | v=>.one (.p (.raw v))
def vOk:Value → Bool
 | .agg l=>l.toList.all Value.oneCell'
 | v=>v.oneCell'
def ah5:List HV → Option (List Value)
 | []=>some []
 | .p (.raw v) :: r=>(ah5 r).map (v :: ·)
 | _=>none
def kOf:HR → Option Value
 | .v (.one (.p (.raw v)))=>some v
 | .v (.agg l)=>(ah5 l).map fun vs=>.agg vs.toArray
 | _=>none
structure afi (P:Program) (kt:TypeId) (es:Array MapEntry) (clock:Nat):Prop where
 st:Go.MapKept.Stamped es clock
 mx:es.size ≤ maxLen
 ky:∀ x ∈ es.toList,∃ l,keyOf P kt x.key = some l
 vl:∀ x ∈ es.toList,vOk x.key = true ∧ vOk x.val = true
theorem afi.nil {P:Program} {kt:TypeId} {clock:Nat}:afi P kt #[] clock:=⟨Go.MapKept.stamped_empty clock,by simp,fun x hx=>by simp at hx,fun x hx=>by simp at hx⟩
theorem afi.inj {P:Program} {kt:TypeId} {es:Array MapEntry} {clock:Nat} (h:afi P kt es clock) {x y:MapEntry} (hx:x ∈ es.toList) (hy:y ∈ es.toList) (e:x.key = y.key):x = y:=by
 have hp:=((Go.MapKept.stamped_iff es clock).1 h.st).2.2
 obtain ⟨i,hi,rfl⟩:=List.getElem_of_mem hx
 obtain ⟨j,hj,rfl⟩:=List.getElem_of_mem hy
 rcases Nat.lt_trichotomy i j with h1 | h1 | h1
 · exact absurd e (List.pairwise_iff_getElem.1 hp i j hi hj h1)
 · subst h1;rfl
 · exact absurd e.symm (List.pairwise_iff_getElem.1 hp j i hj hi h1)
section
variable {P:Program} {nt:Nat} {ops:Array Oper} {st:HSt} {k:Nat} {o:Oper} {L:List Nat} {Q:HSt → Prop} {x ix:Operand} {mid j b clock d:Nat} {es:Array MapEntry} {t kt et:TypeId}
structure awq (es es':Array MapEntry) (kv v:Value):Prop where
 to:∀ x' ∈ es'.toList,(x' ∈ es.toList ∧ x'.key ≠ kv) ∨ (x'.key = kv ∧ x'.val = v)
 at_:∃ x' ∈ es'.toList,x'.key = kv ∧ x'.val = v
 old:∀ x ∈ es.toList,x.key ≠ kv → ∃ x' ∈ es'.toList,x'.key = x.key ∧ x'.val = x.val
 sz:es'.size ≤ es.size + 1
end
end Go.Hx
end
