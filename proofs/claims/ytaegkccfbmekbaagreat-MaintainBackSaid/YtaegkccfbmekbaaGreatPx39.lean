/- A part of the proof: SrQ Mw11 Mw12 Mw13 Ms7 Mw14 Ms8 Ms9. -/
import Derived.Test.YtaegkccfbmekbaaGreatPx26
import Derived.Test.YtaegkccfbmekbaaGreatPx36
import Derived.Test.YtaegkccfbmekbaaGreatPx37
import Derived.Test.YtaegkccfbmekbaaGreatPx38
set_option linter.all false
section
namespace Go.Hx
open Go.Proofs Go.RowKit Go.Sort
set_option maxRecDepth 100000
abbrev asb (c:AS → Int) (s:AS):List Value:=[.int .u32 (asI s), .int .i64 (c s)]
abbrev eC (c:AS → Int) (s:AS) (j:Nat):PV:=.raw ((asb c s).getD j (.bool false))
theorem aq7:ai Tryz.prog 68:=⟨Tryz.f68,Tryz.func68,by kernel_rfl,by kernel_rfl⟩
theorem atn (g:Nat) (caps:Nat → PV) (hg:∀ args w,(callFunc g args).run Tryz.prog w = .ok (.enter g args) w) (c:AS → Int) (hc:∀ x y:AS,al Tryz.prog g [.agg [asC x,nI (c x)], .agg [asC y,nI (c y)]] (az [pI (qb x y)])) (id:Nat) (l:List AS) (hsz:l.length ≤ 8589934592) :
 cg Tryz.prog 68 [.one (.ref id l.length), .one (.p (.fn g 0 caps))] [(id, .arr true 2 119 l.length (lf (eC c) l))] (.tup []) [(id, .arr true 2 119 l.length (lf (eC c) (srt l)))] [id]:=by
 have h:=afp Tryz.laysSortC 2 (by decide) Tryz.isAgg119 Tryz.sizeOf119 (asb c) (fun _=>rfl) (fun x v hv=>by
  rcases List.mem_cons.1 hv with rfl | hv
  · rfl
  · rcases List.mem_cons.1 hv with rfl | hv
    · rfl
    · cases hv) qb a9t (fun x y h k=>by
  rw [pw] at h k
  apply Classical.byContradiction
  intro hne
  rcases p9 hne with h2 | h2
  · rw [h] at h2;cases h2
  · rw [k] at h2;cases h2) g caps hg (fun x y=>hc x y) id 119 l hsz
 have e:(fun x y:AS=>!(ltOf qb) y x) = fun x y=>!bef y x:=by
  funext x y
  rw [pw]
 rw [e] at h
 exact h
theorem ads {K L:List AS} (hn:K.Nodup) (h:∀ z,z ∈ K ↔ z ∈ L):srt K = ord L:=by
 refine aix ?_ fun z=>by rw [ae5];exact h z
 have h:=List.pairwise_mergeSort (le:=fun x y:AS=>!bef y x) (fun a b c h k=>by
  simp only [Bool.not_eq_true'] at *
  rw [Bool.eq_false_iff,ne_eq,gq] at *
  omega) (fun a b=>by
  simp only [Bool.or_eq_true,Bool.not_eq_true']
  rw [Bool.eq_false_iff,Bool.eq_false_iff,ne_eq,ne_eq,gq,gq]
  omega) K
 have hn2:(srt K).Nodup:=(List.mergeSort_perm K _).nodup_iff.2 hn
 refine (h.and hn2).imp fun {a b} hab=>?_
 rcases p9 hab.2 with h1 | h1
 · exact h1
 · exact absurd h1 (by simpa using hab.1)
theorem adi {es:Array MapEntry} {seen:Array Nat} {K:List AS} (hv:Vis es seen (K.map mkA)):K.Nodup:=by
 have:=hv.nod
 exact (List.pairwise_map.1 this).imp fun h e=>h (by rw [e])
theorem aqi {rows:List Row}:∀ i j,i < (ord (prs rows)).length → j < 2 → CoP (lf (eC (db rows)) (ord (prs rows)) i j) (lf Cnt.c (mi rows) i j):=fun i j hi hj=>by
 have e:(mi rows).getD i default = af8 rows ((ord (prs rows)).getD i default):=by
  unfold mi
  simp [List.getD,hi]
 show CoP _ (Cnt.c ((mi rows).getD i default) j)
 rw [e]
 rcases (by omega:j = 0 ∨ j = 1) with rfl | rfl
 · exact CoP.refl _
 · exact CoP.refl _
theorem aoi {rows:List Row} {K:List AS} {b:Bool} (hso:srt K = ord (prs rows)):CoP (.sl K.length 2 b (lf (eC (db rows)) (srt K))) (a9w (mi rows)):=by
 have hl:K.length = (ord (prs rows)).length:=by rw [← hso,a1j]
 refine CoP.sl ?_ (.inl rfl) (fun h=>by cases h) fun i j hi hj=>?_
 · rw [hl];unfold mi;rw [List.length_map]
 · rw [hso];exact aqi i j (by rw [← hl];exact hi) hj
theorem avs {K:List AS} (hn:K.Nodup):K.length ≤ 4294967296:=by
 have h:=a2v 4294967296 (K.map BitVec.toNat) (List.pairwise_map.2 (hn.imp fun h e=>h (BitVec.eq_of_toNat_eq e))) fun x hx=>by
  obtain ⟨y,_,rfl⟩:=List.mem_map.1 hx
  exact y.isLt
 rw [List.length_map] at h
 exact h
theorem av4 {rows:List Row} {K:List AS} (hn:K.Nodup) (h:∀ z,z ∈ K ↔ z ∈ prs rows) (hr:rows.length ≤ 1000):K.length ≤ 1000000:=by
 have e:=ads hn h
 have h1:=a1j K
 rw [e] at h1
 have h2:=su (prs rows)
 have h3:=a1h rows
 have h4:rows.length * rows.length ≤ 1000000:=Nat.mul_le_mul hr hr
 omega
end Go.Hx
end
section
namespace Go.Hx
open Go.Proofs
set_option maxRecDepth 100000
theorem auz (c:AS → Int) (a b:AS):al Tryz.prog 69 [.agg [asC a,nI (c a)], .agg [asC b,nI (c b)]] (az [pI (qb a b)]):=by
 refine ag (nt:=19) ae Tryz.func69 rfl rfl l9 ?_;refine sx7 ?_;refine m9 0 ?_;refine m9 1 ?_;refine qy ?_;refine a6 ?_;refine a7 ?_
 refine ay (E:=b5) ae ak [0,1,2,3,4,5,6,7,8,9,10,11,12,13,14] ?_;(iterate 2 refine qy ?_);refine rc rfl rfl rfl rfl rfl rfl a0c (a4x _) (CoL.refl _) rfl rfl ?_;(iterate 2 refine qy ?_)
 refine rc rfl rfl rfl rfl rfl rfl a0c (a4x _) (CoL.refl _) rfl rfl ?_;refine rc rfl rfl rfl rfl rfl rfl ab4 (aew _ _) (CoL.refl _) rfl rfl ?_;(iterate 4 refine qy ?_)
 refine rc rfl rfl rfl rfl rfl rfl aj0 (am6 _ _) (CoL.refl _) rfl rfl ?_;refine m9 2 ?_
 refine rc rfl rfl rfl rfl rfl rfl aba (cOr [fw (bsz a) (bsz b),fw (asI a) (asI b)]) (⟨CoC.one (xe (CoP.refl _) (CoP.refl _)),trivial⟩) rfl rfl ?_;refine qy ?_;refine a6 ?_;refine ⟨by kernel_rfl, ?_⟩
 exact hx8 rfl rfl rfl (⟨cci (ae7 a b),trivial⟩)
theorem at6:ai Tryz.prog 38:=⟨Tryz.f38,Tryz.func38,by kernel_rfl,by kernel_rfl⟩
theorem aph (t:Tbl) (fds add rem:List Fd) (hnr:t.rows.length ≤ 1000):cg Tryz.prog 38 [.one (.ptr 1000 0)] (mst t fds add rem).objs (.v (.one (.p (a9w (mi t.rows))))) (mst t fds add rem).objs [1000]:=by
 refine cw (nt:=25) ae Tryz.func38 rfl rfl l9 rfl ?_;refine sx7 ?_;refine qy ?_;refine a6 ?_;refine sx7 ?_;refine qy ?_;refine a6 ?_;(iterate 2 refine a7 ?_)
 refine f7 [] [0,1,2,3,4] rfl ?_;refine gf (E:=b5) (L1:=[0,1,2,3]) (L2:=[4]) ae ?_;(iterate 4 refine qy ?_);refine a6 ?_;refine sb ?_
 refine a0q 901 rfl a7b fun b es clock hf=>?_
 refine l7 ?_
 refine a3e (k:=4) (L:=[]) 0 rfl rfl fun bi=>?_
 refine ic ?_;refine af ?_;refine ec 3 905 true 2 119 (lf (eC (db t.rows)) []) (by decide) rfl (CoP.sl rfl (.inr rfl) (fun h=>h) (fun i j hi _=>absurd hi (Nat.not_lt_zero i))) (.inr rfl) rfl ?_
 refine av (ι:=(Array Nat × List AS)) ⟨[(10,some _)],[(1000,some _),(901,some _)]⟩ ⟨⟨c9,trivial⟩,⟨u9,u9,trivial⟩⟩ (fun v=>⟨[(3,some (.v (.one (.ref 905 v.2.length))))],[(0,some (.ex 2 (.pointer (some ⟨bi,0,none⟩)) bi (.mapIter (some b) clock v.1 clock))),(905,some (.arr true 2 119 v.2.length (lf (eC (db t.rows)) v.2)))]⟩) (fun v=>Vis es v.1 (v.2.map mkA)) (fun v=>(leftOf es v.1).size) ((#[],[])) (a6e) ⟨⟨zy,trivial⟩,⟨u9,u9,trivial⟩⟩ ?_
 rintro ⟨s,K⟩ hV
 dsimp only at hV ⊢
 refine a7 ?_;refine f7 [] [0,1] rfl ?_;refine a67 (mid:=901) (k:=0) (L:=[1]) rfl hf (fun h0=>?_) (fun e he key v hk hv hev=>?_)
 ·
  have hD:=a7c hf hV h0
  have hnd:K.Nodup:=adi hV
  have hkl:K.length ≤ 1000000:=av4 hnd hD hnr
  have hso:srt K = ord (prs t.rows):=ads hnd hD
  refine sb ?_;refine y5 901 rfl hf ?_;refine l7 ?_;refine gf (E:=b5) (L1:=[1]) (L2:=[]) ae ?_;refine qy ?_;refine a6 ?_;refine ic ?_;refine a7 ?_
  refine a8 _ rfl (fun e=>by cases e) (fun _=>?_);refine aq ?_;refine sx7 ?_;refine qy ?_
  refine ax rfl rfl rfl rfl rfl rfl aq7 (atn 69 _ (enters_of Tryz.func69 (by kernel_rfl) rfl) (db t.rows) (fun x y=>auz (db t.rows) x y) 905 K (by omega)) (bo.refl _) ⟨u9,trivial⟩ rfl rfl ?_
  refine a6 ?_;refine a7 ?_;refine dp 3 rfl rfl rfl ?_;refine gy ?_;(iterate 2 refine qy ?_);refine a6 ?_;refine aw ?_;refine ⟨.inr rfl, ?_⟩
  exact ⟨_,_,rfl,(by (repeat' apply And.intro) <;> first | trivial | exact Nat.le_of_ble_eq_true rfl),(aoi hso),⟨u9,u9,trivial⟩⟩
 ·
  obtain ⟨k,rfl,hck,hy⟩:=o3 hv
  obtain rfl:=are hy
  have hkl2:K.length ≤ 4294967296:=avs (adi hV)
  refine gf (E:=b5) (L1:=[1]) (L2:=[]) ae ?_;refine qy ?_;refine a6 ?_;refine ic ?_;refine a7 ?_;refine a8 _ rfl (fun _=>?_) (fun e=>by cases e);refine aa ?_;refine af ?_
  refine a7 ?_;refine f7 [] [0,1,2,3,4] rfl ?_;refine a2u (mid:=901) (k:=0) (L:=[1,2,3,4]) rfl hf he hk hv hev ?_;refine gf (E:=b5) (L1:=[1,2,3,4]) (L2:=[]) ae ?_
  (iterate 4 refine qy ?_);refine a6 ?_;refine ic ?_;refine gy ?_;(iterate 4 refine qy ?_);refine m9 1 ?_
  refine ra 2 true rfl rfl rfl rfl rfl rfl ?_ (hp:=⟨rfl,rfl,rfl,rfl, .inl rfl,(by omega),(by show (K.length + 1) * 16 ≤ _;omega),fun _=>.inl rfl⟩);refine qy ?_;refine a6 ?_
  refine ⟨(s.push e.born,K ++ [k]), ?_, ?_, ?_⟩
  · exact tl hf hV he hk
  · exact left_shrinks es s e he
  · exact ⟨⟨⟨_,rfl,(dt rfl)⟩,c9,trivial⟩,⟨u9,⟨_,rfl,(ku rfl (CoP.refl _) (CoP.refl _))⟩,u9,u9,trivial⟩⟩
end Go.Hx
end
section
namespace Go.Hx
open Go.Proofs
set_option maxRecDepth 100000
theorem tt:ai Tryz.prog 15:=⟨Tryz.f15,Tryz.func15,by kernel_rfl,by kernel_rfl⟩
theorem ui (t:Tbl) (add rem:List Fd) (ht:TOk t) (hna:t.attrs.length ≤ 8) (hnr:t.rows.length ≤ 200) (hA:add.length ≤ 68719476736) (hR:rem.length ≤ 68719476736):cg Tryz.prog 15 [.one (.ptr 1000 0),t.pc.toH] (mst t (ap t) add rem).objs (.v (.one (.p (.raw (.bool true))))) (mst t (ap t) add rem).objs [1000]:=by
 refine cw (nt:=36) ae Tryz.func15 rfl rfl l9 rfl ?_
 have hfl:=du hna
 have e1:=anc ht hnr
 have e2:=aq9 ht hnr hna
 have e3:=api ht hna
 refine sx7 ?_;refine m9 0 ?_;refine qy ?_;refine a6 ?_;refine sx7 ?_;refine qy ?_;refine rc rfl rfl rfl rfl rfl rfl arj (av1 t) (CoL.refl _) rfl rfl ?_;(iterate 5 refine qy ?_);refine a6 ?_;refine a7 ?_
 refine ay (E:=b5) ae ak [0,1,2,3,4,5,6,7,8,9,10,11,12,13,14,15,16,17,18,19,20,21,22,23,24] ?_;refine qy ?_
 refine ax rfl rfl rfl rfl rfl rfl arb (avb t (ap t) add rem ht) (bo.refl _) ⟨u9,u9,trivial⟩ rfl rfl ?_;refine qy ?_;refine rc rfl rfl rfl rfl rfl rfl asj (c47 t t ht.ok ht.ok) (CoL.refl _) rfl rfl ?_
 refine qy ?_;refine b4 rfl rfl (fun r0=>?_) (fun r0=>?_)
 ·
  have h0:=r0
  refine qy ?_ (hg:=(gtt r0));refine ax rfl rfl rfl rfl rfl rfl at6 (aph t (ap t) add rem (by omega)) (bo.refl _) ⟨u9,u9,trivial⟩ rfl (gtt r0) ?_;refine qy ?_ (hg:=(gtt r0))
  refine rc rfl rfl rfl rfl rfl rfl asr (ap6 (mi t.rows) (a5l t)) (CoL.refl _) rfl (gtt r0) ?_;(iterate 2 refine qy ?_);refine b4 rfl rfl (fun r1=>?_) (fun r1=>?_)
  ·
   have h1:=r1
   have h1:=ci r0 h1
   refine qy ?_ (hg:=(gtt r1));refine ax rfl rfl rfl rfl rfl rfl mz (qh t (ap t) add rem hfl hA hR) (bo.refl _) ⟨u9,u9,trivial⟩ rfl (gtt r1) ?_;refine qy ?_ (hg:=(gtt r1))
   refine rc rfl rfl rfl rfl rfl rfl asf (av9 t) (CoL.refl _) rfl (gtt r1) ?_;refine rc rfl rfl rfl rfl rfl rfl n7 (n4 (ap t) (a40 t)) (CoL.refl _) rfl (gtt r1) ?_;(iterate 2 refine qy ?_)
   refine b4 rfl rfl (fun r2=>?_) (fun r2=>?_)
   ·
    have h2:=r2
    have h2:=ci r1 h2
    refine qy ?_ (hg:=(gtt r2));refine ax rfl rfl rfl rfl rfl rfl a97 (aby t (ap t) add rem hna) (bo.refl _) ⟨u9,u9,trivial⟩ rfl (gtt r2) ?_;refine qy ?_ (hg:=(gtt r2))
    refine rc rfl rfl rfl rfl rfl rfl ate (aq1 t ht) (CoL.refl _) rfl (gtt r2) ?_
    refine rc rfl rfl rfl rfl rfl rfl ac1 (al8 (tv (prs t.rows) t.attrs.length) (a60 t.rows t.attrs.length)) (CoL.refl _) rfl (gtt r2) ?_;(iterate 2 refine qy ?_);refine a6 ?_;refine ⟨by kernel_rfl, ?_⟩
    refine aw ?_;refine ⟨.inr rfl, ?_⟩
    exact ⟨_,_,rfl,(by (repeat' apply And.intro) <;> first | trivial | exact Nat.le_of_ble_eq_true rfl),(cob (by simp_all)),⟨u9,u9,trivial⟩⟩
   ·
    have h2:=r2
    have h2:=ci r1 h2
    (iterate 5 refine k9 (gft r2) ?_);refine rq rfl rfl rfl rfl rfl ?_ (hp:=r2);refine qy ?_;refine a6 ?_;refine ⟨by kernel_rfl, ?_⟩;refine aw ?_;refine ⟨.inr rfl, ?_⟩
    exact ⟨_,_,rfl,(by (repeat' apply And.intro) <;> first | trivial | exact Nat.le_of_ble_eq_true rfl),(cob (by simp_all)),⟨u9,u9,trivial⟩⟩
  ·
   have h1:=r1
   have h1:=ci r0 h1
   (iterate 5 refine k9 (gft r1) ?_);refine rq rfl rfl rfl rfl rfl ?_ (hp:=r1);refine qy ?_;(iterate 5 refine k9 rfl ?_);(iterate 2 refine qy ?_);refine a6 ?_;refine ⟨by kernel_rfl, ?_⟩;refine aw ?_
   refine ⟨.inr rfl, ?_⟩
   exact ⟨_,_,rfl,(by (repeat' apply And.intro) <;> first | trivial | exact Nat.le_of_ble_eq_true rfl),(cob (by simp_all)),⟨u9,u9,trivial⟩⟩
 ·
  have h0:=r0
  (iterate 4 refine k9 (gft r0) ?_);refine rq rfl rfl rfl rfl rfl ?_ (hp:=r0);refine qy ?_;(iterate 5 refine k9 rfl ?_);(iterate 2 refine qy ?_);(iterate 5 refine k9 rfl ?_);(iterate 2 refine qy ?_);refine a6 ?_
  refine ⟨by kernel_rfl, ?_⟩;refine aw ?_;refine ⟨.inr rfl, ?_⟩
  exact ⟨_,_,rfl,(by (repeat' apply And.intro) <;> first | trivial | exact Nat.le_of_ble_eq_true rfl),(cob (by simp_all)),⟨u9,u9,trivial⟩⟩
end Go.Hx
end
section
namespace Go.Hx
open Go.Proofs
set_option maxRecDepth 100000
theorem ai9:ai Tryz.prog 20:=⟨Tryz.f20,Tryz.func20,by kernel_rfl,by kernel_rfl⟩
theorem amx (x:Scr) (hx:12 < x.ops.length):cg Tryz.prog 20 [x.pc.toH] [] (.tup [.one (.p (.raw (.pointer none))),T0.pc.toH, .one (.p (.raw (.bool false)))]) [] []:=by
 refine cw (nt:=38) ae Tryz.func20 rfl rfl l9 rfl ?_;refine sx7 ?_;refine m9 0 ?_;refine qy ?_;refine m9 1 ?_;refine qy ?_;refine a6 ?_;refine a7 ?_;refine sx7 ?_;(iterate 4 refine qy ?_)
 refine a6 ?_;refine a8 _ rfl (fun r0=>?_) (fun r0=>?_)
 ·
  have h0:=of_decide_eq_true r0
  try simp only [ty] at h0
  refine sx7 ?_;(iterate 2 refine qy ?_);refine s9 ?_;refine qy ?_;refine a6 ?_;refine aw ?_;refine ⟨.inr rfl, ?_⟩
  exact ⟨_,_,rfl,(by (repeat' apply And.intro) <;> first | trivial | exact Nat.le_of_ble_eq_true rfl),⟨nn.refl _,⟨CoP.refl _,bc,bc,trivial⟩,nn.refl _,trivial⟩,trivial⟩
 ·
  have h0:=of_decide_eq_false r0
  try simp only [ty] at h0
  exfalso
  omega
theorem anp (x:Scr) (hx:¬ 12 < x.ops.length):cg Tryz.prog 20 [x.pc.toH] [] (.tup [.one (.ptr 902 0),(fq sR (nmS x)).pc.toH, .one (.p (.raw (.bool true)))]) ((atx sR (nmS x)).objsAt 902) []:=by
 refine cw (nt:=38) ae Tryz.func20 rfl rfl l9 rfl ?_
 have hn5:=x.n.toNat_lt
 have eT:a14 sR (nmS x) = fq sR (nmS x):=if_pos (ahv x)
 refine sx7 ?_;refine m9 0 ?_;refine qy ?_;refine m9 1 ?_;refine qy ?_;refine a6 ?_;refine a7 ?_;refine sx7 ?_;(iterate 4 refine qy ?_);refine a6 ?_;refine a8 _ rfl (fun r0=>?_) (fun r0=>?_)
 ·
  have h0:=of_decide_eq_true r0
  try simp only [ty] at h0
  exfalso
  omega
 ·
  have h0:=of_decide_eq_false r0
  try simp only [ty] at h0
  refine aa ?_;refine sx7 ?_;(iterate 4 refine qy ?_);refine rc rfl rfl rfl rfl rfl rfl ars (aqk (x.n.toNat % 5) (by omega)) (CoL.refl _) rfl rfl ?_;refine qy ?_;refine a6 ?_;refine sx7 ?_;refine qy ?_
  refine ax rfl rfl rfl rfl rfl rfl ab9 (ab2 sR (nmS x) (by have:=a6p x;omega) (ahv x)) (bo.refl _) trivial rfl rfl ?_;(iterate 5 refine qy ?_);refine a6 ?_;refine sx7 ?_;refine qy ?_
  refine rc rfl rfl rfl rfl rfl rfl atv (aum sR (nmS x) (by have:=a6p x;omega)) (CoL.refl _) rfl rfl ?_;(iterate 3 refine qy ?_);refine m9 2 ?_;refine s9 ?_;refine qy ?_;refine a6 ?_;refine a7 ?_
  refine ay (E:=b5) ae ak [0,1,2,3,4,5,6,7,8,9,10] ?_;(iterate 5 refine qy ?_);refine b4 rfl rfl (fun r1=>?_) (fun r1=>?_)
  ·
   have h1:=of_decide_eq_true r1
   try simp only [ty] at h1
   (iterate 2 refine qy ?_ (hg:=(gtt r1)));(iterate 2 refine qy ?_);refine s9 ?_;refine qy ?_;refine a6 ?_;refine ⟨by kernel_rfl, ?_⟩;refine aw ?_;refine ⟨.inr rfl, ?_⟩
   rw [eT]
   exact ⟨_,_,rfl,(by (repeat' apply And.intro) <;> first | trivial | exact Nat.le_of_ble_eq_true rfl),CoR.refl _,⟨u9,u9,trivial⟩⟩
  ·
   have h1:=of_decide_eq_false r1
   try simp only [ty] at h1
   exact absurd trivial h1
theorem avh:cg Tryz.prog 18 [.one (.ptr 1000 0),rA1.pc.toH] (mst tA0 (ap tA0) [] []).objs (.v (.one (.p (.raw (.int .i64 (0)))))) (kb tA1 (ap tA0)).objs [1000]:=by
 have h:=a4w tA0 (ap tA0) [] [] aqc (by decide) amn rA1
 rw [av5,aqv] at h
 exact h
theorem avx:cg Tryz.prog 18 [.one (.ptr 1000 0),rA2.pc.toH] (kb tA1 (ap tA0)).objs (.v (.one (.p (.raw (.int .i64 (0)))))) (kb tA2 (ap tA1)).objs [1000]:=by
 have h:=a4w tA1 (ap tA1) (dl (ap tA1) (ap tA0)) (dl (ap tA0) (ap tA1)) atc (by decide) a8z rA2
 rw [aug,as3] at h
 exact h
theorem ur:ai Tryz.prog 10:=⟨Tryz.f10,Tryz.func10,by kernel_rfl,by kernel_rfl⟩
theorem nu  : al Tryz.prog 10 [] (az [pB true]):=by
 refine ag (nt:=73) ae Tryz.func10 rfl rfl l9 ?_;refine sx7 ?_;refine qy ?_;refine a6 ?_;refine a7 ?_;refine f7 [0] [1,2,3,4,5,6] rfl ?_;refine gf (E:=b5) ae ?_;refine m9 100 ?_
 refine a6 ?_;refine sb ?_;refine a0f 6 rfl rfl rfl ?_;refine l7 ?_;refine gf (E:=b5) (L1:=[1,2,3,4,5,6]) (L2:=[]) ae ?_
 refine ax rfl rfl rfl rfl rfl rfl ab9 (ab2 sR [⟨#[97]⟩,⟨#[98]⟩] (by decide) awa) (⟨nn.refl _,xe (CoP.refl _) (CoP.refl _),trivial⟩) trivial rfl rfl ?_;(iterate 5 refine qy ?_);refine a6 ?_
 refine ic ?_;(iterate 2 refine a7 ?_);refine f7 [0,1,2,3,4,5,6,7,8] [9,10,11,12,13] rfl ?_;refine gf (E:=b5) ae ?_;(iterate 3 refine qy ?_)
 refine b4 rfl rfl (fun r0=>?_) (fun r0=>?_)
 ·
  have h0:=r0
  have h0:=of_decide_eq_false (b8 h0)
  try simp only [ty] at h0
  exfalso
  simp_all
 ·
  have h0:=r0
  have h0:=of_decide_eq_true (b9 h0)
  try simp only [ty] at h0
  (iterate 2 refine qy ?_ (hg:=(gff r0)));(iterate 2 refine qy ?_);refine b4 rfl rfl (fun r1=>?_) (fun r1=>?_)
  ·
   have h1:=r1
   have h1:=bp r0 h1
   exfalso
   simp_all
  ·
   have h1:=r1
   have h1:=bp r0 h1
   refine qy ?_ (hg:=(gff r1));refine rm 101 rfl rfl rfl rfl rfl (gff r1) ?_;refine a6 ?_;refine sb ?_;refine a0f 18 rfl rfl rfl ?_;refine l7 ?_
   refine gf (E:=b5) (L1:=[9,10,11,12,13]) (L2:=[]) ae ?_;refine rc rfl rfl rfl rfl rfl rfl agw (am0 [1,1] (by decide)) (⟨CoC.one (xe (CoP.refl _) (CoP.refl _)),trivial⟩) rfl (gff r1) ?_
   refine qy ?_ (hg:=(gff r1));refine ax rfl rfl rfl rfl rfl rfl a00 ((avh).swap 1000 902) (bo.refl _) ⟨u9,u9,trivial⟩ rfl (gff r1) ?_;refine qy ?_ (hg:=(gff r1));refine qy ?_;refine a6 ?_
   refine ic ?_;refine a8 _ rfl (fun r2=>?_) (fun r2=>?_)
   ·
    have h2:=r2
    have h2:=bp r1 h2
    have h2:=of_decide_eq_false (b8 h2)
    try simp only [ty] at h2
    exfalso
    simp_all
   ·
    have h2:=r2
    have h2:=bp r1 h2
    have h2:=of_decide_eq_true (b9 h2)
    try simp only [ty] at h2
    refine aa ?_;(iterate 2 refine a7 ?_);refine f7 [0,1,2,3,4,5,6,7,8,9,10,11,12,13,14,15,16] [17,18,19,20,21] rfl ?_;refine gf (E:=b5) ae ?_;refine qy ?_
    refine ax rfl rfl rfl rfl rfl rfl mz ((qh tA1 (ap tA1) (dl (ap tA1) (ap tA0)) (dl (ap tA0) (ap tA1)) a8z auo av3).swap 1000 902) (bo.refl _) ⟨u9,u9,trivial⟩ rfl rfl ?_
    (iterate 2 refine qy ?_);refine m9 102 ?_
    refine rc rfl rfl rfl rfl rfl rfl n7 (n4 (ap tA1) [⟨0,1⟩,⟨0,2⟩]) (⟨CoC.refl _,CoC.one (asd (CoP.refl _) (CoP.refl _) (CoP.refl _) (CoP.refl _)),trivial⟩) rfl rfl ?_;(iterate 2 refine qy ?_)
    refine b4 rfl rfl (fun r3=>?_) (fun r3=>?_)
    ·
     have h3:=r3
     have h3:=b8 h3
     exfalso
     simp [akz] at r3
    ·
     have h3:=r3
     have h3:=b9 h3
     refine qy ?_ (hg:=(gff r3))
     refine ax rfl rfl rfl rfl rfl rfl a97 ((aby tA1 (ap tA1) (dl (ap tA1) (ap tA0)) (dl (ap tA0) (ap tA1)) (by decide)).swap 1000 902) (bo.refl _) ⟨u9,u9,trivial⟩ rfl (gff r3) ?_
     refine rm 103 rfl rfl rfl rfl rfl (gff r3) ?_;refine rc rfl rfl rfl rfl rfl rfl ac1 (al8 (tv (prs tA1.rows) tA1.attrs.length) [0]) (⟨CoC.refl _,CoC.one (am4 (CoP.refl _)),trivial⟩) rfl (gff r3) ?_
     refine qy ?_ (hg:=(gff r3));(iterate 2 refine qy ?_);refine b4 rfl rfl (fun r4=>?_) (fun r4=>?_)
     ·
      have h4:=r4
      have h4:=bp r3 h4
      have h4:=b8 h4
      exfalso
      simp [akz,aqn] at r4
     ·
      have h4:=r4
      have h4:=bp r3 h4
      have h4:=b9 h4
      refine qy ?_ (hg:=(gff r4));refine rm 104 rfl rfl rfl rfl rfl (gff r4) ?_;refine a6 ?_;refine sb ?_;refine a0f 40 rfl rfl rfl ?_;refine l7 ?_
      refine gf (E:=b5) (L1:=[17,18,19,20,21]) (L2:=[]) ae ?_;refine rc rfl rfl rfl rfl rfl rfl agw (am0 [1,2] (by decide)) (⟨CoC.one (xe (CoP.refl _) (CoP.refl _)),trivial⟩) rfl (gff r4) ?_
      refine qy ?_ (hg:=(gff r4));refine ax rfl rfl rfl rfl rfl rfl a00 ((avx).swap 1000 902) (bo.refl _) ⟨u9,u9,trivial⟩ rfl (gff r4) ?_;refine qy ?_ (hg:=(gff r4));refine qy ?_;refine a6 ?_
      refine ic ?_;refine a8 _ rfl (fun r5=>?_) (fun r5=>?_)
      ·
       have h5:=r5
       have h5:=bp r4 h5
       have h5:=of_decide_eq_false (b8 h5)
       try simp only [ty] at h5
       exfalso
       simp [akz,aqn] at r5
      ·
       have h5:=r5
       have h5:=bp r4 h5
       have h5:=of_decide_eq_true (b9 h5)
       try simp only [ty] at h5
       refine aa ?_;refine sx7 ?_;refine qy ?_
       refine ax rfl rfl rfl rfl rfl rfl art ((au0 tA2 (ap tA2) (dl (ap tA2) (ap tA1)) (dl (ap tA1) (ap tA2)) afv am9 am1).swap 1000 902) (bo.refl _) ⟨u9,u9,trivial⟩ rfl rfl ?_
       (iterate 5 refine qy ?_);refine a6 ?_;refine sx7 ?_;refine qy ?_
       refine ax rfl rfl rfl rfl rfl rfl mz ((qh tA2 (ap tA2) (dl (ap tA2) (ap tA1)) (dl (ap tA1) (ap tA2)) afv am9 am1).swap 1000 902) (bo.refl _) ⟨u9,u9,trivial⟩ rfl rfl ?_
       refine qy ?_;refine m9 105 ?_;refine rc rfl rfl rfl rfl rfl rfl n7 (n4 (ap tA2) [⟨0,1⟩]) (⟨CoC.refl _,CoC.one (aj8 (CoP.refl _) (CoP.refl _)),trivial⟩) rfl rfl ?_;refine qy ?_
       refine b4 rfl rfl (fun r6=>?_) (fun r6=>?_)
       ·
        have h6:=r6
        refine qy ?_ (hg:=(gtt r6))
        refine ax rfl rfl rfl rfl rfl rfl a97 ((aby tA2 (ap tA2) (dl (ap tA2) (ap tA1)) (dl (ap tA1) (ap tA2)) (by decide)).swap 1000 902) (bo.refl _) ⟨u9,u9,trivial⟩ rfl (gtt r6) ?_
        refine rm 106 rfl rfl rfl rfl rfl (gtt r6) ?_;refine rc rfl rfl rfl rfl rfl rfl ac1 (al8 (tv (prs tA2.rows) tA2.attrs.length) [2]) (⟨CoC.refl _,CoC.one (am4 (CoP.refl _)),trivial⟩) rfl (gtt r6) ?_
        (iterate 2 refine qy ?_);refine b4 rfl rfl (fun r7=>?_) (fun r7=>?_)
        ·
         have h7:=r7
         have h7:=ci r6 h7
         (iterate 3 refine qy ?_ (hg:=(gtt r7)));(iterate 2 refine qy ?_);refine b4 rfl rfl (fun r8=>?_) (fun r8=>?_)
         ·
          have h8:=r8
          have h8:=ci r7 h8
          have h8:=of_decide_eq_true h8
          try simp only [ty] at h8
          (iterate 2 refine qy ?_ (hg:=(gtt r8)));refine rm 107 rfl rfl rfl rfl rfl (gtt r8) ?_
          refine rc rfl rfl rfl rfl rfl rfl n7 (n4 (dl (ap tA1) (ap tA2)) [⟨0,2⟩]) (⟨CoC.refl _,CoC.one (aj8 (CoP.refl _) (CoP.refl _)),trivial⟩) rfl (gtt r8) ?_;(iterate 2 refine qy ?_)
          refine a6 ?_
          exact hx8 rfl rfl rfl (⟨ccb (by rw [aq3,awl];simp [akm,atd]),trivial⟩)
         ·
          have h8:=r8
          have h8:=ci r7 h8
          have h8:=of_decide_eq_false h8
          try simp only [ty] at h8
          exact absurd (by rw [aq3];rfl) h8
        ·
         have h7:=r7
         have h7:=ci r6 h7
         exfalso
         simp [akm,atd] at r7
       ·
        have h6:=r6
        exfalso
        simp [akm] at r6
end Go.Hx
end
section
namespace Go.Hx
theorem aiu {t:Tbl} {o:MOp} (h:¬ opE t o = 0):opT t o = t:=by
 by_cases k2:o.kind.toNat % 4 = 2
 · have hh:=op2 (t:=t) (o:=o) k2
   rw [hh.1] at h
   rw [hh.2,if_neg h]
 · by_cases k3:o.kind.toNat % 4 = 3
   · have hh:=op3 (t:=t) (o:=o) k2 k3
     rw [hh.1] at h
     rw [hh.2,if_neg h]
   · have hh:=op0 (t:=t) (o:=o) k2 k3
     rw [hh.1] at h
     rw [hh.2]
     unfold dh at h
     unfold l3
     split
     · rfl
     · rename_i h1
       rw [if_neg h1] at h
       split
       · rfl
       · rename_i h2
         rw [if_neg h2] at h
         exact absurd rfl h
def nxA (t:Tbl) (o:MOp) (a:List Fd):List Fd:=if opE t o = 0 then dl (ap (opT t o)) (ap t) else a
def nxR (t:Tbl) (o:MOp) (a:List Fd):List Fd:=if opE t o = 0 then dl (ap t) (ap (opT t o)) else a
theorem aot (t:Tbl) (add rem:List Fd) (o:MOp):ym (mst t (ap t) add rem) o = mst (opT t o) (ap (opT t o)) (nxA t o add) (nxR t o rem):=by
 unfold ym nxA nxR
 by_cases h:opE t o = 0
 · rw [if_pos h,if_pos h,if_pos h]
 · rw [if_neg h,if_neg h,if_neg h,aiu h]
theorem ai7 {t:Tbl} {o:MOp} {a b:List Fd} (h:opE t o = 0):nxA t o a = dl (ap (opT t o)) (ap t) ∧ nxR t o b = dl (ap t) (ap (opT t o)):=⟨if_pos h,if_pos h⟩
theorem ag6 {t:Tbl} {o:MOp} {a b:List Fd} (h:¬ opE t o = 0):nxA t o a = a ∧ nxR t o b = b:=⟨if_neg h,if_neg h⟩
structure ROk (t:Tbl) (a r:List Fd):Prop where
 ok:TOk t
 na:t.attrs.length ≤ 8
 nr:t.rows.length ≤ 200
 la:a.length ≤ 68719476736
 lr:r.length ≤ 68719476736
theorem ROk.op {t:Tbl} {a r:List Fd} (h:ROk t a r) (o:MOp):ROk (opT t o) (nxA t o a) (nxR t o r):=by
 by_cases he:opE t o = 0
 · obtain ⟨h1,h2,_,h3⟩:=aus he h.nr
   have hn:(opT t o).attrs.length ≤ 8:=by rw [h2];exact h.na
   refine ⟨h1,hn,h3, ?_, ?_⟩
   · rw [(ai7 (b:=r) he).1];exact Nat.le_trans (me _ _) (du hn)
   · rw [(ai7 (a:=a) he).2];exact Nat.le_trans (me _ _) (du h.na)
 · rw [aiu he,(ag6 (b:=r) he).1,(ag6 (a:=a) he).2]
   exact h
theorem ao3:∀ k,k < 5 → c6 (fq sR (fv.take k)) = 0:=by decide
theorem ROk.new (x:Scr):ROk (fq sR (nmS x)) [] []:=by
 have h:=a6p x
 refine ⟨dj.1 (ao3 _ (by omega)), ?_, ?_, ?_, ?_⟩
 · show (nmS x).length ≤ 8;omega
 · show (0:Nat) ≤ 200;omega
 · show (0:Nat) ≤ _;omega
 · show (0:Nat) ≤ _;omega
end Go.Hx
end
section
namespace Go.Hx
open Go.Proofs
set_option maxRecDepth 100000
theorem auq (t:Tbl) (a r:List Fd) (h:ROk t a r) (o:MOp):cg Tryz.prog 22 [.one (.ptr 1000 0), .one (.p (.raw (.int .i64 ((t.attrs.length:Nat))))),o.pc.toH] (mst t (ap t) a r).objs (.v (.one (.p (.raw (.int .i64 (opE t o)))))) (mst (opT t o) (ap (opT t o)) (nxA t o a) (nxR t o r)).objs [1000]:=by
 have h:=av8 t (ap t) a r h.ok h.na (du h.na) o
 rw [aot] at h
 exact h
end Go.Hx
end
section
namespace Go.Hx
def awy (d y:Fd):Bool:=decide (y.rhs = d.rhs) && decide (sub y.lhs d.lhs)
def ax3 (o:MOp):MOp:=⟨o.kind % 2,o.id,o.attr,o.codes⟩
theorem zj {α:Type} [Inhabited α] {l:List α} {i:Nat} (h:i < l.length):l.getD i default ∈ l:=by
 rw [List.getD_eq_getElem?_getD,List.getElem?_eq_getElem h];exact List.getElem_mem h
end Go.Hx
end
section
namespace Go.Hx
theorem a05 {l:List Row} (hs:ep l) {i j:Nat} (hij:j < i) (hi:i < l.length):(l.getD j default).id < (l.getD i default).id:=by
 have:=List.pairwise_iff_getElem.1 hs j i (by omega) hi hij
 rw [List.getD_eq_getElem?_getD,List.getD_eq_getElem?_getD,List.getElem?_eq_getElem hi,List.getElem?_eq_getElem (show j < l.length by omega)]
 exact this
theorem aag {l:List Row} (hs:ep l) {i:Nat} (hi:i < l.length):am l (l.getD i default).id = i:=by
 unfold am
 refine vj hi (fun j hj=>decide_eq_false ?_) (decide_eq_true rfl)
 have:=a05 hs hj hi
 omega
theorem aog {t:Tbl} {r:Row} (h:c4 t r = 0):d6 (ck t r) r.id = 0 ∧ lp (ck t r) r.id = t:=by
 obtain ⟨i,h1,h2,h3⟩:=agp h
 have hV:=um h
 have hx:am (ck t r).rows r.id = i:=by
  have:=aag hV.sorted h1
  rw [h2] at this
  exact this
 have he:d6 (ck t r) r.id = 0:=by
  unfold d6
  rw [if_neg (by rw [dj.2 hV];decide),if_pos (by rw [hx];omega)]
 refine ⟨he, ?_⟩
 rw [mj he,hx,Int.toNat_natCast,h3,gz h]
theorem ahu:∀ k,k < 12 → cu (ofI ((k:Nat):Int)) = true:=by decide
theorem aau (o:MOp):cu (gj o) = true:=by
 unfold gj
 split
 · unfold ofV
   have:=ahu ((o.codes.getD 0 default).toNat % 12) (by omega)
   rw [show (((o.codes.getD 0 default).toNat % 12:Nat):Int) = ((o.codes.getD 0 default).toNat:Int) % 12 by omega] at this
   exact this
 · decide
theorem af3 {t:Tbl} {id a:Int} {v:Val} (ht:TOk t) (h1:0 ≤ am t.rows id) (h2:0 ≤ a) (h3:a < t.attrs.length) (h4:cu v = true):c8 t id a v = 0:=by
 unfold c8
 rw [if_neg (by rw [dj.2 ht];decide),if_neg (by omega),if_neg (by omega),if_neg (by rw [h4];decide)]
def uv (t:Tbl) (id a:Int):Val:=(t.rows.getD (max (am t.rows id) 0).toNat default).vals.getD a.toNat default
theorem an9 {t:Tbl} {id a:Int} (ht:TOk t) (h1:0 ≤ am t.rows id) (h2:0 ≤ a) (h3:a < t.attrs.length):cu (uv t id a) = true:=by
 have hix:=yl h1
 unfold uv
 rw [hix.1]
 have hm:=fp ht.rs _ (List.getElem_mem hix.2)
 have hw:=ht.width hix.2
 have hg:=k7 t.rows _ hix.2
 rw [hg] at hw ⊢
 have ha:a.toNat < (t.rows[(am t.rows id).toNat]).vals.length:=by rw [hw];omega
 rw [List.getD_eq_getElem?_getD,List.getElem?_eq_getElem ha]
 exact List.all_eq_true.1 hm.2.2 _ (List.getElem_mem ha)
theorem ac8 {α:Type} [Inhabited α] {l:List α} {i:Nat} (hi:i < l.length) (v:α):(l.set i v).set i (l.getD i default) = l:=by
 rw [List.set_set]
 apply List.ext_getElem?
 intro j
 rw [List.getElem?_set]
 split
 · rename_i e
   subst e
   rw [List.getElem?_eq_getElem hi,List.getD_eq_getElem?_getD,List.getElem?_eq_getElem hi]
   rfl
 · rfl
theorem adv {t:Tbl} {id a:Int} {v:Val} (h:c8 t id a v = 0):c8 (chT t id a v) id a (uv t id a) = 0 ∧ chT (chT t id a v) id a (uv t id a) = t:=by
 obtain ⟨h1,h2,h3,h4,h5⟩:=wg h
 have hT:=dj.1 h1
 have hV:=a19 h
 have hix:=yl h2
 have hrows:(chT t id a v).rows = j3 t.rows (am t.rows id).toNat a.toNat v:=by rw [jv h]
 have hat:(chT t id a v).attrs = t.attrs:=by rw [jv h]
 have hg:(chT t id a v).rows.getD (am t.rows id).toNat default = { t.rows.getD (am t.rows id).toNat default with vals:=(t.rows.getD (am t.rows id).toNat default).vals.set a.toNat v }:=by
  rw [hrows]
  unfold j3
  rw [List.getD_eq_getElem?_getD,List.getElem?_set_self hix.2]
  rfl
 have hid:(t.rows.getD (am t.rows id).toNat default).id = id:=by
  have:=atr h2
  rw [hix.1] at this
  exact this
 have hx:am (chT t id a v).rows id = ((am t.rows id).toNat:Int):=by
  have:=aag hV.sorted (i:=(am t.rows id).toNat) (by rw [a4z h];exact hix.2)
  rw [hg] at this
  have e:({ t.rows.getD (am t.rows id).toNat default with vals:=(t.rows.getD (am t.rows id).toNat default).vals.set a.toNat v }:Row).id = id:=hid
  rw [e] at this
  exact this
 have he:c8 (chT t id a v) id a (uv t id a) = 0:=af3 hV (by rw [hx];omega) h3 (by rw [hat];exact h4) (an9 hT h2 h3 h4)
 refine ⟨he, ?_⟩
 rw [jv he,hx,Int.toNat_natCast,hrows]
 have hw:=hT.width hix.2
 have hs:j3 (j3 t.rows (am t.rows id).toNat a.toNat v) (am t.rows id).toNat a.toNat (uv t id a) = t.rows:=by
  rw [← hrows]
  unfold j3
  rw [hg]
  unfold uv
  rw [hix.1]
  show (chT t id a v).rows.set (am t.rows id).toNat ⟨_,(((t.rows.getD (am t.rows id).toNat default).vals.set a.toNat v).set a.toNat ((t.rows.getD (am t.rows id).toNat default).vals.getD a.toNat default))⟩ = t.rows
  rw [ac8 (by rw [hw];omega),hrows]
  unfold j3
  exact ac8 hix.2 _
 rw [hs,jv h]
def dA (t t2:Tbl):List Fd:=dl (ap t) (ap t2)
theorem a5s {t t2:Tbl} (h:t.attrs.length ≤ 8):(dA t t2).length ≤ 68719476736:=Nat.le_trans (me _ _) (du h)
theorem ROk.back {t t2:Tbl} {a r:List Fd} (h:ROk t a r) (h2:t2.attrs.length ≤ 8):ROk t (dA t t2) (dA t2 t):=⟨h.ok,h.na,h.nr,a5s h.na,a5s h2⟩
theorem bkA {t t2:Tbl} {a r:List Fd} (h:ROk t a r) (h2:t2.attrs.length ≤ 8):∃ a2 r2,ROk t a2 r2 ∧ mst t (ap t) (dA t t2) (dA t2 t) = mst t (ap t) a2 r2:=⟨_,_,h.back h2,rfl⟩
theorem bkB {t:Tbl} {a r:List Fd} {w:Row} (h:ROk t a r) (he:¬ dh t w = 0):∃ a2 r2,ROk t a2 r2 ∧ qe (mst t (ap t) a r) w = mst t (ap t) a2 r2:=⟨a,r,h,if_neg he⟩
theorem bkC {t:Tbl} {a r:List Fd} (h:ROk t a r):∃ a2 r2,ROk t a2 r2 ∧ mst t (ap t) a r = mst t (ap t) a2 r2:=⟨a,r,h,rfl⟩
theorem ain {t:Tbl} {a r:List Fd} {w:Row} (he:dh t w = 0):qe (mst t (ap t) a r) w = kb (ck t w) (ap t):=by
 unfold qe
 rw [if_pos he,(tf he).2.2]
theorem aq8 {t:Tbl} {w:Row} (he:dh t w = 0):d6 (ck t w) w.id = 0 ∧ a0l (kb (ck t w) (ap t)) w.id = mst t (ap t) (dA t (ck t w)) (dA (ck t w) t):=by
 have hd:=aog (tf he).1
 refine ⟨hd.1, ?_⟩
 unfold a0l
 rw [if_pos hd.1,hd.2]
 rfl
theorem auw {t:Tbl} {id b:Int} {v:Val} (h:c8 t id b v = 0):mCh (kb (chT t id b v) (ap t)) id b (uv t id b) = mst t (ap t) (dA t (chT t id b v)) (dA (chT t id b v) t):=by
 have hd:=adv h
 unfold mCh
 rw [if_pos hd.1,hd.2]
 rfl
theorem a6l {t:Tbl} {w:Row} (he:dh t w = 0):(ck t w).attrs = t.attrs:=by rw [gz (tf he).1]
theorem acb {t:Tbl} {id b:Int} {v:Val} (h:c8 t id b v = 0):(chT t id b v).attrs = t.attrs:=by rw [jv h]
end Go.Hx
end
