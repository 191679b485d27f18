/- A part of the proof: SrQ Mw11 Mw12 Mw13 Ms7 Mw14 Mw15 Mw16. -/
import Derived.Test.YtaegkccfbmekbaaGreatNx26
import Derived.Test.YtaegkccfbmekbaaGreatNx37
import Derived.Test.YtaegkccfbmekbaaGreatNx38
import Derived.Test.YtaegkccfbmekbaaGreatNx39
set_option linter.all false
section
namespace Go.Hx
open Go.Proofs Go.RowKit Go.Sort
set_option maxRecDepth 100000
abbrev as1 (c:AS → Int) (s:AS):List Value:=[.int .u32 (asI s), .int .i64 (c s)]
abbrev eC (c:AS → Int) (s:AS) (j:Nat):PV:=.raw ((as1 c s).getD j (.bool false))
theorem asz:ai Tryz.prog 68:=⟨Tryz.f68,Tryz.func68,by kernel_rfl,by kernel_rfl⟩
theorem aqk (g:Nat) (caps:Nat → PV) (hg:∀ args w,(callFunc g args).run Tryz.prog w = .ok (.enter g args) w) (c:AS → Int) (hc:∀ x y:AS,ak Tryz.prog g [.agg [asC x,nI (c x)], .agg [asC y,nI (c y)]] (av [pI (qb x y)])) (id:Nat) (l:List AS) (hsz:l.length ≤ 8589934592) :
 cj Tryz.prog 68 [.one (.ref id l.length), .one (.p (.fn g 0 caps))] [(id, .arr true 2 119 l.length (lf (eC c) l))] (.tup []) [(id, .arr true 2 119 l.length (lf (eC c) (srt l)))] [id]:=by
 have h:=af9 Tryz.laysSortC 2 (by decide) Tryz.isAgg119 Tryz.sizeOf119 (as1 c) (fun _=>rfl) (fun x v hv=>by
  rcases List.mem_cons.1 hv with rfl | hv
  · rfl
  · rcases List.mem_cons.1 hv with rfl | hv
    · rfl
    · cases hv) qb a9t (fun x y h k=>by
  rw [po] at h k
  apply Classical.byContradiction
  intro hne
  rcases pf hne with h2 | h2
  · rw [h] at h2;cases h2
  · rw [k] at h2;cases h2) g caps hg (fun x y=>hc x y) id 119 l hsz
 have e:(fun x y:AS=>!(ltOf qb) y x) = fun x y=>!bef y x:=by
  funext x y
  rw [po]
 rw [e] at h
 exact h
theorem adl {K L:List AS} (hn:K.Nodup) (h:∀ z,z ∈ K ↔ z ∈ L):srt K = ord L:=by
 refine ago ?_ fun z=>by rw [ae5];exact h z
 have h:=List.pairwise_mergeSort (le:=fun x y:AS=>!bef y x) (fun a b c h k=>by
  simp only [Bool.not_eq_true'] at *
  rw [Bool.eq_false_iff,ne_eq,gq] at *
  omega) (fun a b=>by
  simp only [Bool.or_eq_true,Bool.not_eq_true']
  rw [Bool.eq_false_iff,Bool.eq_false_iff,ne_eq,ne_eq,gq,gq]
  omega) K
 have hn2:(srt K).Nodup:=(List.mergeSort_perm K _).nodup_iff.2 hn
 refine (h.and hn2).imp fun {a b} hab=>?_
 rcases pf hab.2 with h1 | h1
 · exact h1
 · exact absurd h1 (by simpa using hab.1)
theorem adm {es:Array MapEntry} {seen:Array Nat} {K:List AS} (hv:Vis es seen (K.map mkA)):K.Nodup:=by
 have:=hv.nod
 exact (List.pairwise_map.1 this).imp fun h e=>h (by rw [e])
theorem apu {rows:List Row}:∀ i j,i < (ord (prs rows)).length → j < 2 → CoP (lf (eC (d8 rows)) (ord (prs rows)) i j) (lf Cnt.c (mn rows) i j):=fun i j hi hj=>by
 have e:(mn rows).getD i default = afs rows ((ord (prs rows)).getD i default):=by
  unfold mn
  simp [List.getD,hi]
 show CoP _ (Cnt.c ((mn rows).getD i default) j)
 rw [e]
 rcases (by omega:j = 0 ∨ j = 1) with rfl | rfl
 · exact CoP.refl _
 · exact CoP.refl _
theorem anb {rows:List Row} {K:List AS} {b:Bool} (hso:srt K = ord (prs rows)):CoP (.sl K.length 2 b (lf (eC (d8 rows)) (srt K))) (aa9 (mn rows)):=by
 have hl:K.length = (ord (prs rows)).length:=by rw [← hso,a1a]
 refine CoP.sl ?_ (.inl rfl) (fun h=>by cases h) fun i j hi hj=>?_
 · rw [hl];unfold mn;rw [List.length_map]
 · rw [hso];exact apu i j (by rw [← hl];exact hi) hj
theorem avg {K:List AS} (hn:K.Nodup):K.length ≤ 4294967296:=by
 have h:=a35 4294967296 (K.map BitVec.toNat) (List.pairwise_map.2 (hn.imp fun h e=>h (BitVec.eq_of_toNat_eq e))) fun x hx=>by
  obtain ⟨y,_,rfl⟩:=List.mem_map.1 hx
  exact y.isLt
 rw [List.length_map] at h
 exact h
theorem atx {rows:List Row} {K:List AS} (hn:K.Nodup) (h:∀ z,z ∈ K ↔ z ∈ prs rows) (hr:rows.length ≤ 1000):K.length ≤ 1000000:=by
 have e:=adl hn h
 have h1:=a1a K
 rw [e] at h1
 have h2:=ta (prs rows)
 have h3:=a1f rows
 have h4:rows.length * rows.length ≤ 1000000:=Nat.mul_le_mul hr hr
 omega
end Go.Hx
end
section
namespace Go.Hx
open Go.Proofs
set_option maxRecDepth 100000
theorem atz (c:AS → Int) (a b:AS):ak Tryz.prog 69 [.agg [asC a,nI (c a)], .agg [asC b,nI (c b)]] (av [pI (qb a b)]):=by
 refine ag (nt:=19) ae Tryz.func69 rfl rfl l9 ?_;refine sx7 ?_;refine m9 0 ?_;refine m9 1 ?_;refine qy ?_;refine a6 ?_;refine a7 ?_
 refine aw (E:=b5) ae al [0,1,2,3,4,5,6,7,8,9,10,11,12,13,14] ?_;(iterate 2 refine qy ?_);refine rc rfl rfl rfl rfl rfl rfl a03 (a4u _) (CoL.refl _) rfl rfl ?_;(iterate 2 refine qy ?_)
 refine rc rfl rfl rfl rfl rfl rfl a03 (a4u _) (CoL.refl _) rfl rfl ?_;refine rc rfl rfl rfl rfl rfl rfl a9c (af0 _ _) (CoL.refl _) rfl rfl ?_;(iterate 4 refine qy ?_)
 refine rc rfl rfl rfl rfl rfl rfl ahc (amr _ _) (CoL.refl _) rfl rfl ?_;refine m9 2 ?_
 refine rc rfl rfl rfl rfl rfl rfl abm (cOr [fu (bsz a) (bsz b),fu (asI a) (asI b)]) (⟨CoC.one (xl (CoP.refl _) (CoP.refl _)),trivial⟩) rfl rfl ?_;refine qy ?_;refine a6 ?_;refine ⟨by kernel_rfl, ?_⟩
 exact hx8 rfl rfl rfl (⟨cci (aea a b),trivial⟩)
theorem at9:ai Tryz.prog 38:=⟨Tryz.f38,Tryz.func38,by kernel_rfl,by kernel_rfl⟩
theorem apn (t:Tbl) (fds add rem:List Fd) (hnr:t.rows.length ≤ 1000):cj Tryz.prog 38 [.one (.ptr 1000 0)] (mst t fds add rem).objs (.v (.one (.p (aa9 (mn t.rows))))) (mst t fds add rem).objs [1000]:=by
 refine d7 (nt:=25) ae Tryz.func38 rfl rfl l9 rfl ?_;refine sx7 ?_;refine qy ?_;refine a6 ?_;refine sx7 ?_;refine qy ?_;refine a6 ?_;(iterate 2 refine a7 ?_)
 refine fb [] [0,1,2,3,4] rfl ?_;refine gf (E:=b5) (L1:=[0,1,2,3]) (L2:=[4]) ae ?_;(iterate 4 refine qy ?_);refine a6 ?_;refine sa ?_
 refine a07 901 rfl a60 fun b es clock hf=>?_
 refine kw ?_
 refine a3n (k:=4) (L:=[]) 0 rfl rfl fun bi=>?_
 refine ic ?_;refine af ?_;refine du 3 905 true 2 119 (lf (eC (d8 t.rows)) []) (by decide) rfl (CoP.sl rfl (.inr rfl) (fun h=>h) (fun i j hi _=>absurd hi (Nat.not_lt_zero i))) (.inr rfl) rfl ?_
 refine ap (ι:=(Array Nat × List AS)) ⟨[(10,some _)],[(1000,some _),(901,some _)]⟩ ⟨⟨c9,trivial⟩,⟨u9,u9,trivial⟩⟩ (fun v=>⟨[(3,some (.v (.one (.ref 905 v.2.length))))],[(0,some (.ex 2 (.pointer (some ⟨bi,0,none⟩)) bi (.mapIter (some b) clock v.1 clock))),(905,some (.arr true 2 119 v.2.length (lf (eC (d8 t.rows)) v.2)))]⟩) (fun v=>Vis es v.1 (v.2.map mkA)) (fun v=>(leftOf es v.1).size) ((#[],[])) (a6x) ⟨⟨zy,trivial⟩,⟨u9,u9,trivial⟩⟩ ?_
 rintro ⟨s,K⟩ hV
 dsimp only at hV ⊢
 refine a7 ?_;refine fb [] [0,1] rfl ?_;refine a6y (mid:=901) (k:=0) (L:=[1]) rfl hf (fun h0=>?_) (fun e he key v hk hv hev=>?_)
 ·
  have hD:=a67 hf hV h0
  have hnd:K.Nodup:=adm hV
  have hkl:K.length ≤ 1000000:=atx hnd hD hnr
  have hso:srt K = ord (prs t.rows):=adl hnd hD
  refine sa ?_;refine ym 901 rfl hf ?_;refine kw ?_;refine gf (E:=b5) (L1:=[1]) (L2:=[]) ae ?_;refine qy ?_;refine a6 ?_;refine ic ?_;refine a7 ?_
  refine a8 _ rfl (fun e=>by cases e) (fun _=>?_);refine am ?_;refine sx7 ?_;refine qy ?_
  refine ay rfl rfl rfl rfl rfl rfl asz (aqk 69 _ (enters_of Tryz.func69 (by kernel_rfl) rfl) (d8 t.rows) (fun x y=>atz (d8 t.rows) x y) 905 K (by omega)) (br.refl _) ⟨u9,trivial⟩ rfl rfl ?_
  refine a6 ?_;refine a7 ?_;refine dh 3 rfl rfl rfl ?_;refine gy ?_;(iterate 2 refine qy ?_);refine a6 ?_;refine au ?_;refine ⟨.inr rfl, ?_⟩
  exact ⟨_,_,rfl,(by (repeat' apply And.intro) <;> first | trivial | exact Nat.le_of_ble_eq_true rfl),(anb hso),⟨u9,u9,trivial⟩⟩
 ·
  obtain ⟨k,rfl,hck,hy⟩:=o6 hv
  obtain rfl:=aq3 hy
  have hkl2:K.length ≤ 4294967296:=avg (adm hV)
  refine gf (E:=b5) (L1:=[1]) (L2:=[]) ae ?_;refine qy ?_;refine a6 ?_;refine ic ?_;refine a7 ?_;refine a8 _ rfl (fun _=>?_) (fun e=>by cases e);refine aa ?_;refine af ?_
  refine a7 ?_;refine fb [] [0,1,2,3,4] rfl ?_;refine a3p (mid:=901) (k:=0) (L:=[1,2,3,4]) rfl hf he hk hv hev ?_;refine gf (E:=b5) (L1:=[1,2,3,4]) (L2:=[]) ae ?_
  (iterate 4 refine qy ?_);refine a6 ?_;refine ic ?_;refine gy ?_;(iterate 4 refine qy ?_);refine m9 1 ?_
  refine ra 2 true rfl rfl rfl rfl rfl rfl ?_ (hp:=⟨rfl,rfl,rfl,rfl, .inl rfl,(by omega),(by show (K.length + 1) * 16 ≤ _;omega),fun _=>.inl rfl⟩);refine qy ?_;refine a6 ?_
  refine ⟨(s.push e.born,K ++ [k]), ?_, ?_, ?_⟩
  · exact uf hf hV he hk
  · exact left_shrinks es s e he
  · exact ⟨⟨⟨_,rfl,(dj rfl)⟩,c9,trivial⟩,⟨u9,⟨_,rfl,(j0 rfl (CoP.refl _) (CoP.refl _))⟩,u9,u9,trivial⟩⟩
end Go.Hx
end
section
namespace Go.Hx
open Go.Proofs
set_option maxRecDepth 100000
theorem abo:ai Tryz.prog 15:=⟨Tryz.f15,Tryz.func15,by kernel_rfl,by kernel_rfl⟩
theorem a9z (t:Tbl) (add rem:List Fd) (ht:TOk t) (hna:t.attrs.length ≤ 8) (hnr:t.rows.length ≤ 200) (hA:add.length ≤ 68719476736) (hR:rem.length ≤ 68719476736):cj Tryz.prog 15 [.one (.ptr 1000 0),t.pc.toH] (mst t (b8 t) add rem).objs (.v (.one (.p (.raw (.bool true))))) (mst t (b8 t) add rem).objs [1000]:=by
 refine d7 (nt:=36) ae Tryz.func15 rfl rfl l9 rfl ?_
 have hfl:=eq hna
 have e1:=ap9 ht hnr
 have e2:=ai8 ht hnr hna
 have e3:=amz ht hna
 refine sx7 ?_;refine m9 0 ?_;refine qy ?_;refine a6 ?_;refine sx7 ?_;refine qy ?_;refine rc rfl rfl rfl rfl rfl rfl as5 (aua t) (CoL.refl _) rfl rfl ?_;(iterate 5 refine qy ?_);refine a6 ?_;refine a7 ?_
 refine aw (E:=b5) ae al [0,1,2,3,4,5,6,7,8,9,10,11,12,13,14,15,16,17,18,19,20,21,22,23,24] ?_;refine qy ?_
 refine ay rfl rfl rfl rfl rfl rfl aqm (att t (b8 t) add rem ht) (br.refl _) ⟨u9,u9,trivial⟩ rfl rfl ?_;refine qy ?_;refine rc rfl rfl rfl rfl rfl rfl as4 (c47 t t ht.ok ht.ok) (CoL.refl _) rfl rfl ?_
 refine qy ?_;refine b6 rfl rfl (fun r0=>?_) (fun r0=>?_)
 ·
  have h0:=r0
  refine qy ?_ (hg:=(gtt r0));refine ay rfl rfl rfl rfl rfl rfl at9 (apn t (b8 t) add rem (by omega)) (br.refl _) ⟨u9,u9,trivial⟩ rfl (gtt r0) ?_;refine qy ?_ (hg:=(gtt r0))
  refine rc rfl rfl rfl rfl rfl rfl arb (ang (mn t.rows) (a4k t)) (CoL.refl _) rfl (gtt r0) ?_;(iterate 2 refine qy ?_);refine b6 rfl rfl (fun r1=>?_) (fun r1=>?_)
  ·
   have h1:=r1
   have h1:=cq r0 h1
   refine qy ?_ (hg:=(gtt r1));refine ay rfl rfl rfl rfl rfl rfl zz (a3w t (b8 t) add rem hfl hA hR) (br.refl _) ⟨u9,u9,trivial⟩ rfl (gtt r1) ?_;refine qy ?_ (hg:=(gtt r1))
   refine rc rfl rfl rfl rfl rfl rfl zw (am3 t) (CoL.refl _) rfl (gtt r1) ?_;refine rc rfl rfl rfl rfl rfl rfl rl (rp (b8 t) (a2o t)) (CoL.refl _) rfl (gtt r1) ?_;(iterate 2 refine qy ?_)
   refine b6 rfl rfl (fun r2=>?_) (fun r2=>?_)
   ·
    have h2:=r2
    have h2:=cq r1 h2
    refine qy ?_ (hg:=(gtt r2));refine ay rfl rfl rfl rfl rfl rfl zq (a0e t (b8 t) add rem hna) (br.refl _) ⟨u9,u9,trivial⟩ rfl (gtt r2) ?_;refine qy ?_ (hg:=(gtt r2))
    refine rc rfl rfl rfl rfl rfl rfl asn (asj t ht) (CoL.refl _) rfl (gtt r2) ?_
    refine rc rfl rfl rfl rfl rfl rfl aaj (al1 (jk (prs t.rows) t.attrs.length) (a7k t.rows t.attrs.length)) (CoL.refl _) rfl (gtt r2) ?_;(iterate 2 refine qy ?_);refine a6 ?_;refine ⟨by kernel_rfl, ?_⟩
    refine au ?_;refine ⟨.inr rfl, ?_⟩
    exact ⟨_,_,rfl,(by (repeat' apply And.intro) <;> first | trivial | exact Nat.le_of_ble_eq_true rfl),(cob (by simp_all)),⟨u9,u9,trivial⟩⟩
   ·
    have h2:=r2
    have h2:=cq r1 h2
    (iterate 5 refine k9 (gft r2) ?_);refine rq rfl rfl rfl rfl rfl ?_ (hp:=r2);refine qy ?_;refine a6 ?_;refine ⟨by kernel_rfl, ?_⟩;refine au ?_;refine ⟨.inr rfl, ?_⟩
    exact ⟨_,_,rfl,(by (repeat' apply And.intro) <;> first | trivial | exact Nat.le_of_ble_eq_true rfl),(cob (by simp_all)),⟨u9,u9,trivial⟩⟩
  ·
   have h1:=r1
   have h1:=cq r0 h1
   (iterate 5 refine k9 (gft r1) ?_);refine rq rfl rfl rfl rfl rfl ?_ (hp:=r1);refine qy ?_;(iterate 5 refine k9 rfl ?_);(iterate 2 refine qy ?_);refine a6 ?_;refine ⟨by kernel_rfl, ?_⟩;refine au ?_
   refine ⟨.inr rfl, ?_⟩
   exact ⟨_,_,rfl,(by (repeat' apply And.intro) <;> first | trivial | exact Nat.le_of_ble_eq_true rfl),(cob (by simp_all)),⟨u9,u9,trivial⟩⟩
 ·
  have h0:=r0
  (iterate 4 refine k9 (gft r0) ?_);refine rq rfl rfl rfl rfl rfl ?_ (hp:=r0);refine qy ?_;(iterate 5 refine k9 rfl ?_);(iterate 2 refine qy ?_);(iterate 5 refine k9 rfl ?_);(iterate 2 refine qy ?_);refine a6 ?_
  refine ⟨by kernel_rfl, ?_⟩;refine au ?_;refine ⟨.inr rfl, ?_⟩
  exact ⟨_,_,rfl,(by (repeat' apply And.intro) <;> first | trivial | exact Nat.le_of_ble_eq_true rfl),(cob (by simp_all)),⟨u9,u9,trivial⟩⟩
end Go.Hx
end
section
namespace Go.Hx
open Go.Proofs
set_option maxRecDepth 100000
theorem xb:ai Tryz.prog 20:=⟨Tryz.f20,Tryz.func20,by kernel_rfl,by kernel_rfl⟩
theorem a79 (x:Scr) (hx:12 < x.ops.length):cj Tryz.prog 20 [x.pc.toH] [] (.tup [.one (.p (.raw (.pointer none))),T0.pc.toH, .one (.p (.raw (.bool false)))]) [] []:=by
 refine d7 (nt:=38) ae Tryz.func20 rfl rfl l9 rfl ?_;refine sx7 ?_;refine m9 0 ?_;refine qy ?_;refine m9 1 ?_;refine qy ?_;refine a6 ?_;refine a7 ?_;refine sx7 ?_;(iterate 4 refine qy ?_)
 refine a6 ?_;refine a8 _ rfl (fun r0=>?_) (fun r0=>?_)
 ·
  have h0:=of_decide_eq_true r0
  try simp only [ty] at h0
  refine sx7 ?_;(iterate 2 refine qy ?_);refine s9 ?_;refine qy ?_;refine a6 ?_;refine au ?_;refine ⟨.inr rfl, ?_⟩
  exact ⟨_,_,rfl,(by (repeat' apply And.intro) <;> first | trivial | exact Nat.le_of_ble_eq_true rfl),⟨l8.refl _,⟨CoP.refl _,bc,bc,trivial⟩,l8.refl _,trivial⟩,trivial⟩
 ·
  have h0:=of_decide_eq_false r0
  try simp only [ty] at h0
  exfalso
  omega
theorem a6z (x:Scr) (hx:¬ 12 < x.ops.length):cj Tryz.prog 20 [x.pc.toH] [] (.tup [.one (.ptr 902 0),(dx sR (nmS x)).pc.toH, .one (.p (.raw (.bool true)))]) ((asr sR (nmS x)).objsAt 902) []:=by
 refine d7 (nt:=38) ae Tryz.func20 rfl rfl l9 rfl ?_
 have hn5:=x.n.toNat_lt
 have eT:wu sR (nmS x) = dx sR (nmS x):=if_pos (ai7 x)
 refine sx7 ?_;refine m9 0 ?_;refine qy ?_;refine m9 1 ?_;refine qy ?_;refine a6 ?_;refine a7 ?_;refine sx7 ?_;(iterate 4 refine qy ?_);refine a6 ?_;refine a8 _ rfl (fun r0=>?_) (fun r0=>?_)
 ·
  have h0:=of_decide_eq_true r0
  try simp only [ty] at h0
  exfalso
  omega
 ·
  have h0:=of_decide_eq_false r0
  try simp only [ty] at h0
  refine aa ?_;refine sx7 ?_;(iterate 4 refine qy ?_);refine rc rfl rfl rfl rfl rfl rfl aqb (aqe (x.n.toNat % 5) (by omega)) (CoL.refl _) rfl rfl ?_;refine qy ?_;refine a6 ?_;refine sx7 ?_;refine qy ?_
  refine ay rfl rfl rfl rfl rfl rfl a47 (acn sR (nmS x) (by have:=a65 x;omega) (ai7 x)) (br.refl _) trivial rfl rfl ?_;(iterate 5 refine qy ?_);refine a6 ?_;refine sx7 ?_;refine qy ?_
  refine rc rfl rfl rfl rfl rfl rfl ab8 (afx sR (nmS x) (by have:=a65 x;omega)) (CoL.refl _) rfl rfl ?_;(iterate 3 refine qy ?_);refine m9 2 ?_;refine s9 ?_;refine qy ?_;refine a6 ?_;refine a7 ?_
  refine aw (E:=b5) ae al [0,1,2,3,4,5,6,7,8,9,10] ?_;(iterate 5 refine qy ?_);refine b6 rfl rfl (fun r1=>?_) (fun r1=>?_)
  ·
   have h1:=of_decide_eq_true r1
   try simp only [ty] at h1
   (iterate 2 refine qy ?_ (hg:=(gtt r1)));(iterate 2 refine qy ?_);refine s9 ?_;refine qy ?_;refine a6 ?_;refine ⟨by kernel_rfl, ?_⟩;refine au ?_;refine ⟨.inr rfl, ?_⟩
   rw [eT]
   exact ⟨_,_,rfl,(by (repeat' apply And.intro) <;> first | trivial | exact Nat.le_of_ble_eq_true rfl),CoR.refl _,⟨u9,u9,trivial⟩⟩
  ·
   have h1:=of_decide_eq_false r1
   try simp only [ty] at h1
   exact absurd trivial h1
theorem avw:cj Tryz.prog 18 [.one (.ptr 1000 0),rA1.pc.toH] (mst tA0 (b8 tA0) [] []).objs (.v (.one (.p (.raw (.int .i64 (0)))))) (oz tA1 (b8 tA0)).objs [1000]:=by
 have h:=af3 tA0 (b8 tA0) [] [] at3 (by decide) amj rA1
 rw [au3,aqv] at h
 exact h
theorem avp:cj Tryz.prog 18 [.one (.ptr 1000 0),rA2.pc.toH] (oz tA1 (b8 tA0)).objs (.v (.one (.p (.raw (.int .i64 (0)))))) (oz tA2 (b8 tA1)).objs [1000]:=by
 have h:=af3 tA1 (b8 tA1) (en (b8 tA1) (b8 tA0)) (en (b8 tA0) (b8 tA1)) aqc (by decide) a95 rA2
 rw [auh,as2] at h
 exact h
theorem n7:ai Tryz.prog 10:=⟨Tryz.f10,Tryz.func10,by kernel_rfl,by kernel_rfl⟩
theorem jo  : ak Tryz.prog 10 [] (av [pB true]):=by
 refine ag (nt:=73) ae Tryz.func10 rfl rfl l9 ?_;refine sx7 ?_;refine qy ?_;refine a6 ?_;refine a7 ?_;refine fb [0] [1,2,3,4,5,6] rfl ?_;refine gf (E:=b5) ae ?_;refine m9 100 ?_
 refine a6 ?_;refine sa ?_;refine zi 6 rfl rfl rfl ?_;refine kw ?_;refine gf (E:=b5) (L1:=[1,2,3,4,5,6]) (L2:=[]) ae ?_
 refine ay rfl rfl rfl rfl rfl rfl a47 (acn sR [⟨#[97]⟩,⟨#[98]⟩] (by decide) avo) (⟨l8.refl _,xl (CoP.refl _) (CoP.refl _),trivial⟩) trivial rfl rfl ?_;(iterate 5 refine qy ?_);refine a6 ?_
 refine ic ?_;(iterate 2 refine a7 ?_);refine fb [0,1,2,3,4,5,6,7,8] [9,10,11,12,13] rfl ?_;refine gf (E:=b5) ae ?_;(iterate 3 refine qy ?_)
 refine b6 rfl rfl (fun r0=>?_) (fun r0=>?_)
 ·
  have h0:=r0
  have h0:=of_decide_eq_false (az h0)
  try simp only [ty] at h0
  exfalso
  simp_all
 ·
  have h0:=r0
  have h0:=of_decide_eq_true (b4 h0)
  try simp only [ty] at h0
  (iterate 2 refine qy ?_ (hg:=(gff r0)));(iterate 2 refine qy ?_);refine b6 rfl rfl (fun r1=>?_) (fun r1=>?_)
  ·
   have h1:=r1
   have h1:=bj r0 h1
   exfalso
   simp_all
  ·
   have h1:=r1
   have h1:=bj r0 h1
   refine qy ?_ (hg:=(gff r1));refine rm 101 rfl rfl rfl rfl rfl (gff r1) ?_;refine a6 ?_;refine sa ?_;refine zi 18 rfl rfl rfl ?_;refine kw ?_
   refine gf (E:=b5) (L1:=[9,10,11,12,13]) (L2:=[]) ae ?_;refine rc rfl rfl rfl rfl rfl rfl agi (am6 [1,1] (by decide)) (⟨CoC.one (xl (CoP.refl _) (CoP.refl _)),trivial⟩) rfl (gff r1) ?_
   refine qy ?_ (hg:=(gff r1));refine ay rfl rfl rfl rfl rfl rfl abj ((avw).swap 1000 902) (br.refl _) ⟨u9,u9,trivial⟩ rfl (gff r1) ?_;refine qy ?_ (hg:=(gff r1));refine qy ?_;refine a6 ?_
   refine ic ?_;refine a8 _ rfl (fun r2=>?_) (fun r2=>?_)
   ·
    have h2:=r2
    have h2:=bj r1 h2
    have h2:=of_decide_eq_false (az h2)
    try simp only [ty] at h2
    exfalso
    simp_all
   ·
    have h2:=r2
    have h2:=bj r1 h2
    have h2:=of_decide_eq_true (b4 h2)
    try simp only [ty] at h2
    refine aa ?_;(iterate 2 refine a7 ?_);refine fb [0,1,2,3,4,5,6,7,8,9,10,11,12,13,14,15,16] [17,18,19,20,21] rfl ?_;refine gf (E:=b5) ae ?_;refine qy ?_
    refine ay rfl rfl rfl rfl rfl rfl zz ((a3w tA1 (b8 tA1) (en (b8 tA1) (b8 tA0)) (en (b8 tA0) (b8 tA1)) a95 au6 au9).swap 1000 902) (br.refl _) ⟨u9,u9,trivial⟩ rfl rfl ?_
    (iterate 2 refine qy ?_);refine m9 102 ?_
    refine rc rfl rfl rfl rfl rfl rfl rl (rp (b8 tA1) [⟨0,1⟩,⟨0,2⟩]) (⟨CoC.refl _,CoC.one (atc (CoP.refl _) (CoP.refl _) (CoP.refl _) (CoP.refl _)),trivial⟩) rfl rfl ?_;(iterate 2 refine qy ?_)
    refine b6 rfl rfl (fun r3=>?_) (fun r3=>?_)
    ·
     have h3:=r3
     have h3:=az h3
     exfalso
     simp [akl] at r3
    ·
     have h3:=r3
     have h3:=b4 h3
     refine qy ?_ (hg:=(gff r3))
     refine ay rfl rfl rfl rfl rfl rfl zq ((a0e tA1 (b8 tA1) (en (b8 tA1) (b8 tA0)) (en (b8 tA0) (b8 tA1)) (by decide)).swap 1000 902) (br.refl _) ⟨u9,u9,trivial⟩ rfl (gff r3) ?_
     refine rm 103 rfl rfl rfl rfl rfl (gff r3) ?_;refine rc rfl rfl rfl rfl rfl rfl aaj (al1 (jk (prs tA1.rows) tA1.attrs.length) [0]) (⟨CoC.refl _,CoC.one (am7 (CoP.refl _)),trivial⟩) rfl (gff r3) ?_
     refine qy ?_ (hg:=(gff r3));(iterate 2 refine qy ?_);refine b6 rfl rfl (fun r4=>?_) (fun r4=>?_)
     ·
      have h4:=r4
      have h4:=bj r3 h4
      have h4:=az h4
      exfalso
      simp [akl,ari] at r4
     ·
      have h4:=r4
      have h4:=bj r3 h4
      have h4:=b4 h4
      refine qy ?_ (hg:=(gff r4));refine rm 104 rfl rfl rfl rfl rfl (gff r4) ?_;refine a6 ?_;refine sa ?_;refine zi 40 rfl rfl rfl ?_;refine kw ?_
      refine gf (E:=b5) (L1:=[17,18,19,20,21]) (L2:=[]) ae ?_;refine rc rfl rfl rfl rfl rfl rfl agi (am6 [1,2] (by decide)) (⟨CoC.one (xl (CoP.refl _) (CoP.refl _)),trivial⟩) rfl (gff r4) ?_
      refine qy ?_ (hg:=(gff r4));refine ay rfl rfl rfl rfl rfl rfl abj ((avp).swap 1000 902) (br.refl _) ⟨u9,u9,trivial⟩ rfl (gff r4) ?_;refine qy ?_ (hg:=(gff r4));refine qy ?_;refine a6 ?_
      refine ic ?_;refine a8 _ rfl (fun r5=>?_) (fun r5=>?_)
      ·
       have h5:=r5
       have h5:=bj r4 h5
       have h5:=of_decide_eq_false (az h5)
       try simp only [ty] at h5
       exfalso
       simp [akl,ari] at r5
      ·
       have h5:=r5
       have h5:=bj r4 h5
       have h5:=of_decide_eq_true (b4 h5)
       try simp only [ty] at h5
       refine aa ?_;refine sx7 ?_;refine qy ?_
       refine ay rfl rfl rfl rfl rfl rfl a4g ((a9a tA2 (b8 tA2) (en (b8 tA2) (b8 tA1)) (en (b8 tA1) (b8 tA2)) ag4 amc amn).swap 1000 902) (br.refl _) ⟨u9,u9,trivial⟩ rfl rfl ?_
       (iterate 5 refine qy ?_);refine a6 ?_;refine sx7 ?_;refine qy ?_
       refine ay rfl rfl rfl rfl rfl rfl zz ((a3w tA2 (b8 tA2) (en (b8 tA2) (b8 tA1)) (en (b8 tA1) (b8 tA2)) ag4 amc amn).swap 1000 902) (br.refl _) ⟨u9,u9,trivial⟩ rfl rfl ?_
       refine qy ?_;refine m9 105 ?_;refine rc rfl rfl rfl rfl rfl rfl rl (rp (b8 tA2) [⟨0,1⟩]) (⟨CoC.refl _,CoC.one (aid (CoP.refl _) (CoP.refl _)),trivial⟩) rfl rfl ?_;refine qy ?_
       refine b6 rfl rfl (fun r6=>?_) (fun r6=>?_)
       ·
        have h6:=r6
        refine qy ?_ (hg:=(gtt r6))
        refine ay rfl rfl rfl rfl rfl rfl zq ((a0e tA2 (b8 tA2) (en (b8 tA2) (b8 tA1)) (en (b8 tA1) (b8 tA2)) (by decide)).swap 1000 902) (br.refl _) ⟨u9,u9,trivial⟩ rfl (gtt r6) ?_
        refine rm 106 rfl rfl rfl rfl rfl (gtt r6) ?_;refine rc rfl rfl rfl rfl rfl rfl aaj (al1 (jk (prs tA2.rows) tA2.attrs.length) [2]) (⟨CoC.refl _,CoC.one (am7 (CoP.refl _)),trivial⟩) rfl (gtt r6) ?_
        (iterate 2 refine qy ?_);refine b6 rfl rfl (fun r7=>?_) (fun r7=>?_)
        ·
         have h7:=r7
         have h7:=cq r6 h7
         (iterate 3 refine qy ?_ (hg:=(gtt r7)));(iterate 2 refine qy ?_);refine b6 rfl rfl (fun r8=>?_) (fun r8=>?_)
         ·
          have h8:=r8
          have h8:=cq r7 h8
          have h8:=of_decide_eq_true h8
          try simp only [ty] at h8
          (iterate 2 refine qy ?_ (hg:=(gtt r8)));refine rm 107 rfl rfl rfl rfl rfl (gtt r8) ?_
          refine rc rfl rfl rfl rfl rfl rfl rl (rp (en (b8 tA1) (b8 tA2)) [⟨0,2⟩]) (⟨CoC.refl _,CoC.one (aid (CoP.refl _) (CoP.refl _)),trivial⟩) rfl (gtt r8) ?_;(iterate 2 refine qy ?_)
          refine a6 ?_
          exact hx8 rfl rfl rfl (⟨ccb (by rw [atg,avv];simp [alq,as6]),trivial⟩)
         ·
          have h8:=r8
          have h8:=cq r7 h8
          have h8:=of_decide_eq_false h8
          try simp only [ty] at h8
          exact absurd (by rw [atg];rfl) h8
        ·
         have h7:=r7
         have h7:=cq r6 h7
         exfalso
         simp [alq,as6] at r7
       ·
        have h6:=r6
        exfalso
        simp [alq] at r6
end Go.Hx
end
section
namespace Go.Hx
theorem aa2 {t:Tbl} {o:MOp} (h:¬ opE t o = 0):opT t o = t:=by
 by_cases k2:o.kind.toNat % 4 = 2
 · have hh:=op2 (t:=t) (o:=o) k2
   rw [hh.1] at h
   rw [hh.2,if_neg h]
 · by_cases k3:o.kind.toNat % 4 = 3
   · have hh:=op3 (t:=t) (o:=o) k2 k3
     rw [hh.1] at h
     rw [hh.2,if_neg h]
   · have hh:=op0 (t:=t) (o:=o) k2 k3
     rw [hh.1] at h
     rw [hh.2]
     unfold ew at h
     unfold kr
     split
     · rfl
     · rename_i h1
       rw [if_neg h1] at h
       split
       · rfl
       · rename_i h2
         rw [if_neg h2] at h
         exact absurd rfl h
def nxA (t:Tbl) (o:MOp) (a:List Fd):List Fd:=if opE t o = 0 then en (b8 (opT t o)) (b8 t) else a
def nxR (t:Tbl) (o:MOp) (a:List Fd):List Fd:=if opE t o = 0 then en (b8 t) (b8 (opT t o)) else a
theorem amx (t:Tbl) (add rem:List Fd) (o:MOp):yn (mst t (b8 t) add rem) o = mst (opT t o) (b8 (opT t o)) (nxA t o add) (nxR t o rem):=by
 unfold yn nxA nxR
 by_cases h:opE t o = 0
 · rw [if_pos h,if_pos h,if_pos h]
 · rw [if_neg h,if_neg h,if_neg h,aa2 h]
theorem a5b {t:Tbl} {o:MOp} {a b:List Fd} (h:opE t o = 0):nxA t o a = en (b8 (opT t o)) (b8 t) ∧ nxR t o b = en (b8 t) (b8 (opT t o)):=⟨if_pos h,if_pos h⟩
theorem a5j {t:Tbl} {o:MOp} {a b:List Fd} (h:¬ opE t o = 0):nxA t o a = a ∧ nxR t o b = b:=⟨if_neg h,if_neg h⟩
structure ROk (t:Tbl) (a r:List Fd):Prop where
 ok:TOk t
 na:t.attrs.length ≤ 8
 nr:t.rows.length ≤ 200
 la:a.length ≤ 68719476736
 lr:r.length ≤ 68719476736
theorem ROk.op {t:Tbl} {a r:List Fd} (h:ROk t a r) (o:MOp):ROk (opT t o) (nxA t o a) (nxR t o r):=by
 by_cases he:opE t o = 0
 · obtain ⟨h1,h2,_,h3⟩:=amp he h.nr
   have hn:(opT t o).attrs.length ≤ 8:=by rw [h2];exact h.na
   refine ⟨h1,hn,h3, ?_, ?_⟩
   · rw [(a5b (b:=r) he).1];exact Nat.le_trans (o5 _ _) (eq hn)
   · rw [(a5b (a:=a) he).2];exact Nat.le_trans (o5 _ _) (eq h.na)
 · rw [aa2 he,(a5j (b:=r) he).1,(a5j (a:=a) he).2]
   exact h
theorem ab9 {t:Tbl} {o:MOp} (h:t.rows.length ≤ 200):(opT t o).attrs = t.attrs:=by
 by_cases he:opE t o = 0
 · exact (amp he h).2.1
 · rw [aa2 he]
theorem apm:∀ k,k < 5 → c5 (dx sR (nq.take k)) = 0:=by decide
theorem ROk.new (x:Scr):ROk (dx sR (nmS x)) [] []:=by
 have h:=a65 x
 refine ⟨dv.1 (apm _ (by omega)), ?_, ?_, ?_, ?_⟩
 · show (nmS x).length ≤ 8;omega
 · show (0:Nat) ≤ 200;omega
 · show (0:Nat) ≤ _;omega
 · show (0:Nat) ≤ _;omega
end Go.Hx
end
section
namespace Go.Hx
open Go.Proofs
set_option maxRecDepth 100000
theorem af6 (t:Tbl) (a r:List Fd) (h:ROk t a r) (o:MOp):cj Tryz.prog 22 [.one (.ptr 1000 0), .one (.p (.raw (.int .i64 ((t.attrs.length:Nat))))),o.pc.toH] (mst t (b8 t) a r).objs (.v (.one (.p (.raw (.int .i64 (opE t o)))))) (mst (opT t o) (b8 (opT t o)) (nxA t o a) (nxR t o r)).objs [1000]:=by
 have h:=au7 t (b8 t) a r h.ok h.na (eq h.na) o
 rw [amx] at h
 exact h
theorem a3x (t:Tbl) (h1:TOk t) (h2:t.rows.length ≤ 200) (h3:t.attrs.length ≤ 8):ak Tryz.prog 24 [t.pc] (av [pP (fdl (b8 t))]):=by
 have h:=am3 t
 rw [ai8 h1 h2 h3] at h
 exact h
theorem ajh (x:Scr) (hx:12 < x.ops.length):ak Tryz.prog 7 [x.pc] (av [pB true]):=by
 refine ag (nt:=57) ae Tryz.func7 rfl rfl l9 ?_;refine sx7 ?_;refine m9 0 ?_;refine qy ?_;refine a6 ?_;refine a7 ?_;refine sx7 ?_
 refine rc rfl rfl rfl rfl rfl rfl n7 (jo) (CoL.refl _) rfl rfl ?_;refine qy ?_;refine a6 ?_;refine a8 _ rfl (fun r0=>?_) (fun r0=>?_)
 ·
  have h0:=r0
  have h0:=az h0
  exfalso
  simp_all
 ·
  have h0:=r0
  have h0:=b4 h0
  refine aa ?_;refine sx7 ?_;refine qy ?_;refine ay rfl rfl rfl rfl rfl rfl xb (a79 x hx) (br.refl _) trivial rfl rfl ?_;(iterate 4 refine qy ?_);refine m9 1 ?_;refine qy ?_;refine s9 ?_;refine qy ?_
  refine a6 ?_;refine a7 ?_;refine sx7 ?_;(iterate 2 refine qy ?_);refine a6 ?_;refine a8 _ rfl (fun r1=>?_) (fun r1=>?_)
  ·
   have h1:=r1
   have h1:=az h1
   refine sx7 ?_;(iterate 5 refine qy ?_);refine a6 ?_
   exact hx8 rfl rfl rfl (⟨ccb (decide_eq_true (by omega)),trivial⟩)
  ·
   have h1:=r1
   have h1:=b4 h1
   exfalso
   simp_all
theorem al0 (x:Scr) (hx:¬ 12 < x.ops.length):ak Tryz.prog 7 [x.pc] (av [pB true]):=by
 refine ag (nt:=57) ae Tryz.func7 rfl rfl l9 ?_
 have hk0:=ROk.new x
 refine sx7 ?_;refine m9 0 ?_;refine qy ?_;refine a6 ?_;refine a7 ?_;refine sx7 ?_;refine rc rfl rfl rfl rfl rfl rfl n7 (jo) (CoL.refl _) rfl rfl ?_;refine qy ?_;refine a6 ?_
 refine a8 _ rfl (fun r0=>?_) (fun r0=>?_)
 ·
  have h0:=r0
  have h0:=az h0
  exfalso
  simp_all
 ·
  have h0:=r0
  have h0:=b4 h0
  refine aa ?_;refine sx7 ?_;refine qy ?_;refine ay rfl rfl rfl rfl rfl rfl xb (a6z x hx) (br.refl _) trivial rfl rfl ?_;(iterate 4 refine qy ?_);refine m9 1 ?_;refine qy ?_;refine s9 ?_;refine qy ?_
  refine a6 ?_;refine a7 ?_;refine sx7 ?_;(iterate 2 refine qy ?_);refine a6 ?_;refine a8 _ rfl (fun r1=>?_) (fun r1=>?_)
  ·
   have h1:=r1
   have h1:=az h1
   exfalso
   simp_all
  ·
   have h1:=r1
   have h1:=b4 h1
   refine aa ?_;refine a7 ?_;refine sx7 ?_;(iterate 2 refine qy ?_)
   refine ay rfl rfl rfl rfl rfl rfl abo ((a9z (dx sR (nmS x)) [] [] hk0.ok hk0.na hk0.nr hk0.la hk0.lr).swap 1000 902) (br.refl _) ⟨u9,u9,trivial⟩ rfl rfl ?_;refine qy ?_;refine a6 ?_
   refine a8 _ rfl (fun r2=>?_) (fun r2=>?_)
   ·
    have h2:=r2
    have h2:=az h2
    exfalso
    simp_all
   ·
    have h2:=r2
    have h2:=b4 h2
    refine aa ?_;refine a7 ?_;refine sx7 ?_;(iterate 4 refine qy ?_);refine a6 ?_;refine af ?_
    refine ap (ι:=(Nat × Tbl × List Fd × List Fd)) ⟨[(3,some _),(4,some _),(29,some _),(30,some _)],[]⟩ ⟨⟨c9,c9,c9,c9,trivial⟩,trivial⟩ (fun q=>⟨[(31,some (vI q.1))],[(1,some (.box [.p (q.2.1.c 0), .p (q.2.1.c 1), .p (q.2.1.c 2)])),(902,some (afu q.2.1 (b8 q.2.1) q.2.2.1 q.2.2.2)),(901,some (acj (d8 q.2.1.rows)))]⟩) (fun q=>q.1 ≤ x.ops.length ∧ ROk q.2.1 q.2.2.1 q.2.2.2) (fun q=>x.ops.length - q.1) ((0,(dx sR (nmS x)),[],[])) (⟨Nat.zero_le _,ROk.new x⟩) ⟨⟨zy,trivial⟩,⟨u9,u9,u9,trivial⟩⟩ ?_
    rintro ⟨i,t,a,r⟩ ⟨hi,hk⟩
    dsimp only at hi hk ⊢
    refine sx7 ?_;refine qy ?_;refine a6 ?_;refine a7 ?_;refine a8 _ rfl (fun r3=>?_) (fun r3=>?_)
    ·
     have h3:=of_decide_eq_true r3
     try simp only [ty] at h3
     refine aa ?_;refine a7 ?_;refine af ?_;refine sx7 ?_;(iterate 2 refine qy ?_);refine m9 2 ?_;refine s9 ?_;refine a6 ?_;refine sx7 ?_;(iterate 2 refine qy ?_)
     refine rc rfl rfl rfl rfl rfl rfl agl (aa3 t (x.ops.getD i default) (by have:=hk.na;omega)) (CoL.refl _) rfl rfl ?_;(iterate 3 refine qy ?_);refine m9 3 ?_;refine s9 ?_;refine qy ?_;refine a6 ?_
     refine a7 ?_;refine sx7 ?_;(iterate 5 refine qy ?_);refine ay rfl rfl rfl rfl rfl rfl abi ((af6 t a r hk (x.ops.getD i default)).swap 1000 902) (br.refl _) ⟨u9,u9,trivial⟩ rfl rfl ?_
     (iterate 3 refine qy ?_);refine b6 rfl rfl (fun r4=>?_) (fun r4=>?_)
     ·
      have h4:=r4
      have h4:=of_decide_eq_false (az h4)
      try simp only [ty] at h4
      exfalso
      simp_all
     ·
      have h4:=r4
      have h4:=of_decide_eq_true (b4 h4)
      try simp only [ty] at h4
      (iterate 2 refine qy ?_ (hg:=(gff r4)))
      refine ay rfl rfl rfl rfl rfl rfl abo ((a9z (opT t (x.ops.getD i default)) (nxA t (x.ops.getD i default) a) (nxR t (x.ops.getD i default) r) (hk.op (x.ops.getD i default)).ok (hk.op (x.ops.getD i default)).na (hk.op (x.ops.getD i default)).nr (hk.op (x.ops.getD i default)).la (hk.op (x.ops.getD i default)).lr).swap 1000 902) (br.refl _) ⟨u9,u9,trivial⟩ rfl (gff r4) ?_
      refine qy ?_ (hg:=(gff r4));refine qy ?_;refine a6 ?_;refine a8 _ rfl (fun r5=>?_) (fun r5=>?_)
      ·
       have h5:=r5
       have h5:=bj r4 h5
       have h5:=az h5
       exfalso
       simp_all
      ·
       have h5:=r5
       have h5:=bj r4 h5
       have h5:=b4 h5
       refine aa ?_;refine gy ?_;refine qy ?_;refine s9 ?_;refine a6 ?_;refine gy ?_;(iterate 2 refine qy ?_);refine a6 ?_
       refine ⟨(i + 1,opT t (x.ops.getD i default),nxA t (x.ops.getD i default) a,nxR t (x.ops.getD i default) r), ?_, ?_, ?_⟩
       · exact ⟨by dsimp only;omega,hk.op _⟩
       · first | omega | (dsimp only;omega)
       · exact ⟨⟨zy,c9,c9,c9,c9,trivial⟩,⟨u9,u9,u9,trivial⟩⟩
    ·
     have h3:=of_decide_eq_false r3
     try simp only [ty] at h3
     refine am ?_;refine sx7 ?_;refine qy ?_;refine a6 ?_
     exact hx8 rfl rfl rfl (CoL.refl _)
theorem ana (x:Scr):ak Tryz.prog 7 [x.pc] (av [pB true]):=by
 by_cases h:12 < x.ops.length
 · exact ajh x h
 · exact al0 x h
end Go.Hx
end
section
namespace Go.Hx
open Go.Proofs
set_option maxRecDepth 100000
theorem ah3 (x:Scr) (hx:12 < x.ops.length):ak Tryz.prog 5 [x.pc] (av [pB true]):=by
 refine ag (nt:=78) ae Tryz.func5 rfl rfl l9 ?_;refine sx7 ?_;refine m9 0 ?_;refine qy ?_;refine a6 ?_;refine a7 ?_;refine sx7 ?_
 refine rc rfl rfl rfl rfl rfl rfl n7 (jo) (CoL.refl _) rfl rfl ?_;refine qy ?_;refine a6 ?_;refine a8 _ rfl (fun r0=>?_) (fun r0=>?_)
 ·
  have h0:=r0
  have h0:=az h0
  exfalso
  simp_all
 ·
  have h0:=r0
  have h0:=b4 h0
  refine aa ?_;refine sx7 ?_;refine qy ?_;refine ay rfl rfl rfl rfl rfl rfl xb (a79 x hx) (br.refl _) trivial rfl rfl ?_;(iterate 4 refine qy ?_);refine m9 1 ?_;refine qy ?_;refine s9 ?_;refine qy ?_
  refine a6 ?_;refine a7 ?_;refine sx7 ?_;(iterate 2 refine qy ?_);refine a6 ?_;refine a8 _ rfl (fun r1=>?_) (fun r1=>?_)
  ·
   have h1:=r1
   have h1:=az h1
   refine sx7 ?_;(iterate 5 refine qy ?_);refine a6 ?_
   exact hx8 rfl rfl rfl (⟨ccb (decide_eq_true (by omega)),trivial⟩)
  ·
   have h1:=r1
   have h1:=b4 h1
   exfalso
   simp_all
theorem ah9 (x:Scr) (hx:¬ 12 < x.ops.length):ak Tryz.prog 5 [x.pc] (av [pB true]):=by
 refine ag (nt:=78) ae Tryz.func5 rfl rfl l9 ?_;refine sx7 ?_;refine m9 0 ?_;refine qy ?_;refine a6 ?_;refine a7 ?_;refine sx7 ?_
 refine rc rfl rfl rfl rfl rfl rfl n7 (jo) (CoL.refl _) rfl rfl ?_;refine qy ?_;refine a6 ?_;refine a8 _ rfl (fun r0=>?_) (fun r0=>?_)
 ·
  have h0:=r0
  have h0:=az h0
  exfalso
  simp_all
 ·
  have h0:=r0
  have h0:=b4 h0
  refine aa ?_;refine sx7 ?_;refine qy ?_;refine ay rfl rfl rfl rfl rfl rfl xb (a6z x hx) (br.refl _) trivial rfl rfl ?_;(iterate 4 refine qy ?_);refine m9 1 ?_;refine qy ?_;refine s9 ?_;refine qy ?_
  refine a6 ?_;refine a7 ?_;refine sx7 ?_;(iterate 2 refine qy ?_);refine a6 ?_;refine a8 _ rfl (fun r1=>?_) (fun r1=>?_)
  ·
   have h1:=r1
   have h1:=az h1
   exfalso
   simp_all
  ·
   have h1:=r1
   have h1:=b4 h1
   refine aa ?_;refine sx7 ?_;(iterate 2 refine qy ?_);refine a6 ?_;refine a7 ?_;refine sx7 ?_;(iterate 4 refine qy ?_);refine a6 ?_;refine af ?_
   refine ap (ι:=(Nat × Tbl × List Fd × List Fd)) ⟨[(3,some _),(4,some _),(29,some _),(30,some _)],[]⟩ ⟨⟨c9,c9,c9,c9,trivial⟩,trivial⟩ (fun q=>⟨[(6,some (.v (.one (.p (fdl q.2.2.1))))),(7,some (.v (.one (.p (fdl q.2.2.2))))),(31,some (vI q.1))],[(1,some (.box [.p (q.2.1.c 0), .p (q.2.1.c 1), .p (q.2.1.c 2)])),(902,some (afu q.2.1 (b8 q.2.1) q.2.2.1 q.2.2.2)),(901,some (acj (d8 q.2.1.rows)))]⟩) (fun q=>q.1 ≤ x.ops.length ∧ ROk q.2.1 q.2.2.1 q.2.2.2) (fun q=>x.ops.length - q.1) ((0,(dx sR (nmS x)),[],[])) (⟨Nat.zero_le _,ROk.new x⟩) ⟨⟨⟨_,rfl,bc⟩,⟨_,rfl,bc⟩,zy,trivial⟩,⟨u9,u9,u9,trivial⟩⟩ ?_
   rintro ⟨i,t,a,r⟩ ⟨hi,hk⟩
   dsimp only at hi hk ⊢
   refine sx7 ?_;refine qy ?_;refine a6 ?_;refine a7 ?_;refine a8 _ rfl (fun r2=>?_) (fun r2=>?_)
   ·
    have h2:=of_decide_eq_true r2
    try simp only [ty] at h2
    refine aa ?_;refine a7 ?_;refine af ?_;refine sx7 ?_;(iterate 2 refine qy ?_);refine m9 2 ?_;refine s9 ?_;refine a6 ?_;refine sx7 ?_;(iterate 2 refine qy ?_)
    refine rc rfl rfl rfl rfl rfl rfl agl (aa3 t (x.ops.getD i default) (by have:=hk.na;omega)) (CoL.refl _) rfl rfl ?_;(iterate 3 refine qy ?_);refine m9 3 ?_;refine s9 ?_;refine qy ?_;refine a6 ?_
    refine a7 ?_;refine sx7 ?_;(iterate 5 refine qy ?_);refine ay rfl rfl rfl rfl rfl rfl abi ((af6 t a r hk (x.ops.getD i default)).swap 1000 902) (br.refl _) ⟨u9,u9,trivial⟩ rfl rfl ?_
    (iterate 2 refine qy ?_);refine a6 ?_;refine a8 _ rfl (fun r3=>?_) (fun r3=>?_)
    ·
     have h3:=r3
     have h3:=of_decide_eq_false (az h3)
     try simp only [ty] at h3
     exfalso
     simp_all
    ·
     have h3:=r3
     have h3:=of_decide_eq_true (b4 h3)
     try simp only [ty] at h3
     refine aa ?_;refine a7 ?_;refine sx7 ?_;(iterate 2 refine qy ?_);refine a6 ?_;refine a8 _ rfl (fun r4=>?_) (fun r4=>?_)
     ·
      have h4:=of_decide_eq_true r4
      try simp only [ty] at h4
      have he:opE t (x.ops.getD i default) = 0:=h4
      have hA:=(a5b (t:=t) (o:=(x.ops.getD i default)) (a:=a) (b:=r) he).1
      have hR:=(a5b (t:=t) (o:=(x.ops.getD i default)) (a:=a) (b:=r) he).2
      refine aw (E:=b5) ae al [0,1,2,3,4,5,6,7,8,9,10,11] ?_;refine qy ?_
      refine rc rfl rfl rfl rfl rfl rfl zw (a3x (opT t (x.ops.getD i default)) (hk.op (x.ops.getD i default)).ok (hk.op (x.ops.getD i default)).nr (hk.op (x.ops.getD i default)).na) (CoL.refl _) rfl rfl ?_;refine qy ?_
      refine rc rfl rfl rfl rfl rfl rfl zw (a3x t hk.ok hk.nr hk.na) (CoL.refl _) rfl rfl ?_
      refine rc rfl rfl rfl rfl rfl rfl aiz (aia (b8 (opT t (x.ops.getD i default))) (b8 t) (eq (hk.op (x.ops.getD i default)).na) (eq hk.na)) (CoL.refl _) rfl rfl ?_;refine qy ?_
      refine rc rfl rfl rfl rfl rfl rfl zw (a3x t hk.ok hk.nr hk.na) (CoL.refl _) rfl rfl ?_;refine qy ?_
      refine rc rfl rfl rfl rfl rfl rfl zw (a3x (opT t (x.ops.getD i default)) (hk.op (x.ops.getD i default)).ok (hk.op (x.ops.getD i default)).nr (hk.op (x.ops.getD i default)).na) (CoL.refl _) rfl rfl ?_
      refine rc rfl rfl rfl rfl rfl rfl aiz (aia (b8 t) (b8 (opT t (x.ops.getD i default))) (eq hk.na) (eq (hk.op (x.ops.getD i default)).na)) (CoL.refl _) rfl rfl ?_;(iterate 2 refine qy ?_)
      refine a6 ?_;refine ⟨by kernel_rfl, ?_⟩;refine sx7 ?_;refine qy ?_;refine s9 ?_;refine a6 ?_;refine sx7 ?_;refine qy ?_
      refine ay rfl rfl rfl rfl rfl rfl a4g ((a9a (opT t (x.ops.getD i default)) (b8 (opT t (x.ops.getD i default))) (nxA t (x.ops.getD i default) a) (nxR t (x.ops.getD i default) r) (eq (hk.op (x.ops.getD i default)).na) (hk.op (x.ops.getD i default)).la (hk.op (x.ops.getD i default)).lr).swap 1000 902) (br.refl _) ⟨u9,u9,trivial⟩ rfl rfl ?_
      (iterate 5 refine qy ?_);refine a6 ?_;refine sx7 ?_;(iterate 2 refine qy ?_)
      refine rc rfl rfl rfl rfl rfl rfl rl (rp (nxA t (x.ops.getD i default) a) (nxA t (x.ops.getD i default) a)) (⟨CoC.refl _,CoC.one (CoP.of_eq (by rw [hA])),trivial⟩) rfl rfl ?_;(iterate 2 refine qy ?_)
      refine b6 rfl rfl (fun r5=>?_) (fun r5=>?_)
      ·
       have h5:=r5
       have h5:=az h5
       exfalso
       simp_all
      ·
       have h5:=r5
       have h5:=b4 h5
       (iterate 2 refine qy ?_ (hg:=(gff r5)))
       refine rc rfl rfl rfl rfl rfl rfl rl (rp (nxR t (x.ops.getD i default) r) (nxR t (x.ops.getD i default) r)) (⟨CoC.refl _,CoC.one (CoP.of_eq (by rw [hR])),trivial⟩) rfl (gff r5) ?_
       refine qy ?_ (hg:=(gff r5));refine qy ?_;refine a6 ?_;refine a8 _ rfl (fun r6=>?_) (fun r6=>?_)
       ·
        have h6:=r6
        have h6:=bj r5 h6
        have h6:=az h6
        exfalso
        simp_all
       ·
        have h6:=r6
        have h6:=bj r5 h6
        have h6:=b4 h6
        refine aa ?_;refine gy ?_;(iterate 2 refine qy ?_);refine a6 ?_;refine ⟨(i + 1,opT t (x.ops.getD i default),nxA t (x.ops.getD i default) a,nxR t (x.ops.getD i default) r), ?_, ?_, ?_⟩
        · exact ⟨by dsimp only;omega,hk.op _⟩
        · first | omega | (dsimp only;omega)
        · exact ⟨⟨⟨_,rfl,(CoP.of_eq (by rw [hA]))⟩,⟨_,rfl,(CoP.of_eq (by rw [hR]))⟩,zy,c9,c9,c9,c9,trivial⟩,⟨u9,u9,u9,trivial⟩⟩
     ·
      have h4:=of_decide_eq_false r4
      try simp only [ty] at h4
      have he:¬ opE t (x.ops.getD i default) = 0:=h4
      have hA:=(a5j (t:=t) (o:=(x.ops.getD i default)) (a:=a) (b:=r) he).1
      have hR:=(a5j (t:=t) (o:=(x.ops.getD i default)) (a:=a) (b:=r) he).2
      refine aa ?_;refine sx7 ?_;refine qy ?_;refine s9 ?_;refine a6 ?_;refine sx7 ?_;refine qy ?_
      refine ay rfl rfl rfl rfl rfl rfl a4g ((a9a (opT t (x.ops.getD i default)) (b8 (opT t (x.ops.getD i default))) (nxA t (x.ops.getD i default) a) (nxR t (x.ops.getD i default) r) (eq (hk.op (x.ops.getD i default)).na) (hk.op (x.ops.getD i default)).la (hk.op (x.ops.getD i default)).lr).swap 1000 902) (br.refl _) ⟨u9,u9,trivial⟩ rfl rfl ?_
      (iterate 5 refine qy ?_);refine a6 ?_;refine sx7 ?_;(iterate 2 refine qy ?_)
      refine rc rfl rfl rfl rfl rfl rfl rl (rp (nxA t (x.ops.getD i default) a) (nxA t (x.ops.getD i default) a)) (⟨CoC.refl _,CoC.one (CoP.of_eq (by rw [hA])),trivial⟩) rfl rfl ?_;(iterate 2 refine qy ?_)
      refine b6 rfl rfl (fun r7=>?_) (fun r7=>?_)
      ·
       have h7:=r7
       have h7:=az h7
       exfalso
       simp_all
      ·
       have h7:=r7
       have h7:=b4 h7
       (iterate 2 refine qy ?_ (hg:=(gff r7)))
       refine rc rfl rfl rfl rfl rfl rfl rl (rp (nxR t (x.ops.getD i default) r) (nxR t (x.ops.getD i default) r)) (⟨CoC.refl _,CoC.one (CoP.of_eq (by rw [hR])),trivial⟩) rfl (gff r7) ?_
       refine qy ?_ (hg:=(gff r7));refine qy ?_;refine a6 ?_;refine a8 _ rfl (fun r8=>?_) (fun r8=>?_)
       ·
        have h8:=r8
        have h8:=bj r7 h8
        have h8:=az h8
        exfalso
        simp_all
       ·
        have h8:=r8
        have h8:=bj r7 h8
        have h8:=b4 h8
        refine aa ?_;refine gy ?_;(iterate 2 refine qy ?_);refine a6 ?_;refine ⟨(i + 1,opT t (x.ops.getD i default),nxA t (x.ops.getD i default) a,nxR t (x.ops.getD i default) r), ?_, ?_, ?_⟩
        · exact ⟨by dsimp only;omega,hk.op _⟩
        · first | omega | (dsimp only;omega)
        · exact ⟨⟨⟨_,rfl,(CoP.of_eq (by rw [hA]))⟩,⟨_,rfl,(CoP.of_eq (by rw [hR]))⟩,zy,c9,c9,c9,c9,trivial⟩,⟨u9,u9,u9,trivial⟩⟩
   ·
    have h2:=of_decide_eq_false r2
    try simp only [ty] at h2
    refine am ?_;refine sx7 ?_;refine qy ?_;refine a6 ?_
    exact hx8 rfl rfl rfl (CoL.refl _)
theorem ak3 (x:Scr):ak Tryz.prog 5 [x.pc] (av [pB true]):=by
 by_cases h:12 < x.ops.length
 · exact ah3 x h
 · exact ah9 x h
end Go.Hx
end
section
namespace Go.Hx
open Go.Proofs
set_option maxRecDepth 100000
theorem ROk.of_new {s:ByteArray} {l:List ByteArray} (h:fe s l = 0):ROk (dx s l) [] []:=by
 unfold fe at h
 split at h
 · rename_i h1;exact absurd h h1
 · rename_i h1
   split at h
   · cases h
   · rename_i h2
     refine ⟨dv.1 (by simpa using h1),by show l.length ≤ 8;omega,by show (0:Nat) ≤ 200;omega,by show (0:Nat) ≤ _;omega,by show (0:Nat) ≤ _;omega⟩
theorem ar6 (s:ByteArray) (l:List ByteArray) (hl:l.length ≤ 1000000) (h:fe s l = 0):ak Tryz.prog 13 [pS s,pP (gc l)] (av [(dx s l).pc,pI 0]):=by
 have h2:=afx s l hl
 rw [show wu s l = dx s l from if_pos h,h] at h2
 exact h2
theorem alb (s:ByteArray) (l:List ByteArray) (h20:20 < l.length):ak Tryz.prog 3 [pS s,pP (gc l)] (av [pB true]):=by
 refine ag (nt:=66) ae Tryz.func3 rfl rfl l9 ?_;refine sx7 ?_;refine qy ?_;refine a6 ?_;refine a7 ?_;refine sx7 ?_;refine rc rfl rfl rfl rfl rfl rfl n7 (jo) (CoL.refl _) rfl rfl ?_
 (iterate 2 refine qy ?_);refine b6 rfl rfl (fun r0=>?_) (fun r0=>?_)
 ·
  have h0:=r0
  have h0:=az h0
  exfalso
  first | (simp_all;done) | omega | (simp_all;omega)
 ·
  have h0:=r0
  have h0:=b4 h0
  (iterate 3 refine qy ?_ (hg:=(gff r0)));refine qy ?_;refine a6 ?_;refine a8 _ rfl (fun r1=>?_) (fun r1=>?_)
  ·
   have h1:=r1
   have h1:=bj r0 h1
   have h1:=of_decide_eq_true h1
   try simp only [ty] at h1
   refine sx7 ?_;refine rc rfl rfl rfl rfl rfl rfl n7 (jo) (CoL.refl _) rfl rfl ?_;refine qy ?_;refine a6 ?_
   exact hx8 rfl rfl rfl (⟨CoC.refl _,trivial⟩)
  ·
   have h1:=r1
   have h1:=bj r0 h1
   have h1:=of_decide_eq_false h1
   try simp only [ty] at h1
   exfalso
   first | (simp_all;done) | omega | (simp_all;omega)
theorem akj (s:ByteArray) (l:List ByteArray) (h20:¬ 20 < l.length) (h:¬ fe s l = 0):ak Tryz.prog 3 [pS s,pP (gc l)] (av [pB true]):=by
 refine ag (nt:=66) ae Tryz.func3 rfl rfl l9 ?_;refine sx7 ?_;refine qy ?_;refine a6 ?_;refine a7 ?_;refine sx7 ?_;refine rc rfl rfl rfl rfl rfl rfl n7 (jo) (CoL.refl _) rfl rfl ?_
 (iterate 2 refine qy ?_);refine b6 rfl rfl (fun r0=>?_) (fun r0=>?_)
 ·
  have h0:=r0
  have h0:=az h0
  exfalso
  first | (simp_all;done) | omega | (simp_all;omega)
 ·
  have h0:=r0
  have h0:=b4 h0
  (iterate 3 refine qy ?_ (hg:=(gff r0)));refine qy ?_;refine a6 ?_;refine a8 _ rfl (fun r1=>?_) (fun r1=>?_)
  ·
   have h1:=r1
   have h1:=bj r0 h1
   have h1:=of_decide_eq_true h1
   try simp only [ty] at h1
   exfalso
   first | (simp_all;done) | omega | (simp_all;omega)
  ·
   have h1:=r1
   have h1:=bj r0 h1
   have h1:=of_decide_eq_false h1
   try simp only [ty] at h1
   refine aa ?_;refine sx7 ?_;(iterate 2 refine qy ?_);refine rc rfl rfl rfl rfl rfl rfl rj (pg l.length false (lf ue l) (by omega)) (CoL.refl _) rfl rfl ?_
   refine ay rfl rfl rfl rfl rfl rfl a47 (aru s l (by omega) h) (br.refl _) trivial rfl rfl ?_;(iterate 5 refine qy ?_);refine a6 ?_;refine sx7 ?_;(iterate 2 refine qy ?_)
   refine rc rfl rfl rfl rfl rfl rfl ab8 (afx s l (by omega)) (CoL.refl _) rfl rfl ?_;(iterate 3 refine qy ?_);refine m9 0 ?_;refine s9 ?_;refine qy ?_;refine a6 ?_;refine a7 ?_;refine sx7 ?_
   (iterate 4 refine qy ?_);refine b6 rfl rfl (fun r2=>?_) (fun r2=>?_)
   ·
    have h2:=r2
    have h2:=of_decide_eq_false (az h2)
    try simp only [ty] at h2
    exfalso
    first | (simp_all;done) | omega | (simp_all;omega)
   ·
    have h2:=r2
    have h2:=of_decide_eq_true (b4 h2)
    try simp only [ty] at h2
    (iterate 2 refine qy ?_ (hg:=(gff r2)));refine qy ?_;refine a6 ?_;refine a8 _ rfl (fun r3=>?_) (fun r3=>?_)
    ·
     have h3:=r3
     have h3:=bj r2 h3
     have h3:=of_decide_eq_false (az h3)
     try simp only [ty] at h3
     refine sx7 ?_;(iterate 4 refine qy ?_);refine b6 rfl rfl (fun r4=>?_) (fun r4=>?_)
     ·
      have h4:=of_decide_eq_true r4
      try simp only [ty] at h4
      (iterate 2 refine qy ?_ (hg:=(gtt r4)));(iterate 2 refine qy ?_);refine a6 ?_
      exact hx8 rfl rfl rfl (⟨ccb (by simp_all),trivial⟩)
     ·
      have h4:=of_decide_eq_false r4
      try simp only [ty] at h4
      exfalso
      first | (simp_all;done) | omega | (simp_all;omega)
    ·
     have h3:=r3
     have h3:=bj r2 h3
     have h3:=of_decide_eq_true (b4 h3)
     try simp only [ty] at h3
     exfalso
     first | (simp_all;done) | omega | (simp_all;omega)
theorem am2 (s:ByteArray) (l:List ByteArray) (h20:¬ 20 < l.length) (h:fe s l = 0):ak Tryz.prog 3 [pS s,pP (gc l)] (av [pB true]):=by
 refine ag (nt:=66) ae Tryz.func3 rfl rfl l9 ?_
 have hk:=ROk.of_new h
 refine sx7 ?_;refine qy ?_;refine a6 ?_;refine a7 ?_;refine sx7 ?_;refine rc rfl rfl rfl rfl rfl rfl n7 (jo) (CoL.refl _) rfl rfl ?_;(iterate 2 refine qy ?_)
 refine b6 rfl rfl (fun r0=>?_) (fun r0=>?_)
 ·
  have h0:=r0
  have h0:=az h0
  exfalso
  first | (simp_all;done) | omega | (simp_all;omega)
 ·
  have h0:=r0
  have h0:=b4 h0
  (iterate 3 refine qy ?_ (hg:=(gff r0)));refine qy ?_;refine a6 ?_;refine a8 _ rfl (fun r1=>?_) (fun r1=>?_)
  ·
   have h1:=r1
   have h1:=bj r0 h1
   have h1:=of_decide_eq_true h1
   try simp only [ty] at h1
   exfalso
   first | (simp_all;done) | omega | (simp_all;omega)
  ·
   have h1:=r1
   have h1:=bj r0 h1
   have h1:=of_decide_eq_false h1
   try simp only [ty] at h1
   refine aa ?_;refine sx7 ?_;(iterate 2 refine qy ?_);refine rc rfl rfl rfl rfl rfl rfl rj (pg l.length false (lf ue l) (by omega)) (CoL.refl _) rfl rfl ?_
   refine ay rfl rfl rfl rfl rfl rfl a47 (acn s l (by omega) h) (br.refl _) trivial rfl rfl ?_;(iterate 5 refine qy ?_);refine a6 ?_;refine sx7 ?_;(iterate 2 refine qy ?_)
   refine rc rfl rfl rfl rfl rfl rfl ab8 (ar6 s l (by omega) h) (CoL.refl _) rfl rfl ?_;(iterate 3 refine qy ?_);refine m9 0 ?_;refine s9 ?_;refine qy ?_;refine a6 ?_;refine a7 ?_;refine sx7 ?_
   (iterate 4 refine qy ?_);refine b6 rfl rfl (fun r2=>?_) (fun r2=>?_)
   ·
    have h2:=r2
    have h2:=of_decide_eq_false (az h2)
    try simp only [ty] at h2
    exfalso
    first | (simp_all;done) | omega | (simp_all;omega)
   ·
    have h2:=r2
    have h2:=of_decide_eq_true (b4 h2)
    try simp only [ty] at h2
    (iterate 2 refine qy ?_ (hg:=(gff r2)));refine qy ?_;refine a6 ?_;refine a8 _ rfl (fun r3=>?_) (fun r3=>?_)
    ·
     have h3:=r3
     have h3:=bj r2 h3
     have h3:=of_decide_eq_false (az h3)
     try simp only [ty] at h3
     exfalso
     first | (simp_all;done) | omega | (simp_all;omega)
    ·
     have h3:=r3
     have h3:=bj r2 h3
     have h3:=of_decide_eq_true (b4 h3)
     try simp only [ty] at h3
     refine aa ?_;refine sx7 ?_;refine qy ?_
     refine ay rfl rfl rfl rfl rfl rfl a4g ((a9a (dx s l) (b8 (dx s l)) [] [] (eq hk.na) hk.la hk.lr).swap 1000 902) (br.refl _) ⟨u9,u9,trivial⟩ rfl rfl ?_;(iterate 5 refine qy ?_)
     refine a6 ?_;refine sx7 ?_;(iterate 3 refine qy ?_);refine b6 rfl rfl (fun r4=>?_) (fun r4=>?_)
     ·
      have h4:=r4
      (iterate 2 refine qy ?_ (hg:=(gtt r4)));refine ay rfl rfl rfl rfl rfl rfl abo ((a9z (dx s l) [] [] hk.ok hk.na hk.nr hk.la hk.lr).swap 1000 902) (br.refl _) ⟨u9,u9,trivial⟩ rfl (gtt r4) ?_
      (iterate 2 refine qy ?_);refine b6 rfl rfl (fun r5=>?_) (fun r5=>?_)
      ·
       have h5:=r5
       have h5:=cq r4 h5
       (iterate 6 refine qy ?_ (hg:=(gtt r5)));(iterate 2 refine qy ?_);refine a6 ?_
       exact hx8 rfl rfl rfl (⟨ccb (by first | rfl | simp_all),trivial⟩)
      ·
       have h5:=r5
       have h5:=cq r4 h5
       exfalso
       first | (simp_all;done) | omega | (simp_all;omega)
     ·
      have h4:=r4
      exfalso
      first | (simp_all;done) | omega | (simp_all;omega)
theorem ao6 (s:ByteArray) (l:List ByteArray):ak Tryz.prog 3 [pS s,pP (gc l)] (av [pB true]):=by
 by_cases h20:20 < l.length
 · exact alb s l h20
 · by_cases h:fe s l = 0
   · exact am2 s l h20 h
   · exact akj s l h20 h
end Go.Hx
end
