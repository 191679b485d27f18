/- A part of the proof: Mw10. -/
import Derived.Test.YtaegkccfbmekbaaGreatNx36
set_option linter.all false
section
namespace Go.Hx
open Go.Proofs
set_option maxRecDepth 100000
theorem ald {k:IntKind} {a b:Int} (h:a = b):l8 (.one (.p (.raw (.int k a)))) (.one (.p (.raw (.int k b)))):=h ▸ l8.refl _
theorem a47:ai Tryz.prog 11:=⟨Tryz.f11,Tryz.func11,by kernel_rfl,by kernel_rfl⟩
theorem aru (s:ByteArray) (l:List ByteArray) (hl:l.length ≤ 1000000) (h:¬ fe s l = 0):cj Tryz.prog 11 [.one (.p (.raw (.string s))), .one (.p (gc l))] [] (.tup [.one (.p (.raw (.pointer none))), .one (.p (.raw (.int .i64 (fe s l))))]) [] []:=by
 refine d7 (nt:=31) ae Tryz.func11 rfl rfl l9 rfl ?_;refine sx7 ?_;(iterate 2 refine qy ?_);refine a6 ?_;refine sx7 ?_;(iterate 2 refine qy ?_)
 refine rc rfl rfl rfl rfl rfl rfl rj (pg l.length false (lf ue l) (by omega)) (CoL.refl _) rfl rfl ?_;refine qy ?_;refine m9 900 ?_;refine s9 ?_;refine a6 ?_;refine a7 ?_;refine sx7 ?_;refine qy ?_
 refine rc rfl rfl rfl rfl rfl rfl a04 (c88 (dx s l)) (⟨CoC.agg ⟨CoP.refl _,CoP.refl _,bc,trivial⟩,trivial⟩) rfl rfl ?_;refine qy ?_;refine a6 ?_;refine sx7 ?_;(iterate 2 refine qy ?_);refine a6 ?_
 refine a8 _ rfl (fun r0=>?_) (fun r0=>?_)
 ·
  have h0:=r0
  have h0:=of_decide_eq_false (az h0)
  try simp only [ty] at h0
  refine sx7 ?_;(iterate 3 refine qy ?_);refine a6 ?_;refine au ?_;refine ⟨.inr rfl, ?_⟩
  exact ⟨_,_,rfl,(by (repeat' apply And.intro) <;> first | trivial | exact Nat.le_of_ble_eq_true rfl),⟨l8.refl _,ald ((akv (s:=s) (l:=l) (by omega)).1.symm),trivial⟩,trivial⟩
 ·
  have h0:=r0
  have h0:=of_decide_eq_true (b4 h0)
  try simp only [ty] at h0
  refine aa ?_;refine a7 ?_;refine sx7 ?_;(iterate 3 refine qy ?_);refine a6 ?_;refine a8 _ rfl (fun r1=>?_) (fun r1=>?_)
  ·
   have h1:=of_decide_eq_true r1
   try simp only [ty] at h1
   refine sx7 ?_;(iterate 2 refine qy ?_);refine a6 ?_;refine au ?_;refine ⟨.inr rfl, ?_⟩
   exact ⟨_,_,rfl,(by (repeat' apply And.intro) <;> first | trivial | exact Nat.le_of_ble_eq_true rfl),⟨l8.refl _,ald ((ak4 (s:=s) (l:=l) (by omega) (by omega)).1.symm),trivial⟩,trivial⟩
  ·
   have h1:=of_decide_eq_false r1
   try simp only [ty] at h1
   exact absurd (aqn (s:=s) (l:=l) (by omega) (by omega)).1 h
theorem acn (s:ByteArray) (l:List ByteArray) (hl:l.length ≤ 1000000) (h:fe s l = 0):cj Tryz.prog 11 [.one (.p (.raw (.string s))), .one (.p (gc l))] [] (.tup [.one (.ptr 902 0), .one (.p (.raw (.int .i64 (0))))]) ((asr s l).objsAt 902) []:=by
 refine d7 (nt:=31) ae Tryz.func11 rfl rfl l9 rfl ?_;refine sx7 ?_;(iterate 2 refine qy ?_);refine a6 ?_;refine sx7 ?_;(iterate 2 refine qy ?_)
 refine rc rfl rfl rfl rfl rfl rfl rj (pg l.length false (lf ue l) (by omega)) (CoL.refl _) rfl rfl ?_;refine qy ?_;refine m9 900 ?_;refine s9 ?_;refine a6 ?_;refine a7 ?_;refine sx7 ?_;refine qy ?_
 refine rc rfl rfl rfl rfl rfl rfl a04 (c88 (dx s l)) (⟨CoC.agg ⟨CoP.refl _,CoP.refl _,bc,trivial⟩,trivial⟩) rfl rfl ?_;refine qy ?_;refine a6 ?_;refine sx7 ?_;(iterate 2 refine qy ?_);refine a6 ?_
 refine a8 _ rfl (fun r0=>?_) (fun r0=>?_)
 ·
  have h0:=r0
  have h0:=of_decide_eq_false (az h0)
  try simp only [ty] at h0
  exact absurd h (by rw [(akv (s:=s) (l:=l) (by omega)).1];omega)
 ·
  have h0:=r0
  have h0:=of_decide_eq_true (b4 h0)
  try simp only [ty] at h0
  refine aa ?_;refine a7 ?_;refine sx7 ?_;(iterate 3 refine qy ?_);refine a6 ?_;refine a8 _ rfl (fun r1=>?_) (fun r1=>?_)
  ·
   have h1:=of_decide_eq_true r1
   try simp only [ty] at h1
   exact absurd h (by rw [(ak4 (s:=s) (l:=l) (by omega) (by omega)).1];omega)
  ·
   have h1:=of_decide_eq_false r1
   try simp only [ty] at h1
   have hna:(dx s l).attrs.length ≤ 8:=by show l.length ≤ 8;omega
   refine aa ?_;refine sx7 ?_;refine qy ?_;refine m9 901 ?_;refine qy ?_;refine m9 902 ?_;refine qy ?_;refine a6 ?_;refine a7 ?_
   refine kg ⟨[(8,some _)],[(901,some _),(902,some _)]⟩ ⟨⟨c9,trivial⟩,⟨u9,u9,trivial⟩⟩ ?_;refine gy ?_;(iterate 2 refine qy ?_)
   refine ay rfl rfl rfl rfl rfl rfl aiv ((a9k (dx s l) [] [] [] hna).swap 1000 902) (br.refl _) ⟨⟨_,rfl,⟨CoH.refl _,CoH.refl _,bc,CoH.refl _,bc,bc,bc,trivial⟩⟩,⟨_,rfl,at6⟩,trivial⟩ rfl rfl ?_
   (iterate 2 refine qy ?_);refine s9 ?_;refine a6 ?_;refine sx7 ?_;(iterate 3 refine qy ?_);refine a6 ?_;refine au ?_;refine ⟨.inr rfl, ?_⟩
   exact ⟨_,_,rfl,(by (repeat' apply And.intro) <;> first | trivial | exact Nat.le_of_ble_eq_true rfl),CoR.refl _,⟨u9,u9,trivial⟩⟩
theorem zq:ai Tryz.prog 27:=⟨Tryz.f27,Tryz.func27,by kernel_rfl,by kernel_rfl⟩
theorem a0e (t:Tbl) (fds add rem:List Fd) (hna:t.attrs.length ≤ 8):cj Tryz.prog 27 [.one (.ptr 1000 0)] (mst t fds add rem).objs (.v (.one (.p (asl (jk (prs t.rows) t.attrs.length))))) (mst t fds add rem).objs [1000]:=by
 refine d7 (nt:=43) ae Tryz.func27 rfl rfl l9 rfl ?_
 have hsl:=ny (b9 (t.attrs.length:Nat))
 refine sx7 ?_;refine qy ?_;refine a6 ?_;refine sx7 ?_;refine qy ?_;refine a6 ?_;refine a7 ?_;refine sx7 ?_;refine qy ?_
 refine ay rfl rfl rfl rfl rfl rfl a9e (acf t fds add rem hna) (br.refl _) ⟨u9,u9,trivial⟩ rfl rfl ?_;refine rc rfl rfl rfl rfl rfl rfl aim (amu (b9 (t.attrs.length:Nat))) (CoL.refl _) rfl rfl ?_
 (iterate 2 refine qy ?_);refine a6 ?_;refine af ?_;refine du 3 905 true 1 69 (lf sC []) (by decide) rfl (CoP.sl rfl (.inr rfl) (fun h=>h) (fun i j hi _=>absurd hi (Nat.not_lt_zero i))) (.inr rfl) rfl ?_
 refine ap (ι:=Nat) ⟨[(0,some _),(10,some _),(11,some _)],[(1000,some _),(901,some _)]⟩ ⟨⟨c9,c9,c9,trivial⟩,⟨u9,u9,trivial⟩⟩ (fun i=>⟨[(3,some (.v (.one (.ref 905 (mw (prs t.rows) t.attrs.length i).length)))),(12,some (vI i))],[(905,some (.arr true 1 69 (mw (prs t.rows) t.attrs.length i).length (lf sC (mw (prs t.rows) t.attrs.length i))))]⟩) (fun i=>i ≤ (d9 (b9 (t.attrs.length:Nat))).length) (fun i=>(d9 (b9 (t.attrs.length:Nat))).length - i) (0) (Nat.zero_le _) ⟨⟨zy,zy,trivial⟩,⟨u9,trivial⟩⟩ ?_
 rintro i hi
 refine sx7 ?_;refine qy ?_;refine a6 ?_;refine a7 ?_;refine a8 _ rfl (fun r0=>?_) (fun r0=>?_)
 ·
  have h0:=of_decide_eq_true r0
  try simp only [ty] at h0
  have hil:i < (cu t.attrs.length).length:=Int.ofNat_lt.1 h0
  have hkl:=alt (prs t.rows) t.attrs.length i
  refine aa ?_;refine a7 ?_;refine af ?_;refine sx7 ?_;(iterate 2 refine qy ?_);refine m9 0 ?_;refine s9 ?_;refine a6 ?_;refine ks 5 rfl rfl rfl ?_;refine sx7 ?_;(iterate 2 refine qy ?_)
  refine rc rfl rfl rfl rfl rfl rfl aaw (aey (mw (prs t.rows) t.attrs.length i) 60 1 (fun j=>[bx (asC ((d9 (b9 (t.attrs.length:Nat))).getD i default))].getD j .any) (fun y=>decide (sub y ((d9 (b9 (t.attrs.length:Nat))).getD i default))) atm (fun y=>auf y ((d9 (b9 (t.attrs.length:Nat))).getD i default))) (CoL.refl _) rfl rfl ?_
  (iterate 2 refine qy ?_);refine a6 ?_;(iterate 2 refine a7 ?_);refine fb [] [0,1,2,3,4] rfl ?_;refine gf (E:=b5) (L1:=[0,1,2,3]) (L2:=[4]) ae ?_;(iterate 4 refine qy ?_)
  refine a6 ?_;refine sa ?_
  refine a07 901 rfl a60 fun b es clock hf=>?_
  refine kw ?_
  refine a3n (k:=4) (L:=[]) 1 rfl rfl fun bi=>?_
  refine ic ?_;refine af ?_
  refine ap (ι:=(Array Nat × List AS)) ⟨[(0,some _),(3,some _),(5,some _),(10,some _),(11,some _),(12,some _),(24,some _)],[(905,some _),(1000,some _),(901,some _)]⟩ ⟨⟨c9,c9,c9,c9,c9,c9,c9,trivial⟩,⟨u9,u9,u9,trivial⟩⟩ (fun v=>⟨[(6,some (vB ((!((mw (prs t.rows) t.attrs.length i).any fun y=>decide (sub y ((d9 (b9 (t.attrs.length:Nat))).getD i default)))) && pK v.2 ((d9 (b9 (t.attrs.length:Nat))).getD i default))))],[(1,some (.ex 2 (.pointer (some ⟨bi,0,none⟩)) bi (.mapIter (some b) clock v.1 clock)))]⟩) (fun v=>Vis es v.1 (v.2.map mkA)) (fun v=>(leftOf es v.1).size) ((#[],[])) (a6x) ⟨⟨⟨_,rfl,(cob (by simp [pK]))⟩,trivial⟩,⟨u9,trivial⟩⟩ ?_
  rintro ⟨s,K⟩ hV
  refine a7 ?_;refine fb [] [0,1] rfl ?_;refine a6y (mid:=901) (k:=0) (L:=[1]) rfl hf (fun h0=>?_) (fun e he key v hk hv hev=>?_)
  ·
   have hD:=aqq (a67 hf hV h0) ((d9 (b9 (t.attrs.length:Nat))).getD i default)
   refine sa ?_;refine ym 901 rfl hf ?_;refine kw ?_;refine gf (E:=b5) (L1:=[1]) (L2:=[]) ae ?_;refine qy ?_;refine a6 ?_;refine ic ?_;refine a7 ?_
   refine a8 _ rfl (fun e=>by cases e) (fun _=>?_);refine am ?_;refine sx7 ?_;refine qy ?_;refine a6 ?_;refine a8 _ rfl (fun r1=>?_) (fun r1=>?_)
   ·
    have h1:=r1
    have hb:=r1
    dsimp only at hb
    rw [hD] at hb
    refine gy ?_;(iterate 2 refine qy ?_);refine m9 2 ?_;refine ra 3 true rfl rfl rfl rfl rfl rfl ?_;refine qy ?_;refine a6 ?_;refine gy ?_;(iterate 2 refine qy ?_);refine a6 ?_
    first | (refine ⟨i + 1, ?_, ?_, ?_⟩
             · show i + 1 ≤ _;omega
             · first | omega | (dsimp only;omega)
             · exact ⟨⟨⟨_,rfl,(dj (a48 hil hb))⟩,zy,c9,c9,c9,trivial⟩,⟨⟨_,rfl,(ec (a48 hil hb) (CoP.refl _))⟩,u9,u9,trivial⟩⟩)
          | (refine ⟨i + 1, ?_, ?_, ?_⟩
             · show i + 1 ≤ _;omega
             · first | omega | (dsimp only;omega)
             · exact ⟨⟨⟨_,rfl,(cw (a49 hil hb))⟩,zy,c9,c9,c9,trivial⟩,⟨⟨_,rfl,(cg (a49 hil hb))⟩,u9,u9,trivial⟩⟩)
   ·
    have h1:=r1
    have hb:=r1
    dsimp only at hb
    rw [hD] at hb
    refine aa ?_;refine gy ?_;(iterate 2 refine qy ?_);refine a6 ?_
    first | (refine ⟨i + 1, ?_, ?_, ?_⟩
             · show i + 1 ≤ _;omega
             · first | omega | (dsimp only;omega)
             · exact ⟨⟨⟨_,rfl,(dj (a48 hil hb))⟩,zy,c9,c9,c9,trivial⟩,⟨⟨_,rfl,(ec (a48 hil hb) (CoP.refl _))⟩,u9,u9,trivial⟩⟩)
          | (refine ⟨i + 1, ?_, ?_, ?_⟩
             · show i + 1 ≤ _;omega
             · first | omega | (dsimp only;omega)
             · exact ⟨⟨⟨_,rfl,(cw (a49 hil hb))⟩,zy,c9,c9,c9,trivial⟩,⟨⟨_,rfl,(cg (a49 hil hb))⟩,u9,u9,trivial⟩⟩)
  ·
   obtain ⟨k,rfl,hck,hy⟩:=o6 hv
   refine gf (E:=b5) (L1:=[1]) (L2:=[]) ae ?_;refine qy ?_;refine a6 ?_;refine ic ?_;refine a7 ?_;refine a8 _ rfl (fun _=>?_) (fun e=>by cases e);refine aa ?_;refine af ?_
   refine a7 ?_;refine fb [] [0,1,2] rfl ?_;refine a3p (mid:=901) (k:=0) (L:=[1,2]) rfl hf he hk hv hev ?_;refine gf (E:=b5) (L1:=[1,2]) (L2:=[]) ae ?_;(iterate 2 refine qy ?_)
   refine a6 ?_;refine ic ?_;refine gy ?_;(iterate 2 refine qy ?_);refine b6 rfl rfl (fun r2=>?_) (fun r2=>?_)
   ·
    have h2:=r2
    (iterate 4 refine qy ?_ (hg:=(gtt r2)));(iterate 2 refine qy ?_);refine a6 ?_;refine ⟨(s.push e.born,K ++ [k]), ?_, ?_, ?_⟩
    · exact uf hf hV he hk
    · exact left_shrinks es s e he
    · exact ⟨⟨⟨_,rfl,(cob (by first | exact amo | exact amm (by assumption)))⟩,c9,c9,c9,c9,c9,c9,c9,trivial⟩,⟨u9,u9,u9,u9,trivial⟩⟩
   ·
    have h2:=r2
    (iterate 4 refine k9 (gft r2) ?_);refine rq rfl rfl rfl rfl rfl ?_ (hp:=r2);refine qy ?_;refine a6 ?_;refine ⟨(s.push e.born,K ++ [k]), ?_, ?_, ?_⟩
    · exact uf hf hV he hk
    · exact left_shrinks es s e he
    · exact ⟨⟨⟨_,rfl,(cob (by first | exact amo | exact amm (by assumption)))⟩,c9,c9,c9,c9,c9,c9,c9,trivial⟩,⟨u9,u9,u9,u9,trivial⟩⟩
 ·
  have h0:=of_decide_eq_false r0
  try simp only [ty] at h0
  obtain rfl:i = (d9 (b9 (t.attrs.length:Nat))).length:=by omega
  refine am ?_;refine a7 ?_;refine dh 3 rfl rfl rfl ?_;refine gy ?_;(iterate 2 refine qy ?_);refine a6 ?_;refine au ?_;refine ⟨.inr rfl, ?_⟩
  exact ⟨_,_,rfl,(by (repeat' apply And.intro) <;> first | trivial | exact Nat.le_of_ble_eq_true rfl),(CoR.of_eq (by rw [alk (Nat.le_refl _)];rfl)),⟨u9,u9,trivial⟩⟩
end Go.Hx
end
