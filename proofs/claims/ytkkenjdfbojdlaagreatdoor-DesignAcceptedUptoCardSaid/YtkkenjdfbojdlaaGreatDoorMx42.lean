/- A part of the proof: Dw15. -/
import Derived.Test.YtkkenjdfbojdlaaGreatDoorMx41
set_option linter.all false
set_option maxRecDepth 100000
namespace Go.Hx
section
open Go.Proofs
def bir (d:Rcp) (hf:d.f.length <= 16777216) (hm:d.m.length <= 16777216) (hp:d.p.length <= 16777216):a7 btb 9 [d.pc] (aa [pB true]):=by
 refine hpx (nt:=99) Tryz.func9 ?_;refine sx7 ?_;refine m9 0 ?_;refine w_5 ?_;refine qcx (wgx Tryz.func10) (bkb d hf hm hp) ?_;refine o8 ?_;refine qcx (wgx Tryz.func11) (anj) ?_;refine w_6 ?_;refine hcv (fun h0=>?_) (fun h0=>?_)
 · refine sx7 ?_;refine qcx (wgx Tryz.func11) (anj) ?_;refine v_2 ?_;exact ⟨ccb (by first | rfl | exact ed | simp_all),trivial⟩
 have hok:okR d = true:=by simp_all
 obtain ⟨hf4,hm4,hp3⟩:=b67 hok;have hn4:=bf1 d;have hck:=bbk d hok;refine w_3 ?_;refine a05 [] [0,1,2,3,4,5] rfl ?_;refine a4h (E:=fy) (L1:=[0,1,2,3,4]) (L2:=[5]) fb ?_;refine m9 1 ?_;refine w_5 ?_;refine b6h ?_;refine ayl 1 rfl bes fun b es clock hf=>?_;refine au2 ?_;refine b2t (k:=5) (L:=[]) 2 rfl rfl fun bi=>?_;refine a95 ?_;refine a6f ?_;refine ah (ι:=Array Nat) (ka 3 (ka 4 (ka 5 (ka 31 kn)))) (kb 1 km) (fun s=>⟨[],[(2,some (.ex 2 (.pointer (some ⟨bi,0,none⟩)) bi (.mapIter (some b) clock s clock)))]⟩) (fun s=>True) (fun s=>(leftOf es s).size) (#[]) (trivial) kk ?_;rintro s _;refine cw ?_;refine a05 [] [0,1] rfl ?_;refine b9w (mid:=1) (k:=0) (L:=[1]) rfl hf (fun h0=>?_) (fun e he key v hk hv hev=>?_)
 ·
  refine a4h (E:=fy) (L1:=[1]) (L2:=[]) fb ?_;refine w_2 ?_;refine a95 ?_;refine w_8 ?_;refine qcx (wgx Tryz.func15) (b6w (d.num 4) (d.fs 4) (d.ms 4)) ?_;refine w_3 ?_;refine m9 3 ?_;refine w_8 ?_;refine ai rfl rfl (fun r1=>?_) (fun r1=>?_)
  ·
   have h1:=tz1 r1;(iterate 3 refine k9 (gtf r1) ?_);(iterate 4 refine k9 rfl ?_);(iterate 2 refine k9 (gtf r1) ?_);(iterate 5 refine k9 rfl ?_);refine k9 (gtf r1) ?_;refine w_3 ?_
   exact hx8 rfl rfl rfl (⟨ccb (by first | rfl | exact ed | simp_all),trivial⟩)
  have h1:=tz2 r1;have hb:=bay hck bsq;obtain ⟨e0,ew,ed⟩:=hb.resolve_left h1;(iterate 3 refine qy ?_ (hg:=(gff r1)));refine ai rfl rfl (fun r2=>?_) (fun r2=>?_)
  ·
   have h2:=tz1 r2;(iterate 4 refine qy ?_ (hg:=(gtt r2)));(iterate 2 refine qy ?_ (hg:=(gff r1)));refine ai rfl rfl (fun r3=>?_) (fun r3=>?_)
   · have h3:=tz1 (bq r2 r3);(iterate 4 refine qy ?_ (hg:=(gtt r3)));refine rc rfl rfl rfl rfl rfl rfl (wgx Tryz.func27) (aj9 (d.num 4) (d.fs 4) (d.ms 4) (goD (d.num 4) (d.fs 4) (d.ms 4) (mz (d.num 4) (d.fs 4))).1 (goD (d.num 4) (d.fs 4) (d.ms 4) (mz (d.num 4) (d.fs 4))).2.1 ((goD (d.num 4) (d.fs 4) (d.ms 4) (mz (d.num 4) (d.fs 4))).2.2.map a1i)) (⟨CoC.refl _,CoC.refl _,CoC.refl _,CoC.agg ⟨CoP.refl _,CoP.refl _,awq,trivial⟩,trivial⟩) rfl (gtt r3) ?_;refine qy ?_ (hg:=(gff r1));refine v_3 ?_;exact ⟨ccb (by first | rfl | exact ed | simp_all),trivial⟩
   have h3:=tz2 (bq r2 r3);exact absurd ew h3
  have h2:=tz2 r2;exact absurd e0 h2
 obtain ⟨fm,w,rfl,rfl,hfw⟩:=bih hv;refine a4h (E:=fy) (L1:=[1]) (L2:=[]) fb ?_;refine w_2 ?_;refine a95 ?_;refine w_5 ?_;refine a05 [] [0,1,2,3,4] rfl ?_;refine b2s (mid:=1) (k:=0) (L:=[1,2,3,4]) rfl hf he hk hv hev ?_;refine a4h (E:=fy) (L1:=[1,2,3,4]) (L2:=[]) fb ?_;refine w_5 ?_;refine a95 ?_;refine w_6 ?_;refine qcx ana (ad9 (d.num 4) (d.fs 4) (d.ms 4) fm) ?_;refine w_3 ?_;refine m9 4 ?_;refine w_9 ?_;refine hcd (fun h4=>?_) (fun h4=>?_)
 ·
  refine dy ?_;refine ⟨s.push e.born, ?_, ?_, ?_⟩
  · trivial
  · exact left_shrinks es s e he
  exact kk
 have ha:=b38 hck bsq hfw;have h3:¬ (goE (d.num 4) (d.fs 4) (d.ms 4) (im (d.num 4) (d.fs 4) (d.ms 4) fm)) = 3:=h4;obtain ⟨e0,ew,ed⟩:(goE (d.num 4) (d.fs 4) (d.ms 4) (im (d.num 4) (d.fs 4) (d.ms 4) fm)) = 0 /\ _ /\ _:=ha.resolve_left h3;refine w_6 ?_;refine ai rfl rfl (fun r5=>?_) (fun r5=>?_)
 · have h5:=tz2 (ci r5);exact absurd e0 h5
 have h5:=tz1 (cj r5);(iterate 6 refine qy ?_ (hg:=(gff r5)));refine w_2 ?_;refine ai rfl rfl (fun r6=>?_) (fun r6=>?_)
 · have h6:=tz2 (ci (aq r5 r6));exact absurd ew h6
 have h6:=tz1 (cj (aq r5 r6));(iterate 4 refine qy ?_ (hg:=(gff r6)));refine rc rfl rfl rfl rfl rfl rfl (wgx Tryz.func26) (b83 (d.num 4) (d.fs 4) (d.ms 4) (goD (d.num 4) (d.fs 4) (d.ms 4) (im (d.num 4) (d.fs 4) (d.ms 4) fm)).1 (goD (d.num 4) (d.fs 4) (d.ms 4) (im (d.num 4) (d.fs 4) (d.ms 4) fm)).2.1 ((goD (d.num 4) (d.fs 4) (d.ms 4) (im (d.num 4) (d.fs 4) (d.ms 4) fm)).2.2.map a1i)) (⟨CoC.refl _,CoC.refl _,CoC.refl _,CoC.agg ⟨CoP.refl _,CoP.refl _,awq,trivial⟩,trivial⟩) rfl (gff r6) ?_;refine qy ?_ (hg:=(gff r6));refine w_2 ?_;refine ai rfl rfl (fun r7=>?_) (fun r7=>?_)
 ·
  have h7:=ci (aq r6 r7);exfalso
  first | (exact absurd (ed.symm.trans h7) bsu) | simp_all
 have h7:=cj (aq r6 r7);(iterate 4 refine qy ?_ (hg:=(gff r7)));refine rc rfl rfl rfl rfl rfl rfl (wgx Tryz.func27) (aj9 (d.num 4) (d.fs 4) (d.ms 4) (goD (d.num 4) (d.fs 4) (d.ms 4) (im (d.num 4) (d.fs 4) (d.ms 4) fm)).1 (goD (d.num 4) (d.fs 4) (d.ms 4) (im (d.num 4) (d.fs 4) (d.ms 4) fm)).2.1 ((goD (d.num 4) (d.fs 4) (d.ms 4) (im (d.num 4) (d.fs 4) (d.ms 4) fm)).2.2.map a1i)) (⟨CoC.refl _,CoC.refl _,CoC.refl _,CoC.agg ⟨CoP.refl _,CoP.refl _,awq,trivial⟩,trivial⟩) rfl (gff r7) ?_;refine qy ?_ (hg:=(gff r7));refine w_2 ?_;refine am _ rfl (fun r8=>?_) (fun r8=>?_)
 ·
  have h8:=ci (aq r7 r8);exfalso
  first | (exact absurd (ed.symm.trans h8) bsu) | simp_all
 have h8:=cj (aq r7 r8);refine dp ?_;refine ⟨s.push e.born, ?_, ?_, ?_⟩
 · trivial
 · exact left_shrinks es s e he
 exact kk
end
end Go.Hx
