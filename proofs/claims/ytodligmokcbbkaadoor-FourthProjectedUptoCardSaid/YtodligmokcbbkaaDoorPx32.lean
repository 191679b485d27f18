/- A part of the proof: Fqw2 Fqw3. -/
import Derived.Test.YtodligmokcbbkaaDoorPx24
import Derived.Test.YtodligmokcbbkaaDoorPx26
import Derived.Test.YtodligmokcbbkaaDoorPx29
import Derived.Test.YtodligmokcbbkaaDoorPx30
import Derived.Test.YtodligmokcbbkaaDoorPx31
set_option linter.all false
section
namespace Go.Hx
open Go.Proofs
set_option maxRecDepth 100000
set_option maxHeartbeats 1000000
def q8 (n:Int) (q:BitVec 8):AS:=q.setWidth 32 &&& aq n
theorem age {n:Int} {q:BitVec 8}:sub (q8 n q) (aq n):=a6k
theorem a4o {n:Int} {x:Dp}:sub ((Dp.fd n x).lhs ||| (Dp.fd n x).rhs) (aq n):=by
 refine bo.2 fun i hi h=>?_
 unfold Dp.fd at h
 simp only [BitVec.getLsbD_or,BitVec.getLsbD_and,Bool.or_eq_true,Bool.and_eq_true] at h
 rcases h with h | h <;> exact h.2
theorem s7 {α:Type} [Inhabited α] {q:α → Bool} {l:List α} {i:Nat} (hi:i < l.length) (h:q (l.getD i default) = true):(l.take (i + 1)).filter q = (l.take i).filter q ++ [l.getD i default]:=by
 rw [bc hi,List.filter_append,List.filter_cons,if_pos h]
 rfl
theorem rz {α:Type} [Inhabited α] {q:α → Bool} {l:List α} {i:Nat} (hi:i < l.length) (h:q (l.getD i default) = false):(l.take (i + 1)).filter q = (l.take i).filter q:=by
 rw [bc hi,List.filter_append,List.filter_cons,if_neg (by rw [h];decide)]
 simp
theorem zd {α:Type} {q:α → Bool} {l:List α} {i:Nat}:((l.take i).filter q).length ≤ i:=Nat.le_trans (List.length_filter_le _ _) (by rw [List.length_take];omega)
theorem aj1 {n:Nat} {p m:List Fd} {s:AS} (hn:n ≤ 8) (hp:p.length ≤ 64) (hm:m.length ≤ 64) (hpu:∀ d ∈ p,sub (d.lhs ||| d.rhs) (aq (n:Int))) (hmu:∀ d ∈ m,sub (d.lhs ||| d.rhs) (aq (n:Int))) (hs:sub s (aq (n:Int))):ck4 n p m s = 0:=by
 have hin:∀ {d:Fd},sub (d.lhs ||| d.rhs) (aq (n:Int)) → inU n d = true:=fun {d} h=>by
  refine (aba (by omega) (by omega)).2 ⟨bo.2 fun i hi hb=>bo.1 h i hi (by rw [BitVec.getLsbD_or,hb,Bool.true_or]),bo.2 fun i hi hb=>bo.1 h i hi (by rw [BitVec.getLsbD_or,hb,Bool.or_true])⟩
 have hve:d8 n p = 0:=by
  unfold d8
  rw [if_neg (by omega),if_neg (by omega),if_pos (List.all_eq_true.2 fun d hd=>hin (hpu d hd))]
 have hb:eo n p m = 0:=(agb hve (by omega) fun j hj=>by
  rw [c7 _ _ hj]
  exact hin (hmu _ (List.getElem_mem hj))).symm
 rw [zp (by omega)]
 exact a2o hb (aax hs (a89 (by omega)))
theorem akp (X:AS) (k:Nat):ct .or .u32 (asI X) (IntKind.wrap .u32 (1 * 2 ^ (min k 32))) = asI (X ||| ku k):=by
 have h:=ac7 1 k
 rw [show asI (1:AS) = 1 from rfl] at h
 rw [h,bOr]
 rfl
theorem ne {part s:AS} {a:Nat} (hp:al part (a:Int) = true) (hs:al s (a:Int) = true):fj part s (a + 1) = fj part s a ||| ku (mbN part a).length:=by
 show (if (al part (a:Int) && al s (a:Int)) = true then _ else _) = _
 rw [if_pos (by rw [hp,hs];rfl)]
theorem ng {part s:AS} {a:Nat} (hs:al s (a:Int) = false):fj part s (a + 1) = fj part s a:=by
 show (if (al part (a:Int) && al s (a:Int)) = true then _ else _) = _
 rw [if_neg (by rw [hs,Bool.and_false];decide)]
theorem nj {part s:AS} {a:Nat} (hp:al part (a:Int) = false):fj part s (a + 1) = fj part s a:=by
 show (if (al part (a:Int) && al s (a:Int)) = true then _ else _) = _
 rw [if_neg (by rw [hp,Bool.false_and];decide)]
theorem eg {X Y:AS} (h:X = Y):CoP (asC X) (asC Y):=by rw [h];exact CoP.refl _
theorem nc {X Y:AS} {k:Nat} {z:Int} (hz:z = IntKind.wrap .u32 (1 * 2 ^ (min k 32))) (h:Y = X ||| ku k):CoP (.raw (.int .u32 (ct .or .u32 (asI X) z))) (asC Y):=by
 subst hz h
 exact CoP.of_eq (congrArg (fun z=>PV.raw (.int .u32 z)) (akp X k))
theorem amd (x:gm) (hx:x.rows.length ≤ 8):ao Tryd.prog 4 [x.pc,pI (8:Nat)] (ay [(ae x (x.attrs.toNat % 6)).pc,pB true]):=by
 have h:=ajq x 8 (by omega)
 rw [show a9p x 8 = (ae x (x.attrs.toNat % 6)) from if_neg (by omega),show a1n x ((8:Nat):Int) = true by unfold a1n;simp;omega] at h
 exact h
theorem aoi (x:gm) (hx:¬ x.rows.length ≤ 8) (hx2:x.rows.length ≤ 16777216):ao Tryd.prog 4 [x.pc,pI (8:Nat)] (ay [T0.pc,pB false]):=by
 have h:=ajq x 8 (by omega)
 rw [show a9p x 8 = T0 from if_pos (by omega),show a1n x ((8:Nat):Int) = false by unfold a1n;simp;omega] at h
 exact h
theorem al4 (x:gm) (d:Mx) (s:BitVec 8) (hx:x.rows.length ≤ 8) (hl:d.d.l.length ≤ 16777216) (hm:d.m.length ≤ 16777216):ao Tryd.prog 3 [x.pc,d.pc,pP (u8C s 0)] (ay [pB true]):=by
 refine ak (nt:=174) ai Tryd.func3 rfl rfl l9 ?_
 have hna:(x.attrs.toNat % 6) ≤ 5:=by omega
 have hT:TOk (ae x (x.attrs.toNat % 6)):=al9 (by omega) (by omega)
 have hnl:(ae x (x.attrs.toNat % 6)).attrs.length = (x.attrs.toNat % 6):=a1f (by omega)
 have hLl:(d.d.l.map (Dp.fd (((ae x (x.attrs.toNat % 6)).attrs.length:Nat):Int))).length = d.d.l.length:=List.length_map ..
 have hMl:(d.m.map (Dp.fd (((ae x (x.attrs.toNat % 6)).attrs.length:Nat):Int))).length = d.m.length:=List.length_map ..
 refine sx7 ?_;refine m9 0 ?_;refine m9 1 ?_;refine qy ?_;refine a6 ?_;refine sx7 ?_;refine qy ?_;refine rc rfl rfl rfl rfl rfl rfl ajj (amd x hx) (CoL.refl _) rfl rfl ?_;(iterate 3 refine qy ?_);refine m9 2 ?_
 refine s9 ?_;refine qy ?_;refine a6 ?_;refine sx7 ?_;(iterate 4 refine qy ?_);refine a6 ?_;refine a7 ?_;refine sx7 ?_;refine rc rfl rfl rfl rfl rfl rfl a2n (re) (CoL.refl _) rfl rfl ?_
 (iterate 13 refine qy ?_);refine c4 rfl rfl (fun r0=>?_) (fun r0=>?_)
 ·
  have h0:=of_decide_eq_true r0
  try simp only [ty] at h0
  (iterate 4 refine k9 (gtf r0) ?_);refine rq rfl rfl rfl rfl rfl ?_ (hp:=r0);refine a6 ?_;refine a8 _ rfl (fun _=>?_) (fun e=>by cases e);refine sx7 ?_
  refine rc rfl rfl rfl rfl rfl rfl a2n (re) (CoL.refl _) rfl rfl ?_;refine qy ?_;refine a6 ?_
  exact hx8 rfl rfl rfl (CoL.refl _)
 ·
  have h0:=of_decide_eq_false r0
  try simp only [ty] at h0
  (iterate 4 refine qy ?_ (hg:=(gff r0)));refine qy ?_;refine a6 ?_;refine a8 _ rfl (fun r1=>?_) (fun r1=>?_)
  ·
   have h1:=r1
   have h1:=fk r0 h1
   have h1:=of_decide_eq_true h1
   try simp only [ty] at h1
   refine sx7 ?_;refine rc rfl rfl rfl rfl rfl rfl a2n (re) (CoL.refl _) rfl rfl ?_;refine qy ?_;refine a6 ?_
   exact hx8 rfl rfl rfl (CoL.refl _)
  ·
   have h1:=r1
   have h1:=fk r0 h1
   have h1:=of_decide_eq_false h1
   try simp only [ty] at h1
   have hl6:d.d.l.length ≤ 6:=by first | omega | (simp_all;omega)
   have hm4:d.m.length ≤ 4:=by first | omega | (simp_all;omega)
   refine aa ?_;refine sx7 ?_;refine qy ?_;refine a6 ?_;refine a7 ?_;refine sx7 ?_;(iterate 4 refine qy ?_)
   refine rc rfl rfl rfl rfl rfl rfl ak0 (ajb (((ae x (x.attrs.toNat % 6)).attrs.length:Nat):Int) d.d.l hl) (CoL.refl _) rfl rfl ?_;(iterate 2 refine qy ?_);refine a6 ?_;refine ah ?_
   refine gf 10 900 true 2 42 (lf Fd.c []) (by decide) rfl (CoP.sl rfl (.inr rfl) (fun h=>h) (fun i j hi _=>absurd hi (Nat.not_lt_zero i))) (.inr rfl) rfl ?_
   refine b4 (ι:=Nat) ⟨[(2,some _),(4,some _),(7,some _),(9,some _),(61,some _),(62,some _)],[(1,some _),(2,some _)]⟩ ⟨⟨c9,c9,c9,c9,c9,c9,trivial⟩,⟨u9,u9,trivial⟩⟩ (fun i=>⟨[(10,some (.v (.one (.ref 900 (((d.d.l.map (Dp.fd (((ae x (x.attrs.toNat % 6)).attrs.length:Nat):Int))).take i).filter (fdB (ae x (x.attrs.toNat % 6)))).length)))),(63,some (vI i))],[(900,some (.arr true 2 42 (((d.d.l.map (Dp.fd (((ae x (x.attrs.toNat % 6)).attrs.length:Nat):Int))).take i).filter (fdB (ae x (x.attrs.toNat % 6)))).length (lf Fd.c (((d.d.l.map (Dp.fd (((ae x (x.attrs.toNat % 6)).attrs.length:Nat):Int))).take i).filter (fdB (ae x (x.attrs.toNat % 6)))))))]⟩) (fun i=>i ≤ (d.d.l.map (Dp.fd (((ae x (x.attrs.toNat % 6)).attrs.length:Nat):Int))).length) (fun i=>(d.d.l.map (Dp.fd (((ae x (x.attrs.toNat % 6)).attrs.length:Nat):Int))).length - i) (0) (Nat.zero_le _) ⟨⟨zy,zy,trivial⟩,⟨u9,trivial⟩⟩ ?_
   rintro i hi
   have hlen:(((d.d.l.map (Dp.fd (((ae x (x.attrs.toNat % 6)).attrs.length:Nat):Int))).take i).filter (fdB (ae x (x.attrs.toNat % 6)))).length ≤ i:=zd
   refine sx7 ?_;refine qy ?_;refine a6 ?_;refine a7 ?_;refine a8 _ rfl (fun r2=>?_) (fun r2=>?_)
   ·
    have h2:=of_decide_eq_true r2
    try simp only [ty] at h2
    refine aa ?_;refine a7 ?_;refine ah ?_;refine sx7 ?_;(iterate 2 refine qy ?_);refine m9 3 ?_;refine s9 ?_;refine a6 ?_;refine sx7 ?_;(iterate 2 refine qy ?_)
    refine rc rfl rfl rfl rfl rfl rfl arh (as6 (ae x (x.attrs.toNat % 6)) ((d.d.l.map (Dp.fd (((ae x (x.attrs.toNat % 6)).attrs.length:Nat):Int))).getD i default) hT.ok) (CoL.refl _) rfl rfl ?_;refine a6 ?_
    refine a8 _ rfl (fun r3=>?_) (fun r3=>?_)
    ·
     have h3:=r3
     have hq:fdB (ae x (x.attrs.toNat % 6)) ((d.d.l.map (Dp.fd (((ae x (x.attrs.toNat % 6)).attrs.length:Nat):Int))).getD i default) = true:=r3
     refine gy ?_;(iterate 2 refine qy ?_);refine m9 4 ?_;refine ra 5 true rfl rfl rfl rfl rfl rfl ?_;refine qy ?_;refine a6 ?_;refine gy ?_;(iterate 2 refine qy ?_);refine a6 ?_
     first | (refine ⟨i + 1, ?_, ?_, ?_⟩
              · show i + 1 ≤ _;omega
              · first | omega | (dsimp only;omega)
              · exact ⟨⟨⟨_,rfl,(ej (s7 (by omega) hq))⟩,zy,c9,c9,c9,c9,c9,c9,trivial⟩,⟨⟨_,rfl,(j1 (s7 (by omega) hq) (CoP.refl _) (CoP.refl _))⟩,u9,u9,trivial⟩⟩)
           | (refine ⟨i + 1, ?_, ?_, ?_⟩
              · show i + 1 ≤ _;omega
              · first | omega | (dsimp only;omega)
              · exact ⟨⟨⟨_,rfl,(cn (rz (by omega) hq))⟩,zy,c9,c9,c9,c9,c9,c9,trivial⟩,⟨⟨_,rfl,(c5 (rz (by omega) hq))⟩,u9,u9,trivial⟩⟩)
    ·
     have h3:=r3
     have hq:fdB (ae x (x.attrs.toNat % 6)) ((d.d.l.map (Dp.fd (((ae x (x.attrs.toNat % 6)).attrs.length:Nat):Int))).getD i default) = false:=r3
     refine aa ?_;refine gy ?_;(iterate 2 refine qy ?_);refine a6 ?_
     first | (refine ⟨i + 1, ?_, ?_, ?_⟩
              · show i + 1 ≤ _;omega
              · first | omega | (dsimp only;omega)
              · exact ⟨⟨⟨_,rfl,(ej (s7 (by omega) hq))⟩,zy,c9,c9,c9,c9,c9,c9,trivial⟩,⟨⟨_,rfl,(j1 (s7 (by omega) hq) (CoP.refl _) (CoP.refl _))⟩,u9,u9,trivial⟩⟩)
           | (refine ⟨i + 1, ?_, ?_, ?_⟩
              · show i + 1 ≤ _;omega
              · first | omega | (dsimp only;omega)
              · exact ⟨⟨⟨_,rfl,(cn (rz (by omega) hq))⟩,zy,c9,c9,c9,c9,c9,c9,trivial⟩,⟨⟨_,rfl,(c5 (rz (by omega) hq))⟩,u9,u9,trivial⟩⟩)
   ·
    have h2:=of_decide_eq_false r2
    try simp only [ty] at h2
    obtain rfl:i = (d.d.l.map (Dp.fd (((ae x (x.attrs.toNat % 6)).attrs.length:Nat):Int))).length:=by omega
    refine az ?_;refine a7 ?_;refine dl 10 rfl rfl rfl ?_;refine gy ?_;refine qy ?_;refine a6 ?_;refine a7 ?_;refine sx7 ?_;(iterate 3 refine qy ?_)
    refine rc rfl rfl rfl rfl rfl rfl ar3 (akd (((ae x (x.attrs.toNat % 6)).attrs.length:Nat):Int) d.m hm) (CoL.refl _) rfl rfl ?_;(iterate 2 refine qy ?_);refine a6 ?_;refine ah ?_
    refine gf 13 901 true 2 46 (lf Fd.c []) (by decide) rfl (CoP.sl rfl (.inr rfl) (fun h=>h) (fun i j hi _=>absurd hi (Nat.not_lt_zero i))) (.inr rfl) rfl ?_
    refine b4 (ι:=Nat) ⟨[(2,some _),(7,some _),(9,some _),(10,some _),(78,some _),(79,some _)],[(2,some _)]⟩ ⟨⟨c9,c9,c9,c9,c9,c9,trivial⟩,⟨u9,trivial⟩⟩ (fun i=>⟨[(13,some (.v (.one (.ref 901 (((d.m.map (Dp.fd (((ae x (x.attrs.toNat % 6)).attrs.length:Nat):Int))).take i).filter (mvB (ae x (x.attrs.toNat % 6)))).length)))),(80,some (vI i))],[(901,some (.arr true 2 46 (((d.m.map (Dp.fd (((ae x (x.attrs.toNat % 6)).attrs.length:Nat):Int))).take i).filter (mvB (ae x (x.attrs.toNat % 6)))).length (lf Fd.c (((d.m.map (Dp.fd (((ae x (x.attrs.toNat % 6)).attrs.length:Nat):Int))).take i).filter (mvB (ae x (x.attrs.toNat % 6)))))))]⟩) (fun i=>i ≤ (d.m.map (Dp.fd (((ae x (x.attrs.toNat % 6)).attrs.length:Nat):Int))).length) (fun i=>(d.m.map (Dp.fd (((ae x (x.attrs.toNat % 6)).attrs.length:Nat):Int))).length - i) (0) (Nat.zero_le _) ⟨⟨zy,zy,trivial⟩,⟨u9,trivial⟩⟩ ?_
    rintro i hi
    have hlen:(((d.m.map (Dp.fd (((ae x (x.attrs.toNat % 6)).attrs.length:Nat):Int))).take i).filter (mvB (ae x (x.attrs.toNat % 6)))).length ≤ i:=zd
    refine sx7 ?_;refine qy ?_;refine a6 ?_;refine a7 ?_;refine a8 _ rfl (fun r4=>?_) (fun r4=>?_)
    ·
     have h4:=of_decide_eq_true r4
     try simp only [ty] at h4
     refine aa ?_;refine a7 ?_;refine ah ?_;refine sx7 ?_;(iterate 2 refine qy ?_);refine m9 6 ?_;refine s9 ?_;refine a6 ?_;refine sx7 ?_;(iterate 2 refine qy ?_)
     refine rc rfl rfl rfl rfl rfl rfl aja (aan (ae x (x.attrs.toNat % 6)) ((d.m.map (Dp.fd (((ae x (x.attrs.toNat % 6)).attrs.length:Nat):Int))).getD i default) hT (by rw [c7 _ _ (by omega),List.getElem_map];exact a4o)) (CoL.refl _) rfl rfl ?_
     (iterate 5 refine qy ?_);refine a6 ?_;refine sx7 ?_;(iterate 5 refine qy ?_);refine a6 ?_;refine a8 _ rfl (fun r5=>?_) (fun r5=>?_)
     ·
      have h5:=r5
      have hq:mvB (ae x (x.attrs.toNat % 6)) ((d.m.map (Dp.fd (((ae x (x.attrs.toNat % 6)).attrs.length:Nat):Int))).getD i default) = true:=by simpa using r5
      refine gy ?_;(iterate 2 refine qy ?_);refine m9 7 ?_;refine ra 8 true rfl rfl rfl rfl rfl rfl ?_;refine qy ?_;refine a6 ?_;refine gy ?_;(iterate 2 refine qy ?_);refine a6 ?_
      first | (refine ⟨i + 1, ?_, ?_, ?_⟩
               · show i + 1 ≤ _;omega
               · first | omega | (dsimp only;omega)
               · exact ⟨⟨⟨_,rfl,(ej (s7 (by omega) hq))⟩,zy,c9,c9,c9,c9,c9,c9,trivial⟩,⟨⟨_,rfl,(j1 (s7 (by omega) hq) (CoP.refl _) (CoP.refl _))⟩,u9,trivial⟩⟩)
            | (refine ⟨i + 1, ?_, ?_, ?_⟩
               · show i + 1 ≤ _;omega
               · first | omega | (dsimp only;omega)
               · exact ⟨⟨⟨_,rfl,(cn (rz (by omega) hq))⟩,zy,c9,c9,c9,c9,c9,c9,trivial⟩,⟨⟨_,rfl,(c5 (rz (by omega) hq))⟩,u9,trivial⟩⟩)
     ·
      have h5:=r5
      have hq:mvB (ae x (x.attrs.toNat % 6)) ((d.m.map (Dp.fd (((ae x (x.attrs.toNat % 6)).attrs.length:Nat):Int))).getD i default) = false:=by simpa using r5
      refine aa ?_;refine gy ?_;(iterate 2 refine qy ?_);refine a6 ?_
      first | (refine ⟨i + 1, ?_, ?_, ?_⟩
               · show i + 1 ≤ _;omega
               · first | omega | (dsimp only;omega)
               · exact ⟨⟨⟨_,rfl,(ej (s7 (by omega) hq))⟩,zy,c9,c9,c9,c9,c9,c9,trivial⟩,⟨⟨_,rfl,(j1 (s7 (by omega) hq) (CoP.refl _) (CoP.refl _))⟩,u9,trivial⟩⟩)
            | (refine ⟨i + 1, ?_, ?_, ?_⟩
               · show i + 1 ≤ _;omega
               · first | omega | (dsimp only;omega)
               · exact ⟨⟨⟨_,rfl,(cn (rz (by omega) hq))⟩,zy,c9,c9,c9,c9,c9,c9,trivial⟩,⟨⟨_,rfl,(c5 (rz (by omega) hq))⟩,u9,trivial⟩⟩)
    ·
     have h4:=of_decide_eq_false r4
     try simp only [ty] at h4
     obtain rfl:i = (d.m.map (Dp.fd (((ae x (x.attrs.toNat % 6)).attrs.length:Nat):Int))).length:=by omega
     refine az ?_;refine a7 ?_;refine dl 13 rfl rfl rfl ?_
     have hFl:(((d.d.l.map (Dp.fd (((ae x (x.attrs.toNat % 6)).attrs.length:Nat):Int))).take (d.d.l.map (Dp.fd (((ae x (x.attrs.toNat % 6)).attrs.length:Nat):Int))).length).filter (fdB (ae x (x.attrs.toNat % 6)))).length ≤ (d.d.l.map (Dp.fd (((ae x (x.attrs.toNat % 6)).attrs.length:Nat):Int))).length:=zd
     have hGl:(((d.m.map (Dp.fd (((ae x (x.attrs.toNat % 6)).attrs.length:Nat):Int))).take (d.m.map (Dp.fd (((ae x (x.attrs.toNat % 6)).attrs.length:Nat):Int))).length).filter (mvB (ae x (x.attrs.toNat % 6)))).length ≤ (d.m.map (Dp.fd (((ae x (x.attrs.toNat % 6)).attrs.length:Nat):Int))).length:=zd
     have hc:ck4 (((ae x (x.attrs.toNat % 6)).attrs.length:Nat):Int) (((d.d.l.map (Dp.fd (((ae x (x.attrs.toNat % 6)).attrs.length:Nat):Int))).take (d.d.l.map (Dp.fd (((ae x (x.attrs.toNat % 6)).attrs.length:Nat):Int))).length).filter (fdB (ae x (x.attrs.toNat % 6)))) (((d.m.map (Dp.fd (((ae x (x.attrs.toNat % 6)).attrs.length:Nat):Int))).take (d.m.map (Dp.fd (((ae x (x.attrs.toNat % 6)).attrs.length:Nat):Int))).length).filter (mvB (ae x (x.attrs.toNat % 6)))) (q8 (((ae x (x.attrs.toNat % 6)).attrs.length:Nat):Int) s) = 0:=aj1 (by omega) (by omega) (by omega) (fun e he=>by obtain ⟨y,_,rfl⟩:=List.mem_map.1 (List.mem_of_mem_take (List.mem_filter.1 he).1);exact a4o) (fun e he=>by obtain ⟨y,_,rfl⟩:=List.mem_map.1 (List.mem_of_mem_take (List.mem_filter.1 he).1);exact a4o) age
     refine gy ?_;(iterate 3 refine qy ?_);refine rc rfl rfl rfl rfl rfl rfl ya (xk (((ae x (x.attrs.toNat % 6)).attrs.length:Nat):Int)) (CoL.refl _) rfl rfl ?_;(iterate 2 refine qy ?_);refine a6 ?_
     refine sx7 ?_;(iterate 4 refine qy ?_);refine rc rfl rfl rfl rfl rfl rfl a2u (af7 hc) (⟨CoC.refl _,CoC.refl _,CoC.refl _,cci (yn _ _),trivial⟩) rfl rfl ?_;(iterate 4 refine qy ?_);refine m9 9 ?_
     refine s9 ?_;(iterate 2 refine qy ?_);refine a6 ?_;refine a7 ?_;refine sx7 ?_;(iterate 6 refine qy ?_);refine a6 ?_;refine a8 _ rfl (fun r6=>?_) (fun r6=>?_)
     ·
      have h6:=r6
      have h6:=bn h6
      refine sx7 ?_;(iterate 3 refine qy ?_);refine a6 ?_
      exact hx8 rfl rfl rfl (⟨ccb (decide_eq_true rfl),trivial⟩)
     ·
      have h6:=r6
      have h6:=bm h6
      have hf:vBo (da (((ae x (x.attrs.toNat % 6)).attrs.length:Nat):Int) (((d.d.l.map (Dp.fd (((ae x (x.attrs.toNat % 6)).attrs.length:Nat):Int))).take (d.d.l.map (Dp.fd (((ae x (x.attrs.toNat % 6)).attrs.length:Nat):Int))).length).filter (fdB (ae x (x.attrs.toNat % 6)))) (((d.m.map (Dp.fd (((ae x (x.attrs.toNat % 6)).attrs.length:Nat):Int))).take (d.m.map (Dp.fd (((ae x (x.attrs.toNat % 6)).attrs.length:Nat):Int))).length).filter (mvB (ae x (x.attrs.toNat % 6))))) (q8 (((ae x (x.attrs.toNat % 6)).attrs.length:Nat):Int) s) = true:=by simpa using r6
      have hmv:=als hT (by omega) (fun e he=>(List.mem_filter.1 he).2) (fun e he=>(List.mem_filter.1 he).2) (a1d hf)
      refine aa ?_;refine sx7 ?_;(iterate 2 refine qy ?_)
      refine rc rfl rfl rfl rfl rfl rfl ao6 (ahw (ae x (x.attrs.toNat % 6)) (q8 (((ae x (x.attrs.toNat % 6)).attrs.length:Nat):Int) s) hT age) (⟨CoC.refl _,cci (yn _ _),trivial⟩) rfl rfl ?_
      (iterate 3 refine qy ?_);refine m9 10 ?_;refine s9 ?_;refine qy ?_;refine a6 ?_;refine sx7 ?_;refine m9 11 ?_;refine a6 ?_;refine sx7 ?_;refine qy ?_;refine a6 ?_;refine a7 ?_;refine sx7 ?_
      (iterate 2 refine qy ?_);refine a6 ?_;refine ah ?_
      refine b4 (ι:=Nat) ⟨[(18,some _),(19,some _),(22,some _),(23,some _),(24,some _),(128,some _)],[(9,some _),(10,some _)]⟩ ⟨⟨c9,c9,c9,c9,c9,c9,trivial⟩,⟨u9,u9,trivial⟩⟩ (fun a=>⟨[(25,some (vI ((mbN (q8 (((ae x (x.attrs.toNat % 6)).attrs.length:Nat):Int) s) a).length:Nat))),(129,some (vI a))],[(11,some (.box [.p (asC (fj (q8 (((ae x (x.attrs.toNat % 6)).attrs.length:Nat):Int) s) (vF (da (((ae x (x.attrs.toNat % 6)).attrs.length:Nat):Int) (((d.d.l.map (Dp.fd (((ae x (x.attrs.toNat % 6)).attrs.length:Nat):Int))).take (d.d.l.map (Dp.fd (((ae x (x.attrs.toNat % 6)).attrs.length:Nat):Int))).length).filter (fdB (ae x (x.attrs.toNat % 6)))) (((d.m.map (Dp.fd (((ae x (x.attrs.toNat % 6)).attrs.length:Nat):Int))).take (d.m.map (Dp.fd (((ae x (x.attrs.toNat % 6)).attrs.length:Nat):Int))).length).filter (mvB (ae x (x.attrs.toNat % 6))))) (q8 (((ae x (x.attrs.toNat % 6)).attrs.length:Nat):Int) s)).lhs a)), .p (asC (fj (q8 (((ae x (x.attrs.toNat % 6)).attrs.length:Nat):Int) s) (vF (da (((ae x (x.attrs.toNat % 6)).attrs.length:Nat):Int) (((d.d.l.map (Dp.fd (((ae x (x.attrs.toNat % 6)).attrs.length:Nat):Int))).take (d.d.l.map (Dp.fd (((ae x (x.attrs.toNat % 6)).attrs.length:Nat):Int))).length).filter (fdB (ae x (x.attrs.toNat % 6)))) (((d.m.map (Dp.fd (((ae x (x.attrs.toNat % 6)).attrs.length:Nat):Int))).take (d.m.map (Dp.fd (((ae x (x.attrs.toNat % 6)).attrs.length:Nat):Int))).length).filter (mvB (ae x (x.attrs.toNat % 6))))) (q8 (((ae x (x.attrs.toNat % 6)).attrs.length:Nat):Int) s)).rhs a))]))]⟩) (fun a=>a ≤ (ae x (x.attrs.toNat % 6)).attrs.length) (fun a=>(ae x (x.attrs.toNat % 6)).attrs.length - a) (0) (Nat.zero_le _) ⟨⟨zy,zy,trivial⟩,⟨u9,trivial⟩⟩ ?_
      rintro a ha
      have hlen:(mbN (q8 (((ae x (x.attrs.toNat % 6)).attrs.length:Nat):Int) s) a).length ≤ a:=up
      refine sx7 ?_;refine qy ?_;refine a6 ?_;refine a7 ?_;refine a8 _ rfl (fun r7=>?_) (fun r7=>?_)
      ·
       have h7:=of_decide_eq_true r7
       try simp only [ty] at h7
       refine aa ?_;refine a7 ?_;refine ah ?_;refine sx7 ?_;(iterate 2 refine qy ?_);refine a6 ?_;refine a7 ?_;refine sx7 ?_;(iterate 2 refine qy ?_)
       refine rc rfl rfl rfl rfl rfl rfl ux (a4s (q8 (((ae x (x.attrs.toNat % 6)).attrs.length:Nat):Int) s) a) (⟨cci (yn _ _),CoC.refl _,trivial⟩) rfl rfl ?_;refine qy ?_;refine a6 ?_
       refine a8 _ rfl (fun r8=>?_) (fun r8=>?_)
       ·
        have h8:=r8
        have h8:=bn h8
        have hp:al (q8 (((ae x (x.attrs.toNat % 6)).attrs.length:Nat):Int) s) (a:Int) = false:=by simpa using r8
        refine az ?_;refine gy ?_;(iterate 2 refine qy ?_);refine a6 ?_
        first | (refine ⟨a + 1, ?_, ?_, ?_⟩
                 · show a + 1 ≤ _;omega
                 · first | omega | (dsimp only;omega)
                 · exact ⟨⟨⟨_,rfl,(coi (by rw [s8 hp]))⟩,zy,c9,c9,c9,c9,c9,c9,trivial⟩,⟨⟨_,rfl,⟨eg (nj hp).symm,eg (nj hp).symm,trivial⟩⟩,u9,u9,trivial⟩⟩)
              | (refine ⟨a + 1, ?_, ?_, ?_⟩
                 · show a + 1 ≤ _;omega
                 · first | omega | (dsimp only;omega)
                 · exact ⟨⟨⟨_,rfl,(coi (by rw [sd hp,List.length_append];rfl))⟩,zy,c9,c9,c9,c9,c9,c9,trivial⟩,⟨⟨_,rfl,⟨(by first | exact nc (by first | rfl | simp) (ne hp h1) | exact eg (ng h1).symm),(by first | exact nc (by first | rfl | simp) (ne hp h2) | exact eg (ng h2).symm),trivial⟩⟩,u9,u9,trivial⟩⟩)
       ·
        have h8:=r8
        have h8:=bm h8
        have hp:al (q8 (((ae x (x.attrs.toNat % 6)).attrs.length:Nat):Int) s) (a:Int) = true:=by simpa using r8
        refine aa ?_;refine a7 ?_;refine sx7 ?_;(iterate 3 refine qy ?_)
        refine rc rfl rfl rfl rfl rfl rfl ux (a4s (vF (da (((ae x (x.attrs.toNat % 6)).attrs.length:Nat):Int) (((d.d.l.map (Dp.fd (((ae x (x.attrs.toNat % 6)).attrs.length:Nat):Int))).take (d.d.l.map (Dp.fd (((ae x (x.attrs.toNat % 6)).attrs.length:Nat):Int))).length).filter (fdB (ae x (x.attrs.toNat % 6)))) (((d.m.map (Dp.fd (((ae x (x.attrs.toNat % 6)).attrs.length:Nat):Int))).take (d.m.map (Dp.fd (((ae x (x.attrs.toNat % 6)).attrs.length:Nat):Int))).length).filter (mvB (ae x (x.attrs.toNat % 6))))) (q8 (((ae x (x.attrs.toNat % 6)).attrs.length:Nat):Int) s)).lhs a) (CoL.refl _) rfl rfl ?_
        refine a6 ?_;refine a8 _ rfl (fun r9=>?_) (fun r9=>?_)
        ·
         have h9:=r9
         have h1:al (vF (da (((ae x (x.attrs.toNat % 6)).attrs.length:Nat):Int) (((d.d.l.map (Dp.fd (((ae x (x.attrs.toNat % 6)).attrs.length:Nat):Int))).take (d.d.l.map (Dp.fd (((ae x (x.attrs.toNat % 6)).attrs.length:Nat):Int))).length).filter (fdB (ae x (x.attrs.toNat % 6)))) (((d.m.map (Dp.fd (((ae x (x.attrs.toNat % 6)).attrs.length:Nat):Int))).take (d.m.map (Dp.fd (((ae x (x.attrs.toNat % 6)).attrs.length:Nat):Int))).length).filter (mvB (ae x (x.attrs.toNat % 6))))) (q8 (((ae x (x.attrs.toNat % 6)).attrs.length:Nat):Int) s)).lhs (a:Int) = true:=r9
         refine cw (E:=d6) ai bw [0,1,2,3,4,5,6] ?_;(iterate 6 refine qy ?_);refine s9 ?_;refine a6 ?_;refine ⟨by kernel_rfl, ?_⟩;refine a7 ?_;refine sx7 ?_;(iterate 3 refine qy ?_)
         refine rc rfl rfl rfl rfl rfl rfl ux (a4s (vF (da (((ae x (x.attrs.toNat % 6)).attrs.length:Nat):Int) (((d.d.l.map (Dp.fd (((ae x (x.attrs.toNat % 6)).attrs.length:Nat):Int))).take (d.d.l.map (Dp.fd (((ae x (x.attrs.toNat % 6)).attrs.length:Nat):Int))).length).filter (fdB (ae x (x.attrs.toNat % 6)))) (((d.m.map (Dp.fd (((ae x (x.attrs.toNat % 6)).attrs.length:Nat):Int))).take (d.m.map (Dp.fd (((ae x (x.attrs.toNat % 6)).attrs.length:Nat):Int))).length).filter (mvB (ae x (x.attrs.toNat % 6))))) (q8 (((ae x (x.attrs.toNat % 6)).attrs.length:Nat):Int) s)).rhs a) (CoL.refl _) rfl rfl ?_
         refine a6 ?_;refine a8 _ rfl (fun r10=>?_) (fun r10=>?_)
         ·
          have h10:=r10
          have h2:al (vF (da (((ae x (x.attrs.toNat % 6)).attrs.length:Nat):Int) (((d.d.l.map (Dp.fd (((ae x (x.attrs.toNat % 6)).attrs.length:Nat):Int))).take (d.d.l.map (Dp.fd (((ae x (x.attrs.toNat % 6)).attrs.length:Nat):Int))).length).filter (fdB (ae x (x.attrs.toNat % 6)))) (((d.m.map (Dp.fd (((ae x (x.attrs.toNat % 6)).attrs.length:Nat):Int))).take (d.m.map (Dp.fd (((ae x (x.attrs.toNat % 6)).attrs.length:Nat):Int))).length).filter (mvB (ae x (x.attrs.toNat % 6))))) (q8 (((ae x (x.attrs.toNat % 6)).attrs.length:Nat):Int) s)).rhs (a:Int) = true:=r10
          refine cw (E:=d6) ai bw [0,1,2,3,4,5,6] ?_;(iterate 6 refine qy ?_);refine s9 ?_;refine a6 ?_;refine ⟨by kernel_rfl, ?_⟩;refine gy ?_;(iterate 3 refine qy ?_)
          refine a6 ?_;refine gy ?_;(iterate 2 refine qy ?_);refine a6 ?_
          first | (refine ⟨a + 1, ?_, ?_, ?_⟩
                   · show a + 1 ≤ _;omega
                   · first | omega | (dsimp only;omega)
                   · exact ⟨⟨⟨_,rfl,(coi (by rw [s8 hp]))⟩,zy,c9,c9,c9,c9,c9,c9,trivial⟩,⟨⟨_,rfl,⟨eg (nj hp).symm,eg (nj hp).symm,trivial⟩⟩,u9,u9,trivial⟩⟩)
                | (refine ⟨a + 1, ?_, ?_, ?_⟩
                   · show a + 1 ≤ _;omega
                   · first | omega | (dsimp only;omega)
                   · exact ⟨⟨⟨_,rfl,(coi (by rw [sd hp,List.length_append];rfl))⟩,zy,c9,c9,c9,c9,c9,c9,trivial⟩,⟨⟨_,rfl,⟨(by first | exact nc (by first | rfl | simp) (ne hp h1) | exact eg (ng h1).symm),(by first | exact nc (by first | rfl | simp) (ne hp h2) | exact eg (ng h2).symm),trivial⟩⟩,u9,u9,trivial⟩⟩)
         ·
          have h10:=r10
          have h2:al (vF (da (((ae x (x.attrs.toNat % 6)).attrs.length:Nat):Int) (((d.d.l.map (Dp.fd (((ae x (x.attrs.toNat % 6)).attrs.length:Nat):Int))).take (d.d.l.map (Dp.fd (((ae x (x.attrs.toNat % 6)).attrs.length:Nat):Int))).length).filter (fdB (ae x (x.attrs.toNat % 6)))) (((d.m.map (Dp.fd (((ae x (x.attrs.toNat % 6)).attrs.length:Nat):Int))).take (d.m.map (Dp.fd (((ae x (x.attrs.toNat % 6)).attrs.length:Nat):Int))).length).filter (mvB (ae x (x.attrs.toNat % 6))))) (q8 (((ae x (x.attrs.toNat % 6)).attrs.length:Nat):Int) s)).rhs (a:Int) = false:=r10
          refine aa ?_;refine gy ?_;(iterate 3 refine qy ?_);refine a6 ?_;refine gy ?_;(iterate 2 refine qy ?_);refine a6 ?_
          first | (refine ⟨a + 1, ?_, ?_, ?_⟩
                   · show a + 1 ≤ _;omega
                   · first | omega | (dsimp only;omega)
                   · exact ⟨⟨⟨_,rfl,(coi (by rw [s8 hp]))⟩,zy,c9,c9,c9,c9,c9,c9,trivial⟩,⟨⟨_,rfl,⟨eg (nj hp).symm,eg (nj hp).symm,trivial⟩⟩,u9,u9,trivial⟩⟩)
                | (refine ⟨a + 1, ?_, ?_, ?_⟩
                   · show a + 1 ≤ _;omega
                   · first | omega | (dsimp only;omega)
                   · exact ⟨⟨⟨_,rfl,(coi (by rw [sd hp,List.length_append];rfl))⟩,zy,c9,c9,c9,c9,c9,c9,trivial⟩,⟨⟨_,rfl,⟨(by first | exact nc (by first | rfl | simp) (ne hp h1) | exact eg (ng h1).symm),(by first | exact nc (by first | rfl | simp) (ne hp h2) | exact eg (ng h2).symm),trivial⟩⟩,u9,u9,trivial⟩⟩)
        ·
         have h9:=r9
         have h1:al (vF (da (((ae x (x.attrs.toNat % 6)).attrs.length:Nat):Int) (((d.d.l.map (Dp.fd (((ae x (x.attrs.toNat % 6)).attrs.length:Nat):Int))).take (d.d.l.map (Dp.fd (((ae x (x.attrs.toNat % 6)).attrs.length:Nat):Int))).length).filter (fdB (ae x (x.attrs.toNat % 6)))) (((d.m.map (Dp.fd (((ae x (x.attrs.toNat % 6)).attrs.length:Nat):Int))).take (d.m.map (Dp.fd (((ae x (x.attrs.toNat % 6)).attrs.length:Nat):Int))).length).filter (mvB (ae x (x.attrs.toNat % 6))))) (q8 (((ae x (x.attrs.toNat % 6)).attrs.length:Nat):Int) s)).lhs (a:Int) = false:=r9
         refine aa ?_;refine a7 ?_;refine sx7 ?_;(iterate 3 refine qy ?_)
         refine rc rfl rfl rfl rfl rfl rfl ux (a4s (vF (da (((ae x (x.attrs.toNat % 6)).attrs.length:Nat):Int) (((d.d.l.map (Dp.fd (((ae x (x.attrs.toNat % 6)).attrs.length:Nat):Int))).take (d.d.l.map (Dp.fd (((ae x (x.attrs.toNat % 6)).attrs.length:Nat):Int))).length).filter (fdB (ae x (x.attrs.toNat % 6)))) (((d.m.map (Dp.fd (((ae x (x.attrs.toNat % 6)).attrs.length:Nat):Int))).take (d.m.map (Dp.fd (((ae x (x.attrs.toNat % 6)).attrs.length:Nat):Int))).length).filter (mvB (ae x (x.attrs.toNat % 6))))) (q8 (((ae x (x.attrs.toNat % 6)).attrs.length:Nat):Int) s)).rhs a) (CoL.refl _) rfl rfl ?_
         refine a6 ?_;refine a8 _ rfl (fun r11=>?_) (fun r11=>?_)
         ·
          have h11:=r11
          have h2:al (vF (da (((ae x (x.attrs.toNat % 6)).attrs.length:Nat):Int) (((d.d.l.map (Dp.fd (((ae x (x.attrs.toNat % 6)).attrs.length:Nat):Int))).take (d.d.l.map (Dp.fd (((ae x (x.attrs.toNat % 6)).attrs.length:Nat):Int))).length).filter (fdB (ae x (x.attrs.toNat % 6)))) (((d.m.map (Dp.fd (((ae x (x.attrs.toNat % 6)).attrs.length:Nat):Int))).take (d.m.map (Dp.fd (((ae x (x.attrs.toNat % 6)).attrs.length:Nat):Int))).length).filter (mvB (ae x (x.attrs.toNat % 6))))) (q8 (((ae x (x.attrs.toNat % 6)).attrs.length:Nat):Int) s)).rhs (a:Int) = true:=r11
          refine cw (E:=d6) ai bw [0,1,2,3,4,5,6] ?_;(iterate 6 refine qy ?_);refine s9 ?_;refine a6 ?_;refine ⟨by kernel_rfl, ?_⟩;refine gy ?_;(iterate 3 refine qy ?_)
          refine a6 ?_;refine gy ?_;(iterate 2 refine qy ?_);refine a6 ?_
          first | (refine ⟨a + 1, ?_, ?_, ?_⟩
                   · show a + 1 ≤ _;omega
                   · first | omega | (dsimp only;omega)
                   · exact ⟨⟨⟨_,rfl,(coi (by rw [s8 hp]))⟩,zy,c9,c9,c9,c9,c9,c9,trivial⟩,⟨⟨_,rfl,⟨eg (nj hp).symm,eg (nj hp).symm,trivial⟩⟩,u9,u9,trivial⟩⟩)
                | (refine ⟨a + 1, ?_, ?_, ?_⟩
                   · show a + 1 ≤ _;omega
                   · first | omega | (dsimp only;omega)
                   · exact ⟨⟨⟨_,rfl,(coi (by rw [sd hp,List.length_append];rfl))⟩,zy,c9,c9,c9,c9,c9,c9,trivial⟩,⟨⟨_,rfl,⟨(by first | exact nc (by first | rfl | simp) (ne hp h1) | exact eg (ng h1).symm),(by first | exact nc (by first | rfl | simp) (ne hp h2) | exact eg (ng h2).symm),trivial⟩⟩,u9,u9,trivial⟩⟩)
         ·
          have h11:=r11
          have h2:al (vF (da (((ae x (x.attrs.toNat % 6)).attrs.length:Nat):Int) (((d.d.l.map (Dp.fd (((ae x (x.attrs.toNat % 6)).attrs.length:Nat):Int))).take (d.d.l.map (Dp.fd (((ae x (x.attrs.toNat % 6)).attrs.length:Nat):Int))).length).filter (fdB (ae x (x.attrs.toNat % 6)))) (((d.m.map (Dp.fd (((ae x (x.attrs.toNat % 6)).attrs.length:Nat):Int))).take (d.m.map (Dp.fd (((ae x (x.attrs.toNat % 6)).attrs.length:Nat):Int))).length).filter (mvB (ae x (x.attrs.toNat % 6))))) (q8 (((ae x (x.attrs.toNat % 6)).attrs.length:Nat):Int) s)).rhs (a:Int) = false:=r11
          refine aa ?_;refine gy ?_;(iterate 3 refine qy ?_);refine a6 ?_;refine gy ?_;(iterate 2 refine qy ?_);refine a6 ?_
          first | (refine ⟨a + 1, ?_, ?_, ?_⟩
                   · show a + 1 ≤ _;omega
                   · first | omega | (dsimp only;omega)
                   · exact ⟨⟨⟨_,rfl,(coi (by rw [s8 hp]))⟩,zy,c9,c9,c9,c9,c9,c9,trivial⟩,⟨⟨_,rfl,⟨eg (nj hp).symm,eg (nj hp).symm,trivial⟩⟩,u9,u9,trivial⟩⟩)
                | (refine ⟨a + 1, ?_, ?_, ?_⟩
                   · show a + 1 ≤ _;omega
                   · first | omega | (dsimp only;omega)
                   · exact ⟨⟨⟨_,rfl,(coi (by rw [sd hp,List.length_append];rfl))⟩,zy,c9,c9,c9,c9,c9,c9,trivial⟩,⟨⟨_,rfl,⟨(by first | exact nc (by first | rfl | simp) (ne hp h1) | exact eg (ng h1).symm),(by first | exact nc (by first | rfl | simp) (ne hp h2) | exact eg (ng h2).symm),trivial⟩⟩,u9,u9,trivial⟩⟩)
      ·
       have h7:=of_decide_eq_false r7
       try simp only [ty] at h7
       obtain rfl:a = (ae x (x.attrs.toNat % 6)).attrs.length:=by omega
       refine az ?_;refine sx7 ?_;(iterate 2 refine qy ?_)
       refine rc rfl rfl rfl rfl rfl rfl aja (aan (mh (ae x (x.attrs.toNat % 6)) (q8 (((ae x (x.attrs.toNat % 6)).attrs.length:Nat):Int) s)) ⟨(fj (q8 (((ae x (x.attrs.toNat % 6)).attrs.length:Nat):Int) s) (vF (da (((ae x (x.attrs.toNat % 6)).attrs.length:Nat):Int) (((d.d.l.map (Dp.fd (((ae x (x.attrs.toNat % 6)).attrs.length:Nat):Int))).take (d.d.l.map (Dp.fd (((ae x (x.attrs.toNat % 6)).attrs.length:Nat):Int))).length).filter (fdB (ae x (x.attrs.toNat % 6)))) (((d.m.map (Dp.fd (((ae x (x.attrs.toNat % 6)).attrs.length:Nat):Int))).take (d.m.map (Dp.fd (((ae x (x.attrs.toNat % 6)).attrs.length:Nat):Int))).length).filter (mvB (ae x (x.attrs.toNat % 6))))) (q8 (((ae x (x.attrs.toNat % 6)).attrs.length:Nat):Int) s)).lhs (ae x (x.attrs.toNat % 6)).attrs.length),(fj (q8 (((ae x (x.attrs.toNat % 6)).attrs.length:Nat):Int) s) (vF (da (((ae x (x.attrs.toNat % 6)).attrs.length:Nat):Int) (((d.d.l.map (Dp.fd (((ae x (x.attrs.toNat % 6)).attrs.length:Nat):Int))).take (d.d.l.map (Dp.fd (((ae x (x.attrs.toNat % 6)).attrs.length:Nat):Int))).length).filter (fdB (ae x (x.attrs.toNat % 6)))) (((d.m.map (Dp.fd (((ae x (x.attrs.toNat % 6)).attrs.length:Nat):Int))).take (d.m.map (Dp.fd (((ae x (x.attrs.toNat % 6)).attrs.length:Nat):Int))).length).filter (mvB (ae x (x.attrs.toNat % 6))))) (q8 (((ae x (x.attrs.toNat % 6)).attrs.length:Nat):Int) s)).rhs (ae x (x.attrs.toNat % 6)).attrs.length)⟩ (akh hT) (by rw [show (mh (ae x (x.attrs.toNat % 6)) (q8 (((ae x (x.attrs.toNat % 6)).attrs.length:Nat):Int) s)).attrs.length = (mbN (q8 (((ae x (x.attrs.toNat % 6)).attrs.length:Nat):Int) s) (ae x (x.attrs.toNat % 6)).attrs.length).length from w9];exact ap4 (by omega))) (CoL.refl _) rfl rfl ?_
       (iterate 5 refine qy ?_);refine a6 ?_;refine sx7 ?_;(iterate 10 refine qy ?_);refine a6 ?_
       exact hx8 rfl rfl rfl (⟨ccb (by first | exact hmv | (rw [hmv];rfl) | simp_all),trivial⟩)
end Go.Hx
end
section
namespace Go.Hx
open Go.Proofs
set_option maxRecDepth 100000
theorem alq (x:gm) (d:Mx) (s:BitVec 8) (hx:¬ x.rows.length ≤ 8) (hx2:x.rows.length ≤ 16777216) (hl:d.d.l.length ≤ 16777216) (hm:d.m.length ≤ 16777216):ao Tryd.prog 3 [x.pc,d.pc,pP (u8C s 0)] (ay [pB true]):=by
 refine ak (nt:=174) ai Tryd.func3 rfl rfl l9 ?_;refine sx7 ?_;refine m9 0 ?_;refine m9 1 ?_;refine qy ?_;refine a6 ?_;refine sx7 ?_;refine qy ?_
 refine rc rfl rfl rfl rfl rfl rfl ajj (aoi x hx hx2) (CoL.refl _) rfl rfl ?_;(iterate 3 refine qy ?_);refine m9 2 ?_;refine s9 ?_;refine qy ?_;refine a6 ?_;refine sx7 ?_;(iterate 4 refine qy ?_);refine a6 ?_
 refine a7 ?_;refine sx7 ?_;refine rc rfl rfl rfl rfl rfl rfl a2n (re) (CoL.refl _) rfl rfl ?_;(iterate 6 refine qy ?_);(iterate 5 refine k9 rfl ?_);(iterate 2 refine qy ?_);(iterate 4 refine k9 rfl ?_)
 refine qy ?_;refine a6 ?_;refine a8 _ rfl (fun _=>?_) (fun e=>by cases e);refine sx7 ?_;refine rc rfl rfl rfl rfl rfl rfl a2n (re) (CoL.refl _) rfl rfl ?_;refine qy ?_;refine a6 ?_
 exact hx8 rfl rfl rfl (CoL.refl _)
theorem aog (x:gm) (d:Mx) (s:BitVec 8) (hx2:x.rows.length ≤ 16777216) (hl:d.d.l.length ≤ 16777216) (hm:d.m.length ≤ 16777216):ao Tryd.prog 3 [x.pc,d.pc,pP (u8C s 0)] (ay [pB true]):=by
 by_cases hx:x.rows.length ≤ 8
 · exact al4 x d s hx hl hm
 · exact alq x d s hx hx2 hl hm
end Go.Hx
end
