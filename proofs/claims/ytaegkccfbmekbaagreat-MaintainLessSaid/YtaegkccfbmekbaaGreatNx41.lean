/- A part of the proof: Ms8 Mw17. -/
import Derived.Test.YtaegkccfbmekbaaGreatNx40
set_option linter.all false
section
namespace Go.Hx
theorem aen {t:Tbl} {r:Row} (h:bz t r = 0) {s:AS} (hs:s ∈ prs t.rows):s ∈ prs (ef t r).rows:=by
 rw [← a3q] at hs ⊢
 rw [← ael h]
 unfold ez
 have h1:=ae2 t.rows s
 omega
theorem al8 {K K':List AS} {n a:Nat} {x:AS} (h:∀ s ∈ K,s ∈ K') (hx:atA K' n a x = true):atA K n a x = true:=by
 unfold atA at *
 rw [Bool.and_eq_true] at hx ⊢
 refine ⟨?_,hx.2⟩
 rw [te] at *
 exact ⟨hx.1.1,fun k hk=>hx.1.2 k (h k hk)⟩
theorem aov {K K':List AS} {x:AS} (h:∀ s ∈ K,s ∈ K') (hx:pK K' x = true):pK K x = true:=by
 rw [a5c] at *
 exact fun k hk=>hx k (h k hk)
def a10 (d y:Fd):Bool:=decide (y.rhs = d.rhs) && decide (sub y.lhs d.lhs)
theorem anq {t:Tbl} {r:Row} (h:bz t r = 0) (h8:t.attrs.length ≤ 8) {d:Fd} (hd:d ∈ b8 (ef t r)):((b8 t).any (a10 d)) = true:=by
 have hn:(ef t r).attrs.length = t.attrs.length:=by rw [j9 h]
 unfold b8 at hd
 rw [hn] at hd
 obtain ⟨a,ha,h1,h2⟩:=(a3e h8).1 hd
 have hsub:=(mh (atA (prs (ef t r).rows) t.attrs.length a) (cu t.attrs.length)).subset h2
 have hp:atA (prs (ef t r).rows) t.attrs.length a d.lhs = true:=((oh _ _ (va h8) (yt h8) _).1 h2).2.1
 have hp2:=al8 (fun s hs=>aen h hs) hp
 have hs:sub d.lhs (b9 (t.attrs.length:Nat)):=by
  rw [mg h8] at hsub
  exact fy.1 hsub
 obtain ⟨y,hy1,hy2⟩:=a43 hs hp2
 rw [List.any_eq_true]
 refine ⟨⟨y,d.rhs⟩,(a3e h8).2 ⟨a,ha,h1,by rw [mg h8];exact hy2⟩, ?_⟩
 unfold a10
 rw [Bool.and_eq_true]
 exact ⟨decide_eq_true rfl,decide_eq_true hy1⟩
theorem alo {t:Tbl} {r:Row} (h:bz t r = 0) (h8:t.attrs.length ≤ 8) {k:AS} (hk:k ∈ jk (prs (ef t r).rows) (ef t r).attrs.length):((jk (prs t.rows) t.attrs.length).any fun y=>decide (sub y k)) = true:=by
 have hn:(ef t r).attrs.length = t.attrs.length:=by rw [j9 h]
 rw [hn] at hk
 have hk:k ∈ gi (pK (prs (ef t r).rows)) (cu t.attrs.length):=hk
 have hsub:=(mh _ _).subset hk
 have hp:pK (prs (ef t r).rows) k = true:=((oh _ _ (va h8) (yt h8) _).1 hk).2.1
 have hp2:=aov (fun s hs=>aen h hs) hp
 have hs:sub k (b9 (t.attrs.length:Nat)):=by
  rw [mg h8] at hsub
  exact fy.1 hsub
 obtain ⟨y,hy1,hy2⟩:=a43 hs hp2
 rw [List.any_eq_true]
 exact ⟨y,by show y ∈ gi _ (cu _);rw [mg h8];exact hy2,decide_eq_true hy1⟩
def c8 (o:MOp):MOp:=⟨o.kind % 2,o.id,o.attr,o.codes⟩
theorem adu (o:MOp):(c8 o).kind.toNat = o.kind.toNat % 2:=UInt8.toNat_mod _ _
theorem alv {t:Tbl} {o:MOp} (h:opE t (c8 o) = 0):bz t (jh t.attrs.length (c8 o)) = 0 ∧ opT t (c8 o) = ef t (jh t.attrs.length (c8 o)):=by
 have hk:=adu o
 have hh:=op0 (t:=t) (o:=c8 o) (by omega) (by omega)
 rw [hh.1] at h
 obtain ⟨g1,_,g3⟩:=adx h
 exact ⟨g1,by rw [hh.2,g3]⟩
theorem a8o {α:Type} [Inhabited α] {l:List α} {i:Nat} (h:i < l.length):l.getD i default ∈ l:=by
 rw [List.getD_eq_getElem?_getD,List.getElem?_eq_getElem h];exact List.getElem_mem h
end Go.Hx
end
section
namespace Go.Hx
open Go.Proofs
set_option maxRecDepth 100000
theorem ate:ai Tryz.prog 29:=⟨Tryz.f29,Tryz.func29,by kernel_rfl,by kernel_rfl⟩
theorem arl (y d:Fd):ak Tryz.prog 29 [y.pc,pP (PV.vp 2 fun j=>[(d).c 0,(d).c 1].getD j .any)] (av [pB (a10 d y)]):=by
 refine ag (nt:=17) ae Tryz.func29 rfl rfl l9 ?_;refine sx7 ?_;refine m9 0 ?_;refine qy ?_;refine a6 ?_;refine sx7 ?_;(iterate 6 refine qy ?_);refine b6 rfl rfl (fun r0=>?_) (fun r0=>?_)
 ·
  have h0:=of_decide_eq_true r0
  try simp only [ty] at h0
  (iterate 6 refine qy ?_ (hg:=(gtt r0)));(iterate 2 refine qy ?_);refine a6 ?_
  exact hx8 rfl rfl rfl (⟨ccb (by unfold a10;first | (simp_all [fc,gd];done) | (rw [Bool.eq_iff_iff];simp_all [fc,gd];done)),trivial⟩)
 ·
  have h0:=of_decide_eq_false r0
  try simp only [ty] at h0
  (iterate 6 refine k9 (gft r0) ?_);refine rq rfl rfl rfl rfl rfl ?_ (hp:=r0);refine qy ?_;refine a6 ?_
  exact hx8 rfl rfl rfl (⟨ccb (by unfold a10;first | (simp_all [fc,gd];done) | (rw [Bool.eq_iff_iff];simp_all [fc,gd];done)),trivial⟩)
theorem aqo (x:Scr) (hx:12 < x.ops.length):ak Tryz.prog 6 [x.pc] (av [pB true]):=by
 refine ag (nt:=75) ae Tryz.func6 rfl rfl l9 ?_;refine sx7 ?_;refine m9 0 ?_;refine qy ?_;refine a6 ?_;refine a7 ?_;refine sx7 ?_
 refine rc rfl rfl rfl rfl rfl rfl n7 (jo) (CoL.refl _) rfl rfl ?_;refine qy ?_;refine a6 ?_;refine a8 _ rfl (fun r0=>?_) (fun r0=>?_)
 ·
  have h0:=r0
  have h0:=az h0
  exfalso
  first | (simp_all;done) | omega | (simp_all;omega)
 ·
  have h0:=r0
  have h0:=b4 h0
  refine aa ?_;refine sx7 ?_;refine qy ?_;refine ay rfl rfl rfl rfl rfl rfl xb (a79 x hx) (br.refl _) trivial rfl rfl ?_;(iterate 4 refine qy ?_);refine m9 1 ?_;refine qy ?_;refine s9 ?_;refine qy ?_
  refine a6 ?_;refine a7 ?_;refine sx7 ?_;(iterate 2 refine qy ?_);refine a6 ?_;refine a8 _ rfl (fun r1=>?_) (fun r1=>?_)
  ·
   have h1:=r1
   have h1:=az h1
   refine sx7 ?_;(iterate 5 refine qy ?_);refine a6 ?_
   exact hx8 rfl rfl rfl (⟨ccb (decide_eq_true (by omega)),trivial⟩)
  ·
   have h1:=r1
   have h1:=b4 h1
   exfalso
   first | (simp_all;done) | omega | (simp_all;omega)
theorem aqs (x:Scr) (hx:¬ 12 < x.ops.length):ak Tryz.prog 6 [x.pc] (av [pB true]):=by
 refine ag (nt:=75) ae Tryz.func6 rfl rfl l9 ?_;refine sx7 ?_;refine m9 0 ?_;refine qy ?_;refine a6 ?_;refine a7 ?_;refine sx7 ?_
 refine rc rfl rfl rfl rfl rfl rfl n7 (jo) (CoL.refl _) rfl rfl ?_;refine qy ?_;refine a6 ?_;refine a8 _ rfl (fun r0=>?_) (fun r0=>?_)
 ·
  have h0:=r0
  have h0:=az h0
  exfalso
  first | (simp_all;done) | omega | (simp_all;omega)
 ·
  have h0:=r0
  have h0:=b4 h0
  refine aa ?_;refine sx7 ?_;refine qy ?_;refine ay rfl rfl rfl rfl rfl rfl xb (a6z x hx) (br.refl _) trivial rfl rfl ?_;(iterate 4 refine qy ?_);refine m9 1 ?_;refine qy ?_;refine s9 ?_;refine qy ?_
  refine a6 ?_;refine a7 ?_;refine sx7 ?_;(iterate 2 refine qy ?_);refine a6 ?_;refine a8 _ rfl (fun r1=>?_) (fun r1=>?_)
  ·
   have h1:=r1
   have h1:=az h1
   exfalso
   first | (simp_all;done) | omega | (simp_all;omega)
  ·
   have h1:=r1
   have h1:=b4 h1
   refine aa ?_;refine a7 ?_;refine sx7 ?_;(iterate 4 refine qy ?_);refine a6 ?_;refine af ?_
   refine ap (ι:=(Nat × Tbl × List Fd × List Fd)) ⟨[(3,some _),(4,some _),(29,some _),(30,some _)],[(1,some _)]⟩ ⟨⟨c9,c9,c9,c9,trivial⟩,⟨u9,trivial⟩⟩ (fun q=>⟨[(31,some (vI q.1))],[(902,some (afu q.2.1 (b8 q.2.1) q.2.2.1 q.2.2.2)),(901,some (acj (d8 q.2.1.rows)))]⟩) (fun q=>q.1 ≤ x.ops.length ∧ ROk q.2.1 q.2.2.1 q.2.2.2 ∧ q.2.1.attrs = (dx sR (nmS x)).attrs) (fun q=>x.ops.length - q.1) ((0,(dx sR (nmS x)),[],[])) (⟨Nat.zero_le _,ROk.new x,rfl⟩) ⟨⟨zy,trivial⟩,⟨u9,u9,trivial⟩⟩ ?_
   rintro ⟨i,t,a,r⟩ ⟨hi,hk,hat⟩
   dsimp only at hi hk hat ⊢
   refine sx7 ?_;refine qy ?_;refine a6 ?_;refine a7 ?_;refine a8 _ rfl (fun r2=>?_) (fun r2=>?_)
   ·
    have h2:=of_decide_eq_true r2
    try simp only [ty] at h2
    refine aa ?_;refine a7 ?_;refine af ?_;refine sx7 ?_;(iterate 2 refine qy ?_);refine m9 2 ?_;refine s9 ?_;refine a6 ?_;refine sx7 ?_;refine qy ?_
    refine ay rfl rfl rfl rfl rfl rfl zz ((a3w t (b8 t) a r (eq hk.na) hk.la hk.lr).swap 1000 902) (br.refl _) ⟨u9,u9,trivial⟩ rfl rfl ?_;refine qy ?_
    refine ay rfl rfl rfl rfl rfl rfl zq ((a0e t (b8 t) a r hk.na).swap 1000 902) (br.refl _) ⟨u9,u9,trivial⟩ rfl rfl ?_;(iterate 2 refine qy ?_);refine a6 ?_;refine sx7 ?_;(iterate 4 refine qy ?_)
    refine s9 ?_;refine a6 ?_;(iterate 2 refine a7 ?_)
    have hkk:PV.raw (.int .u8 (((x.ops.getD i default).kind.toNat:Int) % 2)) = PV.raw (.int .u8 ((((c8 (x.ops.getD i default))).kind.toNat:Nat):Int)):=by rw [adu];rfl
    refine gy ?_;(iterate 5 refine qy ?_)
    refine ay rfl rfl rfl rfl rfl rfl abi ((af6 t a r hk (c8 (x.ops.getD i default))).swap 1000 902) (⟨l8.refl _,ald (by rw [hat]),⟨CoP.of_eq hkk,CoP.refl _,CoP.refl _,CoP.refl _,trivial⟩,trivial⟩) ⟨u9,u9,trivial⟩ rfl rfl ?_
    refine qy ?_;refine a6 ?_;refine a8 _ rfl (fun r3=>?_) (fun r3=>?_)
    ·
     have h3:=r3
     have h3:=of_decide_eq_false (az h3)
     try simp only [ty] at h3
     refine am ?_;refine gy ?_;(iterate 2 refine qy ?_);refine a6 ?_
     refine ⟨(i + 1,opT t (c8 (x.ops.getD i default)),nxA t (c8 (x.ops.getD i default)) a,nxR t (c8 (x.ops.getD i default)) r), ?_, ?_, ?_⟩
     · exact ⟨by dsimp only;omega,hk.op _,(ab9 hk.nr).trans hat⟩
     · first | omega | (dsimp only;omega)
     · exact ⟨⟨zy,c9,c9,c9,c9,trivial⟩,⟨u9,u9,u9,trivial⟩⟩
    ·
     have h3:=r3
     have h3:=of_decide_eq_true (b4 h3)
     try simp only [ty] at h3
     have he:opE t (c8 (x.ops.getD i default)) = 0:=by simpa using r3
     have hio:=alv he
     refine aa ?_;refine a7 ?_;refine sx7 ?_;refine qy ?_
     refine ay rfl rfl rfl rfl rfl rfl zz ((a3w (opT t (c8 (x.ops.getD i default))) (b8 (opT t (c8 (x.ops.getD i default)))) (nxA t (c8 (x.ops.getD i default)) a) (nxR t (c8 (x.ops.getD i default)) r) (eq (hk.op (c8 (x.ops.getD i default))).na) (hk.op (c8 (x.ops.getD i default))).la (hk.op (c8 (x.ops.getD i default))).lr).swap 1000 902) (br.refl _) ⟨u9,u9,trivial⟩ rfl rfl ?_
     (iterate 2 refine qy ?_);refine a6 ?_;refine af ?_
     refine ap (ι:=Nat) ⟨[(3,some _),(4,some _),(8,some _),(9,some _),(29,some _),(30,some _),(31,some _),(51,some _),(52,some _)],[(902,some _),(901,some _),(1,some _)]⟩ ⟨⟨c9,c9,c9,c9,c9,c9,c9,c9,c9,trivial⟩,⟨u9,u9,u9,trivial⟩⟩ (fun z=>⟨[(53,some (vI z))],[]⟩) (fun z=>z ≤ (b8 (opT t (c8 (x.ops.getD i default)))).length) (fun z=>(b8 (opT t (c8 (x.ops.getD i default)))).length - z) (0) (Nat.zero_le _) ⟨⟨zy,trivial⟩,trivial⟩ ?_
     rintro z hz
     refine sx7 ?_;refine qy ?_;refine a6 ?_;refine a7 ?_;refine a8 _ rfl (fun r4=>?_) (fun r4=>?_)
     ·
      have h4:=of_decide_eq_true r4
      try simp only [ty] at h4
      have hb1:=eq (hk.op (c8 (x.ops.getD i default))).na
      refine aa ?_;refine a7 ?_;refine af ?_;refine sx7 ?_;(iterate 2 refine qy ?_);refine m9 3 ?_;refine s9 ?_;refine a6 ?_;refine ks 11 rfl rfl rfl ?_;refine sx7 ?_
      (iterate 2 refine qy ?_)
      refine rc rfl rfl rfl rfl rfl rfl ar5 (ato (b8 t) 29 1 (fun j=>[(PV.vp 2 fun j=>[(((b8 (opT t (c8 (x.ops.getD i default)))).getD z default)).c 0,(((b8 (opT t (c8 (x.ops.getD i default)))).getD z default)).c 1].getD j .any)].getD j .any) (a10 ((b8 (opT t (c8 (x.ops.getD i default)))).getD z default)) ate (fun y=>arl y ((b8 (opT t (c8 (x.ops.getD i default)))).getD z default))) (CoL.refl _) rfl rfl ?_
      refine qy ?_;refine a6 ?_;refine a8 _ rfl (fun r5=>?_) (fun r5=>?_)
      ·
       have h5:=r5
       have h5:=az h5
       have hl:=anq (t:=t) (r:=jh t.attrs.length (c8 (x.ops.getD i default))) hio.1 hk.na (d:=((b8 (opT t (c8 (x.ops.getD i default)))).getD z default)) (by rw [← hio.2];exact a8o (by omega))
       have hr:=r5
       rw [hl] at hr
       exact absurd hr (by decide)
      ·
       have h5:=r5
       have h5:=b4 h5
       refine aa ?_;refine gy ?_;(iterate 2 refine qy ?_);refine a6 ?_;refine ⟨z + 1, ?_, ?_, ?_⟩
       · show z + 1 ≤ _;omega
       · first | omega | (dsimp only;omega)
       · exact ⟨⟨zy,c9,c9,c9,c9,c9,c9,c9,c9,c9,trivial⟩,⟨u9,u9,u9,trivial⟩⟩
     ·
      have h4:=of_decide_eq_false r4
      try simp only [ty] at h4
      refine am ?_;refine sx7 ?_;refine qy ?_
      refine ay rfl rfl rfl rfl rfl rfl zq ((a0e (opT t (c8 (x.ops.getD i default))) (b8 (opT t (c8 (x.ops.getD i default)))) (nxA t (c8 (x.ops.getD i default)) a) (nxR t (c8 (x.ops.getD i default)) r) (hk.op (c8 (x.ops.getD i default))).na).swap 1000 902) (br.refl _) ⟨u9,u9,trivial⟩ rfl rfl ?_
      (iterate 2 refine qy ?_);refine a6 ?_;refine af ?_
      refine ap (ι:=Nat) ⟨[(3,some _),(4,some _),(9,some _),(29,some _),(30,some _),(31,some _),(63,some _),(64,some _)],[(902,some _),(901,some _),(1,some _)]⟩ ⟨⟨c9,c9,c9,c9,c9,c9,c9,c9,trivial⟩,⟨u9,u9,u9,trivial⟩⟩ (fun z=>⟨[(65,some (vI z))],[]⟩) (fun z=>z ≤ (jk (prs (opT t (c8 (x.ops.getD i default))).rows) (opT t (c8 (x.ops.getD i default))).attrs.length).length) (fun z=>(jk (prs (opT t (c8 (x.ops.getD i default))).rows) (opT t (c8 (x.ops.getD i default))).attrs.length).length - z) (0) (Nat.zero_le _) ⟨⟨zy,trivial⟩,trivial⟩ ?_
      rintro z hz
      refine sx7 ?_;refine qy ?_;refine a6 ?_;refine a7 ?_;refine a8 _ rfl (fun r6=>?_) (fun r6=>?_)
      ·
       have h6:=of_decide_eq_true r6
       try simp only [ty] at h6
       have hb2:(jk (prs (opT t (c8 (x.ops.getD i default))).rows) (opT t (c8 (x.ops.getD i default))).attrs.length).length ≤ 4294967296:=Nat.le_trans (mh _ _).length_le (ny _)
       refine aa ?_;refine a7 ?_;refine af ?_;refine sx7 ?_;(iterate 2 refine qy ?_);refine m9 4 ?_;refine s9 ?_;refine a6 ?_;refine ks 13 rfl rfl rfl ?_;refine sx7 ?_
       (iterate 2 refine qy ?_)
       refine rc rfl rfl rfl rfl rfl rfl aaw (aey (jk (prs t.rows) t.attrs.length) 31 1 (fun j=>[bx (asC ((jk (prs (opT t (c8 (x.ops.getD i default))).rows) (opT t (c8 (x.ops.getD i default))).attrs.length).getD z default))].getD j .any) (fun y=>decide (sub y ((jk (prs (opT t (c8 (x.ops.getD i default))).rows) (opT t (c8 (x.ops.getD i default))).attrs.length).getD z default))) asm (fun y=>atf y ((jk (prs (opT t (c8 (x.ops.getD i default))).rows) (opT t (c8 (x.ops.getD i default))).attrs.length).getD z default))) (CoL.refl _) rfl rfl ?_
       refine qy ?_;refine a6 ?_;refine a8 _ rfl (fun r7=>?_) (fun r7=>?_)
       ·
        have h7:=r7
        have h7:=az h7
        have hl:=alo (t:=t) (r:=jh t.attrs.length (c8 (x.ops.getD i default))) hio.1 hk.na (k:=((jk (prs (opT t (c8 (x.ops.getD i default))).rows) (opT t (c8 (x.ops.getD i default))).attrs.length).getD z default)) (by rw [← hio.2];exact a8o (by omega))
        have hr:=r7
        rw [hl] at hr
        exact absurd hr (by decide)
       ·
        have h7:=r7
        have h7:=b4 h7
        refine aa ?_;refine gy ?_;(iterate 2 refine qy ?_);refine a6 ?_;refine ⟨z + 1, ?_, ?_, ?_⟩
        · show z + 1 ≤ _;omega
        · first | omega | (dsimp only;omega)
        · exact ⟨⟨zy,c9,c9,c9,c9,c9,c9,c9,c9,trivial⟩,⟨u9,u9,u9,trivial⟩⟩
      ·
       have h6:=of_decide_eq_false r6
       try simp only [ty] at h6
       refine am ?_;refine gy ?_;(iterate 2 refine qy ?_);refine a6 ?_
       refine ⟨(i + 1,opT t (c8 (x.ops.getD i default)),nxA t (c8 (x.ops.getD i default)) a,nxR t (c8 (x.ops.getD i default)) r), ?_, ?_, ?_⟩
       · exact ⟨by dsimp only;omega,hk.op _,(ab9 hk.nr).trans hat⟩
       · first | omega | (dsimp only;omega)
       · exact ⟨⟨zy,c9,c9,c9,c9,trivial⟩,⟨u9,u9,u9,trivial⟩⟩
   ·
    have h2:=of_decide_eq_false r2
    try simp only [ty] at h2
    refine am ?_;refine sx7 ?_;refine qy ?_;refine a6 ?_
    exact hx8 rfl rfl rfl (CoL.refl _)
theorem aux (x:Scr):ak Tryz.prog 6 [x.pc] (av [pB true]):=by
 by_cases h:12 < x.ops.length
 · exact aqo x h
 · exact aqs x h
end Go.Hx
end
