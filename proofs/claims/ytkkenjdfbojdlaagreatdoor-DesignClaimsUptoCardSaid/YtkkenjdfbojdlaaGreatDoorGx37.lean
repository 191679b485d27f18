/- A part of the proof: Ds9 Dw8 Dw1. -/
import Derived.Test.YtkkenjdfbojdlaaGreatDoorGx21
import Derived.Test.YtkkenjdfbojdlaaGreatDoorGx22
import Derived.Test.YtkkenjdfbojdlaaGreatDoorGx32
set_option linter.all false
set_option maxRecDepth 100000
namespace Go.Hx
section
def a9w (l:List Fd) (ps:List AS) (z:AS):AS:=match ps.find? (ez l z) with | none=>z | some p=>z ||| pl l p z
section
variable {l:List Fd}
theorem awr {p z:AS}:sub (clo l (z &&& p) &&& p) z <-> ez l z p = false:=by
 unfold ez pl sub;rw [BitVec.and_comm (clo l (z &&& p)) p,decide_eq_false_iff_not,Ne,Decidable.not_not]
theorem beu (z a:AS):z ||| a = z ||| (a &&& ~~~z):=by
 apply bm6;intro i hi;simp only [bm9,bkz,bmq,decide_eq_true hi];cases z.getLsbD i <;> cases a.getLsbD i <;> rfl
variable {ps:List AS}
theorem bi2 {z:AS} {i:Nat} (hi:i < ps.length) (hI:∀ j,j < i -> ez l z (ps.getD j default) = false) (h:ez l z (ps.getD i default) = true):
 idx (ez l z) ps = (i:Int) /\ a9w l ps z = z ||| (clo l (z &&& ps.getD i default) &&& ps.getD i default):=by
 refine ⟨rp hi hI h, ?_⟩;unfold a9w;rw [abr hi hI h,beu z (clo l (z &&& ps.getD i default) &&& ps.getD i default),BitVec.and_comm (clo l (z &&& ps.getD i default))];rfl
theorem bix {z:AS} (hI:∀ j,j < ps.length -> ez l z (ps.getD j default) = false):idx (ez l z) ps = -1 /\ a9w l ps z = z:=by
 refine ⟨rr hI, ?_⟩;unfold a9w;rw [ahx hI]
theorem bev {z:AS} {i:Nat} (hi:i < ps.length) (h:ez l z (ps.getD i default) = true) (hI:∀ j,j < i -> ez l z (ps.getD j default) = false):a9w l ps z = z ||| pl l (ps.getD i default) z:=by
 unfold a9w;rw [abr hi hI h]
end
end
section
open Go.Proofs
theorem b6x:goodFn Tryz.prog 209:=wgx Tryz.func209
theorem aud (l:List Fd) (ps:List AS) (z:AS):a7 Tryz.prog 209 [pP (fdl l),pP (asl ps),pA z] (ae [pI (idx (ez l z) ps),pA (a9w l ps z)]):=by
 refine hpx (nt:=38) Tryz.func209 ?_;refine w_7 ?_;refine cb 1 rfl fun hbt=>?_;refine w_4 ?_;refine a6 (ι:=Nat) ⟨[(0,some _),(1,some _),(2,some _)],[]⟩ ⟨⟨c9,c9,c9,trivial⟩,trivial⟩ (fun i=>⟨[(8,some (vI i))],[]⟩) (fun i=>i <= ps.length /\ ∀ j,j < i -> ez l z (ps.getD j default) = false) (fun i=>ps.length - i) (0) (⟨bkl _,fun j hj=>absurd hj (bkp j)⟩) ⟨⟨zy,trivial⟩,trivial⟩ ?_;rintro i ⟨hi,hI⟩;refine w_8 ?_;refine hcd (fun h0=>?_) (fun h0=>?_)
 ·
  refine ef ?_;refine rc rfl rfl rfl rfl rfl rfl a8a (a7z l (z &&& (ps.getD i default))) (⟨CoC.refl _,cci (fj _ _),trivial⟩) rfl rfl ?_;refine ef ?_;refine rc rfl rfl rfl rfl rfl rfl ny (w3 (clo l (z &&& (ps.getD i default)) &&& (ps.getD i default)) z) (⟨cci (fj _ _),CoC.refl _,trivial⟩) rfl rfl ?_;refine w_2 ?_;refine hcv (fun h1=>?_) (fun h1=>?_)
  ·
   have hm:ez l z (ps.getD i default) = true:=by
    cases hq:ez l z (ps.getD i default) with
    | true=>rfl
    | false=>exact absurd (awr.2 hq) (a3w h1)
   obtain ⟨he1,he2⟩:=bi2 bos hI hm;refine w_9 ?_;exact hx8 rfl rfl rfl (⟨cci he1.symm,cci (by rw [he2,fj,bOr];rfl),trivial⟩)
  have hm:ez l z (ps.getD i default) = false:=awr.1 (a1b h1);refine w_6 ?_;refine lpz (i + 1) ⟨⟨zy,c9,c9,c9,trivial⟩,trivial⟩ ?_;refine ⟨by omega,fun j hj=>?_⟩;by_cases e:j = i
  · rw [e];exact hm
  exact hI j bos
 obtain rfl:i = ps.length:=by omega
 obtain ⟨he1,he2⟩:=bix hI;refine w_7 ?_;exact hx8 rfl rfl rfl (⟨cci he1.symm,cci (by rw [he2]),trivial⟩)
theorem b6a:goodFn Tryz.prog 161:=wgx Tryz.func161
theorem b22 (l:List Fd) (ps:List AS) (z0:AS):a7 Tryz.prog 161 [pP (fdl l),pP (asl ps),pA z0] (ae [pA (a35 l ps z0)]):=by
 refine hpx (nt:=20) Tryz.func161 ?_;refine w_5 ?_;refine a6 (ι:=Nat × List Nat × AS) ⟨[(0,some _),(1,some _)],[]⟩ ⟨⟨c9,c9,trivial⟩,trivial⟩ (fun x=>⟨[(2,some (vA x.2.2))],[]⟩) (fun x=>a9y l ps z0 x) (fun x=>x.1) ((4294967297,[],z0)) (aj0 l ps z0) ⟨⟨zy,trivial⟩,trivial⟩ ?_;rintro x hx;have hpos:=a6w hx;refine w_6 ?_;refine qcx b6x (aud l ps x.2.2) ?_;refine ef ?_;refine hcd (fun h0=>?_) (fun h0=>?_)
 · refine w_5 ?_;exact hx8 rfl rfl rfl (⟨cci (congrArg asI (aow hx bos)),trivial⟩)
 obtain ⟨i0,hi0,hi1,hi2,hi3⟩:=zg (p:=ez l x.2.2) (l:=ps) bos;refine w_5 ?_;refine ⟨(x.1 - 1,x.2.1 ++ [i0],x.2.2 ||| pl l (ps.getD i0 default) x.2.2), ?_, ?_, ?_⟩
 · exact al0 hx hi1 hi2 hi3
 · dsimp only
   omega
 exact ⟨⟨⟨_,rfl,(coi (congrArg asI (bev hi1 hi2 hi3)))⟩,c9,c9,trivial⟩,trivial⟩
theorem b9x:goodFn Tryz.prog 110:=wgx Tryz.func110
theorem b1j (l:List Fd) (ps:List AS) (x:Fd):a7 Tryz.prog 110 [pP (fdl l),pP (asl ps),x.pc] (ae [pB (xk l ps x)]):=by
 refine hpx (nt:=15) Tryz.func110 ?_;refine sx7 ?_;refine m9 0 ?_;refine ce ?_;refine qcx b6a (b22 l ps x.lhs) ?_;refine qcx ny (w3 x.rhs (a35 l ps x.lhs)) ?_;refine w_3 ?_;exact hx8 rfl rfl rfl (⟨CoC.refl _,trivial⟩)
theorem bam:goodFn Tryz.prog 49:=wgx Tryz.func49
theorem az3 (l:List Fd) (ps:List AS) (hl:l.length <= 16777216):a7 Tryz.prog 49 [pP (fdl l),pP (asl ps)] (ae [pP (il (c6 l ps l.length))]):=by
 refine hpx (nt:=26) Tryz.func49 ?_;refine oe ?_;refine cj 5 900 true 1 3 (lf iC []) boz rfl (CoP.sl rfl (.inr rfl) (fun h=>h) (fun i j hi _=>absurd hi (bkp i))) (.inr rfl) rfl ?_;refine a6 (ι:=Nat) ⟨[(0,some _),(1,some _)],[]⟩ ⟨⟨c9,c9,trivial⟩,trivial⟩ (fun i=>⟨[(5,some (.v (.one (.ref 900 (c6 l ps i).length)))),(6,some (vI i))],[(900,some (.arr true 1 3 (c6 l ps i).length (lf iC (c6 l ps i))))]⟩) (fun i=>i <= l.length) (fun i=>l.length - i) (0) (bkl _) ⟨⟨zy,zy,trivial⟩,⟨u9,trivial⟩⟩ ?_;rintro i hi;have hlen:=agb l ps i;refine w_8 ?_;refine hcd (fun h0=>?_) (fun h0=>?_)
 ·
  refine cu ?_;refine qcx b9x (b1j l ps (l.getD i default)) ?_;refine w_2 ?_;refine a8 _ rfl (fun r1=>?_) (fun r1=>?_)
  ·
   have h1:=d6 r1;have hq:=d6 r1;refine w_3 ?_;refine m9 0 ?_;refine r9 1 true ?_;refine w_7 ?_
   first | (refine ⟨i + 1, ?_, ?_, ?_⟩
            · show i + 1 <= _;omega
            · first | omega | (dsimp only;omega)
            exact ⟨⟨⟨_,rfl,(c7 (ss bot))⟩,zy,c9,c9,trivial⟩,⟨⟨_,rfl,(bz (ss bot) (CoP.refl _))⟩,trivial⟩⟩)
         | (refine ⟨i + 1, ?_, ?_, ?_⟩
            · show i + 1 <= _;omega
            · first | omega | (dsimp only;omega)
            exact ⟨⟨⟨_,rfl,(ca (sk bot))⟩,zy,c9,c9,trivial⟩,⟨⟨_,rfl,(bv (sk bot))⟩,trivial⟩⟩)
  have h1:=d5 r1;have hq:=d5 r1;refine w_6 ?_
  first | (refine ⟨i + 1, ?_, ?_, ?_⟩
           · show i + 1 <= _;omega
           · first | omega | (dsimp only;omega)
           exact ⟨⟨⟨_,rfl,(c7 (ss bot))⟩,zy,c9,c9,trivial⟩,⟨⟨_,rfl,(bz (ss bot) (CoP.refl _))⟩,trivial⟩⟩)
        | (refine ⟨i + 1, ?_, ?_, ?_⟩
           · show i + 1 <= _;omega
           · first | omega | (dsimp only;omega)
           exact ⟨⟨⟨_,rfl,(ca (sk bot))⟩,zy,c9,c9,trivial⟩,⟨⟨_,rfl,(bv (sk bot))⟩,trivial⟩⟩)
 obtain rfl:i = l.length:=by omega
 refine w_6 ?_;refine av 4 rfl rfl rfl ?_;exact hx8 rfl rfl rfl (CoL.refl _)
end
section
open Go.Proofs
theorem b9u:goodFn Tryz.prog 210:=wgx Tryz.func210
theorem bhm (b:Bs) (g k:Nat) (caps:Nat -> PV) (V:UInt8 -> Bool) (hg:goodFn Tryz.prog g) (hV:∀ x,a7 Tryz.prog g (pU8 x :: gv caps k 0) (ae [pB (V x)])):a7 Tryz.prog 210 [pP (byl b),pP (.fn g k caps)] (ae [pI (idx V b.data.toList)]):=by
 refine hpx (nt:=19) Tryz.func210 ?_;refine cq ?_;refine cb 0 rfl fun hn=>?_;refine w_3 ?_;refine bu (ι:=Unit) ⟨[],[]⟩ ⟨trivial,trivial⟩ (fun _i=>⟨[],[]⟩) (fun _i=>idx V b.data.toList = -1) ?_ ?_
 ·
  refine w_7 ?_;refine a6 (ι:=Nat) ⟨[(0,some _),(1,some _),(7,some _)],[]⟩ ⟨⟨c9,c9,c9,trivial⟩,trivial⟩ (fun i=>⟨[(8,some (vI i))],[]⟩) (fun i=>i <= b.data.toList.length /\ (∀ j,j < i -> V (b.data.toList.getD j default) = false)) (fun i=>b.data.toList.length - i) (0) (⟨bkl _,bq⟩) ⟨⟨zy,trivial⟩,trivial⟩ ?_;rintro i ⟨hi,hI⟩;refine w_5 ?_;refine hcd (fun h0=>?_) (fun h0=>?_)
  ·
   refine ku ?_;refine rc rfl rfl rfl rfl rfl rfl hg (hV (b.data.toList.getD i default)) (CoL.refl _) rfl rfl ?_;refine aq ?_;refine hcb (fun h1=>?_) (fun h1=>?_)
   · refine w_5 ?_;exact hx8 rfl rfl rfl (⟨cci (rp (i:=i) bos hI h1).symm,trivial⟩)
   refine w_5 ?_;refine lpz (i + 1) ⟨⟨zy,c9,c9,c9,trivial⟩,trivial⟩ ?_;exact ⟨by show i + 1 <= _;omega,az hI (h1)⟩
  refine dp ?_;refine ⟨(), ?_, ?_⟩
  · exact rr fun j hj=>hI j bos
  exact ⟨trivial,trivial⟩
 rintro _ hj;refine w_4 ?_;exact hx8 rfl rfl rfl (⟨cci hj.symm,trivial⟩)
theorem b8m:goodFn Tryz.prog 162:=wgx Tryz.func162
theorem bhd (b:Bs) (g k:Nat) (caps:Nat -> PV) (V:UInt8 -> Bool) (hg:goodFn Tryz.prog g) (hV:∀ x,a7 Tryz.prog g (pU8 x :: gv caps k 0) (ae [pB (V x)])):a7 Tryz.prog 162 [pP (byl b),pP (.fn g k caps)] (ae [pB (b.data.toList.any V)]):=by
 refine hpx (nt:=9) Tryz.func162 ?_;refine w_8 ?_;refine qcx b9u (bhm b g k caps V hg hV) ?_;refine w_3 ?_;exact hx8 rfl rfl rfl (⟨ccb x5,trivial⟩)
theorem b50:goodFn Tryz.prog 211:=wgx Tryz.func211
theorem big (l:List Bs) (s:Bs):a7 Tryz.prog 211 [pP (bsl l),pS s] (ae [pI (idx (fun x=>decide (x = s)) l)]):=by
 refine hpx (nt:=19) Tryz.func211 ?_;refine cq ?_;refine cb 0 rfl fun hn=>?_;refine w_3 ?_;refine bu (ι:=Unit) ⟨[],[]⟩ ⟨trivial,trivial⟩ (fun _i=>⟨[],[]⟩) (fun _i=>idx (fun x=>decide (x = s)) l = -1) ?_ ?_
 ·
  refine w_7 ?_;refine a6 (ι:=Nat) ⟨[(0,some _),(1,some _),(7,some _)],[]⟩ ⟨⟨c9,c9,c9,trivial⟩,trivial⟩ (fun i=>⟨[(8,some (vI i))],[]⟩) (fun i=>i <= l.length /\ (∀ j,j < i -> decide (l.getD j default = s) = false)) (fun i=>l.length - i) (0) (⟨bkl _,bq⟩) ⟨⟨zy,trivial⟩,trivial⟩ ?_;rintro i ⟨hi,hI⟩;refine w_5 ?_;refine hcd (fun h0=>?_) (fun h0=>?_)
  ·
   refine xa ?_;refine hcd (fun h1=>?_) (fun h1=>?_)
   · refine w_5 ?_;exact hx8 rfl rfl rfl (⟨cci (rp (p:=fun x=>decide (x = s)) (i:=i) bos hI (decide_eq_true h1.symm)).symm,trivial⟩)
   refine w_5 ?_;refine lpz (i + 1) ⟨⟨zy,c9,c9,c9,trivial⟩,trivial⟩ ?_;exact ⟨by show i + 1 <= _;omega,az hI (decide_eq_false fun e=>h1 e.symm)⟩
  refine dp ?_;refine ⟨(), ?_, ?_⟩
  · exact rr (p:=fun x=>decide (x = s)) fun j hj=>hI j bos
  exact ⟨trivial,trivial⟩
 rintro _ hj;refine w_4 ?_;exact hx8 rfl rfl rfl (⟨cci hj.symm,trivial⟩)
theorem b7c:goodFn Tryz.prog 164:=wgx Tryz.func164
theorem bic (l:List Bs) (s:Bs):a7 Tryz.prog 164 [pP (bsl l),pS s] (ae [pB (l.any fun x=>decide (x = s))]):=by
 refine hpx (nt:=9) Tryz.func164 ?_;refine w_8 ?_;refine qcx b50 (big _ _) ?_;refine w_3 ?_;exact hx8 rfl rfl rfl (⟨ccb x5,trivial⟩)
theorem b61:goodFn Tryz.prog 163:=wgx Tryz.func163
theorem bf2 (x:UInt8):a7 Tryz.prog 163 [pU8 x] (ae [pB (aiw x)]):=by
 refine hpx (nt:=9) Tryz.func163 ?_;refine w_9 ?_;refine am rfl rfl (fun r0=>?_) (fun r0=>?_)
 ·
  have h0:=tz1 r0;(iterate 2 refine k9 (gtf r0) ?_);refine rq rfl rfl rfl rfl rfl ?_ (hp:=r0);refine w_2 ?_
  exact hx8 rfl rfl rfl (⟨ccb (by unfold aiw;first | rfl | simp_all),trivial⟩)
 have h0:=tz2 r0;(iterate 2 refine qy ?_ (hg:=(gff r0)));refine w_3 ?_
 exact hx8 rfl rfl rfl (⟨ccb (by unfold aiw;first | rfl | simp_all),trivial⟩)
theorem b7t:goodFn Tryz.prog 111:=wgx Tryz.func111
theorem biu (l:List Bs) (hl:∀ b ∈ l,b.size <= maxLen):a7 Tryz.prog 111 [pP (bsl l)] (ae [pI (mj l)]):=by
 refine hpx (nt:=30) Tryz.func111 ?_;refine w_6 ?_;refine cb 0 rfl fun hn=>?_;refine w_5 ?_;refine hcd (fun h0=>?_) (fun h0=>?_)
 · have he:=bij h0;refine w_4 ?_;exact hx8 rfl rfl rfl (⟨cci he.symm,trivial⟩)
 refine w_9 ?_;refine a6 (ι:=Nat) ⟨[(0,some _),(8,some _),(9,some _)],[]⟩ ⟨⟨c9,c9,c9,trivial⟩,trivial⟩ (fun i=>⟨[(10,some (vI i))],[]⟩) (fun i=>i <= l.length /\ (∀ j,j < i -> ru l j = false)) (fun i=>l.length - i) (0) (⟨bkl _,bq⟩) ⟨⟨zy,trivial⟩,trivial⟩ ?_;rintro i ⟨hi,hI⟩;refine w_5 ?_;refine hcd (fun h1=>?_) (fun h1=>?_)
 ·
  have hsz:(l.getD i default).size <= maxLen:=hl _ (by rw [bkk,bkj bos];exact blh _);refine x9 ?_;refine am rfl rfl (fun r2=>?_) (fun r2=>?_)
  ·
   have h2:=tz1 r2;have hb:ru l i = true:=by unfold ru;simp_all
   (iterate 3 refine k9 (gtf r2) ?_);refine rq rfl rfl rfl rfl rfl ?_ (hp:=r2);refine qy ?_;(iterate 5 refine k9 rfl ?_);refine w_2 ?_;refine a8 _ rfl (fun _=>?_) (fun e=>by cases e);refine w_4 ?_
   exact hx8 rfl rfl rfl (⟨cci (b1t h0 bos hb).symm,trivial⟩)
  have h2:=tz2 r2;refine qy ?_ (hg:=(gff r2));refine rv rfl rfl rfl rfl rfl (gff r2) ?_;refine qcx b8m (bhd (l.getD i default) 163 0 (fun _=>.any) aiw b61 bf2) ?_ (hg:=(gff r2));refine w_2 ?_;refine am rfl rfl (fun r3=>?_) (fun r3=>?_)
  ·
   have h3:=au r2 r3;have hb:ru l i = true:=by unfold ru;simp_all
   (iterate 5 refine k9 (gtf r3) ?_);refine rq rfl rfl rfl rfl rfl ?_ (hp:=r3);refine aq ?_;refine a8 _ rfl (fun _=>?_) (fun e=>by cases e);refine w_4 ?_
   exact hx8 rfl rfl rfl (⟨cci (b1t h0 bos hb).symm,trivial⟩)
  have h3:=au r2 r3;(iterate 4 refine qy ?_ (hg:=(gff r3)));refine rc rfl rfl rfl rfl rfl rfl b7c (bic (l.take i) (l.getD i default)) (⟨CoC.one (aol (k:=i) bos),CoC.refl _,trivial⟩) rfl (gff r3) ?_;refine w_2 ?_
  refine a8 _ rfl (fun r4=>?_) (fun r4=>?_)
  ·
   have h4:=au r3 r4;have hb:ru l i = true:=by unfold ru;simp_all
   refine w_4 ?_;exact hx8 rfl rfl rfl (⟨cci (b1t h0 bos hb).symm,trivial⟩)
  have h4:=au r3 r4;have hb:ru l i = false:=by unfold ru;simp_all
  refine w_5 ?_;refine lpz (i + 1) ⟨⟨zy,c9,c9,c9,trivial⟩,trivial⟩ ?_;exact ⟨by show i + 1 <= _;omega,az hI (hb)⟩
 obtain rfl:i = l.length:=by omega
 refine w_5 ?_;exact hx8 rfl rfl rfl (⟨cci (bhr h0 hI).symm,trivial⟩)
end
end Go.Hx
