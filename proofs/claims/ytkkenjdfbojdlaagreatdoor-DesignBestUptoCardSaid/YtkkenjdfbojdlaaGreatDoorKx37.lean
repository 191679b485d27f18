/- A part of the proof: Dw8 Dw1. -/
import Derived.Test.YtkkenjdfbojdlaaGreatDoorKx36
set_option linter.all false
set_option maxRecDepth 100000
namespace Go.Hx
section
open Go.Proofs
def ax4 (l:List Fd) (ps:List AS) (z:AS):a6 br6 209 [pP (fdl l),pP (asl ps),pA z] (a8 [pI (idx (dz l z) ps),pA (aax l ps z)]):=by
 refine hpx (nt:=38) Tryz.func209 ?_;refine w_7 ?_;refine c8 1 rfl fun hbt=>?_;refine w_4 ?_;refine ae (ι:=Nat) (ka 0 (ka 1 (ka 2 kn))) km (fun i=>⟨[(8,some (vI i))],[]⟩) (fun i=>i <= ps.length /\ ∀ j,j < i -> dz l z (ps.getD j default) = false) (fun i=>ps.length - i) (0) (⟨bmh _,fun j hj=>absurd hj (bmf j)⟩) kk ?_;rintro i ⟨hi,hI⟩;refine w_8 ?_;refine hcd (fun h0=>?_) (fun h0=>?_)
 ·
  refine dy ?_;refine rc rfl rfl rfl rfl rfl rfl wc (wl l (z &&& (ps.getD i default))) (⟨CoC.refl _,cci (fj _ _),trivial⟩) rfl rfl ?_;refine dy ?_;refine rc rfl rfl rfl rfl rfl rfl l6 (qp (clo l (z &&& (ps.getD i default)) &&& (ps.getD i default)) z) (⟨cci (fj _ _),CoC.refl _,trivial⟩) rfl rfl ?_;refine w_2 ?_;refine hcv (fun h1=>?_) (fun h1=>?_)
  ·
   have hm:dz l z (ps.getD i default) = true:=by
    cases hq:dz l z (ps.getD i default) with
    | true=>rfl
    | false=>exact absurd (awy.2 hq) (a1w h1)
   obtain ⟨he1,he2⟩:=bk8 bqi hI hm;refine v_9 ?_;exact ⟨cci he1.symm,cci (by rw [he2,fj,bOr];rfl),trivial⟩
  have hm:dz l z (ps.getD i default) = false:=awy.1 (a0i h1);refine w_6 ?_;refine lpz (i + 1) kk ?_;refine ⟨by omega,fun j hj=>?_⟩;by_cases e:j = i
  · rw [e];exact hm
  exact hI j bqi
 obtain rfl:i = ps.length:=by omega
 obtain ⟨he1,he2⟩:=bjd hI;refine v_7 ?_;exact ⟨cci he1.symm,cci (by rw [he2]),trivial⟩
def b0a (l:List Fd) (ps:List AS) (z0:AS):a6 br6 161 [pP (fdl l),pP (asl ps),pA z0] (a8 [pA (vl l ps z0)]):=by
 refine hpx (nt:=20) Tryz.func161 ?_;refine w_5 ?_;refine ae (ι:=Nat × List Nat × AS) (ka 0 (ka 1 kn)) km (fun x=>⟨[(2,some (vA x.2.2))],[]⟩) (fun x=>abv l ps z0 x) (fun x=>x.1) ((4294967297,[],z0)) (amz l ps z0) kk ?_;rintro x hx;have hpos:=a7x hx;refine w_6 ?_;refine qcx (wgx Tryz.func209) (ax4 l ps x.2.2) ?_;refine dy ?_;refine hcd (fun h0=>?_) (fun h0=>?_)
 · refine v_5 ?_;exact ⟨cci (congrArg asI (are hx bqi)),trivial⟩
 obtain ⟨i0,hi0,hi1,hi2,hi3⟩:=a09 (p:=dz l x.2.2) (l:=ps) bqi;refine w_5 ?_;refine ⟨(x.1 - 1,x.2.1 ++ [i0],x.2.2 ||| o8 l (ps.getD i0 default) x.2.2), ?_, ?_, ?_⟩
 · exact amr hx hi1 hi2 hi3
 · dsimp only
   omega
 exact ⟨⟨⟨_,rfl,(coi (congrArg asI (bh9 hi1 hi2 hi3)))⟩,tt⟩,trivial⟩
def b3o (l:List Fd) (ps:List AS) (x:Fd):a6 br6 110 [pP (fdl l),pP (asl ps),x.pc] (a8 [pB (o6 l ps x)]):=by
 refine hpx (nt:=15) Tryz.func110 ?_;refine sx7 ?_;refine m9 0 ?_;refine c5 ?_;refine qcx (wgx Tryz.func161) (b0a l ps x.lhs) ?_;refine qcx l6 (qp x.rhs (vl l ps x.lhs)) ?_;refine v_3 ?_;exact ⟨CoC.refl _,trivial⟩
def b1n (l:List Fd) (ps:List AS) (hl:l.length <= 16777216):a6 br6 49 [pP (fdl l),pP (asl ps)] (a8 [pP (il (ca l ps l.length))]):=by
 refine hpx (nt:=26) Tryz.func49 ?_;refine p9 ?_;refine bw 5 900 true 1 3 (lf iC []) bqo rfl (CoP.sl rfl (.inr rfl) (fun h=>h) (fun i j hi _=>absurd hi (bmf i))) (.inr rfl) rfl ?_;refine b5 (ka 0 (ka 1 kn)) km (fun i=>⟨[(5,some (.v (.one (.ref 900 (ca l ps i).length)))),(6,some (vI i))],[(900,some (.arr true 1 3 (ca l ps i).length (lf iC (ca l ps i))))]⟩) l.length kk ?_;rintro i hi;have hlen:=ahd l ps i;refine w_8 ?_;refine hcd (fun h0=>?_) (fun h0=>?_)
 ·
  refine cq ?_;refine qcx (wgx Tryz.func110) (b3o l ps (l.getD i default)) ?_;refine w_2 ?_;refine ak _ rfl (fun r1=>?_) (fun r1=>?_)
  ·
   have h1:=cu r1;have hq:=cu r1;refine w_3 ?_;refine m9 0 ?_;refine r9 1 true ?_;refine w_7 ?_
   first | (refine ⟨i + 1, ?_, ?_, ?_⟩
            · show i + 1 <= _;omega
            · first | omega | (dsimp only;omega)
            exact ⟨⟨⟨_,rfl,(bg (uj bqj))⟩,tt⟩,⟨⟨_,rfl,(bh (uj bqj) (CoP.refl _))⟩,trivial⟩⟩)
         | (refine ⟨i + 1, ?_, ?_, ?_⟩
            · show i + 1 <= _;omega
            · first | omega | (dsimp only;omega)
            exact ⟨⟨⟨_,rfl,(bi (uc bqj))⟩,tt⟩,⟨⟨_,rfl,(b8 (uc bqj))⟩,trivial⟩⟩)
  have h1:=ct r1;have hq:=ct r1;refine w_6 ?_
  first | (refine ⟨i + 1, ?_, ?_, ?_⟩
           · show i + 1 <= _;omega
           · first | omega | (dsimp only;omega)
           exact ⟨⟨⟨_,rfl,(bg (uj bqj))⟩,tt⟩,⟨⟨_,rfl,(bh (uj bqj) (CoP.refl _))⟩,trivial⟩⟩)
        | (refine ⟨i + 1, ?_, ?_, ?_⟩
           · show i + 1 <= _;omega
           · first | omega | (dsimp only;omega)
           exact ⟨⟨⟨_,rfl,(bi (uc bqj))⟩,tt⟩,⟨⟨_,rfl,(b8 (uc bqj))⟩,trivial⟩⟩)
 obtain rfl:i = l.length:=by omega
 refine w_6 ?_;refine al 4 rfl rfl rfl ?_;exact hx8 rfl rfl rfl (CoL.refl _)
end
section
open Go.Proofs
def bk7 (b:Bs) (g k:Nat) (caps:Nat -> PV) (V:UInt8 -> Bool) (hg:goodFn br6 g) (hV:∀ x,a6 br6 g (pU8 x :: ip caps k 0) (a8 [pB (V x)])):a6 br6 210 [pP (byl b),pP (.fn g k caps)] (a8 [pI (idx V b.data.toList)]):=by
 refine hpx (nt:=19) Tryz.func210 ?_;refine cb ?_;refine c8 0 rfl fun hn=>?_;refine w_3 ?_;refine dm (ι:=Unit) kn km (fun _i=>⟨[],[]⟩) (fun _i=>idx V b.data.toList = -1) ?_ ?_
 ·
  refine w_7 ?_;refine ae (ι:=Nat) (ka 0 (ka 1 (ka 7 kn))) km (fun i=>⟨[(8,some (vI i))],[]⟩) (fun i=>i <= b.data.toList.length /\ (∀ j,j < i -> V (b.data.toList.getD j default) = false)) (fun i=>b.data.toList.length - i) (0) (⟨bmh _,bq⟩) kk ?_;rintro i ⟨hi,hI⟩;refine w_5 ?_;refine hcd (fun h0=>?_) (fun h0=>?_)
  ·
   refine ml ?_;refine rc rfl rfl rfl rfl rfl rfl hg (hV (b.data.toList.getD i default)) (CoL.refl _) rfl rfl ?_;refine bz ?_;refine hcb (fun h1=>?_) (fun h1=>?_)
   · refine v_5 ?_;exact ⟨cci (rg (i:=i) bqi hI h1).symm,trivial⟩
   refine w_5 ?_;refine lpz (i + 1) kk ?_;exact ⟨by show i + 1 <= _;omega,aw hI (h1)⟩
  refine da ?_;refine ⟨(), ?_, ?_⟩
  · exact sx fun j hj=>hI j bqi
  exact ⟨trivial,trivial⟩
 rintro _ hj;refine v_4 ?_;exact ⟨cci hj.symm,trivial⟩
def bki (b:Bs) (g k:Nat) (caps:Nat -> PV) (V:UInt8 -> Bool) (hg:goodFn br6 g) (hV:∀ x,a6 br6 g (pU8 x :: ip caps k 0) (a8 [pB (V x)])):a6 br6 162 [pP (byl b),pP (.fn g k caps)] (a8 [pB (b.data.toList.any V)]):=by
 refine hpx (nt:=9) Tryz.func162 ?_;refine w_8 ?_;refine qcx (wgx Tryz.func210) (bk7 b g k caps V hg hV) ?_;refine v_3 ?_;exact ⟨ccb xd,trivial⟩
def bkx (l:List Bs) (s:Bs):a6 br6 211 [pP (bsl l),pS s] (a8 [pI (idx (fun x=>decide (x = s)) l)]):=by
 refine hpx (nt:=19) Tryz.func211 ?_;refine cb ?_;refine c8 0 rfl fun hn=>?_;refine w_3 ?_;refine dm (ι:=Unit) kn km (fun _i=>⟨[],[]⟩) (fun _i=>idx (fun x=>decide (x = s)) l = -1) ?_ ?_
 ·
  refine w_7 ?_;refine ae (ι:=Nat) (ka 0 (ka 1 (ka 7 kn))) km (fun i=>⟨[(8,some (vI i))],[]⟩) (fun i=>i <= l.length /\ (∀ j,j < i -> decide (l.getD j default = s) = false)) (fun i=>l.length - i) (0) (⟨bmh _,bq⟩) kk ?_;rintro i ⟨hi,hI⟩;refine w_5 ?_;refine hcd (fun h0=>?_) (fun h0=>?_)
  ·
   refine y5 ?_;refine hcd (fun h1=>?_) (fun h1=>?_)
   · refine v_5 ?_;exact ⟨cci (rg (p:=fun x=>decide (x = s)) (i:=i) bqi hI (decide_eq_true h1.symm)).symm,trivial⟩
   refine w_5 ?_;refine lpz (i + 1) kk ?_;exact ⟨by show i + 1 <= _;omega,aw hI (decide_eq_false fun e=>h1 e.symm)⟩
  refine da ?_;refine ⟨(), ?_, ?_⟩
  · exact sx (p:=fun x=>decide (x = s)) fun j hj=>hI j bqi
  exact ⟨trivial,trivial⟩
 rintro _ hj;refine v_4 ?_;exact ⟨cci hj.symm,trivial⟩
def bjl (l:List Bs) (s:Bs):a6 br6 164 [pP (bsl l),pS s] (a8 [pB (l.any fun x=>decide (x = s))]):=by
 refine hpx (nt:=9) Tryz.func164 ?_;refine w_8 ?_;refine qcx (wgx Tryz.func211) (bkx _ _) ?_;refine v_3 ?_;exact ⟨ccb xd,trivial⟩
def bi8 (x:UInt8):a6 br6 163 [pU8 x] (a8 [pB (ank x)]):=by
 refine hpx (nt:=9) Tryz.func163 ?_;refine w_9 ?_;refine ah rfl rfl (fun r0=>?_) (fun r0=>?_)
 ·
  have h0:=tz1 r0;(iterate 2 refine k9 (gtf r0) ?_);refine rq rfl rfl rfl rfl rfl ?_ (hp:=r0);refine w_2 ?_
  exact hx8 rfl rfl rfl (⟨ccb (by unfold ank;first | rfl | simp_all),trivial⟩)
 have h0:=tz2 r0;(iterate 2 refine qy ?_ (hg:=(gff r0)));refine w_3 ?_
 exact hx8 rfl rfl rfl (⟨ccb (by unfold ank;first | rfl | simp_all),trivial⟩)
def bjt (l:List Bs) (hl:∀ b ∈ l,b.size <= maxLen):a6 br6 111 [pP (bsl l)] (a8 [pI (n4 l)]):=by
 refine hpx (nt:=30) Tryz.func111 ?_;refine w_6 ?_;refine c8 0 rfl fun hn=>?_;refine w_5 ?_;refine hcd (fun h0=>?_) (fun h0=>?_)
 · have he:=bkw h0;refine v_4 ?_;exact ⟨cci he.symm,trivial⟩
 refine w_9 ?_;refine ae (ι:=Nat) (ka 0 (ka 8 (ka 9 kn))) km (fun i=>⟨[(10,some (vI i))],[]⟩) (fun i=>i <= l.length /\ (∀ j,j < i -> t6 l j = false)) (fun i=>l.length - i) (0) (⟨bmh _,bq⟩) kk ?_;rintro i ⟨hi,hI⟩;refine w_5 ?_;refine hcd (fun h1=>?_) (fun h1=>?_)
 ·
  have hsz:(l.getD i default).size <= maxLen:=hl _ (by rw [bmb,bma bqi];exact bmz _);refine ow ?_;refine ah rfl rfl (fun r2=>?_) (fun r2=>?_)
  ·
   have h2:=tz1 r2;have hb:t6 l i = true:=by unfold t6;simp_all
   (iterate 3 refine k9 (gtf r2) ?_);refine rq rfl rfl rfl rfl rfl ?_ (hp:=r2);refine qy ?_;(iterate 5 refine k9 rfl ?_);refine w_7 ?_
   exact hx8 rfl rfl rfl (⟨cci (b0n h0 bqi hb).symm,trivial⟩)
  have h2:=tz2 r2;refine qy ?_ (hg:=(gff r2));refine rv rfl rfl rfl rfl rfl (gff r2) ?_;refine qcx (wgx Tryz.func162) (bki (l.getD i default) 163 0 (fun _=>.any) ank (wgx Tryz.func163) bi8) ?_ (hg:=(gff r2));refine w_2 ?_;refine ah rfl rfl (fun r3=>?_) (fun r3=>?_)
  ·
   have h3:=au r2 r3;have hb:t6 l i = true:=by unfold t6;simp_all
   (iterate 5 refine k9 (gtf r3) ?_);refine rq rfl rfl rfl rfl rfl ?_ (hp:=r3);refine w_6 ?_
   exact hx8 rfl rfl rfl (⟨cci (b0n h0 bqi hb).symm,trivial⟩)
  have h3:=au r2 r3;(iterate 4 refine qy ?_ (hg:=(gff r3)));refine rc rfl rfl rfl rfl rfl rfl (wgx Tryz.func164) (bjl (l.take i) (l.getD i default)) (⟨CoC.one (aqk (k:=i) bqi),CoC.refl _,trivial⟩) rfl (gff r3) ?_;refine w_2 ?_
  refine ak _ rfl (fun r4=>?_) (fun r4=>?_)
  ·
   have h4:=au r3 r4;have hb:t6 l i = true:=by unfold t6;simp_all
   refine v_4 ?_;exact ⟨cci (b0n h0 bqi hb).symm,trivial⟩
  have h4:=au r3 r4;have hb:t6 l i = false:=by unfold t6;simp_all
  refine w_5 ?_;refine lpz (i + 1) kk ?_;exact ⟨by show i + 1 <= _;omega,aw hI (hb)⟩
 obtain rfl:i = l.length:=by omega
 refine v_5 ?_;exact ⟨cci (bke h0 hI).symm,trivial⟩
end
end Go.Hx
