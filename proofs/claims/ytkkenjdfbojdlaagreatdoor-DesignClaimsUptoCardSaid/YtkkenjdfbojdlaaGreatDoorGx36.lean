/- A part of the proof: Y9 Bz9 Ls8 Ds3 Ds4 Ds5 Ds11. -/
import Derived.Test.YtkkenjdfbojdlaaGreatDoorGx16
import Derived.Test.YtkkenjdfbojdlaaGreatDoorGx22
import Derived.Test.YtkkenjdfbojdlaaGreatDoorGx31
import Derived.Test.YtkkenjdfbojdlaaGreatDoorGx32
import Derived.Test.YtkkenjdfbojdlaaGreatDoorGx35
set_option linter.all false
set_option maxRecDepth 100000
namespace Go.Hx
section
open Go.Proofs
theorem aoi:goodFn Tryz.prog 206:=wgx Tryz.func206
theorem asu (n:Int) (l m:List Fd) (x:AS):a7 Tryz.prog 206 [pI n,pP (fdl l),pP (fdl m),pA x] (ae [.agg [asl (chT l m (aa n &&& ~~~x))]]):=by
 refine hpx (nt:=44) Tryz.func206 ?_;refine cb 1 rfl fun hbl=>?_;refine cb 2 rfl fun hbm=>?_;refine sx7 ?_;refine m9 900 ?_;refine w_3 ?_;refine m9 901 ?_;refine qy ?_;refine m9 902 ?_;refine w_5 ?_;refine qcx ol (oq n) ?_;refine w_2 ?_;refine gi rfl rfl rfl rfl rfl rfl adr (((azs [0] (aa n &&& ~~~x) boz).swap 1000 902).swap 1001 901) (⟨uk.refl _,(CoP.of_eq (congrArg (fun z=>PV.raw (.int .u32 z)) (go _ _))),trivial⟩) ⟨u9,⟨_,rfl,(yp (CoP.refl _))⟩,trivial⟩ rfl rfl ?_;refine w_7 ?_;refine a6 (ι:=(Nat × List AS × Bool)) ⟨[(1,some _),(2,some _),(8,some _),(9,some _)],[(900,some _)]⟩ ⟨⟨c9,c9,c9,c9,trivial⟩,⟨u9,trivial⟩⟩ (fun y=>⟨[(10,some (vB y.2.2))],[(902,some (.box [.ref 901 y.2.1.length])),(901,some (.arr true 1 46 y.2.1.length (lf sC y.2.1)))]⟩) (fun y=>ChI l m (chT l m (aa n &&& ~~~x)) y) (fun y=>aqc y) ((MU,aai (aa n &&& ~~~x),true)) (ChI.start l m (aa n &&& ~~~x)) ⟨⟨⟨_,rfl,(CoR.refl _)⟩,trivial⟩,⟨u9,u9,trivial⟩⟩ ?_;rintro ⟨f,T,ag⟩ hC;refine w_5 ?_;refine a8 _ rfl (fun r0=>?_) (fun r0=>?_)
 ·
  have h0:=r0;obtain rfl:ag = true:=r0;obtain ⟨hC2,hf⟩:=hC.next
  have hT:T.Nodup:=hC.nd;refine ef ?_;refine a6 (ι:=Nat) ⟨[(1,some _),(2,some _),(8,some _),(9,some _)],[(900,some _)]⟩ ⟨⟨c9,c9,c9,c9,trivial⟩,⟨u9,trivial⟩⟩ (fun i=>⟨[(10,some (vB (lg l T i).2)),(11,some (vI i))],[(902,some (.box [.ref 901 (lg l T i).1.length])),(901,some (.arr true 1 46 (lg l T i).1.length (lf sC (lg l T i).1)))]⟩) (fun i=>i <= l.length) (fun i=>l.length - i) (0) (bkl _) ⟨⟨⟨_,rfl,(CoR.refl _)⟩,⟨_,rfl,(CoR.refl _)⟩,trivial⟩,⟨u9,u9,trivial⟩⟩ ?_;rintro i hi;refine w_8 ?_;refine hcd (fun h1=>?_) (fun h1=>?_)
  ·
   have hil:i < l.length:=by omega
   refine w_4 ?_;refine a6 (ι:=(Nat × List AS × Bool)) ⟨[(1,some _),(2,some _),(8,some _),(9,some _),(11,some _)],[(900,some _)]⟩ ⟨⟨c9,c9,c9,c9,c9,trivial⟩,⟨u9,trivial⟩⟩ (fun y=>⟨[(10,some (vB ((lg l T i).2 || y.2.2)))],[(902,some (.box [.ref 901 y.2.1.length])),(901,some (.arr true 1 46 y.2.1.length (lf sC y.2.1)))]⟩) (fun y=>FdI (l.getD i default) (lg l T i).1 y) (fun y=>y.1) ((FU2,(lg l T i).1,false)) (FdI.start (ang hT)) ⟨⟨⟨_,rfl,(cob bow)⟩,trivial⟩,⟨u9,u9,trivial⟩⟩ ?_;rintro ⟨g,U,b⟩ hF;refine w_2 ?_
   rcases hq:fdT (l.getD i default) U with _ | s
   ·
    refine w_5 ?_;refine fc9 ann ((bi5 U (l.getD i default) hq hF.len).swap 1000 902) ⟨u9,u9,trivial⟩ ?_;refine aq ?_;refine a8 _ rfl (fun r2=>?_) (fun r2=>?_)
    · have h2:=r2;cases r2
    have h2:=r2;have hd:=hF.done (c:=(lg l T i).2) hq;have hd1:U = (lg l T (i + 1)).1:=by rw [afd hil];exact congrArg Prod.fst hd
    have hd2:((lg l T i).2 || b) = (lg l T (i + 1)).2:=by rw [afd hil];exact congrArg Prod.snd hd
    refine w_6 ?_;exact lpx (i + 1) ⟨⟨⟨_,rfl,(by rw [<- hd2];exact CoR.refl _)⟩,⟨_,rfl,(CoR.refl _)⟩,c9,c9,c9,c9,trivial⟩,⟨⟨_,rfl,(by rw [<- hd1];exact CoO.refl _)⟩,⟨_,rfl,(by rw [<- hd1];exact CoO.refl _)⟩,u9,trivial⟩⟩
   refine w_5 ?_;refine fc9 ann ((bi6 U (l.getD i default) s hq hF.len).swap 1000 902) ⟨u9,u9,trivial⟩ ?_;refine aq ?_;refine a8 _ rfl (fun r3=>?_) (fun r3=>?_)
   ·
    have h3:=r3;obtain ⟨hF2,hg0⟩:=hF.next hq
    refine w_5 ?_;refine ⟨(g - 1,jx U s,true), ?_, ?_, ?_⟩
    · exact hF2
    · dsimp only;omega
    exact ⟨⟨⟨_,rfl,(cob bow)⟩,c9,c9,c9,c9,c9,trivial⟩,⟨u9,u9,u9,trivial⟩⟩
   have h3:=r3;cases r3
  obtain rfl:i = l.length:=by omega
  refine w_6 ?_;refine a6 (ι:=Nat) ⟨[(1,some _),(2,some _),(8,some _),(9,some _)],[(900,some _)]⟩ ⟨⟨c9,c9,c9,c9,trivial⟩,⟨u9,trivial⟩⟩ (fun i=>⟨[(10,some (vB (mvX m (lg l T l.length) i).2)),(12,some (vI i))],[(902,some (.box [.ref 901 (mvX m (lg l T l.length) i).1.length])),(901,some (.arr true 1 46 (mvX m (lg l T l.length) i).1.length (lf sC (mvX m (lg l T l.length) i).1)))]⟩) (fun i=>i <= m.length) (fun i=>m.length - i) (0) (bkl _) ⟨⟨⟨_,rfl,(CoR.refl _)⟩,⟨_,rfl,(CoR.refl _)⟩,trivial⟩,⟨u9,u9,trivial⟩⟩ ?_;rintro i hi;refine w_8 ?_;refine hcd (fun h4=>?_) (fun h4=>?_)
  ·
   have hil:i < m.length:=by omega
   refine w_9 ?_;refine fc9 ba3 (((biz (mvX m (lg l T l.length) i).1 (m.getD i default) (bab (ang hT))).swap 1000 902).swap 1001 901) ⟨u9,u9,trivial⟩ ?_;refine aq ?_;refine a8 _ rfl (fun r5=>?_) (fun r5=>?_)
   · have h5:=r5;have hch:=a1b r5;refine w_8 ?_;exact lpx (i + 1) ⟨⟨⟨_,rfl,(by rw [uv hil,a7v];first | exact cob (by rw [decide_eq_true hch];simp) | exact cob (by rw [decide_eq_false hch];simp))⟩,⟨_,rfl,(CoR.refl _)⟩,c9,c9,c9,c9,trivial⟩,⟨⟨_,rfl,(by rw [uv hil,a7v];exact CoO.refl _)⟩,⟨_,rfl,(by rw [uv hil,a7v];exact CoO.refl _)⟩,u9,trivial⟩⟩
   have h5:=r5;have hch:=a3w r5;refine w_6 ?_;exact lpx (i + 1) ⟨⟨⟨_,rfl,(by rw [uv hil,a7v];first | exact cob (by rw [decide_eq_true hch];simp) | exact cob (by rw [decide_eq_false hch];simp))⟩,⟨_,rfl,(CoR.refl _)⟩,c9,c9,c9,c9,trivial⟩,⟨⟨_,rfl,(by rw [uv hil,a7v];exact CoO.refl _)⟩,⟨_,rfl,(by rw [uv hil,a7v];exact CoO.refl _)⟩,u9,trivial⟩⟩
  obtain rfl:i = m.length:=by omega
  have hron:=bfb l m T;refine dp ?_;refine ⟨(f - 1,(nk l m T).1,(nk l m T).2), ?_, ?_, ?_⟩
  · exact hC2
  · exact b9n hf
  exact ⟨⟨⟨_,rfl,(by rw [<- hron];exact CoR.refl _)⟩,c9,c9,c9,c9,trivial⟩,⟨⟨_,rfl,(by rw [<- hron];exact CoO.refl _)⟩,⟨_,rfl,(by rw [<- hron];exact CoO.refl _)⟩,u9,trivial⟩⟩
 have h0:=r0;obtain rfl:ag = false:=r0;have hl:T = (chT l m (aa n &&& ~~~x)):=hC.f rfl;subst hl;refine w_6 ?_;refine acy 900 0 rfl rfl rfl rfl rfl ?_;exact hx8 rfl rfl rfl (⟨CoC.refl _,trivial⟩)
theorem ao0:goodFn Tryz.prog 207:=wgx Tryz.func207
theorem b3l (T:List AS):a7 Tryz.prog 207 [.agg [asl T]] (ae [pA (orL T)]):=by
 refine hpx (nt:=20) Tryz.func207 ?_;refine sx7 ?_;refine m9 0 ?_;refine w_8 ?_;refine b3q 0 0 rfl rfl fun hb=>?_;refine w_4 ?_;refine a6 (ι:=Nat) ⟨[(1,some _)],[(0,some _)]⟩ ⟨⟨c9,trivial⟩,⟨u9,trivial⟩⟩ (fun i=>⟨[(3,some (vA (orL (T.take i)))),(4,some (vI i))],[]⟩) (fun i=>i <= T.length) (fun i=>T.length - i) (0) (bkl _) ⟨⟨⟨_,rfl,(CoR.refl _)⟩,⟨_,rfl,(CoR.refl _)⟩,trivial⟩,trivial⟩ ?_;rintro i hi;refine w_9 ?_;refine hcd (fun h0=>?_) (fun h0=>?_)
 · refine ald ?_;exact lpx (i + 1) ⟨⟨⟨_,rfl,(bw ((bOr _ _).trans (congrArg asI (z7 bos).symm)))⟩,⟨_,rfl,(CoR.refl _)⟩,c9,trivial⟩,⟨u9,trivial⟩⟩
 obtain rfl:i = T.length:=by omega
 rw [show T.take T.length = T from bks];refine w_6 ?_;exact hx8 rfl rfl rfl (CoL.refl _)
theorem b9g:goodFn Tryz.prog 159:=wgx Tryz.func159
theorem axs (n:Int) (l m:List Fd) (x:AS):a7 Tryz.prog 159 [pI n,pP (fdl l),pP (fdl m),pA x] (ae [pA (aa n &&& ~~~(orL (chT l m (aa n &&& ~~~x))))]):=by
 refine hpx (nt:=18) Tryz.func159 ?_;refine w_7 ?_;refine qcx ol (oq n) ?_;refine w_4 ?_;refine qcx aoi (asu n l m x) ?_;refine qcx ao0 (b3l (chT l m (aa n &&& ~~~x))) ?_;refine w_3 ?_;exact hx8 rfl rfl rfl (⟨cci (go _ _),trivial⟩)
end
section
def a9l (a b:AS):Bool:=ux b a
def a1c (l:List AS):List AS:=a3z a9l l
def okM (l:List AS) (i k:Nat):Bool:=(List.range k).all fun j=>decide (j = i) || !ux (l.getD j default) (l.getD i default)
theorem b1q (l:List AS) (i k:Nat):okM l i (k + 1) = (okM l i k && (decide (k = i) || !ux (l.getD k default) (l.getD i default))):=by
 unfold okM;rw [bmg,List.all_append];simp
theorem okM_succ' (l:List AS) (i k:Nat):okM l i (k + 1) = (okM l i k && (decide ((k:Int) = i) || !ux (l.getD k default) (l.getD i default))):=by
 rw [b1q,decide_eq_decide.2 (show (k:Int) = i <-> k = i by omega)]
section
variable {l:List AS}
theorem anu {i:Nat} (hn:l.Nodup) (hi:i < l.length):okM l i l.length = !wt a9l l (l.getD i default):=by
 rw [bme];unfold okM wt a9l;rw [blo,blg,bmh];constructor
 · intro h b hb hc
   obtain ⟨j,hj,rfl⟩:=bla hb;have:=h j (bl0.2 hj);simp only [bkt,decide_eq_true_eq,bmf,blg,bkk,bkj hj,bkj hi,bli] at this hc
   rcases this with h1 | h1
   · subst h1;exact hc.1 rfl
   rw [hc.2] at h1;cases h1
 intro h j hj;have hj:=bl0.1 hj;have:=h l[j] (blh hj);simp only [bkk,bkj hj,bkj hi,bli,bmf,decide_eq_true_eq,blg,bkt] at this ⊢;by_cases e:j = i
 · exact .inl e
 right;rw [bkv];intro hs;refine this ⟨fun he=>e ?_,hs⟩;exact ((List.getElem_inj hn).1 he).symm
def qb (l:List AS) (i:Nat):List AS:=((ord l).take i).filter fun x=>!wt a9l (ord l) x
theorem a7s {i:Nat} (hi:i < (ord l).length) (h:okM (ord l) i (ord l).length = true):qb l (i + 1) = qb l i ++ [(ord l).getD i default]:=by
 rw [anu (a0b l) hi] at h;unfold qb;rw [ay hi,blz];simp only [blx,h,if_true,bmi]
theorem a7q {i:Nat} (hi:i < (ord l).length) (h:okM (ord l) i (ord l).length = false):qb l (i + 1) = qb l i:=by
 rw [anu (a0b l) hi] at h;unfold qb;rw [ay hi,blz];simp only [blx,h,bm2,if_false,bmi,blq]
theorem axf (l:List AS) (i:Nat):(qb l i).length <= i:=by
 unfold qb;exact bky (bmk _ _) (by rw [bku];omega)
theorem awo (l:List AS):qb l (ord l).length = a1c l:=by
 unfold qb a1c a3z;rw [bks]
theorem ajm {z:AS}:z ∈ a1c l <-> z ∈ l /\ ∀ b ∈ l,sub b z -> b = z:=by
 unfold a1c a3z;rw [bmo,n3,blg,bkv];refine and_congr Iff.rfl ?_;unfold wt a9l ux;rw [Ne,bll];constructor
 · intro h b hb hs
   apply Classical.byContradiction;intro hne;exact h ⟨b,n3.2 hb,by rw [bkt,decide_eq_true_eq,decide_eq_true_eq];exact ⟨fun e=>hne e.symm,hs⟩⟩
 rintro h ⟨b,hb,hc⟩;rw [bkt,decide_eq_true_eq,decide_eq_true_eq] at hc;exact hc.1 (h b (n3.1 hb) hc.2).symm
theorem b23 (l:List AS):qc (a1c l):=List.Pairwise.filter _ (jb l)
theorem b27 (l:List AS):(a1c l).length <= l.length:=bky (bmk _ _) (ln l)
def yq (rest L x:AS) (T:List AS) (y:AS):Bool:=!decide (y = 0) && (decide (y &&& ~~~rest = 0) && decide ((L &&& ~~~(x ||| y)) ∈ T))
def yL (rest L x:AS) (T:List AS) (k:Nat):List AS:=((List.range k).map (BitVec.ofNat 32)).filter (yq rest L x T)
end
section
variable {rest L x:AS} {T:List AS} {k:Nat}
theorem avy:yL rest L x T 1 = []:=by
 unfold yL;rw [show List.range 1 = [0] from rfl];simp only [bm4,bo7,blx,bmi];rw [if_neg];unfold yq;rw [decide_eq_true (show BitVec.ofNat 32 0 = 0 from rfl)];intro h;cases h
theorem ad0 (h:yq rest L x T (BitVec.ofNat 32 k) = true):yL rest L x T (k + 1) = yL rest L x T k ++ [BitVec.ofNat 32 k]:=by
 unfold yL;rw [bmg,bmw,blz];simp only [bm4,bo7,blx,bmi,h,if_true]
theorem ad3 (h:yq rest L x T (BitVec.ofNat 32 k) = false):yL rest L x T (k + 1) = yL rest L x T k:=by
 unfold yL;rw [bmg,bmw,blz];simp only [bm4,bo7,blx,bmi,h,bm2,if_false,blq]
theorem awm:(yL rest L x T k).length <= k:=by
 unfold yL;exact bky (bmk _ _) (by rw [bl7,bn2];exact bko _)
theorem bbh {z:AS}:z ∈ yL rest L x T (rest.toNat + 1) <-> qB T L x rest z:=by
 unfold yL yq qB;rw [bmo,blm,bkt,bkt,blg,decide_eq_false_iff_not,decide_eq_true_eq,decide_eq_true_eq];constructor
 · rintro ⟨_,h1,h2,h3⟩
   exact ⟨h1,h2,h3⟩
 rintro ⟨h1,h2,h3⟩;exact ⟨⟨z.toNat,bl0.2 (by have:=ac6 h2;omega),by simp⟩,h1,h2,h3⟩
end
theorem b58 (n:Int) (x:AS):(aa n &&& ~~~x) &&& x = 0:=gw.2 fun i hi h=>by
 rw [bg hi,bkt] at h;simpa using h.2
theorem aqb (n:Int) (l m:List Fd) (x:AS):a1c (yL (aa n &&& ~~~x) (orL (chT l m (aa n &&& ~~~x))) x (chT l m (aa n &&& ~~~x)) ((aa n &&& ~~~x).toNat + 1)) = d8 n l m x:=by
 obtain ⟨h1,h2⟩:=akh (fs:=l) (ms:=m) (rest:=aa n &&& ~~~x);refine avr (b23 _) fun z=>?_;rw [ajm,au7 aik (xv (fm l m) (aa n &&& ~~~x)).1 h1 h2 (b58 n x) z];simp only [bbh]
section
variable {a:Nat}
theorem b9a {b:AS} (h:bsz b = 1) (ha:b.getLsbD a = true):b = fp a:=by
 rw [sx] at h;have h1:a ∈ al b:=jg.2 ⟨yh ha,ha⟩
 cases hm:al b with
 | nil=>rw [hm] at h1;cases h1
 | cons c r =>
  rw [hm] at h h1;have hr:r = []:=List.length_eq_zero_iff.1 (by simpa using h);subst hr;have e:a = c:=by simpa using h1
  subst e;apply jh;intro i hi;rw [db (yh ha) hi]
  cases hb:b.getLsbD i with
  | true =>
   have:i ∈ al b:=jg.2 ⟨hi,hb⟩;rw [hm] at this;simpa using this
  | false =>
   symm;rw [decide_eq_false_iff_not];rintro rfl;rw [ha] at hb;cases hb
theorem aya (ha:a < 32):bsz (fp a) = 1:=by
 unfold bsz
 have e:(List.range 32).countP (fun i=>(fp a).getLsbD i) = (List.range 32).countP fun i=>decide (i = a):=by
  apply List.countP_congr;intro i hi;rw [bl0] at hi;rw [db ha hi]
 rw [e]
 have h2:∀ k,(List.range k).countP (fun i=>decide (i = a)) = if a < k then 1 else 0:=by
  intro k
  induction k with
  | zero=>simp
  | succ k ih =>
   rw [bmg,boh,ih];simp only [bn8,List.countP_nil];by_cases h:k = a
   · subst h
     simp
   have hd:¬ decide (k = a) = true:=fun q=>h (of_decide_eq_true q);rw [if_neg hd];by_cases h3:a < k
   · rw [if_pos h3,if_pos (show a < k + 1 by omega)]
   rw [if_neg h3,if_neg (show ¬ a < k + 1 by omega)]
 rw [h2,if_pos ha]
theorem ak4 {l:List Fd}:∀ {bs:List AS} {o:AS},(u6 l o bs).getLsbD a = true <-> o.getLsbD a = true \/ ∃ b ∈ bs,bsz b = 1 /\ l.any (yw b) = true /\ b.getLsbD a = true
 | [],o=>by simp [u6]
 | b :: bs,o=>by
  show (u6 l (vk l o b) bs).getLsbD a = true <-> _;rw [ak4];unfold vk;constructor
  · rintro (h | ⟨c,hc,h⟩)
    · split at h
      · split at h
        · rw [bm9,bmf] at h
          rcases h with h | h
          · exact .inl h
          exact .inr ⟨b,by simp,by assumption,by assumption,h⟩
        exact .inl h
      exact .inl h
    exact .inr ⟨c,by simp [hc],h⟩
  rintro (h | ⟨c,hc,h1,h2,h3⟩)
  · left
    split
    · split
      · rw [bm9,h];rfl
      exact h
    exact h
  rcases bkx.1 hc with rfl | hc
  · left
    rw [if_pos h1,if_pos h2,bm9,h3,Bool.or_true]
  exact .inr ⟨c,hc,h1,h2,h3⟩
theorem afm {f:Fd} (ha:a < 32):yw (fp a) f = true <-> f.rhs.getLsbD a = true /\ f.lhs.getLsbD a = false:=by
 unfold yw;rw [blg,decide_eq_false_iff_not];constructor
 · intro h
   obtain ⟨i,hi,h1,h2⟩:=zp h;rw [db ha hi] at h2;have e:i = a:=by simpa using h2
   subst e;rw [bg hi,bkt] at h1;exact ⟨h1.1,by simpa using h1.2⟩
 rintro ⟨h1,h2⟩ h;have:=gw.1 h a ha (by rw [bg ha,h1,h2];rfl);rw [db ha ha] at this;simp at this
theorem ut {n:Int} {l m:List Fd} {x:AS} (ha:a < 32):(nc n l m x).getLsbD a = true <-> x.getLsbD a = true \/ a41 l (blks (fm l m) (aa n &&& ~~~x)) a:=by
 unfold nc;rw [ak4];refine or_congr Iff.rfl ?_;unfold d8 a41;constructor
 · rintro ⟨b,hb,h1,h2,h3⟩
   have e:=b9a h1 h3;subst e;obtain ⟨f,hf,hc⟩:=bll.1 h2;exact ⟨n3.1 hb,f,hf,(afm ha).1 hc⟩
 rintro ⟨h1,f,hf,h2⟩;exact ⟨fp a,n3.2 h1,aya ha,bll.2 ⟨f,hf,(afm ha).2 h2⟩,by rw [db ha ha];simp⟩
theorem b15 {n:Int} {l m:List Fd} {x:AS} (hx:sub x (aa n)):aa n &&& ~~~(orL (chT l m (aa n &&& ~~~x))) = nc n l m x:=by
 obtain ⟨h1,h2⟩:=akh (fs:=l) (ms:=m) (rest:=aa n &&& ~~~x);have hf:=aik (fs:=l) (ms:=m) (rest:=aa n &&& ~~~x);obtain ⟨hb,hs⟩:=xv (fm l m) (aa n &&& ~~~x);have hr:=(hf.j.r _ h1).1;obtain ⟨L,q1,q2,q3⟩:=hf.j.top;have eL:orL (chT l m (aa n &&& ~~~x)) = L:=ec (q2 _ h1) (h2 _ q1);apply jh;intro a ha;rw [bg ha,bme,bkt,blg,ut ha];constructor
 · rintro ⟨p1,p2⟩
   cases hxa:x.getLsbD a with
   | true=>exact .inl rfl
   | false =>
    right;rw [eL] at p2;exact q3 a ha (by rw [bg ha,p1,hxa];rfl) p2
 rintro (p | p)
 · refine ⟨ai.1 hx a ha p, ?_⟩
   cases hl:(orL (chT l m (aa n &&& ~~~x))).getLsbD a with
   | false=>rfl
   | true =>
    have:=ai.1 hr a ha hl;rw [bg ha,p] at this;simp at this
 have p0:=p;obtain ⟨p1,_⟩:=p;have:=ai.1 (hb.sub p1) a ha (by rw [db ha ha];simp);rw [bg ha,bkt] at this;exact ⟨this.1,b0i hf hb h1 h2 ha p0⟩
end
end
section
def biy (l:List Fd) (p:AS) (k:Nat):List Fd:=(((List.range k).map (BitVec.ofNat 32)).filter fun s=>decide (sub s p)).map fun s=>⟨s,clo l s &&& p⟩
def bk4 (l:List Fd) (ps:List AS) (i:Nat):List Fd:=(ps.take i).flatMap fun p=>biy l p (p.toNat + 1)
def bk7 (a b:List Fd):Bool:=b.any fun f=>!imp a f
def bk3 (n:Int) (l:List Fd) (ps:List AS):Int:=if bj n l = 0 then lsC n ps l [] else bj n l
def bkd (n:Int) (l:List Fd) (ps:List AS):Bool:=decide (bj n l = 0) && (lsB n ps l [] && mo l ps && ps.all (oh l))
section
variable {n:Int} {l:List Fd} {ps:List AS}
theorem b5k (h0:0 <= n) (h8:n <= 8) {q:AS} (hq:sub q (aa n)):q.toNat < 65536:=by
 have h1:=ac6 hq;have h2:∀ k,k <= 8 -> (jw k).toNat < 65536:=by decide +kernel
 have h3:(aa n).toNat < 65536:=h2 (min n.toNat 32) bos;omega
theorem ah2 (h:lvE n ps = 0) {q:AS} (hq:q ∈ ps):q.toNat < 65536:=b5k (nr h).1 (nr h).2.1 (a5f h hq)
end
end
section
theorem abn (a b:Bs):bL (a ++ b) = bL a ++ bL b:=by simp [ByteArray.data_append]
def pkV (l:List Fd) (p s:AS):Bool:=!decide (p &&& ~~~(clo l s) = 0)
def pkL (l:List Fd) (p:AS):List AS:=a1c ((ax p).filter fun s=>!pkV l p s)
def aqn (ns:List Bs) (k:AS):List UInt8:=32 :: bL (txT ns k)
def nn (ns:List Bs) (ks:List AS) (i:Nat):List UInt8:=(ks.take i).flatMap (aqn ns)
def tv (ns:List Bs) (p:AS):List UInt8:=[112,97,114,116,32] ++ bL (txT ns p) ++ [32,107,101,121,115]
def a6e (ns:List Bs) (l:List Fd) (p:AS):List UInt8:=tv ns p ++ nn ns (pkL l p) (pkL l p).length ++ [10]
def fz (ns:List Bs) (l:List Fd) (ps:List AS) (i:Nat):List UInt8:=(ps.take i).flatMap (a6e ns l)
def a4t (ns:List Bs) (f:Fd):List UInt8:=[108,111,115,116,32] ++ bL (txT ns f.lhs) ++ [32,45,62,32] ++ bL (txT ns f.rhs) ++ [10]
def j9 (ns:List Bs) (l:List Fd) (ls:List Nat) (i:Nat):List UInt8:=(ls.take i).flatMap fun j=>a4t ns (l.getD j default)
def jo:List Bs:=[⟨#[108,111,115,115,108,101,115,115]⟩,⟨#[112,114,101,115,101,114,118,105,110,103]⟩,⟨#[116,104,105,114,100]⟩,⟨#[98,111,121,99,101]⟩,⟨#[102,111,117,114,116,104]⟩]
def ab4 (c:Int) (i:Nat):Bool:=decide (aw .and .i64 (c.fdiv (2 ^ (min i 64))) 1 = 1)
def a5p (c:Int) (i:Nat):List UInt8:=if ab4 c i = true then 32 :: bL (jo.getD i default) else []
def it (c:Int) (i:Nat):List UInt8:=(List.range i).flatMap (a5p c)
def ahj (ns:List Bs) (l:List Fd) (ps:List AS) (c:Int):List UInt8 :=
 fz ns l ps ps.length ++ j9 ns l (c6 l ps l.length) (c6 l ps l.length).length ++ [99,108,97,105,109,115] ++ it c 5 ++ [10]
section
variable {ns:List Bs} {l:List Fd} {ps:List AS} {c:Int} {i:Nat}
theorem a3i {α:Type} [Inhabited α] {f:α -> List UInt8} {q:List α} (h:i < q.length):(q.take (i + 1)).flatMap f = (q.take i).flatMap f ++ f (q.getD i default):=by
 rw [List.take_succ,bkj h,bob,bkk,bkj h];simp
theorem ams {ks:List AS} (h:i < ks.length):nn ns ks (i + 1) = nn ns ks i ++ aqn ns (ks.getD i default):=a3i h
theorem akc (h:i < ps.length):fz ns l ps (i + 1) = fz ns l ps i ++ a6e ns l (ps.getD i default):=a3i h
theorem am1 {ls:List Nat} (h:i < ls.length):j9 ns l ls (i + 1) = j9 ns l ls i ++ a4t ns (l.getD (ls.getD i default) default):=a3i h
theorem a4i:it c (i + 1) = it c i ++ a5p c i:=by
 unfold it;rw [bmg,bob];simp
theorem wh {α:Type} {f:α -> List UInt8} {K:Nat}:∀ {q:List α},(∀ x ∈ q,(f x).length <= K) -> (q.flatMap f).length <= K * q.length
 | [],_=>by simp
 | x :: q,h=>by
  have h1:=h x bow;have h2:=wh (q:=q) fun y hy=>h y (by simp [hy]);rw [bns,bkq,blf,Nat.mul_succ];omega
theorem a5w (h:∀ b ∈ ns,b.size <= 1000) (s:AS):(bL (txT ns s)).length <= 32033:=by
 have:=b6f (s:=s) h;rw [aao];omega
theorem a4y (h:∀ b ∈ ns,b.size <= 1000) {ks:List AS}:(nn ns ks i).length <= 32034 * ks.length:=by
 refine bky (wh (K:=32034) fun x _=>?_) (Nat.mul_le_mul_left _ (by rw [bku];omega));have:=a5w h x;show (bL _).length + 1 <= _;omega
theorem a6d (h:∀ b ∈ ns,b.size <= 1000) (p:AS):(tv ns p).length <= 32043:=by
 have:=a5w h p;unfold tv;simp only [bkq,blf,bms];omega
theorem abv {p:AS} (hp:p.toNat < 65536):(pkL l p).length <= 65537:=by
 unfold pkL;refine bky (b27 _) (bky (bmk _ _) ?_);unfold ax xn;have h1:=a52 (s:=p) (p.toNat + 1) p;have h2:=ln (a04 p (p.toNat + 1) p);split
 · simp
 omega
theorem auk (h:∀ b ∈ ns,b.size <= 1000) {p:AS} (hp:p.toNat < 65536):(a6e ns l p).length <= 2100000000:=by
 have h1:=a4y (i:=(pkL l p).length) (ks:=pkL l p) h;have h2:=a6d h p;have h3:=abv (l:=l) hp;unfold a6e;simp only [bkq,blf,bms];omega
theorem aq5 (h:∀ b ∈ ns,b.size <= 1000) (hp:∀ p ∈ ps,p.toNat < 65536) (h64:ps.length <= 64):(fz ns l ps i).length <= 134400000000:=by
 have h1:(fz ns l ps i).length <= 2100000000 * (ps.take i).length:=wh (K:=2100000000) fun x hx=>auk h (hp x (bne hx));rw [bku] at h1;omega
theorem aw9 (h:∀ b ∈ ns,b.size <= 1000) (f:Fd):(a4t ns f).length <= 64100:=by
 have h1:=a5w h f.lhs;have h2:=a5w h f.rhs;unfold a4t;simp only [bkq,blf,bms];omega
theorem aq3 (h:∀ b ∈ ns,b.size <= 1000) {ls:List Nat} (hl:ls.length <= 64):(j9 ns l ls i).length <= 4102400:=by
 have h1:(j9 ns l ls i).length <= 64100 * (ls.take i).length:=wh (K:=64100) fun x _=>aw9 h _;rw [bku] at h1;omega
theorem a92 (h:i <= 5):(it c i).length <= 100:=by
 have h1:(it c i).length <= 20 * (List.range i).length:=wh (K:=20) fun x hx=>by
  unfold a5p;split
  · have hx:=bl0.1 hx
    have:(bL (jo.getD x default)).length <= 10:=by
     match x,hx with
     | 0,_=>decide
     | 1,_=>decide
     | 2,_=>decide
     | 3,_=>decide
     | 4,_=>decide
     | n + 5,hx=>omega
    show _ + 1 <= _;omega
  exact bkl _
 rw [bn2] at h1;omega
theorem b46 {s:AS} {n:Nat} (h8:n <= 16) (h:sub s (aa n)) {i:Nat} (hi:i ∈ al s):i < n:=by
 obtain ⟨h32,hb⟩:=jg.1 hi;have:=ai.1 h i h32 hb
 have hn:¬ n <= i:=fun hle=>by
  have h2:=(a3u (s:=aa n) (n:=(n:Int)) bos bos).1 (sub_self _);have h3:=congrArg (fun x:AS=>x.getLsbD (i - n)) h2;simp only [bkw,bnh,show n + (i - n) = i by omega,this] at h3;simp at h3
 omega
theorem b9s {j:Nat} (h:j < (c6 l ps l.length).length):(c6 l ps l.length).getD j default < l.length:=by
 have hm:(c6 l ps l.length).getD j default ∈ c6 l ps l.length:=dt h;exact bl0.1 (bmo.1 hm).1
theorem ajp:(c6 l ps l.length).length <= l.length:=by
 refine bky (bmk _ _) ?_;rw [bn2];exact bko _
end
end
section
def ud (ns:List Bs) (l m:List Fd) (ps:List AS):Int:=if mj ns = 0 then (if lvE ns.length ps = 0 then c8 ns.length l m else lvE ns.length ps) else mj ns
def aeq (ns:List Bs) (l m:List Fd) (ps:List AS) (c:Int):Bs:=if ud ns l m ps = 0 then bOf (ahj ns l ps c) else ⟨#[]⟩
section
variable {ns:List Bs} {l m:List Fd} {ps:List AS} {c:Int} {X:List UInt8}
theorem bcs (h:¬ mj ns = 0):ud ns l m ps = mj ns /\ aeq ns l m ps c = ⟨#[]⟩:=by
 have e:ud ns l m ps = mj ns:=if_neg h;exact ⟨e,if_neg (by rw [e];exact h)⟩
theorem be7 (h:mj ns = 0) (h2:¬ lvE ns.length ps = 0):ud ns l m ps = lvE ns.length ps /\ aeq ns l m ps c = ⟨#[]⟩:=by
 have e:ud ns l m ps = lvE ns.length ps:=by unfold ud;rw [if_pos h,if_neg h2]
 exact ⟨e,if_neg (by rw [e];exact h2)⟩
theorem bbu (h:mj ns = 0) (h2:lvE ns.length ps = 0) (h3:¬ c8 ns.length l m = 0):ud ns l m ps = c8 ns.length l m /\ aeq ns l m ps c = ⟨#[]⟩:=by
 have e:ud ns l m ps = c8 ns.length l m:=by unfold ud;rw [if_pos h,if_pos h2]
 exact ⟨e,if_neg (by rw [e];exact h3)⟩
theorem bcz (h:mj ns = 0) (h2:lvE ns.length ps = 0) (h3:c8 ns.length l m = 0):ud ns l m ps = 0 /\ aeq ns l m ps c = bOf (ahj ns l ps c):=by
 have e:ud ns l m ps = 0:=by unfold ud;rw [if_pos h,if_pos h2,h3]
 exact ⟨e,if_pos e⟩
theorem bct {p k:AS} (h:k ∈ pkL l p):sub k p:=by
 have h1:=(ajm.1 h).1;have h2:=(bmo.1 h1).1;unfold ax at h2;split at h2
 · cases h2
 exact ta.1 h2
theorem szA (a b:Bs):(a ++ b).size = a.size + b.size:=ByteArray.size_append
theorem bh4 (h:∀ b ∈ ns,b.size <= 1000) (s:AS):(txT ns s).size <= 32033:=a5w h s
theorem b4f {p:AS} {ks:List AS}:X ++ bL ((⟨#[112,97,114,116,32]⟩ ++ txT ns p) ++ ⟨#[32,107,101,121,115]⟩) = X ++ tv ns p ++ nn ns ks 0:=by
 simp [abn,tv,nn]
theorem bbr {ks:List AS} {k:Nat} (h:k < ks.length):(X ++ nn ns ks k) ++ bL (⟨#[32]⟩ ++ txT ns (ks.getD k default)) = X ++ nn ns ks (k + 1):=by
 rw [ams h];simp [abn,aqn]
section
variable {i:Nat}
theorem b5o (h:i < ps.length):(fz ns l ps i ++ tv ns (ps.getD i default) ++ nn ns (pkL l (ps.getD i default)) (pkL l (ps.getD i default)).length) ++ bL ⟨#[10]⟩ = fz ns l ps (i + 1):=by
 rw [akc h];simp [a6e]
theorem b8g {ls:List Nat} {j:Nat} (h:j < ls.length) (f:Fd) (hf:f = l.getD (ls.getD j default) default) :
 (X ++ j9 ns l ls j) ++ bL ((((⟨#[108,111,115,116,32]⟩ ++ txT ns f.lhs) ++ ⟨#[32,45,62,32]⟩) ++ txT ns f.rhs) ++ ⟨#[10]⟩) = X ++ j9 ns l ls (j + 1):=by
 subst hf;rw [am1 h];simp [abn,a4t]
theorem avv (h:ab4 c i = true):(X ++ it c i) ++ bL (⟨#[32]⟩ ++ jo.getD i default) = X ++ it c (i + 1):=by
 rw [a4i];unfold a5p;rw [if_pos h];simp [abn]
theorem aw2 (h:ab4 c i = false):X ++ it c i = X ++ it c (i + 1):=by
 rw [a4i];unfold a5p;rw [if_neg (by rw [h];exact boe),blq]
theorem b1l {f:Nat -> Nat -> PV} (hi:i < 5) (h0:f 0 0 = bsC (jo.getD 0 default) 0) (h1:f 1 0 = bsC (jo.getD 1 default) 0) (h2:f 2 0 = bsC (jo.getD 2 default) 0) (h3:f 3 0 = bsC (jo.getD 3 default) 0) (h4:f 4 0 = bsC (jo.getD 4 default) 0):f i 0 = bsC (jo.getD i default) 0:=by
 match i,hi with
 | 0,_=>exact h0
 | 1,_=>exact h1
 | 2,_=>exact h2
 | 3,_=>exact h3
 | 4,_=>exact h4
theorem am8 (hi:i < 5):(jo.getD i default).size <= 10:=by
 match i,hi with
 | 0,_=>decide
 | 1,_=>decide
 | 2,_=>decide
 | 3,_=>decide
 | 4,_=>decide
end
end
end
section
section
variable {n:Int} {ps:List AS} {p m l:List Fd}
abbrev tb0 (n:Int) (ps:List AS):List Rw:=ar (bm n ps)
abbrev trS (n:Int) (ps:List AS) (p m:List Fd):List St:=(lsT n ps p m).1
abbrev trT (n:Int) (ps:List AS) (p m:List Fd) (i:Nat):List Rw:=(trL n p m (tb0 n ps) (trS n ps p m)).getD i default
theorem bce (h:¬ lsC n ps p m = 0):prS n ps p m = [] /\ prC n ps p m = lsC n ps p m:=by
 have hc:(rcR n ps p m).2.2 = lsC n ps p m:=yk;unfold prS prC;rw [hc,if_neg h,if_neg h];exact ⟨rfl,rfl⟩
theorem aa2 (hls:lsC n ps p m = 0) {i:Nat} (hi:i <= (trS n ps p m).length) (hI:∀ j,j < i -> mw n (trT n ps p m j) = false) (h:mw n (trT n ps p m i) = true):prS n ps p m = (trS n ps p m).take i /\ prC n ps p m = 0:=by
 have hq:=a6s hls;have hi':i <= (lsT n ps p m).1.length:=hi;have hc:(rcR n ps p m).2.2 = 0:=by rw [hq]
 have hx:prX n ps p m = (i:Int):=by
  unfold prX;rw [hq];refine rp (p:=fun a:Int × List Rw=>mw n a.2) (i:=i) (by show i < (j4 n p m _ _).length;rw [z6];omega) (fun j hj=>?_) ?_
  · show mw n ((j4 n p m _ _).getD j default).2 = false
    rw [a6n bos];exact hI j hj
  show mw n ((j4 n p m _ _).getD i default).2 = true;rw [a6n bos];exact h
 unfold prS prC;rw [if_pos hc,if_pos hc,hx,if_neg bos,if_neg bos,hq];exact ⟨rfl,rfl⟩
theorem b81 (hls:lsC n ps p m = 0) (hI:∀ j,j < (trS n ps p m).length + 1 -> mw n (trT n ps p m j) = false):prS n ps p m = [] /\ prC n ps p m = 11:=by
 have hq:=a6s hls;have hc:(rcR n ps p m).2.2 = 0:=by rw [hq]
 have hx:prX n ps p m = -1:=by
  unfold prX;rw [hq];refine rr (p:=fun a:Int × List Rw=>mw n a.2) fun j hj=>?_;have hj:j < (j4 n p m (ar (bm n ps)) (lsT n ps p m).1).length:=hj;rw [z6] at hj;show mw n ((j4 n p m _ _).getD j default).2 = false;rw [a6n bos];exact hI j hj
 unfold prS prC;rw [if_pos hc,if_pos hc,hx,if_pos bos,if_pos bos];exact ⟨rfl,rfl⟩
theorem bfl (hls:lsC n ps p m = 0) (hb:lsB n ps p m = true):prC n ps p m = 0:=by
 obtain ⟨hv,hbe⟩:=tk hls;have hc:(lsT n ps p m).2.2 = 0:=(aat hv hbe).symm.trans hls;obtain ⟨sts,lend,e,htr,_,hif⟩:=ahv hv hbe hc
 have hin:dc n ∈ lend:=by
  unfold lsB at hb;rw [bkt,e] at hb;obtain ⟨r,hr,he⟩:=bll.1 hb.2;rw [<- of_decide_eq_true he];exact hr
 obtain ⟨t,ht,hf⟩:=hif.2 hin;apply Classical.byContradiction;intro hne;have hs:trS n ps p m = sts:=by show (lsT n ps p m).1 = sts;rw [e]
 have hall:∀ j,j < (trS n ps p m).length + 1 -> mw n (trT n ps p m j) = false:=by
  apply Classical.byContradiction;intro hno
  have:∃ j,j < (trS n ps p m).length + 1 /\ mw n (trT n ps p m j) = true:=by
   apply Classical.byContradiction;intro hno2;exact hno fun j hj=>bkv.2 fun h=>hno2 ⟨j,hj,h⟩
  obtain ⟨j,hj,hjt⟩:=this
  have key:∀ k,k <= j -> (∀ i,i < k -> mw n (trT n ps p m i) = false) \/ prC n ps p m = 0:=by
   intro k
   induction k with
   | zero=>exact fun _=>.inl fun i hi=>absurd hi (bkp i)
   | succ k ih =>
    intro hk
    rcases ih bos with h | h
    · rcases Bool.eq_false_or_eq_true (mw n (trT n ps p m k)) with hb2 | hb2
      · exact .inr (aa2 hls (i:=k) bos h hb2).2
      refine .inl fun i hi=>?_;by_cases hik:i = k
      · rw [hik];exact hb2
      exact h i bos
    exact .inr h
  rcases key j (bko j) with h | h
  · exact hne (aa2 hls (i:=j) bos h hjt).2
  exact hne h
 obtain ⟨k,hk,he⟩:=bla ht;rw [a1s] at hk;have h1:=hall k (by rw [hs];exact hk)
 have h2:trT n ps p m k = t:=by
  show (trL n p m (tb0 n ps) (trS n ps p m)).getD k default = t;rw [hs,bkk,bkj (by rw [a1s];exact hk),<- he];rfl
 rw [h2] at h1;have:mw n t = true:=bll.2 ⟨dc n,hf,decide_eq_true rfl⟩;rw [this] at h1;cases h1
def thB (n:Int) (l:List Fd) (p:AS):Bool:=p6 n l p && decide (x8 n l p = 0)
def byB (l:List Fd) (p:AS):Bool:=!uc l p && decide (oz l p = 0)
def foB (n:Int) (l m:List Fd) (p:AS):Bool:=!(a5r n l m p).2 && decide (ck4 n l m p = 0)
def lb (a b c d:Bool):Int:=(bif a then 2 else 0) + ((bif b then 4 else 0) + ((bif c then 8 else 0) + (bif d then 16 else 0)))
def w5 (n:Int) (l m:List Fd) (ps:List AS):Int:=lb (mo l ps) (ps.all (thB n l)) (ps.all (byB l)) (ps.all (foB n l m))
def jz (n:Int) (l m:List Fd) (ps:List AS):Int:=if lsC n ps l m = 0 then w5 n l m ps + (bif lsB n ps l m then 1 else 0) else 0
theorem aqy (h:¬ lsC n ps l m = 0):jz n l m ps = 0:=if_neg h
theorem bfz (h:lsC n ps l m = 0) (hb:lsB n ps l m = true):jz n l m ps = aw .or .i64 (w5 n l m ps) 1:=by
 unfold jz;rw [if_pos h,hb];unfold w5;generalize mo l ps = a;generalize ps.all (thB n l) = b;generalize ps.all (byB l) = c;generalize ps.all (foB n l m) = d;cases a <;> cases b <;> cases c <;> cases d <;> decide
theorem bgu (h:lsC n ps l m = 0) (hb:lsB n ps l m = false):jz n l m ps = w5 n l m ps:=by
 unfold jz;rw [if_pos h,hb];exact Int.add_zero _
theorem b9d (h:lsC n ps l m = 0):decide (aw .and .i64 (jz n l m ps) 1 = 0) = !lsB n ps l m:=by
 unfold jz;rw [if_pos h];unfold w5;generalize mo l ps = a;generalize ps.all (thB n l) = b;generalize ps.all (byB l) = c;generalize ps.all (foB n l m) = d;generalize lsB n ps l m = e;cases a <;> cases b <;> cases c <;> cases d <;> cases e <;> decide
section
variable {a:Bool}
theorem au5 (h:a = true):aw .or .i64 0 2 = lb a false false false:=by rw [h];decide
theorem awk {b:Bool} (h:b = true):aw .or .i64 (lb a false false false) 4 = lb a b false false:=by rw [h];cases a <;> decide
theorem aue {b c:Bool} (h:c = true):aw .or .i64 (lb a b false false) 8 = lb a b c false:=by rw [h];cases a <;> cases b <;> decide
theorem aww {b c d:Bool} (h:d = true):aw .or .i64 (lb a b c false) 16 = lb a b c d:=by rw [h];cases a <;> cases b <;> cases c <;> decide
abbrev Dsg:=List AS × Int × List St
abbrev dsn (d:Dsg):PC:=.agg [asl d.1, .raw (.int .i64 d.2.1),stl d.2.2]
def fuD (n:Int) (l m:List Fd) (ps:List AS):Dsg:=if lsC n ps l m = 0 then (ps,jz n l m ps,if lsB n ps l m = true then prS n ps l m else []) else ([],0,[])
theorem bhb (h:¬ lsC n ps l m = 0):fuD n l m ps = ([],0,[]):=if_neg h
theorem bib (h:lsC n ps l m = 0) (hb:lsB n ps l m = true):fuD n l m ps = (ps,jz n l m ps,prS n ps l m):=by unfold fuD;rw [if_pos h,if_pos hb]
theorem biv (h:lsC n ps l m = 0) (hb:lsB n ps l m = false):fuD n l m ps = (ps,jz n l m ps,[]):=by unfold fuD;rw [if_pos h,if_neg (by rw [hb];exact boe)]
def vl (n:Int) (l m:List Fd):Int:=if n < 0 \/ 8 < n then 7 else c8 n l m
def lw (n:Int) (l m:List Fd) (f:Int):List AS × Int:=if f = 3 then (a6k n l,bj n l) else if f = 4 then (ail n l,gp n l 8) else if f = 5 then (bhh n l m,ck4 n l m 0) else ([],1)
theorem bi1 {f:Int} (h:f = 3):lw n l m f = (a6k n l,bj n l):=if_pos h
theorem biq {f:Int} (h:¬ f = 3) (h2:f = 4):lw n l m f = (ail n l,gp n l 8):=by unfold lw;rw [if_neg h,if_pos h2]
theorem bie {f:Int} (h:¬ f = 3) (h2:¬ f = 4) (h3:¬ f = 5):lw n l m f = ([],1):=by unfold lw;rw [if_neg h,if_neg h2,if_neg h3]
def goD (n:Int) (l m:List Fd) (q:List AS × Int):Dsg:=if vl n l m = 0 then (if q.2 = 0 then fuD n l m q.1 else ([],0,[])) else ([],0,[])
def goE (n:Int) (l m:List Fd) (q:List AS × Int):Int:=if vl n l m = 0 then (if q.2 = 0 then lsC n q.1 l m else q.2) else vl n l m
variable {q:List AS × Int}
theorem bbg (h:¬ vl n l m = 0):goD n l m q = ([],0,[]) /\ goE n l m q = vl n l m:=⟨if_neg h,if_neg h⟩
theorem bdg (h:vl n l m = 0) (h2:¬ q.2 = 0):goD n l m q = ([],0,[]) /\ goE n l m q = q.2:=by
 unfold goD goE;rw [if_pos h,if_neg h2,if_pos h,if_neg h2];exact ⟨rfl,rfl⟩
theorem bb2 (h:vl n l m = 0) (h2:q.2 = 0):goD n l m q = fuD n l m q.1 /\ goE n l m q = lsC n q.1 l m:=by
 unfold goD goE;rw [if_pos h,if_pos h2,if_pos h,if_pos h2];exact ⟨rfl,rfl⟩
def ot (n:Int) (l:List Fd):List AS × Int:=if gp n l 8 = 0 then (if vu n l = true then (a0d n l,0) else (a6k n l,bj n l)) else (a0d n l,gp n l 8)
theorem bj4 (h:¬ gp n l 8 = 0):ot n l = (a0d n l,gp n l 8):=if_neg h
theorem bj0 (h:gp n l 8 = 0) (h2:vu n l = true):ot n l = (a0d n l,gp n l 8):=by unfold ot;rw [if_pos h,if_pos h2,h]
theorem bht (h:gp n l 8 = 0) (h2:vu n l = false):ot n l = (a6k n l,bj n l):=by unfold ot;rw [if_pos h,if_neg (by rw [h2];exact boe)]
theorem b3u (h:n < 0 \/ 8 < n):vl n l m = 7:=if_pos h
theorem bh2 (h:¬ (n < 0 \/ 8 < n)):vl n l m = c8 n l m:=if_neg h
end
end
end
section
section
variable {n:Int} {l m:List Fd} {ps:List AS} {p x:AS}
theorem awp {q:Fd}:q ∈ fm l [] <-> ∃ f ∈ l,∃ a,a < 32 /\ f.rhs.getLsbD a = true /\ q = ⟨f.lhs,fp a⟩:=by
 rw [a0f];simp
theorem b2g (hb:bsz p <= 12) (h:dm l p = false):oh l p = true:=acv fun x hx=>by
 by_cases h1:clo l x &&& p = x
 · unfold nj
   rw [h1];have:x &&& ~~~x = 0:=by simp
   rw [this];simp
 by_cases h2:clo l x &&& p = p
 · exact a2p (by unfold lc;exact decide_eq_true (apv.2 (by rw [BitVec.and_comm];exact h2)))
 have:dm l p = true:=(ag5 hb).2 ⟨x,hx,by unfold n4;rw [decide_eq_true h1,decide_eq_true h2];rfl⟩;rw [h] at this;cases this
theorem aoa (hu:∀ f ∈ l,sub f.lhs (aa n) /\ sub f.rhs (aa n)) (hx:sub x (aa n)) {b:AS} (hb:b ∈ blks (fm l []) (aa n &&& ~~~x)) :
 sub b (clo l x) \/ sub ((aa n &&& ~~~x) &&& ~~~(clo l x)) b:=by
 refine (xv (fm l []) (aa n &&& ~~~x)).1.ind (fun b=>sub b (clo l x) \/ sub ((aa n &&& ~~~x) &&& ~~~(clo l x)) b) (.inr (ai.2 fun i hi h=>?_)) (fun q hq b h hs=>?_) b hb
 · rw [bg hi,bkt] at h
   exact h.1
 obtain ⟨f,hf,a,ha,hra,rfl⟩:=awp.1 hq;obtain ⟨s1,s2,s3⟩:=n9.1 hs
 rcases h with h | h
 · refine ⟨.inl (ai.2 fun i hi hbi=>?_), .inl (ai.2 fun i hi hbi=>?_)⟩
   · rw [bkz,bkt] at hbi
     exact ai.1 h i hi hbi.1
   rw [bg hi,bkt] at hbi;exact ai.1 h i hi hbi.1
 have hL:sub f.lhs (clo l x):=ai.2 fun i hi hl=>by
  cases hc:(clo l x).getLsbD i with
  | true=>rfl
  | false =>
   have hxi:x.getLsbD i = false:=by
    cases hxi:x.getLsbD i with
    | false=>rfl
    | true=>rw [ai.1 (qt (l:=l)) i hi hxi] at hc;cases hc
   have hb':=ai.1 h i hi (by rw [bg hi,bg hi,ai.1 (hu f hf).1 i hi hl,hxi,hc];rfl);have:=gw.1 s1 i hi hb';rw [this] at hl;cases hl
 have haC:(clo l x).getLsbD a = true:=ai.1 (ub f hf hL) a ha hra;refine ⟨.inl (ai.2 fun i hi hbi=>?_), .inr (ai.2 fun i hi hbi=>?_)⟩
 · rw [bkz,bkt] at hbi
   have e:=hbi.2;rw [db ha hi,decide_eq_true_iff] at e;rw [e];exact haC
 have h1:=ai.1 h i hi hbi;rw [bg hi,h1,bmt,blg];rw [db ha hi,decide_eq_false_iff_not];rintro rfl;rw [bg hi,bkt,haC] at hbi;simp at hbi
theorem ayz (hu:∀ f ∈ l,sub f.lhs (aa n) /\ sub f.rhs (aa n)) (hx:sub x (aa n)) {a:Nat} (ha:a < 32) (h:a41 l (blks (fm l []) (aa n &&& ~~~x)) a):(clo l x).getLsbD a = true:=by
 obtain ⟨h1,f,hf,h2,h3⟩:=h;have hsa:(fp a).getLsbD a = true:=by rw [db ha ha];simp
 rcases aoa hu hx h1 with h | h
 · exact ai.1 h a ha hsa
 cases hc:(clo l x).getLsbD a with
 | true=>rfl
 | false =>
  have hL:sub f.lhs (clo l x):=ai.2 fun i hi hl=>by
   cases hci:(clo l x).getLsbD i with
   | true=>rfl
   | false =>
    have hxi:x.getLsbD i = false:=by
     cases hxi:x.getLsbD i with
     | false=>rfl
     | true=>rw [ai.1 (qt (l:=l)) i hi hxi] at hci;cases hci
    have hb':=ai.1 h i hi (by rw [bg hi,bg hi,ai.1 (hu f hf).1 i hi hl,hxi,hci];rfl);rw [db ha hi,decide_eq_true_iff] at hb';subst hb';rw [hl] at h3;cases h3
  rw [ai.1 (ub f hf hL) a ha h2] at hc;cases hc
theorem b9i (hu:∀ f ∈ l,sub f.lhs (aa n) /\ sub f.rhs (aa n)) (hx:sub x (aa n)):nc n l [] x = clo l x:=by
 obtain ⟨hbk,hsp⟩:=xv (fm l []) (aa n &&& ~~~x);refine ec (ai.2 fun a ha h=>?_) (a00 (fun f hf hl=>ai.2 fun a ha hr=>(ut ha).2 ?_) (ai.2 fun a ha h=>(ut ha).2 (.inl h)))
 · rcases (ut ha).1 h with h | h
   · exact ai.1 qt a ha h
   exact ayz hu hx ha h
 by_cases hla:f.lhs.getLsbD a = true
 · exact (ut ha).1 (ai.1 hl a ha hla)
 by_cases hxa:x.getLsbD a = true
 · exact .inl hxa
 right;have hla:f.lhs.getLsbD a = false:=by simpa using hla
 have hxa:x.getLsbD a = false:=by simpa using hxa
 obtain ⟨b,hb,hba⟩:=hbk.cov (a:=a) (by rw [bg ha,ai.1 (hu f hf).2 a ha hr,hxa];rfl);have hn:=hsp ⟨f.lhs,fp a⟩ (awp.2 ⟨f,hf,a,ha,hr,rfl⟩) b hb;have hsa:(fp a).getLsbD a = true:=by rw [db ha ha];simp
 by_cases hz:b &&& f.lhs = 0
 · have hs:sub b (fp a):=by
    apply Classical.byContradiction;intro hc
    have:dw ⟨f.lhs,fp a⟩ b = true:=n9.2 ⟨hz,(fun e=>by
     have:=gw.1 (show b &&& fp a = 0 from e) a ha hba;rw [hsa] at this
     cases this),hc⟩
    rw [hn] at this;cases this
   have e:=aia ha hs hba;exact ⟨by rw [<- e];exact hb,f,hf,hr,hla⟩
 obtain ⟨c,hc,hbc,hlc⟩:=zp hz
 rcases (ut hc).1 (ai.1 hl c hc hlc) with hxc | ⟨hd,_⟩
 · have:=ai.1 (hbk.sub hb) c hc hbc
   rw [bg hc,hxc] at this;simp at this
 have hsc:(fp c).getLsbD c = true:=by rw [db hc hc];simp
 have e:=hbk.one hb hd hbc hsc;rw [e,db hc ha,decide_eq_true_iff] at hba;subst hba;rw [hlc] at hla;cases hla
theorem b7q {L:List AS} {c d:AS} (hc:c ∈ L) (hd:d ∈ L) (h:c ≠ d):1 < L.length:=by
 match L with
 | []=>cases hc
 | [y] =>
  rw [bl3] at hc hd;exact absurd (hc.trans hd.symm) h
 | _ :: _ :: t=>simp
theorem b5e {L:List AS} (hnd:L.Nodup) (h:1 < L.length):∃ c ∈ L,∃ d ∈ L,c ≠ d:=by
 match L with
 | []=>simp at h
 | [y]=>simp at h
 | c :: d :: t =>
  refine ⟨c,by simp,d,by simp, ?_⟩;rintro rfl;simp at hnd
theorem bc0 (hu:∀ f ∈ l,sub f.lhs (aa n) /\ sub f.rhs (aa n)) (hp:sub p (aa n)) (hb:bsz p <= 12):vBo (j1 n l []) p = dm l p:=by
 have key:vBo (j1 n l []) p = true <-> ∃ x,sub x p /\ ¬ p &&& ~~~(nc n l [] x) = 0 /\ 1 < (l5 n l [] x p).length:=by
  unfold vBo;constructor
  · intro h
    cases hv:j1 n l [] p with
    | none=>rw [hv] at h;cases h
    | some v =>
     unfold j1 at hv;obtain ⟨x,hx,hv⟩:=bnm hv;refine ⟨x,a6i hx, ?_⟩;unfold a0y at hv;split at hv
     · cases hv
     split at hv
     · exact ⟨by assumption,by assumption⟩
     cases hv
  rintro ⟨x,hx,h1,h2⟩
  cases hv:j1 n l [] p with
  | some v=>rfl
  | none =>
   unfold j1 at hv;rw [bmx] at hv;have:=hv x (by unfold ax;rw [if_neg bos];exact ta.2 hx);unfold a0y at this;rw [if_neg h1,if_pos h2] at this;cases this
 rw [bme,key,ag5 hb];refine exists_congr fun x=>and_congr_right fun hxp=>?_;have hx:sub x (aa n):=gk hxp hp;obtain ⟨hbk,hsp⟩:=xv (fm l []) (aa n &&& ~~~x);have hcls:=b9i hu hx;rw [hcls];have hbits:∀ (Q:AS -> Prop),True:=fun _=>trivial;unfold n4;rw [bkt,decide_eq_true_iff,decide_eq_true_iff];constructor
 · rintro ⟨h1,h2⟩
   obtain ⟨a,ha,hpa,hca⟩:=a57 h1 |>.elim fun a h=>(⟨a,h.1,by rw [bg h.1,bkt] at h;exact h.2.1,by rw [bg h.1,bkt] at h;simpa using h.2.2⟩:∃ a,a < 32 /\ p.getLsbD a = true /\ (clo l x).getLsbD a = false)
   refine ⟨fun e=>?_,fun e=>?_⟩
   · obtain ⟨c,hc,d,hd,hne⟩:=b5e (by unfold l5;exact a0b _) h2
     obtain ⟨b0,hb0,hz0,rfl⟩:=a49.1 hc;obtain ⟨b1,hb1,hz1,rfl⟩:=a49.1 hd
     have no:∀ b,b ∈ blks (fm l []) (aa n &&& ~~~x) -> b &&& p ≠ 0 -> ¬ sub b (clo l x):=fun b hb hz hs=>by
      obtain ⟨i,hi,g1,g2⟩:=zp hz;have g3:=ai.1 (hbk.sub hb) i hi g1;rw [bg hi,bkt] at g3;have g4:=congrArg (fun z:AS=>z.getLsbD i) e;simp only [bkz,ai.1 hs i hi g1,g2] at g4;rw [<- g4] at g3;simp at g3
     have haR:((aa n &&& ~~~x) &&& ~~~(clo l x)).getLsbD a = true:=by
      rw [bg ha,bg ha,ai.1 hp a ha hpa,hca]
      cases hxa:x.getLsbD a with
      | false=>rfl
      | true=>rw [ai.1 (qt (l:=l)) a ha hxa] at hca;cases hca
     have yes:∀ b,b ∈ blks (fm l []) (aa n &&& ~~~x) -> b &&& p ≠ 0 -> b.getLsbD a = true:=fun b hb hz=>by
      rcases aoa hu hx hb with h | h
      · exact absurd h (no b hb hz)
      exact ai.1 h a ha haR
     exact hne (by rw [hbk.one hb0 hb1 (yes _ hb0 hz0) (yes _ hb1 hz1)])
   have:=congrArg (fun z:AS=>z.getLsbD a) e;simp only [bkz,hca,hpa] at this;simp at this
 rintro ⟨h1,h2⟩
 have hz:¬ p &&& ~~~(clo l x) = 0:=fun e=>h2 (jh fun i hi=>by
  have:=congrArg (fun z:AS=>z.getLsbD i) e;simp only [bg hi] at this;rw [bkz]
  cases hpi:p.getLsbD i with
  | false=>simp
  | true=>rw [hpi] at this;cases hci:(clo l x).getLsbD i with
   | true=>rfl
   | false=>rw [hci] at this;simp at this)
 refine ⟨hz, ?_⟩;obtain ⟨a,ha,hpa⟩:=a57 hz;rw [bg ha,bkt,blg] at hpa;obtain ⟨hpa,hca⟩:=hpa
 have:∃ e,e < 32 /\ p.getLsbD e = true /\ (clo l x).getLsbD e = true /\ x.getLsbD e = false:=by
  apply Classical.byContradiction;intro hn;refine h1 (jh fun i hi=>?_);rw [bkz]
  cases hxi:x.getLsbD i with
  | true=>rw [ai.1 (qt (l:=l)) i hi hxi,ai.1 hxp i hi hxi];rfl
  | false =>
   cases hci:(clo l x).getLsbD i with
   | false=>rfl
   | true =>
    cases hpi:p.getLsbD i with
    | false=>rfl
    | true=>exact absurd ⟨i,hi,hpi,hci,hxi⟩ hn
 obtain ⟨e,he,hpe,hce,hxe⟩:=this
 have hd:a41 l (blks (fm l []) (aa n &&& ~~~x)) e:=by
  rcases (ut (n:=n) (l:=l) (m:=[]) (x:=x) he).1 (by rw [hcls];exact hce) with h | h
  · rw [hxe] at h;cases h
  exact h
 have hse:(fp e).getLsbD e = true:=by rw [db he he];simp
 have hxa:x.getLsbD a = false:=by
  cases hxa:x.getLsbD a with
  | false=>rfl
  | true=>rw [ai.1 (qt (l:=l)) a ha hxa] at hca;cases hca
 obtain ⟨b,hb,hba⟩:=hbk.cov (a:=a) (by rw [bg ha,ai.1 hp a ha hpa,hxa];rfl);refine b7q (c:=fp e &&& p) (d:=b &&& p) (a49.2 ⟨_,hd.1,fun h=>?_,rfl⟩) (a49.2 ⟨_,hb,fun h=>?_,rfl⟩) fun h=>?_
 · have:=gw.1 h e he hse
   rw [hpe] at this;cases this
 · have:=gw.1 h a ha hba
   rw [hpa] at this;cases this
 have:=congrArg (fun z:AS=>z.getLsbD a) h;simp only [bkz,hba,hpa,Bool.and_true] at this;rw [db he ha,decide_eq_true_iff] at this;subst this;rw [hce] at hca;cases hca
theorem a1m (h:lsC n ps l m = 0):0 <= n /\ n <= 8 /\ c8 n l m = 0 /\ bj n l = 0 /\ (∀ f ∈ l,sub f.lhs (aa n) /\ sub f.rhs (aa n)) /\ ∀ q ∈ ps,sub q (aa n) /\ bsz q <= 8:=by
 obtain ⟨h1,h2⟩:=tk h
 have hv:bj n l = 0:=by
  unfold c8 at h2;split at h2
  · assumption
  exact h2
 have hn:0 <= n /\ n <= 8:=by
  unfold lvE at h1;split at h1
  · cases h1
  omega
 exact ⟨hn.1,hn.2,h2,hv,apf hv,fun q hq=>⟨a5f h1 hq,bky (af4 (a5f h1 hq)) (aie (n:=n) (m:=8) hn.2 bos)⟩⟩
theorem adu (h1:n <= 16):sub (aa n) (aa 16):=ai.2 fun i hi h=>by
 unfold aa at h ⊢;have e:min (Int.toNat 16) 32 = 16:=rfl;rw [e];rw [p9 _ i hi] at h ⊢;rw [decide_eq_true_iff] at h ⊢;omega
theorem av4 (h:lsC n ps l m = 0) (hp:p ∈ ps):thB n l p = p6 n l p:=by
 obtain ⟨_,_,_,hv,_,hq⟩:=a1m h;unfold thB;rw [(ac9 hv (hq p hp).1).1];simp
theorem ade (h:lsC n ps l m = 0) (hp:p ∈ ps):byB l p = !dm l p:=by
 obtain ⟨h0,h8,_,hv,hu,hq⟩:=a1m h;obtain ⟨q1,q2⟩:=hq p hp;obtain ⟨_,_,hl,_⟩:=gc hv
 have hv16:bj 16 l = 0:=by
  unfold bj;rw [if_neg bos,if_neg bos,if_pos];rw [blo];intro f hf;exact (pk bos bos).2 ⟨gk (hu f hf).1 (adu bos),gk (hu f hf).2 (adu bos)⟩
 have he:oz l p = 0:=by
  unfold oz;rw [if_pos hv16,if_neg bos,if_pos];exact (a3u (s:=p) (n:=16) bos bos).1 (gk q1 (adu bos))
 unfold byB uc;rw [he];simp
theorem axc (h:lsC n ps l m = 0) (hp:p ∈ ps):foB n l m p = !vBo (j1 n l m) p:=by
 obtain ⟨h0,h8,hb,hv,hu,hq⟩:=a1m h;obtain ⟨q1,q2⟩:=hq p hp
 have hk:ck4 n l m p = 0:=by
  rw [ab9 bos];unfold ckB;rw [if_pos hb,if_pos ((a3u h0 bos).1 q1)]
 unfold foB;rw [hk,ajk hk];unfold vBo;simp
theorem bfw (h:lsC n ps l m = 0) (hb:ps.all (byB l) = true):ps.all (thB n l) = true:=by
 rw [blo] at hb ⊢;intro q hq;obtain ⟨_,_,_,hv,_,hs⟩:=a1m h;have h1:=hb q hq;rw [ade h hq,blg] at h1;rw [av4 h hq,(ac9 hv (hs q hq).1).2];exact b2g (by have:=(hs q hq).2;omega) h1
theorem bgm (h:lsC n ps l [] = 0):ps.all (byB l) = ps.all (foB n l []):=by
 rw [bme,blo,blo];refine forall_congr' fun q=>forall_congr' fun hq=>?_;obtain ⟨_,_,_,hv,hu,hs⟩:=a1m h;rw [ade h hq,axc h hq,bc0 hu (hs q hq).1 (by have:=(hs q hq).2;omega)]
theorem bah (h8:¬ aw .and .i64 (jz n l m ps) 8 = 0):¬ aw .and .i64 (jz n l m ps) 4 = 0:=by
 by_cases h:lsC n ps l m = 0
 · have h3:=bfw h
   unfold jz at h8 ⊢;rw [if_pos h] at h8 ⊢;unfold w5 at h8 ⊢;revert h3 h8;generalize mo l ps = a;generalize ps.all (thB n l) = b;generalize ps.all (byB l) = c;generalize ps.all (foB n l m) = d;generalize lsB n ps l m = e;cases a <;> cases b <;> cases c <;> cases d <;> cases e <;> decide
 rw [aqy h] at h8;exact absurd boz h8
theorem atd (h:lsC n ps l [] = 0):decide (aw .and .i64 (jz n l [] ps) 8 = 0) = decide (aw .and .i64 (jz n l [] ps) 16 = 0):=by
 have h3:=bgm h;unfold jz;rw [if_pos h];unfold w5;rw [h3];generalize mo l ps = a;generalize ps.all (thB n l) = b;generalize ps.all (foB n l []) = d;generalize lsB n ps l [] = e;cases a <;> cases b <;> cases d <;> cases e <;> decide
def fmI (n:Int) (l m:List Fd) (q:List AS):Int:=lb false (q.all (p6 n l)) (q.all fun p=>!dm l p) (q.all fun p=>!vBo (j1 n l m) p)
theorem bil {b c d:Bool}:aw .andNot .i64 (lb false b c d) 4 = lb false false c d:=by cases b <;> cases c <;> cases d <;> decide
theorem bih {b c d:Bool}:aw .andNot .i64 (lb false b c d) 8 = lb false b false d:=by cases b <;> cases c <;> cases d <;> decide
theorem bha {b c d:Bool}:aw .andNot .i64 (lb false b c d) 16 = lb false b c false:=by cases b <;> cases c <;> cases d <;> decide
def fm1 (n:Int) (l m:List Fd) (q:List AS) (i:Nat):Int:=lb false ((q.take (i + 1)).all (p6 n l)) ((q.take i).all fun p=>!dm l p) ((q.take i).all fun p=>!vBo (j1 n l m) p)
def fm2 (n:Int) (l m:List Fd) (q:List AS) (i:Nat):Int:=lb false ((q.take (i + 1)).all (p6 n l)) ((q.take (i + 1)).all fun p=>!dm l p) ((q.take i).all fun p=>!vBo (j1 n l m) p)
section
variable {i:Nat}
theorem a1j {P:AS -> Bool} {q:List AS} (hi:i < q.length):(q.take (i + 1)).all P = ((q.take i).all P && P (q.getD i default)):=by
 rw [ay hi,List.all_append];simp
theorem bf0 (hi:i < ps.length) (h:p6 n l (ps.getD i default) = true):fmI n l m (ps.take i) = fm1 n l m ps i:=by
 unfold fm1 fmI;rw [a1j hi,h,Bool.and_true]
theorem bfa (hi:i < ps.length) (h:p6 n l (ps.getD i default) = false):aw .andNot .i64 (fmI n l m (ps.take i)) 4 = fm1 n l m ps i:=by
 unfold fm1 fmI;rw [bil,a1j hi,h,boq]
theorem bgd (hi:i < ps.length) (h:dm l (ps.getD i default) = false):fm1 n l m ps i = fm2 n l m ps i:=by
 unfold fm1 fm2;rw [a1j (P:=fun p=>!dm l p) hi,h];simp
theorem bew (hi:i < ps.length) (h:dm l (ps.getD i default) = true):aw .andNot .i64 (fm1 n l m ps i) 8 = fm2 n l m ps i:=by
 unfold fm1 fm2;rw [bih,a1j (P:=fun p=>!dm l p) hi,h];simp
theorem bfk (hi:i < ps.length) (h:vBo (j1 n l m) (ps.getD i default) = false):fm2 n l m ps i = fmI n l m (ps.take (i + 1)):=by
 unfold fm2 fmI;rw [a1j (P:=fun p=>!vBo (j1 n l m) p) hi,h];simp
theorem bft (hi:i < ps.length) (h:vBo (j1 n l m) (ps.getD i default) = true):aw .andNot .i64 (fm2 n l m ps i) 16 = fmI n l m (ps.take (i + 1)):=by
 unfold fm2 fmI;rw [bha,a1j (P:=fun p=>!vBo (j1 n l m) p) hi,h];simp
def fmL (n:Int) (l m:List Fd) (q:List AS):Int:=fmI n l m q + (bif lsB n q l m then 1 else 0)
theorem bfi (h:lsB n ps l m = true):aw .or .i64 (fmI n l m ps) 1 = fmL n l m ps:=by
 unfold fmL fmI;rw [h];generalize ps.all (p6 n l) = b;generalize (ps.all fun p=>!dm l p) = c;generalize (ps.all fun p=>!vBo (j1 n l m) p) = d;cases b <;> cases c <;> cases d <;> decide
theorem bg7 (h:lsB n ps l m = false):fmI n l m ps = fmL n l m ps:=by
 unfold fmL;rw [h];exact (Int.add_zero _).symm
theorem anf (h:lsC n ps l m = 0):fmI n l m ps = lb false (ps.all (thB n l)) (ps.all (byB l)) (ps.all (foB n l m)):=by
 have e:∀ {P Q:AS -> Bool},(∀ q ∈ ps,P q = Q q) -> ps.all P = ps.all Q:=fun {P Q} hh=>by
  rw [bme,blo,blo];exact forall_congr' fun q=>forall_congr' fun hq=>by rw [hh q hq]
 unfold fmI;rw [e (P:=p6 n l) fun q hq=>(av4 h hq).symm,e (P:=fun p=>!dm l p) fun q hq=>(ade h hq).symm,e (P:=fun p=>!vBo (j1 n l m) p) fun q hq=>(axc h hq).symm]
theorem bg2 (h:lsC n ps l m = 0) (hl:((c6 l ps l.length).length:Int) = 0):aw .or .i64 (fmL n l m ps) 2 = jz n l m ps:=by
 have h2:mo l ps = true:=a9i.symm.trans (decide_eq_true hl);unfold fmL jz;rw [if_pos h,anf h];unfold w5;rw [h2];generalize ps.all (thB n l) = b;generalize ps.all (byB l) = c;generalize ps.all (foB n l m) = d;generalize lsB n ps l m = e;cases b <;> cases c <;> cases d <;> cases e <;> decide
theorem bf4 (h:lsC n ps l m = 0) (hl:¬ ((c6 l ps l.length).length:Int) = 0):fmL n l m ps = jz n l m ps:=by
 have h2:mo l ps = false:=a9i.symm.trans (decide_eq_false hl);unfold fmL jz;rw [if_pos h,anf h];unfold w5;rw [h2]
end
end
end
end Go.Hx
