/- A part of the proof: Y9 Bz9 Ls8 Ds3 Ds4 Ds5 Ds11 Ds9 Dw8 Dw1. -/
import Derived.Test.YtkkenjdfbojdlaaGreatDoorJx33
set_option linter.all false
set_option maxRecDepth 100000
namespace Go.Hx
section
open Go.Proofs
def au1 (n:Int) (l m:List Fd) (x:AS):a6 bo6 206 [pI n,pP (fdl l),pP (fdl m),pA x] (a7 [.agg [asl (chT l m (a8 n &&& ~~~x))]]):=by
 refine hpx (nt:=44) Tryz.func206 ?_;refine c6 1 rfl fun hbl=>?_;refine c6 2 rfl fun hbm=>?_;refine sx7 ?_;refine m9 900 ?_;refine w_3 ?_;refine m9 901 ?_;refine qy ?_;refine m9 902 ?_;refine w_5 ?_;refine qcx ov (oj n) ?_;refine w_2 ?_;refine gh rfl rfl rfl rfl rfl rfl adi (((b0p [0] (a8 n &&& ~~~x) bns).swap 1000 902).swap 1001 901) (⟨vi.refl _,(CoP.of_eq (congrArg (fun z=>PV.raw (.int .u32 z)) (gk _ _))),trivial⟩) ⟨u9,⟨_,rfl,(zn (CoP.refl _))⟩,trivial⟩ rfl rfl ?_;refine w_7 ?_;refine ae (ι:=(Nat × List AS × Bool)) (ka 1 (ka 2 (ka 8 (ka 9 kn)))) (kb 900 km) (fun y=>⟨[(10,some (vB y.2.2))],[(902,some (.box [.ref 901 y.2.1.length])),(901,some (.arr true 1 46 y.2.1.length (lf sC y.2.1)))]⟩) (fun y=>ChI l m (chT l m (a8 n &&& ~~~x)) y) (fun y=>aqp y) ((MU,a9q (a8 n &&& ~~~x),true)) (ChI.start l m (a8 n &&& ~~~x)) ⟨⟨⟨_,rfl,(CoR.refl _)⟩,trivial⟩,uu⟩ ?_;rintro ⟨f,T,ag⟩ hC;refine w_5 ?_;refine ak _ rfl (fun r0=>?_) (fun r0=>?_)
 ·
  have h0:=r0;obtain rfl:ag = true:=r0;obtain ⟨hC2,hf⟩:=hC.next
  have hT:T.Nodup:=hC.nd;refine fj ?_;refine bg (ka 1 (ka 2 (ka 8 (ka 9 kn)))) (kb 900 km) (fun i=>⟨[(10,some (vB (ld l T i).2)),(11,some (vI i))],[(902,some (.box [.ref 901 (ld l T i).1.length])),(901,some (.arr true 1 46 (ld l T i).1.length (lf sC (ld l T i).1)))]⟩) l.length ⟨⟨⟨_,rfl,(CoR.refl _)⟩,⟨_,rfl,(CoR.refl _)⟩,trivial⟩,uu⟩ ?_;rintro i hi;refine w_8 ?_;refine hcd (fun h1=>?_) (fun h1=>?_)
  ·
   have hil:i < l.length:=by omega
   refine w_4 ?_;refine ae (ι:=(Nat × List AS × Bool)) (ka 1 (ka 2 (ka 8 (ka 9 (ka 11 kn))))) (kb 900 km) (fun y=>⟨[(10,some (vB ((ld l T i).2 || y.2.2)))],[(902,some (.box [.ref 901 y.2.1.length])),(901,some (.arr true 1 46 y.2.1.length (lf sC y.2.1)))]⟩) (fun y=>FdI (l.getD i default) (ld l T i).1 y) (fun y=>y.1) ((FU2,(ld l T i).1,false)) (FdI.start (aqg hT)) ⟨⟨⟨_,rfl,(cob bnp)⟩,trivial⟩,uu⟩ ?_;rintro ⟨g,U,b⟩ hF;refine w_2 ?_
   rcases hq:fdT (l.getD i default) U with _ | s
   ·
    refine w_5 ?_;refine fc9 (wgx Tryz.func240) ((bha U (l.getD i default) hq hF.len).swap 1000 902) uu ?_;refine c5 ?_;refine ak _ rfl (fun r2=>?_) (fun r2=>?_)
    · have h2:=r2;cases r2
    have h2:=r2;have hd:=hF.done (c:=(ld l T i).2) hq;have hd1:U = (ld l T (i + 1)).1:=by rw [age hil];exact congrArg Prod.fst hd
    have hd2:((ld l T i).2 || b) = (ld l T (i + 1)).2:=by rw [age hil];exact congrArg Prod.snd hd
    refine w_6 ?_;exact lpx (i + 1) ⟨⟨⟨_,rfl,(by rw [<- hd2];exact CoR.refl _)⟩,⟨_,rfl,(CoR.refl _)⟩,tt⟩,⟨⟨_,rfl,(by rw [<- hd1];exact CoO.refl _)⟩,⟨_,rfl,(by rw [<- hd1];exact CoO.refl _)⟩,uu⟩⟩
   refine w_5 ?_;refine fc9 (wgx Tryz.func240) ((bgr U (l.getD i default) s hq hF.len).swap 1000 902) uu ?_;refine c5 ?_;refine ak _ rfl (fun r3=>?_) (fun r3=>?_)
   ·
    have h3:=r3;obtain ⟨hF2,hg0⟩:=hF.next hq
    refine w_5 ?_;refine ⟨(g - 1,jv U s,true), ?_, ?_, ?_⟩
    · exact hF2
    · dsimp only;omega
    exact ⟨⟨⟨_,rfl,(cob bnp)⟩,tt⟩,uu⟩
   have h3:=r3;cases r3
  obtain rfl:i = l.length:=by omega
  refine w_6 ?_;refine bg (ka 1 (ka 2 (ka 8 (ka 9 kn)))) (kb 900 km) (fun i=>⟨[(10,some (vB (mvX m (ld l T l.length) i).2)),(12,some (vI i))],[(902,some (.box [.ref 901 (mvX m (ld l T l.length) i).1.length])),(901,some (.arr true 1 46 (mvX m (ld l T l.length) i).1.length (lf sC (mvX m (ld l T l.length) i).1)))]⟩) m.length ⟨⟨⟨_,rfl,(CoR.refl _)⟩,⟨_,rfl,(CoR.refl _)⟩,trivial⟩,uu⟩ ?_;rintro i hi;refine w_8 ?_;refine hcd (fun h4=>?_) (fun h4=>?_)
  ·
   have hil:i < m.length:=by omega
   refine w_9 ?_;refine fc9 (wgx Tryz.func241) (((bgs (mvX m (ld l T l.length) i).1 (m.getD i default) (bbq (aqg hT))).swap 1000 902).swap 1001 901) uu ?_;refine c5 ?_;refine ak _ rfl (fun r5=>?_) (fun r5=>?_)
   · have h5:=r5;have hch:=a15 r5;refine w_8 ?_;exact lpx (i + 1) ⟨⟨⟨_,rfl,(by rw [vr hil,a7w];first | exact cob (by rw [decide_eq_true hch];simp) | exact cob (by rw [decide_eq_false hch];simp))⟩,⟨_,rfl,(CoR.refl _)⟩,tt⟩,⟨⟨_,rfl,(by rw [vr hil,a7w];exact CoO.refl _)⟩,⟨_,rfl,(by rw [vr hil,a7w];exact CoO.refl _)⟩,uu⟩⟩
   have h5:=r5;have hch:=a3t r5;refine w_6 ?_;exact lpx (i + 1) ⟨⟨⟨_,rfl,(by rw [vr hil,a7w];first | exact cob (by rw [decide_eq_true hch];simp) | exact cob (by rw [decide_eq_false hch];simp))⟩,⟨_,rfl,(CoR.refl _)⟩,tt⟩,⟨⟨_,rfl,(by rw [vr hil,a7w];exact CoO.refl _)⟩,⟨_,rfl,(by rw [vr hil,a7w];exact CoO.refl _)⟩,uu⟩⟩
  obtain rfl:i = m.length:=by omega
  have hron:=bfm l m T;refine dj ?_;refine ⟨(f - 1,(n7 l m T).1,(n7 l m T).2), ?_, ?_, ?_⟩
  · exact hC2
  · exact b5g hf
  exact ⟨⟨⟨_,rfl,(by rw [<- hron];exact CoR.refl _)⟩,tt⟩,⟨⟨_,rfl,(by rw [<- hron];exact CoO.refl _)⟩,⟨_,rfl,(by rw [<- hron];exact CoO.refl _)⟩,uu⟩⟩
 have h0:=r0;obtain rfl:ag = false:=r0;have hl:T = (chT l m (a8 n &&& ~~~x)):=hC.f rfl;subst hl;refine w_6 ?_;refine adm 900 0 rfl rfl rfl rfl rfl ?_;exact hx8 rfl rfl rfl (⟨CoC.refl _,trivial⟩)
def b1p (T:List AS):a6 bo6 207 [.agg [asl T]] (a7 [pA (orL T)]):=by
 refine hpx (nt:=20) Tryz.func207 ?_;refine sx7 ?_;refine m9 0 ?_;refine w_8 ?_;refine b1d 0 0 rfl rfl fun hb=>?_;refine w_4 ?_;refine bg (ka 1 kn) (kb 0 km) (fun i=>⟨[(3,some (vA (orL (T.take i)))),(4,some (vI i))],[]⟩) T.length ⟨⟨⟨_,rfl,(CoR.refl _)⟩,⟨_,rfl,(CoR.refl _)⟩,trivial⟩,trivial⟩ ?_;rintro i hi;refine w_9 ?_;refine hcd (fun h0=>?_) (fun h0=>?_)
 · refine aj2 ?_;exact lpx (i + 1) ⟨⟨⟨_,rfl,(br ((bOr _ _).trans (congrArg asI (yl bnl).symm)))⟩,⟨_,rfl,(CoR.refl _)⟩,tt⟩,uu⟩
 obtain rfl:i = T.length:=by omega
 rw [show T.take T.length = T from bjk];refine v_6 ?_;exact CoL.refl _
def avb (n:Int) (l m:List Fd) (x:AS):a6 bo6 159 [pI n,pP (fdl l),pP (fdl m),pA x] (a7 [pA (a8 n &&& ~~~(orL (chT l m (a8 n &&& ~~~x))))]):=by
 refine hpx (nt:=18) Tryz.func159 ?_;refine w_7 ?_;refine qcx ov (oj n) ?_;refine w_4 ?_;refine qcx (wgx Tryz.func206) (au1 n l m x) ?_;refine qcx (wgx Tryz.func207) (b1p (chT l m (a8 n &&& ~~~x))) ?_;refine v_3 ?_;exact ⟨cci (gk _ _),trivial⟩
end
section
def a95 (a b:AS):Bool:=vd b a
def a18 (l:List AS):List AS:=a4a a95 l
def okM (l:List AS) (i k:Nat):Bool:=(List.range k).all fun j=>decide (j = i) || !vd (l.getD j default) (l.getD i default)
def ayp (l:List AS) (i k:Nat):okM l i (k + 1) = (okM l i k && (decide (k = i) || !vd (l.getD k default) (l.getD i default))):=by
 unfold okM;rw [bl4,List.all_append];simp
def okM_succ' (l:List AS) (i k:Nat):okM l i (k + 1) = (okM l i k && (decide ((k:Int) = i) || !vd (l.getD k default) (l.getD i default))):=by
 rw [ayp,decide_eq_decide.2 (show (k:Int) = i <-> k = i by omega)]
section
variable {l:List AS}
def aqf {i:Nat} (hn:l.Nodup) (hi:i < l.length):okM l i l.length = !wn a95 l (l.getD i default):=by
 rw [blh];unfold okM wn a95;rw [bkk,bkc,bl5];constructor
 · intro h b hb hc
   obtain ⟨j,hj,rfl⟩:=bk4 hb;have:=h j (bjs.2 hj);simp only [bjm,decide_eq_true_eq,bl3,bkc,bjd,bjc hj,bjc hi,bk8] at this hc
   rcases this with h1 | h1
   · subst h1;exact hc.1 rfl
   rw [hc.2] at h1;cases h1
 intro h j hj;have hj:=bjs.1 hj;have:=h l[j] (bk7 hj);simp only [bjd,bjc hj,bjc hi,bk8,bl3,decide_eq_true_eq,bkc,bjm] at this ⊢;by_cases e:j = i
 · exact .inl e
 right;rw [bjp];intro hs;refine this ⟨fun he=>e ?_,hs⟩;exact ((List.getElem_inj hn).1 he).symm
def qa (l:List AS) (i:Nat):List AS:=((ord l).take i).filter fun x=>!wn a95 (ord l) x
def a7t {i:Nat} (hi:i < (ord l).length) (h:okM (ord l) i (ord l).length = true):qa l (i + 1) = qa l i ++ [(ord l).getD i default]:=by
 rw [aqf (a4z l) hi] at h;unfold qa;rw [au hi,bkq];simp only [bko,h,if_true,bl6]
def a78 {i:Nat} (hi:i < (ord l).length) (h:okM (ord l) i (ord l).length = false):qa l (i + 1) = qa l i:=by
 rw [aqf (a4z l) hi] at h;unfold qa;rw [au hi,bkq];simp only [bko,h,bkr,if_false,bl6,bkd]
def aum (l:List AS) (i:Nat):(qa l i).length <= i:=by
 unfold qa;exact bjr (bl8 _ _) (by rw [bjn];omega)
def awp (l:List AS):qa l (ord l).length = a18 l:=by
 unfold qa a18 a4a;rw [bjk]
def aku {z:AS}:z ∈ a18 l <-> z ∈ l /\ ∀ b ∈ l,sub b z -> b = z:=by
 unfold a18 a4a;rw [blj,so,bkc,bjp];refine and_congr Iff.rfl ?_;unfold wn a95 vd;rw [Ne,bke];constructor
 · intro h b hb hs
   apply Classical.byContradiction;intro hne;exact h ⟨b,so.2 hb,by rw [bjm,decide_eq_true_eq,decide_eq_true_eq];exact ⟨fun e=>hne e.symm,hs⟩⟩
 rintro h ⟨b,hb,hc⟩;rw [bjm,decide_eq_true_eq,decide_eq_true_eq] at hc;exact hc.1 (h b (so.1 hb) hc.2).symm
def b07 (l:List AS):qk (a18 l):=List.Pairwise.filter _ (j5 l)
def ay7 (l:List AS):(a18 l).length <= l.length:=bjr (bl8 _ _) (lj l)
def yq (rest L x:AS) (T:List AS) (y:AS):Bool:=!decide (y = 0) && (decide (y &&& ~~~rest = 0) && decide ((L &&& ~~~(x ||| y)) ∈ T))
def yL (rest L x:AS) (T:List AS) (k:Nat):List AS:=((List.range k).map (BitVec.ofNat 32)).filter (yq rest L x T)
end
section
variable {rest L x:AS} {T:List AS} {k:Nat}
def avc:yL rest L x T 1 = []:=by
 unfold yL;rw [show List.range 1 = [0] from rfl];simp only [bkt,bmz,bko,bl6];rw [if_neg];unfold yq;rw [decide_eq_true (show BitVec.ofNat 32 0 = 0 from rfl)];intro h;cases h
def af0 (h:yq rest L x T (BitVec.ofNat 32 k) = true):yL rest L x T (k + 1) = yL rest L x T k ++ [BitVec.ofNat 32 k]:=by
 unfold yL;rw [bl4,bln,bkq];simp only [bkt,bmz,bko,bl6,h,if_true]
def aev (h:yq rest L x T (BitVec.ofNat 32 k) = false):yL rest L x T (k + 1) = yL rest L x T k:=by
 unfold yL;rw [bl4,bln,bkq];simp only [bkt,bmz,bko,bl6,h,bkr,if_false,bkd]
def ave:(yL rest L x T k).length <= k:=by
 unfold yL;exact bjr (bl8 _ _) (by rw [bk0,blu];exact bjg _)
def baq {z:AS}:z ∈ yL rest L x T (rest.toNat + 1) <-> qB T L x rest z:=by
 unfold yL yq qB;rw [blj,bkg,bjm,bjm,bkc,decide_eq_false_iff_not,decide_eq_true_eq,decide_eq_true_eq];constructor
 · rintro ⟨_,h1,h2,h3⟩
   exact ⟨h1,h2,h3⟩
 rintro ⟨h1,h2,h3⟩;exact ⟨⟨z.toNat,bjs.2 (by have:=abf h2;omega),by simp⟩,h1,h2,h3⟩
end
def b6f (n:Int) (x:AS):(a8 n &&& ~~~x) &&& x = 0:=jh.2 fun i hi h=>by
 rw [cz hi,bjm] at h;simpa using h.2
def ar1 (n:Int) (l m:List Fd) (x:AS):a18 (yL (a8 n &&& ~~~x) (orL (chT l m (a8 n &&& ~~~x))) x (chT l m (a8 n &&& ~~~x)) ((a8 n &&& ~~~x).toNat + 1)) = dc n l m x:=by
 obtain ⟨h1,h2⟩:=alf (fs:=l) (ms:=m) (rest:=a8 n &&& ~~~x);refine awl (b07 _) fun z=>?_;rw [aku,atw ain (aek (ju l m) (a8 n &&& ~~~x)).1 h1 h2 (b6f n x) z];simp only [baq]
section
variable {a:Nat}
def b54 {b:AS} (h:bsz b = 1) (ha:b.getLsbD a = true):b = jd a:=by
 rw [ss] at h;have h1:a ∈ aj b:=jc.2 ⟨zk ha,ha⟩
 cases hm:aj b with
 | nil=>rw [hm] at h1;cases h1
 | cons c r =>
  rw [hm] at h h1;have hr:r = []:=List.length_eq_zero_iff.1 (by simpa using h);subst hr;have e:a = c:=by simpa using h1
  subst e;apply kg;intro i hi;rw [fp (zk ha) hi]
  cases hb:b.getLsbD i with
  | true =>
   have:i ∈ aj b:=jc.2 ⟨hi,hb⟩;rw [hm] at this;simpa using this
  | false =>
   symm;rw [decide_eq_false_iff_not];rintro rfl;rw [ha] at hb;cases hb
def azc (ha:a < 32):bsz (jd a) = 1:=by
 unfold bsz
 have e:(List.range 32).countP (fun i=>(jd a).getLsbD i) = (List.range 32).countP fun i=>decide (i = a):=by
  apply List.countP_congr;intro i hi;rw [bjs] at hi;rw [fp ha hi]
 rw [e]
 have h2:∀ k,(List.range k).countP (fun i=>decide (i = a)) = if a < k then 1 else 0:=by
  intro k
  induction k with
  | zero=>simp
  | succ k ih =>
   rw [bl4,bn9,ih];simp only [bm0,List.countP_nil];by_cases h:k = a
   · subst h
     simp
   have hd:¬ decide (k = a) = true:=fun q=>h (of_decide_eq_true q);rw [if_neg hd];by_cases h3:a < k
   · rw [if_pos h3,if_pos (show a < k + 1 by omega)]
   rw [if_neg h3,if_neg (show ¬ a < k + 1 by omega)]
 rw [h2,if_pos ha]
def ako {l:List Fd}:∀ {bs:List AS} {o:AS},(uj l o bs).getLsbD a = true <-> o.getLsbD a = true \/ ∃ b ∈ bs,bsz b = 1 /\ l.any (ym b) = true /\ b.getLsbD a = true
 | [],o=>by simp [uj]
 | b :: bs,o=>by
  show (uj l (ur l o b) bs).getLsbD a = true <-> _;rw [ako];unfold ur;constructor
  · rintro (h | ⟨c,hc,h⟩)
    · split at h
      · split at h
        · rw [bky,bl3] at h
          rcases h with h | h
          · exact .inl h
          exact .inr ⟨b,by simp,by assumption,by assumption,h⟩
        exact .inl h
      exact .inl h
    exact .inr ⟨c,by simp [hc],h⟩
  rintro (h | ⟨c,hc,h1,h2,h3⟩)
  · left
    split
    · split
      · rw [bky,h];rfl
      exact h
    exact h
  rcases bjq.1 hc with rfl | hc
  · left
    rw [if_pos h1,if_pos h2,bky,h3,Bool.or_true]
  exact .inr ⟨c,hc,h1,h2,h3⟩
def afy {f:Fd} (ha:a < 32):ym (jd a) f = true <-> f.rhs.getLsbD a = true /\ f.lhs.getLsbD a = false:=by
 unfold ym;rw [bkc,decide_eq_false_iff_not];constructor
 · intro h
   obtain ⟨i,hi,h1,h2⟩:=a5c h;rw [fp ha hi] at h2;have e:i = a:=by simpa using h2
   subst e;rw [cz hi,bjm] at h1;exact ⟨h1.1,by simpa using h1.2⟩
 rintro ⟨h1,h2⟩ h;have:=jh.1 h a ha (by rw [cz ha,h1,h2];rfl);rw [fp ha ha] at this;simp at this
def b88 {n:Int} {l m:List Fd} {x:AS} (ha:a < 32):(od n l m x).getLsbD a = true <-> x.getLsbD a = true \/ acg l (blks (ju l m) (a8 n &&& ~~~x)) a:=by
 unfold od;rw [ako];refine or_congr Iff.rfl ?_;unfold dc acg;constructor
 · rintro ⟨b,hb,h1,h2,h3⟩
   have e:=b54 h1 h3;subst e;obtain ⟨f,hf,hc⟩:=bke.1 h2;exact ⟨so.1 hb,f,hf,(afy ha).1 hc⟩
 rintro ⟨h1,f,hf,h2⟩;exact ⟨jd a,so.2 h1,azc ha,bke.2 ⟨f,hf,(afy ha).2 h2⟩,by rw [fp ha ha];simp⟩
def aze {n:Int} {l m:List Fd} {x:AS} (hx:sub x (a8 n)):a8 n &&& ~~~(orL (chT l m (a8 n &&& ~~~x))) = od n l m x:=by
 obtain ⟨h1,h2⟩:=alf (fs:=l) (ms:=m) (rest:=a8 n &&& ~~~x);have hf:=ain (fs:=l) (ms:=m) (rest:=a8 n &&& ~~~x);obtain ⟨hb,hs⟩:=aek (ju l m) (a8 n &&& ~~~x);have hr:=(hf.j.r _ h1).1;obtain ⟨L,q1,q2,q3⟩:=hf.j.top;have eL:orL (chT l m (a8 n &&& ~~~x)) = L:=ep (q2 _ h1) (h2 _ q1);apply kg;intro a ha;rw [cz ha,blh,bjm,bkc,b88 ha];constructor
 · rintro ⟨p1,p2⟩
   cases hxa:x.getLsbD a with
   | true=>exact .inl rfl
   | false =>
    right;rw [eL] at p2;exact q3 a ha (by rw [cz ha,p1,hxa];rfl) p2
 rintro (p | p)
 · refine ⟨ar.1 hx a ha p, ?_⟩
   cases hl:(orL (chT l m (a8 n &&& ~~~x))).getLsbD a with
   | false=>rfl
   | true =>
    have:=ar.1 hr a ha hl;rw [cz ha,p] at this;simp at this
 have p0:=p;obtain ⟨p1,_⟩:=p;have:=ar.1 (hb.sub p1) a ha (by rw [fp ha ha];simp);rw [cz ha,bjm] at this;exact ⟨this.1,aya hf hb h1 h2 ha p0⟩
end
end
section
def bhb (l:List Fd) (p:AS) (k:Nat):List Fd:=(((List.range k).map (BitVec.ofNat 32)).filter fun s=>decide (sub s p)).map fun s=>⟨s,clo l s &&& p⟩
def biw (l:List Fd) (ps:List AS) (i:Nat):List Fd:=(ps.take i).flatMap fun p=>bhb l p (p.toNat + 1)
def bj9 (a b:List Fd):Bool:=b.any fun f=>!imp a f
def bj8 (n:Int) (l:List Fd) (ps:List AS):Int:=if bh n l = 0 then lsC n ps l [] else bh n l
def biy (n:Int) (l:List Fd) (ps:List AS):Bool:=decide (bh n l = 0) && (lsB n ps l [] && o3 l ps && ps.all (qp l))
section
variable {n:Int} {l:List Fd} {ps:List AS}
def b6w (h0:0 <= n) (h8:n <= 8) {q:AS} (hq:sub q (a8 n)):q.toNat < 65536:=by
 have h1:=abf hq;have h2:∀ k,k <= 8 -> (jr k).toNat < 65536:=by decide +kernel
 have h3:(a8 n).toNat < 65536:=h2 (min n.toNat 32) bnl;omega
def ahw (h:lvE n ps = 0) {q:AS} (hq:q ∈ ps):q.toNat < 65536:=b6w (n3 h).1 (n3 h).2.1 (a4n h hq)
end
end
section
def ab0 (a b:Bs):bL (a ++ b) = bL a ++ bL b:=by simp [ByteArray.data_append]
def pkV (l:List Fd) (p s:AS):Bool:=!decide (p &&& ~~~(clo l s) = 0)
def pkL (l:List Fd) (p:AS):List AS:=a18 ((aw p).filter fun s=>!pkV l p s)
def ast (ns:List Bs) (k:AS):List UInt8:=32 :: bL (txT ns k)
def ni (ns:List Bs) (ks:List AS) (i:Nat):List UInt8:=(ks.take i).flatMap (ast ns)
def tw (ns:List Bs) (p:AS):List UInt8:=[112,97,114,116,32] ++ bL (txT ns p) ++ [32,107,101,121,115]
def a51 (ns:List Bs) (l:List Fd) (p:AS):List UInt8:=tw ns p ++ ni ns (pkL l p) (pkL l p).length ++ [10]
def fu (ns:List Bs) (l:List Fd) (ps:List AS) (i:Nat):List UInt8:=(ps.take i).flatMap (a51 ns l)
def a6k (ns:List Bs) (f:Fd):List UInt8:=[108,111,115,116,32] ++ bL (txT ns f.lhs) ++ [32,45,62,32] ++ bL (txT ns f.rhs) ++ [10]
def j3 (ns:List Bs) (l:List Fd) (ls:List Nat) (i:Nat):List UInt8:=(ls.take i).flatMap fun j=>a6k ns (l.getD j default)
def jj:List Bs:=[⟨#[108,111,115,115,108,101,115,115]⟩,⟨#[112,114,101,115,101,114,118,105,110,103]⟩,⟨#[116,104,105,114,100]⟩,⟨#[98,111,121,99,101]⟩,⟨#[102,111,117,114,116,104]⟩]
def aay (c:Int) (i:Nat):Bool:=decide (al .and .i64 (c.fdiv (2 ^ (min i 64))) 1 = 1)
def a4v (c:Int) (i:Nat):List UInt8:=if aay c i = true then 32 :: bL (jj.getD i default) else []
def ij (c:Int) (i:Nat):List UInt8:=(List.range i).flatMap (a4v c)
def alu (ns:List Bs) (l:List Fd) (ps:List AS) (c:Int):List UInt8 :=
 fu ns l ps ps.length ++ j3 ns l (bw l ps l.length) (bw l ps l.length).length ++ [99,108,97,105,109,115] ++ ij c 5 ++ [10]
section
variable {ns:List Bs} {l:List Fd} {ps:List AS} {c:Int} {i:Nat}
def a3w {α:Type} [Inhabited α] {f:α -> List UInt8} {q:List α} (h:i < q.length):(q.take (i + 1)).flatMap f = (q.take i).flatMap f ++ f (q.getD i default):=by
 rw [List.take_succ,bjc h,bn4,bjd,bjc h];simp
def ano {ks:List AS} (h:i < ks.length):ni ns ks (i + 1) = ni ns ks i ++ ast ns (ks.getD i default):=a3w h
def ale (h:i < ps.length):fu ns l ps (i + 1) = fu ns l ps i ++ a51 ns l (ps.getD i default):=a3w h
def amm {ls:List Nat} (h:i < ls.length):j3 ns l ls (i + 1) = j3 ns l ls i ++ a6k ns (l.getD (ls.getD i default) default):=a3w h
def a4e:ij c (i + 1) = ij c i ++ a4v c i:=by
 unfold ij;rw [bl4,bn4];simp
def x4 {α:Type} {f:α -> List UInt8} {K:Nat}:∀ {q:List α},(∀ x ∈ q,(f x).length <= K) -> (q.flatMap f).length <= K * q.length
 | [],_=>by simp
 | x :: q,h=>by
  have h1:=h x bnp;have h2:=x4 (q:=q) fun y hy=>h y (by simp [hy]);rw [bml,bjj,bk5,Nat.mul_succ];omega
def a57 (h:∀ b ∈ ns,b.size <= 1000) (s:AS):(bL (txT ns s)).length <= 32033:=by
 have:=b7i (s:=s) h;rw [abd];omega
def a5l (h:∀ b ∈ ns,b.size <= 1000) {ks:List AS}:(ni ns ks i).length <= 32034 * ks.length:=by
 refine bjr (x4 (K:=32034) fun x _=>?_) (Nat.mul_le_mul_left _ (by rw [bjn];omega));have:=a57 h x;show (bL _).length + 1 <= _;omega
def a59 (h:∀ b ∈ ns,b.size <= 1000) (p:AS):(tw ns p).length <= 32043:=by
 have:=a57 h p;unfold tw;simp only [bjj,bk5,bli];omega
def acl {p:AS} (hp:p.toNat < 65536):(pkL l p).length <= 65537:=by
 unfold pkL;refine bjr (ay7 _) (bjr (bl8 _ _) ?_);unfold aw xo;have h1:=a5r (s:=p) (p.toNat + 1) p;have h2:=lj (a0j p (p.toNat + 1) p);split
 · simp
 omega
def avd (h:∀ b ∈ ns,b.size <= 1000) {p:AS} (hp:p.toNat < 65536):(a51 ns l p).length <= 2100000000:=by
 have h1:=a5l (i:=(pkL l p).length) (ks:=pkL l p) h;have h2:=a59 h p;have h3:=acl (l:=l) hp;unfold a51;simp only [bjj,bk5,bli];omega
def aqo (h:∀ b ∈ ns,b.size <= 1000) (hp:∀ p ∈ ps,p.toNat < 65536) (h64:ps.length <= 64):(fu ns l ps i).length <= 134400000000:=by
 have h1:(fu ns l ps i).length <= 2100000000 * (ps.take i).length:=x4 (K:=2100000000) fun x hx=>avd h (hp x (bm6 hx));rw [bjn] at h1;omega
def ax3 (h:∀ b ∈ ns,b.size <= 1000) (f:Fd):(a6k ns f).length <= 64100:=by
 have h1:=a57 h f.lhs;have h2:=a57 h f.rhs;unfold a6k;simp only [bjj,bk5,bli];omega
def arl (h:∀ b ∈ ns,b.size <= 1000) {ls:List Nat} (hl:ls.length <= 64):(j3 ns l ls i).length <= 4102400:=by
 have h1:(j3 ns l ls i).length <= 64100 * (ls.take i).length:=x4 (K:=64100) fun x _=>ax3 h _;rw [bjn] at h1;omega
def a92 (h:i <= 5):(ij c i).length <= 100:=by
 have h1:(ij c i).length <= 20 * (List.range i).length:=x4 (K:=20) fun x hx=>by
  unfold a4v;split
  · have hx:=bjs.1 hx
    have:(bL (jj.getD x default)).length <= 10:=by
     match x,hx with
     | 0,_=>decide
     | 1,_=>decide
     | 2,_=>decide
     | 3,_=>decide
     | 4,_=>decide
     | n + 5,hx=>omega
    show _ + 1 <= _;omega
  exact bji _
 rw [blu] at h1;omega
def b4z {s:AS} {n:Nat} (h8:n <= 16) (h:sub s (a8 n)) {i:Nat} (hi:i ∈ aj s):i < n:=by
 obtain ⟨h32,hb⟩:=jc.1 hi;have:=ar.1 h i h32 hb
 have hn:¬ n <= i:=fun hle=>by
  have h2:=(a43 (s:=a8 n) (n:=(n:Int)) bnl bnl).1 (sub_self _);have h3:=congrArg (fun x:AS=>x.getLsbD (i - n)) h2;simp only [bjo,bm9,show n + (i - n) = i by omega,this] at h3;simp at h3
 omega
def b5c {j:Nat} (h:j < (bw l ps l.length).length):(bw l ps l.length).getD j default < l.length:=by
 have hm:(bw l ps l.length).getD j default ∈ bw l ps l.length:=dn h;exact bjs.1 (blj.1 hm).1
def alw:(bw l ps l.length).length <= l.length:=by
 refine bjr (bl8 _ _) ?_;rw [blu];exact bjg _
end
end
section
def ua (ns:List Bs) (l m:List Fd) (ps:List AS):Int:=if mh ns = 0 then (if lvE ns.length ps = 0 then be ns.length l m else lvE ns.length ps) else mh ns
def ae0 (ns:List Bs) (l m:List Fd) (ps:List AS) (c:Int):Bs:=if ua ns l m ps = 0 then bOf (alu ns l ps c) else ⟨#[]⟩
section
variable {ns:List Bs} {l m:List Fd} {ps:List AS} {c:Int} {X:List UInt8}
def bav (h:¬ mh ns = 0):ua ns l m ps = mh ns /\ ae0 ns l m ps c = ⟨#[]⟩:=by
 have e:ua ns l m ps = mh ns:=if_neg h;exact ⟨e,if_neg (by rw [e];exact h)⟩
def b91 (h:mh ns = 0) (h2:¬ lvE ns.length ps = 0):ua ns l m ps = lvE ns.length ps /\ ae0 ns l m ps c = ⟨#[]⟩:=by
 have e:ua ns l m ps = lvE ns.length ps:=by unfold ua;rw [if_pos h,if_neg h2]
 exact ⟨e,if_neg (by rw [e];exact h2)⟩
def bbk (h:mh ns = 0) (h2:lvE ns.length ps = 0) (h3:¬ be ns.length l m = 0):ua ns l m ps = be ns.length l m /\ ae0 ns l m ps c = ⟨#[]⟩:=by
 have e:ua ns l m ps = be ns.length l m:=by unfold ua;rw [if_pos h,if_pos h2]
 exact ⟨e,if_neg (by rw [e];exact h3)⟩
def bcb (h:mh ns = 0) (h2:lvE ns.length ps = 0) (h3:be ns.length l m = 0):ua ns l m ps = 0 /\ ae0 ns l m ps c = bOf (alu ns l ps c):=by
 have e:ua ns l m ps = 0:=by unfold ua;rw [if_pos h,if_pos h2,h3]
 exact ⟨e,if_pos e⟩
def ba9 {p k:AS} (h:k ∈ pkL l p):sub k p:=by
 have h1:=(aku.1 h).1;have h2:=(blj.1 h1).1;unfold aw at h2;split at h2
 · cases h2
 exact a08.1 h2
def szA (a b:Bs):(a ++ b).size = a.size + b.size:=ByteArray.size_append
def bfa (h:∀ b ∈ ns,b.size <= 1000) (s:AS):(txT ns s).size <= 32033:=a57 h s
def b45 {p:AS} {ks:List AS}:X ++ bL ((⟨#[112,97,114,116,32]⟩ ++ txT ns p) ++ ⟨#[32,107,101,121,115]⟩) = X ++ tw ns p ++ ni ns ks 0:=by
 simp [ab0,tw,ni]
def bce {ks:List AS} {k:Nat} (h:k < ks.length):(X ++ ni ns ks k) ++ bL (⟨#[32]⟩ ++ txT ns (ks.getD k default)) = X ++ ni ns ks (k + 1):=by
 rw [ano h];simp [ab0,ast]
section
variable {i:Nat}
def b6s (h:i < ps.length):(fu ns l ps i ++ tw ns (ps.getD i default) ++ ni ns (pkL l (ps.getD i default)) (pkL l (ps.getD i default)).length) ++ bL ⟨#[10]⟩ = fu ns l ps (i + 1):=by
 rw [ale h];simp [a51]
def b6c {ls:List Nat} {j:Nat} (h:j < ls.length) (f:Fd) (hf:f = l.getD (ls.getD j default) default) :
 (X ++ j3 ns l ls j) ++ bL ((((⟨#[108,111,115,116,32]⟩ ++ txT ns f.lhs) ++ ⟨#[32,45,62,32]⟩) ++ txT ns f.rhs) ++ ⟨#[10]⟩) = X ++ j3 ns l ls (j + 1):=by
 subst hf;rw [amm h];simp [ab0,a6k]
def awr (h:aay c i = true):(X ++ ij c i) ++ bL (⟨#[32]⟩ ++ jj.getD i default) = X ++ ij c (i + 1):=by
 rw [a4e];unfold a4v;rw [if_pos h];simp [ab0]
def av5 (h:aay c i = false):X ++ ij c i = X ++ ij c (i + 1):=by
 rw [a4e];unfold a4v;rw [if_neg (by rw [h];exact bmg),bkd]
def b0y {f:Nat -> Nat -> PV} (hi:i < 5) (h0:f 0 0 = bsC (jj.getD 0 default) 0) (h1:f 1 0 = bsC (jj.getD 1 default) 0) (h2:f 2 0 = bsC (jj.getD 2 default) 0) (h3:f 3 0 = bsC (jj.getD 3 default) 0) (h4:f 4 0 = bsC (jj.getD 4 default) 0):f i 0 = bsC (jj.getD i default) 0:=by
 match i,hi with
 | 0,_=>exact h0
 | 1,_=>exact h1
 | 2,_=>exact h2
 | 3,_=>exact h3
 | 4,_=>exact h4
def ak8 (hi:i < 5):(jj.getD i default).size <= 10:=by
 match i,hi with
 | 0,_=>decide
 | 1,_=>decide
 | 2,_=>decide
 | 3,_=>decide
 | 4,_=>decide
end
end
end
section
section
variable {n:Int} {ps:List AS} {p m l:List Fd}
abbrev tb0 (n:Int) (ps:List AS):List Rw:=av (bj n ps)
abbrev trS (n:Int) (ps:List AS) (p m:List Fd):List St:=(lsT n ps p m).1
abbrev trT (n:Int) (ps:List AS) (p m:List Fd) (i:Nat):List Rw:=(trL n p m (tb0 n ps) (trS n ps p m)).getD i default
def bd9 (h:¬ lsC n ps p m = 0):prS n ps p m = [] /\ prC n ps p m = lsC n ps p m:=by
 have hc:(rcR n ps p m).2.2 = lsC n ps p m:=a9z;unfold prS prC;rw [hc,if_neg h,if_neg h];exact ⟨rfl,rfl⟩
def a99 (hls:lsC n ps p m = 0) {i:Nat} (hi:i <= (trS n ps p m).length) (hI:∀ j,j < i -> jt n (trT n ps p m j) = false) (h:jt n (trT n ps p m i) = true):prS n ps p m = (trS n ps p m).take i /\ prC n ps p m = 0:=by
 have hq:=ac4 hls;have hi':i <= (lsT n ps p m).1.length:=hi;have hc:(rcR n ps p m).2.2 = 0:=by rw [hq]
 have hx:prX n ps p m = (i:Int):=by
  unfold prX;rw [hq];refine re (p:=fun a:Int × List Rw=>jt n a.2) (i:=i) (by show i < (jw n p m _ _).length;rw [zp];omega) (fun j hj=>?_) ?_
  · show jt n ((jw n p m _ _).getD j default).2 = false
    rw [a88 bnl];exact hI j hj
  show jt n ((jw n p m _ _).getD i default).2 = true;rw [a88 bnl];exact h
 unfold prS prC;rw [if_pos hc,if_pos hc,hx,if_neg bnl,if_neg bnl,hq];exact ⟨rfl,rfl⟩
def b3i (hls:lsC n ps p m = 0) (hI:∀ j,j < (trS n ps p m).length + 1 -> jt n (trT n ps p m j) = false):prS n ps p m = [] /\ prC n ps p m = 11:=by
 have hq:=ac4 hls;have hc:(rcR n ps p m).2.2 = 0:=by rw [hq]
 have hx:prX n ps p m = -1:=by
  unfold prX;rw [hq];refine qx (p:=fun a:Int × List Rw=>jt n a.2) fun j hj=>?_;have hj:j < (jw n p m (av (bj n ps)) (lsT n ps p m).1).length:=hj;rw [zp] at hj;show jt n ((jw n p m _ _).getD j default).2 = false;rw [a88 bnl];exact hI j hj
 unfold prS prC;rw [if_pos hc,if_pos hc,hx,if_pos bnl,if_pos bnl];exact ⟨rfl,rfl⟩
def be8 (hls:lsC n ps p m = 0) (hb:lsB n ps p m = true):prC n ps p m = 0:=by
 obtain ⟨hv,hbe⟩:=a2k hls;have hc:(lsT n ps p m).2.2 = 0:=(ahk hv hbe).symm.trans hls;obtain ⟨sts,lend,e,htr,_,hif⟩:=atu hv hbe hc
 have hin:d7 n ∈ lend:=by
  unfold lsB at hb;rw [bjm,e] at hb;obtain ⟨r,hr,he⟩:=bke.1 hb.2;rw [<- of_decide_eq_true he];exact hr
 obtain ⟨t,ht,hf⟩:=hif.2 hin;apply Classical.byContradiction;intro hne;have hs:trS n ps p m = sts:=by show (lsT n ps p m).1 = sts;rw [e]
 have hall:∀ j,j < (trS n ps p m).length + 1 -> jt n (trT n ps p m j) = false:=by
  apply Classical.byContradiction;intro hno
  have:∃ j,j < (trS n ps p m).length + 1 /\ jt n (trT n ps p m j) = true:=by
   apply Classical.byContradiction;intro hno2;exact hno fun j hj=>bjp.2 fun h=>hno2 ⟨j,hj,h⟩
  obtain ⟨j,hj,hjt⟩:=this
  have key:∀ k,k <= j -> (∀ i,i < k -> jt n (trT n ps p m i) = false) \/ prC n ps p m = 0:=by
   intro k
   induction k with
   | zero=>exact fun _=>.inl fun i hi=>absurd hi (bjh i)
   | succ k ih =>
    intro hk
    rcases ih bnl with h | h
    · rcases Bool.eq_false_or_eq_true (jt n (trT n ps p m k)) with hb2 | hb2
      · exact .inr (a99 hls (i:=k) bnl h hb2).2
      refine .inl fun i hi=>?_;by_cases hik:i = k
      · rw [hik];exact hb2
      exact h i bnl
    exact .inr h
  rcases key j (bjg j) with h | h
  · exact hne (a99 hls (i:=j) bnl h hjt).2
  exact hne h
 obtain ⟨k,hk,he⟩:=bk4 ht;rw [a2n] at hk;have h1:=hall k (by rw [hs];exact hk)
 have h2:trT n ps p m k = t:=by
  show (trL n p m (tb0 n ps) (trS n ps p m)).getD k default = t;rw [hs,bjd,bjc (by rw [a2n];exact hk),<- he];rfl
 rw [h2] at h1;have:jt n t = true:=bke.2 ⟨d7 n,hf,decide_eq_true rfl⟩;rw [this] at h1;cases h1
def thB (n:Int) (l:List Fd) (p:AS):Bool:=qj n l p && decide (xf n l p = 0)
def byB (l:List Fd) (p:AS):Bool:=!tv l p && decide (ol l p = 0)
def foB (n:Int) (l m:List Fd) (p:AS):Bool:=!(a64 n l m p).2 && decide (ck4 n l m p = 0)
def j4 (a b c d:Bool):Int:=(bif a then 2 else 0) + ((bif b then 4 else 0) + ((bif c then 8 else 0) + (bif d then 16 else 0)))
def tl (n:Int) (l m:List Fd) (ps:List AS):Int:=j4 (o3 l ps) (ps.all (thB n l)) (ps.all (byB l)) (ps.all (foB n l m))
def x9 (n:Int) (l m:List Fd) (ps:List AS):Int:=if lsC n ps l m = 0 then tl n l m ps + (bif lsB n ps l m then 1 else 0) else 0
def bev (h:¬ lsC n ps l m = 0):x9 n l m ps = 0:=if_neg h
def bet (h:lsC n ps l m = 0) (hb:lsB n ps l m = true):x9 n l m ps = al .or .i64 (tl n l m ps) 1:=by
 unfold x9;rw [if_pos h,hb];unfold tl;generalize o3 l ps = a;generalize ps.all (thB n l) = b;generalize ps.all (byB l) = c;generalize ps.all (foB n l m) = d;cases a <;> cases b <;> cases c <;> cases d <;> decide
def bek (h:lsC n ps l m = 0) (hb:lsB n ps l m = false):x9 n l m ps = tl n l m ps:=by
 unfold x9;rw [if_pos h,hb];exact Int.add_zero _
def b5t (h:lsC n ps l m = 0):decide (al .and .i64 (x9 n l m ps) 1 = 0) = !lsB n ps l m:=by
 unfold x9;rw [if_pos h];unfold tl;generalize o3 l ps = a;generalize ps.all (thB n l) = b;generalize ps.all (byB l) = c;generalize ps.all (foB n l m) = d;generalize lsB n ps l m = e;cases a <;> cases b <;> cases c <;> cases d <;> cases e <;> decide
section
variable {a:Bool}
def atp (h:a = true):al .or .i64 0 2 = j4 a false false false:=by rw [h];decide
def awk {b:Bool} (h:b = true):al .or .i64 (j4 a false false false) 4 = j4 a b false false:=by rw [h];cases a <;> decide
def aut {b c:Bool} (h:c = true):al .or .i64 (j4 a b false false) 8 = j4 a b c false:=by rw [h];cases a <;> cases b <;> decide
def awe {b c d:Bool} (h:d = true):al .or .i64 (j4 a b c false) 16 = j4 a b c d:=by rw [h];cases a <;> cases b <;> cases c <;> decide
abbrev Dsg:=List AS × Int × List St
abbrev dsn (d:Dsg):PC:=.agg [asl d.1, .raw (.int .i64 d.2.1),stl d.2.2]
def fuD (n:Int) (l m:List Fd) (ps:List AS):Dsg:=if lsC n ps l m = 0 then (ps,x9 n l m ps,if lsB n ps l m = true then prS n ps l m else []) else ([],0,[])
def bhd (h:¬ lsC n ps l m = 0):fuD n l m ps = ([],0,[]):=if_neg h
def bg8 (h:lsC n ps l m = 0) (hb:lsB n ps l m = true):fuD n l m ps = (ps,x9 n l m ps,prS n ps l m):=by unfold fuD;rw [if_pos h,if_pos hb]
def bge (h:lsC n ps l m = 0) (hb:lsB n ps l m = false):fuD n l m ps = (ps,x9 n l m ps,[]):=by unfold fuD;rw [if_pos h,if_neg (by rw [hb];exact bmg)]
def ux (n:Int) (l m:List Fd):Int:=if n < 0 \/ 8 < n then 7 else be n l m
def md (n:Int) (l m:List Fd) (f:Int):List AS × Int:=if f = 3 then (a5k n l,bh n l) else if f = 4 then (ak0 n l,gm n l 8) else if f = 5 then (bhm n l m,ck4 n l m 0) else ([],1)
def bhx {f:Int} (h:f = 3):md n l m f = (a5k n l,bh n l):=if_pos h
def bgv {f:Int} (h:¬ f = 3) (h2:f = 4):md n l m f = (ak0 n l,gm n l 8):=by unfold md;rw [if_neg h,if_pos h2]
def bhg {f:Int} (h:¬ f = 3) (h2:¬ f = 4) (h3:¬ f = 5):md n l m f = ([],1):=by unfold md;rw [if_neg h,if_neg h2,if_neg h3]
def goD (n:Int) (l m:List Fd) (q:List AS × Int):Dsg:=if ux n l m = 0 then (if q.2 = 0 then fuD n l m q.1 else ([],0,[])) else ([],0,[])
def goE (n:Int) (l m:List Fd) (q:List AS × Int):Int:=if ux n l m = 0 then (if q.2 = 0 then lsC n q.1 l m else q.2) else ux n l m
variable {q:List AS × Int}
def bat (h:¬ ux n l m = 0):goD n l m q = ([],0,[]) /\ goE n l m q = ux n l m:=⟨if_neg h,if_neg h⟩
def b9d (h:ux n l m = 0) (h2:¬ q.2 = 0):goD n l m q = ([],0,[]) /\ goE n l m q = q.2:=by
 unfold goD goE;rw [if_pos h,if_neg h2,if_pos h,if_neg h2];exact ⟨rfl,rfl⟩
def baz (h:ux n l m = 0) (h2:q.2 = 0):goD n l m q = fuD n l m q.1 /\ goE n l m q = lsC n q.1 l m:=by
 unfold goD goE;rw [if_pos h,if_pos h2,if_pos h,if_pos h2];exact ⟨rfl,rfl⟩
def oe (n:Int) (l:List Fd):List AS × Int:=if gm n l 8 = 0 then (if w9 n l = true then (a0p n l,0) else (a5k n l,bh n l)) else (a0p n l,gm n l 8)
def bhq (h:¬ gm n l 8 = 0):oe n l = (a0p n l,gm n l 8):=if_neg h
def bg4 (h:gm n l 8 = 0) (h2:w9 n l = true):oe n l = (a0p n l,gm n l 8):=by unfold oe;rw [if_pos h,if_pos h2,h]
def bi1 (h:gm n l 8 = 0) (h2:w9 n l = false):oe n l = (a5k n l,bh n l):=by unfold oe;rw [if_pos h,if_neg (by rw [h2];exact bmg)]
def b22 (h:n < 0 \/ 8 < n):ux n l m = 7:=if_pos h
def bfv (h:¬ (n < 0 \/ 8 < n)):ux n l m = be n l m:=if_neg h
end
end
end
section
section
variable {n:Int} {l m:List Fd} {ps:List AS} {p x:AS}
def aar (h:lvE n ps = 0 /\ be n l m = 0):0 <= n /\ n <= 8 /\ be n l m = 0 /\ bh n l = 0 /\ (∀ f ∈ l,sub f.lhs (a8 n) /\ sub f.rhs (a8 n)) /\ ∀ q ∈ ps,sub q (a8 n) /\ bsz q <= 8:=by
 obtain ⟨h1,h2⟩:=h
 have hv:bh n l = 0:=by
  unfold be at h2;split at h2
  · assumption
  exact h2
 have hn:0 <= n /\ n <= 8:=by
  unfold lvE at h1;split at h1
  · cases h1
  omega
 exact ⟨hn.1,hn.2,h2,hv,apu hv,fun q hq=>⟨a4n h1 hq,bjr (af2 (a4n h1 hq)) (akd (n:=n) (m:=8) hn.2 bnl)⟩⟩
def afa (h1:n <= 16):sub (a8 n) (a8 16):=ar.2 fun i hi h=>by
 unfold a8 at h ⊢;have e:min (Int.toNat 16) 32 = 16:=rfl;rw [e];rw [o9 _ i hi] at h ⊢;rw [decide_eq_true_iff] at h ⊢;omega
def bd8 (h:lvE n ps = 0 /\ be n l m = 0) (hp:p ∈ ps):thB n l p = qj n l p:=by
 obtain ⟨_,_,_,hv,_,hq⟩:=aar h;unfold thB;rw [(ahd hv (hq p hp).1).1];simp
def b2y (h:lvE n ps = 0 /\ be n l m = 0) (hp:p ∈ ps):byB l p = !dy l p:=by
 obtain ⟨h0,h8,_,hv,hu,hq⟩:=aar h;obtain ⟨q1,q2⟩:=hq p hp;obtain ⟨_,_,hl,_⟩:=fv hv
 have hv16:bh 16 l = 0:=by
  unfold bh;rw [if_neg bnl,if_neg bnl,if_pos];rw [bkk];intro f hf;exact (ph bnl bnl).2 ⟨gr (hu f hf).1 (afa bnl),gr (hu f hf).2 (afa bnl)⟩
 have he:ol l p = 0:=by
  unfold ol;rw [if_pos hv16,if_neg bnl,if_pos];exact (a43 (s:=p) (n:=16) bnl bnl).1 (gr q1 (afa bnl))
 unfold byB tv;rw [he];simp
def bdd (h:lvE n ps = 0 /\ be n l m = 0) (hp:p ∈ ps):foB n l m p = !vBo (lw n l m) p:=by
 obtain ⟨h0,h8,hb,hv,hu,hq⟩:=aar h;obtain ⟨q1,q2⟩:=hq p hp
 have hk:ck4 n l m p = 0:=by
  rw [abx bnl];unfold ckB;rw [if_pos hb,if_pos ((a43 h0 bnl).1 q1)]
 unfold foB;rw [hk,am7 hk];unfold vBo;simp
def fmI (n:Int) (l m:List Fd) (q:List AS):Int:=j4 false (q.all (qj n l)) (q.all fun p=>!dy l p) (q.all fun p=>!vBo (lw n l m) p)
def bgf {b c d:Bool}:al .andNot .i64 (j4 false b c d) 4 = j4 false false c d:=by cases b <;> cases c <;> cases d <;> decide
def bgb {b c d:Bool}:al .andNot .i64 (j4 false b c d) 8 = j4 false b false d:=by cases b <;> cases c <;> cases d <;> decide
def bh3 {b c d:Bool}:al .andNot .i64 (j4 false b c d) 16 = j4 false b c false:=by cases b <;> cases c <;> cases d <;> decide
def fm1 (n:Int) (l m:List Fd) (q:List AS) (i:Nat):Int:=j4 false ((q.take (i + 1)).all (qj n l)) ((q.take i).all fun p=>!dy l p) ((q.take i).all fun p=>!vBo (lw n l m) p)
def fm2 (n:Int) (l m:List Fd) (q:List AS) (i:Nat):Int:=j4 false ((q.take (i + 1)).all (qj n l)) ((q.take (i + 1)).all fun p=>!dy l p) ((q.take i).all fun p=>!vBo (lw n l m) p)
section
variable {i:Nat}
def a1s {P:AS -> Bool} {q:List AS} (hi:i < q.length):(q.take (i + 1)).all P = ((q.take i).all P && P (q.getD i default)):=by
 rw [au hi,List.all_append];simp
def bdx (hi:i < ps.length) (h:qj n l (ps.getD i default) = true):fmI n l m (ps.take i) = fm1 n l m ps i:=by
 unfold fm1 fmI;rw [a1s hi,h,Bool.and_true]
def bf9 (hi:i < ps.length) (h:qj n l (ps.getD i default) = false):al .andNot .i64 (fmI n l m (ps.take i)) 4 = fm1 n l m ps i:=by
 unfold fm1 fmI;rw [bgf,a1s hi,h,bnj]
def bf5 (hi:i < ps.length) (h:dy l (ps.getD i default) = false):fm1 n l m ps i = fm2 n l m ps i:=by
 unfold fm1 fm2;rw [a1s (P:=fun p=>!dy l p) hi,h];simp
def bdt (hi:i < ps.length) (h:dy l (ps.getD i default) = true):al .andNot .i64 (fm1 n l m ps i) 8 = fm2 n l m ps i:=by
 unfold fm1 fm2;rw [bgb,a1s (P:=fun p=>!dy l p) hi,h];simp
def bf1 (hi:i < ps.length) (h:vBo (lw n l m) (ps.getD i default) = false):fm2 n l m ps i = fmI n l m (ps.take (i + 1)):=by
 unfold fm2 fmI;rw [a1s (P:=fun p=>!vBo (lw n l m) p) hi,h];simp
def bfs (hi:i < ps.length) (h:vBo (lw n l m) (ps.getD i default) = true):al .andNot .i64 (fm2 n l m ps i) 16 = fmI n l m (ps.take (i + 1)):=by
 unfold fm2 fmI;rw [bh3,a1s (P:=fun p=>!vBo (lw n l m) p) hi,h];simp
def fmL (n:Int) (l m:List Fd) (q:List AS):Int:=fmI n l m q + (bif lsB n q l m then 1 else 0)
def b7g (h:lvE n ps = 0 /\ be n l m = 0):fmI n l m ps = j4 false (ps.all (thB n l)) (ps.all (byB l)) (ps.all (foB n l m)):=by
 have e:∀ {P Q:AS -> Bool},(∀ q ∈ ps,P q = Q q) -> ps.all P = ps.all Q:=fun {P Q} hh=>by
  rw [blh,bkk,bkk];exact forall_congr' fun q=>forall_congr' fun hq=>by rw [hh q hq]
 unfold fmI;rw [e (P:=qj n l) fun q hq=>(bd8 h hq).symm,e (P:=fun p=>!dy l p) fun q hq=>(b2y h hq).symm,e (P:=fun p=>!vBo (lw n l m) p) fun q hq=>(bdd h hq).symm]
end
end
end
section
def a9r (l:List Fd) (ps:List AS) (z:AS):AS:=match ps.find? (er l z) with | none=>z | some p=>z ||| pg l p z
section
variable {l:List Fd}
def awg {p z:AS}:sub (clo l (z &&& p) &&& p) z <-> er l z p = false:=by
 unfold er pg sub;rw [BitVec.and_comm (clo l (z &&& p)) p,decide_eq_false_iff_not,Ne,Decidable.not_not]
def bem (z a:AS):z ||| a = z ||| (a &&& ~~~z):=by
 apply bkv;intro i hi;simp only [bky,bjv,blg,decide_eq_true hi];cases z.getLsbD i <;> cases a.getLsbD i <;> rfl
variable {ps:List AS}
def bgq {z:AS} {i:Nat} (hi:i < ps.length) (hI:∀ j,j < i -> er l z (ps.getD j default) = false) (h:er l z (ps.getD i default) = true):
 idx (er l z) ps = (i:Int) /\ a9r l ps z = z ||| (clo l (z &&& ps.getD i default) &&& ps.getD i default):=by
 refine ⟨re hi hI h, ?_⟩;unfold a9r;rw [ab7 hi hI h,bem z (clo l (z &&& ps.getD i default) &&& ps.getD i default),BitVec.and_comm (clo l (z &&& ps.getD i default))];rfl
def bhk {z:AS} (hI:∀ j,j < ps.length -> er l z (ps.getD j default) = false):idx (er l z) ps = -1 /\ a9r l ps z = z:=by
 refine ⟨qx hI, ?_⟩;unfold a9r;rw [ak9 hI]
def bfx {z:AS} {i:Nat} (hi:i < ps.length) (h:er l z (ps.getD i default) = true) (hI:∀ j,j < i -> er l z (ps.getD j default) = false):a9r l ps z = z ||| pg l (ps.getD i default) z:=by
 unfold a9r;rw [ab7 hi hI h]
end
end
section
open Go.Proofs
def auf (l:List Fd) (ps:List AS) (z:AS):a6 bo6 209 [pP (fdl l),pP (asl ps),pA z] (a7 [pI (idx (er l z) ps),pA (a9r l ps z)]):=by
 refine hpx (nt:=38) Tryz.func209 ?_;refine w_7 ?_;refine c6 1 rfl fun hbt=>?_;refine w_4 ?_;refine ae (ι:=Nat) (ka 0 (ka 1 (ka 2 kn))) km (fun i=>⟨[(8,some (vI i))],[]⟩) (fun i=>i <= ps.length /\ ∀ j,j < i -> er l z (ps.getD j default) = false) (fun i=>ps.length - i) (0) (⟨bji _,fun j hj=>absurd hj (bjh j)⟩) kk ?_;rintro i ⟨hi,hI⟩;refine w_8 ?_;refine hcd (fun h0=>?_) (fun h0=>?_)
 ·
  refine fj ?_;refine rc rfl rfl rfl rfl rfl rfl a7c (a7d l (z &&& (ps.getD i default))) (⟨CoC.refl _,cci (fc _ _),trivial⟩) rfl rfl ?_;refine fj ?_;refine rc rfl rfl rfl rfl rfl rfl np (w6 (clo l (z &&& (ps.getD i default)) &&& (ps.getD i default)) z) (⟨cci (fc _ _),CoC.refl _,trivial⟩) rfl rfl ?_;refine w_2 ?_;refine hcv (fun h1=>?_) (fun h1=>?_)
  ·
   have hm:er l z (ps.getD i default) = true:=by
    cases hq:er l z (ps.getD i default) with
    | true=>rfl
    | false=>exact absurd (awg.2 hq) (a3t h1)
   obtain ⟨he1,he2⟩:=bgq bnl hI hm;refine v_9 ?_;exact ⟨cci he1.symm,cci (by rw [he2,fc,bOr];rfl),trivial⟩
  have hm:er l z (ps.getD i default) = false:=awg.1 (a15 h1);refine w_6 ?_;refine lpz (i + 1) kk ?_;refine ⟨by omega,fun j hj=>?_⟩;by_cases e:j = i
  · rw [e];exact hm
  exact hI j bnl
 obtain rfl:i = ps.length:=by omega
 obtain ⟨he1,he2⟩:=bhk hI;refine v_7 ?_;exact ⟨cci he1.symm,cci (by rw [he2]),trivial⟩
def ayx (l:List Fd) (ps:List AS) (z0:AS):a6 bo6 161 [pP (fdl l),pP (asl ps),pA z0] (a7 [pA (a2t l ps z0)]):=by
 refine hpx (nt:=20) Tryz.func161 ?_;refine w_5 ?_;refine ae (ι:=Nat × List Nat × AS) (ka 0 (ka 1 kn)) km (fun x=>⟨[(2,some (vA x.2.2))],[]⟩) (fun x=>a97 l ps z0 x) (fun x=>x.1) ((4294967297,[],z0)) (ais l ps z0) kk ?_;rintro x hx;have hpos:=a7z hx;refine w_6 ?_;refine qcx (wgx Tryz.func209) (auf l ps x.2.2) ?_;refine fj ?_;refine hcd (fun h0=>?_) (fun h0=>?_)
 · refine v_5 ?_;exact ⟨cci (congrArg asI (ap2 hx bnl)),trivial⟩
 obtain ⟨i0,hi0,hi1,hi2,hi3⟩:=yk (p:=er l x.2.2) (l:=ps) bnl;refine w_5 ?_;refine ⟨(x.1 - 1,x.2.1 ++ [i0],x.2.2 ||| pg l (ps.getD i0 default) x.2.2), ?_, ?_, ?_⟩
 · exact ajv hx hi1 hi2 hi3
 · dsimp only
   omega
 exact ⟨⟨⟨_,rfl,(coi (congrArg asI (bfx hi1 hi2 hi3)))⟩,tt⟩,trivial⟩
def b0i (l:List Fd) (ps:List AS) (x:Fd):a6 bo6 110 [pP (fdl l),pP (asl ps),x.pc] (a7 [pB (xv l ps x)]):=by
 refine hpx (nt:=15) Tryz.func110 ?_;refine sx7 ?_;refine m9 0 ?_;refine c7 ?_;refine qcx (wgx Tryz.func161) (ayx l ps x.lhs) ?_;refine qcx np (w6 x.rhs (a2t l ps x.lhs)) ?_;refine v_3 ?_;exact ⟨CoC.refl _,trivial⟩
def axr (l:List Fd) (ps:List AS) (hl:l.length <= 16777216):a6 bo6 49 [pP (fdl l),pP (asl ps)] (a7 [pP (il (bw l ps l.length))]):=by
 refine hpx (nt:=26) Tryz.func49 ?_;refine nx ?_;refine cb 5 900 true 1 3 (lf iC []) bns rfl (CoP.sl rfl (.inr rfl) (fun h=>h) (fun i j hi _=>absurd hi (bjh i))) (.inr rfl) rfl ?_;refine bg (ka 0 (ka 1 kn)) km (fun i=>⟨[(5,some (.v (.one (.ref 900 (bw l ps i).length)))),(6,some (vI i))],[(900,some (.arr true 1 3 (bw l ps i).length (lf iC (bw l ps i))))]⟩) l.length kk ?_;rintro i hi;have hlen:=afj l ps i;refine w_8 ?_;refine hcd (fun h0=>?_) (fun h0=>?_)
 ·
  refine ct ?_;refine qcx (wgx Tryz.func110) (b0i l ps (l.getD i default)) ?_;refine w_2 ?_;refine ak _ rfl (fun r1=>?_) (fun r1=>?_)
  ·
   have h1:=cj r1;have hq:=cj r1;refine w_3 ?_;refine m9 0 ?_;refine r9 1 true ?_;refine w_7 ?_
   first | (refine ⟨i + 1, ?_, ?_, ?_⟩
            · show i + 1 <= _;omega
            · first | omega | (dsimp only;omega)
            exact ⟨⟨⟨_,rfl,(bv (sw bnm))⟩,tt⟩,⟨⟨_,rfl,(bt (sw bnm) (CoP.refl _))⟩,trivial⟩⟩)
         | (refine ⟨i + 1, ?_, ?_, ?_⟩
            · show i + 1 <= _;omega
            · first | omega | (dsimp only;omega)
            exact ⟨⟨⟨_,rfl,(bz (sx bnm))⟩,tt⟩,⟨⟨_,rfl,(bq (sx bnm))⟩,trivial⟩⟩)
  have h1:=ck r1;have hq:=ck r1;refine w_6 ?_
  first | (refine ⟨i + 1, ?_, ?_, ?_⟩
           · show i + 1 <= _;omega
           · first | omega | (dsimp only;omega)
           exact ⟨⟨⟨_,rfl,(bv (sw bnm))⟩,tt⟩,⟨⟨_,rfl,(bt (sw bnm) (CoP.refl _))⟩,trivial⟩⟩)
        | (refine ⟨i + 1, ?_, ?_, ?_⟩
           · show i + 1 <= _;omega
           · first | omega | (dsimp only;omega)
           exact ⟨⟨⟨_,rfl,(bz (sx bnm))⟩,tt⟩,⟨⟨_,rfl,(bq (sx bnm))⟩,trivial⟩⟩)
 obtain rfl:i = l.length:=by omega
 refine w_6 ?_;refine aq 4 rfl rfl rfl ?_;exact hx8 rfl rfl rfl (CoL.refl _)
end
section
open Go.Proofs
def bhs (b:Bs) (g k:Nat) (caps:Nat -> PV) (V:UInt8 -> Bool) (hg:goodFn bo6 g) (hV:∀ x,a6 bo6 g (pU8 x :: gq caps k 0) (a7 [pB (V x)])):a6 bo6 210 [pP (byl b),pP (.fn g k caps)] (a7 [pI (idx V b.data.toList)]):=by
 refine hpx (nt:=19) Tryz.func210 ?_;refine ce ?_;refine c6 0 rfl fun hn=>?_;refine w_3 ?_;refine dq (ι:=Unit) kn km (fun _i=>⟨[],[]⟩) (fun _i=>idx V b.data.toList = -1) ?_ ?_
 ·
  refine w_7 ?_;refine ae (ι:=Nat) (ka 0 (ka 1 (ka 7 kn))) km (fun i=>⟨[(8,some (vI i))],[]⟩) (fun i=>i <= b.data.toList.length /\ (∀ j,j < i -> V (b.data.toList.getD j default) = false)) (fun i=>b.data.toList.length - i) (0) (⟨bji _,bm⟩) kk ?_;rintro i ⟨hi,hI⟩;refine w_5 ?_;refine hcd (fun h0=>?_) (fun h0=>?_)
  ·
   refine lb ?_;refine rc rfl rfl rfl rfl rfl rfl hg (hV (b.data.toList.getD i default)) (CoL.refl _) rfl rfl ?_;refine c5 ?_;refine hcb (fun h1=>?_) (fun h1=>?_)
   · refine v_5 ?_;exact ⟨cci (re (i:=i) bnl hI h1).symm,trivial⟩
   refine w_5 ?_;refine lpz (i + 1) kk ?_;exact ⟨by show i + 1 <= _;omega,ax hI (h1)⟩
  refine dj ?_;refine ⟨(), ?_, ?_⟩
  · exact qx fun j hj=>hI j bnl
  exact ⟨trivial,trivial⟩
 rintro _ hj;refine v_4 ?_;exact ⟨cci hj.symm,trivial⟩
def bgy (b:Bs) (g k:Nat) (caps:Nat -> PV) (V:UInt8 -> Bool) (hg:goodFn bo6 g) (hV:∀ x,a6 bo6 g (pU8 x :: gq caps k 0) (a7 [pB (V x)])):a6 bo6 162 [pP (byl b),pP (.fn g k caps)] (a7 [pB (b.data.toList.any V)]):=by
 refine hpx (nt:=9) Tryz.func162 ?_;refine w_8 ?_;refine qcx (wgx Tryz.func210) (bhs b g k caps V hg hV) ?_;refine v_3 ?_;exact ⟨ccb ze,trivial⟩
def bg5 (l:List Bs) (s:Bs):a6 bo6 211 [pP (bsl l),pS s] (a7 [pI (idx (fun x=>decide (x = s)) l)]):=by
 refine hpx (nt:=19) Tryz.func211 ?_;refine ce ?_;refine c6 0 rfl fun hn=>?_;refine w_3 ?_;refine dq (ι:=Unit) kn km (fun _i=>⟨[],[]⟩) (fun _i=>idx (fun x=>decide (x = s)) l = -1) ?_ ?_
 ·
  refine w_7 ?_;refine ae (ι:=Nat) (ka 0 (ka 1 (ka 7 kn))) km (fun i=>⟨[(8,some (vI i))],[]⟩) (fun i=>i <= l.length /\ (∀ j,j < i -> decide (l.getD j default = s) = false)) (fun i=>l.length - i) (0) (⟨bji _,bm⟩) kk ?_;rintro i ⟨hi,hI⟩;refine w_5 ?_;refine hcd (fun h0=>?_) (fun h0=>?_)
  ·
   refine zc ?_;refine hcd (fun h1=>?_) (fun h1=>?_)
   · refine v_5 ?_;exact ⟨cci (re (p:=fun x=>decide (x = s)) (i:=i) bnl hI (decide_eq_true h1.symm)).symm,trivial⟩
   refine w_5 ?_;refine lpz (i + 1) kk ?_;exact ⟨by show i + 1 <= _;omega,ax hI (decide_eq_false fun e=>h1 e.symm)⟩
  refine dj ?_;refine ⟨(), ?_, ?_⟩
  · exact qx (p:=fun x=>decide (x = s)) fun j hj=>hI j bnl
  exact ⟨trivial,trivial⟩
 rintro _ hj;refine v_4 ?_;exact ⟨cci hj.symm,trivial⟩
def bgh (l:List Bs) (s:Bs):a6 bo6 164 [pP (bsl l),pS s] (a7 [pB (l.any fun x=>decide (x = s))]):=by
 refine hpx (nt:=9) Tryz.func164 ?_;refine w_8 ?_;refine qcx (wgx Tryz.func211) (bg5 _ _) ?_;refine v_3 ?_;exact ⟨ccb ze,trivial⟩
def bdk (x:UInt8):a6 bo6 163 [pU8 x] (a7 [pB (alz x)]):=by
 refine hpx (nt:=9) Tryz.func163 ?_;refine w_9 ?_;refine ah rfl rfl (fun r0=>?_) (fun r0=>?_)
 ·
  have h0:=tz1 r0;(iterate 2 refine k9 (gtf r0) ?_);refine rq rfl rfl rfl rfl rfl ?_ (hp:=r0);refine w_2 ?_
  exact hx8 rfl rfl rfl (⟨ccb (by unfold alz;first | rfl | simp_all),trivial⟩)
 have h0:=tz2 r0;(iterate 2 refine qy ?_ (hg:=(gff r0)));refine w_3 ?_
 exact hx8 rfl rfl rfl (⟨ccb (by unfold alz;first | rfl | simp_all),trivial⟩)
def bho (l:List Bs) (hl:∀ b ∈ l,b.size <= maxLen):a6 bo6 111 [pP (bsl l)] (a7 [pI (mh l)]):=by
 refine hpx (nt:=30) Tryz.func111 ?_;refine w_6 ?_;refine c6 0 rfl fun hn=>?_;refine w_5 ?_;refine hcd (fun h0=>?_) (fun h0=>?_)
 · have he:=bhn h0;refine v_4 ?_;exact ⟨cci he.symm,trivial⟩
 refine w_9 ?_;refine ae (ι:=Nat) (ka 0 (ka 8 (ka 9 kn))) km (fun i=>⟨[(10,some (vI i))],[]⟩) (fun i=>i <= l.length /\ (∀ j,j < i -> s4 l j = false)) (fun i=>l.length - i) (0) (⟨bji _,bm⟩) kk ?_;rintro i ⟨hi,hI⟩;refine w_5 ?_;refine hcd (fun h1=>?_) (fun h1=>?_)
 ·
  have hsz:(l.getD i default).size <= maxLen:=hl _ (by rw [bjd,bjc bnl];exact bk7 _);refine sh ?_;refine ah rfl rfl (fun r2=>?_) (fun r2=>?_)
  ·
   have h2:=tz1 r2;have hb:s4 l i = true:=by unfold s4;simp_all
   (iterate 3 refine k9 (gtf r2) ?_);refine rq rfl rfl rfl rfl rfl ?_ (hp:=r2);refine qy ?_;(iterate 5 refine k9 rfl ?_);refine w_7 ?_
   exact hx8 rfl rfl rfl (⟨cci (az6 h0 bnl hb).symm,trivial⟩)
  have h2:=tz2 r2;refine qy ?_ (hg:=(gff r2));refine rv rfl rfl rfl rfl rfl (gff r2) ?_;refine qcx (wgx Tryz.func162) (bgy (l.getD i default) 163 0 (fun _=>.any) alz (wgx Tryz.func163) bdk) ?_ (hg:=(gff r2));refine w_2 ?_;refine ah rfl rfl (fun r3=>?_) (fun r3=>?_)
  ·
   have h3:=am r2 r3;have hb:s4 l i = true:=by unfold s4;simp_all
   (iterate 5 refine k9 (gtf r3) ?_);refine rq rfl rfl rfl rfl rfl ?_ (hp:=r3);refine w_6 ?_
   exact hx8 rfl rfl rfl (⟨cci (az6 h0 bnl hb).symm,trivial⟩)
  have h3:=am r2 r3;(iterate 4 refine qy ?_ (hg:=(gff r3)));refine rc rfl rfl rfl rfl rfl rfl (wgx Tryz.func164) (bgh (l.take i) (l.getD i default)) (⟨CoC.one (aq1 (k:=i) bnl),CoC.refl _,trivial⟩) rfl (gff r3) ?_;refine w_2 ?_
  refine ak _ rfl (fun r4=>?_) (fun r4=>?_)
  ·
   have h4:=am r3 r4;have hb:s4 l i = true:=by unfold s4;simp_all
   refine v_4 ?_;exact ⟨cci (az6 h0 bnl hb).symm,trivial⟩
  have h4:=am r3 r4;have hb:s4 l i = false:=by unfold s4;simp_all
  refine w_5 ?_;refine lpz (i + 1) kk ?_;exact ⟨by show i + 1 <= _;omega,ax hI (hb)⟩
 obtain rfl:i = l.length:=by omega
 refine v_5 ?_;exact ⟨cci (bgj h0 hI).symm,trivial⟩
end
end Go.Hx
