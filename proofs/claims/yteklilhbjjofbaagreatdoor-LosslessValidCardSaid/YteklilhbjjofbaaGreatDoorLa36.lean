/- A part of the proof: Jw7 Jw8. -/
import Derived.Test.YteklilhbjjofbaaGreatDoorLa35
set_option linter.all false
set_option maxRecDepth 100000
set_option maxHeartbeats 1000000
namespace Go.Hx
section
open Go.Proofs
def aa3:goodFn b6e 18:=wgx Tryz.func18
def arb (n:Nat) (c:Bool) (f:Nat -> Nat -> PV) (hn:n <= 17592186044416) :
 c8 b6e 18 [.one (.p (.sl n 2 c f))] [] (.v (.one (.ref 0 n))) [(0, .arr true 2 43 n f)] []:=by
 refine hfx (nt:=8) Tryz.func18 ?_;refine sx7 ?_;refine av true rfl rfl rfl rfl rfl trivial ?_;refine bm ?_;refine p7 (ι:=Bool) (fun c=>⟨[(0,some (b4 (.sl n 2 c f)))],[]⟩) (fun _=>True) ?_ fun c _=>?_
 · rcases b3y n with hz | h0
   · subst hz
     refine hw_exact' 0 rfl fun ad cap hcap=>?_;refine sx7 ?_;(iterate 2 refine av true rfl rfl rfl rfl rfl trivial ?_);refine bm ?_;refine ai ad.isNone rfl (fun hc=>?_) (fun hc=>?_)
     · refine sx7 ?_
       refine av true rfl rfl rfl rfl rfl trivial ?_;refine bm ?_;refine dn 2 0 true 2 43 f b5t rfl (CoP.sl rfl (.inr rfl) (fun h=>h) fun i j hi _=>absurd hi (b2y i)) (.inr rfl) rfl ?_;refine hrr ?_;exact ⟨_,_,rfl,trivial,CoR.refl _,uu⟩
     refine c4 ?_;exact ⟨false,trivial,⟨⟨_,rfl,CoP.raw_sl hcap⟩,trivial⟩,trivial⟩
   refine sx7 ?_;refine av true rfl rfl rfl rfl rfl trivial ?_;refine av true rfl rfl rfl rfl rfl h0 ?_;refine bm ?_;refine ai false rfl (fun hc=>by cases hc) (fun hc=>?_);refine c4 ?_;exact ⟨c,trivial,tt,trivial⟩
 refine sx7 ?_;refine ne 0 rfl rfl rfl rfl rfl rfl trivial ?_;refine av true rfl rfl rfl rfl rfl trivial ?_;refine qa 0 true rfl rfl rfl rfl rfl rfl ⟨trivial,rfl,rfl,rfl, .inl rfl,by show 0 + n <= 9223372036854775807;omega,by show (0 + n) * 8 <= 140737488355328;omega,fun _=>.inl rfl⟩ ?_;refine av true rfl rfl rfl rfl rfl trivial ?_;refine bm ?_;refine hrr ?_;refine ⟨_,_,rfl,trivial,CoR.of_eq (by show HR.v (.one (.ref 0 (0 + n))) = _;rw [b3b]),⟨⟨_,rfl, ?_⟩,trivial⟩⟩;exact ⟨fun h=>h,rfl,rfl,(b3b n).symm,fun i j _ _=>CoP.of_eq (by simp [cq])⟩
def a3l (n:Nat) (c:Bool) (f:Nat -> Nat -> PV) (hn:n <= 17592186044416):a8 b6e 18 [.one (.sl n 2 c f)] (.v (.one (.sl n 2 false f))) :=
 c8.pure (args:=[.one (.sl n 2 c f)]) (l:=[.one (.ref 0 n)]) (arb n c f hn) rfl ⟨rfl,trivial⟩
def ain (a b:List St):a8 b6e 23 [pP (stl a),pP (stl b)] (aa [pB (decide (a = b))]):=by
 refine hpx (nt:=26) Tryz.func23 ?_;refine w_6 ?_;refine c5 0 rfl fun han=>?_;refine w_7 ?_;refine hcn (fun h0=>?_) (fun h0=>?_)
 · refine v_4 ?_;exact ⟨ccb (decide_eq_false (fun e=>by subst e;omega)).symm,trivial⟩
 have hlen:a.length = b.length:=by omega
 refine w_7 ?_;refine ak (ι:=Nat) (ka 0 (ka 1 kn)) km (fun i=>⟨[(5,some (vI i))],[]⟩) (fun i=>i <= a.length /\ ∀ j,j < i -> decide (a.getD j default = b.getD j default) = true) (fun i=>a.length - i) (0) (⟨b2z _,b9⟩) kk ?_;rintro i ⟨hi,hI⟩;refine w_8 ?_;refine hcd (fun h1=>?_) (fun h1=>?_)
 ·
  refine mj ?_;refine hcb (fun h2=>?_) (fun h2=>?_)
  · refine v_4 ?_;exact ⟨ccb (decide_eq_false (fun e=>by subst e;exact absurd (show (!stQ (a.getD i default) (a.getD i default)) = true by assumption) (by rw [afc.2 rfl];decide))).symm,trivial⟩
  refine w_6 ?_;refine lpz (i + 1) kk ?_;exact ⟨by show i + 1 <= _;omega,ay hI (decide_eq_true (ax8 b5p))⟩
 obtain rfl:i = a.length:=by omega
 refine v_5 ?_;exact ⟨ccb (decide_eq_true (jw hlen fun j hj=>av7 (hI j hj))).symm,trivial⟩
def awt (n:Int) (a b:AS) (l:List Fd):a8 b6e 39 [pI n,pA a,pA b,pP (fdl l)] (aa [pB (a2q n a b l)]):=by
 refine hpx (nt:=35) Tryz.func39 ?_;refine w_9 ?_;refine qcx (wgx Tryz.func56) (afk n l) ?_;refine w_2 ?_;refine ag rfl rfl (fun r0=>?_) (fun r0=>?_)
 ·
  have h0:=tz2 (cz r0);(iterate 6 refine k9 (gtf r0) ?_);refine w_7 ?_
  exact hx8 rfl rfl rfl (⟨ccb (a4h (by first | exact .inl b5p | exact .inr (fun e=>absurd (show er .or .u32 (asI a) (asI b) = asI (ax n) by rw [bOr,e]) b5p))).symm,trivial⟩)
 have h0:=tz1 (cu r0);(iterate 4 refine qy ?_ (hg:=(gff r0)));refine qcx lr (lv n) ?_ (hg:=(gff r0));refine qy ?_ (hg:=(gff r0));refine w_2 ?_;refine ai _ rfl (fun r1=>?_) (fun r1=>?_)
 · have h1:=tz2 (cz (af r0 r1));refine v_4 ?_;exact ⟨ccb (a4h (by first | exact .inl b5p | exact .inr (fun e=>absurd (show er .or .u32 (asI a) (asI b) = asI (ax n) by rw [bOr,e]) b5p))).symm,trivial⟩
 have h1:=tz1 (cu (af r0 r1));have hv:c6 n l = 0:=by simp_all
 have hab:a ||| b = ax n:=i7.1 (by rw [<- bOr];first | assumption | exact b5h.1 b5p)
 refine w_7 ?_;refine rc rfl rfl rfl rfl rfl rfl (wgx Tryz.func80) (aqf l (a &&& b)) (⟨CoC.refl _,cci (a26 _ _),trivial⟩) rfl rfl ?_;refine w_6 ?_;refine qcx t7 (xb a (clo l (a &&& b))) ?_;refine qy ?_;refine ag rfl rfl (fun r2=>?_) (fun r2=>?_)
 ·
  have h2:=r2;(iterate 3 refine k9 (gtf r2) ?_);refine w_3 ?_
  exact hx8 rfl rfl rfl (⟨ccb (by rw [wa hv hab];simp_all),trivial⟩)
 have h2:=r2;(iterate 2 refine qy ?_ (hg:=(gff r2)));refine qcx t7 (xb b (clo l (a &&& b))) ?_ (hg:=(gff r2));refine w_3 ?_
 exact hx8 rfl rfl rfl (⟨ccb (by rw [wa hv hab];simp_all),trivial⟩)
def atx (n:Int) (ps:List AS):a8 b6e 3 [pI n,pP (asl ps)] (aa [pB true]):=by
 refine hpx (nt:=21) Tryz.func3 ?_;refine w_7 ?_;refine qcx o0 (jr) ?_;refine w_7 ?_;refine hcd (fun h0=>?_) (fun h0=>?_)
 · refine sx7 ?_;refine qcx o0 (jr) ?_;refine v_2 ?_;exact CoL.refl _
 have h70:ps.length <= 70:=by omega
 refine w_5 ?_;refine qcx abd (a3o ps.length false (lf sC ps) b5o) ?_;refine qcx a3r (a19 n ps) ?_;refine w_2 ?_;refine qcx aak (a2p n ps) ?_;refine v_3 ?_;exact ⟨ccb (decide_eq_true rfl),trivial⟩
def k6 (n:Int) (ps:List AS) (p m:List Fd):Int:=if lvE n ps = 0 then bi n p m else lvE n ps
def a59 {n:Int} {ps:List AS} {p m:List Fd} (h:¬ k6 n ps p m = 0):¬ lsC n ps p m = 0 /\ lsC n ps p m = k6 n ps p m /\ lsB n ps p m = false /\ prS n ps p m = [] /\ prC n ps p m = k6 n ps p m /\ a5r n ps p m = T0 /\ qp n ps p m = k6 n ps p m /\ ∀ sts,qn n ps p m sts = false:=by
 have e:lsC n ps p m = k6 n ps p m:=by
  unfold lsC k6 at *;by_cases hv:lvE n ps = 0
  · rw [if_pos hv] at h ⊢
    rw [if_pos hv,if_neg h]
  rw [if_neg hv,if_neg hv]
 have hn:¬ lsC n ps p m = 0:=by rw [e];exact h
 have hb:lsB n ps p m = false:=by unfold lsB;rw [decide_eq_false hn];rfl
 obtain ⟨p1,p2⟩:=adb hn;obtain ⟨c1,c2⟩:=ajy hn;refine ⟨hn,e,hb,p1,p2.trans e,c2,c1.trans e,fun sts=>?_⟩;unfold k6 at h;by_cases hv:lvE n ps = 0
 · rw [if_pos hv] at h
   exact ab8 h
 exact abj hv
section
variable {n:Int} {ps:List AS} {p m:List Fd}
def az2 (h:¬ k6 n ps p m = 0):a8 b6e 17 [pI n,pP (asl ps),pP (fdl p),pP (fdl m)] (aa [pB false,pI (k6 n ps p m)]):=by
 obtain ⟨_,e1,e2,_⟩:=a59 h;have:=ale n ps p m;rw [e1,e2] at this;exact this
def b0e (h:¬ k6 n ps p m = 0):a8 b6e 21 [pI n,pP (asl ps),pP (fdl p),pP (fdl m)] (aa [pP (stl []),pI (k6 n ps p m)]):=by
 obtain ⟨_,_,_,e1,e2,_⟩:=a59 h;have:=aax n ps p m;rw [e1,e2] at this;exact this
def b0b (h:¬ k6 n ps p m = 0):a8 b6e 27 [pI n,pP (asl ps),pP (fdl p),pP (fdl m)] (aa [T0.pc,pI (k6 n ps p m)]):=by
 obtain ⟨_,_,_,_,_,e1,e2,_⟩:=a59 h;have:=ath n ps p m;rw [e1,e2] at this;exact this
def az3 (h:¬ k6 n ps p m = 0) (sts:List RSt):a8 b6e 24 [pI n,pP (asl ps),pP (fdl p),pP (fdl m),pP (ag4 sts)] (aa [pB false]):=by
 obtain ⟨_,_,_,_,_,_,_,e1⟩:=a59 h;have:=a6j n ps p m sts;rw [e1] at this;exact this
end
def aw5 (n:Int) (ps:List AS) (x:Mx) (hl:x.d.l.length <= 16777216) (hm:x.m.length <= 16777216):a8 b6e 5 [pI n,pP (asl ps),x.pc] (aa [pB true]):=by
 refine hpx (nt:=108) Tryz.func5 ?_;refine sx7 ?_;refine m9 0 ?_;refine w_5 ?_;refine qcx (wgx Tryz.func25) (axe x hl hm) ?_;refine kj ?_;refine qcx o0 (jr) ?_;refine w_6 ?_;refine ag rfl rfl (fun r0=>?_) (fun r0=>?_)
 ·
  have h0:=cz r0;(iterate 3 refine k9 (gtf r0) ?_);refine w_5 ?_;refine qcx o0 (jr) ?_;refine w_2 ?_
  exact hx8 rfl rfl rfl (CoL.refl _)
 have h0:=cu r0;(iterate 3 refine qy ?_ (hg:=(gff r0)));refine w_2 ?_;refine ai _ rfl (fun r1=>?_) (fun r1=>?_)
 · have h1:=tz1 (af r0 r1);refine sx7 ?_;refine qcx o0 (jr) ?_;refine v_2 ?_;exact CoL.refl _
 have h1:=tz2 (af r0 r1);have h70:ps.length <= 70:=by omega
 refine w_5 ?_;refine qcx aak (a2p n ps) ?_;refine w_2 ?_;refine ww (ka 0 (ka 1 (ka 8 (ka 9 kn)))) km ⟨[(11,some (vI (k6 n ps x.d.fds x.mv)))],[]⟩ ?_ ?_
 ·
  refine w_5 ?_;refine hcd (fun h2=>?_) (fun h2=>?_)
  · refine w_4 ?_;refine qcx z1 (sn n x.d.fds x.mv) ?_;refine w_2 ?_;exact ⟨⟨⟨_,rfl,(coi (by unfold k6;first | rw [if_pos b5p] | rw [if_neg b5p]))⟩,tt⟩,trivial⟩
  refine c4 ?_;exact ⟨⟨⟨_,rfl,(coi (by unfold k6;first | rw [if_pos b5p] | rw [if_neg b5p]))⟩,tt⟩,trivial⟩
 refine w_6 ?_;refine hcd (fun h3=>?_) (fun h3=>?_)
 · refine v_4 ?_;exact CoL.refl _
 have hz:¬ (k6 n ps x.d.fds x.mv) = 0:=by assumption
 refine w_7 ?_;refine qcx ac4 (az2 hz) ?_;refine jh ?_;refine qcx aa7 (b0e hz) ?_;refine jh ?_;refine qcx (wgx Tryz.func27) (b0b hz) ?_;refine w_3 ?_;refine m9 1 ?_;refine anc ?_;refine ag rfl rfl (fun r4=>?_) (fun r4=>?_)
 ·
  have h4:=tz1 r4;(iterate 3 refine qy ?_ (hg:=(gtt r4)));refine w_2 ?_;refine ag rfl rfl (fun r5=>?_) (fun r5=>?_)
  ·
   have h5:=tz1 (ci r4 r5);(iterate 3 refine qy ?_ (hg:=(gtt r5)));refine w_2 ?_;refine ag rfl rfl (fun r6=>?_) (fun r6=>?_)
   · have h6:=tz1 (ci r5 r6);(iterate 4 refine qy ?_ (hg:=(gtt r6)));refine rc rfl rfl rfl rfl rfl rfl aac (az3 hz []) (⟨CoC.refl _,CoC.refl _,CoC.refl _,CoC.refl _,CoC.one (CoP.sl rfl (.inr rfl) (fun h=>by cases h) fun i j hi _=>absurd hi (b2y i)),trivial⟩) rfl (gtt r6) ?_;refine qy ?_ (hg:=(gtt r6));refine v_3 ?_;exact ⟨ccb (by first | rfl | simp),trivial⟩
   have h6:=tz2 (ci r5 r6);exfalso;simp at r6
  have h5:=tz2 (ci r4 r5);exfalso;simp at r5
 have h4:=tz2 r4;exfalso;simp at r4
def atu (d:Rcp) (w:Bool) (hf:d.f.length <= 16777216) (hm:d.m.length <= 16777216) (hp:d.p.length <= 16777216):a8 b6e 4 [d.pc,pB w] (aa [pB true]):=by
 refine hpx (nt:=104) Tryz.func4 ?_;refine sx7 ?_;refine m9 0 ?_;refine w_5 ?_;refine qcx (wgx Tryz.func15) (av8 d hf hm hp) ?_;refine kw ?_;refine qcx o0 (jr) ?_;refine w_6 ?_;refine hcv (fun h0=>?_) (fun h0=>?_)
 · refine sx7 ?_;refine qcx o0 (jr) ?_;refine v_2 ?_;exact CoL.refl _
 have hok:d.f.length <= 4 /\ d.m.length <= 4 /\ d.p.length <= 3:=by simp_all
 have hfl:(d.fs 5).length <= 4:=by unfold Rcp.fs;rw [b3l];exact hok.1
 have hml:(d.ms 5).length <= 4:=by unfold Rcp.ms;rw [b3l];exact hok.2.1
 have hpl:(d.ps 5).length <= 3:=by unfold Rcp.ps;rw [b3l];exact hok.2.2
 have hwl:=ai4 (d.num 5) (d.ps 5)
 have hPS:(if w = true then ez (d.num 5) (d.ps 5) else (d.ps 5)).length <= 4:=by
  cases w
  · exact b3r hpl b5o
  exact b3r hwl b5o
 refine c4 ?_;refine ww (ka 5 (ka 6 (ka 7 kn))) km ⟨[(8,some (vP (asl (if w = true then ez (d.num 5) (d.ps 5) else (d.ps 5)))))],[]⟩ ?_ ?_
 ·
  refine w_4 ?_;refine hcb (fun h1=>?_) (fun h1=>?_)
  · refine w_3 ?_;refine qcx (wgx Tryz.func16) (avl (d.num 5) (d.ps 5) b5o) ?_;refine w_2 ?_;exact ⟨⟨⟨_,rfl,(by first | (rw [if_pos b5p];exact CoR.refl _) | (rw [if_neg b5w];exact CoR.refl _))⟩,tt⟩,trivial⟩
  refine c4 ?_;exact ⟨⟨⟨_,rfl,(by first | (rw [if_pos b5p];exact CoR.refl _) | (rw [if_neg b5w];exact CoR.refl _))⟩,tt⟩,trivial⟩
 refine w_4 ?_;refine qcx abd (a3o (if w = true then ez (d.num 5) (d.ps 5) else (d.ps 5)).length false (lf sC (if w = true then ez (d.num 5) (d.ps 5) else (d.ps 5))) b5o) ?_;refine qy ?_;refine qcx aa3 (a3l (d.fs 5).length false (lf Fd.c (d.fs 5)) b5o) ?_;refine qy ?_;refine qcx aj4 (aee (d.ms 5).length false (lf Fd.c (d.ms 5)) b5o) ?_;refine qcx ac4 (ale (d.num 5) (if w = true then ez (d.num 5) (d.ps 5) else (d.ps 5)) (d.fs 5) (d.ms 5)) ?_;refine jh ?_;refine qcx (wgx Tryz.func20) (avk (d.num 5) (if w = true then ez (d.num 5) (d.ps 5) else (d.ps 5)) (d.fs 5) (d.ms 5)) ?_;refine dh ?_;refine qcx abd (a3o (if w = true then ez (d.num 5) (d.ps 5) else (d.ps 5)).length false (lf sC (if w = true then ez (d.num 5) (d.ps 5) else (d.ps 5))) b5o) ?_;refine qy ?_;refine qcx aa3 (a3l (d.fs 5).length false (lf Fd.c (d.fs 5)) b5o) ?_;refine qy ?_;refine qcx aj4 (aee (d.ms 5).length false (lf Fd.c (d.ms 5)) b5o) ?_;refine qcx aa7 (aax (d.num 5) (if w = true then ez (d.num 5) (d.ps 5) else (d.ps 5)) (d.fs 5) (d.ms 5)) ?_;refine jh ?_;refine qcx (wgx Tryz.func22) (afw (d.num 5) (if w = true then ez (d.num 5) (d.ps 5) else (d.ps 5)) (d.fs 5) (d.ms 5)) ?_;refine kj ?_;refine ag rfl rfl (fun r2=>?_) (fun r2=>?_)
 · have h2:=r2;exfalso;simp at r2
 have h2:=r2;(iterate 3 refine qy ?_ (hg:=(gff r2)));refine w_2 ?_;refine ag rfl rfl (fun r3=>?_) (fun r3=>?_)
 · have h3:=tz2 (cz (af r2 r3));exfalso;simp at r3
 have h3:=tz1 (cu (af r2 r3));(iterate 3 refine qy ?_ (hg:=(gff r3)));refine w_2 ?_;refine ag rfl rfl (fun r4=>?_) (fun r4=>?_)
 · have h4:=tz2 (cz (af r3 r4));exfalso;simp at r4
 have h4:=tz1 (cu (af r3 r4));(iterate 2 refine qy ?_ (hg:=(gff r4)));refine qcx (wgx Tryz.func23) (ain (prS (d.num 5) (if w = true then ez (d.num 5) (d.ps 5) else (d.ps 5)) (d.fs 5) (d.ms 5)) (prS (d.num 5) (if w = true then ez (d.num 5) (d.ps 5) else (d.ps 5)) (d.fs 5) (d.ms 5))) ?_ (hg:=(gff r4));refine qy ?_ (hg:=(gff r4));refine w_2 ?_;refine ai _ rfl (fun r5=>?_) (fun r5=>?_)
 · have h5:=cz (af r4 r5);exfalso;simp_all
 have h5:=cu (af r4 r5);refine w_6 ?_;refine ag rfl rfl (fun r6=>?_) (fun r6=>?_)
 ·
  have h6:=tz2 (cz r6);(iterate 6 refine k9 (gtf r6) ?_);refine w_3 ?_
  exact hx8 rfl rfl rfl (⟨ccb (by first | rfl | exact hck | simp_all),trivial⟩)
 have h6:=tz1 (cu r6);have hpc:prC _ _ _ _ = 0:=h6;have hck:=ao4 hpc;(iterate 5 refine qy ?_ (hg:=(gff r6)));refine rc rfl rfl rfl rfl rfl rfl aac (a6j (d.num 5) (if w = true then ez (d.num 5) (d.ps 5) else (d.ps 5)) (d.fs 5) (d.ms 5) ((prS (d.num 5) (if w = true then ez (d.num 5) (d.ps 5) else (d.ps 5)) (d.fs 5) (d.ms 5)).map St.r)) (⟨CoC.refl _,CoC.refl _,CoC.refl _,CoC.refl _,CoC.one aes,trivial⟩) rfl (gff r6) ?_;refine v_3 ?_;exact ⟨ccb (by first | rfl | exact hck | simp_all),trivial⟩
end
section
open Go.Proofs
def nb {n:Int} (a:BitVec 8):er .and .u32 (a.toNat:Int) (asI (ax n)) = asI (u8S n a):=by
 rw [axl,a26];rfl
def a5o (n:Int) (a b:BitVec 8):AS:=if (b.toNat:Int) < 128 then u8S n b ||| (ax n &&& ~~~u8S n a) else u8S n b
def awp (d:Rcp) (a b:BitVec 8) (hf:d.f.length <= 16777216) (hm:d.m.length <= 16777216) (hp:d.p.length <= 16777216):a8 b6e 9 [d.pc, .one (.raw (.int .u8 (a.toNat:Int))), .one (.raw (.int .u8 (b.toNat:Int)))] (aa [pB true]):=by
 refine hpx (nt:=79) Tryz.func9 ?_;have ha:=a.isLt;have hb:=b.isLt;refine sx7 ?_;refine m9 0 ?_;refine w_5 ?_;refine qcx (wgx Tryz.func15) (av8 d hf hm hp) ?_;refine kw ?_;refine qcx o0 (jr) ?_;refine w_6 ?_;refine hcv (fun h0=>?_) (fun h0=>?_)
 · refine sx7 ?_;refine qcx o0 (jr) ?_;refine v_2 ?_;exact CoL.refl _
 have hok:d.f.length <= 4 /\ d.m.length <= 4 /\ d.p.length <= 3:=by simp_all
 have hfl:(d.fs 5).length <= 4:=by unfold Rcp.fs;rw [b3l];exact hok.1
 refine w_4 ?_;refine qcx lr (lv (d.num 5)) ?_;refine kw ?_;refine ww (ka 7 (ka 8 kn)) km ⟨[(13,some (vA (u8S (d.num 5) a))),(14,some (vA (a5o (d.num 5) a b)))],[]⟩ ?_ ?_
 ·
  refine w_5 ?_;refine hcd (fun h1=>?_) (fun h1=>?_)
  · refine w_8 ?_;exact ⟨⟨⟨_,rfl,(la (nb a))⟩,⟨_,rfl,(la (by unfold a5o;first | (rw [if_pos b5p,nb,nb,ai0,bOr]) | (rw [if_neg b5p,nb])))⟩,tt⟩,trivial⟩
  refine c4 ?_;exact ⟨⟨⟨_,rfl,(la (nb a))⟩,⟨_,rfl,(la (by unfold a5o;first | (rw [if_pos b5p,nb,nb,ai0,bOr]) | (rw [if_neg b5p,nb])))⟩,tt⟩,trivial⟩
 refine w_6 ?_;refine qcx aa3 (a3l (d.fs 5).length false (lf Fd.c (d.fs 5)) b5o) ?_;refine qcx (wgx Tryz.func38) (b07 (d.num 5) (u8S (d.num 5) a) (a5o (d.num 5) a b) (d.fs 5)) ?_;refine dh ?_;refine qcx (wgx Tryz.func39) (awt (d.num 5) (u8S (d.num 5) a) (a5o (d.num 5) a b) (d.fs 5)) ?_;refine w_2 ?_;refine ai _ rfl (fun r2=>?_) (fun r2=>?_)
 · have h2:=r2;exfalso;simp at r2
 have h2:=r2;refine w_6 ?_;refine m9 1 ?_;refine qy ?_;refine rc rfl rfl rfl rfl rfl rfl (wgx Tryz.func20) (avk (d.num 5) [(u8S (d.num 5) a),(a5o (d.num 5) a b)] (d.fs 5) []) (⟨CoC.refl _,CoC.one (s6 (CoP.refl _) (CoP.refl _)),CoC.refl _,a18,trivial⟩) rfl rfl ?_;refine dq ?_;refine ag rfl rfl (fun r3=>?_) (fun r3=>?_)
 ·
  have h3:=tz2 (cz r3);(iterate 3 refine k9 (gtf r3) ?_);refine w_3 ?_
  exact hx8 rfl rfl rfl (⟨ccb (by first | rfl | (rw [hbl];simp) | simp_all),trivial⟩)
 have h3:=tz1 (cu r3);have hbl:=avr h3;(iterate 3 refine qy ?_ (hg:=(gff r3)));refine w_3 ?_
 exact hx8 rfl rfl rfl (⟨ccb (by first | rfl | (rw [hbl];simp) | simp_all),trivial⟩)
end
end Go.Hx
