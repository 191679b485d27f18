/- A part of the proof: Y2 Y3 Bz5 Bz6 Ch15 Y4 Y6. -/
import Derived.Test.YtkkenjdfbojdlaaGreatDoorMx33
set_option linter.all false
set_option maxRecDepth 100000
set_option maxHeartbeats 1000000
namespace Go.Hx
section
open Go.Proofs
def bfg (n:Nat) (c:Bool) (f:Nat -> Nat -> PV) (hn:n <= 17592186044416) :
 dq btb 234 [.one (.p (.sl n 2 c f))] [] (.v (.one (.ref 0 n))) [(0, .arr true 2 49 n f)] []:=by
 refine hfx (nt:=8) Tryz.func234 ?_;refine sx7 ?_;refine eo true rfl rfl rfl rfl rfl trivial ?_;refine cu ?_;refine a9c (ι:=Bool) (fun c=>⟨[(0,some (bn (.sl n 2 c f)))],[]⟩) (fun _=>True) ?_ fun c _=>?_
 · rcases bqa n with hz | h0
   · subst hz
     refine hw_exact' 0 rfl fun ad cap hcap=>?_;refine sx7 ?_;(iterate 2 refine eo true rfl rfl rfl rfl rfl trivial ?_);refine cu ?_;refine am ad.isNone rfl (fun hc=>?_) (fun hc=>?_)
     · refine sx7 ?_
       refine eo true rfl rfl rfl rfl rfl trivial ?_;refine cu ?_;refine ct 2 0 true 2 49 f bsu rfl (CoP.sl rfl (.inr rfl) (fun h=>h) fun i j hi _=>absurd hi (bod i)) (.inr rfl) rfl ?_;refine hrr ?_;exact ⟨_,_,rfl,trivial,CoR.refl _,uu⟩
     refine dp ?_;exact ⟨false,trivial,⟨⟨_,rfl,CoP.raw_sl hcap⟩,trivial⟩,trivial⟩
   refine sx7 ?_;refine eo true rfl rfl rfl rfl rfl trivial ?_;refine eo true rfl rfl rfl rfl rfl h0 ?_;refine cu ?_;refine am false rfl (fun hc=>by cases hc) (fun hc=>?_);refine dp ?_;exact ⟨c,trivial,tt,trivial⟩
 refine sx7 ?_;refine a3z 0 rfl rfl rfl rfl rfl rfl trivial ?_;refine eo true rfl rfl rfl rfl rfl trivial ?_;refine a7x 0 true rfl rfl rfl rfl rfl rfl ⟨trivial,rfl,rfl,rfl, .inl rfl,by show 0 + n <= 9223372036854775807;omega,by show (0 + n) * 8 <= 140737488355328;omega,fun _=>.inl rfl⟩ ?_;refine eo true rfl rfl rfl rfl rfl trivial ?_;refine cu ?_;refine hrr ?_;refine ⟨_,_,rfl,trivial,CoR.of_eq (by show HR.v (.one (.ref 0 (0 + n))) = _;rw [bpc]),⟨⟨_,rfl, ?_⟩,trivial⟩⟩;exact ⟨fun h=>h,rfl,rfl,(bpc n).symm,fun i j _ _=>CoP.of_eq (by simp [gv])⟩
def art (n:Int) (l m:List Fd) (x:AS):a7 btb 187 [pI n,pP (fdl l),pP (fdl m),pA x] (aa [pI (ckB n l m x)]):=by
 refine hpx (nt:=21) Tryz.func187 ?_;refine d5 ?_;refine qcx zc (vu n l m) ?_;refine w_7 ?_;refine hcn (fun h0=>?_) (fun h0=>?_)
 · refine v_5 ?_;exact ⟨cci (b7c bsr).symm,trivial⟩
 have hb:be n l m = 0:=h0;obtain ⟨hn0,hn1,_⟩:=m7 hb;refine w_6 ?_;refine rq rfl rfl rfl rfl rfl ?_ (hp:=hn0);refine w_2 ?_;refine hcn (fun h1=>?_) (fun h1=>?_)
 · refine v_4 ?_;exact ⟨cci (b7a hb (fun e=>(by assumption:¬ _ = _) ((zq x n.toNat).trans (congrArg asI e)))).symm,trivial⟩
 refine v_5 ?_;exact ⟨cci (afj hb (ck.1 ((zq x n.toNat).symm.trans bsr))).symm,trivial⟩
def b64 (l m:List Fd) (hl:l.length <= 64) (hm:m.length <= 64):a7 btb 189 [pP (fdl l),pP (fdl m)] (aa [pP (fdl (j5 l m))]):=by
 refine hpx (nt:=37) Tryz.func189 ?_;refine w_7 ?_;refine fc9 (wgx Tryz.func234) ((bfg m.length false (lf Fd.c m) bsq).swap 0 900) trivial ?_;refine d5 ?_;refine bp (ka 12 (ka 13 kn)) km (fun i=>⟨[(5,some (.v (.one (.ref 900 (mr l m i 0).length)))),(14,some (vI i))],[(900,some (.arr true 2 49 (mr l m i 0).length (lf Fd.c (mr l m i 0))))]⟩) l.length ⟨⟨⟨_,rfl,(ce (aim l m))⟩,⟨_,rfl,(CoR.refl _)⟩,trivial⟩,⟨⟨_,rfl,(bv (aim l m))⟩,trivial⟩⟩ ?_;rintro i hi;have hmb:=qc (l.getD i default).rhs;refine w_5 ?_;refine hcd (fun h0=>?_) (fun h0=>?_)
 ·
  refine w_7 ?_;refine m9 0 ?_;refine w_6 ?_;refine qcx a43 (ag0 (l.getD i default).rhs) ?_;refine w_4 ?_;refine bp (ka 7 (ka 12 (ka 13 (ka 14 (ka 20 (ka 21 kn)))))) (kb 0 km) (fun k=>⟨[(5,some (.v (.one (.ref 900 (mr l m i k).length)))),(22,some (vI k))],[(900,some (.arr true 2 49 (mr l m i k).length (lf Fd.c (mr l m i k))))]⟩) ((al (l.getD i default).rhs).length) ⟨⟨zy,⟨_,rfl,(CoR.refl _)⟩,trivial⟩,uu⟩ ?_;rintro k hk;have hal:=b23 (fs:=l) (ms:=m) (i:=i) (k:=k);refine w_5 ?_;refine hcd (fun h1=>?_) (fun h1=>?_)
  · refine uk ?_;refine m9 1 ?_;refine r9 2 true ?_;refine w_7 ?_;exact lpx (k + 1) ⟨⟨⟨_,rfl,(c8 (at7 bsq))⟩,tt⟩,⟨⟨_,rfl,(v6 (at7 bsq) (CoP.refl _) (CoP.of_eq (congrArg (fun z=>PV.raw (.int .u32 z)) (al1 1 _))))⟩,uu⟩⟩
  obtain rfl:k = (al (l.getD i default).rhs).length:=by omega
  refine w_5 ?_;exact lpx (i + 1) ⟨⟨⟨_,rfl,(ce (ars bsq))⟩,tt⟩,⟨⟨_,rfl,(bv (ars bsq))⟩,trivial⟩⟩
 obtain rfl:i = l.length:=by omega
 refine w_6 ?_;refine b6 4 rfl rfl rfl ?_;exact hx8 rfl rfl rfl (⟨CoC.one (CoP.of_eq (by rw [b22];rfl)),trivial⟩)
def bdo (n:Int) (l m:List Fd) (x:AS):a7 btb 192 [pI n,pP (fdl l),pP (fdl m),pA x] (aa [pP (asl (b5m n l m x)),pI (ckB n l m x)]):=by
 refine hpx (nt:=25) Tryz.func192 ?_;refine i6 ?_;refine qcx (wgx Tryz.func187) (art n l m x) ?_;refine w_7 ?_;refine hcn (fun h0=>?_) (fun h0=>?_)
 · refine v_6 ?_;exact ⟨CoC.one (a2s (if_neg bsr)),CoC.refl _,trivial⟩
 have hz:ckB n l m x = 0:=h0;have hb:=a7o hz;obtain ⟨hn0,hn1,hl64,_,hm64,_⟩:=m7 hb.1;refine w_6 ?_;refine qcx (wgx Tryz.func189) (b64 l m hl64 hm64) ?_;refine qy ?_;refine qcx (wgx Tryz.func188) (at4 n (j5 l m) x hn0 hn1) ?_;refine v_3 ?_;exact ⟨CoC.one (CoP.of_eq (by rw [show b5m n l m x = dt n l m x from if_pos hz];rfl)),cci hz.symm,trivial⟩
def bea (f:Fd) (b:AS):a7 btb 191 [f.pc,pP (bx (asC b))] (aa [pB (a0u b f)]):=by
 refine hpx (nt:=12) Tryz.func191 ?_;refine sx7 ?_;refine m9 0 ?_;refine t7 ?_;exact hx8 rfl rfl rfl (⟨ccb (by unfold a0u;rw [it,apr]),trivial⟩)
def bbs (n:Int) (l m:List Fd) (x:AS):a7 btb 139 [pI n,pP (fdl l),pP (fdl m),pA x] (aa [pA (avo n l m x),pI (ckB n l m x)]):=by
 refine hpx (nt:=45) Tryz.func139 ?_;refine i6 ?_;refine qcx (wgx Tryz.func187) (art n l m x) ?_;refine w_7 ?_;refine hcn (fun h0=>?_) (fun h0=>?_)
 · refine v_6 ?_;exact ⟨cci (congrArg asI (show (0:AS) = avo n l m x from (if_neg bsr).symm)),CoC.refl _,trivial⟩
 have hz:ckB n l m x = 0:=h0;have hb:=a7o hz;obtain ⟨hn0,hn1,hl64,_,hm64,_⟩:=m7 hb.1;refine i6 ?_;refine qcx (wgx Tryz.func189) (b64 l m hl64 hm64) ?_;refine qy ?_;refine qcx (wgx Tryz.func188) (at4 n (j5 l m) x hn0 hn1) ?_;refine w_4 ?_;have hbl:=a61 n l m x;refine bp (ka 1 (ka 28 (ka 29 kn))) km (fun i=>⟨[(11,some (vA (wc l x ((dt n l m x).take i)))),(30,some (vI i))],[]⟩) ((dt n l m x).length) ⟨⟨⟨_,rfl,(CoR.refl _)⟩,⟨_,rfl,(CoR.refl _)⟩,trivial⟩,trivial⟩ ?_;rintro i hi;refine w_5 ?_;refine hcd (fun h1=>?_) (fun h1=>?_)
 ·
  have hil:i < (dt n l m x).length:=Int.ofNat_lt.1 h1;refine w_7 ?_;refine m9 0 ?_;refine w_6 ?_;refine qcx a0o (aag ((dt n l m x).getD i default)) ?_;refine w_2 ?_;refine hcn (fun h2=>?_) (fun h2=>?_)
  · have hq:¬ bsz ((dt n l m x).getD i default) = 1:=fun e=>h2 (by rw [e];rfl);refine w_5 ?_;exact lpx (i + 1) ⟨⟨⟨_,rfl,(by first | exact bz (congrArg asI (aky hil hq)) | exact bz (congrArg asI (aku hil hq ha)) | exact bz ((bOr _ _).trans (congrArg asI (aps hil hq ha))))⟩,tt⟩,trivial⟩
  have hq:bsz ((dt n l m x).getD i default) = 1:=Int.ofNat_inj.1 h2;refine w_2 ?_;refine dc 13 rfl rfl rfl ?_;refine w_3 ?_;refine qcx (wgx Tryz.func190) (bk5 l 191 1 (fun j=>[bx (asC ((dt n l m x).getD i default))].getD j .any) (a0u ((dt n l m x).getD i default)) (wgx Tryz.func191) (fun f=>bea f ((dt n l m x).getD i default))) ?_;refine cu ?_;refine am _ rfl (fun r3=>?_) (fun r3=>?_)
  · have h3:=r3;have ha:l.any (a0u ((dt n l m x).getD i default)) = true:=r3;refine d5 ?_;exact lpx (i + 1) ⟨⟨⟨_,rfl,(by first | exact bz (congrArg asI (aky hil hq)) | exact bz (congrArg asI (aku hil hq ha)) | exact bz ((bOr _ _).trans (congrArg asI (aps hil hq ha))))⟩,tt⟩,trivial⟩
  have h3:=r3;have ha:l.any (a0u ((dt n l m x).getD i default)) = false:=r3;refine w_5 ?_;exact lpx (i + 1) ⟨⟨⟨_,rfl,(by first | exact bz (congrArg asI (aky hil hq)) | exact bz (congrArg asI (aku hil hq ha)) | exact bz ((bOr _ _).trans (congrArg asI (aps hil hq ha))))⟩,tt⟩,trivial⟩
 obtain rfl:i = (dt n l m x).length:=Nat.le_antisymm hi (bs4 fun q=>h1 (Int.ofNat_lt.2 q));rw [show (dt n l m x).take (dt n l m x).length = (dt n l m x) from bog];refine v_7 ?_;exact ⟨cci (congrArg asI (show rz n l m x = avo n l m x from (if_pos hz).symm)),cci hz.symm,trivial⟩
def ap2:goodFn btb 79:=wgx Tryz.func79
def ahr (n:Int) (l m:List Fd) (s:AS):a7 btb 79 [pI n,pP (fdl l),pP (fdl m),pA s] (aa [pI (ck4 n l m s)]):=by
 refine hpx (nt:=27) Tryz.func79 ?_;refine d5 ?_;refine ai rfl rfl (fun r0=>?_) (fun r0=>?_)
 ·
  have h0:=tz1 r0;(iterate 2 refine k9 (gtf r0) ?_);refine w_7 ?_
  exact hx8 rfl rfl rfl (⟨cci (b6p bsq).symm,trivial⟩)
 have h0:=tz2 r0;(iterate 2 refine qy ?_ (hg:=(gff r0)));refine w_2 ?_;refine am _ rfl (fun r1=>?_) (fun r1=>?_)
 · have h1:=tz1 (aq r0 r1);refine v_4 ?_;exact ⟨cci (b6p bsq).symm,trivial⟩
 have h1:=tz2 (aq r0 r1);refine w_7 ?_;refine qcx zc (vu n l m) ?_;refine w_7 ?_;refine hcn (fun h2=>?_) (fun h2=>?_)
 ·
  have hc:¬ (n < 0 \/ 8 < n):=by omega
  refine v_5 ?_;exact ⟨cci ((a60 hc).trans (b7c bsr)).symm,trivial⟩
 have hb:be n l m = 0:=h2;obtain ⟨hn0,hn1,_⟩:=m7 hb;have hc:¬ (n < 0 \/ 8 < n):=by omega
 refine w_6 ?_;refine rq rfl rfl rfl rfl rfl ?_ (hp:=hn0);refine w_2 ?_;refine hcn (fun h3=>?_) (fun h3=>?_)
 · refine v_4 ?_;exact ⟨cci ((a60 hc).trans (b7a hb (fun e=>(by assumption:¬ _ = _) ((zq s n.toNat).trans (congrArg asI e))))).symm,trivial⟩
 refine v_5 ?_;exact ⟨cci ((a60 hc).trans (afj hb (ck.1 ((zq s n.toNat).symm.trans bsr)))).symm,trivial⟩
end
section
open Go.Proofs
section
variable {n:Int}
def an7 (h:n <= 16):a6 n >>> n.toNat = 0:=by
 unfold a6;rw [show min n.toNat 32 = n.toNat by omega];exact (wd bsq).1 (df _)
variable {l m:List Fd} {x:AS}
def b4a (h:ckB n l m x = 0):a7 btb 192 [pI n,pP (fdl l),pP (fdl m),pA x] (aa [pP (asl (dt n l m x)),pI 0]):=by
 have:=bdo n l m x;rw [h,show b5m n l m x = dt n l m x from if_pos h] at this;exact this
def b4z (h:ckB n l m x = 0):a7 btb 139 [pI n,pP (fdl l),pP (fdl m),pA x] (aa [pA (rz n l m x),pI 0]):=by
 have:=bbs n l m x;rw [h,show avo n l m x = rz n l m x from if_pos h] at this;exact this
variable {p:AS}
def ade (h:p &&& ~~~(rz n l m x) = 0):a3f n l m p x = none:=if_pos h
def af3 (h:¬ p &&& ~~~(rz n l m x) = 0) (h2:¬ 1 < (jb n l m x p).length):a3f n l m p x = none:=by unfold a3f;rw [if_neg h,if_neg h2]
def ay9 (h:¬ p &&& ~~~(rz n l m x) = 0) (h2:1 < (jb n l m x p).length):a3f n l m p x = some ⟨x,(jb n l m x p).getD 0 default⟩:=by unfold a3f;rw [if_neg h,if_pos h2]
def is4 (n:Int) (l m:List Fd):Bool:=if ck4 n l m 0 = 0 then !(a84 n l m (a6 n)).2 else false
def bt6 {p:Prop} (h:p:=by rw [boi];omega):p:=h
def bkh (n:Int) (l m:List Fd) (x p:AS):a7 btb 140 [pI n,pP (fdl l),pP (fdl m),pA x,pA p] (aa [pP (asl (b46 n l m x p)),pI (ck4 n l m (x ||| p))]):=by
 refine hpx (nt:=58) Tryz.func140 ?_;refine t7 ?_;refine rc rfl rfl rfl rfl rfl rfl ap2 (ahr n l m (x ||| p)) (⟨CoC.refl _,CoC.refl _,CoC.refl _,cci (bOr _ _),trivial⟩) rfl rfl ?_;refine w_7 ?_;refine hcn (fun h0=>?_) (fun h0=>?_)
 · refine v_6 ?_;exact ⟨CoC.one (a2s (if_neg bsr)),CoC.refl _,trivial⟩
 have hz:ck4 n l m (x ||| p) = 0:=h0;have hx:=ahs (yn hz).2.2 (o5 (a:=x) (b:=p));refine w_7 ?_;refine qcx (wgx Tryz.func192) (b4a hx) ?_;refine bf2 ?_;refine ct 15 900 true 1 46 (lf sC []) bsu rfl (CoP.sl rfl (.inr rfl) (fun h=>h) (fun i j hi _=>absurd hi (bod i))) (.inr rfl) rfl ?_;have hbl:=a61 n l m x;refine bp (ka 4 (ka 39 (ka 40 kn))) km (fun i=>⟨[(15,some (.v (.one (.ref 900 (mt p ((dt n l m x).take i)).length)))),(41,some (vI i))],[(900,some (.arr true 1 46 (mt p ((dt n l m x).take i)).length (lf sC (mt p ((dt n l m x).take i)))))]⟩) ((dt n l m x).length) ⟨⟨⟨_,rfl,(CoR.refl _)⟩,⟨_,rfl,(CoR.refl _)⟩,trivial⟩,uu⟩ ?_;rintro i hi;have hcl:(mt p ((dt n l m x).take i)).length <= i:=bon (acl _ _) bt6;refine w_5 ?_;refine hcd (fun h1=>?_) (fun h1=>?_)
 ·
  refine uk ?_;refine hcn (fun h2=>?_) (fun h2=>?_)
  ·
   have hq:¬ (dt n l m x).getD i default &&& p = 0:=s7 h2;refine w_5 ?_;refine m9 0 ?_;refine r9 1 true ?_;refine w_6 ?_
   first | (refine lpz (i + 1) ⟨⟨⟨_, rfl, (c8 (ym bsq hq))⟩, ⟨_, rfl, (CoR.refl _)⟩, tt⟩, ⟨⟨_, rfl, (bu (ym bsq hq) (CoP.of_eq (congrArg (fun z => PV.raw (.int .u32 z)) (gk _ _))))⟩, trivial⟩⟩ ?_; show i + 1 <= _; omega)
         | (refine lpz (i + 1) ⟨⟨⟨_,rfl,(ce (z8 bsq hq))⟩,⟨_,rfl,(CoR.refl _)⟩,tt⟩,⟨⟨_,rfl,(bv (z8 bsq hq))⟩,trivial⟩⟩ ?_;show i + 1 <= _;omega)
  have hq:(dt n l m x).getD i default &&& p = 0:=wk h2;refine w_5 ?_
  first | (refine lpz (i + 1) ⟨⟨⟨_, rfl, (c8 (ym bsq hq))⟩, ⟨_, rfl, (CoR.refl _)⟩, tt⟩, ⟨⟨_, rfl, (bu (ym bsq hq) (CoP.of_eq (congrArg (fun z => PV.raw (.int .u32 z)) (gk _ _))))⟩, trivial⟩⟩ ?_; show i + 1 <= _; omega)
        | (refine lpz (i + 1) ⟨⟨⟨_,rfl,(ce (z8 bsq hq))⟩,⟨_,rfl,(CoR.refl _)⟩,tt⟩,⟨⟨_,rfl,(bv (z8 bsq hq))⟩,trivial⟩⟩ ?_;show i + 1 <= _;omega)
 obtain rfl:i = (dt n l m x).length:=by omega
 rw [show (dt n l m x).take (dt n l m x).length = (dt n l m x) from bog];refine w_2 ?_;refine b6 15 rfl rfl rfl ?_;refine w_2 ?_;refine qcx a0l (a94 (mt p (dt n l m x)) (a9y n l m x p)) ?_;refine v_3 ?_;exact ⟨CoC.one (CoP.of_eq (by rw [show b46 n l m x p = jb n l m x p from if_pos hz];rfl)),cci hz.symm,trivial⟩
def bf6 (h:ck4 n l m (x ||| p) = 0):a7 btb 140 [pI n,pP (fdl l),pP (fdl m),pA x,pA p] (aa [pP (asl (jb n l m x p)),pI 0]):=by
 have:=bkh n l m x p;rw [h,show b46 n l m x p = jb n l m x p from if_pos h] at this;exact this
def b6v (n:Int) (l m:List Fd) (p:AS):a7 btb 80 [pI n,pP (fdl l),pP (fdl m),pA p] (aa [(a84 n l m p).1.pc,pB (a84 n l m p).2,pI (ck4 n l m p)]):=by
 refine hpx (nt:=72) Tryz.func80 ?_;refine sx7 ?_;refine m9 0 ?_;refine d5 ?_;refine qcx ap2 (ahr n l m p) ?_;refine w_7 ?_;refine hcn (fun h0=>?_) (fun h0=>?_)
 · refine v_8 ?_;exact by rw [bf5 bsr];exact ⟨CoC.agg ⟨CoP.of_eq rfl,CoP.of_eq rfl,trivial⟩,CoC.refl _,CoC.refl _,trivial⟩
 have hz:ck4 n l m p = 0:=h0;have hsl:=vd p;refine w_5 ?_;refine qcx a9x (b7o p) ?_;refine w_4 ?_;refine ah (ι:=Nat) (ka 0 (ka 1 (ka 2 (ka 3 (ka 8 (ka 27 (ka 28 kn))))))) (kb 0 km) (fun i=>⟨[(29,some (vI i))],[]⟩) (fun i=>i <= (av p).length /\ ((av p).take i).findSome? (a3f n l m p) = none) (fun i=>(av p).length - i) (0) (⟨boe _,rfl⟩) ⟨⟨⟨_,rfl,(CoR.refl _)⟩,trivial⟩,trivial⟩ ?_;rintro i ⟨hi,hI⟩;refine w_5 ?_;refine hcd (fun h1=>?_) (fun h1=>?_)
 ·
  have hil:i < (av p).length:=by omega
  have hxs:sub ((av p).getD i default) p:=a2c (pj hil);have hX:ckB n l m ((av p).getD i default) = 0:=ahs (yn hz).2.2 hxs;have hXp:ck4 n l m (((av p).getD i default) ||| p) = 0:=afs hz (sc hxs (df p));refine o8 ?_;refine qcx (wgx Tryz.func139) (b4z hX) ?_;refine an8 ?_;refine hcd (fun h2=>?_) (fun h2=>?_)
  · have hq:p &&& ~~~(rz n l m ((av p).getD i default)) = 0:=avh h2;refine w_5 ?_;refine lpz (i + 1) ⟨⟨⟨_,rfl,(CoR.refl _)⟩,tt⟩,uu⟩ ?_;exact ⟨by omega,(kr hil hI).trans (by first | exact ade hq | exact af3 hq hc)⟩
  have hq:¬ p &&& ~~~(rz n l m ((av p).getD i default)) = 0:=al2 h2;refine w_8 ?_;refine qcx (wgx Tryz.func140) (bf6 hXp) ?_;refine apf ?_;refine hcd (fun h3=>?_) (fun h3=>?_)
  ·
   have hc:1 < (jb n l m ((av p).getD i default) p).length:=by omega
   have hcl:(jb n l m ((av p).getD i default) p).length <= 8589934592:=bon (n3 _) (a9y n l m ((av p).getD i default) p);refine dl ?_;refine hrr ?_
   have he:a84 n l m p = (⟨((av p).getD i default),(jb n l m ((av p).getD i default) p).getD 0 default⟩,true):=by
    rw [aee hz,show d8 n l m p = some _ from vk hil hI (ay9 hq hc)];rfl
   exact f9 rfl rfl (by rw [he];exact ⟨CoC.agg ⟨CoP.refl _,CoP.refl _,trivial⟩,CoC.refl _,cci hz.symm,trivial⟩)
  have hc:¬ 1 < (jb n l m ((av p).getD i default) p).length:=by omega
  refine w_5 ?_;refine lpz (i + 1) ⟨⟨⟨_,rfl,(CoR.refl _)⟩,tt⟩,uu⟩ ?_;exact ⟨by omega,(kr hil hI).trans (by first | exact ade hq | exact af3 hq hc)⟩
 obtain rfl:i = (av p).length:=by omega
 rw [show (av p).take (av p).length = (av p) from bog] at hI;refine w_8 ?_;refine hrr ?_
 have he:a84 n l m p = (⟨0,0⟩,false):=by
  rw [aee hz,show d8 n l m p = none from hI];rfl
 exact f9 rfl rfl (by rw [he];exact ⟨CoC.agg ⟨CoP.of_eq rfl,CoP.of_eq rfl,trivial⟩,CoC.refl _,cci hz.symm,trivial⟩)
def bhc (h:ck4 n l m p = 0):a7 btb 80 [pI n,pP (fdl l),pP (fdl m),pA p] (aa [(vF (d8 n l m) p).pc,pB (vBo (d8 n l m) p),pI 0]):=by
 have:=b6v n l m p;rw [h,aee h] at this;exact this
def ayi {V:AS -> Option Fd} {t:List AS} {i j:Nat} (h:i = j):PV.raw (.int .u32 (ap .andNot .u32 (asI (t.getD i default)) (asI (vF V (t.getD j default)).rhs))) = sC (o7 V (t.getD j default)) 0:=by
 subst h;exact congrArg (fun z=>PV.raw (.int .u32 z)) (it _ _)
def arx {t:List AS} {s:AS} (ht:∀ q ∈ t,ck4 n l m q = 0) (hv:vBo (d8 n l m) s = true) (hs:ck4 n l m s = 0):∀ q ∈ t ++ [o6 (d8 n l m) s,o7 (d8 n l m) s],ck4 n l m q = 0:=by
 intro q hq
 rcases boj.1 hq with hq | hq
 · exact ht q hq
 obtain ⟨h1,h2,h3⟩:=up n l m s _ (a63 hv);simp only [bok,List.not_mem_nil,or_false] at hq
 rcases hq with rfl | rfl
 · exact afs hs h1
 exact afs hs d6
def bjg (n:Int) (l m:List Fd):a7 btb 34 [pI n,pP (fdl l),pP (fdl m)] (aa [pP (asl (xl n l m)),pI (ck4 n l m 0)]):=by
 refine hpx (nt:=71) Tryz.func34 ?_;refine dl ?_;refine qcx ap2 (ahr n l m 0) ?_;refine w_7 ?_;refine hcn (fun h0=>?_) (fun h0=>?_)
 · refine v_6 ?_;exact ⟨CoC.one (a2s (bfj bsr)),CoC.refl _,trivial⟩
 have hz:ck4 n l m 0 = 0:=h0;obtain ⟨hn0,hn8,hb⟩:=yn hz;have hn1:n <= 16:=by omega
 have hf:ck4 n l m (a6 n) = 0:=by rw [a60 bsq];exact afj (a7o hb).1 (an7 hn1)
 refine w_5 ?_;refine rq rfl rfl rfl rfl rfl ?_ (hp:=⟨xq hn0 hn1,vg hn0 hn1⟩);refine m9 0 ?_;refine w_8 ?_;refine ct 10 900 true 1 46 (lf sC []) bsu rfl (CoP.sl rfl (.inr rfl) (fun h=>h) (fun i j hi _=>absurd hi (bod i))) (.inr rfl) rfl ?_;refine sa 9 901 rfl rfl rfl rfl ?_
 refine ah (ι := Nat × List AS × List AS) (ka 0 (ka 1 (ka 2 kn))) km (fun x => ⟨[(10, some (.v (.one (.ref 900 x.2.2.length)))), (9, some (.v (.one (.ref 901 x.2.1.length))))], [(900, some (.arr true 1 46 x.2.2.length (lf sC x.2.2))), (901, some (.arr true 1 46 x.2.1.length (lf sC x.2.1)))]⟩) (fun x => a89 (d8 n l m) (a6 n) x /\ ∀ q ∈ x.2.1, ck4 n l m q = 0) (fun x => x.1) ((6562, [a6 n], [])) (⟨ajm hn8, fun q hq => by
       simp only [bom] at hq
       rw [hq];exact hf⟩) ⟨tt,⟨u9,⟨_,rfl,(y4 (CoP.of_eq (congrArg (fun z=>PV.raw (.int .u32 z)) (u6 hn0 hn1))))⟩,trivial⟩⟩ ?_
 rintro x ⟨hx,hk⟩;have hlen:=a5z hx;refine sa 9 902 rfl rfl rfl rfl ?_;refine w_7 ?_;refine hcd (fun h1=>?_) (fun h1=>?_)
 ·
  have hs:ck4 n l m (x.2.1.getD (x.2.1.length - 1) default) = 0:=hk _ (pj bsq);refine ad6 ?_;refine a65 ⟨[(0,some _),(1,some _),(2,some _),(9,some _),(10,some _),(11,some _)],[(900,some _),(902,some _)]⟩ (by exact kk) ?_;refine acf 9 901 rfl rfl rfl rfl (by simp only [ek,az,bop];omega) rfl ?_;refine w_6 ?_;refine rc rfl rfl rfl rfl rfl rfl (wgx Tryz.func80) (bhc (p:=(x.2.1.getD (x.2.1.length - 1) default)) hs) (⟨CoC.refl _,CoC.refl _,CoC.refl _,CoC.one (CoP.of_eq (congrArg (fun i=>asC (x.2.1.getD i default)) bsq)),trivial⟩) rfl rfl ?_;refine w_4 ?_;refine m9 1 ?_;refine uk ?_;refine am _ rfl (fun r2=>?_) (fun r2=>?_)
  ·
   have h2:=r2;have hv:vBo (d8 n l m) (x.2.1.getD (x.2.1.length - 1) default) = true:=r2;refine dl ?_;refine m9 2 ?_;refine r9 3 true ?_;refine w_2 ?_
   first | (refine ⟨(x.1 - 1, (x.2.1.take (x.2.1.length - 1)) ++ [o6 (d8 n l m) (x.2.1.getD (x.2.1.length - 1) default), o7 (d8 n l m) (x.2.1.getD (x.2.1.length - 1) default)], x.2.2), ?_, ?_, ?_⟩
            · exact ⟨ay7 (up n l m) hx bsq hv,arx (fun q hq=>hk q (bq8 hq)) hv hs⟩
            · dsimp only
              omega
            exact ⟨⟨zy,⟨_,rfl,(jq bt0)⟩,tt⟩,⟨u9,⟨_,rfl,(aa7 bt0 (fun i hi=>CoP.of_eq (a5p hi)) (CoP.of_eq (congrArg (fun z=>PV.raw (.int .u32 z)) (bOr _ _))) (CoP.of_eq (ayi bsq)) rfl)⟩,trivial⟩⟩)
         | (refine ⟨(x.1 - 1,(x.2.1.take (x.2.1.length - 1)),x.2.2 ++ [(x.2.1.getD (x.2.1.length - 1) default)]), ?_, ?_, ?_⟩
            · exact ⟨axr hx bsq hv,fun q hq=>hk q (bq8 hq)⟩
            · dsimp only
              omega
            exact ⟨⟨⟨_,rfl,(c8 rfl)⟩,⟨_,rfl,(jq bt0)⟩,tt⟩,⟨⟨_,rfl,(bu rfl (CoP.of_eq (congrArg (fun i=>asC (x.2.1.getD i default)) bsq)))⟩,⟨_,rfl,(a5i bsq (by simp only [ek,az];omega))⟩,trivial⟩⟩)
  have h2:=r2;have hv:vBo (d8 n l m) (x.2.1.getD (x.2.1.length - 1) default) = false:=r2;refine w_3 ?_;refine m9 4 ?_;refine r9 5 true ?_;refine w_2 ?_
  first | (refine ⟨(x.1 - 1, (x.2.1.take (x.2.1.length - 1)) ++ [o6 (d8 n l m) (x.2.1.getD (x.2.1.length - 1) default), o7 (d8 n l m) (x.2.1.getD (x.2.1.length - 1) default)], x.2.2), ?_, ?_, ?_⟩
           · exact ⟨ay7 (up n l m) hx bsq hv,arx (fun q hq=>hk q (bq8 hq)) hv hs⟩
           · dsimp only
             omega
           exact ⟨⟨zy,⟨_,rfl,(jq bt0)⟩,tt⟩,⟨u9,⟨_,rfl,(aa7 bt0 (fun i hi=>CoP.of_eq (a5p hi)) (CoP.of_eq (congrArg (fun z=>PV.raw (.int .u32 z)) (bOr _ _))) (CoP.of_eq (ayi bsq)) rfl)⟩,trivial⟩⟩)
        | (refine ⟨(x.1 - 1,(x.2.1.take (x.2.1.length - 1)),x.2.2 ++ [(x.2.1.getD (x.2.1.length - 1) default)]), ?_, ?_, ?_⟩
           · exact ⟨axr hx bsq hv,fun q hq=>hk q (bq8 hq)⟩
           · dsimp only
             omega
           exact ⟨⟨⟨_,rfl,(c8 rfl)⟩,⟨_,rfl,(jq bt0)⟩,tt⟩,⟨⟨_,rfl,(bu rfl (CoP.of_eq (congrArg (fun i=>asC (x.2.1.getD i default)) bsq)))⟩,⟨_,rfl,(a5i bsq (by simp only [ek,az];omega))⟩,trivial⟩⟩)
 refine w_2 ?_;refine b6 10 rfl rfl rfl ?_;have hx0:x.2.1.length = 0:=by omega
 refine w_2 ?_;refine qcx aet (a6i x.2.2 bsq) ?_;refine v_3 ?_;exact ⟨CoC.one (CoP.of_eq (by rw [b00 hz,b2b hx hx0];rfl)),cci hz.symm,trivial⟩
end
end
section
structure Mx where
 d:Dps
 m:List Dp
deriving Inhabited
def Mx.mv (x:Mx):List Fd:=x.m.map (Dp.fd x.d.num)
def Mx.c (x:Mx):Nat -> PV
 | 0=>x.d.c 0
 | 1=>x.d.c 1
 | 2=>dpl x.m
 | _=>.any
abbrev Mx.pc (x:Mx):PC:=.agg [x.c 0,x.c 1,x.c 2]
def Mx.ok (x:Mx):Bool:=decide (x.d.l.length <= 6) && decide (x.m.length <= 4)
def bhy {a b:List AS} (hl:a.length = b.length) (h:∀ j,j < a.length -> a.getD j default = b.getD j default):a = b:=by
 apply List.ext_getElem hl;intro i h1 h2;have:=h i h1;rw [bo7,bo7,bo6 h1,bo6 h2] at this;simpa using this
def bny (n:Int) (l m:List Fd) (ps:List AS):Int:=if ck4 n l m 0 = 0 then lsC n ps l m else ck4 n l m 0
def bo2 (n:Int) (l m:List Fd) (ps:List AS):Bool:=if ck4 n l m 0 = 0 then (if lsC n ps l m = 0 then lsB n ps l m && ps.all (fun p=>!vBo (d8 n l m) p) else false) else false
end
section
def fdP (d:Fd) (r k:AS):Option AS:=if (r ^^^ k) &&& d.lhs = 0 then (if (r ^^^ k) &&& d.rhs = 0 then none else some ((r ^^^ k) &&& d.rhs)) else none
def fdQ (d:Fd) (T:List AS) (r:AS):Option AS:=T.findSome? (fdP d r)
def fdT (d:Fd) (T:List AS):Option AS:=T.findSome? (fdQ d T)
section
variable {T:List AS} {d:Fd}
def aof {s:AS} (h:fdT d T = some s):∃ r ∈ T,∃ k ∈ T,agB d r k = true /\ s = (r ^^^ k) &&& d.rhs /\ s ≠ 0:=by
 unfold fdT at h;obtain ⟨r,hr,h⟩:=bqt h;unfold fdQ at h;obtain ⟨k,hk,h⟩:=bqt h;unfold fdP at h;split at h
 · rename_i h1
   split at h
   · cases h
   rename_i h2;cases h;exact ⟨r,hr,k,hk,decide_eq_true h1,rfl,h2⟩
 cases h
def b5a (h:fdT d T = none):∀ r ∈ T,∀ k ∈ T,agB d r k = true -> (r ^^^ k) &&& d.rhs = 0:=by
 intro r hr k hk ha;unfold fdT at h;rw [bqu] at h;have h:=h r hr;unfold fdQ at h;rw [bqu] at h;have h:=h k hk;unfold fdP at h;rw [if_pos (of_decide_eq_true ha)] at h;split at h
 · assumption
 cases h
def akr {r k:AS} (h:¬ (r ^^^ k) &&& d.lhs = 0):fdP d r k = none:=if_neg h
def akh {r k:AS} (h:(r ^^^ k) &&& d.lhs = 0) (h2:(r ^^^ k) &&& d.rhs = 0):fdP d r k = none:=by unfold fdP;rw [if_pos h,if_pos h2]
def b7d {r k:AS} (h:(r ^^^ k) &&& d.lhs = 0) (h2:¬ (r ^^^ k) &&& d.rhs = 0):fdP d r k = some ((r ^^^ k) &&& d.rhs):=by unfold fdP;rw [if_pos h,if_neg h2]
def yo (h:T.Nodup):T.length <= 4294967296:=by
 have h1:(T.map BitVec.toNat).Nodup:=List.Pairwise.map _ (fun a b hab e=>hab (bp8 e)) h
 have h2:∀ x ∈ T.map BitVec.toNat,x < 4294967296:=by
  intro x hx;obtain ⟨a,_,rfl⟩:=boo.1 hx;exact a.isLt
 have hlen:(T.map BitVec.toNat).length = T.length:=bp2 _;rw [<- hlen]
 have key:∀ (N:Nat) (l:List Nat),l.Nodup -> (∀ x ∈ l,x < N) -> l.length <= N:=by
  intro N
  induction N with
  | zero =>
   intro l _ hl
   cases l with
   | nil=>exact bo9 _
   | cons a l=>exact absurd (hl a bst) (bod _)
  | succ N ih =>
   intro l hn hl
   have h3:=ih (l.filter fun x=>!decide (x = N)) (hn.filter _) fun x hx=>by
    rw [bpq] at hx;have:=hl x hx.1;have hx2:¬ x = N:=by simpa using hx.2
    omega
   have h4:l.length <= (l.filter fun x=>!decide (x = N)).length + 1:=by
    have h5:∀ l:List Nat,l.length = (l.filter fun x=>!decide (x = N)).length + l.countP fun x=>decide (x = N):=by
     intro l
     induction l with
     | nil=>rfl
     | cons a l ih =>
      by_cases e:a = N
      · simp [bpp,bqs,e,ih];omega
      simp [bpp,bqs,e,ih];omega
    have h6:=h5 l
    have h7:(l.countP fun x=>decide (x = N)) <= 1:=by
     have:=hn.count (a:=N)
     have e:(l.countP fun x=>decide (x = N)) = l.count N:=by
      unfold List.count;congr 1
     rw [e]
     first | exact List.nodup_iff_count.1 hn N | (rw [this];split <;> omega)
    omega
   omega
 exact key _ _ h1 h2
def se {i:Nat} (hi:i < 32):(orL T).getLsbD i = T.any fun r=>r.getLsbD i:=by
 unfold orL
 have:∀ (T:List AS) (o:AS),(T.foldl (· ||| ·) o).getLsbD i = (o.getLsbD i || T.any fun r=>r.getLsbD i):=by
  intro T
  induction T with
  | nil=>intro o;simp
  | cons a T ih=>intro o;rw [bq6,ih,bpj,List.any_cons,Bool.or_assoc]
 rw [this];simp
def b8h {s:AS}:orL (ln T s) = orL T &&& ~~~s:=by
 apply mf;intro i hi;rw [se hi,c7 hi,se hi]
 cases hs:s.getLsbD i with
 | true =>
  simp only [br6,bso];rw [bpw];intro z hz;obtain ⟨r,hr,rfl⟩:=uv.1 hz;rw [c7 hi,hs];simp
 | false =>
  simp only [bs1,Bool.and_true];rw [bqf,bp4,bp4];constructor
  · rintro ⟨z,hz,hb⟩
    obtain ⟨r,hr,rfl⟩:=uv.1 hz;rw [c7 hi,boc] at hb;exact ⟨r,hr,hb.1⟩
  rintro ⟨r,hr,hb⟩;exact ⟨r &&& ~~~s,uv.2 ⟨r,hr,rfl⟩,by rw [c7 hi,hb,hs];rfl⟩
def ag5 {s:AS} (h:fdT d T = some s):(orL (ln T s)).toNat < (orL T).toNat:=by
 obtain ⟨r,hr,k,hk,_,rfl,hz⟩:=aof h;rw [b8h];refine zd d6 fun e=>?_;obtain ⟨i,hi,hb⟩:=ao8 hz;have h1:=congrArg (fun z:AS=>z.getLsbD i) e;simp only [c7 hi,hb,br6,bso] at h1;have h1:(orL T).getLsbD i = false:=h1.symm;rw [se hi,bpw] at h1;rw [boh,bsf,boc] at hb;have h2:r.getLsbD i = false:=by simpa using h1 r hr
 have h3:k.getLsbD i = false:=by simpa using h1 k hk
 rw [h2,h3] at hb;simp at hb
def tf (d:Fd):Nat -> List AS -> List AS
 | 0,T=>T
 | f + 1,T=>match fdT d T with
  | none=>T
  | some s=>tf d f (ln T s)
def mvS (d:Fd) (T:List AS) (i k:Nat):List AS:=if agB d (T.getD i default) (T.getD k default) = true then i7 T (mh d (T.getD i default) (T.getD k default)) else T
def mvI (d:Fd):Nat -> List AS -> Nat -> Nat -> List AS
 | 0,T,_,_=>T
 | f + 1,T,i,k=>if k < T.length then mvI d f (mvS d T i k) i (k + 1) else T
def mvO (d:Fd):Nat -> List AS -> Nat -> List AS
 | 0,T,_=>T
 | f + 1,T,i=>if i < T.length then mvO d f (mvI d 8589934592 T i 0) (i + 1) else T
def a3q (d:Fd) (T:List AS) (i k:Nat):T <+: mvS d T i k:=by
 unfold mvS i7;split
 · split
   · exact brc _
   exact List.prefix_append _ _
 exact brc _
def a0t (d:Fd):∀ (f:Nat) (T:List AS) (i k:Nat),T <+: mvI d f T i k
 | 0,T,_,_=>brc _
 | f + 1,T,i,k=>by
  unfold mvI;split
  · exact (a3q d T i k).trans (a0t d f _ i (k + 1))
  exact brc _
def a49 (d:Fd):∀ (f:Nat) (T:List AS) (i:Nat),T <+: mvO d f T i
 | 0,T,_=>brc _
 | f + 1,T,i=>by
  unfold mvO;split
  · exact (a0t d _ T i 0).trans (a49 d f _ (i + 1))
  exact brc _
variable {A B:List AS}
def axs (h:A <+: B) (hl:B.length = A.length):B = A:=by
 obtain ⟨C,rfl⟩:=h;rw [bob] at hl;rw [brl.1 (show C.length = 0 by omega),bpd]
def abj {C:List AS} (h:A <+: B) (k:B <+: C) (hl:C.length = A.length):B = A:=by
 have h1:=h.length_le;have h2:=k.length_le;exact axs h bsq
def amg:∀ {f:Nat} {T:List AS} {i k:Nat},T.length < f + k -> (mvI d f T i k).length = T.length -> ∀ j,k <= j -> j < T.length -> agB d (T.getD i default) (T.getD j default) = true -> mh d (T.getD i default) (T.getD j default) ∈ T
 | 0,T,i,k,hf,_,j,hj,hjl,_=>by omega
 | f + 1,T,i,k,hf,hl,j,hj,hjl,ha=>by
  unfold mvI at hl;rw [if_pos bsq] at hl;have e:=abj (a3q d T i k) (a0t d f _ i (k + 1)) hl;by_cases hjk:j = k
  · subst hjk
    unfold mvS i7 at e;rw [if_pos ha] at e;split at e
    · assumption
    have:=congrArg List.length e;simp at this
  rw [e] at hl;exact amg bsq hl j bsq hjl ha
def aqa:∀ {f:Nat} {T:List AS} {i:Nat},T.length <= 4294967296 -> T.length < f + i -> (mvO d f T i).length = T.length -> ∀ a,i <= a -> a < T.length -> ∀ j,j < T.length -> agB d (T.getD a default) (T.getD j default) = true -> mh d (T.getD a default) (T.getD j default) ∈ T
 | 0,T,i,_,hf,_,a,ha,hal,_,_,_=>by omega
 | f + 1,T,i,hT,hf,hl,a,ha,hal,j,hj,hag=>by
  unfold mvO at hl;rw [if_pos bsq] at hl;have e:=abj (a0t d 8589934592 T i 0) (a49 d f _ (i + 1)) hl;by_cases hai:a = i
  · subst hai
    exact amg bsq (congrArg List.length e) j (boe _) hj hag
  rw [e] at hl;exact aqa hT bsq hl a bsq hal j hj hag
def azq {i k:Nat} (h:T.Nodup):(mvS d T i k).Nodup:=by
 unfold mvS;split
 · exact zz h
 exact h
def akv:∀ {f:Nat} {T:List AS} {i k:Nat},T.Nodup -> (mvI d f T i k).Nodup
 | 0,T,_,_,h=>h
 | f + 1,T,i,k,h=>by
  unfold mvI;split
  · exact akv (azq h)
  exact h
def ap1:∀ {f:Nat} {T:List AS} {i:Nat},T.Nodup -> (mvO d f T i).Nodup
 | 0,T,_,h=>h
 | f + 1,T,i,h=>by
  unfold mvO;split
  · exact ap1 (akv h)
  exact h
abbrev TC:=List AS × Bool
def FU2:Nat:=8589934592
def fdR (x:TC) (d:Fd):TC:=(tf d FU2 x.1,x.2 || (fdT d x.1).isSome)
def mvR (x:TC) (d:Fd):TC:=(mvO d FU2 x.1 0,x.2 || decide (x.1.length < (mvO d FU2 x.1 0).length))
def pw (fs ms:List Fd) (T:List AS):TC:=ms.foldl mvR (fs.foldl fdR (T,false))
def chF (fs ms:List Fd):Nat -> List AS -> List AS
 | 0,T=>T
 | f + 1,T=>if (pw fs ms T).2 = true then chF fs ms f (pw fs ms T).1 else (pw fs ms T).1
def muT (T:List AS):Nat:=(orL T).toNat * FU2 + (4294967296 - T.length)
def a2h {f:Nat} {s:AS} (h:fdT d T = some s):tf d (f + 1) T = tf d f (ln T s):=by
 show (match fdT d T with | none=>T | some s=>tf d f (ln T s)) = _;rw [h]
def a2e {f:Nat} (h:fdT d T = none):tf d f T = T:=by
 cases f with
 | zero=>rfl
 | succ f =>
  show (match fdT d T with | none=>T | some s=>tf d f (ln T s)) = _;rw [h]
variable {P:List AS -> Prop}
def amm (hP:∀ T s,P T -> fdT d T = some s -> P (ln T s)):∀ (f:Nat) (T:List AS),P T -> P (tf d f T)
 | 0,T,h=>h
 | f + 1,T,h=>by
  cases hq:fdT d T with
  | none=>rw [a2e hq];exact h
  | some s=>rw [a2h hq];exact amm hP f _ (hP T s h hq)
def asw (hP:∀ T r k,P T -> r ∈ T -> k ∈ T -> agB d r k = true -> P (i7 T (mh d r k))):∀ (f:Nat) (T:List AS) (i k:Nat),i < T.length -> P T -> P (mvI d f T i k)
 | 0,T,_,_,_,h=>h
 | f + 1,T,i,k,hi,h=>by
  unfold mvI;split
  · rename_i hk
    refine asw hP f _ i (k + 1) (bqh hi (a3q d T i k).length_le) ?_;unfold mvS;split
    · rename_i ha
      exact hP T _ _ h (pj hi) (pj hk) ha
    exact h
  exact h
def agd (hP:∀ T r k,P T -> r ∈ T -> k ∈ T -> agB d r k = true -> P (i7 T (mh d r k))):∀ (f:Nat) (T:List AS) (i:Nat),P T -> P (mvO d f T i)
 | 0,T,_,h=>h
 | f + 1,T,i,h=>by
  unfold mvO;split
  · rename_i hi
    exact agd hP f _ (i + 1) (asw hP _ T i 0 hi h)
  exact h
variable {fs:List Fd}
def aah (hP:∀ d ∈ fs,∀ T s,P T -> fdT d T = some s -> P (ln T s)):∀ (ds:List Fd) (x:TC),(∀ d ∈ ds,d ∈ fs) -> P x.1 -> P (ds.foldl fdR x).1
 | [],x,_,h=>h
 | d :: ds,x,hd,h=>aah hP ds (fdR x d) (fun e he=>hd e (by simp [he])) (amm (hP d (hd d bst)) _ _ h)
variable {ms:List Fd}
def ahe (hP:∀ d ∈ ms,∀ T r k,P T -> r ∈ T -> k ∈ T -> agB d r k = true -> P (i7 T (mh d r k))):∀ (ds:List Fd) (x:TC),(∀ d ∈ ds,d ∈ ms) -> P x.1 -> P (ds.foldl mvR x).1
 | [],x,_,h=>h
 | d :: ds,x,hd,h=>ahe hP ds (mvR x d) (fun e he=>hd e (by simp [he])) (agd (hP d (hd d bst)) _ _ _ h)
def a9m (h1:∀ d ∈ fs,∀ T s,P T -> fdT d T = some s -> P (ln T s)) (h2:∀ d ∈ ms,∀ T r k,P T -> r ∈ T -> k ∈ T -> agB d r k = true -> P (i7 T (mh d r k))) (h:P T):P (pw fs ms T).1 :=
 ahe h2 ms _ (fun _ h=>h) (aah h1 fs (T,false) (fun _ h=>h) h)
def b0f (h1:∀ d ∈ fs,∀ T s,P T -> fdT d T = some s -> P (ln T s)) (h2:∀ d ∈ ms,∀ T r k,P T -> r ∈ T -> k ∈ T -> agB d r k = true -> P (i7 T (mh d r k))):∀ (f:Nat) (T:List AS),P T -> P (chF fs ms f T)
 | 0,T,h=>h
 | f + 1,T,h=>by
  unfold chF;split
  · exact b0f h1 h2 f _ (a9m h1 h2 h)
  exact a9m h1 h2 h
def akq:∀ d ∈ fs,∀ (T:List AS) (s:AS),T.Nodup -> fdT d T = some s -> (ln T s).Nodup:=fun _ _ T s _ _=>aem T s
def auy:∀ d ∈ ms,∀ (T:List AS) (r k:AS),T.Nodup -> r ∈ T -> k ∈ T -> agB d r k = true -> (i7 T (mh d r k)).Nodup:=fun _ _ _ _ _ h _ _ _=>zz h
def apm:∀ (ds:List Fd) (x:TC),x.2 = true -> (ds.foldl fdR x).2 = true
 | [],x,h=>h
 | d :: ds,x,h=>apm ds (fdR x d) (by unfold fdR;simp [h])
def ad5:∀ (ds:List Fd) (x:TC),x.2 = true -> (ds.foldl mvR x).2 = true
 | [],x,h=>h
 | d :: ds,x,h=>ad5 ds (mvR x d) (by unfold mvR;simp [h])
def apu:∀ {ds:List Fd} {x:TC},(ds.foldl fdR x).2 = false -> ds.foldl fdR x = x /\ ∀ d ∈ ds,fdT d x.1 = none
 | [],x,h=>⟨rfl,fun _ h=>by cases h⟩
 | d :: ds,x,h=>by
  have hx2:(fdR x d).2 = false:=by
   cases hq:(fdR x d).2 with
   | false=>rfl
   | true=>rw [bq6,apm ds _ hq] at h;cases h
  have hd:x.2 = false /\ fdT d x.1 = none:=by
   unfold fdR at hx2;rw [bri] at hx2;exact ⟨hx2.1,by cases hq:fdT d x.1 with | none=>rfl | some s=>rw [hq] at hx2;cases hx2.2⟩
  have e:fdR x d = x:=by
   unfold fdR;rw [a2e hd.2,hd.2];simp
  rw [bq6,e] at h;obtain ⟨q1,q2⟩:=apu h;refine ⟨by rw [bq6,e];exact q1,fun k hk=>?_⟩
  rcases bok.1 hk with rfl | hk
  · exact hd.2
  exact q2 k hk
def apl:∀ {ds:List Fd} {x:TC},x.1.Nodup -> (ds.foldl mvR x).2 = false -> ds.foldl mvR x = x /\ ∀ d ∈ ds,∀ r ∈ x.1,∀ k ∈ x.1,agB d r k = true -> mh d r k ∈ x.1
 | [],x,_,h=>⟨rfl,fun _ h=>by cases h⟩
 | d :: ds,x,hn,h=>by
  have hx2:(mvR x d).2 = false:=by
   cases hq:(mvR x d).2 with
   | false=>rfl
   | true=>rw [bq6,ad5 ds _ hq] at h;cases h
  have hfew:=yo hn
  have hd:x.2 = false /\ (mvO d FU2 x.1 0).length = x.1.length:=by
   unfold mvR at hx2;rw [bri] at hx2;refine ⟨hx2.1, ?_⟩;have h1:=of_decide_eq_false hx2.2;have h2:=(a49 d FU2 x.1 0).length_le;omega
  have e0:mvO d FU2 x.1 0 = x.1:=axs (a49 d FU2 x.1 0) hd.2
  have e:mvR x d = x:=by
   unfold mvR;rw [e0];simp
  rw [bq6,e] at h;obtain ⟨q1,q2⟩:=apl hn h;refine ⟨by rw [bq6,e];exact q1,fun k hk=>?_⟩
  rcases bok.1 hk with rfl | hk
  · intro r hr q hq ha
    obtain ⟨i,hi,rfl⟩:=bqq.1 hr;obtain ⟨j,hj,rfl⟩:=bqq.1 hq;have g:=aqa (d:=k) (f:=FU2) (T:=x.1) (i:=0) hfew (by show _ < 8589934592 + 0;omega) hd.2 i (boe _) hi j hj;have ei:x.1.getD i default = x.1[i]:=by rw [bo7,bo6 hi];rfl
    have ej:x.1.getD j default = x.1[j]:=by rw [bo7,bo6 hj];rfl
    rw [ei,ej] at g;exact g ha
  exact q2 k hk
def b32 (hn:T.Nodup) (h:(pw fs ms T).2 = false):(pw fs ms T).1 = T /\ aka fs ms T:=by
 unfold pw at h ⊢
 have h0:(fs.foldl fdR (T,false)).2 = false:=by
  cases hq:(fs.foldl fdR (T,false)).2 with
  | false=>rfl
  | true=>rw [ad5 ms _ hq] at h;cases h
 obtain ⟨e1,c1⟩:=apu h0;rw [e1] at h ⊢;obtain ⟨e2,c2⟩:=apl (x:=(T,false)) hn h;rw [e2];exact ⟨rfl,fun d hd=>b5a (c1 d hd),fun d hd r hr k hk ha=>c2 d hd r hr k hk ha⟩
def axo (h:(orL B).toNat < (orL A).toNat):muT B < muT A:=by
 unfold muT;have h1:((orL B).toNat + 1) * FU2 <= (orL A).toNat * FU2:=bot _ h;rw [bpl] at h1;have:FU2 = 8589934592:=rfl;omega
def b9h (hp:A <+: B) (ho:(orL B).toNat = (orL A).toNat) (hB:B.length <= 4294967296):muT B <= muT A /\ (A.length < B.length -> muT B < muT A):=by
 unfold muT;rw [ho];have:=hp.length_le;omega
def bcu {r k:AS} (hr:r ∈ T) (hk:k ∈ T):orL (i7 T (mh d r k)) = orL T:=by
 apply mf;intro i hi;rw [se hi,se hi,bqf,bp4,bp4];constructor
 · rintro ⟨z,hz,hb⟩
   rcases sb.1 hz with hz | rfl
   · exact ⟨z,hz,hb⟩
   rw [xd hi] at hb;split at hb
   · exact ⟨r,hr,hb⟩
   exact ⟨k,hk,hb⟩
 rintro ⟨z,hz,hb⟩;exact ⟨z,sb.2 (.inl hz),hb⟩
def bah {f:Nat} {i:Nat}:orL (mvO d f T i) = orL T :=
 agd (P:=fun X=>orL X = orL T) (fun X r k h hr hk _=>(bcu hr hk).trans h) f T i rfl
def ast {T0:List AS} (f:Nat):∀ (T:List AS),muT T <= muT T0 -> muT (tf d f T) <= muT T0:=by
 induction f with
 | zero=>intro T h;exact h
 | succ f ih =>
  intro T h
  cases hq:fdT d T with
  | none=>rw [a2e hq];exact h
  | some s =>
   rw [a2h hq];have h1:=axo (ag5 hq);exact ih _ bsq
def be9 (x:TC) (d:Fd):muT (fdR x d).1 <= muT x.1 /\ (x.2 = false -> (fdR x d).2 = true -> muT (fdR x d).1 < muT x.1):=by
 refine ⟨ast _ _ (bo9 _),fun h1 h2=>?_⟩;unfold fdR at h2 ⊢;rw [h1,Bool.false_or,Option.isSome_iff_exists] at h2;obtain ⟨s,hs⟩:=h2;show muT (tf d FU2 x.1) < _;rw [show FU2 = 8589934591 + 1 from rfl,a2h hs];exact brp (ast _ _ (bo9 _)) (axo (ag5 hs))
def bi7 {x:TC} (hn:x.1.Nodup) (d:Fd):muT (mvR x d).1 <= muT x.1 /\ (x.2 = false -> (mvR x d).2 = true -> muT (mvR x d).1 < muT x.1):=by
 have h:=b9h (a49 d FU2 x.1 0) (congrArg BitVec.toNat bah) (yo (ap1 hn));refine ⟨h.1,fun h1 h2=>h.2 ?_⟩;unfold mvR at h2;rw [h1,Bool.false_or] at h2;exact of_decide_eq_true h2
def aru:∀ (ds:List Fd) (x:TC),muT (ds.foldl fdR x).1 <= muT x.1 /\ (x.2 = false -> (ds.foldl fdR x).2 = true -> muT (ds.foldl fdR x).1 < muT x.1)
 | [],x=>⟨bo9 _,fun h k=>by simp only [List.foldl_nil] at k;rw [h] at k;cases k⟩
 | d :: ds,x=>by
  obtain ⟨a1,a2⟩:=be9 x d;obtain ⟨b1,b2⟩:=aru ds (fdR x d);refine ⟨bon b1 a1,fun h k=>?_⟩
  cases hq:(fdR x d).2 with
  | true=>exact brp b1 (a2 h hq)
  | false=>exact bqh (b2 hq k) a1
def asq:∀ (ds:List Fd) (x:TC),x.1.Nodup -> muT (ds.foldl mvR x).1 <= muT x.1 /\ (x.2 = false -> (ds.foldl mvR x).2 = true -> muT (ds.foldl mvR x).1 < muT x.1)
 | [],x,_=>⟨bo9 _,fun h k=>by simp only [List.foldl_nil] at k;rw [h] at k;cases k⟩
 | d :: ds,x,hn=>by
  obtain ⟨a1,a2⟩:=bi7 hn d;obtain ⟨b1,b2⟩:=asq ds (mvR x d) (ap1 hn);refine ⟨bon b1 a1,fun h k=>?_⟩
  cases hq:(mvR x d).2 with
  | true=>exact brp b1 (a2 h hq)
  | false=>exact bqh (b2 hq k) a1
def ax8 (hn:T.Nodup) (h:(pw fs ms T).2 = true):muT (pw fs ms T).1 < muT T:=by
 unfold pw at h ⊢;obtain ⟨a1,a2⟩:=aru fs (T,false);have hn2:(fs.foldl fdR (T,false)).1.Nodup:=aah akq fs (T,false) (fun _ h=>h) hn;obtain ⟨b1,b2⟩:=asq ms (fs.foldl fdR (T,false)) hn2
 cases hq:(fs.foldl fdR (T,false)).2 with
 | true=>exact brp b1 (a2 rfl hq)
 | false=>exact bqh (b2 hq h) a1
def bdn (f:Nat):∀ {T:List AS},T.Nodup -> muT T < f -> aka fs ms (chF fs ms f T):=by
 induction f with
 | zero=>intro T _ h;omega
 | succ f ih =>
  intro T hn h;unfold chF;split
  · rename_i hc
    have h1:=ax8 hn hc;exact ih (a9m akq auy hn) bsq
  rename_i hc;rw [brn] at hc;obtain ⟨e,c⟩:=b32 hn hc;rw [e];exact c
def MU:Nat:=73786976294838206464
def ayd (T:List AS):muT T < MU:=by
 unfold muT;have h:=(orL T).isLt;have h1:((orL T).toNat + 1) * FU2 <= 4294967296 * FU2:=bot _ h;rw [bpl] at h1;have e:FU2 = 8589934592:=rfl;have e2:MU = 73786976294838206464:=rfl;omega
def ac5 (rest:AS):List AS:=i7 [0] rest
def chT (fs ms:List Fd) (rest:AS):List AS:=chF fs ms MU (ac5 rest)
def b7q (rest:AS):(ac5 rest).Nodup:=zz bst
def aq2 {rest:AS}:b4w fs ms (blks (j5 fs ms) rest) rest (chT fs ms rest):=by
 obtain ⟨hb,hs⟩:=a3j (j5 fs ms) rest;refine ⟨b0f (P:=JT fs (blks (j5 fs ms) rest) rest) (fun d hd T s hT hq=>?_) (fun d hd T r k hT hr hk ha=>?_) MU (ac5 rest) ?_,bdn MU (b7q rest) (ayd _)⟩
 · obtain ⟨r,hr,k,hk,ha,rfl,_⟩:=aof hq
   exact hT.equ hb hs hd hr hk ha
 · exact hT.mix (hs d (a1t.2 (.inl hd))) hr hk ha
 have hm:∀ z,z ∈ ac5 rest <-> z = 0 \/ z = rest:=fun z=>by unfold ac5;rw [sb];simp
 refine ⟨(hm 0).2 (.inl rfl),fun r hr=>?_,rest,(hm rest).2 (.inr rfl),fun r hr=>?_,fun a ha h1 h2=>by rw [h1] at h2;cases h2⟩
 · rcases (hm r).1 hr with rfl | rfl
   · exact ⟨ae.2 fun i hi h=>by simp at h,fun b hb'=>.inl bst⟩
   exact ⟨df _,fun b hb'=>.inr (hb.sub hb')⟩
 rcases (hm r).1 hr with rfl | rfl
 · exact ae.2 fun i hi h=>by simp at h
 exact df _
def alg {rest:AS}:orL (chT fs ms rest) ∈ chT fs ms rest /\ ∀ r ∈ chT fs ms rest,sub r (orL (chT fs ms rest)):=by
 have h:=(aq2 (fs:=fs) (ms:=ms) (rest:=rest)).j;obtain ⟨L,h1,h2,h3⟩:=h.top;have e:orL (chT fs ms rest) = L:=br (a85 h2) (sq h1);rw [e];exact ⟨h1,h2⟩
end
end
section
open Go.Proofs
def sT:List Rw:=[[0,1,5],[0,7,2]]
def fdX:List Fd:=[⟨1,2⟩]
end
section
open Go.Proofs
def bmc (a b:List AS):a7 btb 30 [pP (asl a),pP (asl b)] (aa [pB (decide (a = b))]):=by
 refine hpx (nt:=26) Tryz.func30 ?_;refine w_6 ?_;refine cq 0 rfl fun hn0=>?_;refine cq 1 rfl fun hn1=>?_;refine w_7 ?_;refine hcn (fun h0=>?_) (fun h0=>?_)
 · refine v_4 ?_;exact ⟨ccb (decide_eq_false fun e=>by subst e;omega).symm,trivial⟩
 refine w_9 ?_;refine ah (ι:=Nat) (ka 0 (ka 1 (ka 12 kn))) km (fun i=>⟨[(13,some (vI i))],[]⟩) (fun i=>i <= a.length /\ ∀ j,j < i -> a.getD j default = b.getD j default) (fun i=>a.length - i) (0) (⟨boe _,fun j hj=>absurd hj (bod j)⟩) ⟨⟨⟨_,rfl,(CoR.refl _)⟩,trivial⟩,trivial⟩ ?_;rintro i ⟨hi,hI⟩;refine w_5 ?_;refine hcd (fun h1=>?_) (fun h1=>?_)
 ·
  refine ad6 ?_;refine hcn (fun h2=>?_) (fun h2=>?_)
  · refine v_4 ?_;exact ⟨ccb (decide_eq_false fun e=>by subst e;exact absurd rfl (by assumption:¬ asI _ = asI _)).symm,trivial⟩
  refine w_5 ?_;refine lpz (i + 1) ⟨⟨⟨_,rfl,(CoR.refl _)⟩,tt⟩,trivial⟩ ?_;refine ⟨by omega,fun j hj=>?_⟩;by_cases e:j = i
  · subst e;exact ck.1 bsr
  exact hI j bsq
 obtain rfl:i = a.length:=by omega
 refine v_5 ?_;exact ⟨ccb (decide_eq_true (bhy bsq hI)).symm,trivial⟩
end
section
open Go.Proofs
def amk {T:List AS} {r:AS} (h:¬ r ∈ T):(i7 T r).length = T.length + 1:=by unfold i7;rw [if_neg h,bob];rfl
def bc9 {T:List AS} {r:AS}:(i7 T r).length <= T.length + 1:=by
 unfold i7;split
 · omega
 rw [bob];exact bo9 _
def aqb {s:AS}:∀ {T o:List AS},(og s o T).length <= o.length + T.length
 | [],o=>by simp [og]
 | r :: T,o=>by
  have h1:=aqb (s:=s) (T:=T) (o:=i7 o (r &&& ~~~s));have h2:=bc9 (T:=o) (r:=r &&& ~~~s);show (og s (i7 o (r &&& ~~~s)) T).length <= _;simp only [bov];omega
def afm {s:AS} {T:List AS} {i:Nat} (h:i < T.length):og s [] (T.take (i + 1)) = i7 (og s [] (T.take i)) (T.getD i default &&& ~~~s):=by
 unfold og;rw [aw h,bpk];rfl
def agl:goodFn btb 239:=wgx Tryz.func239
def b3o (T:List AS) (r:AS) (hT:T.length <= 8589934592):dq btb 239 [.one (.ptr 1000 0), .one (.p (asC r))] [(1000, .box [.ref 1001 T.length]),(1001, .arr true 1 46 T.length (lf sC T))] (.v (.one (.p (.raw (.bool (!decide (r ∈ T))))))) [(1000, .box [.ref 1001 (i7 T r).length]),(1001, .arr true 1 46 (i7 T r).length (lf sC (i7 T r)))] [1000,1001]:=by
 refine hfx (nt:=21) Tryz.func239 ?_;refine i6 ?_;refine qcx aht (cIn T r) ?_;refine cu ?_;refine am _ rfl (fun r0=>?_) (fun r0=>?_)
 · have h0:=r0;have hin:r ∈ T:=a2v r0;refine w_4 ?_;refine hrr ?_;rw [show i7 T r = T from if_pos hin,decide_eq_true hin];exact ⟨_,_,rfl,bss,CoR.refl _,uu⟩
 have h0:=r0;have hin:¬ r ∈ T:=a4x r0;refine w_9 ?_;refine m9 0 ?_;refine r9 1 true ?_;refine w_8 ?_;refine hrr ?_;exact ⟨_,_,rfl,bss,CoR.of_eq (congrArg (fun z=>HR.v (.one (.p (.raw (.bool (!z)))))) (decide_eq_false hin).symm),⟨⟨_,rfl,⟨congrArg (HV.ref 1001) (amk hin).symm,trivial⟩⟩,⟨_,rfl,bu (if_neg hin) (CoP.refl _)⟩,trivial⟩⟩
def bmg (T:List AS) (s:AS) (hT:T.length <= 8589934592):dq btb 255 [.one (.ptr 1000 0), .one (.p (asC s))] [(1000, .box [.ref 901 T.length]),(901, .arr true 1 46 T.length (lf sC T))] (.tup []) [(1000, .box [.ref 901 (ln T s).length]),(901, .arr true 1 46 (ln T s).length (lf sC (ln T s)))] [1000]:=by
 refine hfx (nt:=27) Tryz.func255 ?_;refine o8 ?_;refine b6 4 rfl rfl rfl ?_;refine a65 ⟨[(0,some _),(1,some _),(4,some _)],[(1000,some _)]⟩ (by exact kk) ?_;refine ui 1000 0 901 true 1 46 (lf sC []) bsu rfl rfl (CoP.sl rfl (.inr rfl) (fun h=>h) (fun i j hi _=>absurd hi (bod i))) (.inr rfl) rfl rfl ?_;refine w_5 ?_;refine bp (ka 0 (ka 1 (ka 4 kn))) km (fun i=>⟨[(5,some (vI i))],[(1000,some (.box [.ref 901 (og s [] (T.take i)).length])),(901,some (.arr true 1 46 (og s [] (T.take i)).length (lf sC (og s [] (T.take i)))))]⟩) T.length ⟨⟨⟨_,rfl,(CoR.refl _)⟩,trivial⟩,uu⟩ ?_;rintro i hi;have hel:(og s [] (T.take i)).length <= i:=bon aqb (by rw [boi,bps];omega);refine w_8 ?_;refine hcd (fun h0=>?_) (fun h0=>?_)
 · refine dl ?_;refine ik rfl rfl rfl rfl rfl rfl agl ((b3o (og s [] (T.take i)) (T.getD i default &&& ~~~s) bsq).swap 1001 901) (⟨xk.refl _,(CoP.of_eq (congrArg (fun z=>PV.raw (.int .u32 z)) (it _ _))),trivial⟩) uu rfl rfl ?_;refine w_6 ?_;exact lpx (i + 1) ⟨⟨⟨_,rfl,(CoR.refl _)⟩,tt⟩,⟨⟨_,rfl,(by rw [afm bsq];exact CoO.refl _)⟩,⟨_,rfl,(by rw [afm bsq];exact CoO.refl _)⟩,trivial⟩⟩
 obtain rfl:i = T.length:=by omega
 rw [show T.take T.length = T from bog];refine dy ?_;refine ⟨.inl rfl, ?_⟩;exact ⟨_,_,rfl,bss,CoR.refl _,uu⟩
end
end Go.Hx
