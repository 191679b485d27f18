/- A part of the proof: Y2 Y3 Bz5 Rb25 Rb34 Kw12 Sp1 Sp2 Sp3 Sp4 Ka1. -/
import Derived.Test.YtnlcekpflogjkaaGreatDoorTy26
set_option linter.all false
set_option maxRecDepth 100000
set_option maxHeartbeats 1000000
namespace Go.Hx
section
open Go.Proofs
def bhe(n:Nat)(c:Bool)(f:Nat->Nat->PV)(hn:n<=17592186044416) :
 d9 bxn 172 [.one (.p (.sl n 2 c f))] [] (.v (.one (.ref 0 n))) [(0, .arr true 2 52 n f)] []:=by
 refine hfx (nt:=8) Tryz.func172 ?_;refine sx7 ?_;refine c7 true rfl rfl rfl rfl rfl trivial ?_;refine cj ?_;refine ze (ι:=Bool) (fun c=>⟨[(0,some (bp (.sl n 2 c f)))],[]⟩) (fun _=>True) ?_ fun c _=>?_
 · rcases buc n with hz|h0
   · subst hz
     refine hw_exact' 0 rfl fun ad cap hcap=>?_;refine sx7 ?_;(iterate 2 refine c7 true rfl rfl rfl rfl rfl trivial ?_);refine cj ?_;refine al ad.isNone rfl ?_ ?_<;>intro hc
     · refine sx7 ?_
       refine c7 true rfl rfl rfl rfl rfl trivial ?_;refine cj ?_;refine d4 2 0 true 2 52 f bx3 rfl (CoP.sl rfl (.inr rfl) (fun h=>h) fun i j hi _=>absurd hi (bt1 i)) (.inr rfl) rfl ?_;refine hrr ?_;exact⟨_,_,rfl,trivial,CoR.refl _,uu⟩
     refine dn ?_;exact⟨false,trivial,⟨⟨_,rfl,CoP.raw_sl hcap⟩,trivial⟩,trivial⟩
   refine sx7 ?_;refine c7 true rfl rfl rfl rfl rfl trivial ?_;refine c7 true rfl rfl rfl rfl rfl h0 ?_;refine cj ?_;refine al false rfl (fun hc=>by cases hc) (fun hc=>?_);refine dn ?_;exact⟨c,trivial,tt,trivial⟩
 refine sx7 ?_;refine wu 0 rfl rfl rfl rfl rfl rfl trivial ?_;refine c7 true rfl rfl rfl rfl rfl trivial ?_;refine zp 0 true rfl rfl rfl rfl rfl rfl ⟨trivial,rfl,rfl,rfl, .inl rfl,by show 0+n<=9223372036854775807;omega,by show(0+n)*8<=140737488355328;omega,fun _=>.inl rfl⟩ ?_;refine c7 true rfl rfl rfl rfl rfl trivial ?_;refine cj ?_;refine hrr ?_;refine⟨_,_,rfl,trivial,CoR.of_eq (by show HR.v (.one (.ref 0 (0+n)))=_;rw[btk]),⟨⟨_,rfl, ?_⟩,trivial⟩⟩;exact⟨fun h=>h,rfl,rfl,(btk n).symm,fun i j _ _=>CoP.of_eq (by simp[ep])⟩
def asn (n:Int) (l m:List Fd) (x:AS):a6 bxn 116 [pI n,pP (fdl l),pP (fdl m),pA x] (ae [pI (ckB n l m x)]):=by
 refine hpx (nt:=21) Tryz.func116 ?_;refine da ?_;refine qcx a8a (a44 n l m) ?_;refine w_7 ?_;refine hcn ?_ ?_<;>intro h0
 · refine v_5 ?_;exact⟨cci (b84 bwx).symm,trivial⟩
 have hb:dc n l m=0:=h0;obtain⟨hn0,hn1,_⟩:=uv hb;refine w_6 ?_;refine rq rfl rfl rfl rfl rfl ?_ (hp:=hn0);refine w_2 ?_;refine hcn ?_ ?_<;>intro h1
 · refine v_4 ?_;exact⟨cci (b88 hb (fun e=>(by assumption:¬_=_) ((a0f x n.toNat).trans (congrArg asI e)))).symm,trivial⟩
 refine v_5 ?_;exact⟨cci (a93 hb (df.1 ((a0f x n.toNat).symm.trans bwx))).symm,trivial⟩
def b9g (l m:List Fd) (hl:l.length<=64) (hm:m.length<=64):a6 bxn 118 [pP (fdl l),pP (fdl m)] (ae [pP (fdl (se l m))]):=by
 refine hpx (nt:=37) Tryz.func118 ?_;refine w_7 ?_;refine fc9 (wgx Tryz.func172) ((bhe m.length false (lf Fd.c m) bww).swap 0 900) trivial ?_;refine da ?_;refine br (ka 12 (ka 13 kn)) km (fun i=>⟨[(5,some (.v (.one (.ref 900 (lz l m i 0).length)))),(14,some (vI i))],[(900,some (.arr true 2 52 (lz l m i 0).length (lf Fd.c (lz l m i 0))))]⟩) l.length ⟨⟨⟨_,rfl,(bm (aj3 l m))⟩,⟨_,rfl,(CoR.refl _)⟩,trivial⟩,⟨⟨_,rfl,(b6 (aj3 l m))⟩,trivial⟩⟩ ?_;rintro i hi;have hmb:=w5 (l.getD i default).rhs;refine w_5 ?_;refine hcd ?_ ?_<;>intro h0
 ·
  refine w_7 ?_;refine m9 0 ?_;refine w_6 ?_;refine qcx a3h (aob (l.getD i default).rhs) ?_;refine w_4 ?_;refine br (ka 7 (ka 12 (ka 13 (ka 14 (ka 20 (ka 21 kn)))))) (kb 0 km) (fun k=>⟨[(5,some (.v (.one (.ref 900 (lz l m i k).length)))),(22,some (vI k))],[(900,some (.arr true 2 52 (lz l m i k).length (lf Fd.c (lz l m i k))))]⟩) ((am (l.getD i default).rhs).length) ⟨⟨zy,⟨_,rfl,(CoR.refl _)⟩,trivial⟩,uu⟩ ?_;rintro k hk;have hal:=b5j (fs:=l) (ms:=m) (i:=i) (k:=k);refine w_5 ?_;refine hcd ?_ ?_<;>intro h1
  · refine ov ?_;refine m9 1 ?_;refine r9 2 true ?_;refine w_7 ?_;exact lpx (k+1) ⟨⟨⟨_,rfl,(bq (au0 bww))⟩,tt⟩,⟨⟨_,rfl,(ij (au0 bww) (CoP.refl _) (CoP.of_eq (congrArg (fun z=>PV.raw (.int .u32 z)) (a00 1 _))))⟩,uu⟩⟩
  obtain rfl:k=(am (l.getD i default).rhs).length:=by omega
  refine w_5 ?_;exact lpx (i+1) ⟨⟨⟨_,rfl,(bm (aur bww))⟩,tt⟩,⟨⟨_,rfl,(b6 (aur bww))⟩,trivial⟩⟩
 obtain rfl:i=l.length:=by omega
 refine w_6 ?_;refine bh 4 rfl rfl rfl ?_;exact hx8 rfl rfl rfl (⟨CoC.one (CoP.of_eq (by rw[b6t];rfl)),trivial⟩)
def bcr (n:Int) (l m:List Fd) (x:AS):a6 bxn 120 [pI n,pP (fdl l),pP (fdl m),pA x] (ae [pP (asl (b5o n l m x)),pI (ckB n l m x)]):=by
 refine hpx (nt:=25) Tryz.func120 ?_;refine fh ?_;refine qcx (wgx Tryz.func116) (asn n l m x) ?_;refine w_7 ?_;refine hcn ?_ ?_<;>intro h0
 · refine v_6 ?_;exact⟨CoC.one (am3 (if_neg bwx)),CoC.refl _,trivial⟩
 have hz:ckB n l m x=0:=h0;have hb:=zq hz;obtain⟨hn0,hn1,hl64,_,hm64,_⟩:=uv hb.1;refine w_6 ?_;refine qcx (wgx Tryz.func118) (b9g l m hl64 hm64) ?_;refine qy ?_;refine qcx (wgx Tryz.func117) (asf n (se l m) x hn0 hn1) ?_;refine v_3 ?_;exact⟨CoC.one (CoP.of_eq (by rw[show b5o n l m x=fq n l m x from if_pos hz];rfl)),cci hz.symm,trivial⟩
def bke (f:Fd) (b:AS):a6 bxn 119 [f.pc,pP (bx (asC b))] (ae [pB (a7u b f)]):=by
 refine hpx (nt:=12) Tryz.func119 ?_;refine sx7 ?_;refine m9 0 ?_;refine mz ?_;exact hx8 rfl rfl rfl (⟨ccb (by unfold a7u;rw[pn,aot]),trivial⟩)
def bcw (n:Int) (l m:List Fd) (x:AS):a6 bxn 56 [pI n,pP (fdl l),pP (fdl m),pA x] (ae [pA (ax0 n l m x),pI (ckB n l m x)]):=by
 refine hpx (nt:=45) Tryz.func56 ?_;refine fh ?_;refine qcx (wgx Tryz.func116) (asn n l m x) ?_;refine w_7 ?_;refine hcn ?_ ?_<;>intro h0
 · refine v_6 ?_;exact⟨cci (congrArg asI (show(0:AS)=ax0 n l m x from (if_neg bwx).symm)),CoC.refl _,trivial⟩
 have hz:ckB n l m x=0:=h0;have hb:=zq hz;obtain⟨hn0,hn1,hl64,_,hm64,_⟩:=uv hb.1;refine fh ?_;refine qcx (wgx Tryz.func118) (b9g l m hl64 hm64) ?_;refine qy ?_;refine qcx (wgx Tryz.func117) (asf n (se l m) x hn0 hn1) ?_;refine w_4 ?_;have hbl:=abs n l m x;refine br (ka 1 (ka 28 (ka 29 kn))) km (fun i=>⟨[(11,some (vA (a0y l x ((fq n l m x).take i)))),(30,some (vI i))],[]⟩) ((fq n l m x).length) ⟨⟨⟨_,rfl,(CoR.refl _)⟩,⟨_,rfl,(CoR.refl _)⟩,trivial⟩,trivial⟩ ?_;rintro i hi;refine w_5 ?_;refine hcd ?_ ?_<;>intro h1
 ·
  have hil:i<(fq n l m x).length:=Int.ofNat_lt.1 h1;refine w_7 ?_;refine m9 0 ?_;refine w_6 ?_;refine qcx a3y (adp ((fq n l m x).getD i default)) ?_;refine w_2 ?_;refine hcn ?_ ?_<;>intro h2
  · have hq:¬bsz ((fq n l m x).getD i default)=1:=fun e=>h2 (by rw[e];rfl);refine w_5 ?_;exact lpx (i+1) ⟨⟨⟨_,rfl,(by first|exact ip (congrArg asI (ap0 hil hq))|exact ip (congrArg asI (aqv hil hq ha))|exact ip ((bOr _ _).trans (congrArg asI (ar8 hil hq ha))))⟩,tt⟩,trivial⟩
  have hq:bsz ((fq n l m x).getD i default)=1:=Int.ofNat_inj.1 h2;refine w_2 ?_;refine jb 13 rfl rfl rfl ?_;refine w_3 ?_;refine qcx (wgx Tryz.func77) (boe l 119 1 (fun j=>[bx (asC ((fq n l m x).getD i default))].getD j .any) (a7u ((fq n l m x).getD i default)) (wgx Tryz.func119) (fun f=>bke f ((fq n l m x).getD i default))) ?_;refine cj ?_;refine al _ rfl ?_ ?_<;>intro r3
  · have h3:=r3;have ha:l.any (a7u ((fq n l m x).getD i default))=true:=r3;refine da ?_;exact lpx (i+1) ⟨⟨⟨_,rfl,(by first|exact ip (congrArg asI (ap0 hil hq))|exact ip (congrArg asI (aqv hil hq ha))|exact ip ((bOr _ _).trans (congrArg asI (ar8 hil hq ha))))⟩,tt⟩,trivial⟩
  have h3:=r3;have ha:l.any (a7u ((fq n l m x).getD i default))=false:=r3;refine w_5 ?_;exact lpx (i+1) ⟨⟨⟨_,rfl,(by first|exact ip (congrArg asI (ap0 hil hq))|exact ip (congrArg asI (aqv hil hq ha))|exact ip ((bOr _ _).trans (congrArg asI (ar8 hil hq ha))))⟩,tt⟩,trivial⟩
 obtain rfl:i=(fq n l m x).length:=Nat.le_antisymm hi (bwu fun q=>h1 (Int.ofNat_lt.2 q));rw[show(fq n l m x).take (fq n l m x).length=(fq n l m x) from bt6];refine v_7 ?_;exact⟨cci (congrArg asI (show a1z n l m x=ax0 n l m x from (if_pos hz).symm)),cci hz.symm,trivial⟩
def aoj:goodFn bxn 54:=wgx Tryz.func54
def ahj (n:Int) (l m:List Fd) (s:AS):a6 bxn 54 [pI n,pP (fdl l),pP (fdl m),pA s] (ae [pI (ck4 n l m s)]):=by
 refine hpx (nt:=27) Tryz.func54 ?_;refine da ?_;refine ak rfl rfl ?_ ?_<;>intro r0
 ·
  have h0:=tz1 r0;(iterate 2 refine k9 (gtf r0) ?_);refine w_7 ?_
  exact hx8 rfl rfl rfl (⟨cci (b8i bww).symm,trivial⟩)
 have h0:=tz2 r0;(iterate 2 refine qy ?_ (hg:=(gff r0)));refine w_2 ?_;refine al _ rfl ?_ ?_<;>intro r1
 · have h1:=tz1 (ax r0 r1);refine v_4 ?_;exact⟨cci (b8i bww).symm,trivial⟩
 have h1:=tz2 (ax r0 r1);refine w_7 ?_;refine qcx a8a (a44 n l m) ?_;refine w_7 ?_;refine hcn ?_ ?_<;>intro h2
 ·
  have hc:¬(n<0\/8<n):=by omega
  refine v_5 ?_;exact⟨cci ((a5r hc).trans (b84 bwx)).symm,trivial⟩
 have hb:dc n l m=0:=h2;obtain⟨hn0,hn1,_⟩:=uv hb;have hc:¬(n<0\/8<n):=by omega
 refine w_6 ?_;refine rq rfl rfl rfl rfl rfl ?_ (hp:=hn0);refine w_2 ?_;refine hcn ?_ ?_<;>intro h3
 · refine v_4 ?_;exact⟨cci ((a5r hc).trans (b88 hb (fun e=>(by assumption:¬_=_) ((a0f s n.toNat).trans (congrArg asI e))))).symm,trivial⟩
 refine v_5 ?_;exact⟨cci ((a5r hc).trans (a93 hb (df.1 ((a0f s n.toNat).symm.trans bwx)))).symm,trivial⟩
end
section
open Go.Proofs
section
variable {n:Int}
def b55 (h:n<=16):aa n>>>n.toNat=0:=by
 unfold aa;rw[show min n.toNat 32=n.toNat by omega];exact(rp bww).1 (jh _)
variable {l m:List Fd}{x:AS}
def b7c (h:ckB n l m x=0):a6 bxn 120 [pI n,pP (fdl l),pP (fdl m),pA x] (ae [pP (asl (fq n l m x)),pI 0]):=by
 have:=bcr n l m x;rw[h,show b5o n l m x=fq n l m x from if_pos h]at this;exact this
def b6f (h:ckB n l m x=0):a6 bxn 56 [pI n,pP (fdl l),pP (fdl m),pA x] (ae [pA (a1z n l m x),pI 0]):=by
 have:=bcw n l m x;rw[h,show ax0 n l m x=a1z n l m x from if_pos h]at this;exact this
variable {p:AS}
def ayq(h:p&&&~~~(a1z n l m x)=0):a60 n l m p x=none:=if_pos h
def axt(h:¬p&&&~~~(a1z n l m x)=0)(h2:¬1<(kp n l m x p).length):a60 n l m p x=none:=by unfold a60;rw[if_neg h,if_neg h2]
def bkk(h:¬p&&&~~~(a1z n l m x)=0)(h2:1<(kp n l m x p).length):a60 n l m p x=some ⟨x,(kp n l m x p).getD 0 default⟩:=by unfold a60;rw[if_neg h,if_pos h2]
def is4(n:Int)(l m:List Fd):Bool:=if ck4 n l m 0=0 then !(ac8 n l m (aa n)).2 else false
def bmj(n:Int)(l m:List Fd)(x p:AS):a6 bxn 57 [pI n,pP (fdl l),pP (fdl m),pA x,pA p] (ae [pP (asl (b4e n l m x p)),pI (ck4 n l m (x|||p))]):=by
 refine hpx (nt:=58) Tryz.func57 ?_;refine mz ?_;refine rc rfl rfl rfl rfl rfl rfl aoj (ahj n l m (x|||p)) (⟨CoC.refl _,CoC.refl _,CoC.refl _,cci (bOr _ _),trivial⟩) rfl rfl ?_;refine w_7 ?_;refine hcn ?_ ?_<;>intro h0
 · refine v_6 ?_;exact⟨CoC.one (am3 (if_neg bwx)),CoC.refl _,trivial⟩
 have hz:ck4 n l m (x|||p)=0:=h0;have hx:=ah1 (sx hz).2.2 (a5b (a:=x) (b:=p));refine w_7 ?_;refine qcx (wgx Tryz.func120) (b7c hx) ?_;refine b7q ?_;refine d4 15 900 true 1 50 (lf sC []) bx3 rfl (CoP.sl rfl (.inr rfl) (fun h=>h) (fun i j hi _=>absurd hi (bt1 i))) (.inr rfl) rfl ?_;have hbl:=abs n l m x;refine br (ka 4 (ka 39 (ka 40 kn))) km (fun i=>⟨[(15,some (.v (.one (.ref 900 (qi p ((fq n l m x).take i)).length)))),(41,some (vI i))],[(900,some (.arr true 1 50 (qi p ((fq n l m x).take i)).length (lf sC (qi p ((fq n l m x).take i)))))]⟩) ((fq n l m x).length) ⟨⟨⟨_,rfl,(CoR.refl _)⟩,⟨_,rfl,(CoR.refl _)⟩,trivial⟩,uu⟩ ?_;rintro i hi;have hcl:(qi p ((fq n l m x).take i)).length<=i:=btc (aqf _ _) (by rw[bt4];omega);refine w_5 ?_;refine hcd ?_ ?_<;>intro h1
 ·
  refine ov ?_;refine hcn ?_ ?_<;>intro h2
  ·
   have hq:¬(fq n l m x).getD i default&&&p=0:=a3a h2;refine w_5 ?_;refine m9 0 ?_;refine r9 1 true ?_;refine w_6 ?_
   first | (refine lpz (i+1) ⟨⟨⟨_, rfl, (bq (adx bww hq))⟩, ⟨_, rfl, (CoR.refl _)⟩, tt⟩, ⟨⟨_, rfl, (bw (adx bww hq) (CoP.of_eq (congrArg (fun z => PV.raw (.int .u32 z)) (kg _ _))))⟩, trivial⟩⟩ ?_; show i+1<=_; omega)
         |(refine lpz (i+1) ⟨⟨⟨_,rfl,(bm (adt bww hq))⟩,⟨_,rfl,(CoR.refl _)⟩,tt⟩,⟨⟨_,rfl,(b6 (adt bww hq))⟩,trivial⟩⟩ ?_;show i+1<=_;omega)
  have hq:(fq n l m x).getD i default&&&p=0:=a9f h2;refine w_5 ?_
  first | (refine lpz (i+1) ⟨⟨⟨_, rfl, (bq (adx bww hq))⟩, ⟨_, rfl, (CoR.refl _)⟩, tt⟩, ⟨⟨_, rfl, (bw (adx bww hq) (CoP.of_eq (congrArg (fun z => PV.raw (.int .u32 z)) (kg _ _))))⟩, trivial⟩⟩ ?_; show i+1<=_; omega)
        |(refine lpz (i+1) ⟨⟨⟨_,rfl,(bm (adt bww hq))⟩,⟨_,rfl,(CoR.refl _)⟩,tt⟩,⟨⟨_,rfl,(b6 (adt bww hq))⟩,trivial⟩⟩ ?_;show i+1<=_;omega)
 obtain rfl:i=(fq n l m x).length:=by omega
 rw[show(fq n l m x).take (fq n l m x).length=(fq n l m x) from bt6];refine w_2 ?_;refine bh 15 rfl rfl rfl ?_;refine w_2 ?_;refine qcx yy (a6x (qi p (fq n l m x)) (asb n l m x p)) ?_;refine v_3 ?_;exact⟨CoC.one (CoP.of_eq (by rw[show b4e n l m x p=kp n l m x p from if_pos hz];rfl)),cci hz.symm,trivial⟩
def bkw (h:ck4 n l m (x|||p)=0):a6 bxn 57 [pI n,pP (fdl l),pP (fdl m),pA x,pA p] (ae [pP (asl (kp n l m x p)),pI 0]):=by
 have:=bmj n l m x p;rw[h,show b4e n l m x p=kp n l m x p from if_pos h]at this;exact this
def bme(n:Int)(l m:List Fd)(p:AS):a6 bxn 16 [pI n,pP (fdl l),pP (fdl m),pA p] (ae [(ac8 n l m p).1.pc,pB (ac8 n l m p).2,pI (ck4 n l m p)]):=by
 refine hpx (nt:=72) Tryz.func16 ?_;refine sx7 ?_;refine m9 0 ?_;refine da ?_;refine qcx aoj (ahj n l m p) ?_;refine w_7 ?_;refine hcn ?_ ?_<;>intro h0
 · refine v_8 ?_;exact by rw[bks bwx];exact⟨CoC.agg ⟨CoP.of_eq rfl,CoP.of_eq rfl,trivial⟩,CoC.refl _,CoC.refl _,trivial⟩
 have hz:ck4 n l m p=0:=h0;have hsl:=xn p;refine w_5 ?_;refine qcx aov (avw p) ?_;refine w_4 ?_;refine ai (ι:=Nat) (ka 0 (ka 1 (ka 2 (ka 3 (ka 8 (ka 27 (ka 28 kn))))))) (kb 0 km) (fun i=>⟨[(29,some (vI i))],[]⟩) (fun i=>i<=(c8 p).length/\((c8 p).take i).findSome? (a60 n l m p)=none) (fun i=>(c8 p).length-i) (0) (⟨bsx _,rfl⟩) ⟨⟨⟨_,rfl,(CoR.refl _)⟩,trivial⟩,trivial⟩ ?_;rintro i ⟨hi,hI⟩;refine w_5 ?_;refine hcd ?_ ?_<;>intro h1
 ·
  have hil:i<(c8 p).length:=by omega
  have hxs:sub ((c8 p).getD i default) p:=a7c (uw hil);have hX:ckB n l m ((c8 p).getD i default)=0:=ah1 (sx hz).2.2 hxs;have hXp:ck4 n l m (((c8 p).getD i default)|||p)=0:=a99 hz (a4a hxs (jh p));refine j5 ?_;refine qcx (wgx Tryz.func56) (b6f hX) ?_;refine ago ?_;refine hcd ?_ ?_<;>intro h2
  · have hq:p&&&~~~(a1z n l m ((c8 p).getD i default))=0:=b8v h2;refine w_5 ?_;refine lpz (i+1) ⟨⟨⟨_,rfl,(CoR.refl _)⟩,tt⟩,uu⟩ ?_;exact⟨by omega,(a7v hil hI).trans (by first|exact ayq hq|exact axt hq hc)⟩
  have hq:¬p&&&~~~(a1z n l m ((c8 p).getD i default))=0:=b0s h2;refine w_8 ?_;refine qcx (wgx Tryz.func57) (bkw hXp) ?_;refine ahd ?_;refine hcd ?_ ?_<;>intro h3
  ·
   have hc:1<(kp n l m ((c8 p).getD i default) p).length:=by omega
   have hcl:(kp n l m ((c8 p).getD i default) p).length<=8589934592:=btc (uz _) (asb n l m ((c8 p).getD i default) p);refine ig ?_;refine hrr ?_
   have he:ac8 n l m p=(⟨((c8 p).getD i default),(kp n l m ((c8 p).getD i default) p).getD 0 default⟩,true):=by
    rw[ar7 hz,show dq n l m p=some _ from b19 hil hI (bkk hq hc)];rfl
   exact f9 rfl rfl (by rw[he];exact⟨CoC.agg ⟨CoP.refl _,CoP.refl _,trivial⟩,CoC.refl _,cci hz.symm,trivial⟩)
  have hc:¬1<(kp n l m ((c8 p).getD i default) p).length:=by omega
  refine w_5 ?_;refine lpz (i+1) ⟨⟨⟨_,rfl,(CoR.refl _)⟩,tt⟩,uu⟩ ?_;exact⟨by omega,(a7v hil hI).trans (by first|exact ayq hq|exact axt hq hc)⟩
 obtain rfl:i=(c8 p).length:=by omega
 rw[show(c8 p).take (c8 p).length=(c8 p) from bt6]at hI;refine w_8 ?_;refine hrr ?_
 have he:ac8 n l m p=(⟨0,0⟩,false):=by
  rw[ar7 hz,show dq n l m p=none from hI];rfl
 exact f9 rfl rfl (by rw[he];exact⟨CoC.agg ⟨CoP.of_eq rfl,CoP.of_eq rfl,trivial⟩,CoC.refl _,cci hz.symm,trivial⟩)
def az1 (h:ck4 n l m p=0):a6 bxn 16 [pI n,pP (fdl l),pP (fdl m),pA p] (ae [(vF (dq n l m) p).pc,pB (vBo (dq n l m) p),pI 0]):=by
 have:=bme n l m p;rw[h,ar7 h]at this;exact this
def b0q {V:AS->Option Fd} {t:List AS} {i j:Nat} (h:i=j):PV.raw (.int .u32 (ct .andNot .u32 (asI (t.getD i default)) (asI (vF V (t.getD j default)).rhs)))=sC (n5 V (t.getD j default)) 0:=by
 subst h;exact congrArg (fun z=>PV.raw (.int .u32 z)) (pn _ _)
def asi {t:List AS} {s:AS} (ht:∀q∈t,ck4 n l m q=0) (hv:vBo (dq n l m) s=true) (hs:ck4 n l m s=0):∀q∈t++[nf (dq n l m) s,n5 (dq n l m) s],ck4 n l m q=0:=by
 intro q hq
 rcases btd.1 hq with hq|hq
 · exact ht q hq
 obtain⟨h1,h2,h3⟩:=ua n l m s _ (a4p hv);simp only[bt7,List.not_mem_nil,or_false]at hq
 rcases hq with rfl|rfl
 · exact a99 hs h1
 exact a99 hs a1n
def bxb{p:Prop}(h:p:=by simp only[dv,b7,bsy,bto,bux,bt4];omega):p:=h
def bo9(n:Int)(l m:List Fd):a6 bxn 15 [pI n,pP (fdl l),pP (fdl m)] (ae [pP (asl (iw n l m)),pI (ck4 n l m 0)]):=by
 refine hpx (nt:=71) Tryz.func15 ?_;refine ig ?_;refine qcx aoj (ahj n l m 0) ?_;refine w_7 ?_;refine hcn ?_ ?_<;>intro h0
 · refine v_6 ?_;exact⟨CoC.one (am3 (bjp bwx)),CoC.refl _,trivial⟩
 have hz:ck4 n l m 0=0:=h0;obtain⟨hn0,hn8,hb⟩:=sx hz;have hn1:n<=16:=by omega
 have hf:ck4 n l m (aa n)=0:=by rw[a5r bww];exact a93 (zq hb).1 (b55 hn1)
 refine w_5 ?_;refine rq rfl rfl rfl rfl rfl ?_ (hp:=⟨qd hn0 hn1,o9 hn0 hn1⟩);refine m9 0 ?_;refine w_8 ?_;refine d4 10 900 true 1 50 (lf sC []) bx3 rfl (CoP.sl rfl (.inr rfl) (fun h=>h) (fun i j hi _=>absurd hi (bt1 i))) (.inr rfl) rfl ?_;refine xq 9 901 rfl rfl rfl rfl ?_
 refine ai (ι := Nat×List AS×List AS) (ka 0 (ka 1 (ka 2 kn))) km (fun x => ⟨[(10, some (.v (.one (.ref 900 x.2.2.length)))), (9, some (.v (.one (.ref 901 x.2.1.length))))], [(900, some (.arr true 1 50 x.2.2.length (lf sC x.2.2))), (901, some (.arr true 1 50 x.2.1.length (lf sC x.2.1)))]⟩) (fun x => a8l (dq n l m) (aa n) x/\∀q∈x.2.1, ck4 n l m q=0) (fun x => x.1) ((6562, [aa n], [])) (⟨ajv hn8, fun q hq => by
       simp only[bte]at hq
       rw[hq];exact hf⟩) ⟨tt,⟨u9,⟨_,rfl,(p9 (CoP.of_eq (congrArg (fun z=>PV.raw (.int .u32 z)) (ph hn0 hn1))))⟩,trivial⟩⟩ ?_
 rintro x ⟨hx,hk⟩;have hlen:=a5w hx;refine xq 9 902 rfl rfl rfl rfl ?_;refine w_7 ?_;refine hcd ?_ ?_<;>intro h1
 ·
  have hs:ck4 n l m (x.2.1.getD (x.2.1.length-1) default)=0:=hk _ (uw bww);refine a5y ?_;refine a0m ⟨[(0,some _),(1,some _),(2,some _),(9,some _),(10,some _),(11,some _)],[(900,some _),(902,some _)]⟩ (by exact kk) ?_;refine aon 9 901 rfl rfl rfl rfl (by simp only[dv,b7,bt8];omega) rfl ?_;refine w_6 ?_;refine rc rfl rfl rfl rfl rfl rfl (wgx Tryz.func16) (az1 (p:=(x.2.1.getD (x.2.1.length-1) default)) hs) (⟨CoC.refl _,CoC.refl _,CoC.refl _,CoC.one (CoP.of_eq (congrArg (fun i=>asC (x.2.1.getD i default)) bww)),trivial⟩) rfl rfl ?_;refine w_4 ?_;refine m9 1 ?_;refine ov ?_;refine al _ rfl ?_ ?_<;>intro r2
  ·
   have h2:=r2;have hv:vBo (dq n l m) (x.2.1.getD (x.2.1.length-1) default)=true:=r2;refine ig ?_;refine m9 2 ?_;refine r9 3 true ?_;refine w_2 ?_
   first | (refine ⟨(x.1-1, (x.2.1.take (x.2.1.length-1))++[nf (dq n l m) (x.2.1.getD (x.2.1.length-1) default), n5 (dq n l m) (x.2.1.getD (x.2.1.length-1) default)], x.2.2), ?_, ?_, ?_⟩
            · exact⟨b1s (ua n l m) hx bww hv,asi (fun q hq=>hk q (bvg hq)) hv hs⟩
            · dsimp only
              omega
            exact⟨⟨zy,⟨_,rfl,(fb bxb)⟩,tt⟩,⟨u9,⟨_,rfl,(atc bxb (fun i hi=>CoP.of_eq (aq6 hi)) (CoP.of_eq (congrArg (fun z=>PV.raw (.int .u32 z)) (bOr _ _))) (CoP.of_eq (b0q bww)) rfl)⟩,trivial⟩⟩)
         | (refine ⟨(x.1-1,(x.2.1.take (x.2.1.length-1)),x.2.2++[(x.2.1.getD (x.2.1.length-1) default)]), ?_, ?_, ?_⟩
            · exact⟨b1j hx bww hv,fun q hq=>hk q (bvg hq)⟩
            · dsimp only
              omega
            exact⟨⟨⟨_,rfl,(bq rfl)⟩,⟨_,rfl,(fb bxb)⟩,tt⟩,⟨⟨_,rfl,(bw rfl (CoP.of_eq (congrArg (fun i=>asC (x.2.1.getD i default)) bww)))⟩,⟨_,rfl,(ap4 bww (by simp only[dv,b7];omega))⟩,trivial⟩⟩)
  have h2:=r2;have hv:vBo (dq n l m) (x.2.1.getD (x.2.1.length-1) default)=false:=r2;refine w_3 ?_;refine m9 4 ?_;refine r9 5 true ?_;refine w_2 ?_
  first | (refine ⟨(x.1-1, (x.2.1.take (x.2.1.length-1))++[nf (dq n l m) (x.2.1.getD (x.2.1.length-1) default), n5 (dq n l m) (x.2.1.getD (x.2.1.length-1) default)], x.2.2), ?_, ?_, ?_⟩
           · exact⟨b1s (ua n l m) hx bww hv,asi (fun q hq=>hk q (bvg hq)) hv hs⟩
           · dsimp only
             omega
           exact⟨⟨zy,⟨_,rfl,(fb bxb)⟩,tt⟩,⟨u9,⟨_,rfl,(atc bxb (fun i hi=>CoP.of_eq (aq6 hi)) (CoP.of_eq (congrArg (fun z=>PV.raw (.int .u32 z)) (bOr _ _))) (CoP.of_eq (b0q bww)) rfl)⟩,trivial⟩⟩)
        | (refine ⟨(x.1-1,(x.2.1.take (x.2.1.length-1)),x.2.2++[(x.2.1.getD (x.2.1.length-1) default)]), ?_, ?_, ?_⟩
           · exact⟨b1j hx bww hv,fun q hq=>hk q (bvg hq)⟩
           · dsimp only
             omega
           exact⟨⟨⟨_,rfl,(bq rfl)⟩,⟨_,rfl,(fb bxb)⟩,tt⟩,⟨⟨_,rfl,(bw rfl (CoP.of_eq (congrArg (fun i=>asC (x.2.1.getD i default)) bww)))⟩,⟨_,rfl,(ap4 bww (by simp only[dv,b7];omega))⟩,trivial⟩⟩)
 refine w_2 ?_;refine bh 10 rfl rfl rfl ?_;have hx0:x.2.1.length=0:=by omega
 refine w_2 ?_;refine qcx an9 (abh x.2.2 bww) ?_;refine v_3 ?_;exact⟨CoC.one (CoP.of_eq (by rw[b15 hz,b61 hx hx0];rfl)),cci hz.symm,trivial⟩
end
end
section
structure Mx where
 d:Dps
 m:List Dp
deriving Inhabited
def Mx.mv(x:Mx):List Fd:=x.m.map (Dp.fd x.d.num)
def Mx.c (x:Mx):Nat->PV
 |0=>x.d.c 0
 |1=>x.d.c 1
 |2=>dpl x.m
 |_=>.any
abbrev Mx.pc(x:Mx):PC:=.agg [x.c 0,x.c 1,x.c 2]
def Mx.ok(x:Mx):Bool:=decide (x.d.l.length<=6)&&decide (x.m.length<=4)
def bmu {x:Mx} (h:x.ok=true):x.d.l.length<=6/\x.m.length<=4/\dc x.d.num x.d.fds x.mv=0:=by
 unfold Mx.ok at h;rw[bt5,decide_eq_true_eq,decide_eq_true_eq]at h;refine⟨h.1,h.2, ?_⟩;have hv:=bi1 h.1;obtain⟨h0,h1⟩:=afe x.d;refine(b21 hv (by unfold Mx.mv;rw[btn];omega) fun j hj=>?_).symm;have hm:=uw hj;unfold Mx.mv at hm;obtain⟨y,hy,e⟩:=bti.1 hm;have e:Dp.fd x.d.num y=x.mv.getD j default:=e;rw[<- e];exact(a9g h0 bww).2 ⟨xp,xp⟩
def bh7(n:Int)(l m:List Fd)(ps:List AS):Int:=if ck4 n l m 0=0 then lsC n ps l m else ck4 n l m 0
def b6b(n:Int)(l m:List Fd)(ps:List AS):Bool:=if ck4 n l m 0=0 then(if lsC n ps l m=0 then lsB n ps l m&&ps.all (fun p=>!vBo (dq n l m) p)else false)else false
end
section
open Go.Proofs Go.Proofs.YtnlcekpflogjkaaGreatDoor
open Go.RowKit Go.ChangeShapes Go.WideShapes Go.ChangeAt
def s2C (x:AS×AS):Nat->PV
 |0=>asC x.1
 |1=>asC x.2
 |_=>.any
end
section
open Go.Proofs Go.Proofs.YtnlcekpflogjkaaGreatDoor
open Go.RowKit Go.ChangeShapes Go.WideShapes Go.ChangeAt
def bpk:Rd bxn 131 2 Dp.c:=by
 intro H enc w sp held fuel cs x h;obtain⟨hl,n,hf⟩:=b26 Tryz.underlying131 h;obtain⟨y0,e0⟩:=hf 0 _ rfl;obtain⟨y1,e1⟩:=hf 1 _ rfl;obtain⟨a0,h0⟩:=ao6 rd5 e0;obtain⟨a1,h1⟩:=ao6 rd5 e1;refine⟨hl.trans bxd,(⟨a0,a1⟩:Dp),fun j hj=>?_⟩
 match j,hj with
 |0,_=>exact h0 0 bww
 |1,_=>exact h1 0 bww
def b9i:RdB bxn 25 1 (awl 2 Dp.c) fun b l=>l.length<=b :=
 (ajl (B:=fun _ _=>True) (fun _ _ _ _ _=>trivial) Tryz.underlying25 bxd bww bpk.toB).co id (fun b a h=>h.1) fun a j hj=>CoP.refl _
def bmm:RdB bxn 27 2 Dps.c fun b d=>d.l.length<=b:=by
 intro H enc w sp held fuel cs x h;obtain⟨hl,n,hf⟩:=a5z Tryz.underlying27 h;obtain⟨y0,e0⟩:=hf 0 _ rfl;obtain⟨y1,e1⟩:=hf 1 _ rfl;obtain⟨a0,_,h0⟩:=rh (fun _ _ _ _ _=>trivial) rd5.toB e0;obtain⟨a1,hb,h1⟩:=rh (B:=fun b (l:List Dp)=>l.length<=b) (fun _ _ _ h k=>btc k h) b9i e1;refine⟨hl.trans bxd,(⟨a0,a1⟩:Dps),hb,fun j hj=>?_⟩
 match j,hj with
 |0,_=>exact h0 0 bww
 |1,_=>exact h1 0 bww
def boo:RdB bxn 45 3 Mx.c fun b x=>x.d.l.length<=b/\x.m.length<=b:=by
 intro H enc w sp held fuel cs x h;obtain⟨hl,n,hf⟩:=a5z Tryz.underlying45 h;obtain⟨y0,e0⟩:=hf 0 _ rfl;obtain⟨y1,e1⟩:=hf 1 _ rfl;obtain⟨a0,b0,h0⟩:=rh (B:=fun b (d:Dps)=>d.l.length<=b) (fun _ _ _ h k=>btc k h) bmm e0;obtain⟨a1,b1,h1⟩:=rh (B:=fun b (l:List Dp)=>l.length<=b) (fun _ _ _ h k=>btc k h) b9i e1;refine⟨hl.trans bxd,(⟨a0,a1⟩:Mx),⟨b0,b1⟩,fun j hj=>?_⟩
 match j,hj with
 |0,_=>exact h0 0 bww
 |1,_=>exact h0 1 bww
 |2,_=>exact h1 0 bww
def b6x:Rd bxn 5 1 bhy:=(b8n Tryz.underlying5).co id fun a j hj=>by obtain rfl:j=0:=bww;exact CoP.refl _
def boz:Rd bxn 82 1 b4v:=(b6h Tryz.underlying82 bxd bww b6x).co id fun a j hj=>by obtain rfl:j=0:=bww;exact CoP.refl _
def boc:RdB bxn 22 1 (awl 1 b4v) fun b l=>l.length<=b :=
 (ajl (B:=fun _ _=>True) (fun _ _ _ _ _=>trivial) Tryz.underlying22 bxd bww boz.toB).co id (fun b a h=>h.1) fun a j hj=>CoP.refl _
def bom:RdB bxn 24 3 oq.c fun b x=>x.rows.length<=b:=by
 intro H enc w sp held fuel cs x h;obtain⟨hl,n,hf⟩:=a5z Tryz.underlying24 h;obtain⟨y0,e0⟩:=hf 0 _ rfl;obtain⟨y1,e1⟩:=hf 1 _ rfl;obtain⟨y2,e2⟩:=hf 2 _ rfl;obtain⟨a0,_,h0⟩:=rh (fun _ _ _ _ _=>trivial) b6x.toB e0;obtain⟨a1,_,h1⟩:=rh (fun _ _ _ _ _=>trivial) b6x.toB e1;obtain⟨a2,b2,h2⟩:=rh (B:=fun b (l:List (List UInt8))=>l.length<=b) (fun _ _ _ h k=>btc k h) boc e2;refine⟨hl.trans bxd,(⟨a0,a1,a2⟩:oq),b2,fun j hj=>?_⟩
 match j,hj with
 |0,_=>exact h0 0 bww
 |1,_=>exact h1 0 bww
 |2,_=>exact h2 0 bww
def bgx:bxn.readableRec 24=true/\24<bxn.types.size:=⟨by kernel_rfl,of_decide_eq_true bxd⟩
def bhv:bxn.readableRec 45=true/\45<bxn.types.size:=⟨by kernel_rfl,of_decide_eq_true bxd⟩
end
section
open Go.Proofs
def b8f (n:Int) (l:List Dp) (hl:l.length<=16777216):a6 bxn 29 [pI n,pP (dpl l)] (ae [pP (fdl (l.map (Dp.fd n)))]):=by
 refine hpx (nt:=37) Tryz.func29 ?_;refine w_7 ?_;refine qcx ao9 (ap1 n) ?_;refine fh ?_;refine d4 6 900 true 2 61 (lf Fd.c []) bx3 rfl (CoP.sl rfl (.inr rfl) (fun h=>h) (fun i j hi _=>absurd hi (bt1 i))) (.inr rfl) rfl ?_;refine br (ka 1 (ka 5 kn)) km (fun i=>⟨[(6,some (.v (.one (.ref 900 ((l.take i).map (Dp.fd n)).length)))),(7,some (vI i))],[(900,some (.arr true 2 61 ((l.take i).map (Dp.fd n)).length (lf Fd.c ((l.take i).map (Dp.fd n)))))]⟩) l.length kk ?_;rintro i hi;have hlen:((l.take i).map (Dp.fd n)).length<=i:=by rw[btn,bt4];omega
 refine w_8 ?_;refine hcd ?_ ?_<;>intro h0
 · refine ago ?_;refine m9 0 ?_;refine r9 1 true ?_;refine w_8 ?_;exact lpx (i+1) ⟨⟨⟨_,rfl,(bq (a2o bww))⟩,tt⟩,⟨⟨_,rfl,(ij (a2o bww) (CoP.of_eq (congrArg (fun z=>PV.raw (.int .u32 z)) (ayf _ _))) (CoP.of_eq (congrArg (fun z=>PV.raw (.int .u32 z)) (ayf _ _))))⟩,trivial⟩⟩
 obtain rfl:i=l.length:=by omega
 refine w_6 ?_;refine bh 4 rfl rfl rfl ?_;exact hx8 rfl rfl rfl (⟨CoC.one (CoP.of_eq (by rw[bt6];rfl)),trivial⟩)
def cOf (d:Dps) (hl:d.l.length<=16777216):a6 bxn 6 [d.pc] (ae [pI d.num,pP (fdl d.fds),pB (decide (d.l.length<=6))]):=by
 refine hpx (nt:=19) Tryz.func6 ?_;refine sx7 ?_;refine m9 0 ?_;refine a4l ?_;refine qcx (wgx Tryz.func29) (b8f d.num d.l hl) ?_;refine v_9 ?_;exact⟨cci (show(d.n.toNat:Int)%7=d.num by unfold Dps.num;omega),CoC.refl _,ccb (decide_eq_decide.2 bww),trivial⟩
end
section
def sgn(a b:Int):Int:=if a<b then -1 else if b<a then 1 else 0
def bAt(s:ByteArray)(i:Nat):Int:=ce s i
def ik:List UInt8->List UInt8->Int
 | [],[]=>0
 | [],_::_=>-1
 |_::_,[]=>1
 |x::xs,y::ys=>if x=y then ik xs ys else sgn x.toNat y.toNat
abbrev bl(s:ByteArray):List UInt8:=s.data.toList
def nq(a b:ByteArray):Int:=ik (bl a) (bl b)
def gh(s:ByteArray):(bl s).length=s.size:=bu2
def ajq:∀(i:Nat) (a b:List UInt8),i<a.length->i<b.length->a.getD i 0=b.getD i 0->ik (a.drop i) (b.drop i)=ik (a.drop (i+1)) (b.drop (i+1))
 | 0,x::xs,y::ys,_,_,h=>by
  simp only[List.getD_cons_zero]at h;simp[ik,h]
 | i+1,x::xs,y::ys,h1,h2,h=>by
  simp only[List.getD_cons_succ]at h;simpa using ajq i xs ys (by simpa using h1) (by simpa using h2) h
 |_,[],_,h1,_,_=>by simp at h1
 |_,_::_,[],_,h2,_=>by simp at h2
def ajx:∀(i:Nat) (a b:List UInt8),i<a.length->i<b.length->a.getD i 0≠b.getD i 0->ik (a.drop i) (b.drop i)=sgn (a.getD i 0).toNat (b.getD i 0).toNat
 | 0,x::xs,y::ys,_,_,h=>by
  simp only[List.getD_cons_zero]at h;simp[ik,h]
 | i+1,x::xs,y::ys,h1,h2,h=>by
  simp only[List.getD_cons_succ]at h ⊢;simpa using ajx i xs ys (by simpa using h1) (by simpa using h2) h
 |_,[],_,h1,_,_=>by simp at h1
 |_,_::_,[],_,h2,_=>by simp at h2
def aca:∀(i:Nat) (a b:List UInt8),i<=a.length->i<=b.length->(i=a.length\/i=b.length)->ik (a.drop i) (b.drop i)=sgn a.length b.length
 |0,[],[],_,_,_=>by simp[ik,sgn]
 |0,[],_::_,_,_,_=>by simp[ik,sgn]<;>omega
 |0,_::_,[],_,_,_=>by simp[ik,sgn]<;>omega
 |0,_::_,_::_,_,_,h=>by simp at h
 | i+1,x::xs,y::ys,h1,h2,h=>by
  have:=aca i xs ys (by simpa using h1) (by simpa using h2) (by simpa using h);simp only[List.drop_succ_cons,this,bto,sgn]
  repeat' split
  all_goals first|rfl|omega
 |i+1,[],_,h1,_,_=>by simp at h1
 |i+1,_::_,[],_,h2,_=>by simp at h2
def aj9:∀{a b:List UInt8},ik a b=0<->a=b
 | [],[]=>by simp[ik]
 | [],_::_=>by simp[ik]
 |_::_,[]=>by simp[ik]
 | x::xs,y::ys=>by
  simp only[ik];by_cases h:x=y
  · simp[h,aj9]
  have:¬x.toNat=y.toNat:=fun e=>h (UInt8.toNat_inj.1 e);simp only[h,if_false,sgn,bw1,false_and,iff_false]
  repeat' split
  all_goals omega
def af6 (a b:ByteArray) (i j:Nat):ce a i=ce b j<->(bl a).getD i 0=(bl b).getD j 0:=by
 unfold ce;rw[Int.natCast_inj,UInt8.toNat_inj]
def aav {a b:ByteArray}:nq a b=0<->a=b:=by
 unfold nq;rw[aj9];exact⟨fun h=>ByteArray.ext (Array.ext' h),fun h=>by rw[h]⟩
def gv (a b:Val):Int :=
 if sgn a.kind b.kind≠0 then sgn a.kind b.kind else if sgn a.num b.num≠0 then sgn a.num b.num else nq a.str b.str
def oi {a b:Int}:sgn a b=0<->a=b:=by
 unfold sgn
 repeat' split
 all_goals omega
def a1m{a b:Val}:gv a b=0<->a=b:=by
 unfold gv;cases a;cases b;simp only[Val.mk.injEq];split
 · rename_i h;rw[Ne,oi]at h
   constructor
   · intro e;rw[oi]at e;exact absurd e h
   rintro⟨e,_⟩;exact absurd e h
 rename_i h;rw[Ne,oi,Classical.not_not]at h;split
 · rename_i h2;rw[Ne,oi]at h2
   constructor
   · intro e;rw[oi]at e;exact absurd e h2
   rintro⟨_,e,_⟩;exact absurd e h2
 rename_i h2;rw[Ne,oi,Classical.not_not]at h2;rw[aav];exact⟨fun e=>⟨h,h2,e⟩,fun e=>e.2.2⟩
def dp:List Val->List Val->Int
 | [],[]=>0
 | [],_::_=>-1
 |_::_,[]=>1
 |x::xs,y::ys=>if gv x y≠0 then gv x y else dp xs ys
def af9:∀(i:Nat) (a b:List Val),i<a.length->i<b.length->gv (a.getD i default) (b.getD i default)=0->dp (a.drop i) (b.drop i)=dp (a.drop (i+1)) (b.drop (i+1))
 | 0,x::xs,y::ys,_,_,h=>by
  simp only[List.getD_cons_zero]at h;simp[dp,h]
 | i+1,x::xs,y::ys,h1,h2,h=>by
  simp only[List.getD_cons_succ]at h;simpa using af9 i xs ys (by simpa using h1) (by simpa using h2) h
 |_,[],_,h1,_,_=>by simp at h1
 |_,_::_,[],_,h2,_=>by simp at h2
def ado:∀(i:Nat) (a b:List Val),i<a.length->i<b.length->gv (a.getD i default) (b.getD i default)≠0->dp (a.drop i) (b.drop i)=gv (a.getD i default) (b.getD i default)
 | 0,x::xs,y::ys,_,_,h=>by
  simp only[List.getD_cons_zero]at h;simp[dp,h]
 | i+1,x::xs,y::ys,h1,h2,h=>by
  simp only[List.getD_cons_succ]at h ⊢;simpa using ado i xs ys (by simpa using h1) (by simpa using h2) h
 |_,[],_,h1,_,_=>by simp at h1
 |_,_::_,[],_,h2,_=>by simp at h2
def a85:∀(i:Nat) (a b:List Val),i<=a.length->i<=b.length->(i=a.length\/i=b.length)->dp (a.drop i) (b.drop i)=sgn a.length b.length
 |0,[],[],_,_,_=>by simp[dp,sgn]
 |0,[],_::_,_,_,_=>by simp[dp,sgn]<;>omega
 |0,_::_,[],_,_,_=>by simp[dp,sgn]<;>omega
 |0,_::_,_::_,_,_,h=>by simp at h
 | i+1,x::xs,y::ys,h1,h2,h=>by
  have:=a85 i xs ys (by simpa using h1) (by simpa using h2) (by simpa using h);simp only[List.drop_succ_cons,this,bto,sgn]
  repeat' split
  all_goals first|rfl|omega
 |i+1,[],_,h1,_,_=>by simp at h1
 |i+1,_::_,[],_,h2,_=>by simp at h2
def a61:∀{a b:List Val},dp a b=0<->a=b
 | [],[]=>by simp[dp]
 | [],_::_=>by simp[dp]
 |_::_,[]=>by simp[dp]
 | x :: xs,y::ys=>by
  simp only[dp];split
  · rename_i h
    refine⟨fun e=>absurd e h,fun e=>?_⟩;simp only[bw1]at e;exact absurd (a1m.2 e.1) h
  rename_i h;rw[Ne,Classical.not_not,a1m]at h;simp[h,a61]
end
section
abbrev emp:ByteArray:=⟨#[]⟩
def ci (v:Val):Bool :=
 if v.kind=0 then decide (v.num=0)&&decide (v.str=emp)
 else if v.kind=1 then decide (v.str=emp)
 else if v.kind=2 then decide (v.num=0)&&decide (v.str.size<=200)
 else decide (v.kind=3)&&decide (1<=v.num)&&decide (v.str=emp)
def Val.ok(v:Val):Prop:=v.str.size<=68719476736
def vn(l:List Val):Prop:=∀j,j<l.length->(l.getD j default).ok
def Row.ok(r:Row):Prop:=r.vals.length<=68719476736/\vn r.vals
def aea(l:List Row):Prop:=∀j,j<l.length->(l.getD j default).ok
def Tbl.ok(t:Tbl):Prop:=t.attrs.length<=68719476736/\t.rows.length<=68719476736/\aea t.rows
def bog(d:DB):Prop:=d.length<=68719476736/\∀j,j<d.length->Tbl.ok (d.getD j default)
def Chg.ok(x:Chg):Prop:=x.table.ok/\x.row.ok/\x.value.ok
def bl3(l:List Chg):Prop:=∀j,j<l.length->(l.getD j default).ok
def ltr(c:Int):Bool:=(decide (97<=c)&&decide (c<=122))||(decide (65<=c)&&decide (c<=90))||decide (c=95)
def dig(c:Int):Bool:=decide (48<=c)&&decide (c<=57)
abbrev awx:ByteArray:=⟨#[110,117,108,108]⟩
def apd(s:ByteArray):Bool:=(List.range s.size).all fun i=>ltr (ce s i)||dig (ce s i)
def jy(s:ByteArray):Bool:=decide (s.size≠0)&&decide (s.size<=24)&&ltr (ce s 0)&&decide (s≠awx)&&apd s
def a6y(l:List ByteArray)(s:ByteArray):Int:=idx (fun x=>decide (x=s)) l
def s8(l:List ByteArray)(i:Nat):Bool:=jy (l.getD i default)&&decide (a6y (l.take i) (l.getD i default)<0)
def a1l(l:List ByteArray):Bool:=(List.range l.length).all (s8 l)
def f3 (n:Nat) (before:Int):List Row->Int
 | []=>0
 |r::rs=>if r.id<=before then 1 else if r.vals.length≠n then 6 else if(r.vals.all ci)=false then 1 else f3 n r.id rs
def dg (t:Tbl):Int :=
 if jy t.name=false then 1 else if 16<t.attrs.length\/1000<t.rows.length then 3 else if a1l t.attrs=false then 1 else f3 t.attrs.length 0 t.rows
section
variable {i:Nat}
def ane {n:Nat} {l:List Row} {b:Int} (hi:i<l.length):f3 n b (l.drop i)=if(l.getD i default).id<=b then 1 else if(l.getD i default).vals.length≠n then 6 else if((l.getD i default).vals.all ci)=false then 1 else f3 n (l.getD i default).id (l.drop (i+1)):=by
 rw[bva hi,f3];simp only[List.getD,bsu hi,bu9]
def bqt(l:List Row)(id:Int):Option Nat:=l.findIdx? fun r=>decide (r.id=id)
def i9(l:List Row)(id:Int):Int:=idx (fun r=>decide (r.id=id)) l
def ml(d:DB)(s:ByteArray):Int:=idx (fun t=>decide (t.name=s)) d
def afn(d:DB)(t:Tbl):Int:=if dg t≠0 then dg t else if 0<=ml d t.name then 5 else if 50<=d.length then 3 else 0
def jk {p:Nat->Bool} {n:Nat} (hi:i<n) (h:p i=false):(List.range n).all p=false:=by
 rw[List.all_eq_false];exact⟨i,btj.2 hi,by simp[h]⟩
def mt {p:Nat->Bool} {n:Nat} (h:∀j,j<n->p j=true):(List.range n).all p=true:=by
 rw[btl];exact fun j hj=>h j (btj.1 hj)
variable {s:ByteArray}
def wl(h:s.size=0):jy s=false:=by simp[jy,h]
def tx (h:24<s.size):jy s=false:=by
 have:¬s.size<=24:=by omega
 simp[jy,this]
def zz(h:ltr (ce s 0)=false):jy s=false:=by simp[jy,h]
def a7e (hi:(i:Int)=0) (h:ltr (ce s i)=false):jy s=false:=by
 obtain rfl:i=0:=by omega
 exact zz h
def bhx (hz:0<i->ltr (ce s 0)=true) (h:i=0->ltr (ce s i)=true):ltr (ce s 0)=true:=by
 by_cases e:i=0
 · subst e;exact h rfl
 exact hz bww
def qk(h:s=awx):jy s=false:=by simp[jy,h]
def xj (hi:i<s.size) (h1:ltr (ce s i)=false) (h2:dig (ce s i)=false):jy s=false:=by
 have:apd s=false:=jk hi (by simp[h1,h2]);simp[jy,this]
def ayg (h0:s.size≠0) (h1:s.size<=24) (h2:ltr (ce s 0)=true) (h3:s≠awx) (h4:∀j,j<s.size->(ltr (ce s j)||dig (ce s j))=true):jy s=true:=by
 have:apd s=true:=mt h4;simp[jy,this,h0,h1,h2,h3]
def a0b:s.size=0<->s=emp:=by
 constructor
 · intro h
   refine ByteArray.ext (Array.ext' ?_);have:s.data.toList.length=0:=by rw[bu2];exact h
   exact bua this
 rintro rfl;rfl
def auv {α:Type} {p:α->Bool} {l:List α}:decide (0<=idx p l)=l.any p:=by
 unfold idx
 cases h:l.findIdx? p with
 | none =>
  rw[bwc]at h;have:l.any p=false:=by rw[buk];intro x hx;simp[h x hx]
  simp[this]
 | some i =>
  rw[bve]at h;obtain⟨hi,hp,_⟩:=h;have:l.any p=true:=by rw[bu1];exact⟨_,bta hi,hp⟩
  simp[this]
def b0u {α:Type} {p:α->Bool} {l:List α}:idx p l<l.length:=by
 unfold idx
 cases h:l.findIdx? p with
 |none=>simp;omega
 | some i =>
  rw[bve]at h;simp[h.1]
def as1 {l:List Val}:(!l.any fun v=>!ci v)=l.all ci:=by
 induction l with
 |nil=>rfl
 |cons x l ih=>simp only[List.any_cons,List.all_cons,Bool.not_or,Bool.not_not,ih]
def ofI (k:Int):Val :=
 if k=0 then⟨1,0,emp⟩else if k=1 then⟨1,1,emp⟩else if k=2 then⟨1,2,emp⟩else if k=3 then⟨0,0,emp⟩else if k=4 then⟨2,0,⟨#[97]⟩⟩else if k=5 then⟨2,0,⟨#[98]⟩⟩
 else if k=6 then⟨2,0,emp⟩else if k=7 then⟨3,1,emp⟩else if k=8 then⟨1, -1,emp⟩else if k=9 then⟨2,0,⟨#[97,98]⟩⟩else if k=10 then⟨3,2,emp⟩ else⟨1,7,emp⟩
def ofV(c:UInt8):Val:=ofI ((c.toNat:Int)%12)
def ah9(x:Opn):ByteArray:=[⟨#[114]⟩,⟨#[115]⟩,⟨#[116]⟩,emp].getD (x.name.toNat%4) default
def b8y(x:Opn):Row:=⟨x.id,x.vals.map ofV⟩
def oo:List ByteArray:=[⟨#[97]⟩,⟨#[98]⟩,⟨#[99]⟩,⟨#[100]⟩,⟨#[101]⟩,⟨#[102]⟩,⟨#[103]⟩,⟨#[104]⟩]
def qs(l:List UInt8)(n:Nat):List Val:=(List.range n).map fun k=>ofV (l.getD k default)
def my(x:oq)(n:Nat):List Row:=(List.range x.rows.length).map fun(i:Nat)=>⟨1+(i:Int)*(1+(x.gap.toNat:Int)%3),qs (x.rows.getD i default) n⟩
def er(x:oq)(n:Nat):Tbl:=⟨⟨#[114]⟩,oo.take n,my x n⟩
def b8l(x:Opn):Tbl:={ er x.t (x.t.attrs.toNat%4)with name:=ah9 x }
def ajm {β:Type} [Inhabited β] (f:Nat->β) (n i:Nat) (h:i<n):((List.range n).map f).getD i default=f i:=by
 simp[List.getD,h]
end
end
section
abbrev T0:Tbl:=⟨emp,[],[]⟩
def y9 (r:Row):List Row->List Row
 | []=>[r]
 |x::xs=>if r.id<x.id then r::x::xs else x::y9 r xs
def a04 (t:Tbl) (r:Row):Int :=
 if dg t≠0 then dg t else if r.vals.length≠t.attrs.length then 6 else if r.id<=0\/r.vals.all ci=false then 1
 else if 0<=i9 t.rows r.id then 5 else if 1000<=t.rows.length then 3 else 0
def avy(t:Tbl)(r:Row):Tbl:=if a04 t r=0 then { t with rows:=y9 r t.rows }else T0
def a36(t:Tbl)(id:Int):Int:=if dg t≠0 then dg t else if 0<=i9 t.rows id then 0 else 4
def aw3(t:Tbl)(id:Int):Tbl:=if a36 t id=0 then { t with rows:=t.rows.eraseIdx (i9 t.rows id).toNat }else T0
def a5t (t:Tbl) (id attr:Int) (v:Val):Int :=
 if dg t≠0 then dg t else if ¬0<=i9 t.rows id then 4 else if attr<0\/(t.attrs.length:Int)<=attr then 6 else if ci v=false then 1 else 0
def a6m(l:List Row)(i k:Nat)(v:Val):List Row:=l.set i { l.getD i default with vals:=(l.getD i default).vals.set k v }
def axn(t:Tbl)(id attr:Int)(v:Val):Tbl:=if a5t t id attr v=0 then { t with rows:=a6m t.rows (i9 t.rows id).toNat attr.toNat v }else T0
def ae2 (t:Tbl) (c:Chg):Int :=
 if c.kind=2 then a04 t c.row
 else if ¬0<=i9 t.rows c.row.id then 4
 else if ¬(t.rows.getD (max (i9 t.rows c.row.id) 0).toNat default).vals=c.row.vals then 16
 else if c.kind=3 then a36 t c.row.id
 else a5t t c.row.id c.attr c.value
def adb(t:Tbl)(c:Chg):Tbl:=if c.kind=2 then avy t c.row else if c.kind=3 then aw3 t c.row.id else axn t c.row.id c.attr c.value
def x7(d:DB)(s:ByteArray):Tbl:=d.getD (ml d s).toNat default
def l7 (d:DB) (c:Chg):Int :=
 if c.kind=1 then(if c.name≠c.table.name then 1 else afn d c.table)
 else if c.kind<1\/4<c.kind then 1
 else if ml d c.name<0 then 4
 else ae2 (x7 d c.name) c
def a4w (d:DB) (c:Chg):DB :=
 if l7 d c≠0 then d
 else if c.kind=1 then d++[c.table]
 else d.set (ml d c.name).toNat (adb (x7 d c.name) c)
section
variable {c:Chg}{d:DB}
def aE2(h:c.kind=1)(h2:c.name=c.table.name):l7 d c=afn d c.table:=by rw[l7,if_pos h,if_neg (by simp[h2])]
def aE5(h:2<=c.kind/\c.kind<=4)(h2:¬ml d c.name<0):l7 d c=ae2 (x7 d c.name) c:=by rw[l7,if_neg bww,if_neg bww,if_neg h2]
def bhf{e:Int}(h:l7 d c=e)(he:e≠0):a4w d c=d:=by rw[a4w,if_pos (by rw[h];exact he)]
def aD1(h:l7 d c=0)(h1:c.kind=1):a4w d c=d++[c.table]:=by rw[a4w,if_neg (by simp[h]),if_pos h1]
def aD2{u:Tbl}(h:l7 d c=0)(h1:¬c.kind=1)(hu:adb (x7 d c.name) c=u):a4w d c=d.set (ml d c.name).toNat u:=by rw[a4w,if_neg (by simp[h]),if_neg h1,hu]
def dbV(d:DB):Prop:=d.length<=50/\∀j,j<d.length->dg (d.getD j default)=0
def bmd (d:DB):List Chg->Int
 | []=>0
 |c::cs=>if l7 d c≠0 then l7 d c else bmd (a4w d c) cs
def aln (d:DB):List Chg->DB
 | []=>d
 |c::cs=>if l7 d c≠0 then[]else aln (a4w d c) cs
def bq2(s:Stt)(l:List Chg):Stt:=if l.length=0 then s else⟨s.done++[l],[],false,[]⟩
def bru(s:Stt)(c:Chg):Stt:=if s.opn=true then { s with now:=s.now++[c] }else bq2 s [c]
def bnl(x:Opn):Bool:=decide (x.vals.length<=20)&&decide (x.t.rows.length<=6)&&x.t.rows.all fun r=>decide (r.length<=20)
def few(l:List Opn)(most:Int):Bool:=l.all bnl&&decide ((l.length:Int)<=most)
end
end
section
section
variable {l:List Row}
def a8p {n:Nat} {b:Int} {x:Row} (h:f3 n b (x::l)=0):b<x.id/\x.vals.length=n/\x.vals.all ci=true/\f3 n x.id l=0:=by
 simp only[f3]at h;split at h
 · omega
 split at h
 · omega
 split at h
 · omega
 rename_i h1 h2 h3;exact⟨by omega,by omega,by simpa using h3,h⟩
def jn {n:Nat}:∀{l:List Row} {b:Int},f3 n b l=0->∀x∈l,b<x.id/\x.vals.length=n/\x.vals.all ci=true
 | [],_,_,x,hx=>by cases hx
 | y::l,b,h,x,hx=>by
  obtain⟨h1,h2,h3,h4⟩:=a8p h
  rcases bt7.1 hx with rfl|hx
  · exact⟨h1,h2,h3⟩
  obtain⟨g1,g2⟩:=jn h4 x hx;exact⟨by omega,g2⟩
abbrev vm(l:List Row):Prop:=l.Pairwise fun a b=>a.id<b.id
def rz {n:Nat}:∀{l:List Row} {b:Int},f3 n b l=0->vm l
 | [],_,_=>List.Pairwise.nil
 | y::l,b,h=>by
  obtain⟨h1,h2,h3,h4⟩:=a8p h;exact List.Pairwise.cons (fun x hx=>(jn h4 x hx).1) (rz h4)
def vc {n:Nat}:∀{l:List Row} {b:Int},(∀x∈l,b<x.id/\x.vals.length=n/\x.vals.all ci=true)->vm l->f3 n b l=0
 | [],_,_,_=>rfl
 | y::l,b,h,hs=>by
  obtain⟨h1,h2,h3⟩:=h y bx0;unfold vm at hs;rw[bty]at hs;simp only[f3];rw[if_neg bww,if_neg bww,if_neg (by simp[h3])];exact vc (fun x hx=>⟨hs.1 x hx,(h x (by simp[hx])).2⟩) hs.2
structure TOk (t:Tbl):Prop where
 nm:jy t.name=true
 na:t.attrs.length<=16
 nr:t.rows.length<=1000
 nms:a1l t.attrs=true
 rs:f3 t.attrs.length 0 t.rows=0
variable {t:Tbl}
def mc:dg t=0<->TOk t:=by
 constructor
 · intro h
   unfold dg at h;split at h
   · omega
   split at h
   · omega
   split at h
   · omega
   rename_i h1 h2 h3;exact⟨by simpa using h1,by omega,by omega,by simpa using h3,h⟩
 rintro⟨h1,h2,h3,h4,h5⟩;unfold dg;rw[if_neg (by simp[h1]),if_neg bww,if_neg (by simp[h4]),h5]
def a4u {v:Val} (h:ci v=true):v.str.size<=200:=by
 unfold ci at h;have e0:emp.size=0:=rfl;split at h
 · simp only[bt5,decide_eq_true_eq]at h;rw[h.2];omega
 split at h
 · simp only[decide_eq_true_eq]at h;rw[h];omega
 split at h
 · simp only[bt5,decide_eq_true_eq]at h;omega
 simp only[bt5,decide_eq_true_eq]at h;rw[h.2];omega
def bee {l:List Val} (h:l.all ci=true):vn l:=by
 intro j hj;rw[c4 l j hj];have:=a4u (btl.1 h _ (bta hj));unfold Val.ok;omega
theorem TOk.ok (h:TOk t):t.ok:=by
 refine⟨by have:=h.na;omega,by have:=h.nr;omega,fun j hj=>?_⟩;rw[c4 _ j hj];obtain⟨_,h2,h3⟩:=jn h.rs _ (bta hj);exact⟨by have:=h.na;omega,bee h3⟩
def aea.sub {l':List Row} (h:aea l) (hs:∀x∈l',x∈l):aea l':=by
 intro j hj;rw[c4 _ j hj];obtain⟨k,hk,e⟩:=btt (hs _ (bta hj));rw[<- e,<- c4 _ k hk];exact h k hk
def b2h(h:dg t=0):t.ok:=(mc.1 h).ok
def bqr(l:List Row)(k:Nat)(r:Row):List Row:=l.take k++r::l.drop k
def alz {r:Row}:∀{l:List Row},(y9 r l).length=l.length+1
 | []=>rfl
 | x::l=>by
  simp only[y9];split
  · simp
  simp[alz (l:=l)]
def bfm{r:Row}(h:a04 t r=0):avy t r=⟨t.name,t.attrs,y9 r t.rows⟩:=by rw[avy,if_pos h]
def bes{i:Int}(h:a36 t i=0):aw3 t i=⟨t.name,t.attrs,t.rows.eraseIdx (i9 t.rows i).toNat⟩:=by rw[aw3,if_pos h]
def bav{i a:Int}{v:Val}(h:a5t t i a v=0):axn t i a v=⟨t.name,t.attrs,a6m t.rows (i9 t.rows i).toNat a.toNat v⟩:=by rw[axn,if_pos h]
def b4p {r:Row} (h:a04 t r=0):dg t=0/\r.vals.length=t.attrs.length/\0<r.id/\r.vals.all ci=true/\i9 t.rows r.id<0/\t.rows.length<1000:=by
 unfold a04 at h;split at h
 · omega
 split at h
 · omega
 split at h
 · omega
 split at h
 · omega
 split at h
 · omega
 rename_i h1 h2 h3 h4 h5;rw[not_or]at h3;exact⟨by omega,by omega,by omega,by simpa using h3.2,by omega,by omega⟩
def b68{i k:Nat}{v:Val}:(a6m l i k v).length=l.length:=by simp[a6m]
def bkn {id:Int} (h:0<=i9 l id):(max (i9 l id) 0).toNat<l.length:=by
 have:=b0u (p:=fun r:Row=>decide (r.id=id)) (l:=l);unfold i9 at *;omega
theorem TOk.width (h:TOk t) {i:Nat} (hi:i<t.rows.length):(t.rows.getD i default).vals.length=t.attrs.length:=by
 rw[c4 _ _ hi];exact(jn h.rs _ (bta hi)).2.1
def bh5 {d:DB} {s:ByteArray} (h:¬ml d s<0):(ml d s).toNat<d.length:=by
 have:=b0u (p:=fun t:Tbl=>decide (t.name=s)) (l:=d);unfold ml at *;omega
def dbV.at{d:DB}(h:dbV d){s:ByteArray}(hs:¬ml d s<0):TOk (x7 d s):=mc.1 (h.2 _ (bh5 hs))
def bdc {d:DB} (h:afn d t=0):dg t=0/\ml d t.name<0/\d.length<50:=by
 unfold afn at h;split at h
 · omega
 split at h
 · omega
 split at h
 · omega
 exact⟨by omega,by omega,by omega⟩
end
end
section
section
variable {i:Nat}
def alo {α:Type} [Inhabited α] {p:α->Bool} {l:List α} (hi:i<l.length) (h:p (l.getD i default)=true):(l.take (i+1)).filter p=(l.take i).filter p++[l.getD i default]:=by
 rw[aj hi,buo,buy,if_pos h];rfl
def al9 {α:Type} [Inhabited α] {p:α->Bool} {l:List α} (hi:i<l.length) (h:p (l.getD i default)=false):(l.take (i+1)).filter p=(l.take i).filter p:=by
 rw[aj hi,buo,buy,if_neg (by rw[h];simp),bw8,btu]
def adi(s:AS)(f:Fd):Bool:=decide (sub f.lhs s)&&!decide (sub f.rhs s)
def ax7(l:List Fd)(s:AS):Int:=idx (adi s) l
def ali(l:List Fd)(s:AS):Bool:=decide (ax7 l s<0)
def xf(l:List Fd)(n:Int)(i:Nat):List AS:=((c8 (aa n)).take i).filter (ali l)
def f5(l:List Fd)(n:Int):List AS:=(c8 (aa n)).filter (ali l)
variable {l:List Fd}{n:Int}
def a8w(hi:i<(c8 (aa n)).length)(h:ax7 l ((c8 (aa n)).getD i default)<0):xf l n (i+1)=xf l n i++[(c8 (aa n)).getD i default]:=alo hi (by unfold ali;exact decide_eq_true h)
def a8z(hi:i<(c8 (aa n)).length)(h:¬ax7 l ((c8 (aa n)).getD i default)<0):xf l n (i+1)=xf l n i:=al9 hi (by unfold ali;exact decide_eq_false h)
def azg:xf l n (c8 (aa n)).length=f5 l n:=by unfold xf f5;rw[bt6]
def b03:(xf l n i).length<=i:=btc (buj _ _) (bwk _ _)
def aqt(s:AS)(a c:AS):AS:=if c≠s/\sub s c then a&&&c else a
def wt(n:Int)(cl:List AS)(s:AS)(k:Nat):AS:=(cl.take k).foldl (aqt s) (aa n)
variable {cl:List AS}{k:Nat}
def a6v {s:AS} (hk:k<cl.length):wt n cl s (k+1)=aqt s (wt n cl s k) (cl.getD k default):=by
 unfold wt;rw[aj hk,btq];rfl
def a2f(n:Int)(cl:List AS)(s:AS):Bool:=decide (s≠aa n)&&decide (wt n cl s cl.length≠s)
def a2w(n:Int)(cl:List AS)(i:Nat):List AS:=(cl.take i).filter (a2f n cl)
def jz(n:Int)(cl:List AS):List AS:=cl.filter (a2f n cl)
def a3b(hi:i<cl.length)(h:a2f n cl (cl.getD i default)=true):a2w n cl (i+1)=a2w n cl i++[cl.getD i default]:=alo hi h
def a3z(hi:i<cl.length)(h:a2f n cl (cl.getD i default)=false):a2w n cl (i+1)=a2w n cl i:=al9 hi h
def b34:a2w n cl cl.length=jz n cl:=by unfold a2w jz;rw[bt6]
def b6y:(a2w n cl i).length<=i:=btc (buj _ _) (bwk _ _)
def ai4(s:AS)(k i:Nat):Val:=⟨1,if s.getLsbD i=true then 0 else(k:Int),emp⟩
def xd(s:AS)(k n:Nat):List Val:=(List.range n).map (ai4 s k)
def bkh(l:List AS)(n k:Nat):Row:=⟨(k:Int)+1,xd (l.getD k default) k n⟩
def x6(l:List AS)(n k:Nat):List Row:=(List.range k).map (bkh l n)
def avm(i:Nat):ByteArray:=⟨#[UInt8.ofNat (97+i)]⟩
def a0c(n:Nat):List ByteArray:=(List.range n).map avm
def bht(l:List AS)(n:Nat):Tbl:=⟨⟨#[116]⟩,a0c n,x6 l n l.length⟩
def mq{s:AS}:xd s k (i+1)=xd s k i++[ai4 s k i]:=by unfold xd;rw[bu7,bum];rfl
def ag5{l:List AS}{n:Nat}:x6 l n (k+1)=x6 l n k++[bkh l n k]:=by unfold x6;rw[bu7,bum];rfl
def aj5:a0c (i+1)=a0c i++[avm i]:=by unfold a0c;rw[bu7,bum];rfl
def ayc{s:AS}{n:Nat}:(xd s k n).length=n:=by simp[xd]
def b04{l:List AS}{n:Nat}:(x6 l n k).length=k:=by simp[x6]
def b7k{n:Nat}:(a0c n).length=n:=by simp[a0c]
end
end
end Go.Hx
