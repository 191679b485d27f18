/- A part of the proof: Kw14a Kl4 Kw14. -/
import Derived.Test.YtnlcekpflogjkaaGreatDoorTz43
set_option linter.all false
set_option maxRecDepth 100000
set_option maxHeartbeats 1000000
namespace Go.Hx
section
open Go.Proofs
def bos (x:Fd) (n:Int) (l:List Fd) (hn0:0<=n) (hn1:n<=16):a7 bxr 78 [x.pc,pP (bx (fdl l)),pP (bx (.raw (.int .i64 n)))] (ae [pB (bcP n l x)]):=by
 refine hpx (nt:=20) Tryz.func78 ?_;refine sx7 ?_;refine m9 0 ?_;refine gv ?_;refine al rfl rfl ?_ ?_<;>intro r0
 ·
  have h0:=tz2 (cj r0);(iterate 3 refine qy ?_ (hg:=(gtt r0)));refine qcx rp (rg l x.lhs) ?_ (hg:=(gtt r0));refine qy ?_ (hg:=(gtt r0));refine qcx aq2 (awd n hn0 hn1) ?_ (hg:=(gtt r0));refine qy ?_ (hg:=(gtt r0))
  refine v_4 ?_;exact⟨ccb (by rw[<- b8e];simp_all),trivial⟩
 have h0:=tz1 (cn r0);(iterate 7 refine k9 (gft r0) ?_);refine w_4 ?_
 exact hx8 rfl rfl rfl (⟨ccb (by rw[<- b8e];simp_all),trivial⟩)
def boy (n:Int) (l:List Fd):a7 bxr 26 [pI n,pP (fdl l)] (ae [pB (bcS n l),pI (aw n l)]):=by
 refine hpx (nt:=17) Tryz.func26 ?_;refine sx7 ?_;refine m9 0 ?_;refine m9 1 ?_;refine w_8 ?_;refine qcx qj (tg n l) ?_;refine w_7 ?_;refine hcn ?_ ?_<;>intro h0
 · refine v_6 ?_;exact⟨ccb (blx h0).symm,CoC.refl _,trivial⟩
 refine w_2 ?_;have hv:=d9 h0;refine ci 2 rfl rfl rfl ?_;refine ci 3 rfl rfl rfl ?_;refine w_3 ?_;refine qcx (wgx Tryz.func77) (b91 l 78 2 (fun i=>[bx (fdl l),bx (.raw (.int .i64 n))].getD i .any) (bcP n l) (wgx Tryz.func78) (fun x=>bos x n l hv.1 hv.2.1)) ?_;refine v_4 ?_;exact⟨ccb (b7v h0).symm,cci h0.symm,trivial⟩
def bmz (x:Fd) (l:List Fd) (ps:List AS):a7 bxr 65 [x.pc,pP (bx (fdl l)),pP (bx (asl ps))] (ae [pB (!jb l ps x)]):=by
 refine hpx (nt:=10) Tryz.func65 ?_;refine sx7 ?_;refine m9 0 ?_;refine w_7 ?_;refine qcx amj (av0 l ps x) ?_;refine v_3 ?_;exact CoL.refl _
def bq6 (n:Int) (l:List Fd):a7 bxr 18 [pI n,pP (fdl l)] (ae [(wv n l).pc,pI (qc n l)]):=by
 refine hpx (nt:=40) Tryz.func18 ?_;refine sx7 ?_;refine m9 0 ?_;refine m9 1 ?_;refine w_6 ?_;refine qcx amx (ano n l) ?_;refine w_3 ?_;refine m9 2 ?_;refine w_9 ?_;refine hcn ?_ ?_<;>intro h0
 · refine w_7 ?_;refine hrr ?_;have he:=bln h0;exact f9 rfl rfl (⟨axw he.1,cci he.2.symm,trivial⟩)
 refine w_5 ?_;refine qcx aqn (awj n l) ?_;refine gh ?_;refine hcn ?_ ?_<;>intro h1
 · exfalso;exact h1 (pk h0).1
 refine w_2 ?_;have hv:=(pk h0).1;refine ci 3 rfl rfl rfl ?_;refine ci 6 rfl rfl rfl ?_;refine w_3 ?_;refine qcx (wgx Tryz.func64) (b7k (jc n l) 65 2 (fun i=>[bx (fdl l),bx (asl (dj n l))].getD i .any) (fun f=>!jb l (dj n l) f) (wgx Tryz.func65) (fun x=>bmz x l (dj n l))) ?_;refine w_8 ?_;refine hcd ?_ ?_<;>intro h2
 · refine w_6 ?_;refine hrr ?_;have he:=blz h0 bx5;exact f9 rfl rfl (⟨axw he.1,cci he.2.symm,trivial⟩)
 obtain⟨i0,hi0,hi1,hi2,hi3⟩:=uh (p:=fun f=>!jb l (dj n l) f) (l:=jc n l) bx5;refine cr ?_;refine hrr ?_;have he:=bms h0 hi1 hi2 hi3;exact f9 rfl rfl (⟨CoC.of_eq (by rw[he.1,<- btc i0,<- hi0];rfl),cci he.2.symm,trivial⟩)
def bc9 (n:Int) (l:List Fd) (h0n:0<=n) (h1n:n<=16):a7 bxr 131 [pI n,pP (fdl l)] (ae [pP (psl 1 bC (a1f n l))]):=by
 refine hpx (nt:=27) Tryz.func131 ?_;refine w_5 ?_;have hs:=avn h0n h1n;have hpw:2^n.toNat<=2^16:=bum bx5 bx5;refine w_3 ?_;refine rm 0 rfl rfl rfl rfl rfl rfl ?_ (hp:=(by rw[hs];exact bj5 hpw));refine cr ?_;refine bw (ka 0 (ka 1 kn)) km (fun i=>⟨[(5,some (.v (.one (.ref 0 (2^n.toNat))))),(11,some (vI (2^n.toNat:Nat))),(12,some (vI i))],[(0,some (.arr true 1 4 (2^n.toNat) (lf bC (a0v n l i))))]⟩) (2^n.toNat) ⟨⟨⟨_,rfl,(gj (by rw[hs];rfl))⟩,⟨_,rfl,(coi (by rw[hs];rfl))⟩,tt⟩,⟨⟨_,rfl,(azq (by rw[hs];rfl) (fun _=>rfl))⟩,trivial⟩⟩ ?_;rintro i hi;refine w_5 ?_;refine hcd ?_ ?_<;>intro h0
 · refine qb ?_;refine rc rfl rfl rfl rfl rfl rfl rp (rg l (BitVec.ofNat 32 i)) (⟨CoC.refl _,cci (a48 bx5),trivial⟩) rfl rfl ?_;refine qy ?_;refine qcx (wgx Tryz.func90) (azk n h0n h1n) ?_;refine w_8 ?_;exact lpx (i+1) ⟨tt,⟨⟨_,rfl,(axu bx5 rfl (by rw[a0h];rfl))⟩,trivial⟩⟩
 obtain rfl:i=2^n.toNat:=by omega
 refine w_6 ?_;refine bj 4 rfl rfl rfl ?_;exact hx8 rfl rfl rfl (⟨CoC.one (CoP.sl (uf _ _ _) (.inl rfl) (fun h=>by cases h) (fun i j hi hj=>CoP.refl _)),trivial⟩)
def b72(n:Int)(l:List Fd)(hv:aw n l=0):a7 bxr 130 [pI n,pP (psl 1 bC (a1f n l)),pB true] (ae [pP (asl (ord (ny n l (2^n.toNat))))]):=by
 refine hpx (nt:=57) Tryz.func130 ?_;refine w_5 ?_;have hv0:=d9 hv;have hsl:=b3o n l;have hpw:2^n.toNat<=2^16:=bum bx5 bx5;refine gv ?_;refine d8 7 900 true 1 50 (lf sC []) bxc rfl (CoP.sl rfl (.inr rfl) (fun h=>h) (fun i j hi _=>absurd hi (bt9 i))) (.inr rfl) rfl ?_;refine bw (ka 0 (ka 1 (ka 2 (ka 13 (ka 14 kn))))) km (fun i=>⟨[(7,some (.v (.one (.ref 900 (ny n l i).length)))),(15,some (vI i))],[(900,some (.arr true 1 50 (ny n l i).length (lf sC (ny n l i))))]⟩) (2^n.toNat) kk ?_;rintro i hi;have hlen:=ajs n l i;refine w_5 ?_;refine hcd ?_ ?_<;>intro h0
 ·
  have hi2:i<2^n.toNat:=by omega
  refine bp9 ?_;refine bw (ka 0 (ka 1 (ka 2 (ka 7 (ka 8 (ka 13 (ka 14 (ka 15 kn)))))))) (kb 900 km) (fun a=>⟨[(10,some (vB (okA n l i a))),(11,some (vI a))],[]⟩) n.toNat ⟨⟨⟨_,rfl,(cob (blo hi2))⟩,tt⟩,trivial⟩ ?_;rintro a ha;refine w_7 ?_;refine al rfl rfl ?_ ?_<;>intro r1
  ·
   have h1:=tz1 r1;refine qy ?_ (hg:=(gtt r1));refine w_2 ?_;refine ax _ rfl ?_ ?_<;>intro r2
   ·
    have h2:=br r1 r2;have hx:=akh (n:=n) (i:=i) (a:=a) bx5 bx5;refine gh ?_;refine a0r ⟨[(0,some _),(1,some _),(2,some _),(7,some _),(8,some _),(10,some _),(11,some _),(12,some (vI ((i ^^^ 2^a:Nat):Int))),(13,some _),(14,some _),(15,some _)],[(900,some _)]⟩ ⟨⟨c9,c9,c9,c9,c9,c9,c9,⟨_,rfl,coi (bo2 bx5 bx5)⟩,tt⟩,uu⟩ ?_;refine w_7 ?_;refine al rfl rfl ?_ ?_<;>intro r3
    ·
     have h3:=r3;(iterate 6 refine qy ?_ (hg:=(gtt r3)));refine w_2 ?_;refine ax _ rfl ?_ ?_<;>intro r4
     · have h4:=br r3 r4;refine w_8 ?_;exact lpx (a+1) ⟨⟨⟨_,rfl,(cob (by first|exact avf hv hi2 bx6 hx bx6 bx6|exact a9f hv hi2 bx6 hx (.inr bx6)|exact a9f hv hi2 bx6 hx (.inl bx6)))⟩,tt⟩,uu⟩
     have h4:=br r3 r4;refine w_6 ?_;exact lpx (a+1) ⟨⟨⟨_,rfl,(cob (by first|exact avf hv hi2 bx6 hx bx6 bx6|exact a9f hv hi2 bx6 hx (.inr bx6)|exact a9f hv hi2 bx6 hx (.inl bx6)))⟩,tt⟩,uu⟩
    have h3:=r3;(iterate 6 refine k9 (gft r3) ?_);refine w_9 ?_
    exact lpx (a+1) ⟨⟨⟨_,rfl,(cob (by first|exact avf hv hi2 bx6 hx bx6 bx6|exact a9f hv hi2 bx6 hx (.inr bx6)|exact a9f hv hi2 bx6 hx (.inl bx6)))⟩,tt⟩,uu⟩
   have h2:=br r1 r2;refine w_5 ?_;refine hcb ?_ ?_<;>intro h5
   ·
    refine w_4 ?_;refine m9 0 ?_;refine r9 1 true ?_;refine w_6 ?_
    first | (refine lpz (i+1) ⟨⟨⟨_, rfl, (bo (v8 (by first|exact y5 hv hi2 ha bx6 bx6|exact y6 bx6 bx6)))⟩, tt⟩, ⟨⟨_, rfl, (bq (v8 (by first|exact y5 hv hi2 ha bx6 bx6|exact y6 bx6 bx6)) (CoP.of_eq (congrArg (fun z => PV.raw (.int .u32 z)) (a48 bx5))))⟩, trivial⟩⟩ ?_;show i+1<=_;omega)
          |(refine lpz (i+1) ⟨⟨⟨_,rfl,(be (uq (oj hv hi2 ha bx6)))⟩,tt⟩,⟨⟨_,rfl,(az (uq (oj hv hi2 ha bx6)))⟩,trivial⟩⟩ ?_;show i+1<=_;omega)
   refine w_5 ?_
   first | (refine lpz (i+1) ⟨⟨⟨_, rfl, (bo (v8 (by first|exact y5 hv hi2 ha bx6 bx6|exact y6 bx6 bx6)))⟩, tt⟩, ⟨⟨_, rfl, (bq (v8 (by first|exact y5 hv hi2 ha bx6 bx6|exact y6 bx6 bx6)) (CoP.of_eq (congrArg (fun z => PV.raw (.int .u32 z)) (a48 bx5))))⟩, trivial⟩⟩ ?_;show i+1<=_;omega)
         |(refine lpz (i+1) ⟨⟨⟨_,rfl,(be (uq (oj hv hi2 ha bx6)))⟩,tt⟩,⟨⟨_,rfl,(az (uq (oj hv hi2 ha bx6)))⟩,trivial⟩⟩ ?_;show i+1<=_;omega)
  have h1:=tz2 r1;refine k9 (gft r1) ?_;refine w_8 ?_;refine hcb ?_ ?_<;>intro h6
  ·
   refine w_4 ?_;refine m9 2 ?_;refine r9 3 true ?_;refine w_6 ?_
   first | (refine lpz (i+1) ⟨⟨⟨_, rfl, (bo (v8 (by first|exact y5 hv hi2 ha bx6 bx6|exact y6 bx6 bx6)))⟩, tt⟩, ⟨⟨_, rfl, (bq (v8 (by first|exact y5 hv hi2 ha bx6 bx6|exact y6 bx6 bx6)) (CoP.of_eq (congrArg (fun z => PV.raw (.int .u32 z)) (a48 bx5))))⟩, trivial⟩⟩ ?_;show i+1<=_;omega)
         |(refine lpz (i+1) ⟨⟨⟨_,rfl,(be (uq (oj hv hi2 ha bx6)))⟩,tt⟩,⟨⟨_,rfl,(az (uq (oj hv hi2 ha bx6)))⟩,trivial⟩⟩ ?_;show i+1<=_;omega)
  refine w_5 ?_
  first | (refine lpz (i+1) ⟨⟨⟨_, rfl, (bo (v8 (by first|exact y5 hv hi2 ha bx6 bx6|exact y6 bx6 bx6)))⟩, tt⟩, ⟨⟨_, rfl, (bq (v8 (by first|exact y5 hv hi2 ha bx6 bx6|exact y6 bx6 bx6)) (CoP.of_eq (congrArg (fun z => PV.raw (.int .u32 z)) (a48 bx5))))⟩, trivial⟩⟩ ?_;show i+1<=_;omega)
        |(refine lpz (i+1) ⟨⟨⟨_,rfl,(be (uq (oj hv hi2 ha bx6)))⟩,tt⟩,⟨⟨_,rfl,(az (uq (oj hv hi2 ha bx6)))⟩,trivial⟩⟩ ?_;show i+1<=_;omega)
 obtain rfl:i=2^n.toNat:=by omega
 refine w_2 ?_;refine bj 7 rfl rfl rfl ?_;refine w_2 ?_;refine qcx uo (a40 (ny n l (2^n.toNat)) bx5) ?_;refine v_2 ?_;exact CoL.refl _
def b8w (n:Int) (l:List Fd):a7 bxr 80 [pI n,pP (fdl l)] (ae [pP (asl (ed n l)),pI (aw n l)]):=by
 refine hpx (nt:=18) Tryz.func80 ?_;refine cr ?_;refine qcx qj (tg n l) ?_;refine w_7 ?_;refine hcn ?_ ?_<;>intro h0
 · refine v_6 ?_;exact⟨CoC.one (a7k (bd5 h0)),CoC.refl _,trivial⟩
 refine w_2 ?_;have hv:=d9 h0;refine w_4 ?_;refine qcx (wgx Tryz.func131) (bc9 n l hv.1 hv.2.1) ?_;refine qcx (wgx Tryz.func130) (b72 n l h0) ?_;refine v_3 ?_;exact⟨CoC.one (CoP.of_eq (by rw[agy h0])),cci h0.symm,trivial⟩
def b9c (n:Int) (l:List Fd):a7 bxr 129 [pI n,pP (fdl l)] (ae [pA (orL (ed n l)),pI (aw n l)]):=by
 refine hpx (nt:=29) Tryz.func129 ?_;refine w_9 ?_;refine qcx (wgx Tryz.func80) (b8w n l) ?_;refine w_7 ?_;have hkl:=ajq n l;refine gv ?_;refine bw (ka 7 (ka 17 (ka 18 kn))) km (fun i=>⟨[(8,some (vA (orL ((ed n l).take i)))),(19,some (vI i))],[]⟩) ((ed n l).length) kk ?_;rintro i hi;refine w_5 ?_;refine hcd ?_ ?_<;>intro h0
 · refine a5u ?_;exact lpx (i+1) ⟨⟨⟨_,rfl,(df (by rw[bOr,a4w bx5];rfl))⟩,tt⟩,trivial⟩
 obtain rfl:i=(ed n l).length:=by omega
 refine v_8 ?_;exact⟨cci (by rw[btb]),CoC.refl _,trivial⟩
def bl9(n:Int)(l:List Fd):a7 bxr 79 [pI n,pP (fdl l)] (ae [pP (fdl (tq n l)),pI (aw n l)]):=by
 refine hpx (nt:=56) Tryz.func79 ?_;refine w_9 ?_;refine qcx (wgx Tryz.func129) (b9c n l) ?_;refine gh ?_;refine hcn ?_ ?_<;>intro h0
 · refine v_6 ?_;exact⟨CoC.one (bjq (be5 h0)),CoC.refl _,trivial⟩
 refine w_2 ?_;have hv:=d9 h0;have hpe:=aqu h0;have hml:=ack n l;refine w_3 ?_;refine qcx aqn (awj n l) ?_;refine gh ?_;refine hcn ?_ ?_<;>intro h1
 · exfalso;exact h1 h0
 refine mq ?_;refine d8 9 900 true 2 61 (lf Fd.c []) bxc rfl (CoP.sl rfl (.inr rfl) (fun h=>h) (fun i j hi _=>absurd hi (bt9 i))) (.inr rfl) rfl ?_;refine bw (ka 0 (ka 1 (ka 6 (ka 30 (ka 31 kn))))) km (fun i=>⟨[(9,some (.v (.one (.ref 900 (sk n l i).length)))),(32,some (vI i))],[(900,some (.arr true 2 61 (sk n l i).length (lf Fd.c (sk n l i))))]⟩) ((jc n l).length) kk ?_;rintro i hi;have hlen:=b0d n l i;refine w_5 ?_;refine hcd ?_ ?_<;>intro h2
 ·
  refine w_7 ?_;refine m9 0 ?_;refine w_7 ?_;refine qcx rp (rg l ((jc n l).getD i default).lhs) ?_;refine qy ?_;refine qcx (wgx Tryz.func40) (b0i n hv.1 hv.2.1) ?_;refine w_2 ?_;refine al rfl rfl ?_ ?_<;>intro r3
  ·
   have h3:=tz2 (cj r3);(iterate 5 refine qy ?_ (hg:=(gtt r3)));refine w_2 ?_;refine ax _ rfl ?_ ?_<;>intro r4
   ·
    have h4:=tz2 (cj (br r3 r4));refine w_3 ?_;refine m9 1 ?_;refine r9 2 true ?_;refine w_6 ?_
    first | (refine lpz (i+1) ⟨⟨⟨_, rfl, (bo (a00 bx5 (a30 h3 (by rw[<- hpe]; exact h4))))⟩, tt⟩, ⟨⟨_, rfl, (l5 (a00 bx5 (a30 h3 (by rw[<- hpe]; exact h4))) (CoP.refl _) (CoP.refl _))⟩, trivial⟩⟩ ?_; show i+1<=_; omega)
          |(refine lpz (i+1) ⟨⟨⟨_,rfl,(be (a0b bx5 (by first|exact a05 h3|exact a09 (by rw[<- hpe];exact h4))))⟩,tt⟩,⟨⟨_,rfl,(az (a0b bx5 (by first|exact a05 h3|exact a09 (by rw[<- hpe];exact h4))))⟩,trivial⟩⟩ ?_;show i+1<=_;omega)
   have h4:=tz1 (cn (br r3 r4));refine w_5 ?_
   first | (refine lpz (i+1) ⟨⟨⟨_, rfl, (bo (a00 bx5 (a30 h3 (by rw[<- hpe]; exact h4))))⟩, tt⟩, ⟨⟨_, rfl, (l5 (a00 bx5 (a30 h3 (by rw[<- hpe]; exact h4))) (CoP.refl _) (CoP.refl _))⟩, trivial⟩⟩ ?_; show i+1<=_; omega)
         |(refine lpz (i+1) ⟨⟨⟨_,rfl,(be (a0b bx5 (by first|exact a05 h3|exact a09 (by rw[<- hpe];exact h4))))⟩,tt⟩,⟨⟨_,rfl,(az (a0b bx5 (by first|exact a05 h3|exact a09 (by rw[<- hpe];exact h4))))⟩,trivial⟩⟩ ?_;show i+1<=_;omega)
  have h3:=tz1 (cn r3);(iterate 5 refine k9 (gft r3) ?_);refine w_8 ?_
  first | (refine lpz (i+1) ⟨⟨⟨_, rfl, (bo (a00 bx5 (a30 h3 (by rw[<- hpe]; exact h4))))⟩, tt⟩, ⟨⟨_, rfl, (l5 (a00 bx5 (a30 h3 (by rw[<- hpe]; exact h4))) (CoP.refl _) (CoP.refl _))⟩, trivial⟩⟩ ?_; show i+1<=_; omega)
        |(refine lpz (i+1) ⟨⟨⟨_,rfl,(be (a0b bx5 (by first|exact a05 h3|exact a09 (by rw[<- hpe];exact h4))))⟩,tt⟩,⟨⟨_,rfl,(az (a0b bx5 (by first|exact a05 h3|exact a09 (by rw[<- hpe];exact h4))))⟩,trivial⟩⟩ ?_;show i+1<=_;omega)
 obtain rfl:i=(jc n l).length:=by omega
 refine w_7 ?_;refine bj 4 rfl rfl rfl ?_;exact hx8 rfl rfl rfl (⟨CoC.one (CoP.of_eq (by rw[b26];rfl)),cci bx5,trivial⟩)
def bqe (n:Int) (l:List Fd):a7 bxr 27 [pI n,pP (fdl l)] (ae [pB (decide (aw n l=0)&&decide (tq n l=[])),pI (aw n l)]):=by
 refine hpx (nt:=22) Tryz.func27 ?_;refine w_9 ?_;refine qcx (wgx Tryz.func79) (bl9 n l) ?_;refine gv ?_;refine al rfl rfl ?_ ?_<;>intro r0
 ·
  have h0:=tz1 r0;(iterate 3 refine qy ?_ (hg:=(gtt r0)));refine w_5 ?_
  exact hx8 rfl rfl rfl (⟨ccb (by first|exact b89|(rw[decide_eq_false h0];rfl)),CoC.refl _,trivial⟩)
 have h0:=tz2 r0;(iterate 3 refine k9 (gft r0) ?_);refine w_5 ?_
 exact hx8 rfl rfl rfl (⟨ccb (by first|exact b89|(rw[decide_eq_false h0];rfl)),CoC.refl _,trivial⟩)
def b5i(n:Int)(l:List Fd):a7 bxr 28 [pI n,pP (fdl l)] (ae [pB (adk n l),pI (aw n l)]):=by
 refine hpx (nt:=58) Tryz.func28 ?_;refine w_9 ?_;refine qcx (wgx Tryz.func80) (b8w n l) ?_;refine gh ?_;refine hcn ?_ ?_<;>intro h0
 · refine v_6 ?_;exact⟨ccb (bit h0).symm,CoC.refl _,trivial⟩
 refine w_2 ?_;have hkl:=ajq n l;refine gv ?_;refine bw (ka 1 (ka 6 (ka 23 (ka 24 kn)))) km (fun i=>⟨[(8,some (vA (orL ((ed n l).take i)))),(25,some (vI i))],[]⟩) ((ed n l).length) kk ?_;rintro i hi;refine w_5 ?_;refine hcd ?_ ?_<;>intro h1
 · refine a5u ?_;exact lpx (i+1) ⟨⟨⟨_,rfl,(df (by rw[bOr,a4w bx5];rfl))⟩,tt⟩,trivial⟩
 obtain rfl:i=(ed n l).length:=by omega
 have htk:(ed n l).take (ed n l).length=ed n l:=btb;refine w_9 ?_;refine am (ι:=Nat) (ka 1 (ka 33 (ka 34 kn))) km (fun i=>⟨[(8,some (vA (orL (ed n l)))),(35,some (vI i))],[]⟩) (fun i=>i<=(ed n l).length/\(∀j,j<i->a52 l (orL (ed n l)) ((ed n l).getD j default)=true)) (fun i=>(ed n l).length-i) (0) (⟨bt6 _,fun j hj=>absurd hj (bt9 _)⟩) ⟨⟨⟨_,rfl,(df (by rw[htk]))⟩,tt⟩,trivial⟩ ?_;rintro i ⟨hi,hI⟩;refine w_5 ?_;refine hcd ?_ ?_<;>intro h2
 ·
  refine jk ?_;refine am (ι:=AS) (ka 1 (ka 8 (ka 12 (ka 33 (ka 34 (ka 35 kn)))))) km (fun r=>⟨[(13,some (vA r))],[]⟩) (fun r=>ah2 l (orL (ed n l)) ((ed n l).getD i default) r) (fun r=>r.toNat) (((ed n l).getD i default)) (b6z l (orL (ed n l)) ((ed n l).getD i default)) kk ?_;rintro r hr;refine w_6 ?_;refine hcn ?_ ?_<;>intro h3
  ·
   have hne:r≠0:=fun e=>h3 (by rw[e];rfl);have hlow:=ber hr hne;refine w_9 ?_;refine rqw rfl rfl rfl rfl rfl ?_;refine w_2 ?_;refine rc rfl rfl rfl rfl rfl rfl rp (rg l (noA ((ed n l).getD i default) (gm r))) (⟨CoC.refl _,cci (by rw[b7l r hne rfl,mc];rfl),trivial⟩) rfl rfl ?_;refine w_4 ?_;refine hcn ?_ ?_<;>intro h4
   · refine v_5 ?_;exact⟨ccb (ams h0 (bi0 bx5 (bko hlow.1 hlow.2 (fun e=>(by assumption:¬_) (ep.2 e))))).symm,cci h0.symm,trivial⟩
   refine w_4 ?_;refine rq rfl rfl rfl rfl rfl ?_ (hp:=(x5 hne));refine w_3 ?_;refine⟨r&&&(r-1), ?_, ?_, ?_⟩
   · exact b38 hr hne (ep.1 bx6)
   · exact b1z hne
   exact⟨⟨⟨_,rfl,(df (ac7 hne))⟩,tt⟩,trivial⟩
  have hz:r=0:=cb.1 h3;refine w_5 ?_;refine lpz (i+1) kk ?_;exact⟨by show i+1<=_;omega,b29 hI (bbw hr hz)⟩
 obtain rfl:i=(ed n l).length:=by omega
 refine v_6 ?_;exact⟨ccb (ams h0 (bj3 (fun j hj=>hI j bx5))).symm,cci h0.symm,trivial⟩
def bpe (n:Int) (l m:List Fd):a7 bxr 25 [pI n,pP (fdl l),pP (fdl m)] (ae [pB (is4 n l m),pI (ck4 n l m 0)]):=by
 refine hpx (nt:=37) Tryz.func25 ?_;refine gv ?_;refine qcx apr (ahm n l m 0) ?_;refine w_7 ?_;refine hcn ?_ ?_<;>intro h0
 · refine v_6 ?_;exact⟨ccb (show false=is4 n l m from (if_neg bx6).symm),CoC.refl _,trivial⟩
 have hz:ck4 n l m 0=0:=h0;obtain⟨hn0,hn8,hb⟩:=af9 hz;have hn1:n<=16:=by omega
 have hf:ck4 n l m (a6 n)=0:=by rw[a5g bx5];exact aag (a8v hb).1 (b6c hn1)
 refine w_8 ?_;refine rq rfl rfl rfl rfl rfl ?_ (hp:=⟨om hn0 hn1,nf hn0 hn1⟩);refine rc rfl rfl rfl rfl rfl rfl (wgx Tryz.func16) (bk4 hf) (⟨CoC.refl _,CoC.refl _,CoC.refl _,cci (og hn0 hn1),trivial⟩) rfl rfl ?_;refine w_4 ?_;refine m9 0 ?_;refine ss ?_;exact hx8 rfl rfl rfl (⟨ccb (by unfold is4;rw[if_pos hz,a6m hf];rfl),cci hz.symm,trivial⟩)
def boa (s:AS) (l:List Fd):a7 bxr 68 [pA s,pP (bx (fdl l))] (ae [pB (dx l s)]):=by
 refine hpx (nt:=13) Tryz.func68 ?_;refine w_8 ?_;refine qcx (wgx Tryz.func44) (b8d l s) ?_;refine w_3 ?_;refine m9 0 ?_;refine v_8 ?_;exact CoL.refl _
def bp4 (n:Int) (l:List Fd) (ps:List AS):a7 bxr 19 [pI n,pP (fdl l),pP (asl ps)] (ae [pB (a5t n l ps),pI (lsC n ps l [])]):=by
 refine hpx (nt:=28) Tryz.func19 ?_;refine sx7 ?_;refine m9 0 ?_;refine w_8 ?_;refine rc rfl rfl rfl rfl rfl rfl (wgx Tryz.func66) (bka n ps l []) (⟨CoC.refl _,CoC.refl _,CoC.refl _,al5,trivial⟩) rfl rfl ?_;refine gh ?_;refine al rfl rfl ?_ ?_<;>intro r0
 ·
  have h0:=tz2 (cj r0);(iterate 2 refine k9 (gtf r0) ?_);refine w_9 ?_
  exact hx8 rfl rfl rfl (⟨ccb (b7n (by first|exact .inl bx6|exact .inr bxf)).symm,CoC.refl _,trivial⟩)
 have h0:=tz1 (cn r0);(iterate 2 refine qy ?_ (hg:=(gff r0)));refine w_2 ?_;refine ax _ rfl ?_ ?_<;>intro r1
 · have h1:=cj (bn r0 r1);refine v_6 ?_;exact⟨ccb (b7n (by first|exact .inl bx6|exact .inr bxf)).symm,CoC.refl _,trivial⟩
 have h1:=cn (bn r0 r1);refine w_2 ?_;refine ci 4 rfl rfl rfl ?_;refine w_3 ?_;refine qcx a3i (aa6 ps 68 1 (fun i=>[bx (fdl l)].getD i .any) (dx l) (wgx Tryz.func68) (fun s=>boa s l)) ?_;refine v_4 ?_;exact⟨ccb (bmn bxf),cci (by symm;assumption),trivial⟩
def bqo(n:Int)(l:List Fd)(ps:List AS)(hl:l.length<=16777216):a7 bxr 20 [pI n,pP (fdl l),pP (asl ps)] (ae [pB (a0z n l ps),pI (abv n l ps)]):=by
 refine hpx (nt:=67) Tryz.func20 ?_;refine cr ?_;refine qcx qj (tg n l) ?_;refine w_7 ?_;refine hcn ?_ ?_<;>intro h0
 · refine w_6 ?_;refine hrr ?_;have he:=bo5 (ps:=ps) (by assumption:¬aw n l=0);exact f9 rfl rfl (⟨ccb he.2.symm,cci he.1.symm,trivial⟩)
 have hv:aw n l=0:=by assumption
 refine w_6 ?_;refine qcx (wgx Tryz.func70) (ary n ps) ?_;refine w_7 ?_;refine hcn ?_ ?_<;>intro h1
 · refine w_6 ?_;refine hrr ?_;have he:=boj hv (by assumption:¬lvE n ps=0);exact f9 rfl rfl (⟨ccb he.2.symm,cci he.1.symm,trivial⟩)
 have hlv:lvE n ps=0:=by assumption
 refine w_6 ?_;refine rc rfl rfl rfl rfl rfl rfl (wgx Tryz.func66) (bka n ps l []) (⟨CoC.refl _,CoC.refl _,CoC.refl _,al5,trivial⟩) rfl rfl ?_;refine gh ?_;refine hcn ?_ ?_<;>intro h2
 · refine w_6 ?_;refine hrr ?_;have he:=bnl hv (by assumption:¬lsC n ps l []=0);exact f9 rfl rfl (⟨ccb he.2.symm,cci he.1.symm,trivial⟩)
 have hc:lsC n ps l []=0:=by assumption
 refine e9 2 rfl fun hnp=>?_;refine fk ?_;refine a1y (ka 0 (ka 1 (ka 2 kn))) km ⟨[(10,some (vB (lsB n ps l []&&j0 l ps)))],[]⟩ ?_ ?_
 ·
  refine w_3 ?_;refine al rfl rfl ?_ ?_<;>intro r3
  ·
   have h3:=r3;(iterate 2 refine qy ?_ (hg:=(gtt r3)));refine qcx ae9 (aut l ps hl) ?_ (hg:=(gtt r3));refine w_3 ?_
   exact⟨⟨⟨_,rfl,(cob bxf)⟩,tt⟩,trivial⟩
  have h3:=r3;(iterate 3 refine k9 (gft r3) ?_);refine w_3 ?_
  exact⟨⟨⟨_,rfl,(cob bxf)⟩,tt⟩,trivial⟩
 refine w_8 ?_;refine bw (ka 0 (ka 1 (ka 44 (ka 45 kn)))) km (fun i=>⟨[(10,some (vB ((lsB n ps l []&&j0 l ps)&&(ps.take i).all (ew l)))),(46,some (vI i))],[]⟩) ps.length ⟨⟨⟨_,rfl,(cob bx8)⟩,tt⟩,trivial⟩ ?_;rintro i hi;refine w_5 ?_;refine hcd ?_ ?_<;>intro h4
 ·
  refine qb ?_;refine qcx (wgx Tryz.func71) (b78 hv (ax7 hlv (ik (l:=ps) (i:=i) bx5))) ?_;refine w_9 ?_;refine al rfl rfl ?_ ?_<;>intro r5
  ·
   have h5:=r5;refine qy ?_ (hg:=(gtt r5));refine w_2 ?_;refine al rfl rfl ?_ ?_<;>intro r6
   ·
    have h6:=br r5 r6;(iterate 2 refine qy ?_ (hg:=(gtt r6)));refine w_7 ?_
    exact lpx (i+1) ⟨⟨⟨_,rfl,(cob (by rw[agc (f:=ew l) bx5,<- Bool.and_assoc];first|(rw[(by assumption:(((lsB n ps l []&&j0 l ps)&&(ps.take i).all (ew l)))=true)];rfl)|(rw[(by assumption:(((lsB n ps l []&&j0 l ps)&&(ps.take i).all (ew l)))=false)];rfl)|(cases(((lsB n ps l []&&j0 l ps)&&(ps.take i).all (ew l)))<;>rfl)|simp_all))⟩,tt⟩,trivial⟩
   have h6:=br r5 r6;(iterate 2 refine k9 (gft r6) ?_);refine w_7 ?_
   exact lpx (i+1) ⟨⟨⟨_,rfl,(cob (by rw[agc (f:=ew l) bx5,<- Bool.and_assoc];first|(rw[(by assumption:(((lsB n ps l []&&j0 l ps)&&(ps.take i).all (ew l)))=true)];rfl)|(rw[(by assumption:(((lsB n ps l []&&j0 l ps)&&(ps.take i).all (ew l)))=false)];rfl)|(cases(((lsB n ps l []&&j0 l ps)&&(ps.take i).all (ew l)))<;>rfl)|simp_all))⟩,tt⟩,trivial⟩
  have h5:=r5;refine k9 (gft r5) ?_;refine w_2 ?_;(iterate 2 refine k9 rfl ?_);refine w_7 ?_;exact lpx (i+1) ⟨⟨⟨_,rfl,(cob (by rw[agc (f:=ew l) bx5,<- Bool.and_assoc];first|(rw[(by assumption:(((lsB n ps l []&&j0 l ps)&&(ps.take i).all (ew l)))=true)];rfl)|(rw[(by assumption:(((lsB n ps l []&&j0 l ps)&&(ps.take i).all (ew l)))=false)];rfl)|(cases(((lsB n ps l []&&j0 l ps)&&(ps.take i).all (ew l)))<;>rfl)|simp_all))⟩,tt⟩,trivial⟩
 obtain rfl:i=ps.length:=by omega
 refine w_7 ?_;refine hrr ?_;have he:=bmj hv hc;exact f9 rfl rfl (⟨ccb (by rw[he.2,btb]),cci he.1.symm,trivial⟩)
end
section
section
variable {n:Int}{l:List Fd}
def bde (h8:fb n l 8=0):ml n l=decide (qc n l=4):=by
 unfold ml a01;rw[decide_eq_true h8,bu0,b5s h8]
def bjh (h8:fb n l 8=0):qc n l=0\/qc n l=4:=by
 unfold qc;rw[if_pos h8]
 cases a6e n l with
 |some f=>exact .inl rfl
 |none=>exact .inr rfl
def ayk (h8:fb n l 8=0) (h:¬qc n l=4):jb l (dj n l) (wv n l)=false/\imp l (wv n l)=true:=by
 unfold qc at h;unfold wv;rw[if_pos h8]at h ⊢
 cases hx:a6e n l with
 |none=>rw[hx]at h;exact absurd rfl h
 | some f =>
  dsimp only;unfold a6e at hx;rw[aef (pk h8).1]at hx;have h1:=bx1 hx;have h2:=bwb hx;refine⟨by simpa using h1, ?_⟩;unfold imp;refine decide_eq_true ?_;rw[<- v7 l f.lhs];exact gr f h2 jf
def aft (h8:fb n l 8=0) (h6:n<=6) (hp:ml n l=true):lsC n (jg n l) l []=0/\a5t n l (jg n l)=true/\abv n l (jg n l)=0/\a0z n l (jg n l)=true/\j0 l (jg n l)=true:=by
 obtain⟨h1,h2,h3⟩:=bcv h8 h6 hp;obtain⟨hv,_⟩:=pk h8;refine⟨h1,h2,by unfold abv;rw[if_pos hv];exact h1, ?_,h3⟩;unfold a5t at h2;rw[bt3]at h2;have hlv:=(amt h1).1
 have hor:orL (jg n l)=a6 n:=by
  unfold lvE at hlv;split at hlv
  · cases hlv
  split at hlv
  · cases hlv
  split at hlv
  · cases hlv
  rename_i h;exact Classical.byContradiction fun e=>h (.inr e)
 unfold a0z;rw[decide_eq_true hv,h2.1,h3,bu0,bu0,bu0,btl];intro p hp2
 have hvio:dx l p=false:=by
  have h4:=h2.2;rw[btv,buu]at h4;simpa using h4 p hp2
 have hsub:sub p (a6 n):=by rw[<- hor];exact ai.2 fun i hi hb=>by rw[xe hi];exact bue.2 ⟨p,hp2,hb⟩
 have hb:=a0n (n:=n) (m:=8) bx5 bx5;exact an2 (by have:=as2 hsub;omega) hvio
end
end
section
open Go.Proofs
section
variable {l:List Fd}{n:Int}
def bm5 (h8:fb n l 8=0):a7 bxr 17 [pI n,pP (fdl l)] (ae [pP (asl (jg n l)),pB (ml n l),pI 0]):=by
 have hh:=bni n l;rw[h8]at hh;exact hh
def bqf (h8:fb n l 8=0) (h6:n<=6) (hp:ml n l=true):a7 bxr 19 [pI n,pP (fdl l),pP (asl (jg n l))] (ae [pB true,pI 0]):=by
 have hh:=bp4 n l (jg n l);rw[(aft h8 h6 hp).1,(aft h8 h6 hp).2.1]at hh;exact hh
def bph (h8:fb n l 8=0) (h6:n<=6) (hp:ml n l=true) (hl:l.length<=16777216):a7 bxr 20 [pI n,pP (fdl l),pP (asl (jg n l))] (ae [pB true,pI 0]):=by
 have hh:=bqo n l (jg n l) hl;rw[(aft h8 h6 hp).2.2.1,(aft h8 h6 hp).2.2.2.1]at hh;exact hh
def bqn (h8:fb n l 8=0) (h6:n<=6) (hp:ml n l=true) (hl:l.length<=16777216):a7 bxr 21 [pP (fdl l),pP (asl (jg n l))] (ae [pB true]):=by
 have hh:=aut l (jg n l) hl;rw[(aft h8 h6 hp).2.2.2.2]at hh;exact hh
def bn6 (h8:fb n l 8=0):a7 bxr 22 [pI n,pP (fdl l)] (ae [pP (asl (dj n l)),pI 0]):=by
 have hh:=ano n l;rw[h8]at hh;exact hh
def bm7 (h8:fb n l 8=0) (h:¬qc n l=4):a7 bxr 23 [pP (fdl l),pP (asl (dj n l)),(wv n l).pc] (ae [pB false]):=by
 have hh:=av0 l (dj n l) (wv n l);rw[(ayk h8 h).1]at hh;exact hh
def bq9 (h8:fb n l 8=0) (h:¬qc n l=4):a7 bxr 24 [pP (fdl l),(wv n l).pc] (ae [pB true]):=by
 have hh:=b32 l (wv n l);rw[(ayk h8 h).2]at hh;exact hh
def bks (hv:aw n l=0) (h6:n<=6):a7 bxr 25 [pI n,pP (fdl l),pP (fdl [])] (ae [pB (bcS n l),pI 0]):=by
 have hh:=bpe n l [];rw[(arx hv h6).1,(arx hv h6).2]at hh;exact hh
def bla (hv:aw n l=0):a7 bxr 26 [pI n,pP (fdl l)] (ae [pB (bcS n l),pI 0]):=by
 have hh:=boy n l;rw[hv]at hh;exact hh
def blg (hv:aw n l=0):a7 bxr 27 [pI n,pP (fdl l)] (ae [pB (decide (tq n l=[])),pI 0]):=by
 have hh:=bqe n l;rw[hv,decide_eq_true (show(0:Int)=0 from rfl),bu0]at hh;exact hh
def b7s (hv:aw n l=0):a7 bxr 28 [pI n,pP (fdl l)] (ae [pB (adk n l),pI 0]):=by
 have hh:=b5i n l;rw[hv]at hh;exact hh
def bgl(d:Dps)(hl:d.l.length<=16777216):a7 bxr 5 [d.pc] (ae [pB true]):=by
 refine hpx (nt:=173) Tryz.func5 ?_;have hs6:d.num<=6:=(ans d).2;refine sx7 ?_;refine m9 0 ?_;refine w_5 ?_;refine qcx (wgx Tryz.func6) (cOf d hl) ?_;refine gv ?_;refine qcx avd (acn) ?_;refine w_2 ?_;refine al rfl rfl ?_ ?_<;>intro r0
 ·
  have h0:=cj r0;(iterate 2 refine k9 (gtf r0) ?_);refine w_5 ?_;refine qcx avd (acn) ?_;refine w_2 ?_
  exact hx8 rfl rfl rfl (CoL.refl _)
 have h0:=cn r0;(iterate 2 refine qy ?_ (hg:=(gff r0)));refine w_2 ?_;refine ax _ rfl ?_ ?_<;>intro r1
 · have h1:=cj (bn r0 r1);refine sx7 ?_;refine qcx avd (acn) ?_;refine v_2 ?_;exact CoL.refl _
 have h1:=cn (bn r0 r1);refine w_2 ?_;have hd6:d.l.length<=6:=by simp_all
 have hv:=b1u hd6;have he8:=baf hd6;have hfl:d.fds.length<=16777216:=by unfold Dps.fds;rw[btw];exact hl
 have hpo:=bde he8;have heo:=bjh he8;have h23:=fun h=>b5b hv hs6 h;have h32:=fun h=>bjg hv h;refine w_3 ?_;refine qcx (wgx Tryz.func17) (bm5 he8) ?_;refine gh ?_;refine qcx (wgx Tryz.func18) (bq6 d.num d.fds) ?_;refine w_3 ?_;refine m9 1 ?_;refine w_9 ?_;refine al rfl rfl ?_ ?_<;>intro r2
 ·
  have h2:=tz2 (cj r2);(iterate 4 refine k9 (gtf r2) ?_);refine w_7 ?_;refine hrr ?_
  exfalso;simp_all
 have h2:=tz1 (cn r2);(iterate 4 refine qy ?_ (hg:=(gff r2)));refine w_2 ?_;refine ax _ rfl ?_ ?_<;>intro r3
 · have h3:=bn r2 r3;refine w_4 ?_;refine hrr ?_;exfalso;simp_all
 have h3:=bn r2 r3;refine w_6 ?_;refine ax _ rfl ?_ ?_<;>intro r4
 ·
  have h4:=r4;have hpb:ml d.num d.fds=true:=r4;refine w_5 ?_;refine qcx (wgx Tryz.func19) (bqf he8 hs6 hpb) ?_;refine gv ?_;refine qcx (wgx Tryz.func20) (bph he8 hs6 hpb hfl) ?_;refine gv ?_;refine al rfl rfl ?_ ?_<;>intro r5
  ·
   have h5:=tz2 (cj r5);(iterate 2 refine k9 (gtf r5) ?_);refine w_2 ?_;(iterate 2 refine k9 rfl ?_);refine w_2 ?_;(iterate 2 refine k9 rfl ?_);refine w_2 ?_;(iterate 4 refine k9 rfl ?_);refine w_7 ?_;refine hrr ?_
   simp_all
  have h5:=tz1 (cn r5);(iterate 2 refine qy ?_ (hg:=(gff r5)));refine w_2 ?_;refine al rfl rfl ?_ ?_<;>intro r6
  ·
   have h6:=tz2 (cj (bn r5 r6));(iterate 2 refine k9 (gtf r6) ?_);refine w_2 ?_;(iterate 2 refine k9 rfl ?_);refine w_2 ?_;(iterate 4 refine k9 rfl ?_);refine w_7 ?_;refine hrr ?_
   simp_all
  have h6:=tz1 (cn (bn r5 r6));(iterate 2 refine qy ?_ (hg:=(gff r6)));refine w_2 ?_;refine al rfl rfl ?_ ?_<;>intro r7
  ·
   have h7:=cj (bn r6 r7);(iterate 2 refine k9 (gtf r7) ?_);refine w_2 ?_;(iterate 4 refine k9 rfl ?_);refine w_7 ?_;refine hrr ?_
   simp_all
  have h7:=cn (bn r6 r7);(iterate 2 refine qy ?_ (hg:=(gff r7)));refine w_2 ?_;refine al rfl rfl ?_ ?_<;>intro r8
  ·
   have h8:=cj (bn r7 r8);(iterate 4 refine k9 (gtf r8) ?_);refine w_7 ?_;refine hrr ?_
   simp_all
  have h8:=cn (bn r7 r8);(iterate 2 refine qy ?_ (hg:=(gff r8)));refine qcx ae9 (bqn he8 hs6 hpb hfl) ?_ (hg:=(gff r8));refine qy ?_ (hg:=(gff r8));refine w_2 ?_;refine ax _ rfl ?_ ?_<;>intro r9
  · have h9:=cj (bn r8 r9);refine w_4 ?_;refine hrr ?_;simp_all
  have h9:=cn (bn r8 r9);refine w_5 ?_;refine rc rfl rfl rfl rfl rfl rfl (wgx Tryz.func25) (bks hv hs6) (⟨CoC.refl _,CoC.refl _,al5,trivial⟩) rfl rfl ?_;refine cr ?_;refine qcx (wgx Tryz.func26) (bla hv) ?_;refine cr ?_;refine qcx (wgx Tryz.func27) (blg hv) ?_;refine cr ?_;refine qcx (wgx Tryz.func28) (b7s hv) ?_;refine gv ?_;refine al rfl rfl ?_ ?_<;>intro r10
  ·
   have h10:=tz1 r10;(iterate 2 refine qy ?_ (hg:=(gtt r10)));refine w_2 ?_;refine al rfl rfl ?_ ?_<;>intro r11
   ·
    have h11:=tz1 (br r10 r11);(iterate 2 refine qy ?_ (hg:=(gtt r11)));refine w_2 ?_;refine al rfl rfl ?_ ?_<;>intro r12
    ·
     have h12:=tz1 (br r11 r12);(iterate 2 refine qy ?_ (hg:=(gtt r12)));refine w_2 ?_;refine al rfl rfl ?_ ?_<;>intro r13
     ·
      have h13:=tz1 (br r12 r13);(iterate 3 refine qy ?_ (hg:=(gtt r13)));refine w_2 ?_;refine al rfl rfl ?_ ?_<;>intro r14
      ·
       have h14:=br r13 r14;(iterate 3 refine qy ?_ (hg:=(gtt r14)));refine al rfl rfl ?_ ?_<;>intro r15
       ·
        have h15:=cj r15;refine k9 (gtf r15) ?_;refine rq rfl rfl rfl rfl (gtt r14) ?_ (hp:=r15);refine w_2 ?_;(iterate 3 refine rq rfl rfl rfl rfl (gtt (rt r14 rfl)) ?_);refine al rfl rfl ?_ ?_<;>intro r16
        · have h16:=cj r16;refine k9 (gtf r16) ?_;refine rq rfl rfl rfl rfl (gtt (rt r14 rfl)) ?_ (hp:=r16);refine v_3 ?_;exact⟨ccb bxf,trivial⟩
        have h16:=cn r16;refine qy ?_ (hg:=(gff r16));refine rq rfl rfl rfl rfl (gtt (rt r14 rfl)) ?_;refine v_3 ?_;exact⟨ccb bxf,trivial⟩
       have h15:=cn r15;refine qy ?_ (hg:=(gff r15));refine qy ?_ (hg:=(gtt r14));refine w_2 ?_;refine al rfl rfl ?_ ?_<;>intro r17
       ·
        have h17:=bn r15 (br r14 r17);(iterate 3 refine qy ?_ (hg:=(gtt r17)));refine al rfl rfl ?_ ?_<;>intro r18
        · have h18:=cj r18;refine k9 (gtf r18) ?_;refine rq rfl rfl rfl rfl (gtt r17) ?_ (hp:=r18);refine v_3 ?_;exact⟨ccb bxf,trivial⟩
        have h18:=cn r18;refine qy ?_ (hg:=(gff r18));refine qy ?_ (hg:=(gtt r17));refine v_3 ?_;exact⟨ccb bxf,trivial⟩
       have h17:=bn r15 (br r14 r17);(iterate 3 refine k9 (gft r17) ?_);refine k9 rfl ?_;refine k9 (gft r17) ?_;refine w_3 ?_
       exact hx8 rfl rfl rfl (⟨ccb bxf,trivial⟩)
      have h14:=br r13 r14;(iterate 3 refine k9 (gft r14) ?_);refine k9 rfl ?_;refine k9 (gft r14) ?_;refine w_2 ?_;(iterate 5 refine k9 rfl ?_);refine w_3 ?_
      exact hx8 rfl rfl rfl (⟨ccb bxf,trivial⟩)
     have h13:=tz2 (br r12 r13);(iterate 3 refine k9 (gft r13) ?_);refine w_2 ?_;(iterate 5 refine k9 rfl ?_);refine w_2 ?_;(iterate 5 refine k9 rfl ?_);refine w_3 ?_
     exact hx8 rfl rfl rfl (⟨ccb bxf,trivial⟩)
    have h12:=tz2 (br r11 r12);(iterate 2 refine k9 (gft r12) ?_);refine w_2 ?_;(iterate 3 refine k9 rfl ?_);refine w_2 ?_;(iterate 5 refine k9 rfl ?_);refine w_2 ?_;(iterate 5 refine k9 rfl ?_);refine w_3 ?_
    exact hx8 rfl rfl rfl (⟨ccb bxf,trivial⟩)
   have h11:=tz2 (br r10 r11);(iterate 2 refine k9 (gft r11) ?_);refine w_2 ?_;(iterate 2 refine k9 rfl ?_);refine w_2 ?_;(iterate 3 refine k9 rfl ?_);refine w_2 ?_;(iterate 5 refine k9 rfl ?_);refine w_2 ?_;(iterate 5 refine k9 rfl ?_)
   refine v_3 ?_;exact⟨ccb bxf,trivial⟩
  have h10:=tz2 r10;(iterate 2 refine k9 (gft r10) ?_);refine w_2 ?_;(iterate 2 refine k9 rfl ?_);refine w_2 ?_;(iterate 2 refine k9 rfl ?_);refine w_2 ?_;(iterate 3 refine k9 rfl ?_);refine w_2 ?_;(iterate 5 refine k9 rfl ?_)
  refine w_2 ?_;(iterate 5 refine k9 rfl ?_);refine v_3 ?_;exact⟨ccb bxf,trivial⟩
 have h4:=r4;have hpb:ml d.num d.fds=false:=r4;have hn4:¬qc d.num d.fds=4:=by rw[hpb]at hpo;simpa using hpo.symm
 have he0:qc d.num d.fds=0:=by omega
 refine w_4 ?_;refine qcx amx (bn6 he8) ?_;refine gv ?_;refine al rfl rfl ?_ ?_<;>intro r19
 ·
  have h19:=tz2 (cj r19);(iterate 2 refine k9 (gtf r19) ?_);refine w_2 ?_;(iterate 4 refine k9 rfl ?_);refine w_2 ?_;(iterate 4 refine k9 rfl ?_);refine w_7 ?_;refine hrr ?_
  simp_all
 have h19:=tz1 (cn r19);(iterate 2 refine qy ?_ (hg:=(gff r19)));refine w_2 ?_;refine al rfl rfl ?_ ?_<;>intro r20
 ·
  have h20:=tz2 (cj (bn r19 r20));(iterate 4 refine k9 (gtf r20) ?_);refine w_2 ?_;(iterate 4 refine k9 rfl ?_);refine w_7 ?_;refine hrr ?_
  simp_all
 have h20:=tz1 (cn (bn r19 r20));(iterate 3 refine qy ?_ (hg:=(gff r20)));refine qcx amj (bm7 he8 hn4) ?_ (hg:=(gff r20));refine w_2 ?_;refine al rfl rfl ?_ ?_<;>intro r21
 ·
  have h21:=bn r20 r21;(iterate 4 refine k9 (gtf r21) ?_);refine w_7 ?_;refine hrr ?_
  simp_all
 have h21:=bn r20 r21;(iterate 2 refine qy ?_ (hg:=(gff r21)));refine qcx apm (bq9 he8 hn4) ?_ (hg:=(gff r21));refine qy ?_ (hg:=(gff r21));refine w_2 ?_;refine ax _ rfl ?_ ?_<;>intro r22
 · have h22:=cj (bn r21 r22);refine w_4 ?_;refine hrr ?_;simp_all
 have h22:=cn (bn r21 r22);refine w_5 ?_;refine rc rfl rfl rfl rfl rfl rfl (wgx Tryz.func25) (bks hv hs6) (⟨CoC.refl _,CoC.refl _,al5,trivial⟩) rfl rfl ?_;refine cr ?_;refine qcx (wgx Tryz.func26) (bla hv) ?_;refine cr ?_;refine qcx (wgx Tryz.func27) (blg hv) ?_;refine cr ?_;refine qcx (wgx Tryz.func28) (b7s hv) ?_;refine gv ?_;refine al rfl rfl ?_ ?_<;>intro r23
 ·
  have h23:=tz1 r23;(iterate 2 refine qy ?_ (hg:=(gtt r23)));refine w_2 ?_;refine al rfl rfl ?_ ?_<;>intro r24
  ·
   have h24:=tz1 (br r23 r24);(iterate 2 refine qy ?_ (hg:=(gtt r24)));refine w_2 ?_;refine al rfl rfl ?_ ?_<;>intro r25
   ·
    have h25:=tz1 (br r24 r25);(iterate 2 refine qy ?_ (hg:=(gtt r25)));refine w_2 ?_;refine al rfl rfl ?_ ?_<;>intro r26
    ·
     have h26:=tz1 (br r25 r26);(iterate 3 refine qy ?_ (hg:=(gtt r26)));refine w_2 ?_;refine al rfl rfl ?_ ?_<;>intro r27
     ·
      have h27:=br r26 r27;(iterate 3 refine qy ?_ (hg:=(gtt r27)));refine al rfl rfl ?_ ?_<;>intro r28
      ·
       have h28:=cj r28;refine k9 (gtf r28) ?_;refine rq rfl rfl rfl rfl (gtt r27) ?_ (hp:=r28);refine w_2 ?_;(iterate 3 refine rq rfl rfl rfl rfl (gtt (rt r27 rfl)) ?_);refine al rfl rfl ?_ ?_<;>intro r29
       · have h29:=cj r29;refine k9 (gtf r29) ?_;refine rq rfl rfl rfl rfl (gtt (rt r27 rfl)) ?_ (hp:=r29);refine v_3 ?_;exact⟨ccb bxf,trivial⟩
       have h29:=cn r29;refine qy ?_ (hg:=(gff r29));refine rq rfl rfl rfl rfl (gtt (rt r27 rfl)) ?_;refine v_3 ?_;exact⟨ccb bxf,trivial⟩
      have h28:=cn r28;refine qy ?_ (hg:=(gff r28));refine qy ?_ (hg:=(gtt r27));refine w_2 ?_;refine al rfl rfl ?_ ?_<;>intro r30
      ·
       have h30:=bn r28 (br r27 r30);(iterate 3 refine qy ?_ (hg:=(gtt r30)));refine al rfl rfl ?_ ?_<;>intro r31
       · have h31:=cj r31;refine k9 (gtf r31) ?_;refine rq rfl rfl rfl rfl (gtt r30) ?_ (hp:=r31);refine v_3 ?_;exact⟨ccb bxf,trivial⟩
       have h31:=cn r31;refine qy ?_ (hg:=(gff r31));refine qy ?_ (hg:=(gtt r30));refine v_3 ?_;exact⟨ccb bxf,trivial⟩
      have h30:=bn r28 (br r27 r30);(iterate 3 refine k9 (gft r30) ?_);refine k9 rfl ?_;refine k9 (gft r30) ?_;refine w_3 ?_
      exact hx8 rfl rfl rfl (⟨ccb bxf,trivial⟩)
     have h27:=br r26 r27;(iterate 3 refine k9 (gft r27) ?_);refine k9 rfl ?_;refine k9 (gft r27) ?_;refine w_2 ?_;(iterate 5 refine k9 rfl ?_);refine w_3 ?_
     exact hx8 rfl rfl rfl (⟨ccb bxf,trivial⟩)
    have h26:=tz2 (br r25 r26);(iterate 3 refine k9 (gft r26) ?_);refine w_2 ?_;(iterate 5 refine k9 rfl ?_);refine w_2 ?_;(iterate 5 refine k9 rfl ?_);refine w_3 ?_
    exact hx8 rfl rfl rfl (⟨ccb bxf,trivial⟩)
   have h25:=tz2 (br r24 r25);(iterate 2 refine k9 (gft r25) ?_);refine w_2 ?_;(iterate 3 refine k9 rfl ?_);refine w_2 ?_;(iterate 5 refine k9 rfl ?_);refine w_2 ?_;(iterate 5 refine k9 rfl ?_);refine w_3 ?_
   exact hx8 rfl rfl rfl (⟨ccb bxf,trivial⟩)
  have h24:=tz2 (br r23 r24);(iterate 2 refine k9 (gft r24) ?_);refine w_2 ?_;(iterate 2 refine k9 rfl ?_);refine w_2 ?_;(iterate 3 refine k9 rfl ?_);refine w_2 ?_;(iterate 5 refine k9 rfl ?_);refine w_2 ?_;(iterate 5 refine k9 rfl ?_)
  refine v_3 ?_;exact⟨ccb bxf,trivial⟩
 have h23:=tz2 r23;(iterate 2 refine k9 (gft r23) ?_);refine w_2 ?_;(iterate 2 refine k9 rfl ?_);refine w_2 ?_;(iterate 2 refine k9 rfl ?_);refine w_2 ?_;(iterate 3 refine k9 rfl ?_);refine w_2 ?_;(iterate 5 refine k9 rfl ?_);refine w_2 ?_
 (iterate 5 refine k9 rfl ?_);refine w_3 ?_
 exact hx8 rfl rfl rfl (⟨ccb bxf,trivial⟩)
end
end
end Go.Hx
