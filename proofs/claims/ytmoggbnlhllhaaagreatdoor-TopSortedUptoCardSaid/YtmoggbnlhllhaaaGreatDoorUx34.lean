/- A part of the proof: Kw4 Kw5 Kb6 Kw6 Kb7 Kw7 Bz11 Kl2 Kb8 Kw8. -/
import Derived.Test.YtmoggbnlhllhaaaGreatDoorUx33
set_option linter.all false
set_option maxRecDepth 100000
set_option maxHeartbeats 1000000
namespace Go.Hx
section
open Go.Proofs
def b5d:a6 bqh 132:=wgx Tryz.func132
def b6n (n:Nat) (l:List Fd) (hn:n<=10) (hv:cn n l=0):a7 bqh 132 [pI (n:Int),pP (fdl l)] (af [pI 0]):=by
 refine hpx (nt:=14) Tryz.func132 ?_;refine w_9 ?_;refine qcx a1m (ani hv) ?_;refine jd ?_;refine hcd ?_ ?_<;>intro h0
 · exfalso;omega
 refine v_5 ?_;exact CoL.refl _
def alf:a6 bqh 75:=wgx Tryz.func75
def aly (n:Nat) (hn:n<=10):a7 bqh 75 [pI (n:Int)] (af [pA (ah (n:Int))]):=by
 refine hpx (nt:=6) Tryz.func75 ?_;have h0z:(0:Int)<=(n:Int):=by omega
 have h1z:(n:Int)<=16:=by omega
 refine w_8 ?_;refine rq rfl rfl rfl rfl rfl ?_ (hp:=⟨uv h0z h1z,sy h0z h1z⟩);refine v_2 ?_;exact⟨cci (wa h0z h1z),trivial⟩
def ba6:a6 bqh 74:=wgx Tryz.func74
def bqf{p:Prop}(h:p:=by first|exact a0u bpx|exact a1b bpx):p:=h
def bgc(n:Nat)(l:List Fd)(hn:n<=10)(hv:cn n l=0):a7 bqh 74 [pI (n:Int),pP (fdl l)] (af [pP (asl (jf (n:Int) (en l (n:Int)))),pI 0]):=by
 refine hpx (nt:=73) Tryz.func74 ?_;have hsl:=vz (ah (n:Int));have hcn:(en l (n:Int)).length<=4294967296:=bme (bnm _ _) hsl;refine eu ?_;refine qcx b5d (b6n n l hn hv) ?_;refine l5 ?_;refine qcx b5v (b4c n l bpw hv) ?_;refine bhs ?_;refine cr 9 900 true 1 35 (lf sC []) bq4 rfl (CoP.sl rfl (.inr rfl) (fun h=>h) (fun i j hi _=>absurd hi (bm6 i))) (.inr rfl) rfl ?_;refine c7 (ka 0 (ka 7 (ka 30 (ka 31 kn)))) km (fun i=>⟨[(9,some (.v (.one (.ref 900 (a0f (n:Int) (en l (n:Int)) i).length)))),(32,some (vI i))],[(900,some (.arr true 1 35 (a0f (n:Int) (en l (n:Int)) i).length (lf sC (a0f (n:Int) (en l (n:Int)) i))))]⟩) ((en l (n:Int)).length) kk ?_;rintro i hi;have hcl:=b0c (n:=(n:Int)) (cl:=en l (n:Int)) (i:=i);refine w_5 ?_;refine hcd ?_ ?_<;>intro h0
 ·
  have hil:i<(en l (n:Int)).length:=by omega
  refine l6 ?_;refine qcx alf (aly n hn) ?_;refine eu ?_;refine c7 (ka 0 (ka 7 (ka 9 (ka 11 (ka 30 (ka 31 (ka 32 (ka 38 (ka 39 kn))))))))) (kb 900 km) (fun k=>⟨[(12,some (vA (ue (n:Int) (en l (n:Int)) ((en l (n:Int)).getD i default) k))),(40,some (vI k))],[]⟩) ((en l (n:Int)).length) kk ?_;rintro k hk;refine w_5 ?_;refine hcd ?_ ?_<;>intro h1
  ·
   have hkl:k<(en l (n:Int)).length:=by omega
   refine jd ?_;refine am rfl rfl ?_ ?_<;>intro r2
   ·
    have h2:=tz2 (dc r2);(iterate 5 refine qy ?_ (hg:=(gtt r2)));refine w_2 ?_;refine aw _ rfl ?_ ?_<;>intro r3
    · have h3:=tz1 (bp r2 r3);refine eu ?_;exact lpx (k+1) ⟨⟨⟨_,rfl,(by first|exact arp hkl bpx bpx|exact aij hkl bpx|exact alm hkl bpx)⟩,tt⟩,uu⟩
    have h3:=tz2 (bp r2 r3);refine w_5 ?_;exact lpx (k+1) ⟨⟨⟨_,rfl,(by first|exact arp hkl bpx bpx|exact aij hkl bpx|exact alm hkl bpx)⟩,tt⟩,uu⟩
   have h2:=tz1 (df r2);(iterate 5 refine k9 (gft r2) ?_);refine w_8 ?_
   exact lpx (k+1) ⟨⟨⟨_,rfl,(by first|exact arp hkl bpx bpx|exact aij hkl bpx|exact alm hkl bpx)⟩,tt⟩,uu⟩
  obtain rfl:k=(en l (n:Int)).length:=by omega
  refine w_5 ?_;refine qcx alf (aly n hn) ?_;refine w_2 ?_;refine am rfl rfl ?_ ?_<;>intro r4
  ·
   have h4:=tz2 (dc r4);(iterate 3 refine qy ?_ (hg:=(gtt r4)));refine w_2 ?_;refine aw _ rfl ?_ ?_<;>intro r5
   ·
    have h5:=tz2 (dc (bp r4 r5));refine w_3 ?_;refine m9 0 ?_;refine rz9 1 true ?_;refine w_6 ?_
    first | (refine lpz (i+1) ⟨⟨⟨_, rfl, (bj (a26 hil (a7j bpx bpx)))⟩, tt⟩, ⟨⟨_, rfl, (bm (a26 hil (a7j bpx bpx)) (CoP.refl _))⟩, trivial⟩⟩ ?_; show i+1<=_; omega)
          |(refine lpz (i+1) ⟨⟨⟨_,rfl,(bo (a1z hil bqf))⟩,tt⟩,⟨⟨_,rfl,(bf (a1z hil bqf))⟩,trivial⟩⟩ ?_;show i+1<=_;omega)
   have h5:=tz1 (df (bp r4 r5));refine w_5 ?_
   first | (refine lpz (i+1) ⟨⟨⟨_, rfl, (bj (a26 hil (a7j bpx bpx)))⟩, tt⟩, ⟨⟨_, rfl, (bm (a26 hil (a7j bpx bpx)) (CoP.refl _))⟩, trivial⟩⟩ ?_; show i+1<=_; omega)
         |(refine lpz (i+1) ⟨⟨⟨_,rfl,(bo (a1z hil bqf))⟩,tt⟩,⟨⟨_,rfl,(bf (a1z hil bqf))⟩,trivial⟩⟩ ?_;show i+1<=_;omega)
  have h4:=tz1 (df r4);(iterate 3 refine k9 (gft r4) ?_);refine w_8 ?_
  first | (refine lpz (i+1) ⟨⟨⟨_, rfl, (bj (a26 hil (a7j bpx bpx)))⟩, tt⟩, ⟨⟨_, rfl, (bm (a26 hil (a7j bpx bpx)) (CoP.refl _))⟩, trivial⟩⟩ ?_; show i+1<=_; omega)
        |(refine lpz (i+1) ⟨⟨⟨_,rfl,(bo (a1z hil bqf))⟩,tt⟩,⟨⟨_,rfl,(bf (a1z hil bqf))⟩,trivial⟩⟩ ?_;show i+1<=_;omega)
 obtain rfl:i=(en l (n:Int)).length:=by omega
 refine w_2 ?_;refine be 9 rfl rfl rfl ?_;refine v_5 ?_;exact⟨CoC.one (CoP.of_eq (by rw[axm];rfl)),CoC.refl _,trivial⟩
def b7k:a6 bqh 24:=wgx Tryz.func24
def bbm(n:Nat)(l:List Fd)(hn:n<=10)(hv:cn n l=0):a7 bqh 24 [pI (n:Int),pP (fdl l)] (af [(bcn (ah (n:Int)::jf (n:Int) (en l (n:Int))) n).pc,pI 0]):=by
 refine hpx (nt:=81) Tryz.func24 ?_;have hsl:=vz (ah (n:Int));have hcn:(ah (n:Int)::jf (n:Int) (en l (n:Int))).length<=4294967297:=Nat.succ_le_succ (bme (bnm _ _) (bme (bnm _ _) hsl));have hci:(jf (n:Int) (en l (n:Int))).length<=4294967296:=Nat.le_of_succ_le_succ hcn;have hLn:(ah (n:Int)::jf (n:Int) (en l (n:Int))).length=(jf (n:Int) (en l (n:Int))).length+1:=rfl;refine sx7 ?_;refine m9 0 ?_;refine w_6 ?_;refine qcx ba6 (bgc n l hn hv) ?_;refine sb ?_;refine m9 1 ?_;refine w_9 ?_;refine ik 1 1 100 true 1 9 (lf ar8 (y9 0)) bq4 rfl rfl (CoP.sl rfl (.inr rfl) (fun h=>h) (fun i j hi _=>absurd hi (bm6 i))) (.inr rfl) rfl rfl ?_;refine c7 (ka 0 (ka 4 (ka 6 (ka 8 (ka 26 kn))))) (kb 0 km) (fun i=>⟨[(27,some (vI i))],[(1,some (.box [.p (.raw (.string ⟨#[116]⟩)), .ref 100 (y9 i).length, .p (l7 (.slice none 0 0))])),(100,some (.arr true 1 9 (y9 i).length (lf ar8 (y9 i))))]⟩) n kk ?_;rintro i hi;have hl1:=ayg (n:=i);refine w_5 ?_;refine hcd ?_ ?_<;>intro h0
 ·
  have hin:i<n:=by omega
  refine jd ?_;refine m9 2 ?_;refine rz9 3 true ?_;refine w_7 ?_;exact lpx (i+1) ⟨tt,⟨⟨_,rfl,⟨CoP.refl _,congrArg (HV.ref 100) (by rw[ag6,bm2];rfl),CoP.refl _,trivial⟩⟩,⟨_,rfl,(bm ag6 (CoP.of_eq (bfz bpw)))⟩,uu⟩⟩
 obtain rfl:n=i:=by omega
 refine w_3 ?_;refine j2 1 1 rfl rfl rfl rfl rfl ?_;refine w_2 ?_;refine qcx alf (aly n hn) ?_;refine m9 4 ?_;refine qy ?_;refine rz9 5 true ?_;refine w_4 ?_;refine ik 1 2 101 true 2 106 (lf Row.c (vr (ah (n:Int)::jf (n:Int) (en l (n:Int))) n 0)) bq4 rfl rfl (CoP.sl rfl (.inr rfl) (fun h=>h) (fun i j hi _=>absurd hi (bm6 i))) (.inr rfl) rfl rfl ?_;refine c7 (ka 0 (ka 4 (ka 8 (ka 45 kn)))) (kb 0 km) (fun k=>⟨[(46,some (vI k)),(44,some (.v (.one (.ref 4 (ah (n:Int)::jf (n:Int) (en l (n:Int))).length))))],[(4,some (.arr true 1 35 (ah (n:Int)::jf (n:Int) (en l (n:Int))).length (lf sC (ah (n:Int)::jf (n:Int) (en l (n:Int)))))),(1,some (.box [.p (.raw (.string ⟨#[116]⟩)), .p (aan (y9 n)), .ref 101 (vr (ah (n:Int)::jf (n:Int) (en l (n:Int))) n k).length])),(101,some (.arr true 2 106 (vr (ah (n:Int)::jf (n:Int) (en l (n:Int))) n k).length (lf Row.c (vr (ah (n:Int)::jf (n:Int) (en l (n:Int))) n k))))]⟩) ((ah (n:Int)::jf (n:Int) (en l (n:Int))).length) ⟨⟨zy,⟨_,rfl,(CoR.of_eq (by rw[Nat.add_comm];rfl))⟩,trivial⟩,⟨⟨_,rfl,(axt (CoP.refl _))⟩,uu⟩⟩ ?_;rintro k hk;have hl2:=asj (l:=(ah (n:Int)::jf (n:Int) (en l (n:Int)))) (n:=n) (k:=k);refine w_5 ?_;refine hcd ?_ ?_<;>intro h1
 ·
  have hkl:k<(ah (n:Int)::jf (n:Int) (en l (n:Int))).length:=by omega
  refine tg ?_;refine m9 6 ?_;refine w_9 ?_;refine ik 6 1 102 true 3 141 (lf Val.c (vq ((ah (n:Int)::jf (n:Int) (en l (n:Int))).getD k default) k 0)) bq4 rfl rfl (CoP.sl rfl (.inr rfl) (fun h=>h) (fun i j hi _=>absurd hi (bm6 i))) (.inr rfl) rfl rfl ?_;refine c7 (ka 0 (ka 4 (ka 8 (ka 10 (ka 11 (ka 12 (ka 44 (ka 45 (ka 46 (ka 54 kn)))))))))) (kb 4 (kb 1 (kb 101 (kb 0 km)))) (fun j=>⟨[(55,some (vI j))],[(6,some (.box [.p (.raw (.int .i64 ((k:Int)+1))), .ref 102 (vq ((ah (n:Int)::jf (n:Int) (en l (n:Int))).getD k default) k j).length])),(102,some (.arr true 3 141 (vq ((ah (n:Int)::jf (n:Int) (en l (n:Int))).getD k default) k j).length (lf Val.c (vq ((ah (n:Int)::jf (n:Int) (en l (n:Int))).getD k default) k j))))]⟩) n kk ?_;rintro j hj;have hl3:=asn (s:=((ah (n:Int)::jf (n:Int) (en l (n:Int))).getD k default)) (k:=k) (n:=j);refine w_5 ?_;refine hcd ?_ ?_<;>intro h2
  ·
   have hjn:j<n:=by omega
   refine jb ?_;refine m9 7 ?_;refine jb ?_;refine hcd ?_ ?_<;>intro h3
   ·
    refine w_9 ?_;refine m9 8 ?_;refine rz9 9 true ?_;refine w_7 ?_
    first | (refine lpz (j+1) ⟨tt, ⟨⟨_, rfl, ⟨CoP.refl _, congrArg (HV.ref 102) (by rw[lm, bm2]; rfl), trivial⟩⟩, ⟨_, rfl, (dh lm (CoP.refl _) (CoP.of_eq (ass bpw bpx)) (CoP.refl _))⟩, uu⟩⟩ ?_; show j+1<=_; omega)
          |(refine lpz (j+1) ⟨tt,⟨⟨_,rfl,⟨CoP.refl _,congrArg (HV.ref 102) (by rw[lm,bm2];rfl),trivial⟩⟩,⟨_,rfl,(dh lm (CoP.refl _) (CoP.of_eq (ath bpw bpx)) (CoP.refl _))⟩,uu⟩⟩ ?_;show j+1<=_;omega)
   refine w_5 ?_;refine m9 10 ?_;refine rz9 11 true ?_;refine w_7 ?_
   first | (refine lpz (j+1) ⟨tt, ⟨⟨_, rfl, ⟨CoP.refl _, congrArg (HV.ref 102) (by rw[lm, bm2]; rfl), trivial⟩⟩, ⟨_, rfl, (dh lm (CoP.refl _) (CoP.of_eq (ass bpw bpx)) (CoP.refl _))⟩, uu⟩⟩ ?_; show j+1<=_; omega)
         |(refine lpz (j+1) ⟨tt,⟨⟨_,rfl,⟨CoP.refl _,congrArg (HV.ref 102) (by rw[lm,bm2];rfl),trivial⟩⟩,⟨_,rfl,(dh lm (CoP.refl _) (CoP.of_eq (ath bpw bpx)) (CoP.refl _))⟩,uu⟩⟩ ?_;show j+1<=_;omega)
  obtain rfl:n=j:=by omega
  refine dz ?_;refine j2 6 1 rfl rfl rfl rfl rfl ?_;refine w_4 ?_;refine m9 12 ?_;refine rz9 13 true ?_;refine w_7 ?_;exact lpx (k+1) ⟨tt,⟨u9,⟨_,rfl,⟨CoP.refl _,CoP.refl _,congrArg (HV.ref 101) (by rw[ab3,bm2];rfl),trivial⟩⟩,⟨_,rfl,(p8 ab3 (CoP.refl _) (CoP.refl _))⟩,uu⟩⟩
 obtain rfl:k=(ah (n:Int)::jf (n:Int) (en l (n:Int))).length:=by omega
 refine w_2 ?_;refine j2 1 2 rfl rfl rfl rfl rfl ?_;refine v_5 ?_;exact⟨CoC.agg ⟨CoP.refl _,CoP.refl _,CoP.refl _,trivial⟩,CoC.refl _,trivial⟩
end
section
open Go.Proofs
def b4l:a6 bqh 198:=wgx Tryz.func198
def b83(n k:Nat)(hn:n<=16)(hk:k<=n):a7 bqh 198 [pI (n:Int),pI (k:Int)] (af [pP (asl (ji n k)),pI 0]):=by
 refine hpx (nt:=38) Tryz.func198 ?_;have hp:=aat hn;have hs:=b1b hn;refine jb ?_;refine am rfl rfl ?_ ?_<;>intro r0
 ·
  have h0:=tz1 r0;(iterate 2 refine k9 (gtf r0) ?_);refine w_2 ?_;(iterate 2 refine k9 rfl ?_);refine w_2 ?_;(iterate 3 refine k9 rfl ?_);refine w_8 ?_;refine hrr ?_
  omega
 have h0:=tz2 r0;(iterate 2 refine qy ?_ (hg:=(gff r0)));refine w_2 ?_;refine am rfl rfl ?_ ?_<;>intro r1
 ·
  have h1:=tz1 (ca r0 r1);(iterate 2 refine k9 (gtf r1) ?_);refine w_2 ?_;(iterate 3 refine k9 rfl ?_);refine w_8 ?_;refine hrr ?_
  omega
 have h1:=tz2 (ca r0 r1);(iterate 2 refine qy ?_ (hg:=(gff r1)));refine w_2 ?_;refine am rfl rfl ?_ ?_<;>intro r2
 ·
  have h2:=tz1 (ca r1 r2);(iterate 3 refine k9 (gtf r2) ?_);refine w_8 ?_;refine hrr ?_
  omega
 have h2:=tz2 (ca r1 r2);(iterate 3 refine qy ?_ (hg:=(gff r2)));refine w_2 ?_;refine aw _ rfl ?_ ?_<;>intro r3
 · have h3:=tz1 (ca r2 r3);exfalso;simp_all;omega
 have h3:=tz2 (ca r2 r3);refine jb ?_;refine cr 6 900 true 1 35 (lf sC []) bq4 rfl (CoP.sl rfl (.inr rfl) (fun h=>h) (fun i j hi _=>absurd hi (bm6 i))) (.inr rfl) rfl ?_;refine c7 (ka 0 (ka 1 kn)) km (fun i=>⟨[(6,some (.v (.one (.ref 900 (vb (n:Int) k i).length)))),(7,some (.v (.one (.p (.raw (.int .u32 (i:Int)))))))],[(900,some (.arr true 1 35 (vb (n:Int) k i).length (lf sC (vb (n:Int) k i))))]⟩) (2^n) kk ?_;rintro i hi;have hll:=alb (n:=(n:Int)) (k:=k) (i:=i);refine w_8 ?_;refine hcd ?_ ?_<;>intro h4
 ·
  have hi2:i<2^n:=by omega
  refine w_6 ?_;refine rc rfl rfl rfl rfl rfl rfl a0w (acj (nA i)) (⟨cci (a15 bpw).symm,trivial⟩) rfl rfl ?_;refine w_3 ?_;refine hcd ?_ ?_<;>intro h5
  ·
   refine w_3 ?_;refine m9 0 ?_;refine rz9 1 true ?_;refine w_7 ?_
   first | (refine lpz (i+1) ⟨⟨⟨_, rfl, (bj (aau bpx))⟩, tt⟩, ⟨⟨_, rfl, (bm (aau bpx) (CoP.of_eq (congrArg (fun x => PV.raw (.int .u32 x)) (a15 bpw).symm)))⟩, trivial⟩⟩ ?_; show i+1<=_; omega)
         |(refine lpz (i+1) ⟨⟨⟨_,rfl,(bo (abq bpx))⟩,tt⟩,⟨⟨_,rfl,(bf (abq bpx))⟩,trivial⟩⟩ ?_;show i+1<=_;omega)
  refine w_6 ?_
  first | (refine lpz (i+1) ⟨⟨⟨_, rfl, (bj (aau bpx))⟩, tt⟩, ⟨⟨_, rfl, (bm (aau bpx) (CoP.of_eq (congrArg (fun x => PV.raw (.int .u32 x)) (a15 bpw).symm)))⟩, trivial⟩⟩ ?_; show i+1<=_; omega)
        |(refine lpz (i+1) ⟨⟨⟨_,rfl,(bo (abq bpx))⟩,tt⟩,⟨⟨_,rfl,(bf (abq bpx))⟩,trivial⟩⟩ ?_;show i+1<=_;omega)
 obtain rfl:i=2^n:=by omega
 refine w_2 ?_;refine be 6 rfl rfl rfl ?_;refine v_5 ?_;exact⟨CoC.one (CoP.refl _),CoC.refl _,trivial⟩
def b6d:a6 bqh 134:=wgx Tryz.func134
def beb (t:Tbl) (hT:TOk t) (h10:t.attrs.length<=10) (h200:t.rows.length<=200):a7 bqh 134 [t.pc] (af [pI 0]):=by
 refine hpx (nt:=19) Tryz.func134 ?_;have hna:=hT.na;have hnr:=hT.nr;refine sx7 ?_;refine m9 0 ?_;refine w_6 ?_;refine qcx a16 (a1l hT) ?_;refine sb ?_;refine am rfl rfl ?_ ?_<;>intro r0
 ·
  have h0:=tz1 r0;(iterate 4 refine k9 (gtf r0) ?_);refine w_7 ?_;refine hrr ?_
  omega
 have h0:=tz2 r0;(iterate 4 refine qy ?_ (hg:=(gff r0)));refine w_2 ?_;refine aw _ rfl ?_ ?_<;>intro r1
 · have h1:=tz1 (ca r0 r1);refine w_4 ?_;refine hrr ?_;omega
 have h1:=tz2 (ca r0 r1);refine v_5 ?_;exact CoL.refl _
def b6t:a6 bqh 200:=wgx Tryz.func200
def bhi (q:List Int) (n:Nat) (s:AS) (a:Nat) (hn:n<=16) (hr:q.length=2^n) (hs:s.toNat<2^n) (ha:a<n):a7 bqh 200 [b0b q n,pA s,pI (a:Int)] (af [pB (aqi q s a)]):=by
 refine hpx (nt:=21) Tryz.func200 ?_;have ho:=b8q hs ha bpw;have e:cu .or .u32 (asI s) (IntKind.wrap .u32 (1*2^(min ((a:Int)).toNat IntKind.u32.bits)))=asI (s|||((1:AS)<<<a)):=by rw[show IntKind.wrap .u32 (1*2^(min ((a:Int)).toNat IntKind.u32.bits))=asI ((1:AS)<<<a) from a30 1 a,bOr]
 refine sx7 ?_;refine m9 0 ?_;refine w_7 ?_;refine rq rfl rfl rfl rfl rfl ?_ (hp:=⟨rfl,qo s,by rw[hr];exact bos.2 hs⟩);refine w_7 ?_;refine rq rfl rfl rfl rfl rfl ?_ (hp:=⟨rfl,by rw[e];exact qo _,by rw[e,hr];exact bos.2 ho⟩);refine v_5 ?_;exact⟨ccb (by rw[e];rfl),trivial⟩
def b2u:a6 bqh 199:=wgx Tryz.func199
def bhu (y z:AS):a7 bqh 199 [pA y,pP (bx (asC z))] (af [pB (decide (sub y z))]):=by
 refine hpx (nt:=8) Tryz.func199 ?_;refine l6 ?_;exact hx8 rfl rfl rfl (⟨ccb (decide_eq_decide.2 gv),trivial⟩)
def beh(l:List AS)(z:AS):a7 bqh 137 [pP (asl l),pP (.fn 199 1 (fun j=>[bx (asC z)].getD j .any))] (af [pB (l.any fun y=>decide (sub y z))]):=ahc l 199 1 _ _ b2u fun y=>bhu y z
def b5e:a6 bqh 136:=wgx Tryz.func136
def bqd{p:Prop}(h:p:=by first|exact zk bpw bpx|exact a00 bpx|exact zn bpx):p:=h
def bdi(q:List Int)(n a:Nat)(hn:n<=16)(hr:q.length=2^n)(ha:a<n):a7 bqh 136 [b0b q n,pI (a:Int),pI 16] (af [pP (asl (mnL q n a))]):=by
 refine hpx (nt:=54) Tryz.func136 ?_;refine sx7 ?_;refine m9 0 ?_;refine l6 ?_;refine cr 7 900 true 1 35 (lf sC []) bq4 rfl (CoP.sl rfl (.inr rfl) (fun h=>h) (fun i j hi _=>absurd hi (bm6 i))) (.inr rfl) rfl ?_;refine c7 (ka 1 (ka 2 (ka 3 kn))) (kb 0 km) (fun k=>⟨[(7,some (.v (.one (.ref 900 (mnT q n a k).length)))),(8,some (vI k))],[(900,some (.arr true 1 35 (mnT q n a k).length (lf sC (mnT q n a k))))]⟩) (n+1) kk ?_;rintro k hk;have htl:=aol (rk:=q) (a:=a) hn (k:=k);refine eu ?_;refine hcd ?_ ?_<;>intro h0
 ·
  have hkn:k<=n:=by omega
  have hll:=am7 (k:=k) hn;refine w_8 ?_;refine qcx b4l (b83 n k hn bpw) ?_;refine l5 ?_;refine c7 (ka 1 (ka 2 (ka 3 (ka 8 (ka 28 (ka 29 kn)))))) (kb 0 km) (fun j=>⟨[(7,some (.v (.one (.ref 900 (mnK q n a (mnT q n a k) k j).length)))),(30,some (vI j))],[(900,some (.arr true 1 35 (mnK q n a (mnT q n a k) k j).length (lf sC (mnK q n a (mnT q n a k) k j))))]⟩) ((ji n k).length) kk ?_;rintro j hj;have hkl:=aey (rk:=q) (n:=n) (a:=a) (k:=k) (out:=mnT q n a k) hj;refine w_5 ?_;refine hcd ?_ ?_<;>intro h1
  ·
   have hjl:j<(ji n k).length:=by omega
   have hsl:=b40 hn hjl;refine w_7 ?_;refine m9 1 ?_;refine w_2 ?_;refine c8 12 rfl rfl rfl ?_;refine w_9 ?_;refine am rfl rfl ?_ ?_<;>intro r2
   ·
    have h2:=tz1 r2;(iterate 3 refine k9 (gtf r2) ?_);refine w_8 ?_
    first | (refine lpz (j+1) ⟨⟨⟨_, rfl, (bj (zu hjl (a4g bpw bpx bpx bpx)))⟩, tt⟩, ⟨⟨_, rfl, (bm (zu hjl (a4g bpw bpx bpx bpx)) (CoP.refl _))⟩, uu⟩⟩ ?_; show j+1<=_; omega)
          |(refine lpz (j+1) ⟨⟨⟨_,rfl,(bo (a04 hjl bqd))⟩,tt⟩,⟨⟨_,rfl,(bf (a04 hjl bqd))⟩,uu⟩⟩ ?_;show j+1<=_;omega)
   have h2:=tz2 r2;(iterate 2 refine qy ?_ (hg:=(gff r2)));refine qcx a7b (beh (mnK q n a (mnT q n a k) k j) ((ji n k).getD j default)) ?_ (hg:=(gff r2));refine w_2 ?_;refine aw _ rfl ?_ ?_<;>intro r3
   ·
    have h3:=ca r2 r3;refine w_5 ?_
    first | (refine lpz (j+1) ⟨⟨⟨_, rfl, (bj (zu hjl (a4g bpw bpx bpx bpx)))⟩, tt⟩, ⟨⟨_, rfl, (bm (zu hjl (a4g bpw bpx bpx bpx)) (CoP.refl _))⟩, uu⟩⟩ ?_; show j+1<=_; omega)
          |(refine lpz (j+1) ⟨⟨⟨_,rfl,(bo (a04 hjl bqd))⟩,tt⟩,⟨⟨_,rfl,(bf (a04 hjl bqd))⟩,uu⟩⟩ ?_;show j+1<=_;omega)
   have h3:=ca r2 r3;refine w_6 ?_;refine qcx b6t (bhi q n ((ji n k).getD j default) a hn hr hsl ha) ?_;refine d5 ?_;refine hcb ?_ ?_<;>intro h4
   ·
    refine w_3 ?_;refine m9 2 ?_;refine rz9 3 true ?_;refine w_6 ?_
    first | (refine lpz (j+1) ⟨⟨⟨_, rfl, (bj (zu hjl (a4g bpw bpx bpx bpx)))⟩, tt⟩, ⟨⟨_, rfl, (bm (zu hjl (a4g bpw bpx bpx bpx)) (CoP.refl _))⟩, uu⟩⟩ ?_; show j+1<=_; omega)
          |(refine lpz (j+1) ⟨⟨⟨_,rfl,(bo (a04 hjl bqd))⟩,tt⟩,⟨⟨_,rfl,(bf (a04 hjl bqd))⟩,uu⟩⟩ ?_;show j+1<=_;omega)
   refine w_5 ?_
   first | (refine lpz (j+1) ⟨⟨⟨_, rfl, (bj (zu hjl (a4g bpw bpx bpx bpx)))⟩, tt⟩, ⟨⟨_, rfl, (bm (zu hjl (a4g bpw bpx bpx bpx)) (CoP.refl _))⟩, uu⟩⟩ ?_; show j+1<=_; omega)
         |(refine lpz (j+1) ⟨⟨⟨_,rfl,(bo (a04 hjl bqd))⟩,tt⟩,⟨⟨_,rfl,(bf (a04 hjl bqd))⟩,uu⟩⟩ ?_;show j+1<=_;omega)
  obtain rfl:j=(ji n k).length:=by omega
  refine w_6 ?_;exact lpx (k+1) ⟨⟨⟨_,rfl,(CoR.of_eq (by rw[aa6]))⟩,tt⟩,⟨⟨_,rfl,(CoO.of_eq (by rw[aa6]))⟩,uu⟩⟩
 obtain rfl:k=n+1:=by omega
 refine w_2 ?_;refine be 7 rfl rfl rfl ?_;refine v_4 ?_;exact⟨CoC.one (CoP.refl _),trivial⟩
end
section
def jl(t:Tbl)(k:Nat):Prt:=b7q t (a2r t k) k
section
variable {t:Tbl}
def a7q:∀{m k:Nat},k<m->(a2r t m).getD k default=jl t k
 | m+1,k,h=>by
  rw[a2r];by_cases e:k<m
  · rw[al _ _ (by rw[bm2,mf];omega),List.getElem_append_left (by rw[mf];exact e),<- al (a2r t m) k (by rw[mf];exact e),a7q e]
  obtain rfl:k=m:=by omega
  rw[al _ _ (by rw[bm2,mf];simp),List.getElem_append_right (by rw[mf];omega)];simp[mf,jl]
def iz(t:Tbl)(m i:Nat):List Prt:=(List.range m).map fun k=>if k<i then jl t k else⟨0,[]⟩
variable {i m:Nat}
def a3f:(iz t m i).length=m:=by simp[iz]
def ae7 {k:Nat} (hk:k<m) (hi:k<i):(iz t m i).getD k default=jl t k:=by
 rw[al _ _ (by rw[a3f];exact hk)];simp[iz,hi]
def av7 (hi:i<m):iz t m (i+1)=(iz t m i).set i (jl t i):=by
 refine bnz (by simp[iz]) fun k h1 h2=>?_;rw[boe];simp only[iz,bo7,bny];by_cases e:i=k
 · subst e;rw[if_pos bpw,if_pos rfl]
 rw[if_neg e];by_cases h:k<i
 · rw[if_pos bpw,if_pos h]
 rw[if_neg bpw,if_neg h]
def yp(t:Tbl)(m i:Nat):List Int:=(List.range m).map fun k=>if k<i then asi (jl t k)else 0
def a3s:(yp t m i).length=m:=by simp[yp]
def avt (hi:i<m):yp t m (i+1)=(yp t m i).set i (asi (jl t i)):=by
 refine bnz (by simp[yp]) fun k h1 h2=>?_;rw[boe];simp only[yp,bo7,bny];by_cases e:i=k
 · subst e;rw[if_pos bpw,if_pos rfl]
 rw[if_neg e];by_cases h:k<i
 · rw[if_pos bpw,if_pos h]
 rw[if_neg bpw,if_neg h]
def ai8:yp t (2^t.attrs.length) (2^t.attrs.length)=aj t:=by
 unfold aj ar3 yp;refine bnz (by simp[mf]) fun k h1 h2=>?_;have hk:k<2^t.attrs.length:=by simpa using h1
 simp only[bo7,bny,if_pos hk];rw[<- a7q hk,al _ _ (by rw[mf];exact hk)]
def bg2 (hi:i<m):lf zC (yp t m 0) i 0=.raw (.int .i64 0):=by
 unfold lf;rw[al _ _ (by rw[a3s];exact hi)];simp[yp,zC]
def ats (hi:i<m):(iz t m 0).getD i default=⟨0,[]⟩:=by
 rw[al _ _ (by rw[a3f];exact hi)];simp[iz]
def ber (hi:i<m):lf Prt.c (iz t m 0) i 0=.raw (.int .i64 0):=by
 unfold lf;rw[ats hi];rfl
def bdb (hi:i<m):lf Prt.c (iz t m 0) i 1=ill []:=by
 unfold lf;rw[ats hi];rfl
def bbs (h:i<4294967296):IntKind.wrap .u32 ((i:Int)-1)=asI (nA i-1):=by
 show _=(((nA i-1).toNat:Nat):Int);rw[BitVec.toNat_sub,a5g h];unfold IntKind.wrap
 cases i with
 |zero=>decide
 | succ i =>
  show(((i+1:Nat):Int)-1)%4294967296=_;rw[show(1:AS).toNat=1 from rfl];omega
def bao (h:i<4294967296):cu .and .u32 (i:Int) (IntKind.wrap .u32 ((i:Int)-1))=asI (ek i):=by
 rw[bbs h,show(i:Int)=asI (nA i) from (a15 h).symm,yu];rfl
def aoy{s t:AS}(hi:i<32):(s&&&~~~t).getLsbD i=(s.getLsbD i&&!t.getLsbD i):=by simp[hi]
def anh (h:i<4294967296) (h0:ek i≠0):(ek i).toNat<i:=by
 have hne:nA i≠0:=fun e=>h0 (by unfold ek;rw[e];rfl);have:=aj9 hne;rw[a5g h]at this;exact this
def apa(h:i<4294967296)(h0:ek i≠0):(nA i&&&~~~(ek i)).toNat<i:=by
 have h1:sub (nA i&&&~~~(ek i)) (nA i):=fq.2 fun z hz hb=>by
  rw[aoy hz,bm8]at hb;exact hb.1
 have:=a19 h1 fun e=>h0 (by
  apply bnj;intro z hz;have e2:=congrArg (fun x:AS=>x.getLsbD z) e;simp only[aoy hz]at e2
  have h3:(ek i).getLsbD z=true->(nA i).getLsbD z=true:=fun hb=>by
   unfold ek at hb;rw[bmy,bm8]at hb;exact hb.1
  rw[show(0:AS).getLsbD z=false by simp,bmh];intro hb;rw[h3 hb,hb]at e2
  cases e2)
 rw[a5g h]at this;exact this
def b7x (h:i<4294967296) {s:AS}:cu .andNot .u32 (i:Int) (asI s)=asI (nA i&&&~~~s):=by
 rw[show(i:Int)=asI (nA i) from (a15 h).symm,adx]
def avs(h:ek i=0):jl t i=a6w t (nA i):=if_pos h
def bbw (hi:i<4294967296) (h:ek i≠0):jl t i=awx (jl t (ek i).toNat) (jl t (nA i&&&~~~(ek i)).toNat):=by
 have h1:=anh hi h;have h2:=apa hi h;rw[<- a7q h1,<- a7q h2];exact if_neg h
def ac1 {k:Nat} {p:Prt} {x y:PV} (hi:i<m) (hk:k=i) (hp:jl t i=p) (hx:x=p.c 0) (hy:y=p.c 1):
 CoO (.arr true 2 51 m (kg (lf Prt.c (iz t m i)) k 0 [x,y])) (.arr true 2 51 m (lf Prt.c (iz t m (i+1)))):=by
 subst hp;rw[av7 hi];exact al1 (fun h=>h) a3f.symm hk (by rw[a3f];exact hi) hx hy
end
end
section
open Go.Proofs
def b47:a6 bqh 135:=wgx Tryz.func135
def b8m(t:Tbl)(hT:TOk t)(hg:∀k,k<(2^t.attrs.length)->jk (jl t k)=true/\(jl t k).rows=t.rows.length):a7 bqh 135 [t.pc] (af [b0b (aj t) t.attrs.length]):=by
 refine hpx (nt:=68) Tryz.func135 ?_;have hna:=hT.na;have hp:=aat hna;have hs:=b1b hna;have h64:IntKind.wrap .i64 (1*2^(min ((t.attrs.length:Int)).toNat IntKind.i64.bits))=(((2^t.attrs.length):Nat):Int):=bd1 (n:=(t.attrs.length:Int)) bpw bpw;have h65:(IntKind.wrap .i64 (1*2^(min ((t.attrs.length:Int)).toNat IntKind.i64.bits))).toNat=(2^t.attrs.length):=by rw[h64];rfl
 refine sx7 ?_;refine m9 0 ?_;refine m9 1 ?_;refine l5 ?_;refine rm 2 rfl rfl rfl rfl rfl rfl ?_ (hp:=(by dsimp only;rw[h64];(repeat' apply And.intro)<;>first|trivial|omega));refine qy ?_;refine m9 3 ?_;refine w_6 ?_;refine rm 4 rfl rfl rfl rfl rfl rfl ?_ (hp:=(by dsimp only;rw[h64];(repeat' apply And.intro)<;>first|trivial|omega));refine eu ?_;refine c7 (ka 1 (ka 2 (ka 4 (ka 20 kn)))) (kb 0 (kb 1 km)) (fun i=>⟨[(5,some (.v (.one (.ref 4 (2^t.attrs.length))))),(21,some (.v (.one (.p (.raw (.int .u32 (i:Int)))))))],[(2,some (.arr true 1 3 (2^t.attrs.length) (lf zC (yp t (2^t.attrs.length) i)))),(3,some (.box [.p (.raw (.int .i64 (t.attrs.length:Int))), .ref 2 (2^t.attrs.length)])),(4,some (.arr true 2 51 (2^t.attrs.length) (lf Prt.c (iz t (2^t.attrs.length) i))))]⟩) (2^t.attrs.length) ⟨⟨⟨_,rfl,(CoR.of_eq (by dsimp only;rw[h65]))⟩,tt⟩,⟨⟨_,rfl,(a56 (by rw[h65]) fun i hi=>CoP.of_eq (by rw[bg2 (by rw[<- h65];exact hi)];rfl))⟩,⟨_,rfl,⟨CoH.refl _,congrArg (HV.ref 2) h65,trivial⟩⟩,⟨_,rfl,(aot (by rw[h65]) fun i hi=>⟨CoP.of_eq (by rw[ber (by rw[<- h65];exact hi)];rfl),by rw[bdb (by rw[<- h65];exact hi)];exact ait⟩)⟩,trivial⟩⟩ ?_;rintro i hi;refine w_5 ?_;refine hcd ?_ ?_<;>intro h0
 ·
  have him:i<(2^t.attrs.length):=by omega
  have hrv:=bao (i:=i) bpw;have hdv:=b7x (i:=i) (s:=(ek i)) bpw;have hzi:(iz t (2^t.attrs.length) (i+1)).getD ((i:Int)).toNat default=jl t i:=ae7 him bpw;refine l6 ?_;refine rqw rfl rfl rfl rfl rfl ?_;refine w_3 ?_;refine yy (ka 1 (ka 2 (ka 4 (ka 5 (ka 6 (ka 20 (ka 21 kn))))))) (kb 2 (kb 3 (kb 0 (kb 1 km)))) ⟨[],[(4,some (.arr true 2 51 (2^t.attrs.length) (lf Prt.c (iz t (2^t.attrs.length) (i+1)))))]⟩ ?_ ?_
  ·
   refine w_7 ?_;refine hcd ?_ ?_<;>intro h1
   · have hz0:ek i=0:=d7.1 (hrv.symm.trans h1);refine w_5 ?_;refine rc rfl rfl rfl rfl rfl rfl bcu (bcy t (nA i) hT (ang (by rw[a5g bpw];exact him))) (⟨CoC.refl _,cci (a15 bpw).symm,trivial⟩) rfl rfl ?_;refine w_6 ?_;exact⟨tt,⟨⟨_,rfl,(by first|exact ac1 him (by simp only[bmc]) (avs hz0) rfl rfl|exact ac1 him (by simp only[bmc]) hpr rfl rfl)⟩,uu⟩⟩
   have hne:ek i≠0:=fun e=>h1 (by rw[hrv,e];rfl);have hrl:=anh (i:=i) bpw hne;have hdl:=apa (i:=i) bpw hne;have hz1:(iz t (2^t.attrs.length) i).getD (asI (ek i)).toNat default=jl t (ek i).toNat:=ae7 (k:=(ek i).toNat) bpw bpw;have hz2:(iz t (2^t.attrs.length) i).getD (asI ((nA i&&&~~~(ek i)))).toNat default=jl t ((nA i&&&~~~(ek i))).toNat:=ae7 (k:=((nA i&&&~~~(ek i))).toNat) bpw bpw;have hpr:=bbw (t:=t) (i:=i) bpw hne;rw[<- hz1,<- hz2]at hpr;have hx1:jk ((iz t (2^t.attrs.length) i).getD (asI (ek i)).toNat default)=true:=by rw[hz1];exact(hg _ bpw).1
   have hx2:jk ((iz t (2^t.attrs.length) i).getD (asI ((nA i&&&~~~(ek i)))).toNat default)=true:=by rw[hz2];exact(hg _ bpw).1
   have hx3:((iz t (2^t.attrs.length) i).getD (asI (ek i)).toNat default).rows=((iz t (2^t.attrs.length) i).getD (asI ((nA i&&&~~~(ek i)))).toNat default).rows:=by rw[hz1,hz2,(hg _ bpw).2,(hg _ bpw).2]
   refine w_5 ?_;(iterate 2 refine rq rfl rfl rfl rfl rfl ?_ (hp:=(by dsimp only;rw[hrv];(repeat' apply And.intro)<;>first|trivial|rfl|exact qo _|exact Nat.lt_trans hrl him|exact bos.2 (Nat.lt_trans hrl him)|omega)));refine w_4 ?_;(iterate 2 refine rq rfl rfl rfl rfl rfl ?_ (hp:=(by dsimp only;rw[hrv,hdv];(repeat' apply And.intro)<;>first|trivial|rfl|exact qo _|exact Nat.lt_trans hdl him|exact bos.2 (Nat.lt_trans hdl him)|omega)));refine rc rfl rfl rfl rfl rfl rfl b2x (b87 ((iz t (2^t.attrs.length) i).getD (asI (ek i)).toNat default) ((iz t (2^t.attrs.length) i).getD (asI ((nA i&&&~~~(ek i)))).toNat default) hx1 hx2 hx3) (⟨CoC.of_eq (by rw[hrv];rfl),CoC.of_eq (by rw[hrv,hdv];rfl),trivial⟩) rfl rfl ?_;refine w_7 ?_;exact⟨tt,⟨⟨_,rfl,(by first|exact ac1 him (by simp only[bmc]) (avs hz0) rfl rfl|exact ac1 him (by simp only[bmc]) hpr rfl rfl)⟩,uu⟩⟩
  refine w_8 ?_;refine rc rfl rfl rfl rfl rfl rfl b21 (b7b (jl t i) (hg i him).1) (⟨CoC.of_eq (by show PC.agg [Prt.c ((iz t (2^t.attrs.length) (i+1)).getD ((i:Int)).toNat default) 0,Prt.c ((iz t (2^t.attrs.length) (i+1)).getD ((i:Int)).toNat default) 1]=_;rw[hzi]),trivial⟩) rfl rfl ?_;refine w_8 ?_;exact lpx (i+1) ⟨tt,⟨⟨_,rfl,(by rw[avt him];exact xu (fun h=>h) a3s.symm (by simp only[bmc]) (by rw[a3s];exact him) rfl)⟩,uu⟩⟩
 obtain rfl:i=(2^t.attrs.length):=by omega
 refine w_2 ?_;refine j2 3 1 rfl rfl rfl rfl rfl ?_;refine v_4 ?_;exact⟨CoC.agg ⟨CoP.refl _,(by rw[ai8];exact CoP.sl (by rw[<- ai8,a3s]) (.inl rfl) (fun h=>h) (fun _ _ _ _=>CoP.refl _)),trivial⟩,trivial⟩
end
section
open Go.RowKit
section
variable {P:Program}{nt:Nat}{ops:Array Oper}{st:HSt}{L:List Nat}{Q:HSt->Prop}{k d:Nat}{o:Oper}{t:TypeId}
theorem afe {x:Operand} {v0 v1:Value} {te:TypeId} {ie:TI} (j:Nat) (hi:ops[k]? = some o) (ht:P.underlying t=some (.array 2 te)) (hte:tx P te=some ie) (hag:ie.k.isAgg=false) (hsz:ie.size=1) (hj:j<2)
 (h:RN P nt ops L ⟨(d,some (.v (.one (.p (.raw (if j=0 then v0 else v1))))))::st.t,st.o⟩ Q)
 (hg:o.guard=none:=by exact rfl) (ho:o.op=.index t x (.const (.int .i64 (j:Int))):=by exact rfl) (hd:o.dst=some d:=by exact rfl) (hdn:cj nt (some d)=true:=by exact rfl)
 (hx:ev st.den x=some (.v (.agg [.p (.raw v0), .p (.raw v1)])):=by exact rfl):RN P nt ops (k::L) st Q :=
 acq hi hg hd hdn (fun c hc=>by rw[hc]at ho;cases ho) fun w0 a w c hrr=>by
  obtain⟨us,e1,hl⟩:=ae hrr hx
  match us,hl with
  | [u0,u1],⟨⟨q0,o0⟩,⟨q1,o1⟩,_⟩ =>
   subst q0 q1;obtain⟨r,hp⟩:=vj hte [u0,u1] j w;have ez:a.eval (.const (.int .i64 (j:Int)))=.int .i64 (j:Int):=rfl
   have hrun:(Instr.index t (.agg #[u0,u1]) (.int .i64 (j:Int))).run P w=.ok (if j=0 then u0 else u1) w:=by
    have hin:(0:Int)<=(j:Int)/\(j:Int)<((2:Nat):Int):=⟨by omega,by omega⟩;unfold Instr.index;simp only[asIntOf,bmz,bnh,bmf,run_underlying ht,if_pos hin,dm hte,hsz,bp2,bmc]
    grind
   exact⟨if j=0 then u0 else u1,w,st.o, .v (.one (.p (.raw (if j=0 then u0 else u1)))),c,rfl,by simp[execOp,ho,e1,ez,hrun],hrr,(show ey c (HSt.den ⟨st.t,st.o⟩).o (.one (.p (.raw (if j=0 then u0 else u1)))) (if j=0 then u0 else u1) from ⟨rfl,by split<;>assumption⟩),h⟩
end
def mkS(s:AS):Value:=.int .u32 (asI s)
def aei{a b:AS}(h:mkS a=mkS b):a=b:=d7.1 (Value.int.inj h).2
structure WIn (P:Program) (es:Array MapEntry) (clock:Nat) (l:List AS):Prop where
 mx:lb P 35 es clock
 to:∀e∈es.toList,∃s∈l,e.key=mkS s
 at_:∀s∈l,∃e∈es.toList,e.key=mkS s
 vl:∀e∈es.toList,∃a b:Int,e.val=.agg #[.int .i64 a, .int .i64 b]
 sz:es.size<=l.length
section
variable {P:Program}{clock:Nat}
theorem WIn.nil:WIn P #[] clock []:=⟨lb.nil,fun e he=>by simp at he,fun s hs=>by simp at hs,fun e he=>by simp at he,bm1 _⟩
variable {es:Array MapEntry}{l:List AS}{s:AS}
theorem WIn.put{es':Array MapEntry}{clock':Nat}{a b:Int}(h:WIn P es clock l)(hX:lb P 35 es' clock')(hP:ada es es' (mkS s) (.agg #[.int .i64 a, .int .i64 b])):WIn P es' clock' (l++[s]):=by
 refine⟨hX,fun e he=>?_,fun x hx=>?_,fun e he=>?_, ?_⟩
 · rcases hP.to e he with⟨h1,_⟩|⟨h1,_⟩
   · obtain ⟨x,hx,e2⟩:=h.to e h1
     grind
   grind
 · rcases bmg.1 hx with hx|hx
   · obtain ⟨e,he,hk⟩:=h.at_ x hx
     by_cases hq:e.key=mkS s
     · obtain ⟨y,y1,y2,_⟩:=hP.at_
       grind
     obtain⟨y,y1,y2,_⟩:=hP.old e he hq
     grind
   obtain rfl:x=s:=by simpa using hx
   obtain⟨y,y1,y2,_⟩:=hP.at_
   grind
 · rcases hP.to e he with⟨h1,_⟩|⟨_,h1⟩
   · exact h.vl e h1
   grind
 have:=hP.sz;have:=h.sz
 grind
theorem WIn.absent (h:WIn P es clock l) (hn:∀e∈es.toList,e.key≠mkS s):¬s∈l:=fun hs=>by
 obtain⟨e,he,hk⟩:=h.at_ s hs
 grind
theorem WIn.found (h:WIn P es clock l) {e:MapEntry} (he:e∈es.toList) (hk:e.key=mkS s):s∈l:=by
 obtain⟨x,hx,e2⟩:=h.to e he;rw[aei (hk.symm.trans e2)];exact hx
theorem a6q (h:¬s∈fu l):fu (l++[s])=fu l++[s]:=by
 rw[agd];unfold a5h
 grind
theorem a71 (h:s∈fu l):fu (l++[s])=fu l:=by
 rw[agd];unfold a5h
 grind
theorem ahv:∀{l:List AS},(fu l).length<=l.length:=by
 have key:∀(l o:List AS),(l.foldl a5h o).length<=o.length+l.length:=by
  intro l
  induction l with
  |nil=>intro o;exact bm1 _
  | cons x l ih =>
   intro o;have:=ih (a5h o x)
   have h2:(a5h o x).length<=o.length+1:=by
    unfold a5h
    grind
   grind
 intro l;have h:=key l [];rw[bor,bn9]at h;exact h
variable {i:Nat}
theorem alh {l:List Row} {k:Nat}:(jh l i k).length<=(i+1)*l.length:=by
 have h1:∀i,(((List.range i).map (a05 l)).flatten).length<=i*l.length:=by
  intro i
  induction i with
  |zero=>simp
  | succ i ih =>
   rw[bmk,bn7,bnw,bm2];have:=a6d l i
   grind
 unfold jh;rw[bm2];have:=h1 i
 have h2:((a05 l i).take (k-(i+1))).length<=l.length:=by
  rw[bmw,a6d];omega
 grind
def b32 {l:List Row} {k:Nat} (hi:i<l.length) (h:l.length<=1000):(fu (jh l i k)).length<=1000000:=by
 have h1:=ahv (l:=jh l i k);have h2:=alh (l:=l) (i:=i) (k:=k);have h3:(i+1)*l.length<=1000*1000:=bp1 bpw h;omega
def aub {l:List Row} (h:l.length<=1000):(fu (prs l)).length<=2000000:=by
 have h1:=ahv (l:=prs l);have h2:=alh (l:=l) (i:=l.length) (k:=l.length+1);rw[aig]at h2;have h3:(l.length+1)*l.length<=1001*1000:=bp1 bpw h;omega
def ge {l:List Row} {j q:Nat} (hk:i+1+j<l.length) (hq:q=i+1+j):jh l i (i+1+(j+1))=jh l i (i+1+j)++[agR (l.getD i default) (l.getD q default)]:=by
 subst hq;exact at1 (show i<i+1+j by omega) hk
def a2y{l:List Row}(hi:i<l.length):jh l i (i+1+(l.length-(i+1)))=jh l (i+1) (i+1+1):=asx bpw
variable {av:List AS}{n:Nat}
def a4m (hi:i<(ct (ah (n:Int))).length):pj n av (i+1)=acu av (pj n av i) ((ct (ah (n:Int))).getD i default):=by
 unfold pj;rw[ax hi,bmo];rfl
def a10 (hi:i<(ct (ah (n:Int))).length) (h1:(av.any fun y=>decide (sub ((ct (ah (n:Int))).getD i default) y))=false) (h2:((pj n av i).any fun y=>decide (sub y ((ct (ah (n:Int))).getD i default)))=false):
 pj n av (i+1)=pj n av i++[(ct (ah (n:Int))).getD i default]:=by
 rw[a4m hi];exact if_pos ⟨h1,h2⟩
def xh (hi:i<(ct (ah (n:Int))).length) (h1:(av.any fun y=>decide (sub ((ct (ah (n:Int))).getD i default) y))=true):pj n av (i+1)=pj n av i:=by
 rw[a4m hi];exact if_neg fun e=>by rw[show b96 av _=true from h1]at e;cases e.1
def xw (hi:i<(ct (ah (n:Int))).length) (h2:((pj n av i).any fun y=>decide (sub y ((ct (ah (n:Int))).getD i default)))=true):pj n av (i+1)=pj n av i:=by
 rw[a4m hi];exact if_neg fun e=>by rw[h2]at e;cases e.2
theorem axz:∀{i:Nat},(pj n av i).length<=i:=by
 intro i
 have key:∀(l o:List AS),(l.foldl (acu av) o).length<=o.length+l.length:=by
  intro l
  induction l with
  |nil=>intro o;exact bm1 _
  | cons x l ih =>
   intro o;have:=ih (acu av o x)
   have h2:(acu av o x).length<=o.length+1:=by
    unfold acu
    grind
   grind
 have h:=key ((ct (ah (n:Int))).take i) [];have h3:=bom i (ct (ah (n:Int)));rw[bor,bn9]at h;exact bme h h3
def afj:(o8 l).length<=l.length:=bme (bnm _ _) (xx l)
def wC (s:AS):Nat->PV
 |0=>asC s
 |_=>.any
end
section
variable {P:Program}{nt:Nat}{ops:Array Oper}{st:HSt}{L:List Nat}{Q:HSt->Prop}{k d:Nat}{o:Oper}{t kt et b mid:Nat}{es:Array MapEntry}{clock:Nat}
def am2 {x ix:Operand} {kv:Value} {kl:Lit} {kx:HR} {l:List AS} (hi:ops[k]? = some o) (ht:P.underlying t=some (.map 35 et)) (K:Go.Maps.Keyed P 35) (hz:∀w,(zeroValue et).run P w=.ok (.agg #[.int .i64 0, .int .i64 0]) w) (hW:WIn P es clock l)
 (hkey:keyOf P 35 kv=some kl) (hkv:kOf kx=some kv)
 (h:∀a0 b0:Int,RN P nt ops L ⟨(d,some (.v (.agg [.p (.raw (.int .i64 a0)), .p (.raw (.int .i64 b0))])))::st.t,st.o⟩ Q)
 (hg:o.guard=none:=by exact rfl) (ho:o.op=.lookup t x ix false:=by exact rfl) (hd:o.dst=some d:=by exact rfl) (hdn:cj nt (some d)=true:=by exact rfl)
 (hx:ev st.den x=some (.v (.one (.ref mid 0))):=by exact rfl) (hm:st.den.o mid=some (mpO b es clock):=by exact rfl) (hk:ev st.den ix=some kx:=by exact rfl):RN P nt ops (k::L) st Q :=
 a9k hi ht K hz rfl hW.mx hkey hkv (fun _=>h 0 0) (fun e he _=>by
  obtain⟨a0,b0,e2⟩:=hW.vl e he;rw[e2]
  exact h a0 b0) hg ho hd hdn hx hm hk
end
end
section
open Go.Proofs
def baz:a6 bqh 77:=wgx Tryz.func77
def b6o (t:Tbl) (hT:TOk t) (h12:t.attrs.length<=12) (h200:t.rows.length<=200):a7 bqh 77 [t.pc,pA 0,pB true] (af [pI 0]):=by
 refine hpx (nt:=34) Tryz.func77 ?_;have hna:=hT.na;have h0f:∀m:Int,(asI 0).fdiv m=0:=fun m=>Int.zero_fdiv m;refine sx7 ?_;refine m9 0 ?_;refine w_6 ?_;refine qcx a16 (a1l hT) ?_;refine bhv ?_;refine am rfl rfl ?_ ?_<;>intro r0
 ·
  have h0:=tz1 r0;(iterate 2 refine k9 (gtf r0) ?_);(iterate 2 refine k9 rfl ?_);refine k9 (gtf r0) ?_;refine w_8 ?_;refine hrr ?_
  omega
 have h0:=tz2 r0;(iterate 2 refine qy ?_ (hg:=(gff r0)));refine am rfl rfl ?_ ?_<;>intro r1
 ·
  have h1:=r1;(iterate 2 refine qy ?_ (hg:=(gtt r1)));refine qy ?_ (hg:=(gff r0));refine w_3 ?_;refine aw _ rfl ?_ ?_<;>intro r2
  · have h2:=tz1 (bp r1 (ca r0 r2));refine w_4 ?_;refine hrr ?_;omega
  have h2:=tz2 (bp r1 (ca r0 r2));refine w_8 ?_;refine hcn ?_ ?_<;>intro h3
  · refine w_4 ?_;refine hrr ?_;simp_all
  refine v_5 ?_;exact CoL.refl _
 have h1:=r1;(iterate 2 refine k9 (gft r1) ?_);refine rq rfl rfl rfl rfl (gff r0) ?_ (hp:=r1);refine w_3 ?_;refine aw _ rfl (fun e=>Bool.noConfusion ((a4q r0 rfl).symm.trans e)) (fun _=>?_);refine w_8 ?_
 refine hcn ?_ ?_<;>intro h4
 · refine w_4 ?_;refine hrr ?_;simp_all
 refine v_5 ?_;exact CoL.refl _
def b2j:a6 bqh 140:=wgx Tryz.func140
def b2p(a b:Row)(ha:a.vals.length<=16)(hb:b.vals.length=a.vals.length):a7 bqh 140 [a.pc,b.pc] (af [pA (agR a b)]):=by
 refine hpx (nt:=30) Tryz.func140 ?_;refine sx7 ?_;refine m9 0 ?_;refine m9 1 ?_;refine jd ?_;refine c7 (ka 3 (ka 9 (ka 10 kn))) (kb 1 km) (fun i=>⟨[(5,some (vA (agT a b i))),(11,some (vI i))],[]⟩) a.vals.length kk ?_;rintro i hi;refine w_5 ?_;refine hcd ?_ ?_<;>intro h0
 ·
  have hil:i<a.vals.length:=by omega
  refine w_8 ?_;refine m9 2 ?_;refine jb ?_;refine qcx xq (xk (a.vals.getD i default) (b.vals.getD i default)) ?_;refine w_3 ?_;refine hcd ?_ ?_<;>intro h1
  ·
   refine jb ?_
   first | (refine lpz (i+1) ⟨⟨⟨_, rfl, (nq (by rw[show IntKind.wrap .u32 (1*2^(min ((i : Int)).toNat IntKind.u32.bits))=asI ((1 : AS)<<<i) from a30 1 i, bOr, b1w bpx]))⟩, tt⟩, uu⟩ ?_; show i+1<=_; omega)
         |(refine lpz (i+1) ⟨⟨⟨_,rfl,(nq (by rw[b0p bpx]))⟩,tt⟩,uu⟩ ?_;show i+1<=_;omega)
  refine w_5 ?_
  first | (refine lpz (i+1) ⟨⟨⟨_, rfl, (nq (by rw[show IntKind.wrap .u32 (1*2^(min ((i : Int)).toNat IntKind.u32.bits))=asI ((1 : AS)<<<i) from a30 1 i, bOr, b1w bpx]))⟩, tt⟩, uu⟩ ?_; show i+1<=_; omega)
        |(refine lpz (i+1) ⟨⟨⟨_,rfl,(nq (by rw[b0p bpx]))⟩,tt⟩,uu⟩ ?_;show i+1<=_;omega)
 obtain rfl:i=a.vals.length:=by omega
 refine v_6 ?_;exact CoL.refl _
def b5p:a6 bqh 138:=wgx Tryz.func138
def bhc (y z:AS):a7 bqh 138 [pA y,pP (bx (asC z))] (af [pB (decide (sub z y))]):=by
 refine hpx (nt:=8) Tryz.func138 ?_;refine l6 ?_;exact hx8 rfl rfl rfl (⟨ccb (decide_eq_decide.2 gv),trivial⟩)
def b4s:a6 bqh 139:=wgx Tryz.func139
def bhf (y z:AS):a7 bqh 139 [pA y,pP (bx (asC z))] (af [pB (decide (sub y z))]):=by
 refine hpx (nt:=8) Tryz.func139 ?_;refine l6 ?_;exact hx8 rfl rfl rfl (⟨ccb (decide_eq_decide.2 gv),trivial⟩)
def bfi(l:List AS)(z:AS):a7 bqh 137 [pP (asl l),pP (.fn 138 1 (fun j=>[bx (asC z)].getD j .any))] (af [pB (l.any fun y=>decide (sub z y))]):=ahc l 138 1 _ _ b5p fun y=>bhc y z
def bf5(l:List AS)(z:AS):a7 bqh 137 [pP (asl l),pP (.fn 139 1 (fun j=>[bx (asC z)].getD j .any))] (af [pB (l.any fun y=>decide (sub y z))]):=ahc l 139 1 _ _ b4s fun y=>bhf y z
def bab:a6 bqh 78:=wgx Tryz.func78
def be9(n:Nat)(av:List AS)(hn:n<=16):a7 bqh 78 [pI (n:Int),pP (asl av)] (af [pP (asl (b77 n av))]):=by
 refine hpx (nt:=37) Tryz.func78 ?_;have hsl:=vz (ah (n:Int));have h0z:(0:Int)<=(n:Int):=by omega
 have h1z:(n:Int)<=16:=by omega
 refine l5 ?_;refine rq rfl rfl rfl rfl rfl ?_ (hp:=⟨uv h0z h1z,sy h0z h1z⟩);refine rc rfl rfl rfl rfl rfl rfl ak5 (b1i (ah (n:Int))) (⟨cci (wa h0z h1z),trivial⟩) rfl rfl ?_;refine w_4 ?_;refine cr 5 900 true 1 35 (lf sC []) bq4 rfl (CoP.sl rfl (.inr rfl) (fun h=>h) (fun i j hi _=>absurd hi (bm6 i))) (.inr rfl) rfl ?_;refine c7 (ka 1 (ka 13 (ka 14 kn))) km (fun i=>⟨[(5,some (.v (.one (.ref 900 (pj n av i).length)))),(15,some (vI i))],[(900,some (.arr true 1 35 (pj n av i).length (lf sC (pj n av i))))]⟩) ((ct (ah (n:Int))).length) kk ?_;rintro i hi;have hul:=axz (n:=n) (av:=av) (i:=i);refine w_5 ?_;refine hcd ?_ ?_<;>intro h0
 ·
  have hil:i<(ct (ah (n:Int))).length:=by omega
  refine w_7 ?_;refine m9 0 ?_;refine w_2 ?_;refine c8 7 rfl rfl rfl ?_;refine w_4 ?_;refine qcx a7b (bfi av ((ct (ah (n:Int))).getD i default)) ?_;refine w_6 ?_;refine qcx a7b (bf5 (pj n av i) ((ct (ah (n:Int))).getD i default)) ?_;refine w_7 ?_;refine am rfl rfl ?_ ?_<;>intro r1
  ·
   have h1:=dc r1;(iterate 2 refine qy ?_ (hg:=(gtt r1)));refine w_2 ?_;refine aw _ rfl ?_ ?_<;>intro r2
   ·
    have h2:=dc (bp r1 r2);refine w_3 ?_;refine m9 1 ?_;refine rz9 2 true ?_;refine w_6 ?_
    first | (refine lpz (i+1) ⟨⟨⟨_, rfl, (bj (a10 hil bpx bpx))⟩, tt⟩, ⟨⟨_, rfl, (bm (a10 hil bpx bpx) (CoP.refl _))⟩, trivial⟩⟩ ?_; show i+1<=_; omega)
          |(refine lpz (i+1) ⟨⟨⟨_,rfl,(bo (by first|exact xh hil bpx|exact xw hil bpx))⟩,tt⟩,⟨⟨_,rfl,(bf (by first|exact xh hil bpx|exact xw hil bpx))⟩,trivial⟩⟩ ?_;show i+1<=_;omega)
   have h2:=df (bp r1 r2);refine w_5 ?_
   first | (refine lpz (i+1) ⟨⟨⟨_, rfl, (bj (a10 hil bpx bpx))⟩, tt⟩, ⟨⟨_, rfl, (bm (a10 hil bpx bpx) (CoP.refl _))⟩, trivial⟩⟩ ?_; show i+1<=_; omega)
         |(refine lpz (i+1) ⟨⟨⟨_,rfl,(bo (by first|exact xh hil bpx|exact xw hil bpx))⟩,tt⟩,⟨⟨_,rfl,(bf (by first|exact xh hil bpx|exact xw hil bpx))⟩,trivial⟩⟩ ?_;show i+1<=_;omega)
  have h1:=df r1;(iterate 2 refine k9 (gft r1) ?_);refine w_8 ?_
  first | (refine lpz (i+1) ⟨⟨⟨_, rfl, (bj (a10 hil bpx bpx))⟩, tt⟩, ⟨⟨_, rfl, (bm (a10 hil bpx bpx) (CoP.refl _))⟩, trivial⟩⟩ ?_; show i+1<=_; omega)
        |(refine lpz (i+1) ⟨⟨⟨_,rfl,(bo (by first|exact xh hil bpx|exact xw hil bpx))⟩,tt⟩,⟨⟨_,rfl,(bf (by first|exact xh hil bpx|exact xw hil bpx))⟩,trivial⟩⟩ ?_;show i+1<=_;omega)
 obtain rfl:i=(ct (ah (n:Int))).length:=by omega
 refine w_2 ?_;refine be 5 rfl rfl rfl ?_;refine v_4 ?_;exact⟨CoC.one (CoP.refl _),trivial⟩
def bbl:a6 bqh 80:=wgx Tryz.func80
def bgq(t:Tbl)(hT:TOk t):a7 bqh 80 [t.pc] (af [pP (psl 3 wC (o8 (fu (prs t.rows))))]):=by
 refine hpx (nt:=80) Tryz.func80 ?_;have hna:=hT.na;have hnr:=hT.nr;have hpb:=aub hnr;have hml:=afj (l:=fu (prs t.rows));refine sx7 ?_;refine m9 0 ?_;refine w_3 ?_;refine db [] [0,1] rfl ?_;refine yx (k:=0) (L:=[1]) 901 rfl (fun bg=>?_);refine d9 (E:=ci) (L1:=[1]) (L2:=[]) bw ?_;refine w_2 ?_;refine gk ?_;refine l5 ?_;refine cr 4 900 true 1 35 (lf sC []) bq4 rfl (CoP.sl rfl (.inr rfl) (fun h=>h) (fun i j hi _=>absurd hi (bm6 i))) (.inr rfl) rfl ?_;refine ar (ι:=Nat×Array MapEntry×Nat) (ka 1 (ka 3 (ka 17 (ka 18 kn)))) (kb 0 km) (fun x=>⟨[(4,some (.v (.one (.ref 900 (fu (jh t.rows x.1 (x.1+1))).length)))),(19,some (vI x.1))],[(900,some (.arr true 1 35 (fu (jh t.rows x.1 (x.1+1))).length (lf sC (fu (jh t.rows x.1 (x.1+1)))))),(901,some (mpO bg x.2.1 x.2.2))]⟩) (fun x=>x.1<=t.rows.length/\WIn bqh x.2.1 x.2.2 (fu (jh t.rows x.1 (x.1+1)))) (fun x=>t.rows.length-x.1) ((0,#[],0)) (⟨bm3 _,WIn.nil⟩) kk ?_;rintro⟨i,es,clock⟩ ⟨hi,hW⟩;dsimp only at hi hW ⊢;refine w_5 ?_;refine hcd ?_ ?_<;>intro h0
 ·
  have hir:i<t.rows.length:=by omega
  have hwi:(t.rows.getD i default).vals.length=t.attrs.length:=hT.width hir;have hls:eo (c5 t.rows.length none) (some ((i:Int)+1))=t.rows.length-(i+1):=rfl;refine w_8 ?_;refine m9 1 ?_;refine nc ?_;refine ar (ι:=Nat×Array MapEntry×Nat) (ka 1 (ka 3 (ka 6 (ka 17 (ka 18 (ka 19 (ka 28 (ka 29 kn)))))))) (kb 0 (kb 1 km)) (fun y=>⟨[(4,some (.v (.one (.ref 900 (fu (jh t.rows i (i+1+y.1))).length)))),(30,some (vI y.1))],[(900,some (.arr true 1 35 (fu (jh t.rows i (i+1+y.1))).length (lf sC (fu (jh t.rows i (i+1+y.1)))))),(901,some (mpO bg y.2.1 y.2.2))]⟩) (fun y=>y.1<=t.rows.length-(i+1)/\WIn bqh y.2.1 y.2.2 (fu (jh t.rows i (i+1+y.1)))) (fun y=>t.rows.length-(i+1)-y.1) ((0,es,clock)) (⟨bm3 _,hW⟩) kk ?_;rintro⟨j,es,clock⟩ ⟨hj,hW⟩;dsimp only at hj hW ⊢;have hbd:=b32 (k:=i+1+j) hir hnr;refine w_5 ?_;refine hcd ?_ ?_<;>intro h1
  ·
   have hkr:i+1+j<t.rows.length:=by omega
   have hjk:((i:Int)+1).toNat+j=i+1+j:=by omega
   have hwk:(t.rows.getD (((i:Int)+1).toNat+j) default).vals.length=t.attrs.length:=by rw[hjk];exact hT.width hkr
   refine w_7 ?_;refine m9 2 ?_;refine w_6 ?_;refine qcx b2j (b2p (t.rows.getD i default) (t.rows.getD (((i:Int)+1).toNat+j) default) (by rw[hwi];exact hna) (by rw[hwi,hwk])) ?_;refine w_3 ?_;refine db [] [0,1,2,3,4,5,6,7,8] rfl ?_;refine d9 (E:=ci) (L1:=[0,1]) (L2:=[2,3,4,5,6,7,8]) bw ?_;refine w_3 ?_;refine a2f (mid:=901) (k:=2) (L:=[3,4,5,6,7,8]) rfl Tryz.underlying222 (Go.Maps.int_keyed Tryz.underlying35) Tryz.zeroValue224 rfl hW.mx (Go.Maps.keyOf_int_mk Tryz.underlying35 (wfA _)) rfl (fun ok v hy hn1=>?_)
   obtain ⟨a0,b0,rfl⟩:∃a0 b0:Int,v=.agg #[.int .i64 a0, .int .i64 b0]:=by
    cases ok with
    | true =>
     obtain⟨e,he,hk,rfl⟩:=hy rfl;exact hW.vl e he
    |false=>exact⟨0,0,(hn1 rfl).1⟩
   refine d9 (E:=ci) (L1:=[3,4,5,6,7,8]) (L2:=[]) bw ?_;refine w_3 ?_;refine m9 3 ?_;refine w_3 ?_;refine gk ?_;refine w_5 ?_;refine aw _ rfl ?_ ?_<;>intro r2
   ·
    have h2:=dc r2;have hok1:ok=false:=by simpa using r2
    subst hok1;obtain⟨_,hno⟩:=hn1 rfl;have hab:=hW.absent hno;refine eq ?_;refine db [] [0,1,2,3,4,5,6,7] rfl ?_;refine d9 (E:=ci) (L1:=[0,1,2,3,4,5,6]) (L2:=[7]) bw ?_;refine w_8 ?_;refine xo (mid:=901) (k:=7) (L:=[]) rfl Tryz.underlying222 (Go.Maps.int_keyed Tryz.underlying35) hW.mx (by have:=hW.sz;unfold maxLen;omega) (Go.Maps.keyOf_int_mk Tryz.underlying35 (wfA _)) rfl rfl (fun es3 clock3 hX3 hP=>?_);refine gk ?_;refine w_3 ?_;refine m9 4 ?_;refine rz9 5 true ?_;refine w_6 ?_
    first | (refine lpz (j+1, es3, clock3) ⟨⟨⟨_, rfl, (bj (by rw[ge hkr hjk, a6q hab]))⟩, tt⟩, ⟨⟨_, rfl, (bm (by rw[ge hkr hjk, a6q hab]) (CoP.refl _))⟩, uu⟩⟩ ?_; exact⟨by show j+1<=_; omega, by rw[ge hkr hjk, a6q hab]; exact hW.put hX3 hP⟩)
          |(refine lpz (j+1,es,clock) ⟨⟨⟨_,rfl,(bo (by rw[ge hkr hjk,a71 hfd]))⟩,tt⟩,⟨⟨_,rfl,(bf (by rw[ge hkr hjk,a71 hfd]))⟩,uu⟩⟩ ?_;exact⟨by show j+1<=_;omega,by rw[ge hkr hjk,a71 hfd];exact hW⟩)
   have h2:=df r2;have hok1:ok=true:=by simpa using r2
   obtain⟨e0,he0,hk0,_⟩:=hy hok1;have hfd:=hW.found he0 hk0;refine w_5 ?_
   first | (refine lpz (j+1, es3, clock3) ⟨⟨⟨_, rfl, (bj (by rw[ge hkr hjk, a6q hab]))⟩, tt⟩, ⟨⟨_, rfl, (bm (by rw[ge hkr hjk, a6q hab]) (CoP.refl _))⟩, uu⟩⟩ ?_; exact⟨by show j+1<=_; omega, by rw[ge hkr hjk, a6q hab]; exact hW.put hX3 hP⟩)
         |(refine lpz (j+1,es,clock) ⟨⟨⟨_,rfl,(bo (by rw[ge hkr hjk,a71 hfd]))⟩,tt⟩,⟨⟨_,rfl,(bf (by rw[ge hkr hjk,a71 hfd]))⟩,uu⟩⟩ ?_;exact⟨by show j+1<=_;omega,by rw[ge hkr hjk,a71 hfd];exact hW⟩)
  obtain rfl:j=t.rows.length-(i+1):=by omega
  refine w_5 ?_;refine lpz (i+1,es,clock) ⟨⟨⟨_,rfl,(bo (by rw[<- a2y hir]))⟩,tt⟩,⟨⟨_,rfl,(bf (by rw[<- a2y hir]))⟩,uu⟩⟩ ?_;exact⟨by show i+1<=_;omega,by rw[<- a2y hir];exact hW⟩
 obtain rfl:i=t.rows.length:=by omega
 refine w_7 ?_;refine be 4 rfl rfl rfl ?_;refine w_2 ?_;refine rc rfl rfl rfl rfl rfl rfl atj (ajn (fu (prs t.rows)) bpw) (⟨CoC.of_eq (by rw[aig];rfl),trivial⟩) rfl rfl ?_;refine w_4 ?_;refine cr 12 902 true 3 221 (lf wC []) bq4 rfl (CoP.sl rfl (.inr rfl) (fun h=>h) (fun i j hi _=>absurd hi (bm6 i))) (.inr rfl) rfl ?_;refine c7 (ka 3 (ka 59 (ka 60 kn))) (kb 901 km) (fun i=>⟨[(12,some (.v (.one (.ref 902 ((o8 (fu (prs t.rows))).take i).length)))),(61,some (vI i))],[(902,some (.arr true 3 221 ((o8 (fu (prs t.rows))).take i).length (lf wC ((o8 (fu (prs t.rows))).take i))))]⟩) ((o8 (fu (prs t.rows))).length) kk ?_;rintro i hi;have htl:((o8 (fu (prs t.rows))).take i).length=i:=by rw[bmw];omega
 refine w_5 ?_;refine hcd ?_ ?_<;>intro h3
 ·
  have him:i<(o8 (fu (prs t.rows))).length:=by omega
  refine w_9 ?_;refine db [] [0,1,2,3,4,5,6,7,8,9,10,11,12,13] rfl ?_;refine d9 (E:=ci) (L1:=[0,1,2,3]) (L2:=[4,5,6,7,8,9,10,11,12,13]) bw ?_;refine w_5 ?_;refine am2 (mid:=901) (k:=4) (L:=[5,6,7,8,9,10,11,12,13]) rfl Tryz.underlying222 (Go.Maps.int_keyed Tryz.underlying35) Tryz.zeroValue224 hW (Go.Maps.keyOf_int_mk Tryz.underlying35 (wfA _)) rfl (fun a4 b4=>?_);refine afe 0 (k:=5) (L:=[6,7,8,9,10,11,12,13]) rfl Tryz.underlying224 (show tx bqh 2=some ⟨.int .i64,1,8,some [.int .i64 0],false,false,true⟩ by kernel_rfl) rfl rfl bq4 ?_;refine d9 (E:=ci) (L1:=[6,7]) (L2:=[8,9,10,11,12,13]) bw ?_;refine w_3 ?_;refine am2 (mid:=901) (k:=8) (L:=[9,10,11,12,13]) rfl Tryz.underlying222 (Go.Maps.int_keyed Tryz.underlying35) Tryz.zeroValue224 hW (Go.Maps.keyOf_int_mk Tryz.underlying35 (wfA _)) rfl (fun a8 b8=>?_);refine afe 1 (k:=9) (L:=[10,11,12,13]) rfl Tryz.underlying224 (show tx bqh 2=some ⟨.int .i64,1,8,some [.int .i64 0],false,false,true⟩ by kernel_rfl) rfl rfl bq4 ?_;refine d9 (E:=ci) (L1:=[10,11,12,13]) (L2:=[]) bw ?_;refine qy ?_;refine m9 6 ?_;refine rz9 7 true ?_;refine w_2 ?_;refine gk ?_;refine w_4 ?_;exact lpx (i+1) ⟨⟨⟨_,rfl,(bj (ax him))⟩,tt⟩,⟨⟨_,rfl,(dh (ax him) (CoP.refl _) CoP.any_of CoP.any_of)⟩,uu⟩⟩
 obtain rfl:i=(o8 (fu (prs t.rows))).length:=by omega
 refine w_2 ?_;refine be 12 rfl rfl rfl ?_;refine v_4 ?_;exact⟨CoC.one (by rw[bmd];exact CoP.refl _),trivial⟩
def bci:a6 bqh 79:=wgx Tryz.func79
def bac (l:List AS) (hl:l.length<=2000000):a7 bqh 79 [pP (psl 3 wC l)] (af [pP (asl l)]):=by
 refine hpx (nt:=19) Tryz.func79 ?_;refine eu ?_;refine fp 0 rfl fun hn=>?_;refine w_6 ?_;refine cr 3 900 true 1 35 (lf sC []) bq4 rfl (CoP.sl rfl (.inr rfl) (fun h=>h) (fun i j hi _=>absurd hi (bm6 i))) (.inr rfl) rfl ?_;refine c7 (ka 6 (ka 7 kn)) km (fun i=>⟨[(3,some (.v (.one (.ref 900 (l.take i).length)))),(8,some (vI i))],[(900,some (.arr true 1 35 (l.take i).length (lf sC (l.take i))))]⟩) l.length kk ?_;rintro i hi;have htl:(l.take i).length=i:=by rw[bmw];omega
 refine w_5 ?_;refine hcd ?_ ?_<;>intro h0
 ·
  have hil:i<l.length:=by omega
  refine w_7 ?_;refine m9 0 ?_;refine w_6 ?_;refine m9 1 ?_;refine rz9 2 true ?_;refine w_6 ?_;exact lpx (i+1) ⟨⟨⟨_,rfl,(bj (ax hil))⟩,tt⟩,⟨⟨_,rfl,(bm (ax hil) (CoP.refl _))⟩,trivial⟩⟩
 obtain rfl:i=l.length:=by omega
 refine w_2 ?_;refine be 3 rfl rfl rfl ?_;refine v_4 ?_;exact⟨CoC.one (by rw[bmd];exact CoP.refl _),trivial⟩
def bam:a6 bqh 26:=wgx Tryz.func26
def b8b (t:Tbl) (hT:TOk t) (h12:t.attrs.length<=12) (h200:t.rows.length<=200):a7 bqh 26 [t.pc] (af [pP (asl (b0x t)),pI 0]):=by
 refine hpx (nt:=17) Tryz.func26 ?_;have hna:=hT.na;refine sx7 ?_;refine m9 0 ?_;refine w_7 ?_;refine rc rfl rfl rfl rfl rfl rfl baz (b6o t hT h12 h200) (⟨CoC.refl _,CoC.refl _,CoC.refl _,trivial⟩) rfl rfl ?_;refine jd ?_;refine qcx bbl (bgq t hT) ?_;refine qcx bci (bac (o8 (fu (prs t.rows))) (bme afj (aub hT.nr))) ?_;refine qcx bab (be9 t.attrs.length (o8 (fu (prs t.rows))) hna) ?_;refine v_4 ?_;exact⟨CoC.refl _,CoC.refl _,trivial⟩
end
section
section
variable {n:Int}{p m:List Fd}{E:Int->Int->Prop}{R:Rw->Prop}
def bj1(E:Int->Int->Prop)(R:Rw->Prop)(x b:AS):Prop:=∀a c,R a->R c->AgE E a c x->R (jc a c b)
end
section
variable {n:Int}{p m:List Fd}
end
end
section
def bkb(t:Tbl)(l:List Fd)(i:Nat):List Fd:=(l.take i).filter (mvB t)
def blo(t:Tbl)(l:List Fd):List Fd:=l.filter (mvB t)
end
section
abbrev rwp(r:Row):PV:=.vp 2 fun j=>[r.c 0,r.c 1].getD j .any
end
section
open Go.Proofs
def b3x:a6 bqh 190:=wgx Tryz.func190
def bf6(l:List Row)(g k:Nat)(caps:Nat->PV)(V:Row->Bool)(hg:a6 bqh g)(hV:∀x,a7 bqh g (x.pc::er caps k 0) (af [pB (V x)])):a7 bqh 190 [pP (rows l),pP (.fn g k caps)] (af [pI (idx V l)]):=by
 refine hpx (nt:=19) Tryz.func190 ?_;refine eq ?_;refine fp 0 rfl fun hn=>?_;refine w_3 ?_;refine dn (ι:=Unit) kn km (fun _i=>⟨[],[]⟩) (fun _i=>idx V l=-1) ?_ ?_
 ·
  refine w_7 ?_;refine ar (ι:=Nat) (ka 0 (ka 1 (ka 7 kn))) km (fun i=>⟨[(8,some (vI i))],[]⟩) (fun i=>i<=l.length/\(∀j,j<i->V (l.getD j default)=false)) (fun i=>l.length-i) (0) (⟨bm3 _,e9⟩) kk ?_;rintro i ⟨hi,hIi⟩;refine w_5 ?_;refine hcd ?_ ?_<;>intro h0
  ·
   refine jd ?_;refine rc rfl rfl rfl rfl rfl rfl hg (hV (l.getD i default)) (CoL.refl _) rfl rfl ?_;refine d5 ?_;refine hcb ?_ ?_<;>intro h1
   · refine v_5 ?_;exact⟨cci (qx (i:=i) bpw hIi bpx).symm,trivial⟩
   refine w_5 ?_;refine lpz (i+1) kk ?_;exact⟨by show i+1<=_;omega,da hIi bpx⟩
  refine dz ?_;refine⟨(), ?_, ?_⟩
  · exact qv fun j hj=>hIi j bpw
  exact⟨trivial,trivial⟩
 rintro _ hj;refine v_4 ?_;exact⟨cci hj.symm,trivial⟩
def aoa:a6 bqh 122:=wgx Tryz.func122
def b1s (l:List Row) (g k:Nat) (caps:Nat->PV) (V:Row->Bool) (hg:a6 bqh g) (hV:∀x,a7 bqh g (x.pc::er caps k 0) (af [pB (V x)])):a7 bqh 122 [pP (rows l),pP (.fn g k caps)] (af [pB (l.any V)]):=by
 refine hpx (nt:=9) Tryz.func122 ?_;refine w_8 ?_;refine qcx b3x (bf6 l g k caps V hg hV) ?_;refine v_3 ?_;exact⟨ccb vw,trivial⟩
end
end Go.Hx
