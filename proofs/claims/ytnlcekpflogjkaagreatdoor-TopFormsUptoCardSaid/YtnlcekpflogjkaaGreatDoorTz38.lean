/- A part of the proof: Kw4 Kb5 Kw5 Kb6 Kw6 Cs44 Kb7 Jc1. -/
import Derived.Test.YtnlcekpflogjkaaGreatDoorTz37
set_option linter.all false
set_option maxRecDepth 100000
set_option maxHeartbeats 1000000
namespace Go.Hx
section
open Go.Proofs
def bd0 (n:Nat) (l:List Fd) (hn:n<=10) (hv:aw n l=0):a7 bxr 132 [pI (n:Int),pP (fdl l)] (ae [pI 0]):=by
 refine hpx (nt:=14) Tryz.func132 ?_;refine w_9 ?_;refine qcx qj (at7 hv) ?_;refine jk ?_;refine hcd ?_ ?_<;>intro h0
 · exfalso;omega
 refine v_5 ?_;exact CoL.refl _
def alt:goodFn bxr 83:=wgx Tryz.func83
def alp (n:Nat) (hn:n<=10):a7 bxr 83 [pI (n:Int)] (ae [pA (a6 (n:Int))]):=by
 refine hpx (nt:=6) Tryz.func83 ?_;have h0z:(0:Int)<=(n:Int):=by omega
 have h1z:(n:Int)<=16:=by omega
 refine w_8 ?_;refine rq rfl rfl rfl rfl rfl ?_ (hp:=⟨om h0z h1z,nf h0z h1z⟩);refine v_2 ?_;exact⟨cci (og h0z h1z),trivial⟩
def bxp{p:Prop}(h:p:=by first|exact a3j bx6|exact a44 bx6):p:=h
def bq1(n:Nat)(l:List Fd)(hn:n<=10)(hv:aw n l=0):a7 bxr 82 [pI (n:Int),pP (fdl l)] (ae [pP (asl (kz (n:Int) (fp l (n:Int)))),pI 0]):=by
 refine hpx (nt:=73) Tryz.func82 ?_;have hsl:=rj (a6 (n:Int));have hcn:(fp l (n:Int)).length<=4294967296:=bth (buo _ _) hsl;refine cr ?_;refine qcx (wgx Tryz.func132) (bd0 n l hn hv) ?_;refine mq ?_;refine qcx (wgx Tryz.func133) (bd8 n l bx5 hv) ?_;refine bhl ?_;refine d8 9 900 true 1 50 (lf sC []) bxc rfl (CoP.sl rfl (.inr rfl) (fun h=>h) (fun i j hi _=>absurd hi (bt9 i))) (.inr rfl) rfl ?_;refine bw (ka 0 (ka 7 (ka 30 (ka 31 kn)))) km (fun i=>⟨[(9,some (.v (.one (.ref 900 (a2f (n:Int) (fp l (n:Int)) i).length)))),(32,some (vI i))],[(900,some (.arr true 1 50 (a2f (n:Int) (fp l (n:Int)) i).length (lf sC (a2f (n:Int) (fp l (n:Int)) i))))]⟩) ((fp l (n:Int)).length) kk ?_;rintro i hi;have hcl:=b3w (n:=(n:Int)) (cl:=fp l (n:Int)) (i:=i);refine w_5 ?_;refine hcd ?_ ?_<;>intro h0
 ·
  have hil:i<(fp l (n:Int)).length:=by omega
  refine gh ?_;refine qcx alt (alp n hn) ?_;refine cr ?_;refine bw (ka 0 (ka 7 (ka 9 (ka 11 (ka 30 (ka 31 (ka 32 (ka 38 (ka 39 kn))))))))) (kb 900 km) (fun k=>⟨[(12,some (vA (xc (n:Int) (fp l (n:Int)) ((fp l (n:Int)).getD i default) k))),(40,some (vI k))],[]⟩) ((fp l (n:Int)).length) kk ?_;rintro k hk;refine w_5 ?_;refine hcd ?_ ?_<;>intro h1
  ·
   have hkl:k<(fp l (n:Int)).length:=by omega
   refine jk ?_;refine al rfl rfl ?_ ?_<;>intro r2
   ·
    have h2:=tz2 (cj r2);(iterate 5 refine qy ?_ (hg:=(gtt r2)));refine w_2 ?_;refine ax _ rfl ?_ ?_<;>intro r3
    · have h3:=tz1 (br r2 r3);refine cr ?_;exact lpx (k+1) ⟨⟨⟨_,rfl,(by first|exact av6 hkl bx6 bx6|exact ap5 hkl bx6|exact ape hkl bx6)⟩,tt⟩,uu⟩
    have h3:=tz2 (br r2 r3);refine w_5 ?_;exact lpx (k+1) ⟨⟨⟨_,rfl,(by first|exact av6 hkl bx6 bx6|exact ap5 hkl bx6|exact ape hkl bx6)⟩,tt⟩,uu⟩
   have h2:=tz1 (cn r2);(iterate 5 refine k9 (gft r2) ?_);refine w_8 ?_
   exact lpx (k+1) ⟨⟨⟨_,rfl,(by first|exact av6 hkl bx6 bx6|exact ap5 hkl bx6|exact ape hkl bx6)⟩,tt⟩,uu⟩
  obtain rfl:k=(fp l (n:Int)).length:=by omega
  refine w_5 ?_;refine qcx alt (alp n hn) ?_;refine w_2 ?_;refine al rfl rfl ?_ ?_<;>intro r4
  ·
   have h4:=tz2 (cj r4);(iterate 3 refine qy ?_ (hg:=(gtt r4)));refine w_2 ?_;refine ax _ rfl ?_ ?_<;>intro r5
   ·
    have h5:=tz2 (cj (br r4 r5));refine w_3 ?_;refine m9 0 ?_;refine r9 1 true ?_;refine w_6 ?_
    first | (refine lpz (i+1) ⟨⟨⟨_, rfl, (bo (a3t hil (a9e bx6 bx6)))⟩, tt⟩, ⟨⟨_, rfl, (bq (a3t hil (a9e bx6 bx6)) (CoP.refl _))⟩, trivial⟩⟩ ?_; show i+1<=_; omega)
          |(refine lpz (i+1) ⟨⟨⟨_,rfl,(be (a3y hil bxp))⟩,tt⟩,⟨⟨_,rfl,(az (a3y hil bxp))⟩,trivial⟩⟩ ?_;show i+1<=_;omega)
   have h5:=tz1 (cn (br r4 r5));refine w_5 ?_
   first | (refine lpz (i+1) ⟨⟨⟨_, rfl, (bo (a3t hil (a9e bx6 bx6)))⟩, tt⟩, ⟨⟨_, rfl, (bq (a3t hil (a9e bx6 bx6)) (CoP.refl _))⟩, trivial⟩⟩ ?_; show i+1<=_; omega)
         |(refine lpz (i+1) ⟨⟨⟨_,rfl,(be (a3y hil bxp))⟩,tt⟩,⟨⟨_,rfl,(az (a3y hil bxp))⟩,trivial⟩⟩ ?_;show i+1<=_;omega)
  have h4:=tz1 (cn r4);(iterate 3 refine k9 (gft r4) ?_);refine w_8 ?_
  first | (refine lpz (i+1) ⟨⟨⟨_, rfl, (bo (a3t hil (a9e bx6 bx6)))⟩, tt⟩, ⟨⟨_, rfl, (bq (a3t hil (a9e bx6 bx6)) (CoP.refl _))⟩, trivial⟩⟩ ?_; show i+1<=_; omega)
        |(refine lpz (i+1) ⟨⟨⟨_,rfl,(be (a3y hil bxp))⟩,tt⟩,⟨⟨_,rfl,(az (a3y hil bxp))⟩,trivial⟩⟩ ?_;show i+1<=_;omega)
 obtain rfl:i=(fp l (n:Int)).length:=by omega
 refine w_2 ?_;refine bj 9 rfl rfl rfl ?_;refine v_5 ?_;exact⟨CoC.one (CoP.of_eq (by rw[b7g];rfl)),CoC.refl _,trivial⟩
def bgx(n:Nat)(l:List Fd)(hn:n<=10)(hv:aw n l=0):a7 bxr 30 [pI (n:Int),pP (fdl l)] (ae [(bke (a6 (n:Int)::kz (n:Int) (fp l (n:Int))) n).pc,pI 0]):=by
 refine hpx (nt:=81) Tryz.func30 ?_;have hsl:=rj (a6 (n:Int));have hcn:(a6 (n:Int)::kz (n:Int) (fp l (n:Int))).length<=4294967297:=Nat.succ_le_succ (bth (buo _ _) (bth (buo _ _) hsl));have hci:(kz (n:Int) (fp l (n:Int))).length<=4294967296:=Nat.le_of_succ_le_succ hcn;have hLn:(a6 (n:Int)::kz (n:Int) (fp l (n:Int))).length=(kz (n:Int) (fp l (n:Int))).length+1:=rfl;refine sx7 ?_;refine m9 0 ?_;refine w_6 ?_;refine qcx (wgx Tryz.func82) (bq1 n l hn hv) ?_;refine a2y ?_;refine m9 1 ?_;refine w_9 ?_;refine pi 1 1 100 true 1 9 (lf awm (a19 0)) bxc rfl rfl (CoP.sl rfl (.inr rfl) (fun h=>h) (fun i j hi _=>absurd hi (bt9 i))) (.inr rfl) rfl rfl ?_;refine bw (ka 0 (ka 4 (ka 6 (ka 8 (ka 26 kn))))) (kb 0 km) (fun i=>⟨[(27,some (vI i))],[(1,some (.box [.p (.raw (.string ⟨#[116]⟩)), .ref 100 (a19 i).length, .p (kj (.slice none 0 0))])),(100,some (.arr true 1 9 (a19 i).length (lf awm (a19 i))))]⟩) n kk ?_;rintro i hi;have hl1:=b40 (n:=i);refine w_5 ?_;refine hcd ?_ ?_<;>intro h0
 ·
  have hin:i<n:=by omega
  refine jk ?_;refine m9 2 ?_;refine r9 3 true ?_;refine w_7 ?_;exact lpx (i+1) ⟨tt,⟨⟨_,rfl,⟨CoP.refl _,congrArg (HV.ref 100) (by rw[ak5,bt8];rfl),CoP.refl _,trivial⟩⟩,⟨_,rfl,(bq ak5 (CoP.of_eq (bm1 bx5)))⟩,uu⟩⟩
 obtain rfl:n=i:=by omega
 refine w_3 ?_;refine sj 1 1 rfl rfl rfl rfl rfl ?_;refine w_2 ?_;refine qcx alt (alp n hn) ?_;refine m9 4 ?_;refine qy ?_;refine r9 5 true ?_;refine w_4 ?_;refine pi 1 2 101 true 2 81 (lf Row.c (y4 (a6 (n:Int)::kz (n:Int) (fp l (n:Int))) n 0)) bxc rfl rfl (CoP.sl rfl (.inr rfl) (fun h=>h) (fun i j hi _=>absurd hi (bt9 i))) (.inr rfl) rfl rfl ?_;refine bw (ka 0 (ka 4 (ka 8 (ka 45 kn)))) (kb 0 km) (fun k=>⟨[(46,some (vI k)),(44,some (.v (.one (.ref 4 (a6 (n:Int)::kz (n:Int) (fp l (n:Int))).length))))],[(4,some (.arr true 1 50 (a6 (n:Int)::kz (n:Int) (fp l (n:Int))).length (lf sC (a6 (n:Int)::kz (n:Int) (fp l (n:Int)))))),(1,some (.box [.p (.raw (.string ⟨#[116]⟩)), .p (am2 (a19 n)), .ref 101 (y4 (a6 (n:Int)::kz (n:Int) (fp l (n:Int))) n k).length])),(101,some (.arr true 2 81 (y4 (a6 (n:Int)::kz (n:Int) (fp l (n:Int))) n k).length (lf Row.c (y4 (a6 (n:Int)::kz (n:Int) (fp l (n:Int))) n k))))]⟩) ((a6 (n:Int)::kz (n:Int) (fp l (n:Int))).length) ⟨⟨zy,⟨_,rfl,(CoR.of_eq (by rw[Nat.add_comm];rfl))⟩,trivial⟩,⟨⟨_,rfl,(b5w (CoP.refl _))⟩,uu⟩⟩ ?_;rintro k hk;have hl2:=azo (l:=(a6 (n:Int)::kz (n:Int) (fp l (n:Int)))) (n:=n) (k:=k);refine w_5 ?_;refine hcd ?_ ?_<;>intro h1
 ·
  have hkl:k<(a6 (n:Int)::kz (n:Int) (fp l (n:Int))).length:=by omega
  refine ss ?_;refine m9 6 ?_;refine w_9 ?_;refine pi 6 1 102 true 3 84 (lf Val.c (xl ((a6 (n:Int)::kz (n:Int) (fp l (n:Int))).getD k default) k 0)) bxc rfl rfl (CoP.sl rfl (.inr rfl) (fun h=>h) (fun i j hi _=>absurd hi (bt9 i))) (.inr rfl) rfl rfl ?_;refine bw (ka 0 (ka 4 (ka 8 (ka 10 (ka 11 (ka 12 (ka 44 (ka 45 (ka 46 (ka 54 kn)))))))))) (kb 4 (kb 1 (kb 101 (kb 0 km)))) (fun j=>⟨[(55,some (vI j))],[(6,some (.box [.p (.raw (.int .i64 ((k:Int)+1))), .ref 102 (xl ((a6 (n:Int)::kz (n:Int) (fp l (n:Int))).getD k default) k j).length])),(102,some (.arr true 3 84 (xl ((a6 (n:Int)::kz (n:Int) (fp l (n:Int))).getD k default) k j).length (lf Val.c (xl ((a6 (n:Int)::kz (n:Int) (fp l (n:Int))).getD k default) k j))))]⟩) n kk ?_;rintro j hj;have hl3:=axe (s:=((a6 (n:Int)::kz (n:Int) (fp l (n:Int))).getD k default)) (k:=k) (n:=j);refine w_5 ?_;refine hcd ?_ ?_<;>intro h2
  ·
   have hjn:j<n:=by omega
   refine gv ?_;refine m9 7 ?_;refine gv ?_;refine hcd ?_ ?_<;>intro h3
   ·
    refine w_9 ?_;refine m9 8 ?_;refine r9 9 true ?_;refine w_7 ?_
    first | (refine lpz (j+1) ⟨tt, ⟨⟨_, rfl, ⟨CoP.refl _, congrArg (HV.ref 102) (by rw[n4, bt8]; rfl), trivial⟩⟩, ⟨_, rfl, (a0x n4 (CoP.refl _) (CoP.of_eq (ay1 bx5 bx6)) (CoP.refl _))⟩, uu⟩⟩ ?_; show j+1<=_; omega)
          |(refine lpz (j+1) ⟨tt,⟨⟨_,rfl,⟨CoP.refl _,congrArg (HV.ref 102) (by rw[n4,bt8];rfl),trivial⟩⟩,⟨_,rfl,(a0x n4 (CoP.refl _) (CoP.of_eq (ay4 bx5 bx6)) (CoP.refl _))⟩,uu⟩⟩ ?_;show j+1<=_;omega)
   refine w_5 ?_;refine m9 10 ?_;refine r9 11 true ?_;refine w_7 ?_
   first | (refine lpz (j+1) ⟨tt, ⟨⟨_, rfl, ⟨CoP.refl _, congrArg (HV.ref 102) (by rw[n4, bt8]; rfl), trivial⟩⟩, ⟨_, rfl, (a0x n4 (CoP.refl _) (CoP.of_eq (ay1 bx5 bx6)) (CoP.refl _))⟩, uu⟩⟩ ?_; show j+1<=_; omega)
         |(refine lpz (j+1) ⟨tt,⟨⟨_,rfl,⟨CoP.refl _,congrArg (HV.ref 102) (by rw[n4,bt8];rfl),trivial⟩⟩,⟨_,rfl,(a0x n4 (CoP.refl _) (CoP.of_eq (ay4 bx5 bx6)) (CoP.refl _))⟩,uu⟩⟩ ?_;show j+1<=_;omega)
  obtain rfl:n=j:=by omega
  refine ek ?_;refine sj 6 1 rfl rfl rfl rfl rfl ?_;refine w_4 ?_;refine m9 12 ?_;refine r9 13 true ?_;refine w_7 ?_;exact lpx (k+1) ⟨tt,⟨u9,⟨_,rfl,⟨CoP.refl _,CoP.refl _,congrArg (HV.ref 101) (by rw[aee,bt8];rfl),trivial⟩⟩,⟨_,rfl,(l5 aee (CoP.refl _) (CoP.refl _))⟩,uu⟩⟩
 obtain rfl:k=(a6 (n:Int)::kz (n:Int) (fp l (n:Int))).length:=by omega
 refine w_2 ?_;refine sj 1 2 rfl rfl rfl rfl rfl ?_;refine v_5 ?_;exact⟨CoC.agg ⟨CoP.refl _,CoP.refl _,CoP.refl _,trivial⟩,CoC.refl _,trivial⟩
end
section
section
variable {i:Nat}
theorem a32 (h:i<4294967296):asI (nA i)=(i:Int):=by
 show(((BitVec.ofNat 32 i).toNat:Nat):Int)=i
 grind
variable {n:Nat}
theorem b7w (h1:n<=16):IntKind.wrap .u32 (1*2^(min n IntKind.u32.bits))=((2^n:Nat):Int):=by
 have h2:2^n<=2^16:=bum bx5 h1;rw[show IntKind.wrap .u32 (1*2^(min n IntKind.u32.bits))=asI ((1:AS)<<<n) from a0j 1 n];show(((1:AS)<<<n).toNat:Int)=_;rw[BitVec.toNat_shiftLeft,Nat.shiftLeft_eq]
 grind
def afz(h:n<=16):2^n<=65536:=bum bx5 h
variable {k:Nat}
theorem afv {n:Int} (h:((bsz (nA i):Nat):Int)=(k:Int)):w8 n k (i+1)=w8 n k i++[nA i]:=by
 unfold w8;rw[bu3,bux,bu6]
 grind
theorem afp {n:Int} (h:¬((bsz (nA i):Nat):Int)=(k:Int)):w8 n k (i+1)=w8 n k i:=by
 unfold w8;rw[bu3,bux,bu6]
 grind
theorem aom {n:Int}:(w8 n k i).length<=i:=by
 unfold w8
 grind
abbrev b44(rk:List Int)(n:Nat):PC:=.agg [.raw (.int .i64 (n:Int)),zl rk]
theorem a6j (h:i<4294967296):(nA i).toNat=i:=by
 unfold nA
 grind
variable {s:AS}
def asg (h:s.toNat<2^n):∀z,s.getLsbD z=true->z<n:=fun z hz=>by
 rw[<- BitVec.testBit_toNat]at hz
 exact Nat.lt_of_not_le fun hn=>by
  have:=Nat.ge_two_pow_of_testBit hz;have:=bum (show 0<2 by omega) hn;omega
theorem bb2 (h:∀z,s.getLsbD z=true->z<n):s.toNat<2^n:=by
 refine Nat.lt_pow_two_of_testBit _ fun i hi=>?_;rw[BitVec.testBit_toNat,btf]
 grind
variable {a:Nat}
def bg2 (hs:s.toNat<2^n) (ha:a<n) (hn:n<=32):(s|||((1:AS)<<<a)).toNat<2^n:=bb2 fun z hz=>by
 have hz32:z<32:=BitVec.lt_of_getLsbD hz;rw[buy,er a z hz32,buk,decide_eq_true_eq]at hz
 rcases hz with h|h
 · exact asg hs z h
 omega
def bbb (hn:n<=16) (hi:i<(lc n k).length):((lc n k).getD i default).toNat<2^n:=by
 rw[dn _ _ hi];have hm:=bti hi;unfold lc w8 at hm;obtain⟨h1,_⟩:=buw.1 hm;obtain⟨j,hj,e⟩:=bto.1 h1;have hj:=btg.1 hj;have:=afz hn;rw[show(lc n k)[i]=nA j from e.symm,a6j bx5];exact hj
def alw(hn:n<=16):(lc n k).length<=65536:=bth aom (afz hn)
theorem bgv {j:Nat} (h:j<32):bu .and .u32 ((asI s).fdiv (2^(min j IntKind.u32.bits))) 1=1<->s.getLsbD j=true:=by
 have e1:(asI s).fdiv (2^(min j IntKind.u32.bits))=asI (s>>>j):=by
  rw[show min j IntKind.u32.bits=j from bua (show j<=32 by omega)];show((s.toNat:Int)).fdiv _=(((s>>>j).toNat:Nat):Int);rw[show(2:Int)^j=((2^j:Nat):Int) by simp,bwj _ (bv7 _),<- Int.natCast_ediv,bvw,bvq]
 have hb:bu .and .u32 ((asI s).fdiv (2^(min j IntKind.u32.bits))) 1=asI ((s>>>j)&&&1):=by rw[e1,show(1:Int)=asI 1 from rfl,it]
 have hv:(s>>>j)&&&1=if s.getLsbD j=true then 1 else 0:=by
  grind
 grind
variable {out:List AS}{rk:List Int}
def acd {j:Nat} (hj:j<(lc n k).length):mnK rk n a out k (j+1)=mnA rk a (mnK rk n a out k j) ((lc n k).getD j default):=by
 unfold mnK;rw[aj hj,btr];rfl
def ac3:mnT rk n a (k+1)=mnK rk n a (mnT rk n a k) k (lc n k).length:=by
 unfold mnT;rw[bu3,btr];rfl
theorem bdt:(mnA rk a out s).length<=out.length+1:=by
 unfold mnA
 grind
def ahb:∀{j:Nat},j<=(lc n k).length->(mnK rk n a out k j).length<=out.length+j
 |0,_=>bt2 _
 | j+1,hj=>by
  rw[acd hj];have:(mnK rk n a out k j).length<=out.length+j:=ahb bx5;have:=bdt (rk:=rk) (a:=a) (out:=mnK rk n a out k j) (s:=(lc n k).getD j default);omega
def au1 (hn:n<=16):∀{k:Nat},(mnT rk n a k).length<=65536*k
 |0=>bt2 _
 | k+1=>by
  rw[ac3];have:(mnT rk n a k).length<=65536*k:=au1 hn;have:=ahb (rk:=rk) (n:=n) (a:=a) (k:=k) (out:=mnT rk n a k) (bt2 _);have:=alw (k:=k) hn;omega
def a28{j:Nat}(hj:j<(lc n k).length)(h:mnA rk a (mnK rk n a out k j) ((lc n k).getD j default)=mnK rk n a out k j++[(lc n k).getD j default]):mnK rk n a out k (j+1)=mnK rk n a out k j++[(lc n k).getD j default]:=(acd hj).trans h
def a1w{j:Nat}(hj:j<(lc n k).length)(h:mnA rk a (mnK rk n a out k j) ((lc n k).getD j default)=mnK rk n a out k j):mnK rk n a out k (j+1)=mnK rk n a out k j:=(acd hj).trans h
def a1i(ha:a<32)(h:bu .and .u32 ((asI s).fdiv (2^(min a IntKind.u32.bits))) 1=1):mnA rk a out s=out:=if_pos (.inl ((bgv ha).1 h))
def a2e(h:(out.any fun m=>decide (sub m s))=true):mnA rk a out s=out:=if_pos (.inr (.inl h))
def a1o(h:av3 rk s a=false):mnA rk a out s=out:=if_pos (.inr (.inr h))
theorem a6i (ha:a<32) (h1:¬bu .and .u32 ((asI s).fdiv (2^(min a IntKind.u32.bits))) 1=1) (h2:(out.any fun m=>decide (sub m s))=false) (h3:av3 rk s a=true):mnA rk a out s=out++[s]:=if_neg (by
 rintro(h|h|h)
 · exact h1 ((bgv ha).2 h)
 · grind
 rw[h3]at h;cases h)
end
end
section
open Go.Proofs
def bir(n k:Nat)(hn:n<=16)(hk:k<=n):a7 bxr 186 [pI (n:Int),pI (k:Int)] (ae [pP (asl (lc n k)),pI 0]):=by
 refine hpx (nt:=38) Tryz.func186 ?_;have hp:=afz hn;have hs:=b7w hn;refine gv ?_;refine al rfl rfl ?_ ?_<;>intro r0
 ·
  have h0:=tz1 r0;(iterate 2 refine k9 (gtf r0) ?_);refine w_2 ?_;(iterate 2 refine k9 rfl ?_);refine w_2 ?_;(iterate 3 refine k9 rfl ?_);refine w_8 ?_;refine hrr ?_
  omega
 have h0:=tz2 r0;(iterate 2 refine qy ?_ (hg:=(gff r0)));refine w_2 ?_;refine al rfl rfl ?_ ?_<;>intro r1
 ·
  have h1:=tz1 (bn r0 r1);(iterate 2 refine k9 (gtf r1) ?_);refine w_2 ?_;(iterate 3 refine k9 rfl ?_);refine w_8 ?_;refine hrr ?_
  omega
 have h1:=tz2 (bn r0 r1);(iterate 2 refine qy ?_ (hg:=(gff r1)));refine w_2 ?_;refine al rfl rfl ?_ ?_<;>intro r2
 ·
  have h2:=tz1 (bn r1 r2);(iterate 3 refine k9 (gtf r2) ?_);refine w_8 ?_;refine hrr ?_
  omega
 have h2:=tz2 (bn r1 r2);(iterate 3 refine qy ?_ (hg:=(gff r2)));refine w_2 ?_;refine ax _ rfl ?_ ?_<;>intro r3
 · have h3:=tz1 (bn r2 r3);exfalso;simp_all;omega
 have h3:=tz2 (bn r2 r3);refine gv ?_;refine d8 6 900 true 1 50 (lf sC []) bxc rfl (CoP.sl rfl (.inr rfl) (fun h=>h) (fun i j hi _=>absurd hi (bt9 i))) (.inr rfl) rfl ?_;refine bw (ka 0 (ka 1 kn)) km (fun i=>⟨[(6,some (.v (.one (.ref 900 (w8 (n:Int) k i).length)))),(7,some (.v (.one (.p (.raw (.int .u32 (i:Int)))))))],[(900,some (.arr true 1 50 (w8 (n:Int) k i).length (lf sC (w8 (n:Int) k i))))]⟩) (2^n) kk ?_;rintro i hi;have hll:=aom (n:=(n:Int)) (k:=k) (i:=i);refine w_8 ?_;refine hcd ?_ ?_<;>intro h4
 ·
  have hi2:i<2^n:=by omega
  refine w_6 ?_;refine rc rfl rfl rfl rfl rfl rfl a08 (a9j (nA i)) (⟨cci (a32 bx5).symm,trivial⟩) rfl rfl ?_;refine w_3 ?_;refine hcd ?_ ?_<;>intro h5
  ·
   refine w_3 ?_;refine m9 0 ?_;refine r9 1 true ?_;refine w_7 ?_
   first | (refine lpz (i+1) ⟨⟨⟨_, rfl, (bo (afv bx6))⟩, tt⟩, ⟨⟨_, rfl, (bq (afv bx6) (CoP.of_eq (congrArg (fun x => PV.raw (.int .u32 x)) (a32 bx5).symm)))⟩, trivial⟩⟩ ?_; show i+1<=_; omega)
         |(refine lpz (i+1) ⟨⟨⟨_,rfl,(be (afp bx6))⟩,tt⟩,⟨⟨_,rfl,(az (afp bx6))⟩,trivial⟩⟩ ?_;show i+1<=_;omega)
  refine w_6 ?_
  first | (refine lpz (i+1) ⟨⟨⟨_, rfl, (bo (afv bx6))⟩, tt⟩, ⟨⟨_, rfl, (bq (afv bx6) (CoP.of_eq (congrArg (fun x => PV.raw (.int .u32 x)) (a32 bx5).symm)))⟩, trivial⟩⟩ ?_; show i+1<=_; omega)
        |(refine lpz (i+1) ⟨⟨⟨_,rfl,(be (afp bx6))⟩,tt⟩,⟨⟨_,rfl,(az (afp bx6))⟩,trivial⟩⟩ ?_;show i+1<=_;omega)
 obtain rfl:i=2^n:=by omega
 refine w_2 ?_;refine bj 6 rfl rfl rfl ?_;refine v_5 ?_;exact⟨CoC.one (CoP.refl _),CoC.refl _,trivial⟩
def bmq (t:Tbl) (hT:TOk t) (h10:t.attrs.length<=10) (h200:t.rows.length<=200):a7 bxr 134 [t.pc] (ae [pI 0]):=by
 refine hpx (nt:=19) Tryz.func134 ?_;have hna:=hT.na;have hnr:=hT.nr;refine sx7 ?_;refine m9 0 ?_;refine w_6 ?_;refine qcx ao1 (anu hT) ?_;refine a2y ?_;refine al rfl rfl ?_ ?_<;>intro r0
 ·
  have h0:=tz1 r0;(iterate 4 refine k9 (gtf r0) ?_);refine w_7 ?_;refine hrr ?_
  omega
 have h0:=tz2 r0;(iterate 4 refine qy ?_ (hg:=(gff r0)));refine w_2 ?_;refine ax _ rfl ?_ ?_<;>intro r1
 · have h1:=tz1 (bn r0 r1);refine w_4 ?_;refine hrr ?_;omega
 have h1:=tz2 (bn r0 r1);refine v_5 ?_;exact CoL.refl _
def bps (q:List Int) (n:Nat) (s:AS) (a:Nat) (hn:n<=16) (hr:q.length=2^n) (hs:s.toNat<2^n) (ha:a<n):a7 bxr 188 [b44 q n,pA s,pI (a:Int)] (ae [pB (av3 q s a)]):=by
 refine hpx (nt:=21) Tryz.func188 ?_;have ho:=bg2 hs ha bx5;have e:bu .or .u32 (asI s) (IntKind.wrap .u32 (1*2^(min ((a:Int)).toNat IntKind.u32.bits)))=asI (s|||((1:AS)<<<a)):=by rw[show IntKind.wrap .u32 (1*2^(min ((a:Int)).toNat IntKind.u32.bits))=asI ((1:AS)<<<a) from a0j 1 a,bOr]
 refine sx7 ?_;refine m9 0 ?_;refine w_7 ?_;refine rq rfl rfl rfl rfl rfl ?_ (hp:=⟨rfl,tj s,by rw[hr];exact Int.ofNat_lt.2 hs⟩);refine w_7 ?_;refine rq rfl rfl rfl rfl rfl ?_ (hp:=⟨rfl,by rw[e];exact tj _,by rw[e,hr];exact Int.ofNat_lt.2 ho⟩);refine v_5 ?_;exact⟨ccb (by rw[e];rfl),trivial⟩
def bpx (y z:AS):a7 bxr 187 [pA y,pP (bx (asC z))] (ae [pB (decide (sub y z))]):=by
 refine hpx (nt:=8) Tryz.func187 ?_;refine gh ?_;exact hx8 rfl rfl rfl (⟨ccb (decide_eq_decide.2 ep),trivial⟩)
def bm0(l:List AS)(z:AS):a7 bxr 67 [pP (asl l),pP (.fn 187 1 (fun j=>[bx (asC z)].getD j .any))] (ae [pB (l.any fun y=>decide (sub y z))]):=aa6 l 187 1 _ _ (wgx Tryz.func187) fun y=>bpx y z
def bxl{p:Prop}(h:p:=by first|exact a1i bx5 bx6|exact a2e bx6|exact a1o bx6):p:=h
def bog(q:List Int)(n a:Nat)(hn:n<=16)(hr:q.length=2^n)(ha:a<n):a7 bxr 136 [b44 q n,pI (a:Int),pI 16] (ae [pP (asl (mnL q n a))]):=by
 refine hpx (nt:=54) Tryz.func136 ?_;refine sx7 ?_;refine m9 0 ?_;refine gh ?_;refine d8 7 900 true 1 50 (lf sC []) bxc rfl (CoP.sl rfl (.inr rfl) (fun h=>h) (fun i j hi _=>absurd hi (bt9 i))) (.inr rfl) rfl ?_;refine bw (ka 1 (ka 2 (ka 3 kn))) (kb 0 km) (fun k=>⟨[(7,some (.v (.one (.ref 900 (mnT q n a k).length)))),(8,some (vI k))],[(900,some (.arr true 1 50 (mnT q n a k).length (lf sC (mnT q n a k))))]⟩) (n+1) kk ?_;rintro k hk;have htl:=au1 (rk:=q) (a:=a) hn (k:=k);refine cr ?_;refine hcd ?_ ?_<;>intro h0
 ·
  have hkn:k<=n:=by omega
  have hll:=alw (k:=k) hn;refine w_8 ?_;refine qcx (wgx Tryz.func186) (bir n k hn bx5) ?_;refine mq ?_;refine bw (ka 1 (ka 2 (ka 3 (ka 8 (ka 28 (ka 29 kn)))))) (kb 0 km) (fun j=>⟨[(7,some (.v (.one (.ref 900 (mnK q n a (mnT q n a k) k j).length)))),(30,some (vI j))],[(900,some (.arr true 1 50 (mnK q n a (mnT q n a k) k j).length (lf sC (mnK q n a (mnT q n a k) k j))))]⟩) ((lc n k).length) kk ?_;rintro j hj;have hkl:=ahb (rk:=q) (n:=n) (a:=a) (k:=k) (out:=mnT q n a k) hj;refine w_5 ?_;refine hcd ?_ ?_<;>intro h1
  ·
   have hjl:j<(lc n k).length:=by omega
   have hsl:=bbb hn hjl;refine w_7 ?_;refine m9 1 ?_;refine w_2 ?_;refine ci 12 rfl rfl rfl ?_;refine w_9 ?_;refine al rfl rfl ?_ ?_<;>intro r2
   ·
    have h2:=tz1 r2;(iterate 3 refine k9 (gtf r2) ?_);refine w_8 ?_
    first | (refine lpz (j+1) ⟨⟨⟨_, rfl, (bo (a28 hjl (a6i bx5 bx6 bx6 bx6)))⟩, tt⟩, ⟨⟨_, rfl, (bq (a28 hjl (a6i bx5 bx6 bx6 bx6)) (CoP.refl _))⟩, uu⟩⟩ ?_; show j+1<=_; omega)
          |(refine lpz (j+1) ⟨⟨⟨_,rfl,(be (a1w hjl bxl))⟩,tt⟩,⟨⟨_,rfl,(az (a1w hjl bxl))⟩,uu⟩⟩ ?_;show j+1<=_;omega)
   have h2:=tz2 r2;(iterate 2 refine qy ?_ (hg:=(gff r2)));refine qcx a3i (bm0 (mnK q n a (mnT q n a k) k j) ((lc n k).getD j default)) ?_ (hg:=(gff r2));refine w_2 ?_;refine ax _ rfl ?_ ?_<;>intro r3
   ·
    have h3:=bn r2 r3;refine w_5 ?_
    first | (refine lpz (j+1) ⟨⟨⟨_, rfl, (bo (a28 hjl (a6i bx5 bx6 bx6 bx6)))⟩, tt⟩, ⟨⟨_, rfl, (bq (a28 hjl (a6i bx5 bx6 bx6 bx6)) (CoP.refl _))⟩, uu⟩⟩ ?_; show j+1<=_; omega)
          |(refine lpz (j+1) ⟨⟨⟨_,rfl,(be (a1w hjl bxl))⟩,tt⟩,⟨⟨_,rfl,(az (a1w hjl bxl))⟩,uu⟩⟩ ?_;show j+1<=_;omega)
   have h3:=bn r2 r3;refine w_6 ?_;refine qcx (wgx Tryz.func188) (bps q n ((lc n k).getD j default) a hn hr hsl ha) ?_;refine dq ?_;refine hcb ?_ ?_<;>intro h4
   ·
    refine w_3 ?_;refine m9 2 ?_;refine r9 3 true ?_;refine w_6 ?_
    first | (refine lpz (j+1) ⟨⟨⟨_, rfl, (bo (a28 hjl (a6i bx5 bx6 bx6 bx6)))⟩, tt⟩, ⟨⟨_, rfl, (bq (a28 hjl (a6i bx5 bx6 bx6 bx6)) (CoP.refl _))⟩, uu⟩⟩ ?_; show j+1<=_; omega)
          |(refine lpz (j+1) ⟨⟨⟨_,rfl,(be (a1w hjl bxl))⟩,tt⟩,⟨⟨_,rfl,(az (a1w hjl bxl))⟩,uu⟩⟩ ?_;show j+1<=_;omega)
   refine w_5 ?_
   first | (refine lpz (j+1) ⟨⟨⟨_, rfl, (bo (a28 hjl (a6i bx5 bx6 bx6 bx6)))⟩, tt⟩, ⟨⟨_, rfl, (bq (a28 hjl (a6i bx5 bx6 bx6 bx6)) (CoP.refl _))⟩, uu⟩⟩ ?_; show j+1<=_; omega)
         |(refine lpz (j+1) ⟨⟨⟨_,rfl,(be (a1w hjl bxl))⟩,tt⟩,⟨⟨_,rfl,(az (a1w hjl bxl))⟩,uu⟩⟩ ?_;show j+1<=_;omega)
  obtain rfl:j=(lc n k).length:=by omega
  refine w_6 ?_;exact lpx (k+1) ⟨⟨⟨_,rfl,(CoR.of_eq (by rw[ac3]))⟩,tt⟩,⟨⟨_,rfl,(CoO.of_eq (by rw[ac3]))⟩,uu⟩⟩
 obtain rfl:k=n+1:=by omega
 refine w_2 ?_;refine bj 7 rfl rfl rfl ?_;refine v_4 ?_;exact⟨CoC.one (CoP.refl _),trivial⟩
end
section
def lg(t:Tbl)(k:Nat):Prt:=bho t (a57 t k) k
section
variable {t:Tbl}
def aac:∀{m k:Nat},k<m->(a57 t m).getD k default=lg t k
 | m+1,k,h=>by
  rw[a57];by_cases e:k<m
  · rw[dn _ _ (by rw[bt8,nn];omega),List.getElem_append_left (by rw[nn];exact e),<- dn (a57 t m) k (by rw[nn];exact e),aac e]
  obtain rfl:k=m:=by omega
  rw[dn _ _ (by rw[bt8,nn];simp),List.getElem_append_right (by rw[nn];omega)];simp[nn,lg]
def jx(t:Tbl)(m i:Nat):List Prt:=(List.range m).map fun k=>if k<i then lg t k else⟨0,[]⟩
variable {i m:Nat}
def a58:(jx t m i).length=m:=by simp[jx]
def aii {k:Nat} (hk:k<m) (hi:k<i):(jx t m i).getD k default=lg t k:=by
 rw[dn _ _ (by rw[a58];exact hk)];simp[jx,hi]
def b0r (hi:i<m):jx t m (i+1)=(jx t m i).set i (lg t i):=by
 refine bvc (by simp[jx]) fun k h1 h2=>?_;rw[bvu];simp only[jx,bvl,bvb];by_cases e:i=k
 · subst e;rw[if_pos bx5,if_pos rfl]
 rw[if_neg e];by_cases h:k<i
 · rw[if_pos bx5,if_pos h]
 rw[if_neg bx5,if_neg h]
def a1a(t:Tbl)(m i:Nat):List Int:=(List.range m).map fun k=>if k<i then awa (lg t k)else 0
def a4p:(a1a t m i).length=m:=by simp[a1a]
def b1f (hi:i<m):a1a t m (i+1)=(a1a t m i).set i (awa (lg t i)):=by
 refine bvc (by simp[a1a]) fun k h1 h2=>?_;rw[bvu];simp only[a1a,bvl,bvb];by_cases e:i=k
 · subst e;rw[if_pos bx5,if_pos rfl]
 rw[if_neg e];by_cases h:k<i
 · rw[if_pos bx5,if_pos h]
 rw[if_neg bx5,if_neg h]
def aoy:a1a t (2^t.attrs.length) (2^t.attrs.length)=ap t:=by
 unfold ap awf a1a;refine bvc (by simp[nn]) fun k h1 h2=>?_;have hk:k<2^t.attrs.length:=by simpa using h1
 simp only[bvl,bvb,if_pos hk];rw[<- aac hk,dn _ _ (by rw[nn];exact hk)]
def bme (hi:i<m):lf zC (a1a t m 0) i 0=.raw (.int .i64 0):=by
 unfold lf;rw[dn _ _ (by rw[a4p];exact hi)];simp[a1a,zC]
def az8 (hi:i<m):(jx t m 0).getD i default=⟨0,[]⟩:=by
 rw[dn _ _ (by rw[a58];exact hi)];simp[jx]
def bns (hi:i<m):lf Prt.c (jx t m 0) i 0=.raw (.int .i64 0):=by
 unfold lf;rw[az8 hi];rfl
def bli (hi:i<m):lf Prt.c (jx t m 0) i 1=ill []:=by
 unfold lf;rw[az8 hi];rfl
def bhj (h:i<4294967296):IntKind.wrap .u32 ((i:Int)-1)=asI (nA i-1):=by
 show _=(((nA i-1).toNat:Nat):Int);rw[BitVec.toNat_sub,a6j h];unfold IntKind.wrap
 cases i with
 |zero=>decide
 | succ i =>
  show(((i+1:Nat):Int)-1)%4294967296=_;rw[show(1:AS).toNat=1 from rfl];omega
def bgj (h:i<4294967296):bu .and .u32 (i:Int) (IntKind.wrap .u32 ((i:Int)-1))=asI (fq i):=by
 rw[bhj h,show(i:Int)=asI (nA i) from (a32 h).symm,it];rfl
def as9{s t:AS}(hi:i<32):(s&&&~~~t).getLsbD i=(s.getLsbD i&&!t.getLsbD i):=by simp[hi]
def au4 (h:i<4294967296) (h0:fq i≠0):(fq i).toNat<i:=by
 have hne:nA i≠0:=fun e=>h0 (by unfold fq;rw[e];rfl);have:=ao6 hne;rw[a6j h]at this;exact this
def atq(h:i<4294967296)(h0:fq i≠0):(nA i&&&~~~(fq i)).toNat<i:=by
 have h1:sub (nA i&&&~~~(fq i)) (nA i):=ai.2 fun z hz hb=>by
  rw[as9 hz,bt3]at hb;exact hb.1
 have:=vz h1 fun e=>h0 (by
  apply bu7;intro z hz;have e2:=congrArg (fun x:AS=>x.getLsbD z) e;simp only[as9 hz]at e2
  have h3:(fq i).getLsbD z=true->(nA i).getLsbD z=true:=fun hb=>by
   unfold fq at hb;rw[bta,bt3]at hb;exact hb.1
  rw[show(0:AS).getLsbD z=false by simp,btf];intro hb;rw[h3 hb,hb]at e2
  cases e2)
 rw[a6j h]at this;exact this
def bh5 (h:i<4294967296) {s:AS}:bu .andNot .u32 (i:Int) (asI s)=asI (nA i&&&~~~s):=by
 rw[show(i:Int)=asI (nA i) from (a32 h).symm,mc]
def axj(h:fq i=0):lg t i=al4 t (nA i):=if_pos h
def bjm (hi:i<4294967296) (h:fq i≠0):lg t i=b33 (lg t (fq i).toNat) (lg t (nA i&&&~~~(fq i)).toNat):=by
 have h1:=au4 hi h;have h2:=atq hi h;rw[<- aac h1,<- aac h2];exact if_neg h
def afb {k:Nat} {p:Prt} {x y:PV} (hi:i<m) (hk:k=i) (hp:lg t i=p) (hx:x=p.c 0) (hy:y=p.c 1):
 CoO (.arr true 2 235 m (fz (lf Prt.c (jx t m i)) k 0 [x,y])) (.arr true 2 235 m (lf Prt.c (jx t m (i+1)))):=by
 subst hp;rw[b0r hi];exact amc (fun h=>h) a58.symm hk (by rw[a58];exact hi) hx hy
end
end
section
open Go.Proofs
def bju(t:Tbl)(hT:TOk t)(hg:∀k,k<(2^t.attrs.length)->lm (lg t k)=true/\(lg t k).rows=t.rows.length):a7 bxr 135 [t.pc] (ae [b44 (ap t) t.attrs.length]):=by
 refine hpx (nt:=68) Tryz.func135 ?_;have hna:=hT.na;have hp:=afz hna;have hs:=b7w hna;have h64:IntKind.wrap .i64 (1*2^(min ((t.attrs.length:Int)).toNat IntKind.i64.bits))=(((2^t.attrs.length):Nat):Int):=avn (n:=(t.attrs.length:Int)) bx5 bx5;have h65:(IntKind.wrap .i64 (1*2^(min ((t.attrs.length:Int)).toNat IntKind.i64.bits))).toNat=(2^t.attrs.length):=by rw[h64];rfl
 refine sx7 ?_;refine m9 0 ?_;refine m9 1 ?_;refine mq ?_;refine rm 2 rfl rfl rfl rfl rfl rfl ?_ (hp:=(by dsimp only;rw[h64];(repeat' apply And.intro)<;>first|trivial|omega));refine qy ?_;refine m9 3 ?_;refine w_6 ?_;refine rm 4 rfl rfl rfl rfl rfl rfl ?_ (hp:=(by dsimp only;rw[h64];(repeat' apply And.intro)<;>first|trivial|omega));refine cr ?_;refine bw (ka 1 (ka 2 (ka 4 (ka 20 kn)))) (kb 0 (kb 1 km)) (fun i=>⟨[(5,some (.v (.one (.ref 4 (2^t.attrs.length))))),(21,some (.v (.one (.p (.raw (.int .u32 (i:Int)))))))],[(2,some (.arr true 1 3 (2^t.attrs.length) (lf zC (a1a t (2^t.attrs.length) i)))),(3,some (.box [.p (.raw (.int .i64 (t.attrs.length:Int))), .ref 2 (2^t.attrs.length)])),(4,some (.arr true 2 235 (2^t.attrs.length) (lf Prt.c (jx t (2^t.attrs.length) i))))]⟩) (2^t.attrs.length) ⟨⟨⟨_,rfl,(CoR.of_eq (by dsimp only;rw[h65]))⟩,tt⟩,⟨⟨_,rfl,(a7o (by rw[h65]) fun i hi=>CoP.of_eq (by rw[bme (by rw[<- h65];exact hi)];rfl))⟩,⟨_,rfl,⟨CoH.refl _,congrArg (HV.ref 2) h65,trivial⟩⟩,⟨_,rfl,(asf (by rw[h65]) fun i hi=>⟨CoP.of_eq (by rw[bns (by rw[<- h65];exact hi)];rfl),by rw[bli (by rw[<- h65];exact hi)];exact amv⟩)⟩,trivial⟩⟩ ?_;rintro i hi;refine w_5 ?_;refine hcd ?_ ?_<;>intro h0
 ·
  have him:i<(2^t.attrs.length):=by omega
  have hrv:=bgj (i:=i) bx5;have hdv:=bh5 (i:=i) (s:=(fq i)) bx5;have hzi:(jx t (2^t.attrs.length) (i+1)).getD ((i:Int)).toNat default=lg t i:=aii him bx5;refine gh ?_;refine rqw rfl rfl rfl rfl rfl ?_;refine w_3 ?_;refine a1y (ka 1 (ka 2 (ka 4 (ka 5 (ka 6 (ka 20 (ka 21 kn))))))) (kb 2 (kb 3 (kb 0 (kb 1 km)))) ⟨[],[(4,some (.arr true 2 235 (2^t.attrs.length) (lf Prt.c (jx t (2^t.attrs.length) (i+1)))))]⟩ ?_ ?_
  ·
   refine w_7 ?_;refine hcd ?_ ?_<;>intro h1
   · have hz0:fq i=0:=cb.1 (hrv.symm.trans h1);refine w_5 ?_;refine rc rfl rfl rfl rfl rfl rfl (wgx Tryz.func183) (bmu t (nA i) hT (asg (by rw[a6j bx5];exact him))) (⟨CoC.refl _,cci (a32 bx5).symm,trivial⟩) rfl rfl ?_;refine w_6 ?_;exact⟨tt,⟨⟨_,rfl,(by first|exact afb him (by simp only[btc]) (axj hz0) rfl rfl|exact afb him (by simp only[btc]) hpr rfl rfl)⟩,uu⟩⟩
   have hne:fq i≠0:=fun e=>h1 (by rw[hrv,e];rfl);have hrl:=au4 (i:=i) bx5 hne;have hdl:=atq (i:=i) bx5 hne;have hz1:(jx t (2^t.attrs.length) i).getD (asI (fq i)).toNat default=lg t (fq i).toNat:=aii (k:=(fq i).toNat) bx5 bx5;have hz2:(jx t (2^t.attrs.length) i).getD (asI ((nA i&&&~~~(fq i)))).toNat default=lg t ((nA i&&&~~~(fq i))).toNat:=aii (k:=((nA i&&&~~~(fq i))).toNat) bx5 bx5;have hpr:=bjm (t:=t) (i:=i) bx5 hne;rw[<- hz1,<- hz2]at hpr;have hx1:lm ((jx t (2^t.attrs.length) i).getD (asI (fq i)).toNat default)=true:=by rw[hz1];exact(hg _ bx5).1
   have hx2:lm ((jx t (2^t.attrs.length) i).getD (asI ((nA i&&&~~~(fq i)))).toNat default)=true:=by rw[hz2];exact(hg _ bx5).1
   have hx3:((jx t (2^t.attrs.length) i).getD (asI (fq i)).toNat default).rows=((jx t (2^t.attrs.length) i).getD (asI ((nA i&&&~~~(fq i)))).toNat default).rows:=by rw[hz1,hz2,(hg _ bx5).2,(hg _ bx5).2]
   refine w_5 ?_;(iterate 2 refine rq rfl rfl rfl rfl rfl ?_ (hp:=(by dsimp only;rw[hrv];(repeat' apply And.intro)<;>first|trivial|rfl|exact tj _|exact Nat.lt_trans hrl him|exact Int.ofNat_lt.2 (Nat.lt_trans hrl him)|omega)));refine w_4 ?_;(iterate 2 refine rq rfl rfl rfl rfl rfl ?_ (hp:=(by dsimp only;rw[hrv,hdv];(repeat' apply And.intro)<;>first|trivial|rfl|exact tj _|exact Nat.lt_trans hdl him|exact Int.ofNat_lt.2 (Nat.lt_trans hdl him)|omega)));refine rc rfl rfl rfl rfl rfl rfl (wgx Tryz.func184) (bkb ((jx t (2^t.attrs.length) i).getD (asI (fq i)).toNat default) ((jx t (2^t.attrs.length) i).getD (asI ((nA i&&&~~~(fq i)))).toNat default) hx1 hx2 hx3) (⟨CoC.of_eq (by rw[hrv];rfl),CoC.of_eq (by rw[hrv,hdv];rfl),trivial⟩) rfl rfl ?_;refine w_7 ?_;exact⟨tt,⟨⟨_,rfl,(by first|exact afb him (by simp only[btc]) (axj hz0) rfl rfl|exact afb him (by simp only[btc]) hpr rfl rfl)⟩,uu⟩⟩
  refine w_8 ?_;refine rc rfl rfl rfl rfl rfl rfl (wgx Tryz.func185) (bhc (lg t i) (hg i him).1) (⟨CoC.of_eq (by show PC.agg [Prt.c ((jx t (2^t.attrs.length) (i+1)).getD ((i:Int)).toNat default) 0,Prt.c ((jx t (2^t.attrs.length) (i+1)).getD ((i:Int)).toNat default) 1]=_;rw[hzi]),trivial⟩) rfl rfl ?_;refine w_8 ?_;exact lpx (i+1) ⟨tt,⟨⟨_,rfl,(by rw[b1f him];exact vb (fun h=>h) a4p.symm (by simp only[btc]) (by rw[a4p];exact him) rfl)⟩,uu⟩⟩
 obtain rfl:i=(2^t.attrs.length):=by omega
 refine w_2 ?_;refine sj 3 1 rfl rfl rfl rfl rfl ?_;refine v_4 ?_;exact⟨CoC.agg ⟨CoP.refl _,(by rw[aoy];exact CoP.sl (by rw[<- aoy,a4p]) (.inl rfl) (fun h=>h) (fun _ _ _ _=>CoP.refl _)),trivial⟩,trivial⟩
end
section
def a29(l:List Fd)(z:Int):Option PV:=match l.find? (fun f=>decide (asI f.lhs=z)) with|some f=>some (asC (mgR l f.lhs))|none=>none
def a5n (l:List Fd):MK->Option PV
 | .i .u32 z=>a29 l z
 |_=>none
def wfA (s:AS):(Lit.int .u32 (asI s)).wf=true:=by
 have h1:=a6v s;have h2:=tj s;have e1:IntKind.min .u32=0:=by decide
 have e2:IntKind.max .u32=4294967295:=by decide
 simp only[Lit.wf,e1,e2,bt3,decide_eq_true_eq];omega
section
variable {l:List Fd}
def b4y {s:AS} (h:∀f∈l,¬f.lhs=s):mgR l s=0:=by
 unfold mgR;rw[bw3.2 fun f hf=>by simpa using h f hf];rfl
def aen {s:AS} {f:Fd} (h:l.find? (fun f=>decide (asI f.lhs=asI s))=some f):f.lhs=s:=by
 have:=bx1 h;exact cb.1 (of_decide_eq_true this)
def aem(l:List Fd)(s:AS):a56 (a5n l) (.i .u32 (asI s)) (.int .u32 0)=asC (mgR l s):=by
 show(match a29 l (asI s) with|some y=>y|none=>kj (.int .u32 0))=_;unfold a29
 cases h:l.find? (fun f=>decide (asI f.lhs=asI s)) with
 | some f =>
  have:=aen h;subst this;rfl
 | none =>
  rw [b4y fun f hf e=>by
   have:=bva.1 h f hf;rw[e]at this
   exact this (decide_eq_true rfl)]
  rfl
def axi (m:MK):CoM none (a5n [] m):=by
 cases m with
 |i q z=>cases q<;>exact CoM.refl _
 |s b=>exact CoM.refl _
def b25{i:Nat}(hi:i<l.length)(z:Int):(if z=asI (l.getD i default).lhs then some (PV.raw (.int .u32 (bu .or .u32 (asI (mgR (l.take i) (l.getD i default).lhs)) (asI (l.getD i default).rhs))))else a29 (l.take i) z)=a29 (l.take (i+1)) z:=by
 unfold a29;by_cases hz:z=asI (l.getD i default).lhs
 · subst hz
   rw[if_pos rfl,bor hi rfl]
   cases h:(l.take (i+1)).find? (fun f=>decide (asI f.lhs=asI (l.getD i default).lhs)) with
   | some f =>
    have:=aen h;rw[<- this]
   | none =>
    have:=bva.1 h (l.getD i default) (by rw[aj hi];simp);exact absurd (decide_eq_true rfl) this
 rw[if_neg hz,aj hi,List.find?_append]
 have hx:[l.getD i default].find? (fun f=>decide (asI f.lhs=z))=none:=by
  rw[List.find?_cons,decide_eq_false (fun e=>hz e.symm)];rfl
 rw[hx,Option.or_none]
 cases h:(l.take i).find? (fun f=>decide (asI f.lhs=z)) with
 |none=>rfl
 | some f =>
  have hf0:=bx1 h;have hf:asI f.lhs=z:=of_decide_eq_true hf0;dsimp only;rw[<- aj hi,bmi hi (fun e=>hz (by rw[e];exact hf.symm))]
def b0l{i:Nat}(hi:i<l.length)(m:MK):CoM (yn (a5n (l.take i)) (.i .u32 (asI (l.getD i default).lhs)) (.raw (.int .u32 (bu .or .u32 (asI (mgR (l.take i) (l.getD i default).lhs)) (asI (l.getD i default).rhs)))) m) (a5n (l.take (i+1)) m):=by
 refine CoM.of_eq ?_;unfold yn
 cases m with
 |s b=>rfl
 | i q z =>
  by_cases hq:q=.u32
  · subst hq
    show(bif (decide True&&decide (z=_))then _ else a29 _ z)=a29 _ z;rw[<- b25 hi z];by_cases hz:z=asI (l.getD i default).lhs
    · rw[if_pos hz,decide_eq_true hz];rfl
    rw[if_neg hz,decide_eq_false hz];rfl
  have h1:MK.same (.i q z) (.i .u32 (asI (l.getD i default).lhs))=false:=by
   show(decide _&&decide _)=false;rw[decide_eq_false hq,Bool.false_and]
  rw[h1];cases q<;>first|rfl|exact absurd rfl hq
end
end
section
open Go.RowKit
section
variable {P:Program}{nt:Nat}{ops:Array Oper}{st:HSt}{L:List Nat}{Q:HSt->Prop}{k d:Nat}{o:Oper}{t:TypeId}
theorem ajz {x:Operand} {v0 v1:Value} {te:TypeId} {ie:TI} (j:Nat) (hi:ops[k]? = some o) (ht:P.underlying t=some (.array 2 te)) (hte:w5 P te=some ie) (hag:ie.k.isAgg=false) (hsz:ie.size=1) (hj:j<2)
 (h:RN P nt ops L ⟨(d,some (.v (.one (.p (.raw (if j=0 then v0 else v1))))))::st.t,st.o⟩ Q)
 (hg:o.guard=none:=by exact rfl) (ho:o.op=.index t x (.const (.int .i64 (j:Int))):=by exact rfl) (hd:o.dst=some d:=by exact rfl) (hdn:cz nt (some d)=true:=by exact rfl)
 (hx:ev st.den x=some (.v (.agg [.p (.raw v0), .p (.raw v1)])):=by exact rfl):RN P nt ops (k::L) st Q :=
 adm hi hg hd hdn (fun c hc=>by rw[hc]at ho;cases ho) fun w0 a w c hrr=>by
  obtain⟨us,e1,hl⟩:=af hrr hx
  match us,hl with
  | [u0,u1],⟨⟨q0,o0⟩,⟨q1,o1⟩,_⟩ =>
   subst q0 q1;obtain⟨r,hp⟩:=xq hte [u0,u1] j w;have ez:a.eval (.const (.int .i64 (j:Int)))=.int .i64 (j:Int):=rfl
   have hrun:(Instr.index t (.agg #[u0,u1]) (.int .i64 (j:Int))).run P w=.ok (if j=0 then u0 else u1) w:=by
    have hin:(0:Int)<=(j:Int)/\(j:Int)<((2:Nat):Int):=⟨by omega,by omega⟩;unfold Instr.index;simp only[asIntOf,bu5,but,btj,run_underlying ht,if_pos hin,ej hte,hsz,bw2,btc]
    grind
   exact⟨if j=0 then u0 else u1,w,st.o, .v (.one (.p (.raw (if j=0 then u0 else u1)))),c,rfl,by simp[execOp,ho,e1,ez,hrun],hrr,(show fu c (HSt.den ⟨st.t,st.o⟩).o (.one (.p (.raw (if j=0 then u0 else u1)))) (if j=0 then u0 else u1) from ⟨rfl,by split<;>assumption⟩),h⟩
end
def mkS(s:AS):Value:=.int .u32 (asI s)
def ag7{a b:AS}(h:mkS a=mkS b):a=b:=cb.1 (Value.int.inj h).2
structure WIn (P:Program) (es:Array MapEntry) (clock:Nat) (l:List AS):Prop where
 mx:oz P 50 es clock
 to:∀e∈es.toList,∃s∈l,e.key=mkS s
 at_:∀s∈l,∃e∈es.toList,e.key=mkS s
 vl:∀e∈es.toList,∃a b:Int,e.val=.agg #[.int .i64 a, .int .i64 b]
 sz:es.size<=l.length
section
variable {P:Program}{clock:Nat}
theorem WIn.nil:WIn P #[] clock []:=⟨oz.nil,fun e he=>by simp at he,fun s hs=>by simp at hs,fun e he=>by simp at he,bt2 _⟩
variable {es:Array MapEntry}{l:List AS}{s:AS}
theorem WIn.put{es':Array MapEntry}{clock':Nat}{a b:Int}(h:WIn P es clock l)(hX:oz P 50 es' clock')(hP:amg es es' (mkS s) (.agg #[.int .i64 a, .int .i64 b])):WIn P es' clock' (l++[s]):=by
 refine⟨hX,fun e he=>?_,fun x hx=>?_,fun e he=>?_, ?_⟩
 · rcases hP.to e he with⟨h1,_⟩|⟨h1,_⟩
   · obtain ⟨x,hx,e2⟩:=h.to e h1
     grind
   grind
 · rcases btn.1 hx with hx|hx
   · obtain ⟨e,he,hk⟩:=h.at_ x hx
     by_cases hq:e.key=mkS s
     · obtain ⟨y,y1,y2,_⟩:=hP.at_
       grind
     obtain⟨y,y1,y2,_⟩:=hP.old e he hq
     grind
   obtain rfl:x=s:=by simpa using hx
   obtain⟨y,y1,y2,_⟩:=hP.at_
   grind
 · rcases hP.to e he with⟨h1,_⟩|⟨_,h1⟩
   · exact h.vl e h1
   grind
 have:=hP.sz;have:=h.sz
 grind
theorem WIn.absent (h:WIn P es clock l) (hn:∀e∈es.toList,e.key≠mkS s):¬s∈l:=fun hs=>by
 obtain⟨e,he,hk⟩:=h.at_ s hs
 grind
theorem WIn.found (h:WIn P es clock l) {e:MapEntry} (he:e∈es.toList) (hk:e.key=mkS s):s∈l:=by
 obtain⟨x,hx,e2⟩:=h.to e he;rw[ag7 (hk.symm.trans e2)];exact hx
theorem a96 (h:¬s∈ig l):ig (l++[s])=ig l++[s]:=by
 rw[akc];unfold a6z
 grind
theorem a9y (h:s∈ig l):ig (l++[s])=ig l:=by
 rw[akc];unfold a6z
 grind
theorem apv:∀{l:List AS},(ig l).length<=l.length:=by
 have key:∀(l o:List AS),(l.foldl a6z o).length<=o.length+l.length:=by
  intro l
  induction l with
  |nil=>intro o;exact bt2 _
  | cons x l ih =>
   intro o;have:=ih (a6z o x)
   have h2:(a6z o x).length<=o.length+1:=by
    unfold a6z
    grind
   grind
 intro l;have h:=key l [];rw[bwh,bu1]at h;exact h
variable {i:Nat}
theorem am3 {l:List Row} {k:Nat}:(lh l i k).length<=(i+1)*l.length:=by
 have h1:∀i,(((List.range i).map (a1r l)).flatten).length<=i*l.length:=by
  intro i
  induction i with
  |zero=>simp
  | succ i ih =>
   rw[bu3,bux,bv8,bt8];have:=a8o l i
   grind
 unfold lh;rw[bt8];have:=h1 i
 have h2:((a1r l i).take (k-(i+1))).length<=l.length:=by
  rw[btp,a8o];omega
 grind
def bbo {l:List Row} {k:Nat} (hi:i<l.length) (h:l.length<=1000):(ig (lh l i k)).length<=1000000:=by
 have h1:=apv (l:=lh l i k);have h2:=am3 (l:=l) (i:=i) (k:=k);have h3:(i+1)*l.length<=1000*1000:=Nat.mul_le_mul bx5 h;omega
def b0f {l:List Row} (h:l.length<=1000):(ig (prs l)).length<=2000000:=by
 have h1:=apv (l:=prs l);have h2:=am3 (l:=l) (i:=l.length) (k:=l.length+1);rw[am4]at h2;have h3:(l.length+1)*l.length<=1001*1000:=Nat.mul_le_mul bx5 h;omega
def j1 {l:List Row} {j q:Nat} (hk:i+1+j<l.length) (hq:q=i+1+j):lh l i (i+1+(j+1))=lh l i (i+1+j)++[agR (l.getD i default) (l.getD q default)]:=by
 subst hq;exact axo (show i<i+1+j by omega) hk
def a5w{l:List Row}(hi:i<l.length):lh l i (i+1+(l.length-(i+1)))=lh l (i+1) (i+1+1):=azx bx5
variable {av:List AS}{n:Nat}
def a8n (hi:i<(b6 (a6 (n:Int))).length):ru n av (i+1)=ahn av (ru n av i) ((b6 (a6 (n:Int))).getD i default):=by
 unfold ru;rw[aj hi,btr];rfl
def a3c (hi:i<(b6 (a6 (n:Int))).length) (h1:(av.any fun y=>decide (sub ((b6 (a6 (n:Int))).getD i default) y))=false) (h2:((ru n av i).any fun y=>decide (sub y ((b6 (a6 (n:Int))).getD i default)))=false):
 ru n av (i+1)=ru n av i++[(b6 (a6 (n:Int))).getD i default]:=by
 rw[a8n hi];exact if_pos ⟨h1,h2⟩
def a0e (hi:i<(b6 (a6 (n:Int))).length) (h1:(av.any fun y=>decide (sub ((b6 (a6 (n:Int))).getD i default) y))=true):ru n av (i+1)=ru n av i:=by
 rw[a8n hi];exact if_neg fun e=>by rw[show bhu av _=true from h1]at e;cases e.1
def a06 (hi:i<(b6 (a6 (n:Int))).length) (h2:((ru n av i).any fun y=>decide (sub y ((b6 (a6 (n:Int))).getD i default)))=true):ru n av (i+1)=ru n av i:=by
 rw[a8n hi];exact if_neg fun e=>by rw[h2]at e;cases e.2
theorem b3s:∀{i:Nat},(ru n av i).length<=i:=by
 intro i
 have key:∀(l o:List AS),(l.foldl (ahn av) o).length<=o.length+l.length:=by
  intro l
  induction l with
  |nil=>intro o;exact bt2 _
  | cons x l ih =>
   intro o;have:=ih (ahn av o x)
   have h2:(ahn av o x).length<=o.length+1:=by
    unfold ahn
    grind
   grind
 have h:=key ((b6 (a6 (n:Int))).take i) [];have h3:=List.length_take_le i (b6 (a6 (n:Int)));rw[bwh,bu1]at h;exact bth h h3
def ak9:(dl l).length<=l.length:=bth (buo _ _) (pn l)
def wC (s:AS):Nat->PV
 |0=>asC s
 |_=>.any
end
section
variable {P:Program}{nt:Nat}{ops:Array Oper}{st:HSt}{L:List Nat}{Q:HSt->Prop}{k d:Nat}{o:Oper}{t kt et b mid:Nat}{es:Array MapEntry}{clock:Nat}
def aod {x ix:Operand} {kv:Value} {kl:Lit} {kx:HR} {l:List AS} (hi:ops[k]? = some o) (ht:P.underlying t=some (.map 50 et)) (K:Go.Maps.Keyed P 50) (hz:∀w,(zeroValue et).run P w=.ok (.agg #[.int .i64 0, .int .i64 0]) w) (hW:WIn P es clock l)
 (hkey:keyOf P 50 kv=some kl) (hkv:kOf kx=some kv)
 (h:∀a0 b0:Int,RN P nt ops L ⟨(d,some (.v (.agg [.p (.raw (.int .i64 a0)), .p (.raw (.int .i64 b0))])))::st.t,st.o⟩ Q)
 (hg:o.guard=none:=by exact rfl) (ho:o.op=.lookup t x ix false:=by exact rfl) (hd:o.dst=some d:=by exact rfl) (hdn:cz nt (some d)=true:=by exact rfl)
 (hx:ev st.den x=some (.v (.one (.ref mid 0))):=by exact rfl) (hm:st.den.o mid=some (mpO b es clock):=by exact rfl) (hk:ev st.den ix=some kx:=by exact rfl):RN P nt ops (k::L) st Q :=
 acz hi ht K hz rfl hW.mx hkey hkv (fun _=>h 0 0) (fun e he _=>by
  obtain⟨a0,b0,e2⟩:=hW.vl e he;rw[e2]
  exact h a0 b0) hg ho hd hdn hx hm hk
end
end
section
structure CpJ (l:List Val) (k p q:Nat) (m:List Val):Prop where
 len:m.length=l.length
 kq:k<q
 pq:p<q
 ql:q<=l.length
 pre:m.take p=ja (l.take q)
 high:∀j,q-1<=j->m.getD j default=l.getD j default
section
variable {l:List Val}
theorem CpJ.start {k:Nat} (h1:1<=k) (hk:k<l.length) (h:∀j,0<j->j<k->¬l.getD j default=l.getD (j-1) default) (hd:l.getD k default=l.getD (k-1) default):CpJ l k k (k+1) l :=
 ⟨rfl,by omega,by omega,by omega,by rw[lx bx5 hk,if_pos hd.symm,btq,uc bx5 h],fun _ _=>rfl⟩
theorem CpJ.skip {k p q:Nat} {m:List Val} (h:CpJ l k p q m) (hq:q<l.length) (he:m.getD q default=m.getD (q-1) default):CpJ l k p (q+1) m:=by
 have hk:=h.kq;refine⟨h.len,by omega,by have:=h.pq;omega,hq, ?_,fun j hj=>h.high j bx5⟩;rw[h.high q bx5,h.high (q-1) bx5]at he;rw[lx bx5 hq,if_pos he.symm,btq,h.pre]
theorem CpJ.keep {k p q:Nat} {m:List Val} (h:CpJ l k p q m) (hq:q<l.length) (he:¬m.getD q default=m.getD (q-1) default):CpJ l k (p+1) (q+1) (m.set p (m.getD q default)):=by
 have hk:=h.kq;have hp:=h.pq;have hl:=h.len;refine⟨by simp[hl],by omega,by omega,hq, ?_,fun j hj=>by rw[getD_set_ne' bx5];exact h.high j bx5⟩;have e:=h.high q bx5;rw[e,h.high (q-1) bx5]at he;rw[lx bx5 hq,if_neg (fun e=>he e.symm),<- h.pre,aj (by simp[hl];omega),nk bx5,e];congr 1;rw[List.take_set,bve bxi]
end
end
end Go.Hx
