/- A part of the proof: Kw4 Kb5 Kw5 Kb6 Kw6 Cs44 Kb7 Jc1. -/
import Derived.Test.YtnlcekpflogjkaaGreatDoorTx37
set_option linter.all false
set_option maxRecDepth 100000
set_option maxHeartbeats 1000000
namespace Go.Hx
section
open Go.Proofs
def ba3 (n:Nat) (l:List Fd) (hn:n <= 10) (hv:bj n l = 0):a6 bw0 132 [pI (n:Int),pP (fdl l)] (af [pI 0]):=by
 refine hpx (nt:=14) Tryz.func132 ?_;refine w_9 ?_;refine qcx zn (aun hv) ?_;refine k8 ?_;refine hcd (fun h0=>?_) (fun h0=>?_)
 · exfalso;omega
 refine v_5 ?_;exact CoL.refl _
def aqa:goodFn bw0 83:=wgx Tryz.func83
def apb (n:Nat) (hn:n <= 10):a6 bw0 83 [pI (n:Int)] (af [pA (aa (n:Int))]):=by
 refine hpx (nt:=6) Tryz.func83 ?_;have h0z:(0:Int) <= (n:Int):=by omega
 have h1z:(n:Int) <= 16:=by omega
 refine w_8 ?_;refine rq rfl rfl rfl rfl rfl ?_ (hp:=⟨ua h0z h1z,qq h0z h1z⟩);refine v_2 ?_;exact ⟨cci (qw h0z h1z),trivial⟩
def bvx {p:Prop} (h:p:=by first | exact a3s bva | exact a3l bva):p:=h
def bn7 (n:Nat) (l:List Fd) (hn:n <= 10) (hv:bj n l = 0):a6 bw0 82 [pI (n:Int),pP (fdl l)] (af [pP (asl (kc (n:Int) (f7 l (n:Int)))),pI 0]):=by
 refine hpx (nt:=73) Tryz.func82 ?_;have hsl:=xr (aa (n:Int));have hcn:(f7 l (n:Int)).length <= 4294967296:=bs4 (btb _ _) hsl;refine dc ?_;refine qcx (wgx Tryz.func132) (ba3 n l hn hv) ?_;refine kf ?_;refine qcx (wgx Tryz.func133) (bam n l bv9 hv) ?_;refine bfq ?_;refine df 9 900 true 1 50 (lf sC []) bvg rfl (CoP.sl rfl (.inr rfl) (fun h=>h) (fun i j hi _=>absurd hi (brg i))) (.inr rfl) rfl ?_;refine br (ka 0 (ka 7 (ka 30 (ka 31 kn)))) km (fun i=>⟨[(9,some (.v (.one (.ref 900 (a1q (n:Int) (f7 l (n:Int)) i).length)))),(32,some (vI i))],[(900,some (.arr true 1 50 (a1q (n:Int) (f7 l (n:Int)) i).length (lf sC (a1q (n:Int) (f7 l (n:Int)) i))))]⟩) ((f7 l (n:Int)).length) kk ?_;rintro i hi;have hcl:=b45 (n:=(n:Int)) (cl:=f7 l (n:Int)) (i:=i);refine w_5 ?_;refine hcd (fun h0=>?_) (fun h0=>?_)
 ·
  have hil:i < (f7 l (n:Int)).length:=by omega
  refine j4 ?_;refine qcx aqa (apb n hn) ?_;refine dc ?_;refine br (ka 0 (ka 7 (ka 9 (ka 11 (ka 30 (ka 31 (ka 32 (ka 38 (ka 39 kn))))))))) (kb 900 km) (fun k=>⟨[(12,some (vA (vq (n:Int) (f7 l (n:Int)) ((f7 l (n:Int)).getD i default) k))),(40,some (vI k))],[]⟩) ((f7 l (n:Int)).length) kk ?_;rintro k hk;refine w_5 ?_;refine hcd (fun h1=>?_) (fun h1=>?_)
  ·
   have hkl:k < (f7 l (n:Int)).length:=by omega
   refine k8 ?_;refine aw rfl rfl (fun r2=>?_) (fun r2=>?_)
   ·
    have h2:=tz2 (eg r2);(iterate 5 refine qy ?_ (hg:=(gtt r2)));refine w_2 ?_;refine au _ rfl (fun r3=>?_) (fun r3=>?_)
    · have h3:=tz1 (ck r2 r3);refine dc ?_;exact lpx (k + 1) ⟨⟨⟨_,rfl,(by first | exact av2 hkl bva bva | exact amr hkl bva | exact ao0 hkl bva)⟩,tt⟩,uu⟩
    have h3:=tz2 (ck r2 r3);refine w_5 ?_;exact lpx (k + 1) ⟨⟨⟨_,rfl,(by first | exact av2 hkl bva bva | exact amr hkl bva | exact ao0 hkl bva)⟩,tt⟩,uu⟩
   have h2:=tz1 (ek r2);(iterate 5 refine k9 (gft r2) ?_);refine w_8 ?_
   exact lpx (k + 1) ⟨⟨⟨_,rfl,(by first | exact av2 hkl bva bva | exact amr hkl bva | exact ao0 hkl bva)⟩,tt⟩,uu⟩
  obtain rfl:k = (f7 l (n:Int)).length:=by omega
  refine w_5 ?_;refine qcx aqa (apb n hn) ?_;refine w_2 ?_;refine aw rfl rfl (fun r4=>?_) (fun r4=>?_)
  ·
   have h4:=tz2 (eg r4);(iterate 3 refine qy ?_ (hg:=(gtt r4)));refine w_2 ?_;refine au _ rfl (fun r5=>?_) (fun r5=>?_)
   ·
    have h5:=tz2 (eg (ck r4 r5));refine w_3 ?_;refine m9 0 ?_;refine r9 1 true ?_;refine w_6 ?_
    first | (refine lpz (i + 1) ⟨⟨⟨_, rfl, (bz (a33 hil (a9f bva bva)))⟩, tt⟩, ⟨⟨_, rfl, (c5 (a33 hil (a9f bva bva)) (CoP.refl _))⟩, trivial⟩⟩ ?_; show i + 1 <= _; omega)
          | (refine lpz (i + 1) ⟨⟨⟨_,rfl,(ce (a3v hil bvx))⟩,tt⟩,⟨⟨_,rfl,(bv (a3v hil bvx))⟩,trivial⟩⟩ ?_;show i + 1 <= _;omega)
   have h5:=tz1 (ek (ck r4 r5));refine w_5 ?_
   first | (refine lpz (i + 1) ⟨⟨⟨_, rfl, (bz (a33 hil (a9f bva bva)))⟩, tt⟩, ⟨⟨_, rfl, (c5 (a33 hil (a9f bva bva)) (CoP.refl _))⟩, trivial⟩⟩ ?_; show i + 1 <= _; omega)
         | (refine lpz (i + 1) ⟨⟨⟨_,rfl,(ce (a3v hil bvx))⟩,tt⟩,⟨⟨_,rfl,(bv (a3v hil bvx))⟩,trivial⟩⟩ ?_;show i + 1 <= _;omega)
  have h4:=tz1 (ek r4);(iterate 3 refine k9 (gft r4) ?_);refine w_8 ?_
  first | (refine lpz (i + 1) ⟨⟨⟨_, rfl, (bz (a33 hil (a9f bva bva)))⟩, tt⟩, ⟨⟨_, rfl, (c5 (a33 hil (a9f bva bva)) (CoP.refl _))⟩, trivial⟩⟩ ?_; show i + 1 <= _; omega)
        | (refine lpz (i + 1) ⟨⟨⟨_,rfl,(ce (a3v hil bvx))⟩,tt⟩,⟨⟨_,rfl,(bv (a3v hil bvx))⟩,trivial⟩⟩ ?_;show i + 1 <= _;omega)
 obtain rfl:i = (f7 l (n:Int)).length:=by omega
 refine w_2 ?_;refine bn 9 rfl rfl rfl ?_;refine v_5 ?_;exact ⟨CoC.one (CoP.of_eq (by rw [b3q];rfl)),CoC.refl _,trivial⟩
def bgl (n:Nat) (l:List Fd) (hn:n <= 10) (hv:bj n l = 0):a6 bw0 30 [pI (n:Int),pP (fdl l)] (af [(bjd (aa (n:Int) :: kc (n:Int) (f7 l (n:Int))) n).pc,pI 0]):=by
 refine hpx (nt:=81) Tryz.func30 ?_;have hsl:=xr (aa (n:Int));have hcn:(aa (n:Int) :: kc (n:Int) (f7 l (n:Int))).length <= 4294967297:=Nat.succ_le_succ (bs4 (btb _ _) (bs4 (btb _ _) hsl));have hci:(kc (n:Int) (f7 l (n:Int))).length <= 4294967296:=Nat.le_of_succ_le_succ hcn;have hLn:(aa (n:Int) :: kc (n:Int) (f7 l (n:Int))).length = (kc (n:Int) (f7 l (n:Int))).length + 1:=rfl;refine sx7 ?_;refine m9 0 ?_;refine w_6 ?_;refine qcx (wgx Tryz.func82) (bn7 n l hn hv) ?_;refine va ?_;refine m9 1 ?_;refine w_9 ?_;refine go 1 1 100 true 1 9 (lf ac0 (zt 0)) bvg rfl rfl (CoP.sl rfl (.inr rfl) (fun h=>h) (fun i j hi _=>absurd hi (brg i))) (.inr rfl) rfl rfl ?_;refine br (ka 0 (ka 4 (ka 6 (ka 8 (ka 26 kn))))) (kb 0 km) (fun i=>⟨[(27,some (vI i))],[(1,some (.box [.p (.raw (.string ⟨#[116]⟩)), .ref 100 (zt i).length, .p (ke (.slice none 0 0))])),(100,some (.arr true 1 9 (zt i).length (lf ac0 (zt i))))]⟩) n kk ?_;rintro i hi;have hl1:=b4e (n:=i);refine w_5 ?_;refine hcd (fun h0=>?_) (fun h0=>?_)
 ·
  have hin:i < n:=by omega
  refine k8 ?_;refine m9 2 ?_;refine r9 3 true ?_;refine w_7 ?_;exact lpx (i + 1) ⟨tt,⟨⟨_,rfl,⟨CoP.refl _,congrArg (HV.ref 100) (by rw [ajm,brh];rfl),CoP.refl _,trivial⟩⟩,⟨_,rfl,(c5 ajm (CoP.of_eq (bk5 bv9)))⟩,uu⟩⟩
 obtain rfl:n = i:=by omega
 refine w_3 ?_;refine fk 1 1 rfl rfl rfl rfl rfl ?_;refine w_2 ?_;refine qcx aqa (apb n hn) ?_;refine m9 4 ?_;refine qy ?_;refine r9 5 true ?_;refine w_4 ?_;refine go 1 2 101 true 2 81 (lf Row.c (xd (aa (n:Int) :: kc (n:Int) (f7 l (n:Int))) n 0)) bvg rfl rfl (CoP.sl rfl (.inr rfl) (fun h=>h) (fun i j hi _=>absurd hi (brg i))) (.inr rfl) rfl rfl ?_;refine br (ka 0 (ka 4 (ka 8 (ka 45 kn)))) (kb 0 km) (fun k=>⟨[(46,some (vI k)),(44,some (.v (.one (.ref 4 (aa (n:Int) :: kc (n:Int) (f7 l (n:Int))).length))))],[(4,some (.arr true 1 50 (aa (n:Int) :: kc (n:Int) (f7 l (n:Int))).length (lf sC (aa (n:Int) :: kc (n:Int) (f7 l (n:Int)))))),(1,some (.box [.p (.raw (.string ⟨#[116]⟩)), .p (a2m (zt n)), .ref 101 (xd (aa (n:Int) :: kc (n:Int) (f7 l (n:Int))) n k).length])),(101,some (.arr true 2 81 (xd (aa (n:Int) :: kc (n:Int) (f7 l (n:Int))) n k).length (lf Row.c (xd (aa (n:Int) :: kc (n:Int) (f7 l (n:Int))) n k))))]⟩) ((aa (n:Int) :: kc (n:Int) (f7 l (n:Int))).length) ⟨⟨zy,⟨_,rfl,(CoR.of_eq (by rw [Nat.add_comm];rfl))⟩,trivial⟩,⟨⟨_,rfl,(b4c (CoP.refl _))⟩,uu⟩⟩ ?_;rintro k hk;have hl2:=b10 (l:=(aa (n:Int) :: kc (n:Int) (f7 l (n:Int)))) (n:=n) (k:=k);refine w_5 ?_;refine hcd (fun h1=>?_) (fun h1=>?_)
 ·
  have hkl:k < (aa (n:Int) :: kc (n:Int) (f7 l (n:Int))).length:=by omega
  refine v7 ?_;refine m9 6 ?_;refine w_9 ?_;refine go 6 1 102 true 3 84 (lf Val.c (x9 ((aa (n:Int) :: kc (n:Int) (f7 l (n:Int))).getD k default) k 0)) bvg rfl rfl (CoP.sl rfl (.inr rfl) (fun h=>h) (fun i j hi _=>absurd hi (brg i))) (.inr rfl) rfl rfl ?_;refine br (ka 0 (ka 4 (ka 8 (ka 10 (ka 11 (ka 12 (ka 44 (ka 45 (ka 46 (ka 54 kn)))))))))) (kb 4 (kb 1 (kb 101 (kb 0 km)))) (fun j=>⟨[(55,some (vI j))],[(6,some (.box [.p (.raw (.int .i64 ((k:Int) + 1))), .ref 102 (x9 ((aa (n:Int) :: kc (n:Int) (f7 l (n:Int))).getD k default) k j).length])),(102,some (.arr true 3 84 (x9 ((aa (n:Int) :: kc (n:Int) (f7 l (n:Int))).getD k default) k j).length (lf Val.c (x9 ((aa (n:Int) :: kc (n:Int) (f7 l (n:Int))).getD k default) k j))))]⟩) n kk ?_;rintro j hj;have hl3:=b1p (s:=((aa (n:Int) :: kc (n:Int) (f7 l (n:Int))).getD k default)) (k:=k) (n:=j);refine w_5 ?_;refine hcd (fun h2=>?_) (fun h2=>?_)
  ·
   have hjn:j < n:=by omega
   refine j3 ?_;refine m9 7 ?_;refine j3 ?_;refine hcd (fun h3=>?_) (fun h3=>?_)
   ·
    refine w_9 ?_;refine m9 8 ?_;refine r9 9 true ?_;refine w_7 ?_
    first | (refine lpz (j + 1) ⟨tt, ⟨⟨_, rfl, ⟨CoP.refl _, congrArg (HV.ref 102) (by rw [mi, brh]; rfl), trivial⟩⟩, ⟨_, rfl, (a09 mi (CoP.refl _) (CoP.of_eq (ayc bv9 bva)) (CoP.refl _))⟩, uu⟩⟩ ?_; show j + 1 <= _; omega)
          | (refine lpz (j + 1) ⟨tt,⟨⟨_,rfl,⟨CoP.refl _,congrArg (HV.ref 102) (by rw [mi,brh];rfl),trivial⟩⟩,⟨_,rfl,(a09 mi (CoP.refl _) (CoP.of_eq (az7 bv9 bva)) (CoP.refl _))⟩,uu⟩⟩ ?_;show j + 1 <= _;omega)
   refine w_5 ?_;refine m9 10 ?_;refine r9 11 true ?_;refine w_7 ?_
   first | (refine lpz (j + 1) ⟨tt, ⟨⟨_, rfl, ⟨CoP.refl _, congrArg (HV.ref 102) (by rw [mi, brh]; rfl), trivial⟩⟩, ⟨_, rfl, (a09 mi (CoP.refl _) (CoP.of_eq (ayc bv9 bva)) (CoP.refl _))⟩, uu⟩⟩ ?_; show j + 1 <= _; omega)
         | (refine lpz (j + 1) ⟨tt,⟨⟨_,rfl,⟨CoP.refl _,congrArg (HV.ref 102) (by rw [mi,brh];rfl),trivial⟩⟩,⟨_,rfl,(a09 mi (CoP.refl _) (CoP.of_eq (az7 bv9 bva)) (CoP.refl _))⟩,uu⟩⟩ ?_;show j + 1 <= _;omega)
  obtain rfl:n = j:=by omega
  refine d7 ?_;refine fk 6 1 rfl rfl rfl rfl rfl ?_;refine w_4 ?_;refine m9 12 ?_;refine r9 13 true ?_;refine w_7 ?_;exact lpx (k + 1) ⟨tt,⟨u9,⟨_,rfl,⟨CoP.refl _,CoP.refl _,congrArg (HV.ref 101) (by rw [ae3,brh];rfl),trivial⟩⟩,⟨_,rfl,(n8 ae3 (CoP.refl _) (CoP.refl _))⟩,uu⟩⟩
 obtain rfl:k = (aa (n:Int) :: kc (n:Int) (f7 l (n:Int))).length:=by omega
 refine w_2 ?_;refine fk 1 2 rfl rfl rfl rfl rfl ?_;refine v_5 ?_;exact ⟨CoC.agg ⟨CoP.refl _,CoP.refl _,CoP.refl _,trivial⟩,CoC.refl _,trivial⟩
end
section
section
variable {i:Nat}
theorem a3q (h:i < 4294967296):asI (nA i) = (i:Int):=by
 show (((BitVec.ofNat 32 i).toNat:Nat):Int) = i
 grind
variable {n:Nat}
theorem b88 (h1:n <= 16):IntKind.wrap .u32 (1 * 2 ^ (min n IntKind.u32.bits)) = ((2 ^ n:Nat):Int):=by
 have h2:2 ^ n <= 2 ^ 16:=bsr bv9 h1;rw [show IntKind.wrap .u32 (1 * 2 ^ (min n IntKind.u32.bits)) = asI ((1:AS) <<< n) from a1s 1 n];show (((1:AS) <<< n).toNat:Int) = _;rw [BitVec.toNat_shiftLeft,Nat.shiftLeft_eq]
 grind
def af4 (h:n <= 16):2 ^ n <= 65536:=bsr bv9 h
variable {k:Nat}
theorem af2 {n:Int} (h:((bsz (nA i):Nat):Int) = (k:Int)):wc n k (i + 1) = wc n k i ++ [nA i]:=by
 unfold wc;rw [bsp,bth,bta]
 grind
theorem aeh {n:Int} (h:¬ ((bsz (nA i):Nat):Int) = (k:Int)):wc n k (i + 1) = wc n k i:=by
 unfold wc;rw [bsp,bth,bta]
 grind
theorem apq {n:Int}:(wc n k i).length <= i:=by
 unfold wc
 grind
abbrev b6k (rk:List Int) (n:Nat):PC:=.agg [.raw (.int .i64 (n:Int)),zl rk]
theorem a7n (h:i < 4294967296):(nA i).toNat = i:=by
 unfold nA
 grind
variable {s:AS}
def auk (h:s.toNat < 2 ^ n):∀ z,s.getLsbD z = true -> z < n:=fun z hz=>by
 rw [<- BitVec.testBit_toNat] at hz
 exact Nat.lt_of_not_le fun hn=>by
  have:=Nat.ge_two_pow_of_testBit hz;have:=bsr (show 0 < 2 by omega) hn;omega
theorem bc5 (h:∀ z,s.getLsbD z = true -> z < n):s.toNat < 2 ^ n:=by
 refine Nat.lt_pow_two_of_testBit _ fun i hi=>?_;rw [BitVec.testBit_toNat,brt]
 grind
variable {a:Nat}
def bji (hs:s.toNat < 2 ^ n) (ha:a < n) (hn:n <= 32):(s ||| ((1:AS) <<< a)).toNat < 2 ^ n:=bc5 fun z hz=>by
 have hz32:z < 32:=BitVec.lt_of_getLsbD hz;rw [bt5,lb a z hz32,bsl,decide_eq_true_eq] at hz
 rcases hz with h | h
 · exact auk hs z h
 omega
def bb6 (hn:n <= 16) (hi:i < (ku n k).length):((ku n k).getD i default).toNat < 2 ^ n:=by
 rw [bw _ _ hi];have hm:=brs hi;unfold ku wc at hm;obtain ⟨h1,_⟩:=bt4.1 hm;obtain ⟨j,hj,e⟩:=brp.1 h1;have hj:=brw.1 hj;have:=af4 hn;rw [show (ku n k)[i] = nA j from e.symm,a7n bv9];exact hj
def apn (hn:n <= 16):(ku n k).length <= 65536:=bs4 apq (af4 hn)
theorem bgv {j:Nat} (h:j < 32):cn .and .u32 ((asI s).fdiv (2 ^ (min j IntKind.u32.bits))) 1 = 1 <-> s.getLsbD j = true:=by
 have e1:(asI s).fdiv (2 ^ (min j IntKind.u32.bits)) = asI (s >>> j):=by
  rw [show min j IntKind.u32.bits = j from bsh (show j <= 32 by omega)];show ((s.toNat:Int)).fdiv _ = (((s >>> j).toNat:Nat):Int);rw [show (2:Int) ^ j = ((2 ^ j:Nat):Int) by simp,bul _ (btf _),<- Int.natCast_ediv,bu5,btz]
 have hb:cn .and .u32 ((asI s).fdiv (2 ^ (min j IntKind.u32.bits))) 1 = asI ((s >>> j) &&& 1):=by rw [e1,show (1:Int) = asI 1 from rfl,tn]
 have hv:(s >>> j) &&& 1 = if s.getLsbD j = true then 1 else 0:=by
  grind
 grind
variable {out:List AS} {rk:List Int}
def aaq {j:Nat} (hj:j < (ku n k).length):mnK rk n a out k (j + 1) = mnA rk a (mnK rk n a out k j) ((ku n k).getD j default):=by
 unfold mnK;rw [al hj,bs8];rfl
def aap:mnT rk n a (k + 1) = mnK rk n a (mnT rk n a k) k (ku n k).length:=by
 unfold mnT;rw [bsp,bs8];rfl
theorem bcv:(mnA rk a out s).length <= out.length + 1:=by
 unfold mnA
 grind
def ahe:∀ {j:Nat},j <= (ku n k).length -> (mnK rk n a out k j).length <= out.length + j
 | 0,_=>brd _
 | j + 1,hj=>by
  rw [aaq hj];have:(mnK rk n a out k j).length <= out.length + j:=ahe bv9;have:=bcv (rk:=rk) (a:=a) (out:=mnK rk n a out k j) (s:=(ku n k).getD j default);omega
def ass (hn:n <= 16):∀ {k:Nat},(mnT rk n a k).length <= 65536 * k
 | 0=>brd _
 | k + 1=>by
  rw [aap];have:(mnT rk n a k).length <= 65536 * k:=ass hn;have:=ahe (rk:=rk) (n:=n) (a:=a) (k:=k) (out:=mnT rk n a k) (brd _);have:=apn (k:=k) hn;omega
def a0y {j:Nat} (hj:j < (ku n k).length) (h:mnA rk a (mnK rk n a out k j) ((ku n k).getD j default) = mnK rk n a out k j ++ [(ku n k).getD j default]):mnK rk n a out k (j + 1) = mnK rk n a out k j ++ [(ku n k).getD j default]:=(aaq hj).trans h
def a1m {j:Nat} (hj:j < (ku n k).length) (h:mnA rk a (mnK rk n a out k j) ((ku n k).getD j default) = mnK rk n a out k j):mnK rk n a out k (j + 1) = mnK rk n a out k j:=(aaq hj).trans h
def a18 (ha:a < 32) (h:cn .and .u32 ((asI s).fdiv (2 ^ (min a IntKind.u32.bits))) 1 = 1):mnA rk a out s = out:=if_pos (.inl ((bgv ha).1 h))
def a0v (h:(out.any fun m=>decide (sub m s)) = true):mnA rk a out s = out:=if_pos (.inr (.inl h))
def a16 (h:awf rk s a = false):mnA rk a out s = out:=if_pos (.inr (.inr h))
theorem a7h (ha:a < 32) (h1:¬ cn .and .u32 ((asI s).fdiv (2 ^ (min a IntKind.u32.bits))) 1 = 1) (h2:(out.any fun m=>decide (sub m s)) = false) (h3:awf rk s a = true):mnA rk a out s = out ++ [s]:=if_neg (by
 rintro (h | h | h)
 · exact h1 ((bgv ha).2 h)
 · grind
 rw [h3] at h;cases h)
end
end
section
open Go.Proofs
def bi4 (n k:Nat) (hn:n <= 16) (hk:k <= n):a6 bw0 186 [pI (n:Int),pI (k:Int)] (af [pP (asl (ku n k)),pI 0]):=by
 refine hpx (nt:=38) Tryz.func186 ?_;have hp:=af4 hn;have hs:=b88 hn;refine j3 ?_;refine aw rfl rfl (fun r0=>?_) (fun r0=>?_)
 ·
  have h0:=tz1 r0;(iterate 2 refine k9 (gtf r0) ?_);refine w_2 ?_;(iterate 2 refine k9 rfl ?_);refine w_2 ?_;(iterate 3 refine k9 rfl ?_);refine w_8 ?_;refine hrr ?_
  omega
 have h0:=tz2 r0;(iterate 2 refine qy ?_ (hg:=(gff r0)));refine w_2 ?_;refine aw rfl rfl (fun r1=>?_) (fun r1=>?_)
 ·
  have h1:=tz1 (be r0 r1);(iterate 2 refine k9 (gtf r1) ?_);refine w_2 ?_;(iterate 3 refine k9 rfl ?_);refine w_8 ?_;refine hrr ?_
  omega
 have h1:=tz2 (be r0 r1);(iterate 2 refine qy ?_ (hg:=(gff r1)));refine w_2 ?_;refine aw rfl rfl (fun r2=>?_) (fun r2=>?_)
 ·
  have h2:=tz1 (be r1 r2);(iterate 3 refine k9 (gtf r2) ?_);refine w_8 ?_;refine hrr ?_
  omega
 have h2:=tz2 (be r1 r2);(iterate 3 refine qy ?_ (hg:=(gff r2)));refine w_2 ?_;refine au _ rfl (fun r3=>?_) (fun r3=>?_)
 · have h3:=tz1 (be r2 r3);exfalso;simp_all;omega
 have h3:=tz2 (be r2 r3);refine j3 ?_;refine df 6 900 true 1 50 (lf sC []) bvg rfl (CoP.sl rfl (.inr rfl) (fun h=>h) (fun i j hi _=>absurd hi (brg i))) (.inr rfl) rfl ?_;refine br (ka 0 (ka 1 kn)) km (fun i=>⟨[(6,some (.v (.one (.ref 900 (wc (n:Int) k i).length)))),(7,some (.v (.one (.p (.raw (.int .u32 (i:Int)))))))],[(900,some (.arr true 1 50 (wc (n:Int) k i).length (lf sC (wc (n:Int) k i))))]⟩) (2 ^ n) kk ?_;rintro i hi;have hll:=apq (n:=(n:Int)) (k:=k) (i:=i);refine w_8 ?_;refine hcd (fun h4=>?_) (fun h4=>?_)
 ·
  have hi2:i < 2 ^ n:=by omega
  refine w_6 ?_;refine rc rfl rfl rfl rfl rfl rfl a8s (aki (nA i)) (⟨cci (a3q bv9).symm,trivial⟩) rfl rfl ?_;refine w_3 ?_;refine hcd (fun h5=>?_) (fun h5=>?_)
  ·
   refine w_3 ?_;refine m9 0 ?_;refine r9 1 true ?_;refine w_7 ?_
   first | (refine lpz (i + 1) ⟨⟨⟨_, rfl, (bz (af2 bva))⟩, tt⟩, ⟨⟨_, rfl, (c5 (af2 bva) (CoP.of_eq (congrArg (fun x => PV.raw (.int .u32 x)) (a3q bv9).symm)))⟩, trivial⟩⟩ ?_; show i + 1 <= _; omega)
         | (refine lpz (i + 1) ⟨⟨⟨_,rfl,(ce (aeh bva))⟩,tt⟩,⟨⟨_,rfl,(bv (aeh bva))⟩,trivial⟩⟩ ?_;show i + 1 <= _;omega)
  refine w_6 ?_
  first | (refine lpz (i + 1) ⟨⟨⟨_, rfl, (bz (af2 bva))⟩, tt⟩, ⟨⟨_, rfl, (c5 (af2 bva) (CoP.of_eq (congrArg (fun x => PV.raw (.int .u32 x)) (a3q bv9).symm)))⟩, trivial⟩⟩ ?_; show i + 1 <= _; omega)
        | (refine lpz (i + 1) ⟨⟨⟨_,rfl,(ce (aeh bva))⟩,tt⟩,⟨⟨_,rfl,(bv (aeh bva))⟩,trivial⟩⟩ ?_;show i + 1 <= _;omega)
 obtain rfl:i = 2 ^ n:=by omega
 refine w_2 ?_;refine bn 6 rfl rfl rfl ?_;refine v_5 ?_;exact ⟨CoC.one (CoP.refl _),CoC.refl _,trivial⟩
def bkl (t:Tbl) (hT:TOk t) (h10:t.attrs.length <= 10) (h200:t.rows.length <= 200):a6 bw0 134 [t.pc] (af [pI 0]):=by
 refine hpx (nt:=19) Tryz.func134 ?_;have hna:=hT.na;have hnr:=hT.nr;refine sx7 ?_;refine m9 0 ?_;refine w_6 ?_;refine qcx aef (apa hT) ?_;refine va ?_;refine aw rfl rfl (fun r0=>?_) (fun r0=>?_)
 ·
  have h0:=tz1 r0;(iterate 4 refine k9 (gtf r0) ?_);refine w_7 ?_;refine hrr ?_
  omega
 have h0:=tz2 r0;(iterate 4 refine qy ?_ (hg:=(gff r0)));refine w_2 ?_;refine au _ rfl (fun r1=>?_) (fun r1=>?_)
 · have h1:=tz1 (be r0 r1);refine w_4 ?_;refine hrr ?_;omega
 have h1:=tz2 (be r0 r1);refine v_5 ?_;exact CoL.refl _
def bon (q:List Int) (n:Nat) (s:AS) (a:Nat) (hn:n <= 16) (hr:q.length = 2 ^ n) (hs:s.toNat < 2 ^ n) (ha:a < n):a6 bw0 188 [b6k q n,pA s,pI (a:Int)] (af [pB (awf q s a)]):=by
 refine hpx (nt:=21) Tryz.func188 ?_;have ho:=bji hs ha bv9;have e:cn .or .u32 (asI s) (IntKind.wrap .u32 (1 * 2 ^ (min ((a:Int)).toNat IntKind.u32.bits))) = asI (s ||| ((1:AS) <<< a)):=by rw [show IntKind.wrap .u32 (1 * 2 ^ (min ((a:Int)).toNat IntKind.u32.bits)) = asI ((1:AS) <<< a) from a1s 1 a,bOr]
 refine sx7 ?_;refine m9 0 ?_;refine w_7 ?_;refine rq rfl rfl rfl rfl rfl ?_ (hp:=⟨rfl,sw s,by rw [hr];exact Int.ofNat_lt.2 hs⟩);refine w_7 ?_;refine rq rfl rfl rfl rfl rfl ?_ (hp:=⟨rfl,by rw [e];exact sw _,by rw [e,hr];exact Int.ofNat_lt.2 ho⟩);refine v_5 ?_;exact ⟨ccb (by rw [e];rfl),trivial⟩
def bn0 (y z:AS):a6 bw0 187 [pA y,pP (bx (asC z))] (af [pB (decide (sub y z))]):=by
 refine hpx (nt:=8) Tryz.func187 ?_;refine j4 ?_;exact hx8 rfl rfl rfl (⟨ccb (decide_eq_decide.2 j5),trivial⟩)
def bkj (l:List AS) (z:AS):a6 bw0 67 [pP (asl l),pP (.fn 187 1 (fun j=>[bx (asC z)].getD j .any))] (af [pB (l.any fun y=>decide (sub y z))]):=akw l 187 1 _ _ (wgx Tryz.func187) fun y=>bn0 y z
def bvt {p:Prop} (h:p:=by first | exact a18 bv9 bva | exact a0v bva | exact a16 bva):p:=h
def bk0 (q:List Int) (n a:Nat) (hn:n <= 16) (hr:q.length = 2 ^ n) (ha:a < n):a6 bw0 136 [b6k q n,pI (a:Int),pI 16] (af [pP (asl (mnL q n a))]):=by
 refine hpx (nt:=54) Tryz.func136 ?_;refine sx7 ?_;refine m9 0 ?_;refine j4 ?_;refine df 7 900 true 1 50 (lf sC []) bvg rfl (CoP.sl rfl (.inr rfl) (fun h=>h) (fun i j hi _=>absurd hi (brg i))) (.inr rfl) rfl ?_;refine br (ka 1 (ka 2 (ka 3 kn))) (kb 0 km) (fun k=>⟨[(7,some (.v (.one (.ref 900 (mnT q n a k).length)))),(8,some (vI k))],[(900,some (.arr true 1 50 (mnT q n a k).length (lf sC (mnT q n a k))))]⟩) (n + 1) kk ?_;rintro k hk;have htl:=ass (rk:=q) (a:=a) hn (k:=k);refine dc ?_;refine hcd (fun h0=>?_) (fun h0=>?_)
 ·
  have hkn:k <= n:=by omega
  have hll:=apn (k:=k) hn;refine w_8 ?_;refine qcx (wgx Tryz.func186) (bi4 n k hn bv9) ?_;refine kf ?_;refine br (ka 1 (ka 2 (ka 3 (ka 8 (ka 28 (ka 29 kn)))))) (kb 0 km) (fun j=>⟨[(7,some (.v (.one (.ref 900 (mnK q n a (mnT q n a k) k j).length)))),(30,some (vI j))],[(900,some (.arr true 1 50 (mnK q n a (mnT q n a k) k j).length (lf sC (mnK q n a (mnT q n a k) k j))))]⟩) ((ku n k).length) kk ?_;rintro j hj;have hkl:=ahe (rk:=q) (n:=n) (a:=a) (k:=k) (out:=mnT q n a k) hj;refine w_5 ?_;refine hcd (fun h1=>?_) (fun h1=>?_)
  ·
   have hjl:j < (ku n k).length:=by omega
   have hsl:=bb6 hn hjl;refine w_7 ?_;refine m9 1 ?_;refine w_2 ?_;refine jz 12 rfl rfl rfl ?_;refine w_9 ?_;refine aw rfl rfl (fun r2=>?_) (fun r2=>?_)
   ·
    have h2:=tz1 r2;(iterate 3 refine k9 (gtf r2) ?_);refine w_8 ?_
    first | (refine lpz (j + 1) ⟨⟨⟨_, rfl, (bz (a0y hjl (a7h bv9 bva bva bva)))⟩, tt⟩, ⟨⟨_, rfl, (c5 (a0y hjl (a7h bv9 bva bva bva)) (CoP.refl _))⟩, uu⟩⟩ ?_; show j + 1 <= _; omega)
          | (refine lpz (j + 1) ⟨⟨⟨_,rfl,(ce (a1m hjl bvt))⟩,tt⟩,⟨⟨_,rfl,(bv (a1m hjl bvt))⟩,uu⟩⟩ ?_;show j + 1 <= _;omega)
   have h2:=tz2 r2;(iterate 2 refine qy ?_ (hg:=(gff r2)));refine qcx acy (bkj (mnK q n a (mnT q n a k) k j) ((ku n k).getD j default)) ?_ (hg:=(gff r2));refine w_2 ?_;refine au _ rfl (fun r3=>?_) (fun r3=>?_)
   ·
    have h3:=be r2 r3;refine w_5 ?_
    first | (refine lpz (j + 1) ⟨⟨⟨_, rfl, (bz (a0y hjl (a7h bv9 bva bva bva)))⟩, tt⟩, ⟨⟨_, rfl, (c5 (a0y hjl (a7h bv9 bva bva bva)) (CoP.refl _))⟩, uu⟩⟩ ?_; show j + 1 <= _; omega)
          | (refine lpz (j + 1) ⟨⟨⟨_,rfl,(ce (a1m hjl bvt))⟩,tt⟩,⟨⟨_,rfl,(bv (a1m hjl bvt))⟩,uu⟩⟩ ?_;show j + 1 <= _;omega)
   have h3:=be r2 r3;refine w_6 ?_;refine qcx (wgx Tryz.func188) (bon q n ((ku n k).getD j default) a hn hr hsl ha) ?_;refine cw ?_;refine hcb (fun h4=>?_) (fun h4=>?_)
   ·
    refine w_3 ?_;refine m9 2 ?_;refine r9 3 true ?_;refine w_6 ?_
    first | (refine lpz (j + 1) ⟨⟨⟨_, rfl, (bz (a0y hjl (a7h bv9 bva bva bva)))⟩, tt⟩, ⟨⟨_, rfl, (c5 (a0y hjl (a7h bv9 bva bva bva)) (CoP.refl _))⟩, uu⟩⟩ ?_; show j + 1 <= _; omega)
          | (refine lpz (j + 1) ⟨⟨⟨_,rfl,(ce (a1m hjl bvt))⟩,tt⟩,⟨⟨_,rfl,(bv (a1m hjl bvt))⟩,uu⟩⟩ ?_;show j + 1 <= _;omega)
   refine w_5 ?_
   first | (refine lpz (j + 1) ⟨⟨⟨_, rfl, (bz (a0y hjl (a7h bv9 bva bva bva)))⟩, tt⟩, ⟨⟨_, rfl, (c5 (a0y hjl (a7h bv9 bva bva bva)) (CoP.refl _))⟩, uu⟩⟩ ?_; show j + 1 <= _; omega)
         | (refine lpz (j + 1) ⟨⟨⟨_,rfl,(ce (a1m hjl bvt))⟩,tt⟩,⟨⟨_,rfl,(bv (a1m hjl bvt))⟩,uu⟩⟩ ?_;show j + 1 <= _;omega)
  obtain rfl:j = (ku n k).length:=by omega
  refine w_6 ?_;exact lpx (k + 1) ⟨⟨⟨_,rfl,(CoR.of_eq (by rw [aap]))⟩,tt⟩,⟨⟨_,rfl,(CoO.of_eq (by rw [aap]))⟩,uu⟩⟩
 obtain rfl:k = n + 1:=by omega
 refine w_2 ?_;refine bn 7 rfl rfl rfl ?_;refine v_4 ?_;exact ⟨CoC.one (CoP.refl _),trivial⟩
end
section
def l3 (t:Tbl) (k:Nat):Prt:=bfx t (a44 t k) k
section
variable {t:Tbl}
def a99:∀ {m k:Nat},k < m -> (a44 t m).getD k default = l3 t k
 | m + 1,k,h=>by
  rw [a44];by_cases e:k < m
  · rw [bw _ _ (by rw [brh,n5];omega),List.getElem_append_left (by rw [n5];exact e),<- bw (a44 t m) k (by rw [n5];exact e),a99 e]
  obtain rfl:k = m:=by omega
  rw [bw _ _ (by rw [brh,n5];simp),List.getElem_append_right (by rw [n5];omega)];simp [n5,l3]
def jm (t:Tbl) (m i:Nat):List Prt:=(List.range m).map fun k=>if k < i then l3 t k else ⟨0,[]⟩
variable {i m:Nat}
def a4f:(jm t m i).length = m:=by simp [jm]
def ahx {k:Nat} (hk:k < m) (hi:k < i):(jm t m i).getD k default = l3 t k:=by
 rw [bw _ _ (by rw [a4f];exact hk)];simp [jm,hi]
def b1x (hi:i < m):jm t m (i + 1) = (jm t m i).set i (l3 t i):=by
 refine btd (by simp [jm]) fun k h1 h2=>?_;rw [bu2];simp only [jm,btt,btm];by_cases e:i = k
 · subst e;rw [if_pos bv9,if_pos rfl]
 rw [if_neg e];by_cases h:k < i
 · rw [if_pos bv9,if_pos h]
 rw [if_neg bv9,if_neg h]
def a0o (t:Tbl) (m i:Nat):List Int:=(List.range m).map fun k=>if k < i then av9 (l3 t k) else 0
def a57:(a0o t m i).length = m:=by simp [a0o]
def azj (hi:i < m):a0o t m (i + 1) = (a0o t m i).set i (av9 (l3 t i)):=by
 refine btd (by simp [a0o]) fun k h1 h2=>?_;rw [bu2];simp only [a0o,btt,btm];by_cases e:i = k
 · subst e;rw [if_pos bv9,if_pos rfl]
 rw [if_neg e];by_cases h:k < i
 · rw [if_pos bv9,if_pos h]
 rw [if_neg bv9,if_neg h]
def aoi:a0o t (2 ^ t.attrs.length) (2 ^ t.attrs.length) = ai t:=by
 unfold ai avf a0o;refine btd (by simp [n5]) fun k h1 h2=>?_;have hk:k < 2 ^ t.attrs.length:=by simpa using h1
 simp only [btt,btm,if_pos hk];rw [<- a99 hk,bw _ _ (by rw [n5];exact hk)]
def bli (hi:i < m):lf zC (a0o t m 0) i 0 = .raw (.int .i64 0):=by
 unfold lf;rw [bw _ _ (by rw [a57];exact hi)];simp [a0o,zC]
def b1b (hi:i < m):(jm t m 0).getD i default = ⟨0,[]⟩:=by
 rw [bw _ _ (by rw [a4f];exact hi)];simp [jm]
def blc (hi:i < m):lf Prt.c (jm t m 0) i 0 = .raw (.int .i64 0):=by
 unfold lf;rw [b1b hi];rfl
def bl2 (hi:i < m):lf Prt.c (jm t m 0) i 1 = ill []:=by
 unfold lf;rw [b1b hi];rfl
def bim (h:i < 4294967296):IntKind.wrap .u32 ((i:Int) - 1) = asI (nA i - 1):=by
 show _ = (((nA i - 1).toNat:Nat):Int);rw [BitVec.toNat_sub,a7n h];unfold IntKind.wrap
 cases i with
 | zero=>decide
 | succ i =>
  show (((i + 1:Nat):Int) - 1) % 4294967296 = _;rw [show (1:AS).toNat = 1 from rfl];omega
def bi6 (h:i < 4294967296):cn .and .u32 (i:Int) (IntKind.wrap .u32 ((i:Int) - 1)) = asI (ew i):=by
 rw [bim h,show (i:Int) = asI (nA i) from (a3q h).symm,tn];rfl
def auh {s t:AS} (hi:i < 32):(s &&& ~~~t).getLsbD i = (s.getLsbD i && !t.getLsbD i):=by simp [hi]
def au6 (h:i < 4294967296) (h0:ew i ≠ 0):(ew i).toNat < i:=by
 have hne:nA i ≠ 0:=fun e=>h0 (by unfold ew;rw [e];rfl);have:=aov hne;rw [a7n h] at this;exact this
def asm (h:i < 4294967296) (h0:ew i ≠ 0):(nA i &&& ~~~(ew i)).toNat < i:=by
 have h1:sub (nA i &&& ~~~(ew i)) (nA i):=aq.2 fun z hz hb=>by
  rw [auh hz,brk] at hb;exact hb.1
 have:=xq h1 fun e=>h0 (by
  apply bt0;intro z hz;have e2:=congrArg (fun x:AS=>x.getLsbD z) e;simp only [auh hz] at e2
  have h3:(ew i).getLsbD z = true -> (nA i).getLsbD z = true:=fun hb=>by
   unfold ew at hb;rw [brv,brk] at hb;exact hb.1
  rw [show (0:AS).getLsbD z = false by simp,brt];intro hb;rw [h3 hb,hb] at e2
  cases e2)
 rw [a7n h] at this;exact this
def bfm (h:i < 4294967296) {s:AS}:cn .andNot .u32 (i:Int) (asI s) = asI (nA i &&& ~~~s):=by
 rw [show (i:Int) = asI (nA i) from (a3q h).symm,ai3]
def b0b (h:ew i = 0):l3 t i = akr t (nA i):=if_pos h
def bhw (hi:i < 4294967296) (h:ew i ≠ 0):l3 t i = b3g (l3 t (ew i).toNat) (l3 t (nA i &&& ~~~(ew i)).toNat):=by
 have h1:=au6 hi h;have h2:=asm hi h;rw [<- a99 h1,<- a99 h2];exact if_neg h
def aep {k:Nat} {p:Prt} {x y:PV} (hi:i < m) (hk:k = i) (hp:l3 t i = p) (hx:x = p.c 0) (hy:y = p.c 1):
 CoO (.arr true 2 235 m (gu (lf Prt.c (jm t m i)) k 0 [x,y])) (.arr true 2 235 m (lf Prt.c (jm t m (i + 1)))):=by
 subst hp;rw [b1x hi];exact am8 (fun h=>h) a4f.symm hk (by rw [a4f];exact hi) hx hy
end
end
section
open Go.Proofs
def bfh (t:Tbl) (hT:TOk t) (hg:∀ k,k < (2 ^ t.attrs.length) -> kz (l3 t k) = true /\ (l3 t k).rows = t.rows.length):a6 bw0 135 [t.pc] (af [b6k (ai t) t.attrs.length]):=by
 refine hpx (nt:=68) Tryz.func135 ?_;have hna:=hT.na;have hp:=af4 hna;have hs:=b88 hna;have h64:IntKind.wrap .i64 (1 * 2 ^ (min ((t.attrs.length:Int)).toNat IntKind.i64.bits)) = (((2 ^ t.attrs.length):Nat):Int):=bkb (n:=(t.attrs.length:Int)) bv9 bv9;have h65:(IntKind.wrap .i64 (1 * 2 ^ (min ((t.attrs.length:Int)).toNat IntKind.i64.bits))).toNat = (2 ^ t.attrs.length):=by rw [h64];rfl
 refine sx7 ?_;refine m9 0 ?_;refine m9 1 ?_;refine kf ?_;refine rm 2 rfl rfl rfl rfl rfl rfl ?_ (hp:=(by dsimp only;rw [h64];(repeat' apply And.intro) <;> first | trivial | omega));refine qy ?_;refine m9 3 ?_;refine w_6 ?_;refine rm 4 rfl rfl rfl rfl rfl rfl ?_ (hp:=(by dsimp only;rw [h64];(repeat' apply And.intro) <;> first | trivial | omega));refine dc ?_;refine br (ka 1 (ka 2 (ka 4 (ka 20 kn)))) (kb 0 (kb 1 km)) (fun i=>⟨[(5,some (.v (.one (.ref 4 (2 ^ t.attrs.length))))),(21,some (.v (.one (.p (.raw (.int .u32 (i:Int)))))))],[(2,some (.arr true 1 3 (2 ^ t.attrs.length) (lf zC (a0o t (2 ^ t.attrs.length) i)))),(3,some (.box [.p (.raw (.int .i64 (t.attrs.length:Int))), .ref 2 (2 ^ t.attrs.length)])),(4,some (.arr true 2 235 (2 ^ t.attrs.length) (lf Prt.c (jm t (2 ^ t.attrs.length) i))))]⟩) (2 ^ t.attrs.length) ⟨⟨⟨_,rfl,(CoR.of_eq (by dsimp only;rw [h65]))⟩,tt⟩,⟨⟨_,rfl,(a68 (by rw [h65]) fun i hi=>CoP.of_eq (by rw [bli (by rw [<- h65];exact hi)];rfl))⟩,⟨_,rfl,⟨CoH.refl _,congrArg (HV.ref 2) h65,trivial⟩⟩,⟨_,rfl,(asc (by rw [h65]) fun i hi=>⟨CoP.of_eq (by rw [blc (by rw [<- h65];exact hi)];rfl),by rw [bl2 (by rw [<- h65];exact hi)];exact su⟩)⟩,trivial⟩⟩ ?_;rintro i hi;refine w_5 ?_;refine hcd (fun h0=>?_) (fun h0=>?_)
 ·
  have him:i < (2 ^ t.attrs.length):=by omega
  have hrv:=bi6 (i:=i) bv9;have hdv:=bfm (i:=i) (s:=(ew i)) bv9;have hzi:(jm t (2 ^ t.attrs.length) (i + 1)).getD ((i:Int)).toNat default = l3 t i:=ahx him bv9;refine j4 ?_;refine rqw rfl rfl rfl rfl rfl ?_;refine w_3 ?_;refine aek (ka 1 (ka 2 (ka 4 (ka 5 (ka 6 (ka 20 (ka 21 kn))))))) (kb 2 (kb 3 (kb 0 (kb 1 km)))) ⟨[],[(4,some (.arr true 2 235 (2 ^ t.attrs.length) (lf Prt.c (jm t (2 ^ t.attrs.length) (i + 1)))))]⟩ ?_ ?_
  ·
   refine w_7 ?_;refine hcd (fun h1=>?_) (fun h1=>?_)
   · have hz0:ew i = 0:=dj.1 (hrv.symm.trans h1);refine w_5 ?_;refine rc rfl rfl rfl rfl rfl rfl (wgx Tryz.func183) (blu t (nA i) hT (auk (by rw [a7n bv9];exact him))) (⟨CoC.refl _,cci (a3q bv9).symm,trivial⟩) rfl rfl ?_;refine w_6 ?_;exact ⟨tt,⟨⟨_,rfl,(by first | exact aep him (by simp only [brn]) (b0b hz0) rfl rfl | exact aep him (by simp only [brn]) hpr rfl rfl)⟩,uu⟩⟩
   have hne:ew i ≠ 0:=fun e=>h1 (by rw [hrv,e];rfl);have hrl:=au6 (i:=i) bv9 hne;have hdl:=asm (i:=i) bv9 hne;have hz1:(jm t (2 ^ t.attrs.length) i).getD (asI (ew i)).toNat default = l3 t (ew i).toNat:=ahx (k:=(ew i).toNat) bv9 bv9;have hz2:(jm t (2 ^ t.attrs.length) i).getD (asI ((nA i &&& ~~~(ew i)))).toNat default = l3 t ((nA i &&& ~~~(ew i))).toNat:=ahx (k:=((nA i &&& ~~~(ew i))).toNat) bv9 bv9;have hpr:=bhw (t:=t) (i:=i) bv9 hne;rw [<- hz1,<- hz2] at hpr;have hx1:kz ((jm t (2 ^ t.attrs.length) i).getD (asI (ew i)).toNat default) = true:=by rw [hz1];exact (hg _ bv9).1
   have hx2:kz ((jm t (2 ^ t.attrs.length) i).getD (asI ((nA i &&& ~~~(ew i)))).toNat default) = true:=by rw [hz2];exact (hg _ bv9).1
   have hx3:((jm t (2 ^ t.attrs.length) i).getD (asI (ew i)).toNat default).rows = ((jm t (2 ^ t.attrs.length) i).getD (asI ((nA i &&& ~~~(ew i)))).toNat default).rows:=by rw [hz1,hz2,(hg _ bv9).2,(hg _ bv9).2]
   refine w_5 ?_;(iterate 2 refine rq rfl rfl rfl rfl rfl ?_ (hp:=(by dsimp only;rw [hrv];(repeat' apply And.intro) <;> first | trivial | rfl | exact sw _ | exact Nat.lt_trans hrl him | exact Int.ofNat_lt.2 (Nat.lt_trans hrl him) | omega)));refine w_4 ?_;(iterate 2 refine rq rfl rfl rfl rfl rfl ?_ (hp:=(by dsimp only;rw [hrv,hdv];(repeat' apply And.intro) <;> first | trivial | rfl | exact sw _ | exact Nat.lt_trans hdl him | exact Int.ofNat_lt.2 (Nat.lt_trans hdl him) | omega)));refine rc rfl rfl rfl rfl rfl rfl (wgx Tryz.func184) (bjc ((jm t (2 ^ t.attrs.length) i).getD (asI (ew i)).toNat default) ((jm t (2 ^ t.attrs.length) i).getD (asI ((nA i &&& ~~~(ew i)))).toNat default) hx1 hx2 hx3) (⟨CoC.of_eq (by rw [hrv];rfl),CoC.of_eq (by rw [hrv,hdv];rfl),trivial⟩) rfl rfl ?_;refine w_7 ?_;exact ⟨tt,⟨⟨_,rfl,(by first | exact aep him (by simp only [brn]) (b0b hz0) rfl rfl | exact aep him (by simp only [brn]) hpr rfl rfl)⟩,uu⟩⟩
  refine w_8 ?_;refine rc rfl rfl rfl rfl rfl rfl (wgx Tryz.func185) (bge (l3 t i) (hg i him).1) (⟨CoC.of_eq (by show PC.agg [Prt.c ((jm t (2 ^ t.attrs.length) (i + 1)).getD ((i:Int)).toNat default) 0,Prt.c ((jm t (2 ^ t.attrs.length) (i + 1)).getD ((i:Int)).toNat default) 1] = _;rw [hzi]),trivial⟩) rfl rfl ?_;refine w_8 ?_;exact lpx (i + 1) ⟨tt,⟨⟨_,rfl,(by rw [azj him];exact vn (fun h=>h) a57.symm (by simp only [brn]) (by rw [a57];exact him) rfl)⟩,uu⟩⟩
 obtain rfl:i = (2 ^ t.attrs.length):=by omega
 refine w_2 ?_;refine fk 3 1 rfl rfl rfl rfl rfl ?_;refine v_4 ?_;exact ⟨CoC.agg ⟨CoP.refl _,(by rw [aoi];exact CoP.sl (by rw [<- aoi,a57]) (.inl rfl) (fun h=>h) (fun _ _ _ _=>CoP.refl _)),trivial⟩,trivial⟩
end
section
def a10 (l:List Fd) (z:Int):Option PV:=match l.find? (fun f=>decide (asI f.lhs = z)) with | some f=>some (asC (mgR l f.lhs)) | none=>none
def a4b (l:List Fd):MK -> Option PV
 | .i .u32 z=>a10 l z
 | _=>none
def wfA (s:AS):(Lit.int .u32 (asI s)).wf = true:=by
 have h1:=a6t s;have h2:=sw s;have e1:IntKind.min .u32 = 0:=by decide
 have e2:IntKind.max .u32 = 4294967295:=by decide
 simp only [Lit.wf,e1,e2,brk,decide_eq_true_eq];omega
section
variable {l:List Fd}
def b3b {s:AS} (h:∀ f ∈ l,¬ f.lhs = s):mgR l s = 0:=by
 unfold mgR;rw [List.filter_eq_nil_iff.2 fun f hf=>by simpa using h f hf];rfl
def aeg {s:AS} {f:Fd} (h:l.find? (fun f=>decide (asI f.lhs = asI s)) = some f):f.lhs = s:=by
 have:=List.find?_some h;exact dj.1 (of_decide_eq_true this)
def ae0 (l:List Fd) (s:AS):a59 (a4b l) (.i .u32 (asI s)) (.int .u32 0) = asC (mgR l s):=by
 show (match a10 l (asI s) with | some y=>y | none=>ke (.int .u32 0)) = _;unfold a10
 cases h:l.find? (fun f=>decide (asI f.lhs = asI s)) with
 | some f =>
  have:=aeg h;subst this;rfl
 | none =>
  rw [b3b fun f hf e=>by
   have:=bub.1 h f hf;rw [e] at this
   exact this (decide_eq_true rfl)]
  rfl
def b15 (m:MK):CoM none (a4b [] m):=by
 cases m with
 | i q z=>cases q <;> exact CoM.refl _
 | s b=>exact CoM.refl _
def ayh {i:Nat} (hi:i < l.length) (z:Int):(if z = asI (l.getD i default).lhs then some (PV.raw (.int .u32 (cn .or .u32 (asI (mgR (l.take i) (l.getD i default).lhs)) (asI (l.getD i default).rhs)))) else a10 (l.take i) z) = a10 (l.take (i + 1)) z:=by
 unfold a10;by_cases hz:z = asI (l.getD i default).lhs
 · subst hz
   rw [if_pos rfl,bnu hi rfl]
   cases h:(l.take (i + 1)).find? (fun f=>decide (asI f.lhs = asI (l.getD i default).lhs)) with
   | some f =>
    have:=aeg h;rw [<- this]
   | none =>
    have:=bub.1 h (l.getD i default) (by rw [al hi];simp);exact absurd (decide_eq_true rfl) this
 rw [if_neg hz,al hi,List.find?_append]
 have hx:[l.getD i default].find? (fun f=>decide (asI f.lhs = z)) = none:=by
  rw [List.find?_cons,decide_eq_false (fun e=>hz e.symm)];rfl
 rw [hx,Option.or_none]
 cases h:(l.take i).find? (fun f=>decide (asI f.lhs = z)) with
 | none=>rfl
 | some f =>
  have hf0:=List.find?_some h;have hf:asI f.lhs = z:=of_decide_eq_true hf0;dsimp only;rw [<- al hi,bka hi (fun e=>hz (by rw [e];exact hf.symm))]
def azk {i:Nat} (hi:i < l.length) (m:MK):CoM (uy (a4b (l.take i)) (.i .u32 (asI (l.getD i default).lhs)) (.raw (.int .u32 (cn .or .u32 (asI (mgR (l.take i) (l.getD i default).lhs)) (asI (l.getD i default).rhs)))) m) (a4b (l.take (i + 1)) m):=by
 refine CoM.of_eq ?_;unfold uy
 cases m with
 | s b=>rfl
 | i q z =>
  by_cases hq:q = .u32
  · subst hq
    show (bif (decide True && decide (z = _)) then _ else a10 _ z) = a10 _ z;rw [<- ayh hi z];by_cases hz:z = asI (l.getD i default).lhs
    · rw [if_pos hz,decide_eq_true hz];rfl
    rw [if_neg hz,decide_eq_false hz];rfl
  have h1:MK.same (.i q z) (.i .u32 (asI (l.getD i default).lhs)) = false:=by
   show (decide _ && decide _) = false;rw [decide_eq_false hq,Bool.false_and]
  rw [h1];cases q <;> first | rfl | exact absurd rfl hq
end
end
section
open Go.RowKit
section
variable {P:Program} {nt:Nat} {ops:Array Oper} {st:HSt} {L:List Nat} {Q:HSt -> Prop} {k d:Nat} {o:Oper} {t:TypeId}
theorem aii {x:Operand} {v0 v1:Value} {te:TypeId} {ie:TI} (j:Nat) (hi:ops[k]? = some o) (ht:P.underlying t = some (.array 2 te)) (hte:v8 P te = some ie) (hag:ie.k.isAgg = false) (hsz:ie.size = 1) (hj:j < 2)
 (h:RN P nt ops L ⟨(d,some (.v (.one (.p (.raw (if j = 0 then v0 else v1)))))) :: st.t,st.o⟩ Q)
 (hg:o.guard = none:=by exact rfl) (ho:o.op = .index t x (.const (.int .i64 (j:Int))):=by exact rfl) (hd:o.dst = some d:=by exact rfl) (hdn:cj nt (some d) = true:=by exact rfl)
 (hx:ev st.den x = some (.v (.agg [.p (.raw v0), .p (.raw v1)])):=by exact rfl):RN P nt ops (k :: L) st Q :=
 aev hi hg hd hdn (fun c hc=>by rw [hc] at ho;cases ho) fun w0 a w c hrr=>by
  obtain ⟨us,e1,hl⟩:=ae hrr hx
  match us,hl with
  | [u0,u1],⟨⟨q0,o0⟩,⟨q1,o1⟩,_⟩ =>
   subst q0 q1;obtain ⟨r,hp⟩:=x8 hte [u0,u1] j w;have ez:a.eval (.const (.int .i64 (j:Int))) = .int .i64 (j:Int):=rfl
   have hrun:(Instr.index t (.agg #[u0,u1]) (.int .i64 (j:Int))).run P w = .ok (if j = 0 then u0 else u1) w:=by
    have hin:(0:Int) <= (j:Int) /\ (j:Int) < ((2:Nat):Int):=⟨by omega,by omega⟩;unfold Instr.index;simp only [asIntOf,bsk,bsy,bs0,run_underlying ht,if_pos hin,dq hte,hsz,bu6,brn]
    grind
   exact ⟨if j = 0 then u0 else u1,w,st.o, .v (.one (.p (.raw (if j = 0 then u0 else u1)))),c,rfl,by simp [execOp,ho,e1,ez,hrun],hrr,(show fv c (HSt.den ⟨st.t,st.o⟩).o (.one (.p (.raw (if j = 0 then u0 else u1)))) (if j = 0 then u0 else u1) from ⟨rfl,by split <;> assumption⟩),h⟩
end
def mkS (s:AS):Value:=.int .u32 (asI s)
def agp {a b:AS} (h:mkS a = mkS b):a = b:=dj.1 (Value.int.inj h).2
structure WIn (P:Program) (es:Array MapEntry) (clock:Nat) (l:List AS):Prop where
 mx:oj P 50 es clock
 to:∀ e ∈ es.toList,∃ s ∈ l,e.key = mkS s
 at_:∀ s ∈ l,∃ e ∈ es.toList,e.key = mkS s
 vl:∀ e ∈ es.toList,∃ a b:Int,e.val = .agg #[.int .i64 a, .int .i64 b]
 sz:es.size <= l.length
section
variable {P:Program} {clock:Nat}
theorem WIn.nil:WIn P #[] clock []:=⟨oj.nil,fun e he=>by simp at he,fun s hs=>by simp at hs,fun e he=>by simp at he,brd _⟩
variable {es:Array MapEntry} {l:List AS} {s:AS}
theorem WIn.put {es':Array MapEntry} {clock':Nat} {a b:Int} (h:WIn P es clock l) (hX:oj P 50 es' clock') (hP:aq3 es es' (mkS s) (.agg #[.int .i64 a, .int .i64 b])):WIn P es' clock' (l ++ [s]):=by
 refine ⟨hX,fun e he=>?_,fun x hx=>?_,fun e he=>?_, ?_⟩
 · rcases hP.to e he with ⟨h1,_⟩ | ⟨h1,_⟩
   · obtain ⟨x,hx,e2⟩:=h.to e h1
     grind
   grind
 · rcases brr.1 hx with hx | hx
   · obtain ⟨e,he,hk⟩:=h.at_ x hx
     by_cases hq:e.key = mkS s
     · obtain ⟨y,y1,y2,_⟩:=hP.at_
       grind
     obtain ⟨y,y1,y2,_⟩:=hP.old e he hq
     grind
   obtain rfl:x = s:=by simpa using hx
   obtain ⟨y,y1,y2,_⟩:=hP.at_
   grind
 · rcases hP.to e he with ⟨h1,_⟩ | ⟨_,h1⟩
   · exact h.vl e h1
   grind
 have:=hP.sz;have:=h.sz
 grind
theorem WIn.absent (h:WIn P es clock l) (hn:∀ e ∈ es.toList,e.key ≠ mkS s):¬ s ∈ l:=fun hs=>by
 obtain ⟨e,he,hk⟩:=h.at_ s hs
 grind
theorem WIn.found (h:WIn P es clock l) {e:MapEntry} (he:e ∈ es.toList) (hk:e.key = mkS s):s ∈ l:=by
 obtain ⟨x,hx,e2⟩:=h.to e he;rw [agp (hk.symm.trans e2)];exact hx
theorem a9g (h:¬ s ∈ gw l):gw (l ++ [s]) = gw l ++ [s]:=by
 rw [aif];unfold a7d
 grind
theorem a8r (h:s ∈ gw l):gw (l ++ [s]) = gw l:=by
 rw [aif];unfold a7d
 grind
theorem an7:∀ {l:List AS},(gw l).length <= l.length:=by
 have key:∀ (l o:List AS),(l.foldl a7d o).length <= o.length + l.length:=by
  intro l
  induction l with
  | nil=>intro o;exact brd _
  | cons x l ih =>
   intro o;have:=ih (a7d o x)
   have h2:(a7d o x).length <= o.length + 1:=by
    unfold a7d
    grind
   grind
 intro l;have h:=key l [];rw [bt8,bs5] at h;exact h
variable {i:Nat}
theorem ao7 {l:List Row} {k:Nat}:(kr l i k).length <= (i + 1) * l.length:=by
 have h1:∀ i,(((List.range i).map (a1o l)).flatten).length <= i * l.length:=by
  intro i
  induction i with
  | zero=>simp
  | succ i ih =>
   rw [bsp,bth,btj,brh];have:=a74 l i
   grind
 unfold kr;rw [brh];have:=h1 i
 have h2:((a1o l i).take (k - (i + 1))).length <= l.length:=by
  rw [brl,a74];omega
 grind
def bc9 {l:List Row} {k:Nat} (hi:i < l.length) (h:l.length <= 1000):(gw (kr l i k)).length <= 1000000:=by
 have h1:=an7 (l:=kr l i k);have h2:=ao7 (l:=l) (i:=i) (k:=k);have h3:(i + 1) * l.length <= 1000 * 1000:=Nat.mul_le_mul bv9 h;omega
def b22 {l:List Row} (h:l.length <= 1000):(gw (prs l)).length <= 2000000:=by
 have h1:=an7 (l:=prs l);have h2:=ao7 (l:=l) (i:=l.length) (k:=l.length + 1);rw [al7] at h2;have h3:(l.length + 1) * l.length <= 1001 * 1000:=Nat.mul_le_mul bv9 h;omega
def ip {l:List Row} {j q:Nat} (hk:i + 1 + j < l.length) (hq:q = i + 1 + j):kr l i (i + 1 + (j + 1)) = kr l i (i + 1 + j) ++ [agR (l.getD i default) (l.getD q default)]:=by
 subst hq;exact axv (show i < i + 1 + j by omega) hk
def a5n {l:List Row} (hi:i < l.length):kr l i (i + 1 + (l.length - (i + 1))) = kr l (i + 1) (i + 1 + 1):=b2c bv9
variable {av:List AS} {n:Nat}
def a6q (hi:i < (c4 (aa (n:Int))).length):qb n av (i + 1) = ahm av (qb n av i) ((c4 (aa (n:Int))).getD i default):=by
 unfold qb;rw [al hi,bs8];rfl
def a38 (hi:i < (c4 (aa (n:Int))).length) (h1:(av.any fun y=>decide (sub ((c4 (aa (n:Int))).getD i default) y)) = false) (h2:((qb n av i).any fun y=>decide (sub y ((c4 (aa (n:Int))).getD i default))) = false):
 qb n av (i + 1) = qb n av i ++ [(c4 (aa (n:Int))).getD i default]:=by
 rw [a6q hi];exact if_pos ⟨h1,h2⟩
def yt (hi:i < (c4 (aa (n:Int))).length) (h1:(av.any fun y=>decide (sub ((c4 (aa (n:Int))).getD i default) y)) = true):qb n av (i + 1) = qb n av i:=by
 rw [a6q hi];exact if_neg fun e=>by rw [show bj0 av _ = true from h1] at e;cases e.1
def zf (hi:i < (c4 (aa (n:Int))).length) (h2:((qb n av i).any fun y=>decide (sub y ((c4 (aa (n:Int))).getD i default))) = true):qb n av (i + 1) = qb n av i:=by
 rw [a6q hi];exact if_neg fun e=>by rw [h2] at e;cases e.2
theorem b6m:∀ {i:Nat},(qb n av i).length <= i:=by
 intro i
 have key:∀ (l o:List AS),(l.foldl (ahm av) o).length <= o.length + l.length:=by
  intro l
  induction l with
  | nil=>intro o;exact brd _
  | cons x l ih =>
   intro o;have:=ih (ahm av o x)
   have h2:(ahm av o x).length <= o.length + 1:=by
    unfold ahm
    grind
   grind
 have h:=key ((c4 (aa (n:Int))).take i) [];have h3:=List.length_take_le i (c4 (aa (n:Int)));rw [bt8,bs5] at h;exact bs4 h h3
def aip:(j9 l).length <= l.length:=bs4 (btb _ _) (zb l)
def wC (s:AS):Nat -> PV
 | 0=>asC s
 | _=>.any
end
section
variable {P:Program} {nt:Nat} {ops:Array Oper} {st:HSt} {L:List Nat} {Q:HSt -> Prop} {k d:Nat} {o:Oper} {t kt et b mid:Nat} {es:Array MapEntry} {clock:Nat}
def aql {x ix:Operand} {kv:Value} {kl:Lit} {kx:HR} {l:List AS} (hi:ops[k]? = some o) (ht:P.underlying t = some (.map 50 et)) (K:Go.Maps.Keyed P 50) (hz:∀ w,(zeroValue et).run P w = .ok (.agg #[.int .i64 0, .int .i64 0]) w) (hW:WIn P es clock l)
 (hkey:keyOf P 50 kv = some kl) (hkv:kOf kx = some kv)
 (h:∀ a0 b0:Int,RN P nt ops L ⟨(d,some (.v (.agg [.p (.raw (.int .i64 a0)), .p (.raw (.int .i64 b0))]))) :: st.t,st.o⟩ Q)
 (hg:o.guard = none:=by exact rfl) (ho:o.op = .lookup t x ix false:=by exact rfl) (hd:o.dst = some d:=by exact rfl) (hdn:cj nt (some d) = true:=by exact rfl)
 (hx:ev st.den x = some (.v (.one (.ref mid 0))):=by exact rfl) (hm:st.den.o mid = some (mpO b es clock):=by exact rfl) (hk:ev st.den ix = some kx:=by exact rfl):RN P nt ops (k :: L) st Q :=
 abe hi ht K hz rfl hW.mx hkey hkv (fun _=>h 0 0) (fun e he _=>by
  obtain ⟨a0,b0,e2⟩:=hW.vl e he;rw [e2]
  exact h a0 b0) hg ho hd hdn hx hm hk
end
end
section
def agh {P:Nat -> Prop} (h0:P 0) (h1:P 1) (h2:P 2):∀ j,j < 3 -> P j:=fun j hj=>by
 rcases (by omega:j = 0 \/ j = 1 \/ j = 2) with rfl | rfl | rfl <;> assumption
section
variable {k p:Nat}
def b9l {α:Type} [Inhabited α] {wr wr':Bool} {n:Nat} {e:TypeId} {c:α -> Nat -> PV} {l:List α} {v:α} {x y z:PV} (hw:wr' = true -> wr = true) (hn:n = l.length) (hp:k = p) (hk:p < l.length) (hx:x = c v 0) (hy:y = c v 1) (hz:z = c v 2):
 CoO (.arr wr 3 e n (gu (lf c l) k 0 [x,y,z])) (.arr wr' 3 e n (lf c (l.set p v))):=by
 subst hp hx hy hz hn;refine ⟨hw,rfl,rfl,rfl,fun i j hi hj=>CoP.of_eq ?_⟩;unfold gu lf;by_cases h:i = k
 · subst h
   rw [if_pos ⟨rfl,by omega,by simpa using hj⟩,nb hk];revert j;exact agh rfl rfl rfl
 rw [if_neg bv9,getD_set_ne' h]
def aly {α:Type} [Inhabited α] {wr wr':Bool} {n q d:Nat} {e:TypeId} {c:α -> Nat -> PV} {l l':List α} (hw:wr' = true -> wr = true) (hn:n = l.length) (hp:k = p) (hk:p < l.length) (hd:d = q):
 CoO (.arr wr 3 e n (gu (lf c l) k 0 [lf c l' d 0,lf c l' d 1,lf c l' d 2])) (.arr wr' 3 e n (lf c (l.set p (l'.getD q default)))):=b9l hw hn hp hk (by rw [hd];rfl) (by rw [hd];rfl) (by rw [hd];rfl)
variable {a:Nat}
def b5v {α:Type} [Inhabited α] {s n m:Nat} {cl:Bool} {c:α -> Nat -> PV} {l l':List α} {z:List Value} {p:Option Int} {h:Option Int} (hn:dn (b5 n h) p = l'.length) (hp:p = none) (ha:l'.length <= a) (hl:l' = l.take l'.length):
 CoP (.sl (dn (b5 n h) p) s cl (nf (nq (lf c l) a m z) p)) (psl s c l'):=by
 subst hp;refine CoP.sl hn.symm (.inl rfl) (fun h=>by cases h) fun i j hi hj=>CoP.of_eq ?_;rw [hn] at hi;show nq (lf c l) a m z i j = lf c l' i j;unfold nq;rw [if_neg bv9];simp only [lf,List.getD];have e:l'[i]? = l[i]?:=by rw [hl,bsa,if_pos hi]
 rw [e]
structure CpJ (l:List Val) (k p q:Nat) (m:List Val):Prop where
 len:m.length = l.length
 kq:k < q
 pq:p < q
 ql:q <= l.length
 pre:m.take p = gk (l.take q)
 high:∀ j,q - 1 <= j -> m.getD j default = l.getD j default
variable {l:List Val}
theorem CpJ.start (h1:1 <= k) (hk:k < l.length) (h:∀ j,0 < j -> j < k -> ¬ l.getD j default = l.getD (j - 1) default) (hd:l.getD k default = l.getD (k - 1) default):CpJ l k k (k + 1) l :=
 ⟨rfl,by omega,by omega,by omega,by rw [l6 bv9 hk,if_pos hd.symm,bse,qd bv9 h],fun _ _=>rfl⟩
variable {m:List Val}
theorem CpJ.skip {q:Nat} (h:CpJ l k p q m) (hq:q < l.length) (he:m.getD q default = m.getD (q - 1) default):CpJ l k p (q + 1) m:=by
 have hk:=h.kq;refine ⟨h.len,by omega,by have:=h.pq;omega,hq, ?_,fun j hj=>h.high j bv9⟩;rw [h.high q bv9,h.high (q - 1) bv9] at he;rw [l6 bv9 hq,if_pos he.symm,bse,h.pre]
theorem CpJ.keep {q:Nat} (h:CpJ l k p q m) (hq:q < l.length) (he:¬ m.getD q default = m.getD (q - 1) default):CpJ l k (p + 1) (q + 1) (m.set p (m.getD q default)):=by
 have hk:=h.kq;have hp:=h.pq;have hl:=h.len;refine ⟨by simp [hl],by omega,by omega,hq, ?_,fun j hj=>by rw [getD_set_ne' bv9];exact h.high j bv9⟩;have e:=h.high q bv9;rw [e,h.high (q - 1) bv9] at he;rw [l6 bv9 hq,if_neg (fun e=>he e.symm),<- h.pre,al (by simp [hl];omega),nb bv9,e];congr 1;rw [List.take_set,bto bvn]
def auv (hk:l.length <= k) (h:∀ j,0 < j -> j < k -> ¬ l.getD j default = l.getD (j - 1) default):CoP (.sl l.length 3 false (lf Val.c l)) (vals (gk l)):=by
 have:=qd (brd l.length) fun j h1 h2=>h j h1 bv9;rw [bro] at this;rw [this];exact CoP.refl _
def bcd {q n d:Nat} {cl:Bool} {z:List Value} (hC:CpJ l k p q m) (hq:¬ q < l.length) (ha:p <= a):CoP (.sl (dn (b5 n (some (p:Int))) none) 3 cl (nf (nq (lf Val.c m) a d z) none)) (vals (gk l)):=by
 have e:=hC.pre;have h1:=hC.ql;have h2:=hC.len;have h3:=hC.pq;rw [show q = l.length by omega,bro] at e;have el:(gk l).length = p:=by rw [<- e];simp;omega
 exact b5v (by rw [el];rfl) rfl bv9 (by rw [el,e])
def eqJ {b a' b':Nat} (h:(l.getD a' default).kind = (l.getD b' default).kind /\ (l.getD a' default).num = (l.getD b' default).num /\ (l.getD a' default).str = (l.getD b' default).str) (ha:a' = a) (hb:b' = b):l.getD a default = l.getD b default:=by subst ha hb;exact Val.eq_iff.2 h
def neJ {b a' b':Nat} (h:¬ ((l.getD a' default).kind = (l.getD b' default).kind /\ (l.getD a' default).num = (l.getD b' default).num /\ (l.getD a' default).str = (l.getD b' default).str)) (ha:a' = a) (hb:b' = b):¬ l.getD a default = l.getD b default:=by subst ha hb;exact fun e=>h (Val.eq_iff.1 e)
def bo0 {b a' b':Nat} (h:¬ (l.getD a' default).kind = (l.getD b' default).kind \/ ¬ (l.getD a' default).num = (l.getD b' default).num \/ ¬ (l.getD a' default).str = (l.getD b' default).str) (ha:a' = a) (hb:b' = b):¬ l.getD a default = l.getD b default :=
 neJ (fun e=>by
  rcases h with h | h | h
  · exact h e.1
  · exact h e.2.1
  exact h e.2.2) ha hb
end
end
end Go.Hx
