/- A part of the proof: Cs24 Cs26 V25 Cs27 Cs28 Cs29 Cs30 V29 Cs31 V30 Cs32 Cs33 Cs34 Cs35 V34 Cs36. -/
import Derived.Test.YtnlcekpflogjkaaGreatDoorTz19
set_option linter.all false
set_option maxRecDepth 100000
namespace Go.Hx
section
def a78{l:List Fd}{p:AS}(h:bsz p<=12):dx l p=true<->∃x,sub x p/\kw l p x=true:=by
 constructor
 · intro hv
   obtain⟨x,_,h1,h2⟩:=b1p hv;exact⟨x,h1,h2⟩
 rintro⟨x,h1,h2⟩;unfold dx a1p;rw[List.find?_isSome];refine⟨x, ?_,h2⟩;unfold b6;rw[if_neg bx5];exact qn.2 h1
section
variable {n:Int}{l:List Fd}
def agz (h:aw n l=0):∀f∈l,sub f.lhs (a6 n)/\sub f.rhs (a6 n):=fun f hf=>by
 obtain⟨h0,h1,_,h3⟩:=d9 h;exact(a38 h0 h1).1 (btl.1 h3 f hf)
def ar0(h:aw n l=0):pw l (a6 n):=fun f hf _=>(agz h f hf).2
def ol(h:aw n l=0){x:AS}(hx:sub x (a6 n)):sub (clo l x) (a6 n):=n9 (ar0 h) hx
def b6o(h:aw n l=0)(hn:n<=12):l.any (bcP n l)=dx l (a6 n):=by
 have hb:bsz (a6 n)<=12:=a0n (n:=n) (m:=12) hn bx5;rw[bv5,a78 hb,bue];constructor
 · rintro ⟨f,hf,hv⟩
   unfold bcP at hv;rw[bt3,decide_eq_true_iff,decide_eq_true_iff]at hv;obtain⟨f1,f2⟩:=agz h f hf;refine⟨f.lhs,f1, ?_⟩;have hc:=aiy.1 (ol h f1);unfold kw;rw[hc,bt3,decide_eq_true_iff,decide_eq_true_iff];refine⟨fun e=>hv.1 ?_,hv.2⟩;have h1:sub f.rhs (clo l f.lhs):=gr f hf jf;rw[e]at h1;exact h1
 rintro⟨x,hx,hv⟩;unfold kw at hv;rw[aiy.1 (ol h hx),bt3,decide_eq_true_iff,decide_eq_true_iff]at hv;have hnc:¬pw l x:=fun hc=>hv.1 (ah4 (u6.2 hc))
 obtain ⟨f,hf,h1,h2⟩:∃f∈l,sub f.lhs x/\¬sub f.rhs x:=by
  apply Classical.byContradiction;intro hne;exact hnc fun f hf h1=>Classical.byContradiction fun h2=>hne ⟨f,hf,h1,h2⟩
 refine⟨f,hf, ?_⟩;unfold bcP;rw[bt3,decide_eq_true_iff,decide_eq_true_iff];refine⟨fun e=>h2 (bz e h1),fun e=>hv.2 ?_⟩;refine d7 (ol h hx) ?_;rw[<- e];exact wc h1
end
def a2m {α β:Type} [Inhabited α] {f:α->β} {l:List α} {i:Nat} (h:i<l.length):(l.take (i+1)).map f=(l.take i).map f++[f (l.getD i default)]:=by
 rw[aj h,bux];rfl
structure Dps where
 n:BitVec 8
 l:List Dp
deriving Inhabited
def Dps.num(d:Dps):Int:=((d.n.toNat%7:Nat):Int)
def Dps.fds(d:Dps):List Fd:=d.l.map (Dp.fd d.num)
def Dps.c (d:Dps):Nat->PV
 |0=>.raw (.int .u8 (d.n.toNat:Int))
 |1=>dpl d.l
 |_=>.any
abbrev Dps.pc(d:Dps):PC:=.agg [d.c 0,d.c 1]
def ans(d:Dps):0<=d.num/\d.num<=6:=by unfold Dps.num;omega
def b1u {d:Dps} (h:d.l.length<=6):aw d.num d.fds=0:=by
 obtain⟨h0,h1⟩:=ans d;unfold aw;rw[if_neg bx5,if_neg (by unfold Dps.fds;rw[btw];omega),if_pos];rw[btl];intro f hf;unfold Dps.fds at hf;obtain⟨x,hx,rfl⟩:=bto.1 hf;exact(a38 h0 bx5).2 ⟨lw,lw⟩
def baf {d:Dps} (h:d.l.length<=6):fb d.num d.fds 8=0:=by
 unfold fb;rw[if_pos (b1u h),if_neg (by have:=(ans d).2;omega)]
end
section
def noA(s:AS)(a:Nat):AS:=s&&&~~~((1:AS)<<<a)
def auy (s:AS) (a:Nat) {b:Int} (h:b.toNat=a):bu .andNot .u32 (asI s) (IntKind.wrap .u32 (1*2^(min b.toNat 32)))=asI (noA s a):=by
 rw[h];exact a98 s a
def b1y(n:Int)(l:List Fd)(s:AS)(a:Nat):AS:=if f0 n l (noA s a)=true then noA s a else s
def s6(n:Int)(l:List Fd)(s:AS)(k:Nat):AS:=(List.range k).foldl (fun s j=>b1y n l s (n.toNat-1-j)) s
def af3 (n:Int) (l:List Fd) (s:AS) (k:Nat):s6 n l s (k+1)=b1y n l (s6 n l s k) (n.toNat-1-k):=by
 unfold s6;rw[bu3,btr];rfl
section
variable {l:List Fd}{n:Int}{s:AS}
def auo {k:Nat} (h:f0 n l (noA (s6 n l s k) (n.toNat-1-k))=true):s6 n l s (k+1)=noA (s6 n l s k) (n.toNat-1-k):=by
 rw[af3];exact if_pos h
def aso {k:Nat} (h:f0 n l (noA (s6 n l s k) (n.toNat-1-k))=false):s6 n l s (k+1)=s6 n l s k:=by
 rw[af3];exact if_neg (by rw[h];decide)
def rkE(n:Int)(l:List Fd)(s:AS):Int:=if aw n l=0 then(if f0 n l s=true then 0 else 1)else aw n l
def rkS(n:Int)(l:List Fd)(s:AS):AS:=if rkE n l s=0 then s6 n l s n.toNat else 0
def bpi (h:¬aw n l=0):rkS n l s=0/\rkE n l s=aw n l:=by
 have e:rkE n l s=aw n l:=if_neg h;exact⟨if_neg (by rw[e];exact h),e⟩
def bp6 (h:aw n l=0) (h2:f0 n l s=false):rkS n l s=0/\rkE n l s=1:=by
 have e:rkE n l s=1:=by unfold rkE;rw[if_pos h,if_neg (by rw[h2];decide)]
 exact⟨if_neg (by rw[e];decide),e⟩
def bki (h:aw n l=0) (h2:f0 n l s=true):rkS n l s=s6 n l s n.toNat/\rkE n l s=0:=by
 have e:rkE n l s=0:=by unfold rkE;rw[if_pos h,if_pos h2]
 exact⟨if_pos e,e⟩
def kp(n:Int)(l:List Fd)(s:AS):Bool:=f0 n l s&&(List.range n.toNat).all fun a=>!(s.getLsbD a&&f0 n l (noA s a))
def b5t {a:Nat} (ha:a<n.toNat) (h:s.getLsbD a=true) (h2:f0 n l (noA s a)=true):kp n l s=false:=by
 unfold kp;rw[bwi];refine .inr ?_;rw[bwl];exact⟨a,btg.2 ha,by rw[h,h2];decide⟩
def at8 (h:f0 n l s=true) (h2:∀a,a<n.toNat->(s.getLsbD a&&f0 n l (noA s a))=false):kp n l s=true:=by
 unfold kp;rw[h,bu0,btl];intro a ha;rw[h2 a (btg.1 ha)];rfl
def ny(n:Int)(l:List Fd)(i:Nat):List AS:=((List.range i).map (BitVec.ofNat 32)).filter (kp n l)
def v8 {i:Nat} (h:kp n l (BitVec.ofNat 32 i)=true):ny n l (i+1)=ny n l i++[BitVec.ofNat 32 i]:=by
 unfold ny;rw[bu3,bux,bu6];simp only[bur,bx3,buf,h,if_true,bv3]
def uq {i:Nat} (h:kp n l (BitVec.ofNat 32 i)=false):ny n l (i+1)=ny n l i:=by
 unfold ny;rw[bu3,bux,bu6];simp only[bur,bx3,buf,h,bup,if_false,bv3,btq]
def ajs (n:Int) (l:List Fd) (i:Nat):(ny n l i).length<=i:=by
 unfold ny;exact bth (buo _ _) (by rw[btw,bvz];exact bt2 _)
def ed(n:Int)(l:List Fd):List AS:=if aw n l=0 then ord (ny n l (2^n.toNat)) else[]
def agy(h:aw n l=0):ed n l=ord (ny n l (2^n.toNat)):=if_pos h
def bd5(h:¬aw n l=0):ed n l=[]:=if_neg h
def bl6 (h0:0<=n) (h1:n<=16):asI (a6 n)+1=(2^n.toNat:Nat)/\2^n.toNat<=65536:=by
 have h2:2^n.toNat<=2^16:=bum bx5 bx5;have h3:0<2^n.toNat:=Nat.two_pow_pos _;unfold a6 asI;rw[abc (Nat.min_le_right _ _),bua bx5];omega
end
end
section
open Go.Proofs
def be2(n:Int)(l:List Fd)(s:AS):a7 bxr 39 [pI n,pP (fdl l),pA s] (ae [pA (rkS n l s),pI (rkE n l s)]):=by
 refine hpx (nt:=38) Tryz.func39 ?_;refine cr ?_;refine qcx qj (tg n l) ?_;refine w_7 ?_;refine hcn ?_ ?_<;>intro h0
 · refine w_6 ?_;refine hrr ?_;have he:=bpi (s:=s) h0;exact f9 rfl rfl (⟨cci (congrArg asI he.1.symm),cci he.2.symm,trivial⟩)
 refine w_7 ?_;refine qcx aew (ale n l s) ?_;refine w_2 ?_;refine hcv ?_ ?_<;>intro h1
 · refine w_5 ?_;refine hrr ?_;have he:=bp6 h0 bx6;exact f9 rfl rfl (⟨cci (congrArg asI he.1.symm),cci he.2.symm,trivial⟩)
 refine w_3 ?_;have hv:=d9 h0;refine w_6 ?_;refine bw (ka 0 (ka 1 kn)) km (fun k=>⟨[(2,some (vA (s6 n l s k))),(9,some (vI (n-1-(k:Int))))],[]⟩) n.toNat ⟨⟨zy,⟨_,rfl,(coi bx5)⟩,trivial⟩,trivial⟩ ?_;rintro k hk;refine w_6 ?_;refine hcd ?_ ?_<;>intro h2
 ·
  refine ss ?_;refine rc rfl rfl rfl rfl rfl rfl aew (ale n l (noA (s6 n l s k) (n.toNat-1-k))) (⟨CoC.refl _,CoC.refl _,cci (auy _ _ bx5),trivial⟩) rfl rfl ?_;refine dq ?_;refine hcb ?_ ?_<;>intro h3
  ·
   refine w_9 ?_
   first | (refine lpz (k+1) ⟨⟨⟨_, rfl, (df ((auy _ (n.toNat-1-k) bx5).trans (congrArg asI (auo bx6).symm)))⟩, ⟨_, rfl, (coi bx5)⟩, tt⟩, trivial⟩ ?_; show k+1<=_; omega)
         |(refine lpz (k+1) ⟨⟨⟨_,rfl,(df (by rw[aso bx6]))⟩,⟨_,rfl,(coi bx5)⟩,tt⟩,trivial⟩ ?_;show k+1<=_;omega)
  refine w_6 ?_
  first | (refine lpz (k+1) ⟨⟨⟨_, rfl, (df ((auy _ (n.toNat-1-k) bx5).trans (congrArg asI (auo bx6).symm)))⟩, ⟨_, rfl, (coi bx5)⟩, tt⟩, trivial⟩ ?_; show k+1<=_; omega)
        |(refine lpz (k+1) ⟨⟨⟨_,rfl,(df (by rw[aso bx6]))⟩,⟨_,rfl,(coi bx5)⟩,tt⟩,trivial⟩ ?_;show k+1<=_;omega)
 refine w_7 ?_;refine hrr ?_;have he:=bki h0 bx6;obtain rfl:k=n.toNat:=by omega
 exact f9 rfl rfl (⟨cci (congrArg asI he.1.symm),cci he.2.symm,trivial⟩)
end
section
section
variable {n:Int}
def avn (h0:0<=n) (h1:n<=16):IntKind.wrap .i64 (1*2^min n.toNat IntKind.i64.bits)=((2^n.toNat:Nat):Int):=by
 have h2:2^n.toNat<=2^16:=bum bx5 bx5
 have e:(1:Int)*2^min n.toNat IntKind.i64.bits=((2^n.toNat:Nat):Int):=by
  rw[show min n.toNat IntKind.i64.bits=n.toNat from bua (by show n.toNat<=64;omega),Int.natCast_pow,Int.one_mul];rfl
 rw[e];have h3:((2^n.toNat:Nat):Int)<=65536:=by omega
 have h4:0<=((2^n.toNat:Nat):Int):=bv7 _;generalize ((2^n.toNat:Nat):Int)=z at *;exact qx (by simp only[inR,ui,x8];omega)
def bj5{m:Nat}(h:m<=65536):0<=(m:Int)/\(m:Int)<=m/\(m:Int)<=9223372036854775807/\((1:Nat):Int)*m<=281474976710656:=by omega
def bC:Bool->Nat->PV:=fun b _=>.raw (.bool b)
def xk(n:Int)(l:List Fd)(k:Nat):Bool:=decide (clo l (BitVec.ofNat 32 k)=a6 n)
def a0v(n:Int)(l:List Fd)(i:Nat):List Bool:=(List.range (2^n.toNat)).map fun k=>decide (k<i)&&xk n l k
def uf(n:Int)(l:List Fd)(i:Nat):(a0v n l i).length=2^n.toNat:=by unfold a0v;rw[btw,bvz]
variable {l:List Fd}
def a63 {i k:Nat} (h:k<2^n.toNat):(a0v n l i)[k]? = some (decide (k<i)&&xk n l k):=by
 unfold a0v;rw[btm,bus h];rfl
def b65{i:Nat}(h:i<2^n.toNat):(a0v n l i).set i (xk n l i)=a0v n l (i+1):=by
 apply bvo;intro k;rw[List.getElem?_set,uf];by_cases hk:k<2^n.toNat
 · rw [a63 hk,a63 hk]
   by_cases e:i=k
   · subst e
     rw[if_pos rfl,if_pos h,decide_eq_true (Nat.lt_succ_self _)];rfl
   rw[if_neg e];congr 2;exact decide_eq_decide.2 bx5
 have e:i≠k:=by omega
 rw[if_neg e,bw7 (by rw[uf];omega),bw7 (by rw[uf];omega)]
def azq {m:Nat} {f:Nat->Nat->PV} {e:TypeId} (hm:m=2^n.toNat) (hf:∀i,f i 0=.raw (.bool false)):CoO (.arr true 1 e m f) (.arr true 1 e (2^n.toNat) (lf bC (a0v n l 0))):=by
 subst hm;refine⟨fun h=>h,rfl,rfl,rfl,fun i j hi hj=>CoP.of_eq ?_⟩;have hj:j<1:=hj;have hi:i<2^n.toNat:=hi;obtain rfl:j=0:=by omega
 rw[hf];unfold lf;rw[bt1,a63 hi];rfl
def a1f(n:Int)(l:List Fd):List Bool:=a0v n l (2^n.toNat)
def axu {i k:Nat} {e:TypeId} {x:PV} (h:i<2^n.toNat) (hk:k=i) (hx:x=bC (xk n l i) 0):CoO (.arr true 1 e (2^n.toNat) (fz (lf bC (a0v n l i)) k 0 [x])) (.arr true 1 e (2^n.toNat) (lf bC (a0v n l (i+1)))):=by
 rw[<- b65 h];exact vb (fun h=>h) (uf _ _ _).symm hk (by rw[uf];exact h) hx
def acr {k:Nat} (h:k<2^n.toNat):(a1f n l).getD k default=xk n l k:=by
 unfold a1f;rw[bt1,a63 h,decide_eq_true h];rfl
def b3o(n:Int)(l:List Fd):(a1f n l).length=2^n.toNat:=uf _ _ _
end
end
section
section
variable {a i:Nat}
def bo2 (hi:i<65536) (ha:a<16):bu .xor .i64 (i:Int) (IntKind.wrap .i64 (1*2^min (a:Int).toNat IntKind.i64.bits))=((i ^^^ 2^a:Nat):Int):=by
 have h2:2^a<=2^15:=bum bx5 bx5;have h3:i ^^^ 2^a<2^16:=Nat.xor_lt_two_pow hi bx5
 have e:IntKind.wrap .i64 (1*2^min (a:Int).toNat IntKind.i64.bits)=((2^a:Nat):Int):=by
  have:=avn (n:=(a:Int)) bx5 bx5;rwa [btc]at this ⊢
 rw[e];show IntKind.wrap .i64 ((BitVec.ofInt 64 (i:Int) ^^^ BitVec.ofInt 64 ((2^a:Nat):Int)).toNat:Int)=_
 have e1:(BitVec.ofInt 64 (i:Int) ^^^ BitVec.ofInt 64 ((2^a:Nat):Int)).toNat=i ^^^ 2^a:=by
  rw[BitVec.toNat_xor,BitVec.ofInt_natCast,BitVec.ofInt_natCast,bw9,bw9,bvh bx5,bvh bx5]
 rw[e1];generalize i ^^^ 2^a=z at *;exact qx (by simp only[inR,ui,x8];omega)
def ash {j:Nat}:(i ^^^ 2^a).testBit j=if j=a then !i.testBit j else i.testBit j:=by
 rw[Nat.testBit_xor,Nat.testBit_two_pow];by_cases h:j=a
 · subst h;simp
 rw[if_neg h,decide_eq_false (fun e=>h e.symm)];simp
def afd {k:Nat} (hk:k<32):(BitVec.ofNat 32 i).getLsbD k=i.testBit k:=by
 rw[BitVec.getLsbD_ofNat,decide_eq_true hk,bu0]
def at2(ha:a<32)(h:i.testBit a=true):(BitVec.ofNat 32 (i ^^^ 2^a):AS)=noA (BitVec.ofNat 32 i) a:=by
 apply bu7;intro k hk;unfold noA;rw[afd hk,ash,bta,bu9,decide_eq_true hk,bu0,afd hk];have h1:((1:AS)<<<a).getLsbD k=decide (k=a):=er a k hk;rw[h1];by_cases e:k=a
 · subst e
   rw[if_pos rfl,h,decide_eq_true rfl];rfl
 rw[if_neg e,decide_eq_false e];simp
def az5 (hi:i<65536) (ha:a<16) (h:i.testBit a=true):i ^^^ 2^a<i:=by
 have h3:i ^^^ 2^a<2^16:=Nat.xor_lt_two_pow hi (Nat.pow_lt_pow_right bx5 bx5);have e:=congrArg BitVec.toNat (at2 (i:=i) (a:=a) bx5 h);have hs:sub (noA (BitVec.ofNat 32 i) a) (BitVec.ofNat 32 i):=gc
 have hne:noA (BitVec.ofNat 32 i) a≠BitVec.ofNat 32 i:=fun e=>by
  have e1:=congrArg (fun z:AS=>z.getLsbD a) e;unfold noA at e1;have h1:((1:AS)<<<a).getLsbD a=decide (a=a):=er a a bx5;simp only[bta,bu9,h1,afd (show a<32 by omega),h]at e1;simp at e1
 have hl:=vz hs hne;rw[<- e,bw9,bw9,bvh bx5,bvh bx5]at hl;exact hl
def bkt (hi:i<65536) (ha:a<16) (h:i.testBit a=false):i<i ^^^ 2^a:=by
 have h3:i ^^^ 2^a<2^16:=Nat.xor_lt_two_pow hi (Nat.pow_lt_pow_right bx5 bx5);have hb:(i ^^^ 2^a).testBit a=true:=by rw[ash,if_pos rfl,h];rfl
 have:=az5 h3 ha hb;rwa [Nat.xor_assoc,Nat.xor_self,Nat.xor_zero]at this
end
section
variable {n:Int}{l:List Fd}
section
variable {i:Nat}
def aj7 (h0:0<=n) (h1:n<=16) (h:i<2^n.toNat):sub (BitVec.ofNat 32 i) (a6 n):=ai.2 fun k hk hb=>by
 rw[afd hk]at hb;unfold a6;rw[lq _ k hk,bua bx5];rw[decide_eq_true_iff];apply Classical.byContradiction;intro hge;have hlt:i<2^k:=bvt h (bum bx5 bx5);rw[Nat.testBit_lt_two_pow hlt]at hb;cases hb
def anf (hv:aw n l=0) (h:i<2^n.toNat):f0 n l (BitVec.ofNat 32 i)=xk n l i:=by
 obtain⟨h0,h1,_⟩:=d9 hv;unfold f0 xk;exact decide_eq_decide.2 ⟨fun e=>e.2.2,fun e=>⟨hv,aj7 h0 h1 h,e⟩⟩
def akh{a:Nat}(h:i<2^n.toNat)(ha:a<n.toNat):i ^^^ 2^a<2^n.toNat:=Nat.xor_lt_two_pow h (Nat.pow_lt_pow_right bx5 ha)
def okA(n:Int)(l:List Fd)(i a:Nat):Bool:=xk n l i&&(List.range a).all fun b=>!(i.testBit b&&xk n l (i ^^^ 2^b))
def abk (i a:Nat):okA n l i (a+1)=(okA n l i a&&!(i.testBit a&&xk n l (i ^^^ 2^a))):=by
 unfold okA;rw[bu3,List.all_append];simp only[List.all_cons,List.all_nil,Bool.and_true,Bool.and_assoc]
def asx (hv:aw n l=0) (h:i<2^n.toNat):kp n l (BitVec.ofNat 32 i)=okA n l i n.toNat:=by
 obtain⟨h0,h1,_⟩:=d9 hv;unfold kp okA;rw[anf hv h];congr 1
 have key:∀a,a<n.toNat->(!((BitVec.ofNat 32 i:AS).getLsbD a&&f0 n l (noA (BitVec.ofNat 32 i) a)))=!(i.testBit a&&xk n l (i ^^^ 2^a)):=fun a ha=>by
  rw[afd bx5]
  cases hb:i.testBit a with
  |false=>rfl
  |true=>rw[<- at2 bx5 hb,anf hv (akh h ha)]
 rw[bv5,btl,btl];exact⟨fun hh a ha=>by rw[<- key a (btg.1 ha)];exact hh a ha,fun hh a ha=>by rw[key a (btg.1 ha)];exact hh a ha⟩
def oj {a:Nat} (hv:aw n l=0) (h:i<2^n.toNat) (ha:a<=n.toNat) (hf:okA n l i a=false):kp n l (BitVec.ofNat 32 i)=false:=by
 rw[asx hv h]
 have:∀d,okA n l i (a+d)=false:=by
  intro d
  induction d with
  |zero=>exact hf
  |succ d ih=>rw[<- bv6,abk,ih];rfl
 have e:=this (n.toNat-a);rwa [show a+(n.toNat-a)=n.toNat by omega]at e
def blo (h:i<2^n.toNat):((a1f n l).getD ((i:Nat):Int).toNat default==true)=okA n l i 0:=by
 show((a1f n l).getD i default==true)=_;rw[acr h];unfold okA;simp
end
section
variable {i a:Nat}(hv:aw n l=0)(hi:i<2^n.toNat)(ha:(a:Int)<n)(hx:i ^^^ 2^a<2^n.toNat)
theorem azy (hi:i<65536) (ha:a<16):(decide (((i ^^^ 2^a:Nat):Int)<(i:Int))==true)=i.testBit a:=by
 cases hb:i.testBit a with
 | false =>
  have:=bkt hi ha hb;rw[decide_eq_false bx5];rfl
 | true =>
  have:=az5 hi ha hb;rw[decide_eq_true bx5];rfl
include hv hi ha hx
theorem avf (h3:(decide (((i ^^^ 2^a:Nat):Int)<(i:Int))==true)=true) (h4:((a1f n l).getD (((i ^^^ 2^a:Nat):Int)).toNat default==true)=true):false=okA n l i (a+1):=by
 have hv0:=d9 hv;have hpw:2^n.toNat<=2^16:=bum bx5 bx5;rw[azy bx5 bx5]at h3;have h4:((a1f n l).getD (i ^^^ 2^a) default==true)=true:=h4;rw[acr hx]at h4;have h4:xk n l (i ^^^ 2^a)=true:=by simpa using h4
 rw[abk,h3,h4];simp
theorem a9f (h:(decide (((i ^^^ 2^a:Nat):Int)<(i:Int))==true)=false\/((a1f n l).getD (((i ^^^ 2^a:Nat):Int)).toNat default==true)=false):okA n l i a=okA n l i (a+1):=by
 have hv0:=d9 hv;have hpw:2^n.toNat<=2^16:=bum bx5 bx5;rw[abk]
 rcases h with h|h
 · rw [azy bx5 bx5]at h
   rw[h];simp
 have h4:((a1f n l).getD (i ^^^ 2^a) default==true)=false:=h;rw[acr hx]at h4;have h4:xk n l (i ^^^ 2^a)=false:=by simpa using h4
 rw[h4];simp
end
def y5 {i a:Nat} (hv:aw n l=0) (hi:i<2^n.toNat) (ha:a<=n.toNat) (h:okA n l i a=true) (h1:¬(a:Int)<n):kp n l (BitVec.ofNat 32 i)=true:=by
 rw[asx hv hi];have:=(d9 hv).1;rwa [show n.toNat=a by omega]
def y6 {i a:Nat} (h:okA n l i a=false) (h1:okA n l i a=true) {p:Prop}:p:=by
 rw[h]at h1;cases h1
end
end
section
def ajq(n:Int)(l:List Fd):(ed n l).length<=65536:=by
 unfold ed;split
 · rename_i h
   have h1:=pn (ny n l (2^n.toNat));have h2:=ajs n l (2^n.toNat);have h3:=(d9 h);have h4:2^n.toNat<=2^16:=bum bx5 bx5;omega
 simp
end
section
def xm (s:AS):Nat->AS->List AS
 |0,_=>[]
 |n+1,x=>if x=0 then[]else x::xm s n ((x-1)&&&s)
def fy(s:AS):List AS:=0::xm s (s.toNat+1) s
def sub_zero(s:AS):sub 0 s:=ai.2 fun i hi h=>by simp at h
section
variable {s:AS}
def ajh:∀(n:Nat) (x:AS),sub x s->x.toNat<n->∀z,z∈xm s n x<->sub z s/\z≠0/\z.toNat<=x.toNat
 |0,x,_,h,z=>absurd h (bt9 _)
 | n + 1,x,hx,h,z=>by
  unfold xm;by_cases h0:x=0
  · rw [if_pos h0]
    subst h0;constructor
    · intro h;cases h
    rintro⟨_,h1,h2⟩;exact absurd (bu2 (bx0 h2 (bt6 _))) h1
  rw[if_neg h0,btd,ajh n _ a51 (by have:=sd (s:=s) h0;omega)];constructor
  · rintro (rfl|⟨h1,h2,h3⟩)
    · exact⟨hx,h0,bt2 _⟩
    have:=sd (s:=s) h0;exact⟨h1,h2,by omega⟩
  rintro⟨h1,h2,h3⟩;by_cases he:z=x
  · exact .inl he
  have hne:z.toNat≠x.toNat:=fun e=>he (bu2 e);exact .inr ⟨h1,h2,ac2 hx h1 bx5⟩
def yk{z:AS}:z∈fy s<->sub z s:=by
 unfold fy;rw[btd,ajh _ _ (sub_self s) (Nat.lt_succ_self _)];constructor
 · rintro (rfl|h)
   · exact sub_zero s
   exact h.1
 intro h;by_cases h0:z=0
 · exact .inl h0
 exact .inr ⟨h,h0,ag0 h⟩
def TsI(s:AS)(x:Nat×List AS×AS):Prop:=x.2.1++xm s x.1 x.2.2=fy s/\x.2.2.toNat<x.1/\x.2.1.length+x.1=s.toNat+2
def bb6(s:AS):TsI s (s.toNat+1,[0],s):=⟨rfl,Nat.lt_succ_self _,by dsimp only;rw[bv0];omega⟩
def bdh {x:Nat×List AS×AS} (h:TsI s x) (h0:x.2.2≠0):TsI s (x.1-1,x.2.1++[x.2.2],(x.2.2-1)&&&s):=by
 obtain⟨h1,h2,h3⟩:=h;obtain⟨n,hn⟩:∃n,x.1=n+1:=⟨x.1-1,by omega⟩;have hl:=sd (s:=s) h0;refine⟨?_,by dsimp only;omega,by dsimp only;rw[bt8,bv0];omega⟩;rw[<- h1,hn];show(x.2.1++[x.2.2])++xm s n _=_;rw[bu4]
 conv=>rhs;unfold xm
 rw[if_neg h0];rfl
def bjo {x:Nat×List AS×AS} (h:TsI s x) (h0:x.2.2=0):x.2.1=fy s:=by
 obtain⟨h1,h2,h3⟩:=h;obtain⟨n,hn⟩:∃n,x.1=n+1:=⟨x.1-1,by omega⟩;rw[<- h1,hn];unfold xm;rw[if_pos h0,btq]
def ajw(s:AS):(fy s).length<=4294967297:=by
 have:∀n x,(xm s n x).length<=n:=by
  intro n
  induction n with
  |zero=>intro x;exact bt2 _
  | succ n ih =>
   intro x;unfold xm;split
   · simp
   rw[bud];have:=ih ((x-1)&&&s);omega
 have h1:=this (s.toNat+1) s;have:=s.isLt;unfold fy;rw[bud];omega
variable {r:AS}
def bkk(h:r≠0):r&&&(-r)=(1:AS)<<<gm r:=by
 obtain⟨h1,h2,h3,h4⟩:=sb h
 have e:-r = ~~~(r-1):=by
  apply bu2;have h0:r.toNat≠0:=fun e=>h (bu2 e);have:=r.isLt;rw[BitVec.toNat_neg,BitVec.toNat_not,a5c h];omega
 rw[e];apply bu7;intro i hi;have h5:=congrArg (fun z:AS=>z.getLsbD i) h4;simp only[bta,bu9,decide_eq_true hi,bu0]at h5;have h6:((1:AS)<<<gm r).getLsbD i=decide (i=gm r):=er _ i hi;rw[bta,bu9,decide_eq_true hi,bu0,h6];rw[h6]at h5;by_cases hl:i=gm r
 · subst hl
   rw[h2]at h5 ⊢;simpa using h5
 rw[decide_eq_false hl]at h5 ⊢;cases hr:r.getLsbD i<;>rw[hr]at h5<;>simpa using h5
def b7l (r:AS) (h:r≠0) {a:Int} (ha:a=IntKind.wrap .u32 (0-asI r)):bu .and .u32 (asI r) a=asI ((1:AS)<<<gm r):=by
 have e:a=asI (-r):=by
  rw[ha];have h0:r.toNat≠0:=fun e=>h (bu2 e);have:=r.isLt;unfold asI;rw[BitVec.toNat_neg];simp only[IntKind.wrap,IntKind.signed,IntKind.bits];simp;omega
 rw[e,it,bkk h]
def ni(l:List Fd)(p s:AS):Bool:=decide (sub p (clo l s))
variable {l:List Fd}{p:AS}
def ta:decide (bu .and .u32 (asI (clo l s)) (asI p)=asI p)=ni l p s:=by
 rw[it,a0h];unfold ni;refine decide_eq_decide.2 ⟨fun e=>?_,fun e=>?_⟩
 · rw[<- e];exact gc
 refine d7 lw (mh e (dw p))
def a2r(l:List Fd)(p x:AS):Bool:=(List.range 32).all fun a=>!(x.getLsbD a&&ni l p (noA x a))
variable {x:AS}
def bha {a:Nat} (ha:a<32) (h:x.getLsbD a=true) (h2:ni l p (noA x a)=true):a2r l p x=false:=by
 unfold a2r;rw[bwl];exact⟨a,btg.2 ha,by rw[h,h2];decide⟩
def bhb (h2:∀a,a<32->x.getLsbD a=true->ni l p (noA x a)=false):a2r l p x=true:=by
 unfold a2r;rw[btl];intro a ha
 cases hx:x.getLsbD a with
 |false=>rfl
 |true=>rw[h2 a (btg.1 ha) hx];rfl
def aia(l:List Fd)(p x r:AS):Prop:=sub r x/\∀a,a<32->x.getLsbD a=true->r.getLsbD a=true\/ni l p (noA x a)=false
def b52(l:List Fd)(p x:AS):aia l p x x:=⟨dw x,fun a _ h=>.inl h⟩
def b98 (h:aia l p x r) (h0:r≠0):gm r<32/\x.getLsbD (gm r)=true:=by
 obtain⟨h1,h2,_,_⟩:=sb h0;exact⟨h1,ai.1 h.1 _ h1 h2⟩
def b54(h:aia l p x r)(h0:r≠0)(hf:ni l p (noA x (gm r))=false):aia l p x (r&&&(r-1)):=by
 obtain⟨h1,h2,h3,h4⟩:=sb h0;rw[h4];refine⟨bz gc h.1,fun a ha hx=>?_⟩
 rcases h.2 a ha hx with h5|h5
 · by_cases hl:a=gm r
   · subst hl;exact .inr hf
   refine .inl ?_;have h6:((1:AS)<<<gm r).getLsbD a=decide (a=gm r):=er _ a ha;rw[bta,bu9,decide_eq_true ha,bu0,h5,h6,decide_eq_false hl];rfl
 exact .inr h5
def bb9 (h:aia l p x r) (h0:r=0):a2r l p x=true:=bhb fun a ha hx=>by
 rcases h.2 a ha hx with h5|h5
 · subst h0;simp at h5
 exact h5
def b1z (h:r≠0):(r&&&(r-1)).toNat<r.toNat:=by
 have h1:=a5c h;have h0:r.toNat≠0:=fun e=>h (bu2 e);rw[bwe,h1];have:(r.toNat&&&(r.toNat-1))<=r.toNat-1:=Nat.and_le_right;omega
def xg(l:List Fd)(p x:AS):Bool:=ni l p x&&a2r l p x
def jl(l:List Fd)(p:AS):AS:=orL ((fy p).filter (xg l p))
def a3f {k:Nat}:∀{ps:List AS} {s:AS},(ps.foldl (·|||·) s).getLsbD k=(s.getLsbD k||ps.any fun x=>x.getLsbD k)
 | [],s=>by simp
 | x::ps,s=>by
  rw[bw1,a3f,buy,List.any_cons,Bool.or_assoc]
def b6s {a b:List AS} (h:∀z,z∈a<->z∈b):orL a=orL b:=by
 apply bu7;intro i hi;unfold orL;rw[a3f,a3f];congr 1;rw[bv5,bue,bue];exact⟨fun⟨x,h1,h2⟩=>⟨x,(h x).1 h1,h2⟩,fun⟨x,h1,h2⟩=>⟨x,(h x).2 h1,h2⟩⟩
def w3(l:List Fd)(p:AS)(i:Nat):AS:=orL (((fy p).take i).filter (xg l p))
def bbd(a:List AS)(x:AS):orL (a++[x])=orL a|||x:=by unfold orL;rw[btr];rfl
def acw {i:Nat} (hi:i<(fy p).length) (h:xg l p ((fy p).getD i default)=true):w3 l p (i+1)=w3 l p i|||(fy p).getD i default:=by
 unfold w3;rw[aj hi,bu6];simp only[buf,h,if_true,bv3];exact bbd _ _
def xi {i:Nat} (hi:i<(fy p).length) (h:xg l p ((fy p).getD i default)=false):w3 l p (i+1)=w3 l p i:=by
 unfold w3;rw[aj hi,bu6];simp only[buf,h,bup,if_false,bv3,btq]
def aw0(l:List Fd)(p:AS):w3 l p (fy p).length=jl l p:=by unfold w3 jl;rw[btb]
def aq8(h:ni l p x=true)(h2:a2r l p x=true):xg l p x=true:=by unfold xg;rw[h,h2];rfl
def ai5(h:ni l p x=false):xg l p x=false:=by unfold xg;rw[h];rfl
def aig(h:a2r l p x=false):xg l p x=false:=by unfold xg;rw[h];simp
end
end
section
open Go.Proofs
def b07(s:AS):a7 bxr 127 [pA s] (ae [pP (asl (fy s))]):=by
 refine hpx (nt:=18) Tryz.func127 ?_;refine w_6 ?_;refine m9 0 ?_;refine w_9 ?_;refine am (ι:=Nat×List AS×AS) (ka 0 kn) km (fun x=>⟨[(3,some (.v (.one (.ref 0 x.2.1.length)))),(4,some (vA x.2.2))],[(0,some (.arr true 1 50 x.2.1.length (lf sC x.2.1)))]⟩) (fun x=>TsI s x) (fun x=>x.1) ((s.toNat+1,[0],s)) (bb6 s) ⟨tt,⟨⟨_,rfl,(np (CoP.refl _))⟩,trivial⟩⟩ ?_;rintro x hx;have hlen:=hx.2;have hsl:=s.isLt;refine w_6 ?_;refine hcn ?_ ?_<;>intro h0
 ·
  have hne:x.2.2≠0:=fun e=>h0 (by rw[e];rfl);refine w_6 ?_;refine m9 1 ?_;refine r9 2 true ?_;refine w_4 ?_;refine rq rfl rfl rfl rfl rfl ?_ (hp:=(x5 hne));refine w_4 ?_;refine⟨(x.1-1,x.2.1++[x.2.2],(x.2.2-1)&&&s), ?_, ?_, ?_⟩
  · exact bdh hx hne
  · dsimp only
    omega
  exact⟨⟨⟨_,rfl,(bo rfl)⟩,⟨_,rfl,(df (a1e hne))⟩,tt⟩,⟨⟨_,rfl,(bq rfl (CoP.refl _))⟩,trivial⟩⟩
 have hz:x.2.2=0:=cb.1 h0;refine w_6 ?_;refine bj 2 rfl rfl rfl ?_;exact hx8 rfl rfl rfl (⟨CoC.one (CoP.of_eq (by rw[<- bjo hx hz];rfl)),trivial⟩)
def bnj (l:List Fd) (p x:AS):a7 bxr 179 [pP (fdl l),pA p,pA x] (ae [pB (a2r l p x)]):=by
 refine hpx (nt:=27) Tryz.func179 ?_;refine gv ?_;refine am (ι:=AS) (ka 0 (ka 1 (ka 2 kn))) km (fun r=>⟨[(7,some (vA r))],[]⟩) (fun r=>aia l p x r) (fun r=>r.toNat) (x) (b52 l p x) kk ?_;rintro r hr;refine w_6 ?_;refine hcn ?_ ?_<;>intro h0
 ·
  have hne:r≠0:=fun e=>h0 (by rw[e];rfl);have hlow:=b98 hr hne;refine w_9 ?_;refine rqw rfl rfl rfl rfl rfl ?_;refine w_2 ?_;refine rc rfl rfl rfl rfl rfl rfl rp (rg l (noA x (gm r))) (⟨CoC.refl _,cci (by rw[b7l r hne rfl,mc];rfl),trivial⟩) rfl rfl ?_;refine w_5 ?_;refine hcd ?_ ?_<;>intro h1
  · refine v_4 ?_;exact⟨ccb (bha hlow.1 hlow.2 (ta.symm.trans (decide_eq_true bx6))).symm,trivial⟩
  refine w_4 ?_;refine rq rfl rfl rfl rfl rfl ?_ (hp:=(x5 hne));refine w_3 ?_;refine⟨r&&&(r-1), ?_, ?_, ?_⟩
  · exact b54 hr hne (ta.symm.trans (decide_eq_false bx6))
  · exact b1z hne
  exact⟨⟨⟨_,rfl,(df (ac7 hne))⟩,tt⟩,trivial⟩
 have hz:r=0:=cb.1 h0;refine v_5 ?_;exact⟨ccb (bb9 hr hz).symm,trivial⟩
def bak(l:List Fd)(p:AS):a7 bxr 126 [pP (fdl l),pA p] (ae [pA (jl l p)]):=by
 refine hpx (nt:=33) Tryz.func126 ?_;refine cr ?_;have htl:=ajw p;refine w_2 ?_;refine qcx (wgx Tryz.func127) (b07 p) ?_;refine w_4 ?_;refine bw (ka 0 (ka 1 (ka 9 (ka 10 kn)))) km (fun i=>⟨[(5,some (vA (w3 l p i))),(11,some (vI i))],[]⟩) ((fy p).length) ⟨⟨⟨_,rfl,(df rfl)⟩,tt⟩,trivial⟩ ?_;rintro i hi;refine w_5 ?_;refine hcd ?_ ?_<;>intro h0
 ·
  refine mq ?_;refine qcx rp (rg l ((fy p).getD i default)) ?_;refine w_5 ?_;refine al rfl rfl ?_ ?_<;>intro r1
  ·
   have h1:=tz1 r1;(iterate 3 refine qy ?_ (hg:=(gtt r1)));refine qcx (wgx Tryz.func179) (bnj l p ((fy p).getD i default)) ?_ (hg:=(gtt r1));refine w_2 ?_;refine ax _ rfl ?_ ?_<;>intro r2
   · have h2:=br r1 r2;refine cr ?_;exact lpx (i+1) ⟨⟨⟨_,rfl,(by first|exact df (by rw[bOr,acw bx5 (aq8 (ta.symm.trans (decide_eq_true bx6)) bx6)];rfl)|exact df (by rw[xi bx5 (aig bx6)])|exact df (by rw[xi bx5 (ai5 (ta.symm.trans (decide_eq_false bx6)))]))⟩,tt⟩,trivial⟩
   have h2:=br r1 r2;refine w_5 ?_;exact lpx (i+1) ⟨⟨⟨_,rfl,(by first|exact df (by rw[bOr,acw bx5 (aq8 (ta.symm.trans (decide_eq_true bx6)) bx6)];rfl)|exact df (by rw[xi bx5 (aig bx6)])|exact df (by rw[xi bx5 (ai5 (ta.symm.trans (decide_eq_false bx6)))]))⟩,tt⟩,trivial⟩
  have h1:=tz2 r1;(iterate 4 refine k9 (gft r1) ?_);refine w_8 ?_
  exact lpx (i+1) ⟨⟨⟨_,rfl,(by first|exact df (by rw[bOr,acw bx5 (aq8 (ta.symm.trans (decide_eq_true bx6)) bx6)];rfl)|exact df (by rw[xi bx5 (aig bx6)])|exact df (by rw[xi bx5 (ai5 (ta.symm.trans (decide_eq_false bx6)))]))⟩,tt⟩,trivial⟩
 obtain rfl:i=(fy p).length:=by omega
 refine v_6 ?_;exact⟨cci (by rw[aw0]),trivial⟩
end
section
def bs1(l:List Fd)(p x:AS)(a:Nat):Bool:=(List.range a).all fun b=>!(x.getLsbD b&&ni l p (noA x b))
def aus(i:Nat):List AS:=(List.range i).map (BitVec.ofNat 32)
def prQ(l:List Fd)(p x:AS):Bool:=decide (sub x p)&&xg l p x
def bqt(l:List Fd)(p:AS)(i:Nat):AS:=orL ((aus i).filter (prQ l p))
def b4j{i:Nat}{x:AS}(hi:i<=4294967296):x∈aus i<->x.toNat<i:=by
 unfold aus;rw[bto];constructor
 · rintro ⟨k,hk,rfl⟩
   rw[btg]at hk;rw[bw9,bvh bx5];exact hk
 intro h;exact⟨x.toNat,btg.2 h,by rw[BitVec.ofNat_toNat,BitVec.setWidth_eq]⟩
section
variable {l:List Fd}{p:AS}{i:Nat}
end
def oc(l:List Fd)(p x:AS):Bool:=!ni l p x&&decide (((clo l x&&&p)&&&~~~x)&&&~~~jl l p≠0)
def ew(l:List Fd)(p:AS):Bool:=!(fy p).any (oc l p)
section
variable {l:List Fd}{p:AS}
def ag8 (h:∀x,sub x p->oc l p x=false):ew l p=true:=by
 unfold ew
 have:(fy p).any (oc l p)=false:=by
  rw[buu];intro x hx;rw[h x (yk.1 hx)];decide
 rw[this];rfl
variable {x:AS}
def ahu (hx:sub x p) (h:oc l p x=true):ew l p=false:=by
 unfold ew
 have:(fy p).any (oc l p)=true:=by
  rw[bue];exact⟨x,yk.2 hx,h⟩
 rw[this];rfl
def b7u:decide (bu .andNot .u32 (bu .andNot .u32 (bu .and .u32 (asI (clo l x)) (asI p)) (asI x)) (asI (jl l p))=0)=decide (((clo l x&&&p)&&&~~~x)&&&~~~jl l p=0):=by
 rw[it,mc,mc,show(0:Int)=asI 0 from rfl,a0h]
def ado(h:ni l p x=true):oc l p x=false:=by unfold oc;rw[h];rfl
def az7 (h:bu .andNot .u32 (bu .andNot .u32 (bu .and .u32 (asI (clo l x)) (asI p)) (asI x)) (asI (jl l p))=0):oc l p x=false:=by
 have e:=b7u.symm.trans (decide_eq_true h);unfold oc;rw[decide_eq_false (fun hn=>hn (of_decide_eq_true e))];simp
def bnw (h0:ni l p x=false) (h:¬bu .andNot .u32 (bu .andNot .u32 (bu .and .u32 (asI (clo l x)) (asI p)) (asI x)) (asI (jl l p))=0):oc l p x=true:=by
 have e:=b7u.symm.trans (decide_eq_false h);unfold oc;rw[h0,decide_eq_true (of_decide_eq_false e)];rfl
def b7r(h:bu .and .u32 (asI (clo l x)) (asI p)=asI p):ni l p x=true:=ta.symm.trans (decide_eq_true h)
def bo4(h:¬bu .and .u32 (asI (clo l x)) (asI p)=asI p):ni l p x=false:=ta.symm.trans (decide_eq_false h)
def b4b (h:∀j,j<(fy p).length->oc l p ((fy p).getD j default)=false):ew l p=true:=ag8 fun x hx=>by
 obtain⟨j,hj,rfl⟩:=btt (yk.2 hx);have:=h j hj;rwa [bt1,bt0 hj,buq]at this
def yz(n:Int)(l:List Fd)(p:AS):Int:=if aw n l=0 then(if sub p (a6 n)then 0 else 1)else aw n l
def a4z(n:Int)(l:List Fd)(p:AS):Bool:=decide (yz n l p=0)&&ew l p
def bnk {n:Int} (h:¬aw n l=0):yz n l p=aw n l/\a4z n l p=false:=by
 have e:yz n l p=aw n l:=if_neg h;exact⟨e,by unfold a4z;rw[e,decide_eq_false h];rfl⟩
def bmd {n:Int} (h:aw n l=0) (h2:¬sub p (a6 n)):yz n l p=1/\a4z n l p=false:=by
 have e:yz n l p=1:=by unfold yz;rw[if_pos h,if_neg h2]
 exact⟨e,by unfold a4z;rw[e];rfl⟩
def b8c {n:Int} (h:aw n l=0) (h2:sub p (a6 n)):yz n l p=0/\a4z n l p=ew l p:=by
 have e:yz n l p=0:=by unfold yz;rw[if_pos h,if_pos h2]
 exact⟨e,by unfold a4z;rw[e];rfl⟩
end
end
section
open Go.Proofs
def bbl(n:Int)(l:List Fd)(p:AS):a7 bxr 71 [pI n,pP (fdl l),pA p] (ae [pB (a4z n l p),pI (yz n l p)]):=by
 refine hpx (nt:=50) Tryz.func71 ?_;refine cr ?_;refine qcx qj (tg n l) ?_;refine w_7 ?_;refine hcn ?_ ?_<;>intro h0
 · refine w_6 ?_;refine hrr ?_;have he:=bnk (p:=p) h0;exact f9 rfl rfl (⟨ccb he.2.symm,cci he.1.symm,trivial⟩)
 refine w_3 ?_;have hv:=d9 h0;have hsh:=avu (s:=p) (n:=n) hv.1 hv.2.1;refine w_6 ?_;refine hcn ?_ ?_<;>intro h1
 · refine w_5 ?_;refine hrr ?_;have he:=bmd h0 (fun e=>h1 (hsh.2 e));exact f9 rfl rfl (⟨ccb he.2.symm,cci he.1.symm,trivial⟩)
 refine w_5 ?_;refine qcx (wgx Tryz.func126) (bak l p) ?_;refine w_4 ?_;have htl:=ajw p;refine w_2 ?_;refine qcx (wgx Tryz.func127) (b07 p) ?_;refine w_4 ?_;refine am (ι:=Nat) (ka 1 (ka 2 (ka 9 (ka 27 (ka 28 kn))))) km (fun i=>⟨[(29,some (vI i))],[]⟩) (fun i=>i<=(fy p).length/\(∀j,j<i->oc l p ((fy p).getD j default)=false)) (fun i=>(fy p).length-i) (0) (⟨bt6 _,d5⟩) kk ?_;rintro i ⟨hi,hI⟩;refine w_5 ?_;refine hcd ?_ ?_<;>intro h2
 ·
  refine mq ?_;refine qcx rp (rg l ((fy p).getD i default)) ?_;refine cr ?_;refine al rfl rfl ?_ ?_<;>intro r3
  ·
   have h3:=tz2 (cj r3);(iterate 6 refine qy ?_ (hg:=(gtt r3)));refine w_2 ?_;refine ax _ rfl ?_ ?_<;>intro r4
   · have h4:=tz2 (cj (br r3 r4));refine w_5 ?_;refine hrr ?_;have he:=b8c h0 (hsh.1 h1);have hb:=ahu (yk.1 (adg (l:=fy p) (j:=i) bx5)) (bnw (bo4 h3) h4);exact f9 rfl rfl (⟨ccb (by rw[he.2,hb]),cci he.1.symm,trivial⟩)
   have h4:=tz1 (cn (br r3 r4));refine w_5 ?_;refine lpz (i+1) kk ?_;exact⟨by show i+1<=_;omega,c6 hI (by first|exact ado (b7r h3)|exact az7 h4)⟩
  have h3:=tz1 (cn r3);(iterate 6 refine k9 (gft r3) ?_);refine w_8 ?_;refine lpz (i+1) kk ?_
  exact⟨by show i+1<=_;omega,c6 hI (by first|exact ado (b7r h3)|exact az7 h4)⟩
 obtain rfl:i=(fy p).length:=by omega
 refine w_6 ?_;refine hrr ?_;have he:=b8c h0 (hsh.1 h1);have hb:=b4b hI;exact f9 rfl rfl (⟨ccb (by rw[he.2,hb]),cci he.1.symm,trivial⟩)
end
section
def aay {l:List Fd} {i:Nat} {x:Fd} (h:x∈jo l i):x∈l:=by
 unfold jo at h
 rcases btn.1 h with h|h
 · exact List.mem_of_mem_take h
 exact List.mem_of_mem_drop h
def y7{x:Fd}:∀(f:Nat) (l:List Fd) (i:Nat),x∈oq f l i->x∈l
 |0,l,i,h=>h
 | f + 1,l,i,h=>by
  unfold oq at h;split at h
  · split at h
    · exact aay (y7 f _ _ h)
    exact y7 f _ _ h
  exact h
def be9 {n:Int} {l:List Fd} (h:aw n l=0):xy (a6 n) (wk l):=fun x hx=>by
 have h1:=y7 _ _ _ hx;exact auj (biq (b4u h)) _ x (oh.1 h1)
section
variable {n:Int}{l:List Fd}
def a1g (h:aw n l=0) {x:AS} (hx:sub x (a6 n)):sub (a6 n) (clo l x)<->clo l x=a6 n :=
 ⟨fun e=>d7 (ol h hx) e,fun e=>by rw[e];exact dw _⟩
def a1n (h:aw n l=0) {x:AS} (hx:sub x (a6 n)):f0 n l x=ni l (a6 n) x:=by
 unfold f0 ni;exact decide_eq_decide.2 ⟨fun e=>(a1g h hx).2 e.2.2,fun e=>⟨h,hx,(a1g h hx).1 e⟩⟩
def a3a{x:AS}{a:Nat}:sub (noA x a) x:=gc
def alu {n:Int} (h0:0<=n) (h1:n<=16) {k:Nat} (hk:k<32):(a6 n).getLsbD k=decide (k<n.toNat):=by
 unfold a6;rw[lq _ k hk,bua bx5]
def ae6(h:aw n l=0){x:AS}(hx:sub x (a6 n)):kp n l x=xg l (a6 n) x:=by
 obtain⟨h0,h1,_⟩:=d9 h;unfold kp xg;rw[a1n h hx];congr 1;unfold a2r;rw[bv5,btl,btl];constructor
 · intro hh a ha
   rw[btg]at ha
   cases hb:x.getLsbD a with
   |false=>rfl
   | true =>
    have hf:=ai.1 hx a ha hb;rw[alu h0 h1 ha]at hf;have:=hh a (btg.2 (of_decide_eq_true hf));rwa [hb,a1n h (bz a3a hx)]at this
 intro hh a ha;rw[btg]at ha;have:=hh a (btg.2 bx5);rwa [<- a1n h (bz a3a hx)]at this
def aqu(h:aw n l=0):orL (ed n l)=jl l (a6 n):=by
 obtain⟨h0,h1,_⟩:=d9 h;have hfn:=bl6 h0 h1;have hfe:asI (a6 n)=((a6 n).toNat:Int):=rfl;unfold jl;refine b6s fun z=>?_;rw[agy h,ly,buw,yk];show z∈(aus (2^n.toNat)).filter (kp n l)<->_;rw[buw,b4j bx5];constructor
 · rintro ⟨hz,hk⟩
   have hs:sub z (a6 n):=by
    have:z=BitVec.ofNat 32 z.toNat:=by rw[BitVec.ofNat_toNat,BitVec.setWidth_eq]
    rw[this];exact aj7 h0 h1 hz
   exact⟨hs,by rw[<- ae6 h hs];exact hk⟩
 rintro⟨hs,hk⟩;have:=ag0 hs;exact⟨by omega,by rw[ae6 h hs];exact hk⟩
def xf(n:Int)(l:List Fd)(f:Fd):Bool:=decide (clo l f.lhs≠a6 n)&&decide (f.rhs&&&~~~jl l (a6 n)≠0)
def sk(n:Int)(l:List Fd)(i:Nat):List Fd:=((jc n l).take i).filter (xf n l)
def tq(n:Int)(l:List Fd):List Fd:=(jc n l).filter (xf n l)
def a00 {i:Nat} (hi:i<(jc n l).length) (h:xf n l ((jc n l).getD i default)=true):sk n l (i+1)=sk n l i++[(jc n l).getD i default]:=by
 unfold sk;rw[aj hi,bu6];simp only[buf,h,if_true,bv3]
def a0b {i:Nat} (hi:i<(jc n l).length) (h:xf n l ((jc n l).getD i default)=false):sk n l (i+1)=sk n l i:=by
 unfold sk;rw[aj hi,bu6];simp only[buf,h,bup,if_false,bv3,btq]
def b0d (n:Int) (l:List Fd) (i:Nat):(sk n l i).length<=i:=by
 unfold sk;exact bth (buo _ _) (by rw[btp];omega)
def b26(n:Int)(l:List Fd):sk n l (jc n l).length=tq n l:=by unfold sk tq;rw[btb]
def be5(h:¬aw n l=0):tq n l=[]:=by unfold tq;rw[ayx h];rfl
def ack(n:Int)(l:List Fd):(jc n l).length<=2048:=by
 unfold jc;split
 · rename_i h
   have h1:=(d9 h).2.2.1;have h2:=aey l
   have h3:(wk l).length<=(a1d l).length:=by
    have:∀(f:Nat) (k:List Fd) (i:Nat),(oq f k i).length<=k.length:=by
     intro f
     induction f with
     |zero=>intro k i;exact bt2 _
     | succ f ih =>
      intro k i;unfold oq;split
      · rename_i hi
        split
        · exact bth (ih _ _) (by rw[ng hi];omega)
        exact ih _ _
      exact bt2 _
    exact this _ _ _
   omega
 simp
def a05{f:Fd}(h:asI (clo l f.lhs)=asI (a6 n)):xf n l f=false:=by unfold xf;rw[cb.1 h];simp
def a09 {f:Fd} (h:bu .andNot .u32 (asI f.rhs) (asI (jl l (a6 n)))=0):xf n l f=false:=by
 have h2:f.rhs&&&~~~jl l (a6 n)=0:=ep.1 h;unfold xf;rw[h2];simp
def a30 {f:Fd} (h:¬asI (clo l f.lhs)=asI (a6 n)) (h2:¬bu .andNot .u32 (asI f.rhs) (asI (jl l (a6 n)))=0):xf n l f=true:=by
 unfold xf;rw[bt3,decide_eq_true_iff,decide_eq_true_iff];exact⟨fun e=>h (congrArg asI e),fun e=>h2 (ep.2 e)⟩
end
def bdq{L:List Fd}:decide ((L.length:Int)=0)=decide (L=[]):=decide_eq_decide.2 ⟨fun h=>bui bx5,fun h=>by rw[h];rfl⟩
def b89 {b:Bool} {L:List Fd}:(bif b then decide ((L.length:Int)=0)else false)=(b&&decide (L=[])):=by
 rw[bdq];cases b<;>rfl
end
section
def a52(l:List Fd)(pr k:AS):Bool:=(List.range 32).all fun a=>!k.getLsbD a||decide (sub (clo l (noA k a)) pr)
def a8e(n:Int)(l:List Fd):Bool:=(ed n l).all (a52 l (orL (ed n l)))
def adk(n:Int)(l:List Fd):Bool:=decide (aw n l=0)&&a8e n l
section
variable {l:List Fd}{pr k:AS}
def bko {a:Nat} (ha:a<32) (h:k.getLsbD a=true) (h2:¬sub (clo l (noA k a)) pr):a52 l pr k=false:=by
 unfold a52;rw[bwl];exact⟨a,btg.2 ha,by rw[h,decide_eq_false h2];decide⟩
def aym (h:∀a,a<32->k.getLsbD a=true->sub (clo l (noA k a)) pr):a52 l pr k=true:=by
 unfold a52;rw[btl];intro a ha
 cases hk:k.getLsbD a with
 |false=>rfl
 |true=>rw[decide_eq_true (h a (btg.1 ha) hk)];rfl
def ah2(l:List Fd)(pr k r:AS):Prop:=sub r k/\∀a,a<32->k.getLsbD a=true->r.getLsbD a=true\/sub (clo l (noA k a)) pr
def b6z(l:List Fd)(pr k:AS):ah2 l pr k k:=⟨dw k,fun a _ h=>.inl h⟩
def ber {r:AS} (h:ah2 l pr k r) (h0:r≠0):gm r<32/\k.getLsbD (gm r)=true:=by
 obtain⟨h1,h2,_,_⟩:=sb h0;exact⟨h1,ai.1 h.1 _ h1 h2⟩
def b38{r:AS}(h:ah2 l pr k r)(h0:r≠0)(hf:sub (clo l (noA k (gm r))) pr):ah2 l pr k (r&&&(r-1)):=by
 obtain⟨h1,h2,h3,h4⟩:=sb h0;rw[h4];refine⟨bz gc h.1,fun a ha hx=>?_⟩
 rcases h.2 a ha hx with h5|h5
 · by_cases hl:a=gm r
   · subst hl;exact .inr hf
   refine .inl ?_;have h6:((1:AS)<<<gm r).getLsbD a=decide (a=gm r):=er _ a ha;rw[bta,bu9,decide_eq_true ha,bu0,h5,h6,decide_eq_false hl];rfl
 exact .inr h5
def bbw {r:AS} (h:ah2 l pr k r) (h0:r=0):a52 l pr k=true:=aym fun a ha hx=>by
 rcases h.2 a ha hx with h5|h5
 · subst h0;simp at h5
 exact h5
def bs9(l:List Fd)(pr k:AS)(s:Nat):Prop:=∀j,j<s->sub (BitVec.ofNat 32 j) k->sub (clo l (BitVec.ofNat 32 j)) pr
end
section
variable {n:Int}{l:List Fd}
def bi0 {i:Nat} (hi:i<(ed n l).length) (h:a52 l (orL (ed n l)) ((ed n l).getD i default)=false):a8e n l=false:=by
 unfold a8e;rw[bwl];refine⟨_,adg hi,by rw[h];decide⟩
def bj3 (h:∀j,j<(ed n l).length->a52 l (orL (ed n l)) ((ed n l).getD j default)=true):a8e n l=true:=by
 unfold a8e;rw[btl];intro x hx;obtain⟨j,hj,rfl⟩:=btt hx;have:=h j hj;rwa [bt1,bt0 hj]at this
def bit(h:¬aw n l=0):adk n l=false:=by unfold adk;rw[decide_eq_false h];rfl
def ams(h:aw n l=0){b:Bool}(hb:a8e n l=b):adk n l=b:=by unfold adk;rw[decide_eq_true h,hb];rfl
def b29 {q:Nat->Bool} {i:Nat} (h:∀j,j<i->q j=true) (h2:q i=true):∀j,j<i+1->q j=true:=fun j hj=>by
 by_cases e:j=i
 · subst e;exact h2
 exact h j bx5
end
end
section
def mgR(l:List Fd)(s:AS):AS:=(l.filter fun f=>decide (f.lhs=s)).foldl (fun a f=>a|||f.rhs) 0
def mgF(l:List Fd)(s:AS):Fd:=⟨s,mgR l s⟩
def agv(l:List Fd):List Fd:=(ord (l.map Fd.lhs)).map (mgF l)
def bnq {l:List Fd} {s:AS} {i:Nat} (hi:i<l.length) (h:(l.getD i default).lhs=s):mgR (l.take (i+1)) s=mgR (l.take i) s|||(l.getD i default).rhs:=by
 unfold mgR;rw[aj hi,bu6,btr];simp only[buf,h,decide_true,if_true,bv3,bw1,List.foldl_nil]
def bmi {l:List Fd} {s:AS} {i:Nat} (hi:i<l.length) (h:¬(l.getD i default).lhs=s):mgR (l.take (i+1)) s=mgR (l.take i) s:=by
 unfold mgR;rw[aj hi,bu6,btr];simp only[buf,h,decide_false,bup,if_false,bv3,List.foldl_nil]
def bor {l:List Fd} {s:AS} {i:Nat} (hi:i<l.length) (h:asI (l.getD i default).lhs=asI s):PV.raw (.int .u32 (bu .or .u32 (asI (mgR (l.take i) s)) (asI (l.getD i default).rhs)))=asC (mgR (l.take (i+1)) s):=by
 rw[bOr,bnq hi (cb.1 h)];rfl
def b5o (l:List Fd):(agv l).length<=l.length:=by
 unfold agv;rw[btw];exact bth (pn _) (by rw[btw];exact bt2 _)
end
section
open Go.Proofs
def zk(t:AS)(l:List Fd):Prop:=∀x∈l,sub x.rhs t
section
variable {l:List Fd}
def b4f{t:AS}{i a:Nat}(h:zk t l):zk t (kg i l a):=by
 unfold kg;split
 · intro x hx
   rcases bvr hx with hx|rfl
   · exact h x hx
   by_cases hi:i<l.length
   · exact h (l.getD i default) (by rw[bt1,bt0 hi];exact bti hi)
   rw[bve bx5]at hx;exact h _ hx
 exact h
def akm {t:AS} {i:Nat}:∀(m:List Nat) (l:List Fd),zk t l->zk t (m.foldl (kg i) l)
 | [],_,h=>h
 |a::m,l,h=>akm m _ (b4f h)
def amw {t:AS} (h:zk t l):∀i,zk t (k8 l i)
 |0=>h
 |i+1=>by rw[yg];exact akm _ _ (amw h i)
def bex {t:AS} (h:zk t l):zk t (spl l):=by
 intro x hx;have hx:=oh.1 hx;unfold gu at hx;obtain⟨ys,hys,hxy⟩:=bwu.1 hx;obtain⟨f,hf,rfl⟩:=bto.1 hys;unfold pg at hxy;obtain⟨a,ha,rfl⟩:=bto.1 hxy;refine ai.2 fun i hi hb=>?_;have h1:((1:AS)<<<a).getLsbD i=decide (i=a):=er a i hi;rw[show(⟨f.lhs,(1:AS)<<<a⟩:Fd).rhs.getLsbD i=decide (i=a) from h1,decide_eq_true_iff]at hb;subst hb;have hm:=(io.1 ha).2;rw[bta,bt3]at hm;exact ai.1 (h f hf) i hi hm.1
def b60 {n:Int} (h:aw n l=0):zk (a6 n) (wk l):=fun x hx=>by
 have h1:=y7 _ _ _ hx;exact amw (bex fun f hf=>(agz h f hf).2) _ x (oh.1 h1)
def jp(n:Int)(l:List Fd):List Fd:=agv (jc n l)
def amn(n:Int)(l:List Fd):(jp n l).length<=2048:=bth (b5o _) (ack n l)
def pt(f:Fd):AS:=f.lhs|||f.rhs
end
section
variable {n:Int}{l:List Fd}
def ot(n:Int)(l:List Fd)(i:Nat):Bool:=((jp n l).take i).any fun f=>f0 n l (pt f)
def a64 {i:Nat} (hi:i<(jp n l).length):ot n l (i+1)=(ot n l i||f0 n l (pt ((jp n l).getD i default))):=by
 unfold ot;rw[aj hi,List.any_append];simp
def ay7(h:aw n l=0):f0 n l (a6 n)=true:=decide_eq_true ⟨h,dw _,d7 (ol h (dw _)) jf⟩
def be8(h:aw n l=0):rkE n l (a6 n)=0:=(bki h (ay7 h)).2
def abm(n:Int)(l:List Fd):List AS:=(jp n l).map pt
def bij(n:Int)(l:List Fd):List AS:=dl (if ot n l (jp n l).length=true then abm n l else abm n l++[rkS n l (a6 n)])
def an5(n:Int)(l:List Fd):List AS:=if aw n l=0 then bij n l else[]
def bj9(h:¬aw n l=0):an5 n l=[]:=if_neg h
def bkw(h:aw n l=0):an5 n l=bij n l:=if_pos h
def b42(n:Int)(l:List Fd):(abm n l).length<=2048:=by unfold abm;rw[btw];exact amn n l
def aj6(n:Int)(l:List Fd):((jp n l).take (jp n l).length).map pt=abm n l:=by rw[btb];rfl
def a6k(n:Int)(l:List Fd):List AS:=if ot n l (jp n l).length=true then abm n l else abm n l++[rkS n l (a6 n)]
def a43(h:ot n l (jp n l).length=true):a6k n l=((jp n l).take (jp n l).length).map pt:=by rw[aj6];exact if_pos h
def ae8(h:ot n l (jp n l).length=false):a6k n l=((jp n l).take (jp n l).length).map pt++[rkS n l (a6 n)]:=by rw[aj6];exact if_neg (by rw[h];decide)
def b5p (n:Int) (l:List Fd):(a6k n l).length<=4096:=by
 have:=b42 n l;unfold a6k;split
 · omega
 rw[bt8,bv0];omega
def b8r{i:Nat}(hi:i<(jp n l).length)(h:ot n l i=true):true=ot n l (i+1):=by rw[a64 hi,h];rfl
def b7m{i:Nat}(hi:i<(jp n l).length)(h:ot n l i=false):f0 n l (pt ((jp n l).getD i default))=ot n l (i+1):=by rw[a64 hi,h];rfl
def b8q{i:Nat}(hi:i<(jp n l).length):(bif ot n l i then true else f0 n l (pt ((jp n l).getD i default)))=ot n l (i+1):=by rw[a64 hi];cases ot n l i<;>rfl
end
end
section
open Go.Proofs
def bji (hM:∀k:List Fd,k.length<=16777216->a7 bxr 89 [pP (fdl k)] (ae [pP (fdl (agv k))])) (n:Int) (l:List Fd):a7 bxr 37 [pI n,pP (fdl l)] (ae [pP (fdl (jp n l)),pI (aw n l)]):=by
 refine hpx (nt:=17) Tryz.func37 ?_;refine w_9 ?_;refine qcx aqn (awj n l) ?_;refine w_7 ?_;have hml:=ack n l;refine w_2 ?_;refine qcx (wgx Tryz.func89) (hM (jc n l) bx5) ?_;refine v_4 ?_;exact CoL.refl _
def b95(hM:∀k:List Fd,k.length<=16777216->a7 bxr 89 [pP (fdl k)] (ae [pP (fdl (agv k))]))(n:Int)(l:List Fd):a7 bxr 10 [pI n,pP (fdl l)] (ae [pP (asl (an5 n l)),pI (aw n l)]):=by
 refine hpx (nt:=66) Tryz.func10 ?_;refine w_9 ?_;refine qcx (wgx Tryz.func37) (bji hM n l) ?_;refine gh ?_;refine hcn ?_ ?_<;>intro h0
 · refine v_6 ?_;exact⟨CoC.one (a7k (bj9 h0)),CoC.refl _,trivial⟩
 refine w_2 ?_;have hv:=d9 h0;have hcl:=amn n l;have hsl:=b5p n l;refine jk ?_;refine d8 8 900 true 1 50 (lf sC []) bxc rfl (CoP.sl rfl (.inr rfl) (fun h=>h) (fun i j hi _=>absurd hi (bt9 i))) (.inr rfl) rfl ?_;refine bw (ka 0 (ka 1 (ka 24 (ka 25 kn)))) km (fun i=>⟨[(8,some (.v (.one (.ref 900 (((jp n l).take i).map pt).length)))),(9,some (vB (ot n l i))),(26,some (vI i))],[(900,some (.arr true 1 50 (((jp n l).take i).map pt).length (lf sC (((jp n l).take i).map pt))))]⟩) ((jp n l).length) ⟨⟨zy,⟨_,rfl,(cob rfl)⟩,tt⟩,uu⟩ ?_;rintro i hi;have hlen:(((jp n l).take i).map pt).length<=i:=by rw[btw,btp];omega
 refine w_5 ?_;refine hcd ?_ ?_<;>intro h1
 ·
  refine w_7 ?_;refine m9 0 ?_;refine jk ?_;refine m9 1 ?_;refine r9 2 true ?_;refine w_5 ?_;refine al rfl rfl ?_ ?_<;>intro r2
  ·
   have h2:=r2;(iterate 4 refine k9 (gtf r2) ?_);refine w_7 ?_
   exact lpx (i+1) ⟨⟨⟨_,rfl,(bo (a2m bx5))⟩,⟨_,rfl,(cob (by first|exact b8r (n:=n) (l:=l) (i:=i) bx5 bx6|exact b7m (n:=n) (l:=l) (i:=i) bx5 bx6|exact b8q (n:=n) (l:=l) (i:=i) bx5))⟩,tt⟩,⟨⟨_,rfl,(bq (a2m bx5) (CoP.of_eq (congrArg (fun z=>PV.raw (.int .u32 z)) (bOr _ _))))⟩,trivial⟩⟩
  have h2:=r2;(iterate 3 refine qy ?_ (hg:=(gff r2)));refine rc rfl rfl rfl rfl rfl rfl aew (ale n l (pt ((jp n l).getD i default))) (⟨CoC.refl _,CoC.refl _,cci (bOr _ _),trivial⟩) rfl (gff r2) ?_;refine w_7 ?_
  exact lpx (i+1) ⟨⟨⟨_,rfl,(bo (a2m bx5))⟩,⟨_,rfl,(cob (by first|exact b8r (n:=n) (l:=l) (i:=i) bx5 bx6|exact b7m (n:=n) (l:=l) (i:=i) bx5 bx6|exact b8q (n:=n) (l:=l) (i:=i) bx5))⟩,tt⟩,⟨⟨_,rfl,(bq (a2m bx5) (CoP.of_eq (congrArg (fun z=>PV.raw (.int .u32 z)) (bOr _ _))))⟩,trivial⟩⟩
 obtain rfl:i=(jp n l).length:=by omega
 refine ek ?_;refine a1y kn km ⟨[(8,some (.v (.one (.ref 900 (a6k n l).length))))],[(900,some (.arr true 1 50 (a6k n l).length (lf sC (a6k n l))))]⟩ ?_ ?_
 ·
  refine w_5 ?_;refine hcv ?_ ?_<;>intro h3
  ·
   refine w_5 ?_;refine qcx (wgx Tryz.func40) (b0i n hv.1 hv.2.1) ?_;refine qcx (wgx Tryz.func39) (be2 n l (a6 n)) ?_;refine gh ?_;refine hcn ?_ ?_<;>intro h4
   · exfalso;exact h4 (be8 h0)
   refine w_4 ?_;refine m9 3 ?_;refine r9 4 true ?_;refine w_2 ?_;exact⟨⟨⟨_,rfl,(by first|exact gj (by rw[a43 bx6])|exact gj (by rw[ae8 bx6,bt8];rfl))⟩,trivial⟩,⟨⟨_,rfl,(by first|exact jn (a43 bx6) (by rw[a43 bx6])|exact bq (ae8 bx6) (CoP.refl _))⟩,trivial⟩⟩
  refine fk ?_;exact⟨⟨⟨_,rfl,(by first|exact gj (by rw[a43 bx6])|exact gj (by rw[ae8 bx6,bt8];rfl))⟩,trivial⟩,⟨⟨_,rfl,(by first|exact jn (a43 bx6) (by rw[a43 bx6])|exact bq (ae8 bx6) (CoP.refl _))⟩,trivial⟩⟩
 refine dt ?_;refine bj 8 rfl rfl rfl ?_;refine w_2 ?_;refine qcx ao7 (adi (a6k n l) bx5) ?_;refine v_3 ?_;exact⟨CoC.one (CoP.of_eq (by rw[bkw h0];rfl)),cci h0.symm,trivial⟩
end
section
def Eqv(l k:List Fd):Prop:=∀s,pw l s<->pw k s
theorem Eqv.refl(l:List Fd):Eqv l l:=fun s=>Iff.rfl
theorem Eqv.trans{a b c:List Fd}(h:Eqv a b)(k:Eqv b c):Eqv a c:=fun s=>(h s).trans (k s)
section
variable {l:List Fd}
theorem Eqv.clo {k:List Fd} (h:Eqv l k) (s:AS):clo l s=clo k s :=
 d7 (n9 ((h _).2 gr) jf) (n9 ((h _).1 gr) jf)
def atw{k:List Fd}(h:∀f,f∈l<->f∈k):Eqv l k:=fun s=>⟨fun hs f hf=>hs f ((h f).2 hf),fun hs f hf=>hs f ((h f).1 hf)⟩
def ayn(l:List Fd):Eqv l (gu l):=fun s=>by
 constructor
 · intro hs g hg hgs
   unfold gu at hg;obtain⟨ys,hys,hxy⟩:=bwu.1 hg;obtain⟨f,hf,rfl⟩:=bto.1 hys;unfold pg at hxy;obtain⟨a,ha,rfl⟩:=bto.1 hxy;have hr:=hs f hf hgs;refine ai.2 fun i hi hb=>?_;have h1:((1:AS)<<<a).getLsbD i=decide (i=a):=er a i hi;rw[show(⟨f.lhs,(1:AS)<<<a⟩:Fd).rhs.getLsbD i=decide (i=a) from h1,decide_eq_true_iff]at hb;subst hb;have hm:=(io.1 ha).2;rw[bta,bt3]at hm;exact ai.1 hr i hi hm.1
 intro hs f hf hfs;refine ai.2 fun i hi hb=>?_;by_cases hl:f.lhs.getLsbD i=true
 · exact ai.1 hfs i hi hl
 have hg:(⟨f.lhs,(1:AS)<<<i⟩:Fd)∈gu l:=by
  unfold gu;refine bwu.2 ⟨pg f,bto.2 ⟨f,hf,rfl⟩, ?_⟩;unfold pg;refine bto.2 ⟨i,io.2 ⟨hi, ?_⟩,rfl⟩;rw[bta,bu9,decide_eq_true hi,hb]
  cases hq:f.lhs.getLsbD i with
  |true=>exact absurd hq hl
  |false=>rfl
 have h1:((1:AS)<<<i).getLsbD i=decide (i=i):=er i i hi;exact ai.1 (hs _ hg hfs) i hi (h1.trans (decide_eq_true rfl))
def afr {f:Fd} (h:imp l f=true) {s:AS} (hs:pw l s) (hf:sub f.lhs s):sub f.rhs s :=
 bz (of_decide_eq_true h) (n9 hs hf)
def be0{i:Nat}{g:Fd}(hg:imp l g=true)(h1:sub g.lhs (l.getD i default).lhs)(h2:g.rhs=(l.getD i default).rhs):Eqv l (l.set i g):=fun s=>by
 constructor
 · intro hs f hf hfs
   rcases bvr hf with hf|rfl
   · exact hs f hf hfs
   exact afr hg hs hfs
 intro hs f hf hfs;obtain⟨j,hj,rfl⟩:=btt hf;by_cases e:i=j
 · subst e
   have hm:g∈l.set i g:=bwm.2 ⟨i,by rw[buv];exact hj,by simp⟩;rw[bt1,bt0 hj,buq]at h1 h2;have:=hs g hm (bz h1 hfs);rwa [h2]at this
 have hm:l[j]∈l.set i g:=bwm.2 ⟨j,by rw[buv];exact hj,by rw[List.getElem_set_ne e]⟩;exact hs _ hm hfs
def b69{i a:Nat}:Eqv l (kg i l a):=by
 unfold kg;split
 · rename_i hc
   rw[bt3]at hc;exact be0 hc.2 gc rfl
 exact Eqv.refl l
def akj {i:Nat}:∀(m:List Nat) (l:List Fd),Eqv l (m.foldl (kg i) l)
 | [],l=>Eqv.refl l
 |a::m,l=>b69.trans (akj m _)
def aoq (l:List Fd):∀i,Eqv l (k8 l i)
 |0=>Eqv.refl l
 |i+1=>by rw[yg];exact(aoq l i).trans (akj _ _)
def av7{i:Nat}(h:a6r l i=true):Eqv l (jo l i):=fun s=>by
 constructor
 · intro hs f hf
   exact hs f (aay hf)
 intro hs f hf hfs;obtain⟨j,hj,rfl⟩:=btt hf;by_cases e:j=i
 · subst e
   unfold a6r at h;rw[bt1,bt0 hj,buq]at h;exact afr h hs hfs
 refine hs _ ?_ hfs;unfold jo;rw[btn];by_cases h2:j<i
 · exact .inl (List.mem_take_iff_getElem.2 ⟨j,by omega,rfl⟩)
 exact .inr (List.mem_drop_iff_getElem.2 ⟨j-(i+1),by omega,by congr 1;omega⟩)
def a8d:∀(f:Nat) (l:List Fd) (i:Nat),Eqv l (oq f l i)
 |0,l,i=>Eqv.refl l
 | f + 1,l,i=>by
  unfold oq;split
  · split
    · rename_i h;exact(av7 h).trans (a8d f _ _)
    exact a8d f _ _
  exact Eqv.refl l
def bdp (l:List Fd):Eqv l (wk l):=by
 refine Eqv.trans ?_ (a8d _ _ _);unfold a1d;refine Eqv.trans ?_ (atw fun f=>oh.symm);refine Eqv.trans ?_ (aoq _ _);unfold spl;exact(ayn l).trans (atw fun f=>oh.symm)
def v7(l:List Fd)(s:AS):clo (wk l) s=clo l s:=((bdp l).clo s).symm
end
end
end Go.Hx
