/- A part of the proof: Cl2 V4 Cs5 V5 Cs2 Cs6. -/
import Derived.Lib.TrailingZeros
import Derived.Test.YtmoggbnlhllhaaaGreatDoorUx12
set_option linter.all false
set_option maxRecDepth 100000
namespace Go.Hx
section
section
variable {α:Type}[Inhabited α]{p:α->Bool}{l:List α}
def aks(h:idx p l=-1):∀j,j<l.length->p (l.getD j default)=false:=fun j hj=>by
 cases hc:p (l.getD j default) with
 |false=>rfl
 | true =>
  exfalso;have hx:∃x∈l,p x=true:=⟨l[j],bma hj,by simpa [List.getD,hj]using hc⟩;unfold idx at h
  cases hf:l.findIdx? p with
  | none =>
   rw[bpe]at hf;obtain⟨x,hx,hp⟩:=hx;rw[hf x hx]at hp;cases hp
  |some i=>rw[hf]at h;simp only at h;omega
def aih (h:¬idx p l=-1):∃i:Nat,idx p l=i/\i<l.length/\p (l.getD i default)=true/\∀j,j<i->p (l.getD j default)=false:=by
 unfold idx at h ⊢
 cases hf:l.findIdx? p with
 |none=>rw[hf]at h;exact absurd rfl h
 | some i =>
  obtain⟨h1,h2,h3⟩:=bo4.1 hf;refine⟨i,rfl,h1,by simpa [List.getD,h1]using h2,fun j hj=>?_⟩;have:=h3 j hj;simp only[List.getD,blz (Nat.lt_trans hj h1),bnu];simpa using this
def vw:(decide (0<=idx p l))=l.any p:=by
 unfold idx
 cases hf:l.findIdx? p with
 | none =>
  rw[bpe]at hf
  have:l.any p=false:=by
   rw[boa];intro x hx;rw[hf x hx];exact Bool.false_ne_true
  rw[this];rfl
 | some i =>
  obtain⟨h1,h2,_⟩:=bo4.1 hf;have:l.any p=true:=boh.2 ⟨l[i],bma h1,h2⟩;rw[this];exact decide_eq_true (bni i)
def xb:∀{k:Nat},k<=l.length->(∀j,j<k->p (l.getD j default)=false)->(l.take k).filter (fun x=>!p x)=l.take k
 |0,_,_=>by simp
 |k+1,hk,h=>by rw[ax bpw,bn4,xb bpw fun j hj=>h j bpw];simp only[bnv,h k bpw,Bool.not_false,if_true,bp8]
structure DfI (p:α->Bool) (l:List α) (k q:Nat) (m:List α):Prop where
 len:m.length=l.length
 kq:k<q
 ql:q<=l.length
 pre:m.take k=(l.take q).filter fun x=>!p x
 high:∀j,q<=j->m.getD j default=l.getD j default
theorem DfI.start {k:Nat} (hk:k<l.length) (h1:p (l.getD k default)=true) (h:∀j,j<k->p (l.getD j default)=false):DfI p l k (k+1) l :=
 ⟨rfl,by omega,hk,by rw[ax hk,bn4,xb bpw h];simp only[bnv,h1,Bool.not_true,bp8,bp6,if_false,bmv],fun _ _=>rfl⟩
theorem DfI.skip {k q:Nat} {m:List α} (h:DfI p l k q m) (hq:q<l.length) (hp:p (m.getD q default)=true):DfI p l k (q+1) m:=by
 rw[h.high q (bm1 _)]at hp;exact⟨h.len,by have:=h.kq;omega,hq,by rw[ax hq,bn4,<- h.pre];simp only[bnv,hp,Bool.not_true,bp8,bp6,if_false,bmv],fun j hj=>h.high j bpw⟩
theorem DfI.keep {k q:Nat} {m:List α} (h:DfI p l k q m) (hq:q<l.length) (hp:p (m.getD q default)=false):DfI p l (k+1) (q+1) (m.set k (m.getD q default)):=by
 have e:=h.high q (bm1 _);rw[e]at hp ⊢;have hk:=h.kq;have hl:=h.len;refine⟨by simp[hl],by omega,hq, ?_,fun j hj=>by rw[getD_set_ne' bpw];exact h.high j bpw⟩;rw[ax (by simp[hl];omega),md bpw,ax hq,bn4,<- h.pre];simp only[bnv,hp,Bool.not_false,if_true,bp8];congr 1;rw[List.take_set,bpm bqa]
end
section
variable {p:AS->Bool}{l:List AS}
def b3g (h:∀j,j<l.length->p (l.getD j default)=false):CoP (.sl l.length 1 false (lf sC l)) (asl (l.filter fun x=>!p x)):=by
 have:=xb (bm1 l.length) h;rw[bmd]at this;rw[this];exact CoP.refl _
def b4y {m:List AS} {k q n a d:Nat} {cl:Bool} {z:List Value} (hC:DfI p l k q m) (hq:¬q<l.length) (ha:k<=a):CoP (.sl (eo (c5 n (some (k:Int))) none) 1 cl (qr (ru (lf sC m) a d z) none)) (asl (l.filter fun x=>!p x)):=by
 have e:=hC.pre;have h1:=hC.ql;have h2:=hC.len;have h3:=hC.kq;rw[show q=l.length by omega,bmd]at e;have el:(l.filter fun x=>!p x).length=k:=by rw[<- e];simp;omega
 exact aec (by rw[el];rfl) rfl bpw (by rw[el,e])
end
instance:DecidableEq Fd:=fun a b=>decidable_of_iff (a.lhs=b.lhs/\a.rhs=b.rhs) Fd.eq_iff.symm
end
section
open Go.Proofs
def ad5:a6 bqh 174:=wgx Tryz.func174
def ad7(n:Nat)(c:Bool)(f:Nat->Nat->PV)(hn:n<=35184372088832) :
 dg bqh 174 [.one (.p (.sl n 1 c f))] [] (.v (.one (.ref 0 n))) [(0, .arr true 1 35 n f)] []:=by
 refine hfx (nt:=8) Tryz.func174 ?_;refine sx7 ?_;refine fb true rfl rfl rfl rfl rfl trivial ?_;refine d5 ?_;refine aen (ι:=Bool) (fun c=>⟨[(0,some (br (.sl n 1 c f)))],[]⟩) (fun _=>True) ?_ fun c _=>?_
 · rcases bnp n with hz|h0
   · subst hz
     refine hw_exact' 0 rfl fun ad cap hcap=>?_;refine sx7 ?_;(iterate 2 refine fb true rfl rfl rfl rfl rfl trivial ?_);refine d5 ?_;refine aw ad.isNone rfl ?_ ?_<;>intro hc
     · refine sx7 ?_
       refine fb true rfl rfl rfl rfl rfl trivial ?_;refine d5 ?_;refine cr 2 0 true 1 35 f bq4 rfl (CoP.sl rfl (.inr rfl) (fun h=>h) fun i j hi _=>absurd hi (bm6 i)) (.inr rfl) rfl ?_;refine hrr ?_;exact⟨_,_,rfl,trivial,CoR.refl _,uu⟩
     refine ej ?_;exact⟨false,trivial,⟨⟨_,rfl,CoP.raw_sl hcap⟩,trivial⟩,trivial⟩
   refine sx7 ?_;refine fb true rfl rfl rfl rfl rfl trivial ?_;refine fb true rfl rfl rfl rfl rfl h0 ?_;refine d5 ?_;refine aw false rfl (fun hc=>by cases hc) (fun hc=>?_);refine ej ?_;exact⟨c,trivial,tt,trivial⟩
 refine sx7 ?_;refine a7k 0 rfl rfl rfl rfl rfl rfl trivial ?_;refine fb true rfl rfl rfl rfl rfl trivial ?_;refine acb 0 true rfl rfl rfl rfl rfl rfl ⟨trivial,rfl,rfl,rfl, .inl rfl,by show 0+n<=9223372036854775807;omega,by show(0+n)*4<=140737488355328;omega,fun _=>.inl rfl⟩ ?_;refine fb true rfl rfl rfl rfl rfl trivial ?_;refine d5 ?_;refine hrr ?_;refine⟨_,_,rfl,trivial,CoR.of_eq (by show HR.v (.one (.ref 0 (0+n)))=_;rw[bn9]),⟨⟨_,rfl, ?_⟩,trivial⟩⟩;exact⟨fun h=>h,rfl,rfl,(bn9 n).symm,fun i j _ _=>CoP.of_eq (by simp[f3])⟩
def aph:a6 bqh 201:=wgx Tryz.func201
def b1t(l:List AS)(g k:Nat)(caps:Nat->PV)(V:AS->Bool)(hg:a6 bqh g)(hV:∀x,a7 bqh g (pA x::er caps k 0) (af [pB (V x)])):a7 bqh 201 [pP (asl l),pP (.fn g k caps)] (af [pI (idx V l)]):=by
 refine hpx (nt:=19) Tryz.func201 ?_;refine eq ?_;refine fp 0 rfl fun hn=>?_;refine w_3 ?_;refine dn (ι:=Unit) kn km (fun _i=>⟨[],[]⟩) (fun _i=>idx V l=-1) ?_ ?_
 ·
  refine w_7 ?_;refine ar (ι:=Nat) (ka 0 (ka 1 (ka 7 kn))) km (fun i=>⟨[(8,some (vI i))],[]⟩) (fun i=>i<=l.length/\(∀j,j<i->V (l.getD j default)=false)) (fun i=>l.length-i) (0) (⟨bm3 _,e9⟩) kk ?_;rintro i ⟨hi,hI⟩;refine w_5 ?_;refine hcd ?_ ?_<;>intro h0
  ·
   refine jd ?_;refine rc rfl rfl rfl rfl rfl rfl hg (hV (l.getD i default)) (CoL.refl _) rfl rfl ?_;refine d5 ?_;refine hcb ?_ ?_<;>intro h1
   · refine v_5 ?_;exact⟨cci (qx (i:=i) bpw hI h1).symm,trivial⟩
   refine w_5 ?_;refine lpz (i+1) kk ?_;exact⟨by show i+1<=_;omega,da hI (h1)⟩
  refine dz ?_;refine⟨(), ?_, ?_⟩
  · exact qv fun j hj=>hI j bpw
  exact⟨trivial,trivial⟩
 rintro _ hj;refine v_4 ?_;exact⟨cci hj.symm,trivial⟩
def a7b:a6 bqh 137:=wgx Tryz.func137
def ahc (l:List AS) (g k:Nat) (caps:Nat->PV) (V:AS->Bool) (hg:a6 bqh g) (hV:∀x,a7 bqh g (pA x::er caps k 0) (af [pB (V x)])):a7 bqh 137 [pP (asl l),pP (.fn g k caps)] (af [pB (l.any V)]):=by
 refine hpx (nt:=9) Tryz.func137 ?_;refine w_8 ?_;refine qcx aph (b1t l g k caps V hg hV) ?_;refine v_3 ?_;exact⟨ccb vw,trivial⟩
def b6m:a6 bqh 263:=wgx Tryz.func263
def bhr(l:List Fd)(s:Fd):a7 bqh 263 [pP (fdl l),s.pc] (af [pI (idx (fun x=>decide (x=s)) l)]):=by
 refine hpx (nt:=19) Tryz.func263 ?_;refine eq ?_;refine fp 0 rfl fun hn=>?_;refine gy ?_;refine m9 0 ?_;refine w_2 ?_;refine dn (ι:=Unit) kn km (fun _i=>⟨[],[]⟩) (fun _i=>idx (fun x=>decide (x=s)) l=-1) ?_ ?_
 ·
  refine w_7 ?_;refine ar (ι:=Nat) (ka 0 (ka 3 (ka 7 kn))) (kb 0 km) (fun i=>⟨[(8,some (vI i))],[]⟩) (fun i=>i<=l.length/\(∀j,j<i->decide (l.getD j default=s)=false)) (fun i=>l.length-i) (0) (⟨bm3 _,e9⟩) kk ?_;rintro i ⟨hi,hI⟩;refine w_5 ?_;refine hcd ?_ ?_<;>intro h0
  ·
   refine aam ?_;refine hcb ?_ ?_<;>intro h1
   · refine v_5 ?_;exact⟨cci (qx (p:=fun x=>decide (x=s)) (i:=i) bpw hI (decide_eq_true (by simp_all [Fd.eq_iff,d7]))).symm,trivial⟩
   refine w_5 ?_;refine lpz (i+1) kk ?_;exact⟨by show i+1<=_;omega,da hI (decide_eq_false fun e=>by subst e;simp_all)⟩
  refine dz ?_;refine⟨(), ?_, ?_⟩
  · exact qv (p:=fun x=>decide (x=s)) fun j hj=>hI j bpw
  exact⟨trivial,trivial⟩
 rintro _ hj;refine v_4 ?_;exact⟨cci hj.symm,trivial⟩
def b3m:a6 bqh 253:=wgx Tryz.func253
def bhj (l:List Fd) (s:Fd):a7 bqh 253 [pP (fdl l),s.pc] (af [pB (l.any fun x=>decide (x=s))]):=by
 refine hpx (nt:=9) Tryz.func253 ?_;refine sx7 ?_;refine m9 0 ?_;refine w_6 ?_;refine qcx b6m (bhr _ _) ?_;refine v_3 ?_;exact⟨ccb vw,trivial⟩
def b4e:a6 bqh 192:=wgx Tryz.func192
def bcw(l:List AS)(g k:Nat)(caps:Nat->PV)(V:AS->Bool)(hg:a6 bqh g)(hV:∀x,a7 bqh g (pA x::er caps k 0) (af [pB (V x)])):dg bqh 192 [.one (.ref 900 l.length), .one (.p (.fn g k caps))] [(900, .arr true 1 35 l.length (lf sC l))] (.v (.one (.p (asl (l.filter fun x=>!V x))))) [] []:=by
 refine hfx (nt:=42) Tryz.func192 ?_;refine eq ?_;refine ah3 900 rfl fun hlen=>?_;refine w_7 ?_;refine qcx aph (b1t l g k caps V hg hV) ?_;refine w_8 ?_;refine hcd ?_ ?_<;>intro h0
 · refine w_5 ?_;refine be 4 rfl rfl rfl ?_;refine hrr ?_;exact⟨_,_,rfl,bpy,b3g (aks bpx),trivial⟩
 obtain⟨i0,hi0,hi1,hi2,hi3⟩:=aih h0;refine w_9 ?_;refine ar (ι:=Nat×Nat×List AS) (ka 0 (ka 1 kn)) km (fun x=>⟨[(5,some (vI x.1)),(6,some (vI x.2.1))],[(900,some (.arr true 1 35 l.length (lf sC x.2.2)))]⟩) (fun x=>DfI V l x.1 x.2.1 x.2.2) (fun x=>l.length-x.2.1) ((i0,i0+1,l)) (DfI.start hi1 hi2 hi3) ⟨⟨⟨_,rfl,(coi hi0)⟩,⟨_,rfl,(coi (by dsimp only;omega))⟩,trivial⟩,uu⟩ ?_;rintro x hC;have hC0:=hC;obtain⟨hml,hkq,hql,_,_⟩:=hC0;refine w_8 ?_;refine hcd ?_ ?_<;>intro h1
 ·
  refine jd ?_;refine rc rfl rfl rfl rfl rfl rfl hg (hV (x.2.2.getD (x.2.1:Int).toNat default)) (CoL.refl _) rfl rfl ?_;refine w_2 ?_;refine hcv ?_ ?_<;>intro h2
  ·
   have hv:=h2;refine aam ?_
   first | (refine lpz (x.1+1, x.2.1+1, x.2.2.set x.1 (x.2.2.getD x.2.1 default)) ⟨⟨⟨_, rfl, (coi bq3)⟩, ⟨_, rfl, (coi bq3)⟩, tt⟩, ⟨⟨_, rfl, (sn id hml.symm bpw bpw bpw)⟩, trivial⟩⟩ ?_; exact hC.keep bpw (by simpa using hv))
         |(refine lpz (x.1,x.2.1+1,x.2.2) ⟨⟨⟨_,rfl,(coi bq0)⟩,⟨_,rfl,(coi bq0)⟩,tt⟩,uu⟩ ?_;exact hC.skip bpw (by simpa using hv))
  have hv:=h2;refine w_6 ?_
  first | (refine lpz (x.1+1, x.2.1+1, x.2.2.set x.1 (x.2.2.getD x.2.1 default)) ⟨⟨⟨_, rfl, (coi bq3)⟩, ⟨_, rfl, (coi bq3)⟩, tt⟩, ⟨⟨_, rfl, (sn id hml.symm bpw bpw bpw)⟩, trivial⟩⟩ ?_; exact hC.keep bpw (by simpa using hv))
        |(refine lpz (x.1,x.2.1+1,x.2.2) ⟨⟨⟨_,rfl,(coi bq0)⟩,⟨_,rfl,(coi bq0)⟩,tt⟩,uu⟩ ?_;exact hC.skip bpw (by simpa using hv))
 have hq:=h1;refine w_6 ?_;refine rz9 0 true ?_;refine w_5 ?_;refine as6 rfl rfl rfl rfl rfl ?_;refine w_2 ?_;refine hrr ?_;exact⟨_,_,rfl,bpy,b4y hC bpw (by simp[c5]),trivial⟩
end
section
def io(s:AS)(i:Int):Bool:=decide (0<=i/\i<32)&&s.getLsbD i.toNat
def s5 {s:AS} {i:Nat} (h:i<32):io s i=s.getLsbD i:=by
 unfold io;rw[decide_eq_true bpw];simp
def b1r{s:AS}{i:Int}(h0:0<=i)(h1:i<32):decide (cu .and .u32 ((asI s).fdiv (2^(min i.toNat 32))) 1=1)=io s i:=by
 unfold io;rw[adj,show(1:Int)=asI 1 from rfl,yu,decide_eq_true (show 0<=i/\i<32 from ⟨h0,h1⟩),bok]
 have e:asI (s>>>i.toNat&&&1)=asI 1<->s.getLsbD i.toNat=true:=by
  rw[d7];constructor
  · intro h
    have:=congrArg (fun x:AS=>x.getLsbD 0) h;simpa using this
  intro h;apply bnj;intro k hk;have h1:(1:AS).getLsbD k=decide (k=0):=by have:=o5 0 k hk;simpa using this
  rw[bmy,BitVec.getLsbD_ushiftRight,h1];by_cases hk0:k=0
  · subst hk0;simp[h]
  simp[hk0]
 cases hb:s.getLsbD i.toNat with
 |true=>exact decide_eq_true (e.2 hb)
 |false=>exact decide_eq_false fun h=>by rw[e.1 h]at hb;cases hb
def akb {s:AS} {i:Int} (h:¬(0<=i/\i<32)):io s i=false:=by
 unfold io;rw[decide_eq_false h];rfl
def ams {n:Nat} (h:n<=32):tj n=BitVec.ofNat 32 (2^n-1):=by
 apply bnj;intro k hk;rw[sg n k hk,BitVec.getLsbD_ofNat,Nat.testBit_two_pow_sub_one];simp[hk]
def amn {n:Nat} (h:n<=32):(tj n).toNat=2^n-1:=by
 have h2:2^n<=2^32:=bol bpw h;have h3:0<2^n:=Nat.two_pow_pos n;rw[ams h,BitVec.toNat_ofNat,bpi bpw]
section
variable {n:Int}
def o4{l:List Fd}(h:cn n l=0):0<=n/\n<=16/\l.length<=64/\l.all (inU n)=true:=by
 unfold cn at h;split at h
 · cases h
 split at h
 · cases h
 split at h
 · rename_i h1 h2 h3
   exact⟨by omega,by omega,by omega,h3⟩
 cases h
def wa (h0:0<=n) (h1:n<=16):IntKind.wrap .u32 (1*2^(min n.toNat 32))-1=asI (ah n):=by
 have h2:2^n.toNat<=2^16:=bol bpw bpw;have h3:0<2^n.toNat:=Nat.two_pow_pos _;rw[show IntKind.wrap .u32 (1*2^(min n.toNat 32))=asI ((1:AS)<<<n.toNat) from a30 1 n.toNat];unfold ah asI;rw[bne bpw,amn bpw,BitVec.toNat_shiftLeft,Nat.shiftLeft_eq];rw[show(1:AS).toNat=1 from rfl,Nat.one_mul,bpi bpw];omega
def b1k {s:AS} (h0:0<=n) (h1:n<=16):(asI s).fdiv (2^(min n.toNat 32))=0<->sub s (ah n):=by
 rw[adj,show(0:Int)=asI 0 from rfl,d7];unfold ah;rw[bne bpw];exact(a3y bpw).symm
def uv(h0:0<=n)(h1:n<=16):0<=IntKind.wrap .u32 (1*2^(min n.toNat 32))-1:=by rw[wa h0 h1];exact qo _
def sy(h0:0<=n)(h1:n<=16):IntKind.wrap .u32 (1*2^(min n.toNat 32))-1<=4294967295:=by rw[wa h0 h1];have:=a6m (ah n);omega
def awn{a b:List AS}(h:a.length=b.length)(hI:∀j,j<a.length->decide (a.getD j default=b.getD j default)=true):a=b:=a1f h fun j hj=>of_decide_eq_true (hI j hj)
def b03{a b:List Fd}(h:a.length=b.length)(hI:∀j,j<a.length->decide (a.getD j default=b.getD j default)=true):a=b:=a1f h fun j hj=>of_decide_eq_true (hI j hj)
def ng(n:Int)(l:List Fd)(s:AS):Bool:=decide (cn n l=0/\sub s (ah n)/\clo l s=ah n)
end
section
variable {n:Int}{l:List Fd}{s:AS}
def arq(h:¬cn n l=0):ng n l s=false:=decide_eq_false fun e=>h e.1
def ay2 (h:cn n l=0) (h2:(asI s).fdiv (2^(min n.toNat 32))=0):decide (asI (clo l s)=asI (ah n))=ng n l s:=by
 have hv:=o4 h;have h3:=(b1k hv.1 hv.2.1).1 h2;exact decide_eq_decide.2 ⟨fun e=>⟨h,h3,d7.1 e⟩,fun e=>congrArg asI e.2.2⟩
def aqn (h:cn n l=0) (h2:¬(asI s).fdiv (2^(min n.toNat 32))=0):ng n l s=false:=by
 have hv:=o4 h;exact decide_eq_false fun e=>h2 ((b1k hv.1 hv.2.1).2 e.2.1)
end
def a9a(n:Int)(l:List Fd)(m:Int):Int:=if cn n l=0 then(if m<n then 3 else 0)else cn n l
structure Dp where
 l:BitVec 8
 r:BitVec 8
deriving Inhabited
def Dp.c (d:Dp):Nat->PV
 |0=>.raw (.int .u8 (d.l.toNat:Int))
 |1=>.raw (.int .u8 (d.r.toNat:Int))
 |_=>.any
abbrev dpl(l:List Dp):PV:=psl 2 Dp.c l
def Dp.fd(n:Int)(d:Dp):Fd:=⟨d.l.setWidth 32&&&ah n,d.r.setWidth 32&&&ah n⟩
end
section
open Go.Proofs
def b6q:a6 bqh 129:=wgx Tryz.func129
def ba4 (n:Int) (h0:0<=n) (h1:n<=16):a7 bqh 129 [pI n] (af [pA (ah n)]):=by
 refine hpx (nt:=6) Tryz.func129 ?_;refine w_8 ?_;refine rq rfl rfl rfl rfl rfl ?_ (hp:=⟨uv h0 h1,sy h0 h1⟩);refine v_2 ?_;exact⟨cci (wa h0 h1),trivial⟩
def b89:a6 bqh 72:=wgx Tryz.func72
def bb5 (n:Int) (h0:0<=n) (h1:n<=16):a7 bqh 72 [pI n] (af [pA (ah n)]):=by
 refine hpx (nt:=6) Tryz.func72 ?_;refine w_8 ?_;refine rq rfl rfl rfl rfl rfl ?_ (hp:=⟨uv h0 h1,sy h0 h1⟩);refine v_2 ?_;exact⟨cci (wa h0 h1),trivial⟩
def aj4:a6 bqh 70:=wgx Tryz.func70
def ash(n:Int)(l:List Fd)(s:AS):a7 bqh 70 [pI n,pP (fdl l),pA s] (af [pB (ng n l s)]):=by
 refine hpx (nt:=25) Tryz.func70 ?_;refine w_8 ?_;refine qcx a1m (ac8 n l) ?_;refine w_2 ?_;refine am rfl rfl ?_ ?_<;>intro r0
 ·
  have h0:=tz1 r0;obtain⟨hv0,hv1,_,_⟩:=o4 h0;(iterate 4 refine qy ?_ (hg:=(gtt r0)));refine w_2 ?_;refine am rfl rfl ?_ ?_<;>intro r1
  ·
   have h1:=tz1 (bp r0 r1);(iterate 2 refine qy ?_ (hg:=(gtt r1)));refine qcx an6 (at5 l s) ?_ (hg:=(gtt r1));refine qy ?_ (hg:=(gtt r1))
   refine qcx b6q (ba4 n (o4 bpx).1 (o4 bpx).2.1) ?_ (hg:=(gtt r1));refine qy ?_ (hg:=(gtt r1));refine v_3 ?_;exact⟨ccb (by first|exact a4j bpx (ay2 bpx bpx)|exact(arq bpx).symm|exact(aqn bpx bpx).symm),trivial⟩
  have h1:=tz2 (bp r0 r1);(iterate 6 refine k9 (gft r1) ?_);refine w_3 ?_
  exact hx8 rfl rfl rfl (⟨ccb (by first|exact a4j bpx (ay2 bpx bpx)|exact(arq bpx).symm|exact(aqn bpx bpx).symm),trivial⟩)
 have h0:=tz2 r0;(iterate 4 refine k9 (gft r0) ?_);refine w_2 ?_;(iterate 6 refine k9 rfl ?_);refine w_3 ?_
 exact hx8 rfl rfl rfl (⟨ccb (by first|exact a4j bpx (ay2 bpx bpx)|exact(arq bpx).symm|exact(aqn bpx bpx).symm),trivial⟩)
def aug:a6 bqh 27:=wgx Tryz.func27
def bad(a b:List AS):a7 bqh 27 [pP (asl a),pP (asl b)] (af [pB (decide (a=b))]):=by
 refine hpx (nt:=26) Tryz.func27 ?_;refine eq ?_;refine fp 0 rfl fun hn=>?_;refine l6 ?_;refine hcn ?_ ?_<;>intro h0
 · refine v_4 ?_;exact⟨ccb (decide_eq_false fun e=>by subst e;omega).symm,trivial⟩
 refine ej ?_;refine dn (ι:=Unit) kn km (fun _i=>⟨[],[]⟩) (fun _i=>a=b) ?_ ?_
 ·
  refine w_5 ?_;refine ar (ι:=Nat) (ka 0 (ka 1 kn)) km (fun i=>⟨[(5,some (vI i))],[]⟩) (fun i=>i<=a.length/\(∀j,j<i->decide (a.getD j default=b.getD j default)=true)) (fun i=>a.length-i) (0) (⟨bm3 _,e9⟩) kk ?_;rintro i ⟨hi,hI⟩;refine w_8 ?_;refine hcd ?_ ?_<;>intro h1
  ·
   refine tg ?_;refine hcn ?_ ?_<;>intro h2
   · refine v_4 ?_;exact⟨ccb (decide_eq_false fun e=>by subst e;simp_all).symm,trivial⟩
   refine w_6 ?_;refine lpz (i+1) kk ?_;exact⟨by show i+1<=_;omega,da hI (decide_eq_true (d7.1 h2))⟩
  refine dz ?_;refine⟨(), ?_, ?_⟩
  · exact awn bpw fun j hj=>hI j bpw
  exact⟨trivial,trivial⟩
 rintro _ hj;refine v_4 ?_;exact⟨ccb (decide_eq_true hj).symm,trivial⟩
end
section
def bsz(s:AS):Nat:=(List.range 32).countP fun i=>s.getLsbD i
def bef(a b:AS):Bool:=decide (bsz a<bsz b)||(decide (bsz a=bsz b)&&decide (a.toNat<b.toNat))
def a1k(a:AS):bef a a=false:=by simp[bef]
def sd{a b:AS}:bef a b=true<->bsz a<bsz b\/(bsz a=bsz b/\a.toNat<b.toNat):=by simp[bef]
def a01 {a b c:AS} (h:bef a b=true) (k:bef b c=true):bef a c=true:=by
 rw[sd]at *;omega
def aej {a b:AS} (h:a≠b):bef a b=true\/bef b a=true:=by
 have hn:a.toNat≠b.toNat:=fun e=>h (bn3 e);rw[sd,sd];omega
def b09 {a b:AS} (h:bef a b=true):bef b a=false:=by
 rw[bmh];intro k;have:=a01 h k;rw[a1k]at this;cases this
def wn(l:List AS):Prop:=l.Pairwise fun a b=>bef a b=true
def a0h:∀{l k:List AS},wn l->wn k->(∀x,x∈l<->x∈k)->l=k
 | [],[],_,_,_=>rfl
 | [],y::k,_,_,h=>absurd ((h y).2 (bmp ..)) bpz
 |x::l,[],_,_,h=>absurd ((h x).1 (bmp ..)) bpz
 | x :: l,y::k,hl,hk,h=>by
  obtain⟨h1,h2⟩:=bmn.1 hl;obtain⟨k1,k2⟩:=bmn.1 hk
  have e:x=y:=by
   rcases bm9.1 ((h x).1 (bmp ..))with e|hx
   · exact e
   rcases bm9.1 ((h y).2 (bmp ..))with e|hy
   · exact e.symm
   have:=b09 (k1 x hx);rw[h1 y hy]at this;cases this
  subst e;congr 1;refine a0h h2 k2 fun z=>?_;constructor
  · intro hz
    rcases bm9.1 ((h z).1 (bmr _ hz))with e|hz'
    · subst e
      have:=h1 z hz;rw[a1k]at this;cases this
    exact hz'
  intro hz
  rcases bm9.1 ((h z).2 (bmr _ hz))with e|hz'
  · subst e
    have:=k1 z hz;rw[a1k]at this;cases this
  exact hz'
def o9 (x:AS):List AS->List AS
 | []=>[x]
 |y::l=>if x=y then y::l else if bef x y=true then x::y::l else y::o9 x l
def a9p{x z:AS}:∀{l:List AS},z∈o9 x l<->z=x\/z∈l
 | []=>by simp[o9]
 | y :: l=>by
  unfold o9;split
  · rename_i e
    subst e;simp
  split
  · simp
  rw[bm9,a9p,bm9];constructor
  · rintro(h|h|h)<;>simp[h]
  rintro(h|h|h)<;>simp[h]
def afk{x:AS}:∀{l:List AS},wn l->wn (o9 x l)
 | [],_=>by simp[o9,wn]
 | y :: l,h=>by
  obtain⟨h1,h2⟩:=bmn.1 h;unfold o9;split
  · exact h
  split
  · rename_i hxy
    refine bmn.2 ⟨fun z hz=>?_,h⟩
    rcases bm9.1 hz with rfl|hz
    · exact hxy
    exact a01 hxy (h1 z hz)
  rename_i hne hxy;refine bmn.2 ⟨fun z hz=>?_,afk h2⟩
  rcases a9p.1 hz with rfl|hz
  · exact(aej hne).resolve_left hxy
  exact h1 z hz
def ord(l:List AS):List AS:=l.foldl (fun o x=>o9 x o) []
def ae3:∀{l o:List AS},wn o->wn (l.foldl (fun o x=>o9 x o) o)/\∀z,z∈l.foldl (fun o x=>o9 x o) o<->z∈o\/z∈l
 | [],o,h=>⟨h,fun z=>by simp⟩
 | x::l,o,h=>by
  obtain⟨h1,h2⟩:=ae3 (l:=l) (afk (x:=x) h);refine⟨h1,fun z=>?_⟩;show z∈l.foldl (fun o x=>o9 x o) (o9 x o)<->_;rw[h2 z,a9p,bm9];constructor
  · rintro((h|h)|h)<;>simp[h]
  rintro(h|h|h)<;>simp[h]
def a35(l:List AS):wn (ord l):=(ae3 (o:=[]) List.Pairwise.nil).1
def aer {l:List AS} {z:AS}:z∈ord l<->z∈l:=by
 show z∈l.foldl (fun o x=>o9 x o) []<->_;rw[(ae3 (l:=l) (o:=[]) List.Pairwise.nil).2 z];simp
def bbb{l k:List AS}(hk:wn k)(h:∀z,z∈k<->z∈l):k=ord l:=a0h hk (a35 l) fun z=>by rw[h z,aer]
end
section
def bc(s:AS):List Nat:=(List.range 32).filter fun i=>s.getLsbD i
def iC:Nat->Nat->PV:=fun n _=>.raw (.int .i64 (n:Int))
abbrev il(l:List Nat):PV:=psl 1 iC l
def ag3(s:AS):bsz s=(bc s).length:=by unfold bsz bc;rw[List.countP_eq_length_filter]
section
variable {s:AS}
def wg{i:Nat}:i∈bc s<->i<32/\s.getLsbD i=true:=by simp[bc,bnl,bmm]
def a5c{p:Nat->Bool}{t:Nat}:∀{l:List Nat},l.Pairwise (·<·)->t∈l->p t=true->(∀k,k<t->p k=false)->l.filter p=t::l.filter fun k=>decide (k≠t)&&p k
 | [],_,h,_,_=>by cases h
 | a :: l,hp,hm,h1,h2=>by
  obtain⟨q1,q2⟩:=bmn.1 hp;by_cases ha:a=t
  · subst ha
    have e:l.filter p=l.filter fun k=>decide (k≠a)&&p k:=by
     apply List.filter_congr;intro k hk;have:=q1 k hk;rw[decide_eq_true bpw,bok]
    simp[bnv,h1,e]
  have hm':t∈l:=by
   rcases bm9.1 hm with h|h
   · exact absurd h.symm ha
   exact h
  have:=q1 t hm';have hpa:=h2 a this;simp[bnv,hpa,a5c q2 hm' h1 h2]
def j1(s:AS):Nat:=Lib.ctz 32 s.toNat
def b0f (h:s≠0):∃m,s.toNat=2^(j1 s+1)*m+2^j1 s/\j1 s<32:=by
 have h0:s.toNat≠0:=fun e=>h (bn3 e);obtain⟨m,h1,h2⟩:=Lib.ctzFrom_spec 32 s.toNat bpw s.isLt;have e:j1 s=Lib.ctzFrom 32 s.toNat:=by unfold j1 Lib.ctz;rw[if_neg h0]
 rw[e];refine⟨m, ?_,h2⟩;rw[Nat.pow_succ];rw[h1]at *;simp only[Nat.mul_add,Nat.mul_assoc,bp2]at *;exact h1
def uf(h:s≠0):j1 s<32/\s.getLsbD (j1 s)=true/\(∀k,k<j1 s->s.getLsbD k=false)/\s&&&(s-1)=s&&&~~~((1:AS)<<<j1 s):=by
 obtain⟨m,h1,h2⟩:=b0f h;generalize j1 s=t at *;have hp:2^t<2^(t+1):=Nat.pow_lt_pow_right bpw bpw
 have hb:∀k,s.getLsbD k=if k<t+1 then(2^t).testBit k else m.testBit (k-(t+1)):=fun k=>by
  show s.toNat.testBit k=_;rw[h1,Nat.testBit_two_pow_mul_add _ hp]
 have hq:0<2^t:=Nat.two_pow_pos t
 have e1:(s-1).toNat=2^(t+1)*m+(2^t-1):=by
  have:=s.isLt;rw[BitVec.toNat_sub];show(2^32-1+s.toNat)%2^32=_;omega
 have hd:∀k,(s-1).getLsbD k=if k<t+1 then(2^t-1).testBit k else m.testBit (k-(t+1)):=fun k=>by
  show(s-1).toNat.testBit k=_;rw[e1,Nat.testBit_two_pow_mul_add _ bpw]
 refine⟨h2, ?_,fun k hk=>?_, ?_⟩
 · rw[hb,if_pos bpw,Nat.testBit_two_pow_self]
 · rw [hb,if_pos bpw,Nat.testBit_two_pow]
   simp;omega
 apply bnj;intro k hk;rw[bmy,bmy,bnx,o5 _ _ hk,hd k,hb k];by_cases h3:k<t+1
 · rw [if_pos h3,if_pos h3,Nat.testBit_two_pow,Nat.testBit_two_pow_sub_one]
   by_cases h4:k=t
   · subst h4;simp
   have:¬t=k:=fun e=>h4 e.symm;simp[this]
 rw[if_neg h3,if_neg h3];have:¬k=t:=by omega
 simp[hk,this]
def a4r (h:s≠0) (k:Nat) (hk:k<32):(s&&&(s-1)).getLsbD k=(decide (k≠j1 s)&&s.getLsbD k):=by
 rw[(uf h).2.2.2,bmy,bnx,o5 _ _ hk];by_cases e:k=j1 s<;>simp[e,hk,Bool.and_comm]
def auy (h:s≠0):bc s=j1 s::bc (s&&&(s-1)):=by
 obtain⟨h1,h2,h3,_⟩:=uf h;unfold bc;rw[a5c bpq (bmm.2 h1) h2 h3];congr 1;apply List.filter_congr;intro k hk;rw[a4r h k (bmm.1 hk)]
def aqr:bc 0=[]:=by
 unfold bc;rw[List.filter_eq_nil_iff];intro k _;simp
def aj9(h:s≠0):(s&&&(s-1)).toNat<s.toNat:=by
 refine a19 (fq.2 fun i hi hb=>?_) fun e=>?_
 · rw [a4r h i hi]at hb
   simp only[bm8]at hb;exact hb.2
 have:=a4r h (j1 s) (uf h).1;rw[e,(uf h).2.1]at this;simp at this
end
end
end Go.Hx
