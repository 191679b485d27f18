/- A part of the proof: Cl2 V4 Cs5 V5 Cs2 Cs6. -/
import Derived.Lib.TrailingZeros
import Derived.Test.YtmoggbnlhllhaaaGreatDoorTx12
set_option linter.all false
set_option maxRecDepth 100000
namespace Go.Hx
section
section
variable {α:Type}[Inhabited α]{p:α->Bool}{l:List α}
def ahn(h:idx p l=-1):∀j,j<l.length->p (l.getD j default)=false:=fun j hj=>by
 cases hc:p (l.getD j default) with
 |false=>rfl
 | true =>
  exfalso;have hx:∃x∈l,p x=true:=⟨l[j],bin hj,by simpa [List.getD,hj]using hc⟩;unfold idx at h
  cases hf:l.findIdx? p with
  | none =>
   rw[blz]at hf;obtain⟨x,hx,hp⟩:=hx;rw[hf x hx]at hp;cases hp
  |some i=>rw[hf]at h;simp only at h;omega
def ag1 (h:¬idx p l=-1):∃i:Nat,idx p l=i/\i<l.length/\p (l.getD i default)=true/\∀j,j<i->p (l.getD j default)=false:=by
 unfold idx at h ⊢
 cases hf:l.findIdx? p with
 |none=>rw[hf]at h;exact absurd rfl h
 | some i =>
  obtain⟨h1,h2,h3⟩:=bkr.1 hf;refine⟨i,rfl,h1,by simpa [List.getD,h1]using h2,fun j hj=>?_⟩;have:=h3 j hj;simp only[List.getD,bik (Nat.lt_trans hj h1),bkd];simpa using this
def a4l:(decide (0<=idx p l))=l.any p:=by
 unfold idx
 cases hf:l.findIdx? p with
 | none =>
  rw[blz]at hf
  have:l.any p=false:=by
   rw[bl4];intro x hx;rw[hf x hx];exact Bool.false_ne_true
  rw[this];rfl
 | some i =>
  obtain⟨h1,h2,_⟩:=bkr.1 hf;have:l.any p=true:=blh.2 ⟨l[i],bin h1,h2⟩;rw[this];exact decide_eq_true (bjp i)
def vq:∀{k:Nat},k<=l.length->(∀j,j<k->p (l.getD j default)=false)->(l.take k).filter (fun x=>!p x)=l.take k
 |0,_,_=>by simp
 |k+1,hk,h=>by rw[ar bmq,bk8,vq bmq fun j hj=>h j bmq];simp only[bki,h k bmq,Bool.not_false,if_true,blu]
structure DfI (p:α->Bool) (l:List α) (k q:Nat) (m:List α):Prop where
 len:m.length=l.length
 kq:k<q
 ql:q<=l.length
 pre:m.take k=(l.take q).filter fun x=>!p x
 high:∀j,q<=j->m.getD j default=l.getD j default
theorem DfI.start {k:Nat} (hk:k<l.length) (h1:p (l.getD k default)=true) (h:∀j,j<k->p (l.getD j default)=false):DfI p l k (k+1) l :=
 ⟨rfl,by omega,hk,by rw[ar hk,bk8,vq bmq h];simp only[bki,h1,Bool.not_true,blu,blp,if_false,bjn],fun _ _=>rfl⟩
theorem DfI.skip {k q:Nat} {m:List α} (h:DfI p l k q m) (hq:q<l.length) (hp:p (m.getD q default)=true):DfI p l k (q+1) m:=by
 rw[h.high q (bil _)]at hp;exact⟨h.len,by have:=h.kq;omega,hq,by rw[ar hq,bk8,<- h.pre];simp only[bki,hp,Bool.not_true,blu,blp,if_false,bjn],fun j hj=>h.high j bmq⟩
theorem DfI.keep {k q:Nat} {m:List α} (h:DfI p l k q m) (hq:q<l.length) (hp:p (m.getD q default)=false):DfI p l (k+1) (q+1) (m.set k (m.getD q default)):=by
 have e:=h.high q (bil _);rw[e]at hp ⊢;have hk:=h.kq;have hl:=h.len;refine⟨by simp[hl],by omega,hq, ?_,fun j hj=>by rw[getD_set_ne' bmq];exact h.high j bmq⟩;rw[ar (by simp[hl];omega),lm bmq,ar hq,bk8,<- h.pre];simp only[bki,hp,Bool.not_false,if_true,blu];congr 1;rw[List.take_set,bm4 bn4]
end
section
variable {p:AS->Bool}{l:List AS}
def b1b (h:∀j,j<l.length->p (l.getD j default)=false):CoP (.sl l.length 1 false (lf sC l)) (asl (l.filter fun x=>!p x)):=by
 have:=vq (bil l.length) h;rw[biz]at this;rw[this];exact CoP.refl _
def b0z {m:List AS} {k q n a d:Nat} {cl:Bool} {z:List Value} (hC:DfI p l k q m) (hq:¬q<l.length) (ha:k<=a):CoP (.sl (gw (c8 n (some (k:Int))) none) 1 cl (pn (qf (lf sC m) a d z) none)) (asl (l.filter fun x=>!p x)):=by
 have e:=hC.pre;have h1:=hC.ql;have h2:=hC.len;have h3:=hC.kq;rw[show q=l.length by omega,biz]at e;have el:(l.filter fun x=>!p x).length=k:=by rw[<- e];simp;omega
 exact abx (by rw[el];rfl) rfl bmq (by rw[el,e])
end
instance:DecidableEq Fd:=fun a b=>decidable_of_iff (a.lhs=b.lhs/\a.rhs=b.rhs) Fd.eq_iff.symm
end
section
open Go.Proofs
def adc:a6 bnb 174:=wgx Tryz.func174
def adk(n:Nat)(c:Bool)(f:Nat->Nat->PV)(hn:n<=35184372088832) :
 dv bnb 174 [.one (.p (.sl n 1 c f))] [] (.v (.one (.ref 0 n))) [(0, .arr true 1 35 n f)] []:=by
 refine hfx (nt:=8) Tryz.func174 ?_;refine sx7 ?_;refine d7 true rfl rfl rfl rfl rfl trivial ?_;refine ce ?_;refine a6t (ι:=Bool) (fun c=>⟨[(0,some (bo (.sl n 1 c f)))],[]⟩) (fun _=>True) ?_ fun c _=>?_
 · rcases bka n with hz|h0
   · subst hz
     refine hw_exact' 0 rfl fun ad cap hcap=>?_;refine sx7 ?_;(iterate 2 refine d7 true rfl rfl rfl rfl rfl trivial ?_);refine ce ?_;refine az ad.isNone rfl ?_ ?_<;>intro hc
     · refine sx7 ?_
       refine d7 true rfl rfl rfl rfl rfl trivial ?_;refine ce ?_;refine d4 2 0 true 1 35 f bmx rfl (CoP.sl rfl (.inr rfl) (fun h=>h) fun i j hi _=>absurd hi (bip i)) (.inr rfl) rfl ?_;refine hrr ?_;exact⟨_,_,rfl,trivial,CoR.refl _,uu⟩
     refine eu ?_;exact⟨false,trivial,⟨⟨_,rfl,CoP.raw_sl hcap⟩,trivial⟩,trivial⟩
   refine sx7 ?_;refine d7 true rfl rfl rfl rfl rfl trivial ?_;refine d7 true rfl rfl rfl rfl rfl h0 ?_;refine ce ?_;refine az false rfl (fun hc=>by cases hc) (fun hc=>?_);refine eu ?_;exact⟨c,trivial,tt,trivial⟩
 refine sx7 ?_;refine a11 0 rfl rfl rfl rfl rfl rfl trivial ?_;refine d7 true rfl rfl rfl rfl rfl trivial ?_;refine a3x 0 true rfl rfl rfl rfl rfl rfl ⟨trivial,rfl,rfl,rfl, .inl rfl,by show 0+n<=9223372036854775807;omega,by show(0+n)*4<=140737488355328;omega,fun _=>.inl rfl⟩ ?_;refine d7 true rfl rfl rfl rfl rfl trivial ?_;refine ce ?_;refine hrr ?_;refine⟨_,_,rfl,trivial,CoR.of_eq (by show HR.v (.one (.ref 0 (0+n)))=_;rw[bjo]),⟨⟨_,rfl, ?_⟩,trivial⟩⟩;exact⟨fun h=>h,rfl,rfl,(bjo n).symm,fun i j _ _=>CoP.of_eq (by simp[fg])⟩
def ami:a6 bnb 201:=wgx Tryz.func201
def ayu(l:List AS)(g k:Nat)(caps:Nat->PV)(V:AS->Bool)(hg:a6 bnb g)(hV:∀x,aa bnb g (pA x::i7 caps k 0) (ag [pB (V x)])):aa bnb 201 [pP (asl l),pP (.fn g k caps)] (ag [pI (idx V l)]):=by
 refine hpx (nt:=19) Tryz.func201 ?_;refine f4 ?_;refine j4 0 rfl fun hn=>?_;refine w_3 ?_;refine dn (ι:=Unit) kn km (fun _i=>⟨[],[]⟩) (fun _i=>idx V l=-1) ?_ ?_
 ·
  refine w_7 ?_;refine b7 (ι:=Nat) (ka 0 (ka 1 (ka 7 kn))) km (fun i=>⟨[(8,some (vI i))],[]⟩) (fun i=>i<=l.length/\(∀j,j<i->V (l.getD j default)=false)) (fun i=>l.length-i) (0) (⟨bio _,gt⟩) kk ?_;rintro i ⟨hi,hI⟩;refine w_5 ?_;refine hcd ?_ ?_<;>intro h0
  ·
   refine ic ?_;refine rc rfl rfl rfl rfl rfl rfl hg (hV (l.getD i default)) (CoL.refl _) rfl rfl ?_;refine ce ?_;refine hcb ?_ ?_<;>intro h1
   · refine v_5 ?_;exact⟨cci (vh (i:=i) bmq hI h1).symm,trivial⟩
   refine w_5 ?_;refine lpz (i+1) kk ?_;exact⟨by show i+1<=_;omega,f5 hI (h1)⟩
  refine eg ?_;refine⟨(), ?_, ?_⟩
  · exact ve fun j hj=>hI j bmq
  exact⟨trivial,trivial⟩
 rintro _ hj;refine v_4 ?_;exact⟨cci hj.symm,trivial⟩
def a6q:a6 bnb 137:=wgx Tryz.func137
def afo (l:List AS) (g k:Nat) (caps:Nat->PV) (V:AS->Bool) (hg:a6 bnb g) (hV:∀x,aa bnb g (pA x::i7 caps k 0) (ag [pB (V x)])):aa bnb 137 [pP (asl l),pP (.fn g k caps)] (ag [pB (l.any V)]):=by
 refine hpx (nt:=9) Tryz.func137 ?_;refine w_8 ?_;refine qcx ami (ayu l g k caps V hg hV) ?_;refine v_3 ?_;exact⟨ccb a4l,trivial⟩
def b0f:a6 bnb 263:=wgx Tryz.func263
def be1(l:List Fd)(s:Fd):aa bnb 263 [pP (fdl l),s.pc] (ag [pI (idx (fun x=>decide (x=s)) l)]):=by
 refine hpx (nt:=19) Tryz.func263 ?_;refine f4 ?_;refine j4 0 rfl fun hn=>?_;refine gy ?_;refine m9 0 ?_;refine w_2 ?_;refine dn (ι:=Unit) kn km (fun _i=>⟨[],[]⟩) (fun _i=>idx (fun x=>decide (x=s)) l=-1) ?_ ?_
 ·
  refine w_7 ?_;refine b7 (ι:=Nat) (ka 0 (ka 3 (ka 7 kn))) (kb 0 km) (fun i=>⟨[(8,some (vI i))],[]⟩) (fun i=>i<=l.length/\(∀j,j<i->decide (l.getD j default=s)=false)) (fun i=>l.length-i) (0) (⟨bio _,gt⟩) kk ?_;rintro i ⟨hi,hI⟩;refine w_5 ?_;refine hcd ?_ ?_<;>intro h0
  ·
   refine a4m ?_;refine hcb ?_ ?_<;>intro h1
   · refine v_5 ?_;exact⟨cci (vh (p:=fun x=>decide (x=s)) (i:=i) bmq hI (decide_eq_true (by simp_all [Fd.eq_iff,dq]))).symm,trivial⟩
   refine w_5 ?_;refine lpz (i+1) kk ?_;exact⟨by show i+1<=_;omega,f5 hI (decide_eq_false fun e=>by subst e;simp_all)⟩
  refine eg ?_;refine⟨(), ?_, ?_⟩
  · exact ve (p:=fun x=>decide (x=s)) fun j hj=>hI j bmq
  exact⟨trivial,trivial⟩
 rintro _ hj;refine v_4 ?_;exact⟨cci hj.symm,trivial⟩
def b45:a6 bnb 253:=wgx Tryz.func253
def bel (l:List Fd) (s:Fd):aa bnb 253 [pP (fdl l),s.pc] (ag [pB (l.any fun x=>decide (x=s))]):=by
 refine hpx (nt:=9) Tryz.func253 ?_;refine sx7 ?_;refine m9 0 ?_;refine w_6 ?_;refine qcx b0f (be1 _ _) ?_;refine v_3 ?_;exact⟨ccb a4l,trivial⟩
def b21:a6 bnb 192:=wgx Tryz.func192
def bba(l:List AS)(g k:Nat)(caps:Nat->PV)(V:AS->Bool)(hg:a6 bnb g)(hV:∀x,aa bnb g (pA x::i7 caps k 0) (ag [pB (V x)])):dv bnb 192 [.one (.ref 900 l.length), .one (.p (.fn g k caps))] [(900, .arr true 1 35 l.length (lf sC l))] (.v (.one (.p (asl (l.filter fun x=>!V x))))) [] []:=by
 refine hfx (nt:=42) Tryz.func192 ?_;refine f4 ?_;refine afm 900 rfl fun hlen=>?_;refine w_7 ?_;refine qcx ami (ayu l g k caps V hg hV) ?_;refine w_8 ?_;refine hcd ?_ ?_<;>intro h0
 · refine w_5 ?_;refine bh 4 rfl rfl rfl ?_;refine hrr ?_;exact⟨_,_,rfl,bms,b1b (ahn bmr),trivial⟩
 obtain⟨i0,hi0,hi1,hi2,hi3⟩:=ag1 h0;refine w_9 ?_;refine b7 (ι:=Nat×Nat×List AS) (ka 0 (ka 1 kn)) km (fun x=>⟨[(5,some (vI x.1)),(6,some (vI x.2.1))],[(900,some (.arr true 1 35 l.length (lf sC x.2.2)))]⟩) (fun x=>DfI V l x.1 x.2.1 x.2.2) (fun x=>l.length-x.2.1) ((i0,i0+1,l)) (DfI.start hi1 hi2 hi3) ⟨⟨⟨_,rfl,(coi hi0)⟩,⟨_,rfl,(coi (by dsimp only;omega))⟩,trivial⟩,uu⟩ ?_;rintro x hC;have hC0:=hC;obtain⟨hml,hkq,hql,_,_⟩:=hC0;refine w_8 ?_;refine hcd ?_ ?_<;>intro h1
 ·
  refine ic ?_;refine rc rfl rfl rfl rfl rfl rfl hg (hV (x.2.2.getD (x.2.1:Int).toNat default)) (CoL.refl _) rfl rfl ?_;refine w_2 ?_;refine hcv ?_ ?_<;>intro h2
  ·
   have hv:=h2;refine a4m ?_
   first | (refine lpz (x.1+1, x.2.1+1, x.2.2.set x.1 (x.2.2.getD x.2.1 default)) ⟨⟨⟨_, rfl, (coi bmy)⟩, ⟨_, rfl, (coi bmy)⟩, tt⟩, ⟨⟨_, rfl, (qt id hml.symm bmq bmq bmq)⟩, trivial⟩⟩ ?_; exact hC.keep bmq (by simpa using hv))
         |(refine lpz (x.1,x.2.1+1,x.2.2) ⟨⟨⟨_,rfl,(coi bmv)⟩,⟨_,rfl,(coi bmv)⟩,tt⟩,uu⟩ ?_;exact hC.skip bmq (by simpa using hv))
  have hv:=h2;refine w_6 ?_
  first | (refine lpz (x.1+1, x.2.1+1, x.2.2.set x.1 (x.2.2.getD x.2.1 default)) ⟨⟨⟨_, rfl, (coi bmy)⟩, ⟨_, rfl, (coi bmy)⟩, tt⟩, ⟨⟨_, rfl, (qt id hml.symm bmq bmq bmq)⟩, trivial⟩⟩ ?_; exact hC.keep bmq (by simpa using hv))
        |(refine lpz (x.1,x.2.1+1,x.2.2) ⟨⟨⟨_,rfl,(coi bmv)⟩,⟨_,rfl,(coi bmv)⟩,tt⟩,uu⟩ ?_;exact hC.skip bmq (by simpa using hv))
 have hq:=h1;refine w_6 ?_;refine r9 0 true ?_;refine w_5 ?_;refine ap7 rfl rfl rfl rfl rfl ?_;refine w_2 ?_;refine hrr ?_;exact⟨_,_,rfl,bms,b0z hC bmq (by simp[c8]),trivial⟩
end
section
def ir(s:AS)(i:Int):Bool:=decide (0<=i/\i<32)&&s.getLsbD i.toNat
def tc {s:AS} {i:Nat} (h:i<32):ir s i=s.getLsbD i:=by
 unfold ir;rw[decide_eq_true bmq];simp
def b78 {s:AS} {i:Int} (h:¬(0<=i/\i<32)):ir s i=false:=by
 unfold ir;rw[decide_eq_false h];rfl
def alc {n:Nat} (h:n<=32):pk n=BitVec.ofNat 32 (2^n-1):=by
 apply bke;intro k hk;rw[ul n k hk,BitVec.getLsbD_ofNat,Nat.testBit_two_pow_sub_one];simp[hk]
def aln {n:Nat} (h:n<=32):(pk n).toNat=2^n-1:=by
 have h2:2^n<=2^32:=bkv bmq h;have h3:0<2^n:=Nat.two_pow_pos n;rw[alc h,BitVec.toNat_ofNat,blg bmq]
section
variable {n:Int}
def n7{l:List Fd}(h:cg n l=0):0<=n/\n<=16/\l.length<=64/\l.all (inU n)=true:=by
 unfold cg at h;split at h
 · cases h
 split at h
 · cases h
 split at h
 · rename_i h1 h2 h3
   exact⟨by omega,by omega,by omega,h3⟩
 cases h
def wt (h0:0<=n) (h1:n<=16):IntKind.wrap .u32 (1*2^(min n.toNat 32))-1=asI (aj n):=by
 have h2:2^n.toNat<=2^16:=bkv bmq bmq;have h3:0<2^n.toNat:=Nat.two_pow_pos _;rw[show IntKind.wrap .u32 (1*2^(min n.toNat 32))=asI ((1:AS)<<<n.toNat) from ze 1 n.toNat];unfold aj asI;rw[bjw bmq,aln bmq,BitVec.toNat_shiftLeft,Nat.shiftLeft_eq];rw[show(1:AS).toNat=1 from rfl,Nat.one_mul,blg bmq];omega
def azd {s:AS} (h0:0<=n) (h1:n<=16):(asI s).fdiv (2^(min n.toNat 32))=0<->sub s (aj n):=by
 rw[agd,show(0:Int)=asI 0 from rfl,dq];unfold aj;rw[bjw bmq];exact(a1f bmq).symm
def x8(h0:0<=n)(h1:n<=16):0<=IntKind.wrap .u32 (1*2^(min n.toNat 32))-1:=by rw[wt h0 h1];exact oi _
def um(h0:0<=n)(h1:n<=16):IntKind.wrap .u32 (1*2^(min n.toNat 32))-1<=4294967295:=by rw[wt h0 h1];have:=a08 (aj n);omega
def av2{a b:List AS}(h:a.length=b.length)(hI:∀j,j<a.length->decide (a.getD j default=b.getD j default)=true):a=b:=a0h h fun j hj=>of_decide_eq_true (hI j hj)
def axx{a b:List Fd}(h:a.length=b.length)(hI:∀j,j<a.length->decide (a.getD j default=b.getD j default)=true):a=b:=a0h h fun j hj=>of_decide_eq_true (hI j hj)
def mw(n:Int)(l:List Fd)(s:AS):Bool:=decide (cg n l=0/\sub s (aj n)/\clo l s=aj n)
end
section
variable {n:Int}{l:List Fd}{s:AS}
def apv(h:¬cg n l=0):mw n l s=false:=decide_eq_false fun e=>h e.1
def axs (h:cg n l=0) (h2:(asI s).fdiv (2^(min n.toNat 32))=0):decide (asI (clo l s)=asI (aj n))=mw n l s:=by
 have hv:=n7 h;have h3:=(azd hv.1 hv.2.1).1 h2;exact decide_eq_decide.2 ⟨fun e=>⟨h,h3,dq.1 e⟩,fun e=>congrArg asI e.2.2⟩
def ao0 (h:cg n l=0) (h2:¬(asI s).fdiv (2^(min n.toNat 32))=0):mw n l s=false:=by
 have hv:=n7 h;exact decide_eq_false fun e=>h2 ((azd hv.1 hv.2.1).2 e.2.1)
end
def a8c(n:Int)(l:List Fd)(m:Int):Int:=if cg n l=0 then(if m<n then 3 else 0)else cg n l
structure Dp where
 l:BitVec 8
 r:BitVec 8
deriving Inhabited
def Dp.c (d:Dp):Nat->PV
 |0=>.raw (.int .u8 (d.l.toNat:Int))
 |1=>.raw (.int .u8 (d.r.toNat:Int))
 |_=>.any
abbrev dpl(l:List Dp):PV:=psl 2 Dp.c l
def Dp.fd(n:Int)(d:Dp):Fd:=⟨d.l.setWidth 32&&&aj n,d.r.setWidth 32&&&aj n⟩
def ar0 (b:BitVec 8) (t:AS):d6 .and .u32 (b.toNat:Int) (asI t)=asI (b.setWidth 32&&&t):=by
 have h:=b.isLt
 have e:asI (b.setWidth 32)=(b.toNat:Int):=by
  unfold asI;rw[BitVec.toNat_setWidth,blg bmq]
 rw[<- z8,e]
end
section
open Go.Proofs
def b44:a6 bnb 129:=wgx Tryz.func129
def b61 (n:Int) (h0:0<=n) (h1:n<=16):aa bnb 129 [pI n] (ag [pA (aj n)]):=by
 refine hpx (nt:=6) Tryz.func129 ?_;refine w_8 ?_;refine rq rfl rfl rfl rfl rfl ?_ (hp:=⟨x8 h0 h1,um h0 h1⟩);refine v_2 ?_;exact⟨cci (wt h0 h1),trivial⟩
def b97:a6 bnb 72:=wgx Tryz.func72
def ba7 (n:Int) (h0:0<=n) (h1:n<=16):aa bnb 72 [pI n] (ag [pA (aj n)]):=by
 refine hpx (nt:=6) Tryz.func72 ?_;refine w_8 ?_;refine rq rfl rfl rfl rfl rfl ?_ (hp:=⟨x8 h0 h1,um h0 h1⟩);refine v_2 ?_;exact⟨cci (wt h0 h1),trivial⟩
def agl:a6 bnb 70:=wgx Tryz.func70
def ap2(n:Int)(l:List Fd)(s:AS):aa bnb 70 [pI n,pP (fdl l),pA s] (ag [pB (mw n l s)]):=by
 refine hpx (nt:=25) Tryz.func70 ?_;refine w_8 ?_;refine qcx a15 (abd n l) ?_;refine w_2 ?_;refine be rfl rfl ?_ ?_<;>intro r0
 ·
  have h0:=tz1 r0;obtain⟨hv0,hv1,_,_⟩:=n7 h0;(iterate 4 refine qy ?_ (hg:=(gtt r0)));refine w_2 ?_;refine be rfl rfl ?_ ?_<;>intro r1
  ·
   have h1:=tz1 (dc r0 r1);(iterate 2 refine qy ?_ (hg:=(gtt r1)));refine qcx am5 (ar8 l s) ?_ (hg:=(gtt r1));refine qy ?_ (hg:=(gtt r1))
   refine qcx b44 (b61 n (n7 bmr).1 (n7 bmr).2.1) ?_ (hg:=(gtt r1));refine qy ?_ (hg:=(gtt r1));refine v_3 ?_;exact⟨ccb (by first|exact a4v bmr (axs bmr bmr)|exact(apv bmr).symm|exact(ao0 bmr bmr).symm),trivial⟩
  have h1:=tz2 (dc r0 r1);(iterate 6 refine k9 (gft r1) ?_);refine w_3 ?_
  exact hx8 rfl rfl rfl (⟨ccb (by first|exact a4v bmr (axs bmr bmr)|exact(apv bmr).symm|exact(ao0 bmr bmr).symm),trivial⟩)
 have h0:=tz2 r0;(iterate 4 refine k9 (gft r0) ?_);refine w_2 ?_;(iterate 6 refine k9 rfl ?_);refine w_3 ?_
 exact hx8 rfl rfl rfl (⟨ccb (by first|exact a4v bmr (axs bmr bmr)|exact(apv bmr).symm|exact(ao0 bmr bmr).symm),trivial⟩)
def ash:a6 bnb 27:=wgx Tryz.func27
def b65(a b:List AS):aa bnb 27 [pP (asl a),pP (asl b)] (ag [pB (decide (a=b))]):=by
 refine hpx (nt:=26) Tryz.func27 ?_;refine f4 ?_;refine j4 0 rfl fun hn=>?_;refine gz ?_;refine hcn ?_ ?_<;>intro h0
 · refine v_4 ?_;exact⟨ccb (decide_eq_false fun e=>by subst e;omega).symm,trivial⟩
 refine eu ?_;refine dn (ι:=Unit) kn km (fun _i=>⟨[],[]⟩) (fun _i=>a=b) ?_ ?_
 ·
  refine w_5 ?_;refine b7 (ι:=Nat) (ka 0 (ka 1 kn)) km (fun i=>⟨[(5,some (vI i))],[]⟩) (fun i=>i<=a.length/\(∀j,j<i->decide (a.getD j default=b.getD j default)=true)) (fun i=>a.length-i) (0) (⟨bio _,gt⟩) kk ?_;rintro i ⟨hi,hI⟩;refine w_8 ?_;refine hcd ?_ ?_<;>intro h1
  ·
   refine xk ?_;refine hcn ?_ ?_<;>intro h2
   · refine v_4 ?_;exact⟨ccb (decide_eq_false fun e=>by subst e;simp_all).symm,trivial⟩
   refine w_6 ?_;refine lpz (i+1) kk ?_;exact⟨by show i+1<=_;omega,f5 hI (decide_eq_true (dq.1 h2))⟩
  refine eg ?_;refine⟨(), ?_, ?_⟩
  · exact av2 bmq fun j hj=>hI j bmq
  exact⟨trivial,trivial⟩
 rintro _ hj;refine v_4 ?_;exact⟨ccb (decide_eq_true hj).symm,trivial⟩
end
section
def bsz(s:AS):Nat:=(List.range 32).countP fun i=>s.getLsbD i
def bef(a b:AS):Bool:=decide (bsz a<bsz b)||(decide (bsz a=bsz b)&&decide (a.toNat<b.toNat))
def a16(a:AS):bef a a=false:=by simp[bef]
def re{a b:AS}:bef a b=true<->bsz a<bsz b\/(bsz a=bsz b/\a.toNat<b.toNat):=by simp[bef]
def yw {a b c:AS} (h:bef a b=true) (k:bef b c=true):bef a c=true:=by
 rw[re]at *;omega
def acx {a b:AS} (h:a≠b):bef a b=true\/bef b a=true:=by
 have hn:a.toNat≠b.toNat:=fun e=>h (bk7 e);rw[re,re];omega
def avl {a b:AS} (h:bef a b=true):bef b a=false:=by
 rw[bj5];intro k;have:=yw h k;rw[a16]at this;cases this
def ut(l:List AS):Prop:=l.Pairwise fun a b=>bef a b=true
def zi:∀{l k:List AS},ut l->ut k->(∀x,x∈l<->x∈k)->l=k
 | [],[],_,_,_=>rfl
 | [],y::k,_,_,h=>absurd ((h y).2 (bj6 ..)) bmu
 |x::l,[],_,_,h=>absurd ((h x).1 (bj6 ..)) bmu
 | x :: l,y::k,hl,hk,h=>by
  obtain⟨h1,h2⟩:=bj9.1 hl;obtain⟨k1,k2⟩:=bj9.1 hk
  have e:x=y:=by
   rcases biv.1 ((h x).1 (bj6 ..))with e|hx
   · exact e
   rcases biv.1 ((h y).2 (bj6 ..))with e|hy
   · exact e.symm
   have:=avl (k1 x hx);rw[h1 y hy]at this;cases this
  subst e;congr 1;refine zi h2 k2 fun z=>?_;constructor
  · intro hz
    rcases biv.1 ((h z).1 (bj0 _ hz))with e|hz'
    · subst e
      have:=h1 z hz;rw[a16]at this;cases this
    exact hz'
  intro hz
  rcases biv.1 ((h z).2 (bj0 _ hz))with e|hz'
  · subst e
    have:=k1 z hz;rw[a16]at this;cases this
  exact hz'
def n9 (x:AS):List AS->List AS
 | []=>[x]
 |y::l=>if x=y then y::l else if bef x y=true then x::y::l else y::n9 x l
def a8k{x z:AS}:∀{l:List AS},z∈n9 x l<->z=x\/z∈l
 | []=>by simp[n9]
 | y :: l=>by
  unfold n9;split
  · rename_i e
    subst e;simp
  split
  · simp
  rw[biv,a8k,biv];constructor
  · rintro(h|h|h)<;>simp[h]
  rintro(h|h|h)<;>simp[h]
def aen{x:AS}:∀{l:List AS},ut l->ut (n9 x l)
 | [],_=>by simp[n9,ut]
 | y :: l,h=>by
  obtain⟨h1,h2⟩:=bj9.1 h;unfold n9;split
  · exact h
  split
  · rename_i hxy
    refine bj9.2 ⟨fun z hz=>?_,h⟩
    rcases biv.1 hz with rfl|hz
    · exact hxy
    exact yw hxy (h1 z hz)
  rename_i hne hxy;refine bj9.2 ⟨fun z hz=>?_,aen h2⟩
  rcases a8k.1 hz with rfl|hz
  · exact(acx hne).resolve_left hxy
  exact h1 z hz
def ord(l:List AS):List AS:=l.foldl (fun o x=>n9 x o) []
def ac9:∀{l o:List AS},ut o->ut (l.foldl (fun o x=>n9 x o) o)/\∀z,z∈l.foldl (fun o x=>n9 x o) o<->z∈o\/z∈l
 | [],o,h=>⟨h,fun z=>by simp⟩
 | x::l,o,h=>by
  obtain⟨h1,h2⟩:=ac9 (l:=l) (aen (x:=x) h);refine⟨h1,fun z=>?_⟩;show z∈l.foldl (fun o x=>n9 x o) (n9 x o)<->_;rw[h2 z,a8k,biv];constructor
  · rintro((h|h)|h)<;>simp[h]
  rintro(h|h|h)<;>simp[h]
def a21(l:List AS):ut (ord l):=(ac9 (o:=[]) List.Pairwise.nil).1
def adf {l:List AS} {z:AS}:z∈ord l<->z∈l:=by
 show z∈l.foldl (fun o x=>n9 x o) []<->_;rw[(ac9 (l:=l) (o:=[]) List.Pairwise.nil).2 z];simp
def b4x{l k:List AS}(hk:ut k)(h:∀z,z∈k<->z∈l):k=ord l:=zi hk (a21 l) fun z=>by rw[h z,adf]
end
section
def bc(s:AS):List Nat:=(List.range 32).filter fun i=>s.getLsbD i
def iC:Nat->Nat->PV:=fun n _=>.raw (.int .i64 (n:Int))
abbrev il(l:List Nat):PV:=psl 1 iC l
def aek(s:AS):bsz s=(bc s).length:=by unfold bsz bc;rw[List.countP_eq_length_filter]
section
variable {s:AS}
def un{i:Nat}:i∈bc s<->i<32/\s.getLsbD i=true:=by simp[bc,bix,bje]
def a3i{p:Nat->Bool}{t:Nat}:∀{l:List Nat},l.Pairwise (·<·)->t∈l->p t=true->(∀k,k<t->p k=false)->l.filter p=t::l.filter fun k=>decide (k≠t)&&p k
 | [],_,h,_,_=>by cases h
 | a :: l,hp,hm,h1,h2=>by
  obtain⟨q1,q2⟩:=bj9.1 hp;by_cases ha:a=t
  · subst ha
    have e:l.filter p=l.filter fun k=>decide (k≠a)&&p k:=by
     apply List.filter_congr;intro k hk;have:=q1 k hk;rw[decide_eq_true bmq,Bool.true_and]
    simp[bki,h1,e]
  have hm':t∈l:=by
   rcases biv.1 hm with h|h
   · exact absurd h.symm ha
   exact h
  have:=q1 t hm';have hpa:=h2 a this;simp[bki,hpa,a3i q2 hm' h1 h2]
def o5(s:AS):Nat:=Lib.ctz 32 s.toNat
def ax1 (h:s≠0):∃m,s.toNat=2^(o5 s+1)*m+2^o5 s/\o5 s<32:=by
 have h0:s.toNat≠0:=fun e=>h (bk7 e);obtain⟨m,h1,h2⟩:=Lib.ctzFrom_spec 32 s.toNat bmq s.isLt;have e:o5 s=Lib.ctzFrom 32 s.toNat:=by unfold o5 Lib.ctz;rw[if_neg h0]
 rw[e];refine⟨m, ?_,h2⟩;rw[Nat.pow_succ];rw[h1]at *;simp only[Nat.mul_add,Nat.mul_assoc,bll]at *;exact h1
def a5p(h:s≠0):o5 s<32/\s.getLsbD (o5 s)=true/\(∀k,k<o5 s->s.getLsbD k=false)/\s&&&(s-1)=s&&&~~~((1:AS)<<<o5 s):=by
 obtain⟨m,h1,h2⟩:=ax1 h;generalize o5 s=t at *;have hp:2^t<2^(t+1):=Nat.pow_lt_pow_right bmq bmq
 have hb:∀k,s.getLsbD k=if k<t+1 then(2^t).testBit k else m.testBit (k-(t+1)):=fun k=>by
  show s.toNat.testBit k=_;rw[h1,Nat.testBit_two_pow_mul_add _ hp]
 have hq:0<2^t:=Nat.two_pow_pos t
 have e1:(s-1).toNat=2^(t+1)*m+(2^t-1):=by
  have:=s.isLt;rw[BitVec.toNat_sub];show(2^32-1+s.toNat)%2^32=_;omega
 have hd:∀k,(s-1).getLsbD k=if k<t+1 then(2^t-1).testBit k else m.testBit (k-(t+1)):=fun k=>by
  show(s-1).toNat.testBit k=_;rw[e1,Nat.testBit_two_pow_mul_add _ bmq]
 refine⟨h2, ?_,fun k hk=>?_, ?_⟩
 · rw[hb,if_pos bmq,Nat.testBit_two_pow_self]
 · rw [hb,if_pos bmq,Nat.testBit_two_pow]
   simp;omega
 apply bke;intro k hk;rw[bk6,bk6,bmd,wh _ _ hk,hd k,hb k];by_cases h3:k<t+1
 · rw [if_pos h3,if_pos h3,Nat.testBit_two_pow,Nat.testBit_two_pow_sub_one]
   by_cases h4:k=t
   · subst h4;simp
   have:¬t=k:=fun e=>h4 e.symm;simp[this]
 rw[if_neg h3,if_neg h3];have:¬k=t:=by omega
 simp[hk,this]
def a5e (h:s≠0) (k:Nat) (hk:k<32):(s&&&(s-1)).getLsbD k=(decide (k≠o5 s)&&s.getLsbD k):=by
 rw[(a5p h).2.2.2,bk6,bmd,wh _ _ hk];by_cases e:k=o5 s<;>simp[e,hk,Bool.and_comm]
def arz (h:s≠0):bc s=o5 s::bc (s&&&(s-1)):=by
 obtain⟨h1,h2,h3,_⟩:=a5p h;unfold bc;rw[a3i bmi (bje.2 h1) h2 h3];congr 1;apply List.filter_congr;intro k hk;rw[a5e h k (bje.1 hk)]
def apl:bc 0=[]:=by
 unfold bc;rw[List.filter_eq_nil_iff];intro k _;simp
def agu(h:s≠0):(s&&&(s-1)).toNat<s.toNat:=by
 refine a0f (er.2 fun i hi hb=>?_) fun e=>?_
 · rw [a5e h i hi]at hb
   simp only[biw]at hb;exact hb.2
 have:=a5e h (o5 s) (a5p h).1;rw[e,(a5p h).2.1]at this;simp at this
end
end
end Go.Hx
