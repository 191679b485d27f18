/- A part of the proof: Kb10 V39 Kw11 Kx16 Tw12 Rb36. -/
import Derived.Test.YtmoggbnlhllhaaaGreatDoorUx35
set_option linter.all false
set_option maxRecDepth 100000
set_option maxHeartbeats 1000000
namespace Go.Hx
section
def adr:List Fd:=[⟨1,2⟩,⟨2,4⟩]
def f5:Tbl:=bcn (ah ((3:Nat):Int)::jf ((3:Nat):Int) (en adr ((3:Nat):Int))) 3
def b0z:cn ((3:Nat):Int) adr=0:=by decide +kernel
def bfj:akk ((3:Nat):Int) adr=[3,6]:=by decide +kernel
def b1l:TOk f5:=pz.1 (by decide +kernel)
def a2d:f5.attrs.length=3:=by decide +kernel
def arl:f5.rows.length=4:=by decide +kernel
def bes:b0x f5=[1]:=by decide +kernel
def bec:∀k,k<2^f5.attrs.length->jk (jl f5 k)=true/\(jl f5 k).rows=f5.rows.length:=by
 rw[a2d,arl];have:∀k:Fin 8,jk (jl f5 k.val)=true/\(jl f5 k.val).rows=((4:Nat):Int):=by decide +kernel
 exact fun k hk=>this ⟨k,hk⟩
def bft:∀a,a<=f5.attrs.length->(fmS (aj f5) f5.attrs.length a).length<=100:=by
 rw[a2d];have:∀a:Fin 4,(fmS (aj f5) 3 a.val).length<=100:=by decide +kernel
 exact fun a ha=>this ⟨a,by omega⟩
def bd2:∀a,a<f5.attrs.length->(mnL (aj f5) f5.attrs.length a).length<=100:=by
 rw[a2d];have:∀a:Fin 3,(mnL (aj f5) 3 a.val).length<=100:=by decide +kernel
 exact fun a ha=>this ⟨a,ha⟩
def bfg:∀i,i<=(ord (fmS (aj f5) f5.attrs.length f5.attrs.length)).length->((bdR (bdT (aj f5) f5.attrs.length f5.attrs.length) (ord (fmS (aj f5) f5.attrs.length f5.attrs.length)) i).2).length<=100:=by
 rw[a2d];have hl:(ord (fmS (aj f5) 3 3)).length=2:=by decide +kernel
 have:∀i:Fin 3,((bdR (bdT (aj f5) 3 3) (ord (fmS (aj f5) 3 3)) i.val).2).length<=100:=by decide +kernel
 rw[hl];exact fun i hi=>this ⟨i,by omega⟩
def bf2:bcc (aj f5) f5.attrs.length=[⟨1,2⟩,⟨1,4⟩,⟨2,4⟩]:=by
 rw[a2d];decide +kernel
end
section
open Go.Proofs
def bby (l:List Fd) (hl:l.length<=16777216):a7 bqh 126 [pP (fdl l)] (af [pP (fdl (ae1 l))]):=by
 refine hpx (nt:=47) Tryz.func126 ?_;refine w_6 ?_;refine m9 0 ?_;refine nc ?_;refine cr 4 900 true 1 35 (lf sC []) bq4 rfl (CoP.sl rfl (.inr rfl) (fun h=>h) (fun i j hi _=>absurd hi (bm6 i))) (.inr rfl) rfl ?_;refine c7 (ka 3 (ka 11 (ka 12 kn))) km (fun i=>⟨[(4,some (.v (.one (.ref 900 ((l.take i).map Fd.lhs).length)))),(13,some (vI i))],[(0,some (.mp (.int .u32) i (a2t (l.take i)))),(900,some (.arr true 1 35 ((l.take i).map Fd.lhs).length (lf sC ((l.take i).map Fd.lhs))))]⟩) l.length ⟨tt,⟨⟨_,rfl,⟨rfl,bm1 _,auo⟩⟩,uu⟩⟩ ?_;rintro i hi;have hlen:((l.take i).map Fd.lhs).length<=i:=by rw[bn0,bmw];omega
 refine w_5 ?_;refine hcd ?_ ?_<;>intro h0
 · refine w_7 ?_;refine m9 1 ?_;refine w_7 ?_;refine rq (out:=⟨_, .v (.one (.p (asC (mgR (l.take i) (l.getD i default).lhs))))⟩) rfl rfl rfl (congrArg (fun z=>some (Out.mk _ (HR.v (HC.one (HV.p z))))) (acg _ _)) rfl ?_ (hp:=⟨rfl,rfl,wfA _⟩);refine w_3 ?_;refine rs rfl rfl rfl rfl rfl ?_ (hp:=⟨rfl,⟨rfl,wfA _⟩,by simp only[maxLen];omega⟩);refine w_5 ?_;refine m9 2 ?_;refine rz9 3 true ?_;refine w_6 ?_;exact lpx (i+1) ⟨⟨⟨_,rfl,(bj (a4v bpw))⟩,tt⟩,⟨⟨_,rfl,⟨rfl,bm1 _,avx bpw⟩⟩,⟨_,rfl,(bm (a4v bpw) (CoP.refl _))⟩,trivial⟩⟩
 obtain rfl:i=l.length:=by omega
 rw[show(l.take l.length).map Fd.lhs=l.map Fd.lhs by rw[bmd],show a2t (l.take l.length)=a2t l by rw[bmd]];refine w_7 ?_;refine be 4 rfl rfl rfl ?_;have hol:=xx (l.map Fd.lhs);rw[bn0]at hol;refine w_2 ?_;refine qcx a0t (am4 (l.map Fd.lhs) (by rw[bn0];omega)) ?_;refine w_4 ?_;refine cr 7 901 true 2 37 (lf Fd.c []) bq4 rfl (CoP.sl rfl (.inr rfl) (fun h=>h) (fun i j hi _=>absurd hi (bm6 i))) (.inr rfl) rfl ?_;refine c7 (ka 3 (ka 31 (ka 32 kn))) (kb 0 km) (fun k=>⟨[(7,some (.v (.one (.ref 901 (((ord (l.map Fd.lhs)).take k).map (mgF l)).length)))),(33,some (vI k))],[(901,some (.arr true 2 37 (((ord (l.map Fd.lhs)).take k).map (mgF l)).length (lf Fd.c (((ord (l.map Fd.lhs)).take k).map (mgF l)))))]⟩) ((ord (l.map Fd.lhs)).length) kk ?_;rintro k hk;have hlen2:(((ord (l.map Fd.lhs)).take k).map (mgF l)).length<=k:=by rw[bn0,bmw];omega
 refine w_5 ?_;refine hcd ?_ ?_<;>intro h1
 · refine nc ?_;refine rq (out:=⟨_, .v (.one (.p (asC (mgR l ((ord (l.map Fd.lhs)).getD k default)))))⟩) rfl rfl rfl (congrArg (fun z=>some (Out.mk _ (HR.v (HC.one (HV.p z))))) (acg _ _)) rfl ?_ (hp:=⟨rfl,rfl,wfA _⟩);refine qy ?_;refine m9 4 ?_;refine rz9 5 true ?_;refine w_6 ?_;exact lpx (k+1) ⟨⟨⟨_,rfl,(bj (a4v bpw))⟩,tt⟩,⟨⟨_,rfl,(p8 (a4v bpw) (CoP.refl _) (CoP.refl _))⟩,uu⟩⟩
 obtain rfl:k=(ord (l.map Fd.lhs)).length:=by omega
 refine w_6 ?_;refine be 2 rfl rfl rfl ?_;exact hx8 rfl rfl rfl (⟨CoC.one (CoP.of_eq (by rw[bmd];rfl)),trivial⟩)
end
section
open Go.Proofs
def bcv:a6 bqh 25:=wgx Tryz.func25
def bd5  : a7 bqh 25 [f5.pc] (af [pP (fdl [⟨1,2⟩,⟨1,4⟩,⟨2,4⟩]),pI 0]):=by
 refine hpx (nt:=8) Tryz.func25 ?_;refine sx7 ?_;refine m9 0 ?_;refine w_6 ?_;refine qcx bc3 (b4r f5 b1l (by rw[a2d];decide) (by rw[arl];decide) bec bft bd2 bfg) ?_;refine v_5 ?_;exact⟨CoC.of_eq (by rw[bf2]),CoC.refl _,trivial⟩
def bca:a7 bqh 26 [f5.pc] (af [pP (asl [1]),pI 0]):=by
 have h:=b8b f5 b1l (by rw[a2d];decide) (by rw[arl];decide);rw[bes]at h;exact h
def b37:a7 bqh 23 [pI 3,pP (fdl adr)] (af [pP (asl [3,6]),pI 0]):=by
 have h:=b3b (fun k hk=>bby k hk) ((3:Nat):Int) adr;rw[bfj,b0z]at h;exact h
def bbe:a6 bqh 28:=wgx Tryz.func28
def bb2(a b:List Fd):a7 bqh 28 [pP (fdl a),pP (fdl b)] (af [pB (decide (a=b))]):=by
 refine hpx (nt:=26) Tryz.func28 ?_;refine eq ?_;refine fp 0 rfl fun hn=>?_;refine l6 ?_;refine hcn ?_ ?_<;>intro h0
 · refine v_4 ?_;exact⟨ccb (decide_eq_false fun e=>by subst e;omega).symm,trivial⟩
 refine ej ?_;refine dn (ι:=Unit) kn km (fun _i=>⟨[],[]⟩) (fun _i=>a=b) ?_ ?_
 ·
  refine w_5 ?_;refine ar (ι:=Nat) (ka 0 (ka 1 kn)) km (fun i=>⟨[(5,some (vI i))],[]⟩) (fun i=>i<=a.length/\(∀j,j<i->decide (a.getD j default=b.getD j default)=true)) (fun i=>a.length-i) (0) (⟨bm3 _,e9⟩) kk ?_;rintro i ⟨hi,hI⟩;refine w_8 ?_;refine hcd ?_ ?_<;>intro h1
  ·
   refine tg ?_;refine hcb ?_ ?_<;>intro h2
   · refine v_4 ?_;exact⟨ccb (decide_eq_false fun e=>by subst e;simp_all).symm,trivial⟩
   refine w_6 ?_;refine lpz (i+1) kk ?_;exact⟨by show i+1<=_;omega,da hI (decide_eq_true (by simp_all [Fd.eq_iff,d7]))⟩
  refine dz ?_;refine⟨(), ?_, ?_⟩
  · exact b03 bpw fun j hj=>hI j bpw
  exact⟨trivial,trivial⟩
 rintro _ hj;refine v_4 ?_;exact⟨ccb (decide_eq_true hj).symm,trivial⟩
def ajt (l:List AS):a7 bqh 27 [pP (asl l),pP (asl l)] (af [pB true]):=by
 have h:=bad l l;rw[decide_eq_true rfl]at h;exact h
def azz (l:List Fd):a7 bqh 28 [pP (fdl l),pP (fdl l)] (af [pB true]):=by
 have h:=bb2 l l;rw[decide_eq_true rfl]at h;exact h
def aq9:a6 bqh 6:=wgx Tryz.func6
def a92  : a7 bqh 6 [] (af [pB true]):=by
 refine hpx (nt:=67) Tryz.func6 ?_;refine w_8 ?_;refine m9 0 ?_;refine w_2 ?_;refine be 1 rfl rfl rfl ?_;refine w_3 ?_;refine rc rfl rfl rfl rfl rfl rfl bcg (b37) (⟨CoC.refl _,(CoC.one (CoP.sl rfl (.inl rfl) (fun h=>(by cases h)) fun i j hi hj=>CoP.of_eq (by have hi:i<2:=hi;have hj:j<2:=hj;rcases(show i=0\/i=1 by omega)with rfl|rfl<;>rcases(show j=0\/j=1 by omega)with rfl|rfl<;>rfl))),trivial⟩) rfl rfl ?_;refine w_9 ?_;refine rc rfl rfl rfl rfl rfl rfl b7k (bbm 3 adr bq4 b0z) (⟨CoC.refl _,(CoC.one (CoP.sl rfl (.inl rfl) (fun h=>(by cases h)) fun i j hi hj=>CoP.of_eq (by have hi:i<2:=hi;have hj:j<2:=hj;rcases(show i=0\/i=1 by omega)with rfl|rfl<;>rcases(show j=0\/j=1 by omega)with rfl|rfl<;>rfl))),trivial⟩) rfl rfl ?_;refine w_3 ?_;refine m9 1 ?_;refine w_6 ?_;refine qcx bcv (bd5) ?_;refine w_9 ?_;refine qcx bam (bca) ?_;refine axn ?_;refine m9 2 ?_;refine rc rfl rfl rfl rfl rfl rfl aug (ajt [3,6]) (⟨CoC.refl _,(CoC.one (CoP.sl rfl (.inl rfl) (fun h=>(by cases h)) fun i j hi hj=>CoP.of_eq (by have hi:i<2:=hi;have hj:j<1:=hj;rcases(show i=0\/i=1 by omega)with rfl|rfl<;>(obtain rfl:j=0:=by omega)<;>rfl))),trivial⟩) rfl rfl ?_;refine w_6 ?_;refine m9 3 ?_;refine rc rfl rfl rfl rfl rfl rfl bbe (azz [⟨1,2⟩,⟨1,4⟩,⟨2,4⟩]) (⟨CoC.refl _,(CoC.one (CoP.sl rfl (.inl rfl) (fun h=>(by cases h)) fun i j hi hj=>CoP.of_eq (by have hi:i<3:=hi;have hj:j<2:=hj;rcases(show i=0\/i=1\/i=2 by omega)with rfl|rfl|rfl<;>rcases(show j=0\/j=1 by omega)with rfl|rfl<;>rfl))),trivial⟩) rfl rfl ?_;refine w_3 ?_;refine m9 4 ?_;refine rc rfl rfl rfl rfl rfl rfl aug (ajt [1]) (⟨CoC.refl _,(CoC.one (CoP.sl rfl (.inl rfl) (fun h=>(by cases h)) fun i j hi hj=>CoP.of_eq (by have hi:i<1:=hi;have hj:j<1:=hj;(obtain rfl:i=0:=by omega)<;>(obtain rfl:j=0:=by omega)<;>rfl))),trivial⟩) rfl rfl ?_;refine v_3 ?_;exact CoL.refl _
end
section
open Go.Proofs
def b16:a6 bqh 5:=wgx Tryz.func5
def b15 (x:jw) (n:Nat) (hx:x.rows.length<=68719476736):a7 bqh 5 [x.pc,pI n] (af [(ahr x n).pc,pB (a9m x n)]):=by
 refine hpx (nt:=18) Tryz.func5 ?_;refine sx7 ?_;refine m9 0 ?_;refine m9 1 ?_;refine jb ?_;refine hcd ?_ ?_<;>intro h0
 · refine v_6 ?_;exact⟨by rw[show ahr x n=T0 from if_pos bpw];exact CoC.agg ⟨CoP.refl _,CoP.sl rfl (.inr rfl) (fun _=>rfl) (fun i j hi _=>absurd hi (bm6 i)),CoP.sl rfl (.inr rfl) (fun _=>rfl) (fun i j hi _=>absurd hi (bm6 i)),trivial⟩,ccb (by unfold a9m;simp;omega),trivial⟩
 refine w_8 ?_;refine rc rfl rfl rfl rfl rfl rfl b94 (c36 x (x.attrs.toNat%6) bpw (by first|exact hx|omega|assumption)) (⟨CoC.refl _,cci bpw,trivial⟩) rfl rfl ?_;refine v_3 ?_;exact⟨CoC.of_eq (by rw[show ahr x n=a3l x (x.attrs.toNat%6) from if_neg bpw]),ccb (by unfold a9m;simp;omega),trivial⟩
abbrev Dp.pc(d:Dp):PC:=.agg [d.c 0,d.c 1]
def bfm (x:jw) (hx:x.rows.length<=8):a7 bqh 5 [x.pc,pI (8:Nat)] (af [(a3l x (x.attrs.toNat%6)).pc,pB true]):=by
 have h:=b15 x 8 bpw;rw[show ahr x 8=a3l x (x.attrs.toNat%6) from if_neg bpw,show a9m x ((8:Nat):Int)=true by unfold a9m;simp;omega]at h;exact h
def bfp (x:jw) (hx:¬x.rows.length<=8) (hx2:x.rows.length<=16777216):a7 bqh 5 [x.pc,pI (8:Nat)] (af [T0.pc,pB false]):=by
 have h:=b15 x 8 bpw;rw[show ahr x 8=T0 from if_pos bpw,show a9m x ((8:Nat):Int)=false by unfold a9m;simp;omega]at h;exact h
end
section
open Go.Proofs
structure a0m where
 x:List UInt8
 y:List UInt8
def a0m.c (x:a0m):Nat->PV
 |0=>u8s x.x
 |1=>u8s x.y
 |_=>.any
abbrev a0m.pc(x:a0m):PC:=.agg [x.c 0,x.c 1]
def mbT(n:Nat)(l:List UInt8)(i:Nat):List Nat:=(l.take i).map fun a=>a.toNat%n
def mbN(n:Nat)(l:List UInt8):List Nat:=if 0<n then mbT n l 5 else[]
section
variable {l:List UInt8}{n:Nat}
def akp {i:Nat} (h:i<l.length):mbT n l (i+1)=mbT n l i++[(l.getD i default).toNat%n]:=by
 unfold mbT;rw[bow,bn7,al _ _ h,blz h];rfl
def anb {i:Nat}:(mbT n l i).length<=i:=by
 unfold mbT;rw[bn0];exact bom _ _
def bai(h:¬0<n):mbT n l 0=mbN n l:=by unfold mbN;rw[if_neg h];rfl
def bh0(h:0<n):mbT n l 5=mbN n l:=by unfold mbN;rw[if_pos h]
def b7i {i:Nat} (h:0<n) (hi:l.length<=i) (h5:i<=5):mbT n l i=mbN n l:=by
 unfold mbN;rw[if_pos h];unfold mbT;rw[bo8 hi,bo8 bpw]
def aoe:(mbN n l).length<=5:=by
 unfold mbN;split
 · exact anb
 simp
def atz:∀a∈mbN n l,a<n:=fun a ha=>by
 unfold mbN at ha;split at ha
 · obtain ⟨b,_,rfl⟩:=bml.1 ha
   exact Nat.mod_lt _ bpx
 cases ha
def avq:a6 bqh 48:=wgx Tryz.func48
def bc6(n:Nat)(l:List UInt8)(hn:n<=16):a7 bqh 48 [pI n,pP (u8s l)] (af [pP (il (mbN n l))]):=by
 refine hpx (nt:=32) Tryz.func48 ?_;refine nc ?_;refine cr 5 900 true 1 3 (lf iC []) bq4 rfl (CoP.sl rfl (.inr rfl) (fun h=>h) (fun i j hi _=>absurd hi (bm6 i))) (.inr rfl) rfl ?_;refine ar (ι:=Nat) (ka 0 (ka 1 kn)) km (fun i=>⟨[(5,some (.v (.one (.ref 900 (mbT n l i).length)))),(6,some (vI i))],[(900,some (.arr true 1 3 (mbT n l i).length (lf iC (mbT n l i))))]⟩) (fun i=>i<=l.length/\i<=5/\(¬0<n->i=0)) (fun i=>l.length-i) (0) (⟨bm3 _,bm3 _,fun _=>rfl⟩) kk ?_;rintro i ⟨hi,h5,hz⟩;have hlen:=anb (n:=n) (l:=l) (i:=i);refine w_8 ?_;refine am rfl rfl ?_ ?_<;>intro r0
 ·
  have h0:=tz1 r0;have hil:i<l.length:=by omega
  (iterate 2 refine qy ?_ (hg:=(gtt r0)));refine w_2 ?_;refine am rfl rfl ?_ ?_<;>intro r1
  ·
   have h1:=tz1 (bp r0 r1);have hi5:i<5:=by first|omega|(simp_all;omega)
   (iterate 2 refine qy ?_ (hg:=(gtt r1)));refine w_2 ?_;refine aw _ rfl ?_ ?_<;>intro r2
   ·
    have h2:=tz1 (bp r1 r2);have hn0:0<n:=by first|omega|(simp_all;omega)
    have hmm:Int.tmod (((l.getD i default).toNat:Nat):Int) ((n:Nat):Int)=(((l.getD i default).toNat%n:Nat):Int):=(Int.ofNat_tmod _ _).symm;have hul:(l.getD i default).toNat<256:=UInt8.toNat_lt _;refine w_9 ?_;refine rq rfl rfl rfl rfl rfl ?_ (hp:=(by show inR .i64 (((l.getD i default).toNat:Nat):Int);simp only[inR,l8,ml];omega));refine w_2 ?_;refine m9 0 ?_;refine rz9 1 true ?_;refine w_7 ?_;refine lpz (i+1) ⟨⟨⟨_,rfl,(bj (akp hil))⟩,tt⟩,⟨⟨_,rfl,(bm (akp hil) (CoP.of_eq (congrArg (fun z=>PV.raw (.int .i64 z)) hmm)))⟩,trivial⟩⟩ ?_;exact⟨by show i+1<=_;omega,by show i+1<=_;omega,fun h=>absurd hn0 h⟩
   have h2:=tz2 (bp r1 r2);have hn0:¬0<n:=by first|omega|(simp_all;done)|(simp_all;omega)
   have hE:(mbT n l i)=mbN n l:=by
    obtain rfl:=hz hn0;exact bai hn0
   refine w_2 ?_;refine be 5 rfl rfl rfl ?_;refine v_4 ?_;exact⟨CoC.of_eq (by rw[hE];rfl),trivial⟩
  have h1:=tz2 (bp r0 r1);have hi5:i=5:=by first|omega|(simp_all;omega)
  have hE:(mbT n l i)=mbN n l:=by
   by_cases hn1:0<n
   · rw[hi5];exact bh0 hn1
   have:=hz hn1;omega
  (iterate 2 refine k9 (gft r1) ?_);refine w_5 ?_;refine be 5 rfl rfl rfl ?_;refine w_4 ?_
  exact hx8 rfl rfl rfl (⟨CoC.of_eq (by rw[hE];rfl),trivial⟩)
 have h0:=tz2 r0;have hil:i=l.length:=by omega
 have hE:(mbT n l i)=mbN n l:=by
  by_cases hn1:0<n
  · exact b7i hn1 bpw h5
  obtain rfl:=hz hn1;exact bai hn1
 (iterate 2 refine k9 (gft r0) ?_);refine w_2 ?_;(iterate 2 refine k9 rfl ?_);refine w_5 ?_;refine be 5 rfl rfl rfl ?_;refine w_4 ?_
 exact hx8 rfl rfl rfl (⟨CoC.of_eq (by rw[hE];rfl),trivial⟩)
def bb0:a6 bqh 16:=wgx Tryz.func16
def bc2 (n:Nat) (x:a0m) (hn:n<=16):a7 bqh 16 [pI n,x.pc] (af [wj (mbN n x.x) (mbN n x.y)]):=by
 refine hpx (nt:=14) Tryz.func16 ?_;refine sx7 ?_;refine m9 0 ?_;refine m9 1 ?_;refine w_6 ?_;refine qcx avq (bc6 n x.x hn) ?_;refine w_3 ?_;refine qcx avq (bc6 n x.y hn) ?_;refine v_4 ?_;exact CoL.refl _
def soT(t:Tbl)(L:List (List Atm))(i:Nat):Bool:=(L.take i).all (dnB t)
def axf {t:Tbl} {L:List (List Atm)} {i:Nat} (h:i<L.length):soT t L (i+1)=(soT t L i&&dnB t (L.getD i default)):=by
 unfold soT;rw[bow,List.all_append,al _ _ h,blz h];simp
def b24{t:Tbl}{L:List (List Atm)}:soT t L L.length=L.all (dnB t):=by unfold soT;rw[bmd]
def b38 (x:jw) (y:a0m) (hx:¬x.rows.length<=8) (hx2:x.rows.length<=16777216):a7 bqh 4 [x.pc,y.pc] (af [pB true]):=by
 refine hpx (nt:=105) Tryz.func4 ?_;refine sx7 ?_;refine m9 0 ?_;refine m9 1 ?_;refine w_5 ?_;refine qcx b16 (bfp x hx hx2) ?_;refine w_3 ?_;refine m9 2 ?_;refine w_6 ?_;refine qcx aq9 (a92) ?_;refine w_9 ?_;refine qcx aq9 (a92) ?_;refine v_2 ?_;exact CoL.refl _
def b3z (x:jw) (y:a0m) (hx:x.rows.length<=8) (t:Tbl) (ht:a3l x (x.attrs.toNat%6)=t) (X Y:List Nat) (hXe:mbN t.attrs.length y.x=X) (hYe:mbN t.attrs.length y.y=Y) (L:List (List Atm)) (hL:aal (ai X) (ai Y)=L):a7 bqh 4 [x.pc,y.pc] (af [pB true]):=by
 refine hpx (nt:=105) Tryz.func4 ?_;have hT:TOk t:=ht▸b2q bpw hx;have h8:t.rows.length<=8:=by rw[<- ht];exact bme (bp5 alp) hx
 have hna:=hT.na;have hn5:t.attrs.length<=6:=by rw[<- ht];show(me.take (x.attrs.toNat%6)).length<=6;exact bme (bom _ _) bpw
 have hX:∀a∈X,a<t.attrs.length:=hXe▸atz;have hY:∀a∈Y,a<t.attrs.length:=hYe▸atz;have hX5:X.length<=5:=hXe▸aoe;have hY5:Y.length<=5:=hYe▸aoe;have hX8:X.length<=8:=by omega
 have hY8:Y.length<=8:=by omega
 have hxl:=bme (ut (l:=X)) hX5;have hyl:=bme (ut (l:=Y)) hY5;obtain⟨hlaw1,hlaw2⟩:=asf (S:=gt (ai Y)) hT hX hY (fun z=>a9v);rw[hL]at hlaw2
 have hLk:∀l∈L,l.length<=20/\∀a∈l,uk t.attrs.length 2 a:=fun l hl=>by
  rw[<- hL]at hl;obtain⟨i,j,hi,hj,rfl⟩:=a3h.1 hl;have:=b0e (Y:=ai Y) (j:=j) hi;exact⟨by omega,b4j (fun z hz=>hX z (po.1 hz)) (fun z hz=>hY z (po.1 hz)) hj⟩
 have hcT:a7 bqh 5 [x.pc,pI (8:Nat)] (af [t.pc,pB true]):=ht▸bfm x hx
 have hcO:a7 bqh 16 [pI (t.attrs.length:Nat),y.pc] (af [wj X Y]):=by
  have h:=bc2 t.attrs.length y hna;rw[hXe,hYe]at h;exact h
 have hcD:a7 bqh 20 [pI (t.attrs.length:Nat),wj X Y] (af [pP (b76 L),pI 0]):=hL▸bbg t.attrs.length X Y hna hX hY hX8 hY8;refine sx7 ?_;refine m9 0 ?_;refine m9 1 ?_;refine w_5 ?_;refine qcx b16 (hcT) ?_;refine w_3 ?_;refine m9 2 ?_;refine w_6 ?_;refine qcx aq9 (a92) ?_;refine nc ?_;refine qcx bb0 (hcO) ?_;refine m9 3 ?_;refine w_6 ?_;refine qcx bap (b68 t X Y hT hX hY hX8 hY8) ?_;refine w_9 ?_;refine qcx ba5 (bdd t hT hn5 bpw) ?_;refine jb ?_;refine qcx ban (awm t (wz t) X Y hT hn5 bpw hX hY hX8 hY8) ?_;refine l6 ?_;refine qcx b8l (hcD) ?_;refine axn ?_;refine hcb ?_ ?_<;>intro h0
 · exfalso;simp_all
 refine w_7 ?_;refine fp 14 rfl fun hn=>?_;refine w_6 ?_;refine c7 (ka 5 (ka 8 (ka 83 (ka 84 kn)))) (kb 2 km) (fun i=>⟨[(16,some (.v (.one (.p (.raw (.bool (soT t L i))))))),(85,some (vI i))],[]⟩) L.length kk ?_;rintro i hi;refine w_5 ?_;refine hcd ?_ ?_<;>intro h1
 ·
  have hil:i<L.length:=by omega
  have hml:(L.getD i default)∈L:=by rw[al _ _ hil];exact bma _
  have hst:=axf (t:=t) hil;refine w_7 ?_;refine m9 4 ?_;refine w_6 ?_;refine qcx baq (b6k t (L.getD i default) hT (hLk (L.getD i default) hml).1 (hLk (L.getD i default) hml).2) ?_;refine sb ?_;refine am rfl rfl ?_ ?_<;>intro r2
  · have h2:=r2;refine qy ?_ (hg:=(gtt r2));refine w_7 ?_;exact lpx (i+1) ⟨⟨⟨_,rfl,(cob (by rw[hst];simp_all))⟩,tt⟩,uu⟩
  have h2:=r2;refine k9 (gft r2) ?_;refine w_7 ?_;exact lpx (i+1) ⟨⟨⟨_,rfl,(cob (by rw[hst];simp_all))⟩,tt⟩,uu⟩
 obtain rfl:i=L.length:=by omega
 refine v_8 ?_;exact⟨ccb (by rw[b24,hlaw2];simp),trivial⟩
def bbh (x:jw) (y:a0m) (hx2:x.rows.length<=16777216):a7 bqh 4 [x.pc,y.pc] (af [pB true]):=by
 by_cases hx:x.rows.length<=8
 · exact b3z x y hx _ rfl _ _ rfl rfl _ rfl
 exact b38 x y hx hx2
end
end
section
open Go.Proofs Go.Proofs.YtmoggbnlhllhaaaGreatDoor
open Go.RowKit Go.ChangeShapes Go.WideShapes Go.ChangeAt
def bfe:Rd bqh 67 2 a0m.c:=by
 intro H enc w sp held fuel cs x h;obtain⟨hl,n,hf⟩:=avr Tryz.underlying67 h;obtain⟨y0,e0⟩:=hf 0 _ rfl;obtain⟨y1,e1⟩:=hf 1 _ rfl;obtain⟨a0,h0⟩:=aii azm e0;obtain⟨a1,h1⟩:=aii azm e1;refine⟨hl.trans (by kernel_rfl),(⟨a0,a1⟩:a0m),fun j hj=>?_⟩
 match j,hj with
 |0,_=>exact h0 0 bpw
 |1,_=>exact h1 0 bpw
def bak:bqh.readableRec 67=true/\67<bqh.types.size:=⟨by kernel_rfl,of_decide_eq_true (by kernel_rfl)⟩
end
end Go.Hx
