/- A part of the proof: Tw2 Kb4 Tw3 Kb5 Tw4 Hx38. -/
import Derived.Test.YtmoggbnlhllhaaaGreatDoorUx31
set_option linter.all false
set_option maxRecDepth 100000
set_option maxHeartbeats 1000000
namespace Go.Hx
section
open Go.Proofs
def Can.c (x:Can):Nat->PV
 |0=>asC x.cx
 |1=>.raw (.int .i64 (x.a:Int))
 |2=>.raw (.int .i64 x.b)
 |_=>.any
abbrev Can.pc(x:Can):PC:=.agg [x.c 0,x.c 1,x.c 2]
abbrev wo(l:List Can):PV:=psl 3 Can.c l
theorem Can.eq_iff{a b:Can}:a=b<->a.cx=b.cx/\a.a=b.a/\a.b=b.b:=by cases a;cases b;simp
abbrev zi(l:List Nat):List Int:=l.map fun(a:Nat)=>(a:Int)
def gt(l:List Nat):List Nat:=(tq (zi l)).map Int.toNat
section
variable {l:List Nat}
def b2l {i:Nat}:(zi l).getD i default=((l.getD i default:Nat):Int):=by
 unfold zi;rw[bm7,bm7,bn1];cases l[i]?<;>rfl
def ba3:zi (gt l)=tq (zi l):=by
 unfold gt zi;rw[List.map_map]
 conv=>rhs;rw[<- List.map_id (tq _)]
 refine bpn fun x hx=>?_;have:=a38.1 hx;obtain⟨a,_,rfl⟩:=bml.1 this;simp
def a9v{x:Nat}:x∈gt l<->x∈l:=by
 unfold gt;rw[bml];constructor
 · rintro ⟨y,hy,rfl⟩
   obtain⟨a,ha,rfl⟩:=bml.1 (a38.1 hy);simpa using ha
 exact fun h=>⟨(x:Int),a38.2 (bml.2 ⟨x,h,rfl⟩),by simp⟩
def ayq:(gt l).length=l.length:=by simp[gt,ajb]
def bdu(h:l.Nodup):(zi l).Nodup:=List.Pairwise.map _ (fun _ _ hne e=>hne (Int.ofNat.inj e)) h
def bf0:zl (zi l)=il l:=by
 show PV.sl (zi l).length 1 false _=PV.sl l.length 1 false _;rw[bn0];congr 1;funext i j;show zC ((zi l).getD i default) j=iC (l.getD i default) j;rw[b2l];rfl
def azh {x:Nat}:(l.any fun y=>decide (y=x))=decide (x∈l):=by
 rw[bnc];simp
def ax2 {l:List Can} {x:Can}:(l.any fun y=>decide (y=x))=decide (x∈l):=by
 rw[bnc];simp
def b4u {i:Nat} (h:i<l.length):zi (l.take (i+1))=zi (l.take i)++[(l.getD i default:Int)]:=by
 unfold zi;rw[ow h,bn7];rfl
def b46:a6 bqh 217:=wgx Tryz.func217
def bcx(l:List Nat)(x:Nat):a7 bqh 217 [pP (il l),pI x] (af [pI (idx (fun y=>decide (y=x)) l)]):=by
 refine hpx (nt:=19) Tryz.func217 ?_;refine eq ?_;refine fp 0 rfl fun hn=>?_;refine w_3 ?_;refine dn (ι:=Unit) kn km (fun _i=>⟨[],[]⟩) (fun _i=>idx (fun y=>decide (y=x)) l=-1) ?_ ?_
 ·
  refine w_7 ?_;refine ar (ι:=Nat) (ka 0 (ka 1 (ka 7 kn))) km (fun i=>⟨[(8,some (vI i))],[]⟩) (fun i=>i<=l.length/\(∀j,j<i->decide (l.getD j default=x)=false)) (fun i=>l.length-i) (0) (⟨bm3 _,e9⟩) kk ?_;rintro i ⟨hi,hIi⟩;refine w_5 ?_;refine hcd ?_ ?_<;>intro h0
  ·
   refine sb ?_;refine hcd ?_ ?_<;>intro h1
   · refine v_5 ?_;exact⟨cci (qx (p:=fun y=>decide (y=x)) (i:=i) bpw hIi (decide_eq_true (by simp_all;omega))).symm,trivial⟩
   refine w_5 ?_;refine lpz (i+1) kk ?_;exact⟨by show i+1<=_;omega,da hIi (decide_eq_false fun e=>by simp_all)⟩
  refine dz ?_;refine⟨(), ?_, ?_⟩
  · exact qv (p:=fun y=>decide (y=x)) fun j hj=>hIi j bpw
  exact⟨trivial,trivial⟩
 rintro _ hj;refine v_4 ?_;exact⟨cci hj.symm,trivial⟩
def b4p:a6 bqh 179:=wgx Tryz.func179
def bds (l:List Nat) (x:Nat):a7 bqh 179 [pP (il l),pI x] (af [pB (decide (x∈l))]):=by
 refine hpx (nt:=9) Tryz.func179 ?_;refine w_8 ?_;refine qcx b46 (bcx l x) ?_;refine v_3 ?_;exact⟨ccb (vw.trans azh),trivial⟩
def b2z:a6 bqh 180:=wgx Tryz.func180
def be3(l:List Can)(s:Can):a7 bqh 180 [pP (wo l),s.pc] (af [pI (idx (fun x=>decide (x=s)) l)]):=by
 refine hpx (nt:=19) Tryz.func180 ?_;refine eq ?_;refine fp 0 rfl fun hn=>?_;refine gy ?_;refine m9 0 ?_;refine w_2 ?_;refine dn (ι:=Unit) kn km (fun _i=>⟨[],[]⟩) (fun _i=>idx (fun x=>decide (x=s)) l=-1) ?_ ?_
 ·
  refine w_7 ?_;refine ar (ι:=Nat) (ka 0 (ka 3 (ka 7 kn))) (kb 0 km) (fun i=>⟨[(8,some (vI i))],[]⟩) (fun i=>i<=l.length/\(∀j,j<i->decide (l.getD j default=s)=false)) (fun i=>l.length-i) (0) (⟨bm3 _,e9⟩) kk ?_;rintro i ⟨hi,hIi⟩;refine w_5 ?_;refine hcd ?_ ?_<;>intro h0
  ·
   refine aam ?_;refine hcb ?_ ?_<;>intro h1
   · refine v_5 ?_;exact⟨cci (qx (p:=fun x=>decide (x=s)) (i:=i) bpw hIi (decide_eq_true (by simp_all [Can.eq_iff,Can.c,d7,Int.ofNat_inj];exact bn3 (by simp_all)))).symm,trivial⟩
   refine w_5 ?_;refine lpz (i+1) kk ?_;exact⟨by show i+1<=_;omega,da hIi (decide_eq_false fun e=>by subst e;simp_all [Can.c])⟩
  refine dz ?_;refine⟨(), ?_, ?_⟩
  · exact qv (p:=fun x=>decide (x=s)) fun j hj=>hIi j bpw
  exact⟨trivial,trivial⟩
 rintro _ hj;refine v_4 ?_;exact⟨cci hj.symm,trivial⟩
def a6o:a6 bqh 113:=wgx Tryz.func113
def ah1 (l:List Can) (s:Can):a7 bqh 113 [pP (wo l),s.pc] (af [pB (decide (s∈l))]):=by
 refine hpx (nt:=9) Tryz.func113 ?_;refine sx7 ?_;refine m9 0 ?_;refine w_6 ?_;refine qcx b2z (be3 l s) ?_;refine v_3 ?_;exact⟨ccb (vw.trans ax2),trivial⟩
def a7t:a6 bqh 111:=wgx Tryz.func111
def ab1(l:List Nat)(h8:l.length<=8):a7 bqh 111 [pP (il l)] (af [pP (il (ai l))]):=by
 refine hpx (nt:=22) Tryz.func111 ?_;refine tg ?_;refine cr 3 900 true 1 3 (lf iC []) bq4 rfl (CoP.sl rfl (.inr rfl) (fun h=>h) (fun i j hi _=>absurd hi (bm6 i))) (.inr rfl) rfl ?_;refine c7 (ka 6 (ka 7 kn)) km (fun i=>⟨[(3,some (.v (.one (.ref 900 (nu l i).length)))),(8,some (vI i))],[(900,some (.arr true 1 3 (nu l i).length (lf iC (nu l i))))]⟩) l.length kk ?_;rintro i hi;have hlen:=awp (l:=l) (i:=i);refine w_5 ?_;refine hcd ?_ ?_<;>intro h0
 ·
  have hil:i<l.length:=by omega
  refine l5 ?_;refine qcx b4p (bds (nu l i) (l.getD i default)) ?_;refine w_2 ?_;refine aw _ rfl ?_ ?_<;>intro r1
  ·
   have h1:=dc r1;have hq:¬(l.getD i default)∈(nu l i):=by simpa using r1
   refine w_3 ?_;refine m9 0 ?_;refine rz9 1 true ?_;refine w_6 ?_
   first | (refine lpz (i+1) ⟨⟨⟨_, rfl, (bj (aci hil hq))⟩, tt⟩, ⟨⟨_, rfl, (bm (aci hil hq) (CoP.refl _))⟩, trivial⟩⟩ ?_; show i+1<=_; omega)
         |(refine lpz (i+1) ⟨⟨⟨_,rfl,(bo (abi hil hq))⟩,tt⟩,⟨⟨_,rfl,(bf (abi hil hq))⟩,trivial⟩⟩ ?_;show i+1<=_;omega)
  have h1:=df r1;have hq:(l.getD i default)∈(nu l i):=by simpa using r1
  refine w_5 ?_
  first | (refine lpz (i+1) ⟨⟨⟨_, rfl, (bj (aci hil hq))⟩, tt⟩, ⟨⟨_, rfl, (bm (aci hil hq) (CoP.refl _))⟩, trivial⟩⟩ ?_; show i+1<=_; omega)
        |(refine lpz (i+1) ⟨⟨⟨_,rfl,(bo (abi hil hq))⟩,tt⟩,⟨⟨_,rfl,(bf (abi hil hq))⟩,trivial⟩⟩ ?_;show i+1<=_;omega)
 obtain rfl:i=l.length:=by omega
 refine w_2 ?_;refine be 3 rfl rfl rfl ?_;refine v_4 ?_;exact⟨CoC.of_eq (by rw[axh];rfl),trivial⟩
def bco:a6 bqh 62:=wgx Tryz.func62
def bar (X Y:List Nat) (hX:X.length<=8) (hY:Y.length<=8):a7 bqh 62 [wj X Y] (af [wj (ai X) (ai Y)]):=by
 refine hpx (nt:=10) Tryz.func62 ?_;refine sx7 ?_;refine m9 0 ?_;refine m9 1 ?_;refine w_5 ?_;refine qcx a7t (ab1 X hX) ?_;refine w_2 ?_;refine qcx a7t (ab1 Y hY) ?_;refine v_4 ?_;exact CoL.refl _
def ae9:a6 bqh 116:=wgx Tryz.func116
def are (l:List Nat) (hl:∀a∈l,a<32):a7 bqh 116 [pP (il l)] (af [pA (qd l)]):=by
 refine hpx (nt:=18) Tryz.func116 ?_;refine w_5 ?_;refine fp 0 rfl fun hn=>?_;refine jb ?_;refine c7 (ka 6 (ka 7 kn)) km (fun i=>⟨[(3,some (vA (qd (l.take i)))),(8,some (vI i))],[]⟩) l.length kk ?_;rintro i hi;refine w_5 ?_;refine hcd ?_ ?_<;>intro h0
 ·
  have hil:i<l.length:=by omega
  have hz:=hl (l.getD i default) (by rw[al _ _ hil];exact bma _);refine as1 ?_;exact lpx (i+1) ⟨⟨⟨_,rfl,(coi (by rw[ow hil,ay0,<- bOr,<- aop];rfl))⟩,tt⟩,trivial⟩
 obtain rfl:i=l.length:=by omega
 refine v_6 ?_;exact⟨cci (by rw[bmd]),trivial⟩
def b63:a6 bqh 115:=wgx Tryz.func115
def bd9(l:List Nat):a7 bqh 115 [pP (il l)] (af [pP (.fn 183 1 fun _=>.vp 1 fun _=>il l)]):=by
 refine hpx (nt:=4) Tryz.func115 ?_;refine sx7 ?_;refine m9 0 ?_;refine w_3 ?_;refine c8 1 rfl rfl rfl ?_;refine w_5 ?_;refine⟨.inr rfl, ?_⟩
 exact ⟨_,_,_,_,rfl,(by(repeat' apply And.intro)<;>first|trivial|exact bm0 rfl|rfl),rfl,(by(repeat' apply And.intro)<;>first|trivial|exact bm0 rfl|rfl),⟨CoC.one (CoP.fn rfl fun i hi=>by
  obtain rfl:i=0:=by simpa using hi
  exact CoP.vp rfl fun j hj=>by
   obtain rfl:j=0:=by simpa using hj
   exact CoP.refl _),trivial⟩⟩
def b2i:a6 bqh 183:=wgx Tryz.func183
def b98(l:List Nat)(hn:l.length<=68719476736) :
 b1d bqh 183 [.one (.vp 1 fun _=>il l)] l.length fun i=>[pI (l.getD i default:Nat)]:=by
 intro imm htab us W ll J hcaps him hJb hY h0;haveI:TabC imm:=⟨htab⟩;refine callsIn_of_wp Tryz.func183 rfl trivial ?_ rfl;have e0:#[Value.func (.yield ll) #[] #[]]++us.toArray=(Value.func (.yield ll) #[] #[]::us).toArray:=by simp
 rw[e0];have hst:=axw (A:=W) (nt:=16) (us:=Value.func (.yield ll) #[] #[]::us) (args:=[.one (.raw (.func (.yield ll) #[] #[])), .one (.vp 1 fun _=>il l)]) (him 0 W h0) ⟨⟨rfl,rfl⟩,hcaps⟩ l9;refine wpIn_seq (wpIn_region ?_);refine iq (E:=ci) bw hst rfl rfl rfl rfl rfl rfl (fun a h1=>?_);refine iq (E:=ci) bw h1 rfl rfl rfl rfl rfl rfl (fun a h2=>?_);refine iq (E:=ci) bw h2 rfl rfl rfl rfl rfl rfl (fun a h3=>?_);show Code.wpIn _ _ _ _ _ _ _;refine wpIn_block ?_;refine a4f (fun m a A=>∃i,i<=l.length/\m=l.length-i/\J i A/\It imm 16 [(0,some (br (.raw (.func (.yield ll) #[] #[])))),(5,some (br (il l))),(6,some (br (.raw (.int .i64 (l.length:Int))))),(7,some (br (.raw (.int .i64 (i:Int)))))] a A) l.length ⟨0,bm3 _,by omega,h0,h3.sub tt⟩ ?_;rintro m a A ⟨i,hi,rfl,hJ,h⟩;refine wpIn_seq (wpIn_region ?_);refine iq (E:=ci) bw h rfl rfl rfl rfl rfl rfl (fun a h2=>?_);show Code.wpIn _ _ _ _ _ _ _;refine wpIn_seq (wpIn_cond_split (a81 (x:=.tmp 8) h2 rfl).1 (fun hb=>?_) (fun hb=>?_))
 · have hb:=aqb hb
   have hin:i<l.length:=by omega
   refine wpIn_skip ?_;show Code.wpIn _ _ _ _ _ _ _;refine wpIn_seq (wpIn_block ?_);refine wpIn_seq (wpIn_region ?_);refine iq (E:=ci) bw h2 rfl rfl rfl rfl rfl rfl (fun a h3=>?_) (hp:=⟨rfl,by omega,by omega⟩);refine iq (E:=ci) bw h3 rfl rfl rfl rfl rfl rfl (fun a h4=>?_);refine iq (E:=ci) bw h4 rfl rfl rfl rfl rfl rfl (fun a h5=>?_);show Code.wpIn _ _ _ _ _ _ _;refine wpIn_seq (wpIn_region ?_);refine iq (E:=ci) bw h5 rfl rfl rfl rfl rfl rfl (fun a h6=>?_);refine iq (E:=ci) bw h6 rfl rfl rfl rfl rfl rfl (fun a h7=>?_);have e12:=a81 (x:=.tmp 12) h7 rfl;simp only[bmc]at e12;refine iy h7 rfl rfl rfl rfl rfl rfl (R:=J (i+1)) (hY i A [_] hin hJ ⟨e12,trivial⟩) (fun A'=>him (i+1) A') (fun a A1 hJ1 h9=>?_);refine iq (E:=ci) bw h9 rfl rfl rfl rfl rfl rfl (fun a h10=>?_);show Code.wpIn _ _ _ _ _ _ _;refine wpIn_cond_false (a81 (x:=.tmp 14) h10 rfl).1 (wpIn_skip ?_);show Code.wpIn _ _ _ _ _ _ _;refine wpIn_region ?_;refine iq (E:=ci) bw h10 rfl rfl rfl rfl rfl rfl (fun a h11=>?_);refine iq (E:=ci) bw h11 rfl rfl rfl rfl rfl rfl (fun a h12=>?_);exact⟨l.length-(i+1),by omega,i+1,hin,rfl,hJ1,h12.sub ⟨c9,c9,c9,⟨_,rfl,coi bpw⟩,trivial⟩⟩
 have hb:=aro hb;obtain rfl:i=l.length:=by omega
 refine wpIn_exit ?_;exact⟨h2.defers,_,results_none rfl _ _ _,⟨_,rfl⟩,hJ⟩
def b4q:a6 bqh 218:=wgx Tryz.func218
def bc1(l:List Nat)(hl:l.length<=1000):dg bqh 218 [.one (.p (.sl 0 0 true fun _ _=>.any)), .one (.p (.fn 183 1 fun _=>.vp 1 fun _=>il l))] [] (.v (.one (.ref 900 (zi l).length))) [(900, .arr true 1 3 (zi l).length (lf zC (zi l)))] []:=by
 refine hfx (nt:=13) Tryz.func218 ?_;refine sx7 ?_;refine m9 0 ?_;refine w_8 ?_;refine ik 0 0 900 true 1 3 (lf zC []) bq4 rfl rfl (CoP.sl rfl (.inr rfl) (fun h=>h) (fun i j hi _=>absurd hi (bm6 i))) (.inr rfl) rfl rfl ?_;refine avk (ι:=Nat) (swp 0 1001) (anj 0 1001) rfl b2i (b98 l bpw) [(2,some (.v (.one (.ptr 0 0))))] (fun x=>[(0, .box [.ref 900 (zi (l.take x)).length]),(900, .arr true 1 3 (zi (l.take x)).length (lf zC (zi (l.take x))))]) (fun i x=>x=i/\i<=l.length) (0) (⟨rfl,bm3 _⟩) kk [0] (fun _ _=>rfl) rfl ?_ ?_
 · rintro lp i x hi ⟨rfl,hx⟩
   have htl:(zi (l.take x)).length=x:=by simp;omega
   have htz:=b4u hi;refine w_3 ?_;refine⟨rfl, ?_⟩;refine w_4 ?_;refine m9 1 ?_;refine rz9 2 true ?_;refine w_2 ?_;refine⟨rfl,x+1, ?_, ?_⟩
   · exact⟨rfl,hi⟩
   exact⟨⟨_,rfl,⟨congrArg (HV.ref 900) (by rw[htz,bm2];rfl),trivial⟩⟩,⟨_,rfl,(bm htz (CoP.refl _))⟩,trivial⟩
 rintro x ⟨rfl,_⟩;rw[bmd];refine w_5 ?_;refine hrr ?_;exact⟨_,_,rfl,bpy,CoR.refl _,uu⟩
def b2a:a6 bqh 181:=wgx Tryz.func181
def bdw (l:List Nat) (hl:l.length<=1000):dg bqh 181 [.one (.p (.fn 183 1 fun _=>.vp 1 fun _=>il l))] [] (.v (.one (.ref 900 (zi l).length))) [(900, .arr true 1 3 (zi l).length (lf zC (zi l)))] []:=by
 refine hfx (nt:=5) Tryz.func181 ?_;refine w_7 ?_;refine fc9 b4q (bc1 l hl) trivial ?_;refine w_2 ?_;refine hrr ?_;exact⟨_,_,rfl,bpy,CoR.refl _,uu⟩
def b2h:a6 bqh 248:=wgx Tryz.func248
def bi8 (x y:Int):a7 bqh 248 [pI x,pI y] (af [pB (decide (x<y))]):=by
 refine hpx (nt:=17) Tryz.func248 ?_;refine w_7 ?_;refine qcx adl (ar4 _) ?_;refine qy ?_;refine am rfl rfl ?_ ?_<;>intro r0
 · have h0:=r0;exfalso;simp_all
 have h0:=r0;(iterate 3 refine k9 (gft r0) ?_);refine w_8 ?_
 exact hx8 rfl rfl rfl (⟨ccb bpz,trivial⟩)
def b60:a6 bqh 242:=wgx Tryz.func242
def bd8(l:List Int)(hn:l.Nodup)(h12:l.length<=12):dg bqh 242 [.one (.ref 1000 l.length), .one (.p (.raw (.int .i64 0))), .one (.p (.raw (.int .i64 (l.length:Int))))] [(1000, .arr true 1 3 l.length (lf zC l))] (.tup []) [(1000, .arr true 1 3 l.length (lf zC (tq l)))] [1000]:=by
 refine hfx (nt:=49) Tryz.func242 ?_;refine w_7 ?_;refine ar (ι:=Nat×List Int) (ka 0 (ka 1 (ka 2 kn))) km (fun x=>⟨[(6,some (vI x.1))],[(1000,some (.arr true 1 3 l.length (lf zC x.2)))]⟩) (fun x=>1<=x.1/\uw cmN l (min x.1 l.length) x.2) (fun x=>l.length+1-x.1) ((1,l)) (⟨bm1 _,ayn hn⟩) ⟨⟨⟨_,rfl,(coi bpw)⟩,trivial⟩,uu⟩ ?_;rintro x ⟨hx1,hO⟩;refine w_7 ?_;refine hcd ?_ ?_<;>intro h0
 ·
  have hil:x.1<l.length:=by omega
  have hmi:min x.1 l.length=x.1:=by omega
  rw[hmi]at hO;have hOl:=hO.len;refine w_9 ?_;refine ar (ι:=Nat×List Int) (ka 0 (ka 1 (ka 2 (ka 6 kn)))) km (fun y=>⟨[(7,some (vI y.1))],[(1000,some (.arr true 1 3 l.length (lf zC y.2)))]⟩) (fun y=>aab cmN l x.1 y.1 y.2) (fun y=>y.1) ((x.1,x.2)) (hO.into bpw) kk ?_;rintro y hI;have hIl:=hI.len;have hIk:=hI.ki;have hIi:=hI.il;refine w_7 ?_;refine am rfl rfl ?_ ?_<;>intro r1
  ·
   have h1:=tz1 r1;(iterate 9 refine qy ?_ (hg:=(gtt r1)));refine qcx b2h (bi8 _ _) ?_ (hg:=(gtt r1));refine w_3 ?_;refine aw _ rfl ?_ ?_<;>intro r2
   ·
    have h2:=bp r1 r2;have hlt:cmN (y.2.getD y.1 default) (y.2.getD (y.1-1) default)<0:=by have hq0:=r2;rw[decide_eq_true (show(0:Int)<(y.1:Int) by omega)]at hq0;have hq:=aqb hq0;unfold cmN;simp only[bmc,show((y.1:Int)-1).toNat=y.1-1 by omega]at hq;omega
    refine axn ?_;refine lpz (y.1-1,swL y.2 y.1) ⟨⟨⟨_,rfl,(coi bq0)⟩,tt⟩,⟨⟨_,rfl,(b9h (L:=y.2) (k:=y.1) bpw bpw bpw bpw bpw (by rw[show((y.1:Int)-1).toNat=y.1-1 by omega];rfl) rfl)⟩,trivial⟩⟩ ?_;exact hI.step ae4 bpw hlt
   have h2:=bp r1 r2;have hstop:y.1=0\/¬cmN (y.2.getD y.1 default) (y.2.getD (y.1-1) default)<0:=.inr (by have hq0:=r2;rw[decide_eq_true (show(0:Int)<(y.1:Int) by omega)]at hq0;have hq:=aro hq0;unfold cmN;simp only[bmc,show((y.1:Int)-1).toNat=y.1-1 by omega]at hq;omega);refine w_6 ?_;refine lpz (x.1+1,y.2) ⟨⟨⟨_,rfl,(coi bq0)⟩,tt⟩,uu⟩ ?_;exact⟨by show 1<=x.1+1;omega,by show uw cmN l (min (x.1+1) l.length) y.2;rw[show min (x.1+1) l.length=x.1+1 by omega];exact hI.done ae4 hstop⟩
  have h1:=tz2 r1;have hstop:y.1=0\/¬cmN (y.2.getD y.1 default) (y.2.getD (y.1-1) default)<0:=.inl bpw;(iterate 10 refine k9 (gft r1) ?_);refine eu ?_;refine lpz (x.1+1,y.2) ⟨⟨⟨_,rfl,(coi bq0)⟩,tt⟩,uu⟩ ?_
  exact⟨by show 1<=x.1+1;omega,by show uw cmN l (min (x.1+1) l.length) y.2;rw[show min (x.1+1) l.length=x.1+1 by omega];exact hI.done ae4 hstop⟩
 have hml:min x.1 l.length=l.length:=by omega
 rw[hml]at hO;have hfin:=azl hn hO (by have:=hO.len;omega);refine dz ?_;refine⟨.inl rfl, ?_⟩;exact⟨_,_,rfl,bpy,CoR.refl _,⟨⟨_,rfl,(by rw[hfin];exact CoO.refl _)⟩,trivial⟩⟩
def b53:a6 bqh 219:=wgx Tryz.func219
def be0 (l:List Int) (hn:l.Nodup) (h12:l.length<=12):dg bqh 219 [.one (.ref 1000 l.length), .one (.p (.raw (.int .i64 0))), .one (.p (.raw (.int .i64 (l.length:Int)))), .one (.p .any)] [(1000, .arr true 1 3 l.length (lf zC l))] (.tup []) [(1000, .arr true 1 3 l.length (lf zC (tq l)))] [1000]:=by
 refine hfx (nt:=134) Tryz.func219 ?_;refine w_9 ?_;refine ar (ι:=Nat) (ka 0 kn) km (fun i=>⟨[(1,some (vI 0)),(2,some (vI (l.length:Nat))),(3,some (.v (.one (.p .any)))),(8,some (.v (.one (.p (.raw (.bool true)))))),(9,some (.v (.one (.p (.raw (.bool true))))))],[(1000,some (.arr true 1 3 l.length (lf zC l)))]⟩) (fun i=>True) (fun i=>0) (0) (trivial) ⟨⟨⟨_,rfl,(CoR.refl _)⟩,⟨_,rfl,(CoR.refl _)⟩,⟨_,rfl,(CoR.refl _)⟩,⟨_,rfl,(CoR.refl _)⟩,⟨_,rfl,(CoR.refl _)⟩,trivial⟩,uu⟩ ?_;rintro i _;refine nc ?_;refine hcd ?_ ?_<;>intro h0
 · refine w_5 ?_;refine fc9 b60 (bd8 l hn h12) uu ?_;refine d5 ?_;refine hrr ?_;exact⟨_,_,rfl,bpy,CoR.refl _,uu⟩
 exfalso;omega
def b6z:a6 bqh 182:=wgx Tryz.func182
def bcr (l:List Int) (hn:l.Nodup) (h12:l.length<=12):dg bqh 182 [.one (.ref 1000 l.length)] [(1000, .arr true 1 3 l.length (lf zC l))] (.tup []) [(1000, .arr true 1 3 l.length (lf zC (tq l)))] [1000]:=by
 refine hfx (nt:=11) Tryz.func182 ?_;refine jb ?_;refine rc rfl rfl rfl rfl rfl rfl b8s (bd0 l.length bpw) (⟨CoP.of_eq rfl,trivial⟩) rfl rfl ?_;refine fc9 b53 (be0 l hn h12) uu ?_;refine d5 ?_;refine⟨.inl rfl, ?_⟩;exact⟨_,_,rfl,bpy,CoR.refl _,uu⟩
def b20:a6 bqh 114:=wgx Tryz.func114
def b64 (l:List Nat) (hn:l.Nodup) (h12:l.length<=12):a7 bqh 114 [pP (.fn 183 1 fun _=>.vp 1 fun _=>il l)] (af [pP (il (gt l))]):=by
 refine hpx (nt:=9) Tryz.func114 ?_;refine w_7 ?_;refine fc9 b2a (bdw l bpw) trivial ?_;refine w_5 ?_;refine fc9 b6z ((bcr (zi l) (bdu hn) (by simpa using h12)).swap 1000 900) uu ?_;refine w_2 ?_;refine be 3 rfl rfl rfl ?_;refine v_4 ?_;exact⟨CoC.of_eq (by rw[<- bf0,ba3];show PC.one (PV.sl _ 1 false _)=PC.one (PV.sl (tq _).length 1 false _);rw[ajb]),trivial⟩
end
end
section
section
variable {cl:List AS}{n:Int}{s:AS}
def a7j (h4:¬asI s=asI (ah n)) (h5:¬asI (ue n cl s cl.length)=asI s):a08 n cl s=true:=by
 unfold a08;rw[bm8,decide_eq_true_eq,decide_eq_true_eq];exact⟨fun e=>h4 (by rw[e]),fun e=>h5 (by rw[e])⟩
def a0u (h5:asI (ue n cl s cl.length)=asI s):a08 n cl s=false:=by
 unfold a08;rw[d7.1 h5];simp
def a1b (h4:asI s=asI (ah n)):a08 n cl s=false:=by
 unfold a08;rw[d7.1 h4];simp
def bfz {i:Nat} (h:i<10):PV.raw (.string (Utf8.encode (97+(i:Int))))=.raw (.string (aqe i)):=by
 have:∀i:Fin 10,Utf8.encode (97+(i.val:Int))=aqe i.val:=by decide +kernel
 exact congrArg (fun x=>PV.raw (.string x)) (this ⟨i,h⟩)
def ajw{j:Nat}(h:j<32):cu .and .u32 ((asI s).fdiv (2^(min j IntKind.u32.bits))) 1=0<->s.getLsbD j=false:=by
 have e1:(asI s).fdiv (2^(min j IntKind.u32.bits))=asI (s>>>j):=by
  rw[show min j IntKind.u32.bits=j from bne (show j<=32 by omega)];show((s.toNat:Int)).fdiv _=(((s>>>j).toNat:Nat):Int);rw[show(2:Int)^j=((2^j:Nat):Int) by simp,bop _ (bni _),<- bpu,boi,boc]
 rw[e1,show(1:Int)=asI 1 from rfl,yu];constructor
 · intro h
   have h2:(s>>>j)&&&1=0:=d7.1 (h.trans (show(0:Int)=asI 0 from rfl));have h3:=congrArg (fun x:AS=>x.getLsbD 0) h2;simpa using h3
 intro hb
 have:(s>>>j)&&&1=0:=by
  apply bnj;intro i hi;have hone:=o5 0 i hi;rw[show(1:AS)<<<0=1 from rfl]at hone;rw[bmy,hone];by_cases e:i=0
  · subst e;simp[hb]
  simp[e]
 rw[this];rfl
variable {k:Nat}
def ass {j:Nat} (h:j<32) (hb:cu .and .u32 ((asI s).fdiv (2^(min j IntKind.u32.bits))) 1=0):PV.raw (.int .i64 (k:Int))=.raw (.int .i64 (acw s k j).num):=by
 unfold acw;rw[if_neg (by rw[(ajw h).1 hb];simp)]
def ath {j:Nat} (h:j<32) (hb:¬cu .and .u32 ((asI s).fdiv (2^(min j IntKind.u32.bits))) 1=0):PV.raw (.int .i64 0)=.raw (.int .i64 (acw s k j).num):=by
 unfold acw;rw[if_pos (by rw[ajw h]at hb;simpa using hb)]
def ap4{a b:AS}:cu .and .u32 (asI a) (asI b)=asI b<->sub b a:=by
 rw[yu,fq];constructor
 · intro h i hi hb
   have h2:=d7.1 h;rw[<- h2,bmy,bm8]at hb;exact hb.1
 intro h;refine congrArg asI ?_;apply bnj;intro i hi;rw[bmy]
 cases hb:b.getLsbD i with
 |true=>rw[h i hi hb];rfl
 |false=>simp
def arp (hk:k<cl.length) (h2:¬asI (cl.getD k default)=asI s) (h3:cu .and .u32 (asI (cl.getD k default)) (asI s)=asI s):
 CoR (.v (.one (.p (.raw (.int .u32 (cu .and .u32 (asI (ue n cl s k)) (asI (cl.getD k default)))))))) (vA (ue n cl s (k+1))) :=
 nq (by rw[yu,a6k hk,aku,if_pos ⟨fun e=>h2 (by rw[e]),ap4.1 h3⟩])
def aij (hk:k<cl.length) (h3:¬cu .and .u32 (asI (cl.getD k default)) (asI s)=asI s):CoR (vA (ue n cl s k)) (vA (ue n cl s (k+1))) :=
 nq (by rw[a6k hk,aku,if_neg fun e=>h3 (ap4.2 e.2)])
def alm (hk:k<cl.length) (h2:asI (cl.getD k default)=asI s):CoR (vA (ue n cl s k)) (vA (ue n cl s (k+1))) :=
 nq (by rw[a6k hk,aku,if_neg fun e=>e.1 (d7.1 h2)])
def dh {α:Type} [Inhabited α] {wr wr':Bool} {e:TypeId} {c:α->Nat->PV} {l l':List α} {x:α} {g:Nat->Nat->PV} (h:l'=l++[x]) (h0:CoP (g 0 0) (c x 0)) (h1:CoP (g 0 1) (c x 1)) (h2:CoP (g 0 2) (c x 2)) (hw:wr'=true->wr=true:=by exact fun h=>h) :
 CoO (.arr wr 3 e (l.length+1) (f3 l.length (lf c l) g)) (.arr wr' 3 e l'.length (lf c l')) :=
 a7a h (fun j hj=>by
  rcases(by omega:j=0\/j=1\/j=2)with rfl|rfl|rfl
  · exact h0
  · exact h1
  exact h2) rfl hw
def axt{α:Type}[Inhabited α]{e:TypeId}{c:α->Nat->PV}{x:α}{l:List α}{f:Nat->Nat->PV}(h:CoP (f 0 0) (c x 0)):CoO (.arr true 1 e (1+l.length) (f3 1 f (lf c l))) (.arr true 1 e (x::l).length (lf c (x::l))) :=
 a56 (by rw[bna,Nat.add_comm]) fun i hi=>by
  unfold f3
  cases i with
  |zero=>rw[if_pos bpw];exact h
  | succ i =>
   rw[if_neg bpw,Nat.add_sub_cancel];exact CoP.of_eq rfl
end
end
section
open Go.Proofs
section
variable {i:Nat}
def ade {s:AS} (h:i<32):cu .and .u32 ((asI s).fdiv (2^(min i IntKind.u32.bits))) 1=1<->s.getLsbD i=true:=by
 rw[<- s5 h];exact bdr h
def nb(X Y S:List Nat)(i k:Nat):List Can:=(((List.range i).flatMap fun i=>(List.range Y.length).map fun k=>gi X Y i k)++(List.range k).map fun k=>gi X Y i k).foldl mb ((a3o X S).foldl mb [])
def uj(X S:List Nat)(i:Nat):List Can:=((S.take i).map (cnY X)).foldl mb []
variable {S X:List Nat}
def a5f (h:i<S.length):uj X S (i+1)=mb (uj X S i) (cnY X (S.getD i default)):=by
 unfold uj;rw[ow h,bn7,bmo];rfl
variable {Y:List Nat}
def ai3:uj X S S.length=nb X Y S 0 0:=by unfold uj nb a3o;rw[bmd];rfl
def afz {k:Nat}:nb X Y S i (k+1)=mb (nb X Y S i k) (gi X Y i k):=by
 unfold nb;rw[bmk,bn7,<- bn6,bmo (l:=_++_)];rfl
def aiv:nb X Y S i Y.length=nb X Y S (i+1) 0:=by
 unfold nb;rw[bmk,bon];simp
def ayc:nb X Y S X.length 0=wu X Y S:=by unfold nb wu aqt;simp
variable {l:List Can}
def ajy{c:Can}:(mb l c).length<=l.length+1:=by unfold mb;split<;>simp
def ahj:∀{i:Nat},i<=S.length->(uj X S i).length<=i
 |0,_=>by simp[uj]
 | i+1,h=>by
  have h1:(uj X S i).length<=i:=ahj bpw;have h2:=ajy (l:=uj X S i) (c:=cnY X (S.getD i default));rw[a5f bpw];omega
def aai:∀{m l:List Can},(m.foldl mb l).length<=l.length+m.length
 | [],l=>by simp
 | c::m,l=>by
  rw[bnq];have h1:(m.foldl mb (mb l c)).length<=(mb l c).length+m.length:=aai;have h2:=ajy (l:=l) (c:=c);simp only[bna];omega
def abj:∀{i:Nat},((List.range i).flatMap fun i=>(List.range Y.length).map fun k=>gi X Y i k).length=i*Y.length
 |0=>by simp
 | i+1=>by
  have h:((List.range i).flatMap fun i=>(List.range Y.length).map fun k=>gi X Y i k).length=i*Y.length:=abj;rw[bmk,bon,bm2,h,Nat.succ_mul];simp
def ayt {k:Nat} (hi:i<=8) (hk:k<=8) (hY:Y.length<=8) (hS:S.length<=8):(nb X Y S i k).length<=80:=by
 unfold nb;have h1:=aai (m:=(((List.range i).flatMap fun i=>(List.range Y.length).map fun k=>gi X Y i k)++(List.range k).map fun k=>gi X Y i k)) (l:=(a3o X S).foldl mb []);have h2:=aai (m:=a3o X S) (l:=[]);have h3:=abj (X:=X) (Y:=Y) (i:=i);have h4:i*Y.length<=8*8:=bp1 hi hY;simp only[bm2,bn0,bpc,bor,a3o,h3]at h1 h2 ⊢;omega
def ah8{c:Can}(h:¬dp c)(h2:¬c∈l):mb l c=l++[c]:=if_pos ⟨h,h2⟩
def a02{c:Can}(h:dp c\/c∈l):mb l c=l:=if_neg fun⟨h1,h2⟩=>h.elim h1 h2
def aoc:a6 bqh 112:=wgx Tryz.func112
def bbc(l:List Can)(c:Can)(ha:c.a<32)(hb:-1<=c.b)(hb2:c.b<32)(hl:l.length<=1000):dg bqh 112 [c.pc.toH, .one (.ptr 1000 0)] [(1000, .box [.ref 901 l.length]),(901, .arr true 3 136 l.length (lf Can.c l))] (.tup []) [(1000, .box [.ref 901 (mb l c).length]),(901, .arr true 3 136 (mb l c).length (lf Can.c (mb l c)))] [1000]:=by
 refine hfx (nt:=44) Tryz.func112 ?_;have hA:cu .and .u32 ((asI c.cx).fdiv (2^(min c.a IntKind.u32.bits))) 1=1<->c.cx.getLsbD c.a=true:=ade (s:=c.cx) ha;have hB:0<=c.b->(cu .and .u32 ((asI c.cx).fdiv (2^(min c.b.toNat IntKind.u32.bits))) 1=1<->c.cx.getLsbD c.b.toNat=true):=fun h=>ade (s:=c.cx) (i:=c.b.toNat) bpw;refine sx7 ?_;refine m9 0 ?_;refine w_9 ?_;refine am rfl rfl ?_ ?_<;>intro r0
 ·
  have h0:=tz1 r0;(iterate 7 refine k9 (gtf r0) ?_);refine w_2 ?_;(iterate 12 refine k9 rfl ?_);refine w_8 ?_;refine am rfl rfl ?_ ?_<;>intro r1
  ·
   have h1:=dc r1;(iterate 2 refine qy ?_ (hg:=(gtt r1)));refine qcx a6o (ah1 l c) ?_ (hg:=(gtt r1));refine qy ?_ (hg:=(gtt r1));refine w_2 ?_;refine aw _ rfl ?_ ?_<;>intro r2
   ·
    have h2:=dc (bp r1 r2);have hq:¬dp c/\¬c∈l:=by unfold dp;first|(simp_all;done)|(simp_all;intro;omega)|(simp_all;omega)
    have he:=ah8 hq.1 hq.2;refine w_3 ?_;refine m9 1 ?_;refine rz9 2 true ?_;refine w_2 ?_;refine⟨.inl rfl, ?_⟩
    first
     |exact⟨_,_,rfl,bpy,CoR.refl _,⟨⟨_,rfl,⟨congrArg (HV.ref 901) (by rw[he,bm2];rfl),trivial⟩⟩,⟨_,rfl,(dh he (CoP.refl _) (CoP.refl _) (CoP.refl _))⟩,trivial⟩⟩
     |exact⟨_,_,rfl,bpy,CoR.refl _,⟨⟨_,rfl,by rw[he];exact CoO.refl _⟩,⟨_,rfl,by rw[he];exact CoO.refl _⟩,trivial⟩⟩
   have h2:=df (bp r1 r2);have hq:dp c\/c∈l:=by unfold dp;first|(simp_all;done)|(simp_all;intro;omega)|(simp_all;omega)
   have he:=a02 hq;refine ej ?_;refine⟨.inl rfl, ?_⟩
   first
    |exact⟨_,_,rfl,bpy,CoR.refl _,⟨⟨_,rfl,⟨congrArg (HV.ref 901) (by rw[he,bm2];rfl),trivial⟩⟩,⟨_,rfl,(dh he (CoP.refl _) (CoP.refl _) (CoP.refl _))⟩,trivial⟩⟩
    |exact⟨_,_,rfl,bpy,CoR.refl _,⟨⟨_,rfl,by rw[he];exact CoO.refl _⟩,⟨_,rfl,by rw[he];exact CoO.refl _⟩,trivial⟩⟩
  have h1:=df r1;have hq:dp c\/c∈l:=by unfold dp;first|(simp_all;done)|(simp_all;intro;omega)|(simp_all;omega)
  have he:=a02 hq;(iterate 4 refine k9 (gft r1) ?_);refine w_4 ?_;refine⟨.inl rfl, ?_⟩
  first
   |exact⟨_,_,rfl,bpy,CoR.refl _,⟨⟨_,rfl,⟨congrArg (HV.ref 901) (by rw[he,bm2];rfl),trivial⟩⟩,⟨_,rfl,(dh he (CoP.refl _) (CoP.refl _) (CoP.refl _))⟩,trivial⟩⟩
   |exact⟨_,_,rfl,bpy,CoR.refl _,⟨⟨_,rfl,by rw[he];exact CoO.refl _⟩,⟨_,rfl,by rw[he];exact CoO.refl _⟩,trivial⟩⟩
 have h0:=tz2 r0;(iterate 7 refine qy ?_ (hg:=(gff r0)));refine w_2 ?_;refine am rfl rfl ?_ ?_<;>intro r3
 ·
  have h3:=tz1 (ca r0 r3);(iterate 4 refine k9 (gtf r3) ?_);(iterate 7 refine k9 rfl ?_);refine k9 (gtf r3) ?_;refine w_8 ?_;refine am rfl rfl ?_ ?_<;>intro r4
  ·
   have h4:=dc r4;(iterate 2 refine qy ?_ (hg:=(gtt r4)));refine qcx a6o (ah1 l c) ?_ (hg:=(gtt r4));refine qy ?_ (hg:=(gtt r4));refine w_2 ?_;refine aw _ rfl ?_ ?_<;>intro r5
   ·
    have h5:=dc (bp r4 r5);have hq:¬dp c/\¬c∈l:=by unfold dp;first|(simp_all;done)|(simp_all;intro;omega)|(simp_all;omega)
    have he:=ah8 hq.1 hq.2;refine w_3 ?_;refine m9 3 ?_;refine rz9 4 true ?_;refine w_2 ?_;refine⟨.inl rfl, ?_⟩
    first
     |exact⟨_,_,rfl,bpy,CoR.refl _,⟨⟨_,rfl,⟨congrArg (HV.ref 901) (by rw[he,bm2];rfl),trivial⟩⟩,⟨_,rfl,(dh he (CoP.refl _) (CoP.refl _) (CoP.refl _))⟩,trivial⟩⟩
     |exact⟨_,_,rfl,bpy,CoR.refl _,⟨⟨_,rfl,by rw[he];exact CoO.refl _⟩,⟨_,rfl,by rw[he];exact CoO.refl _⟩,trivial⟩⟩
   have h5:=df (bp r4 r5);have hq:dp c\/c∈l:=by unfold dp;first|(simp_all;done)|(simp_all;intro;omega)|(simp_all;omega)
   have he:=a02 hq;refine ej ?_;refine⟨.inl rfl, ?_⟩
   first
    |exact⟨_,_,rfl,bpy,CoR.refl _,⟨⟨_,rfl,⟨congrArg (HV.ref 901) (by rw[he,bm2];rfl),trivial⟩⟩,⟨_,rfl,(dh he (CoP.refl _) (CoP.refl _) (CoP.refl _))⟩,trivial⟩⟩
    |exact⟨_,_,rfl,bpy,CoR.refl _,⟨⟨_,rfl,by rw[he];exact CoO.refl _⟩,⟨_,rfl,by rw[he];exact CoO.refl _⟩,trivial⟩⟩
  have h4:=df r4;have hq:dp c\/c∈l:=by unfold dp;first|(simp_all;done)|(simp_all;intro;omega)|(simp_all;omega)
  have he:=a02 hq;(iterate 4 refine k9 (gft r4) ?_);refine w_4 ?_;refine⟨.inl rfl, ?_⟩
  first
   |exact⟨_,_,rfl,bpy,CoR.refl _,⟨⟨_,rfl,⟨congrArg (HV.ref 901) (by rw[he,bm2];rfl),trivial⟩⟩,⟨_,rfl,(dh he (CoP.refl _) (CoP.refl _) (CoP.refl _))⟩,trivial⟩⟩
   |exact⟨_,_,rfl,bpy,CoR.refl _,⟨⟨_,rfl,by rw[he];exact CoO.refl _⟩,⟨_,rfl,by rw[he];exact CoO.refl _⟩,trivial⟩⟩
 have h3:=tz2 (ca r0 r3);(iterate 4 refine qy ?_ (hg:=(gff r3)));refine am rfl rfl ?_ ?_<;>intro r6
 ·
  have h6:=tz1 r6;(iterate 7 refine qy ?_ (hg:=(gtt r6)));refine qy ?_ (hg:=(gff r3));refine w_8 ?_;refine am rfl rfl ?_ ?_<;>intro r7
  ·
   have h7:=tz2 (bp r6 (ca r3 (dc r7)));(iterate 2 refine qy ?_ (hg:=(gtt r7)));refine qcx a6o (ah1 l c) ?_ (hg:=(gtt r7));refine qy ?_ (hg:=(gtt r7));refine w_2 ?_;refine aw _ rfl ?_ ?_<;>intro r8
   ·
    have h8:=dc (bp r7 r8);have hq:¬dp c/\¬c∈l:=by unfold dp;first|(simp_all;done)|(simp_all;intro;omega)|(simp_all;omega)
    have he:=ah8 hq.1 hq.2;refine w_3 ?_;refine m9 5 ?_;refine rz9 6 true ?_;refine w_2 ?_;refine⟨.inl rfl, ?_⟩
    first
     |exact⟨_,_,rfl,bpy,CoR.refl _,⟨⟨_,rfl,⟨congrArg (HV.ref 901) (by rw[he,bm2];rfl),trivial⟩⟩,⟨_,rfl,(dh he (CoP.refl _) (CoP.refl _) (CoP.refl _))⟩,trivial⟩⟩
     |exact⟨_,_,rfl,bpy,CoR.refl _,⟨⟨_,rfl,by rw[he];exact CoO.refl _⟩,⟨_,rfl,by rw[he];exact CoO.refl _⟩,trivial⟩⟩
   have h8:=df (bp r7 r8);have hq:dp c\/c∈l:=by unfold dp;first|(simp_all;done)|(simp_all;intro;omega)|(simp_all;omega)
   have he:=a02 hq;refine ej ?_;refine⟨.inl rfl, ?_⟩
   first
    |exact⟨_,_,rfl,bpy,CoR.refl _,⟨⟨_,rfl,⟨congrArg (HV.ref 901) (by rw[he,bm2];rfl),trivial⟩⟩,⟨_,rfl,(dh he (CoP.refl _) (CoP.refl _) (CoP.refl _))⟩,trivial⟩⟩
    |exact⟨_,_,rfl,bpy,CoR.refl _,⟨⟨_,rfl,by rw[he];exact CoO.refl _⟩,⟨_,rfl,by rw[he];exact CoO.refl _⟩,trivial⟩⟩
  have h7:=tz1 (bp r6 (ca r3 (df r7)));have hq:dp c\/c∈l:=by unfold dp;first|(simp_all;done)|(simp_all;intro;omega)|(simp_all;omega)
  have he:=a02 hq;(iterate 4 refine k9 (gft r7) ?_);refine w_4 ?_;refine⟨.inl rfl, ?_⟩
  first
   |exact⟨_,_,rfl,bpy,CoR.refl _,⟨⟨_,rfl,⟨congrArg (HV.ref 901) (by rw[he,bm2];rfl),trivial⟩⟩,⟨_,rfl,(dh he (CoP.refl _) (CoP.refl _) (CoP.refl _))⟩,trivial⟩⟩
   |exact⟨_,_,rfl,bpy,CoR.refl _,⟨⟨_,rfl,by rw[he];exact CoO.refl _⟩,⟨_,rfl,by rw[he];exact CoO.refl _⟩,trivial⟩⟩
 have h6:=tz2 r6;(iterate 7 refine k9 (gft r6) ?_);refine rq rfl rfl rfl rfl (gff r3) ?_ (hp:=r6);refine w_8 ?_;refine am rfl rfl ?_ ?_<;>intro r9
 ·
  have h9:=ca r3 (dc r9);(iterate 2 refine qy ?_ (hg:=(gtt r9)));refine qcx a6o (ah1 l c) ?_ (hg:=(gtt r9));refine qy ?_ (hg:=(gtt r9));refine w_2 ?_;refine aw _ rfl ?_ ?_<;>intro r10
  ·
   have h10:=dc (bp r9 r10);have hq:¬dp c/\¬c∈l:=by unfold dp;first|(simp_all;done)|(simp_all;intro;omega)|(simp_all;omega)
   have he:=ah8 hq.1 hq.2;refine w_3 ?_;refine m9 7 ?_;refine rz9 8 true ?_;refine w_2 ?_;refine⟨.inl rfl, ?_⟩
   first
    |exact⟨_,_,rfl,bpy,CoR.refl _,⟨⟨_,rfl,⟨congrArg (HV.ref 901) (by rw[he,bm2];rfl),trivial⟩⟩,⟨_,rfl,(dh he (CoP.refl _) (CoP.refl _) (CoP.refl _))⟩,trivial⟩⟩
    |exact⟨_,_,rfl,bpy,CoR.refl _,⟨⟨_,rfl,by rw[he];exact CoO.refl _⟩,⟨_,rfl,by rw[he];exact CoO.refl _⟩,trivial⟩⟩
  have h10:=df (bp r9 r10);have hq:dp c\/c∈l:=by unfold dp;first|(simp_all;done)|(simp_all;intro;omega)|(simp_all;omega)
  have he:=a02 hq;refine ej ?_;refine⟨.inl rfl, ?_⟩
  first
   |exact⟨_,_,rfl,bpy,CoR.refl _,⟨⟨_,rfl,⟨congrArg (HV.ref 901) (by rw[he,bm2];rfl),trivial⟩⟩,⟨_,rfl,(dh he (CoP.refl _) (CoP.refl _) (CoP.refl _))⟩,trivial⟩⟩
   |exact⟨_,_,rfl,bpy,CoR.refl _,⟨⟨_,rfl,by rw[he];exact CoO.refl _⟩,⟨_,rfl,by rw[he];exact CoO.refl _⟩,trivial⟩⟩
 have h9:=ca r3 (df r9);have hq:dp c\/c∈l:=by unfold dp;first|(simp_all;done)|(simp_all;intro;omega)|(simp_all;omega)
 have he:=a02 hq;(iterate 4 refine k9 (gft r9) ?_);refine w_4 ?_;refine⟨.inl rfl, ?_⟩
 first
  |exact⟨_,_,rfl,bpy,CoR.refl _,⟨⟨_,rfl,⟨congrArg (HV.ref 901) (by rw[he,bm2];rfl),trivial⟩⟩,⟨_,rfl,(dh he (CoP.refl _) (CoP.refl _) (CoP.refl _))⟩,trivial⟩⟩
  |exact⟨_,_,rfl,bpy,CoR.refl _,⟨⟨_,rfl,by rw[he];exact CoO.refl _⟩,⟨_,rfl,by rw[he];exact CoO.refl _⟩,trivial⟩⟩
def b9k:a6 bqh 57:=wgx Tryz.func57
def bet(X Y:List Nat)(hX:∀a∈X,a<16)(hY:∀a∈Y,a<16)(hX8:X.length<=8)(hY8:Y.length<=8):a7 bqh 57 [wj X Y] (af [pP (wo (wu (ai X) (ai Y) (gt (ai Y)))),pI 0]):=by
 refine hpx (nt:=74) Tryz.func57 ?_;have hx16:∀a∈(ai X),a<16:=fun a ha=>hX a (po.1 ha);have hy16:∀a∈(ai Y),a<16:=fun a ha=>hY a (po.1 ha);have hxl:=bme (ut (l:=X)) hX8;have hyl:=bme (ut (l:=Y)) hY8;have hsl:=ayq (l:=(ai Y));have h32:∀a∈(ai X),a<32:=fun a ha=>by have:=hx16 a ha;omega
 refine sx7 ?_;refine m9 0 ?_;refine w_7 ?_;refine qcx a4x (aay 16 X Y hX hY hX8 hY8) ?_;refine w_8 ?_;refine qcx a7t (ab1 X hX8) ?_;refine w_2 ?_;refine qcx a7t (ab1 Y hY8) ?_;refine w_6 ?_;refine m9 1 ?_;refine eu ?_;refine qcx b63 (bd9 (ai Y)) ?_;refine qcx b20 (b64 (ai Y) b2b bpw) ?_;refine w_4 ?_;refine ik 1 0 900 true 3 136 (lf Can.c []) bq4 rfl rfl (CoP.sl rfl (.inr rfl) (fun h=>h) (fun i j hi _=>absurd hi (bm6 i))) (.inr rfl) rfl rfl ?_;refine c7 (ka 4 (ka 5 (ka 6 (ka 7 (ka 26 (ka 27 kn)))))) km (fun i=>⟨[(28,some (vI i))],[(1,some (.box [.ref 900 (uj (ai X) (gt (ai Y)) i).length])),(900,some (.arr true 3 136 (uj (ai X) (gt (ai Y)) i).length (lf Can.c (uj (ai X) (gt (ai Y)) i))))]⟩) ((gt (ai Y)).length) kk ?_;rintro i hi;refine w_5 ?_;refine hcd ?_ ?_<;>intro h0
 ·
  have hil:i<(gt (ai Y)).length:=by omega
  have hs16:(gt (ai Y)).getD i default<16:=hy16 _ (a9v.1 (by rw[al _ _ hil];exact bma _));have hpl:=ahj (X:=(ai X)) (Nat.le_of_lt hil);refine l6 ?_;refine qcx ae9 (are (ai X) h32) ?_;refine w_2 ?_;refine fc9 aoc (((bbc (uj (ai X) (gt (ai Y)) i) (cnY (ai X) ((gt (ai Y)).getD i default)) (by show(gt (ai Y)).getD i default<32;omega) (by show(-1:Int)<=-1;omega) (by show(-1:Int)<32;omega) bpw).swap 1000 1).swap 901 900) uu ?_;refine w_5 ?_;exact lpx (i+1) ⟨tt,⟨⟨_,rfl,(by rw[a5f hil];exact CoO.refl _)⟩,⟨_,rfl,(by rw[a5f hil];exact CoO.refl _)⟩,trivial⟩⟩
 obtain rfl:i=(gt (ai Y)).length:=by omega
 refine w_9 ?_;refine c7 (ka 4 (ka 5 (ka 6 (ka 7 (ka 39 (ka 40 kn)))))) km (fun i=>⟨[(41,some (vI i))],[(1,some (.box [.ref 900 (nb (ai X) (ai Y) (gt (ai Y)) i 0).length])),(900,some (.arr true 3 136 (nb (ai X) (ai Y) (gt (ai Y)) i 0).length (lf Can.c (nb (ai X) (ai Y) (gt (ai Y)) i 0))))]⟩) ((ai X).length) ⟨tt,⟨⟨_,rfl,(by rw[<- ai3];exact CoO.refl _)⟩,⟨_,rfl,(by rw[<- ai3];exact CoO.refl _)⟩,trivial⟩⟩ ?_;rintro i hi;refine w_5 ?_;refine hcd ?_ ?_<;>intro h1
 ·
  have hil:i<(ai X).length:=by omega
  refine aam ?_;refine c7 (ka 4 (ka 5 (ka 6 (ka 7 (ka 10 (ka 11 (ka 39 (ka 40 (ka 41 (ka 46 (ka 47 kn))))))))))) km (fun k=>⟨[(48,some (vI k))],[(1,some (.box [.ref 900 (nb (ai X) (ai Y) (gt (ai Y)) i k).length])),(900,some (.arr true 3 136 (nb (ai X) (ai Y) (gt (ai Y)) i k).length (lf Can.c (nb (ai X) (ai Y) (gt (ai Y)) i k))))]⟩) ((ai Y).length) kk ?_;rintro k hk;refine w_5 ?_;refine hcd ?_ ?_<;>intro h2
  ·
   have hkl:k<(ai Y).length:=by omega
   have hxi:(ai X).getD i default<16:=hx16 _ (by rw[al _ _ hil];exact bma _);have hyk:(ai Y).getD k default<16:=hy16 _ (by rw[al _ _ hkl];exact bma _);have hmn:(if(((ai Y).getD k default:Nat):Int)<(((ai X).getD i default:Nat):Int) then(((ai Y).getD k default:Nat):Int) else(((ai X).getD i default:Nat):Int))=(((gi (ai X) (ai Y) i k).a:Nat):Int):=by unfold gi;dsimp only;split<;>omega
   have hmx:(if(((ai X).getD i default:Nat):Int)<(((ai Y).getD k default:Nat):Int) then(((ai Y).getD k default:Nat):Int) else(((ai X).getD i default:Nat):Int))=(gi (ai X) (ai Y) i k).b:=by unfold gi;dsimp only;split<;>omega
   have hca:(gi (ai X) (ai Y) i k).a<32:=by unfold gi;dsimp only;omega
   have hcb:-1<=(gi (ai X) (ai Y) i k).b:=by unfold gi;dsimp only;omega
   have hcb2:(gi (ai X) (ai Y) i k).b<32:=by unfold gi;dsimp only;omega
   have hpl:=ayt (X:=(ai X)) (Y:=(ai Y)) (S:=(gt (ai Y))) (i:=i) (k:=k) bpw bpw hyl bpw;refine tg ?_;refine rc rfl rfl rfl rfl rfl rfl ae9 (are ((ai X).take i) (fun a ha=>h32 a (bo6 ha))) (⟨CoC.one (a91 bpw bpw),trivial⟩) rfl rfl ?_;refine w_3 ?_;refine rc rfl rfl rfl rfl rfl rfl ae9 (are ((ai Y).take k) (fun a ha=>by have:=hy16 a (bo6 ha);omega)) (⟨CoC.one (a91 bpw bpw),trivial⟩) rfl rfl ?_;refine w_8 ?_;refine nj rfl rfl rfl rfl rfl rfl aoc (((bbc (nb (ai X) (ai Y) (gt (ai Y)) i k) (gi (ai X) (ai Y) i k) hca hcb hcb2 bpw).swap 1000 1).swap 901 900) (⟨⟨CoP.of_eq (congrArg (fun z=>PV.raw (.int .u32 z)) (bOr _ _)),CoP.of_eq (congrArg (fun z=>PV.raw (.int .i64 z)) hmn),CoP.of_eq (congrArg (fun z=>PV.raw (.int .i64 z)) hmx),trivial⟩,CoH.refl (HV.ptr 1 0),trivial⟩) uu rfl rfl ?_;refine w_6 ?_;exact lpx (k+1) ⟨tt,⟨⟨_,rfl,(by rw[afz];exact CoO.refl _)⟩,⟨_,rfl,(by rw[afz];exact CoO.refl _)⟩,trivial⟩⟩
  obtain rfl:k=(ai Y).length:=by omega
  refine w_5 ?_;exact lpx (i+1) ⟨tt,⟨⟨_,rfl,(by rw[<- aiv];exact CoO.refl _)⟩,⟨_,rfl,(by rw[<- aiv];exact CoO.refl _)⟩,trivial⟩⟩
 obtain rfl:i=(ai X).length:=by omega
 refine w_7 ?_;refine be 2 rfl rfl rfl ?_;exact hx8 rfl rfl rfl (⟨CoC.of_eq (by rw[ayc];rfl),CoC.refl _,trivial⟩)
end
end
section
section
variable {i:Nat}
theorem a15 (h:i<4294967296):asI (nA i)=(i:Int):=by
 show(((BitVec.ofNat 32 i).toNat:Nat):Int)=i
 grind
variable {n:Nat}
theorem b1b (h1:n<=16):IntKind.wrap .u32 (1*2^(min n IntKind.u32.bits))=((2^n:Nat):Int):=by
 have h2:2^n<=2^16:=bol bpw h1;rw[show IntKind.wrap .u32 (1*2^(min n IntKind.u32.bits))=asI ((1:AS)<<<n) from a30 1 n];show(((1:AS)<<<n).toNat:Int)=_;rw[BitVec.toNat_shiftLeft,Nat.shiftLeft_eq]
 grind
def aat(h:n<=16):2^n<=65536:=bol bpw h
variable {k:Nat}
theorem aau {n:Int} (h:((bsz (nA i):Nat):Int)=(k:Int)):vb n k (i+1)=vb n k i++[nA i]:=by
 unfold vb;rw[bmk,bn7,bn4]
 grind
theorem abq {n:Int} (h:¬((bsz (nA i):Nat):Int)=(k:Int)):vb n k (i+1)=vb n k i:=by
 unfold vb;rw[bmk,bn7,bn4]
 grind
theorem alb {n:Int}:(vb n k i).length<=i:=by
 unfold vb
 grind
abbrev b0b(rk:List Int)(n:Nat):PC:=.agg [.raw (.int .i64 (n:Int)),zl rk]
theorem a5g (h:i<4294967296):(nA i).toNat=i:=by
 unfold nA
 grind
variable {s:AS}
def ang (h:s.toNat<2^n):∀z,s.getLsbD z=true->z<n:=fun z hz=>by
 rw[<- BitVec.testBit_toNat]at hz
 exact bpl fun hn=>by
  have:=Nat.ge_two_pow_of_testBit hz;have:=bol (show 0<2 by omega) hn;omega
theorem a78 (h:∀z,s.getLsbD z=true->z<n):s.toNat<2^n:=by
 refine Nat.lt_pow_two_of_testBit _ fun i hi=>?_;rw[BitVec.testBit_toNat,bmh]
 grind
variable {a:Nat}
def b8q (hs:s.toNat<2^n) (ha:a<n) (hn:n<=32):(s|||((1:AS)<<<a)).toNat<2^n:=a78 fun z hz=>by
 have hz32:z<32:=BitVec.lt_of_getLsbD hz;rw[bpb,o5 a z hz32,bnf,decide_eq_true_eq]at hz
 rcases hz with h|h
 · exact ang hs z h
 omega
def b40 (hn:n<=16) (hi:i<(ji n k).length):((ji n k).getD i default).toNat<2^n:=by
 rw[al _ _ hi];have hm:=bma hi;unfold ji vb at hm;obtain⟨h1,_⟩:=bnl.1 hm;obtain⟨j,hj,e⟩:=bml.1 h1;have hj:=bmm.1 hj;have:=aat hn;rw[show(ji n k)[i]=nA j from e.symm,a5g bpw];exact hj
def am7(hn:n<=16):(ji n k).length<=65536:=bme alb (aat hn)
theorem b8h {j:Nat} (h:j<32):cu .and .u32 ((asI s).fdiv (2^(min j IntKind.u32.bits))) 1=1<->s.getLsbD j=true:=by
 have e1:(asI s).fdiv (2^(min j IntKind.u32.bits))=asI (s>>>j):=by
  rw[show min j IntKind.u32.bits=j from bne (show j<=32 by omega)];show((s.toNat:Int)).fdiv _=(((s>>>j).toNat:Nat):Int);rw[show(2:Int)^j=((2^j:Nat):Int) by simp,bop _ (bni _),<- bpu,boi,boc]
 have hb:cu .and .u32 ((asI s).fdiv (2^(min j IntKind.u32.bits))) 1=asI ((s>>>j)&&&1):=by rw[e1,show(1:Int)=asI 1 from rfl,yu]
 have hv:(s>>>j)&&&1=if s.getLsbD j=true then 1 else 0:=by
  grind
 grind
variable {out:List AS}{rk:List Int}
def a9t {j:Nat} (hj:j<(ji n k).length):mnK rk n a out k (j+1)=mnA rk a (mnK rk n a out k j) ((ji n k).getD j default):=by
 unfold mnK;rw[ax hj,bmo];rfl
def aa6:mnT rk n a (k+1)=mnK rk n a (mnT rk n a k) k (ji n k).length:=by
 unfold mnT;rw[bmk,bmo];rfl
theorem b27:(mnA rk a out s).length<=out.length+1:=by
 unfold mnA
 grind
def aey:∀{j:Nat},j<=(ji n k).length->(mnK rk n a out k j).length<=out.length+j
 |0,_=>bm1 _
 | j+1,hj=>by
  rw[a9t hj];have:(mnK rk n a out k j).length<=out.length+j:=aey bpw;have:=b27 (rk:=rk) (a:=a) (out:=mnK rk n a out k j) (s:=(ji n k).getD j default);omega
def aol (hn:n<=16):∀{k:Nat},(mnT rk n a k).length<=65536*k
 |0=>bm1 _
 | k+1=>by
  rw[aa6];have:(mnT rk n a k).length<=65536*k:=aol hn;have:=aey (rk:=rk) (n:=n) (a:=a) (k:=k) (out:=mnT rk n a k) (bm1 _);have:=am7 (k:=k) hn;omega
def zu{j:Nat}(hj:j<(ji n k).length)(h:mnA rk a (mnK rk n a out k j) ((ji n k).getD j default)=mnK rk n a out k j++[(ji n k).getD j default]):mnK rk n a out k (j+1)=mnK rk n a out k j++[(ji n k).getD j default]:=(a9t hj).trans h
def a04{j:Nat}(hj:j<(ji n k).length)(h:mnA rk a (mnK rk n a out k j) ((ji n k).getD j default)=mnK rk n a out k j):mnK rk n a out k (j+1)=mnK rk n a out k j:=(a9t hj).trans h
def zk(ha:a<32)(h:cu .and .u32 ((asI s).fdiv (2^(min a IntKind.u32.bits))) 1=1):mnA rk a out s=out:=if_pos (.inl ((b8h ha).1 h))
def a00(h:(out.any fun m=>decide (sub m s))=true):mnA rk a out s=out:=if_pos (.inr (.inl h))
def zn(h:aqi rk s a=false):mnA rk a out s=out:=if_pos (.inr (.inr h))
theorem a4g (ha:a<32) (h1:¬cu .and .u32 ((asI s).fdiv (2^(min a IntKind.u32.bits))) 1=1) (h2:(out.any fun m=>decide (sub m s))=false) (h3:aqi rk s a=true):mnA rk a out s=out++[s]:=if_neg (by
 rintro(h|h|h)
 · exact h1 ((b8h ha).2 h)
 · grind
 rw[h3]at h;cases h)
end
end
section
open Go.Proofs
structure kr (n:Nat) (c:Can):Prop where
 ha:c.a<n
 hb1:-1<=c.b
 hb:c.b<n
 cx:∀z,c.cx.getLsbD z=true->z<n
def kr.zero {n:Nat} {c:Can} (h:kr n c) (hn:n<32):(asI c.cx).fdiv (2^(min n IntKind.u32.bits))=0:=by
 have hl:c.cx.toNat<2^n:=a78 h.cx;rw[show min n IntKind.u32.bits=n from bne (by show n<=32;omega),bop _ (Int.le_of_lt (Int.pow_pos bq4))];unfold asI;rw[show(2:Int)^n=((2^n:Nat):Int) by simp,<- bpu,Nat.div_eq_of_lt hl];rfl
def t8(x:AS)(i:Nat):List Nat:=(List.range i).filter fun a=>x.getLsbD a
section
variable {x:AS}
def acd {i:Nat} (h:x.getLsbD i=true):t8 x (i+1)=t8 x i++[i]:=by
 unfold t8;rw[bmk,bn4];simp[h]
def abh {i:Nat} (h:x.getLsbD i=false):t8 x (i+1)=t8 x i:=by
 unfold t8;rw[bmk,bn4];simp[h]
def aza{i:Nat}:(t8 x i).length<=i:=bme (bnm _ _) bpz
def apn{n:Nat}:∀a∈t8 x n,a<n:=fun a ha=>bmm.1 (bnl.1 ha).1
def an1 {n:Nat} {r s:Row}:bh r s (t8 x n)=0<->agX n r s x:=by
 rw[oq];unfold agX t8;simp only[bnl,bmm,and_imp]
def adz {t:Tbl} {c:Can} {i k:Nat} (hik:i<k) (hk:k<t.rows.length) (ha:agX t.attrs.length (t.rows.getD i default) (t.rows.getD k default) c.cx) (h:¬fy (t.rows.getD i default) (t.rows.getD k default) c):fk t c=false :=
 b8y.2 fun hp=>h (a2h.1 hp i k hik hk ha)
def ayd {t:Tbl} {c:Can} (h:∀i,i<t.rows.length->∀k,i<k->k<t.rows.length->agX t.attrs.length (t.rows.getD i default) (t.rows.getD k default) c.cx->fy (t.rows.getD i default) (t.rows.getD k default) c):fk t c=true :=
 ni.2 (a2h.2 fun i k hik hk=>h i bpw k hik hk)
def rg{r s:Row}{c:Can}:fy r s c<->¬((c.b<0/\¬cmA r s c.a=0)\/(0<=c.b/\cmA r s c.a*cmA r s c.b.toNat<0)):=by
 unfold fy;split
 · constructor
   · rintro h (⟨_,h2⟩|⟨h2,_⟩)
     · exact h2 h
     omega
   intro h;by_cases h2:cmA r s c.a=0
   · exact h2
   exact absurd (.inl ⟨by assumption,h2⟩) h
 constructor
 · rintro h (⟨h2,_⟩|⟨_,h2⟩)
   · omega
   exact h h2
 exact fun h h2=>h (.inr ⟨by omega,h2⟩)
def b23:a6 bqh 216:=wgx Tryz.func216
def bek(n:Nat)(c:Can)(h:kr n c)(hn:n<32):a7 bqh 216 [pI n,pP (.vp 3 fun j=>[c.c 0,c.c 1,c.c 2].getD j .any)] (af [pB true]):=by
 refine hpx (nt:=31) Tryz.func216 ?_;have h1:=h.ha;have h2:=h.hb1;have h3:=h.hb;have h4:=h.zero hn;refine eu ?_;refine am rfl rfl ?_ ?_<;>intro r0
 ·
  have h0:=tz1 r0;(iterate 4 refine qy ?_ (hg:=(gtt r0)));refine w_2 ?_;refine am rfl rfl ?_ ?_<;>intro r1
  ·
   have h1:=tz1 (bp r0 r1);(iterate 3 refine qy ?_ (hg:=(gtt r1)));refine w_2 ?_;refine am rfl rfl ?_ ?_<;>intro r2
   ·
    have h2:=tz1 (bp r1 r2);(iterate 4 refine qy ?_ (hg:=(gtt r2)));refine w_2 ?_;refine am rfl rfl ?_ ?_<;>intro r3
    ·
     have h3:=tz1 (bp r2 r3);(iterate 5 refine qy ?_ (hg:=(gtt r3)));refine w_3 ?_
     exact hx8 rfl rfl rfl (⟨ccb (by simp_all),trivial⟩)
    have h3:=tz2 (bp r2 r3);exfalso
    first|omega|simp_all|(simp_all;omega)
   have h2:=tz2 (bp r1 r2);exfalso
   first|omega|simp_all|(simp_all;omega)
  have h1:=tz2 (bp r0 r1);exfalso
  first|omega|simp_all|(simp_all;omega)
 have h0:=tz2 r0;exfalso
 first|omega|simp_all|(simp_all;omega)
def b56:a6 bqh 178:=wgx Tryz.func178
def bg5(t:Tbl)(c:Can)(hT:TOk t)(hc:kr t.attrs.length c):a7 bqh 178 [t.pc,c.pc] (af [pB (fk t c),pI 0]):=by
 refine hpx (nt:=107) Tryz.func178 ?_;have hnr:=hT.nr;have hna:=hT.na;have h1:=hc.ha;have h2:=hc.hb1;have h3:=hc.hb;refine sx7 ?_;refine m9 0 ?_;refine m9 1 ?_;refine w_4 ?_;refine c8 3 rfl rfl rfl ?_;refine w_9 ?_;refine qcx ahh (aqg t 216 1 (fun j=>[PV.vp 3 fun j=>[c.c 0,c.c 1,c.c 2].getD j .any].getD j .any) b23 hT (bek t.attrs.length c hc bpw)) ?_;refine arw ?_;refine cr 8 900 true 1 3 (lf iC []) bq4 rfl (CoP.sl rfl (.inr rfl) (fun h=>h) (fun i j hi _=>absurd hi (bm6 i))) (.inr rfl) rfl ?_;refine c7 (ka 2 (ka 3 (ka 24 kn))) (kb 0 km) (fun a=>⟨[(8,some (.v (.one (.ref 900 (t8 c.cx a).length)))),(25,some (vI a))],[(900,some (.arr true 1 3 (t8 c.cx a).length (lf iC (t8 c.cx a))))]⟩) t.attrs.length kk ?_;rintro a hal0;have hlen:=aza (x:=c.cx) (i:=a);refine w_5 ?_;refine hcd ?_ ?_<;>intro h0
 ·
  have hal:a<t.attrs.length:=by omega
  have hbt:=ade (s:=c.cx) (show a<32 by omega);refine sb ?_;refine hcd ?_ ?_<;>intro h1
  ·
   have hq:c.cx.getLsbD a=true:=hbt.1 h1;refine w_3 ?_;refine m9 2 ?_;refine rz9 3 true ?_;refine w_6 ?_
   first | (refine lpz (a+1) ⟨⟨⟨_, rfl, (bj (acd hq))⟩, tt⟩, ⟨⟨_, rfl, (bm (acd hq) (CoP.refl _))⟩, uu⟩⟩ ?_; show a+1<=_; omega)
         |(refine lpz (a+1) ⟨⟨⟨_,rfl,(bo (abh hq))⟩,tt⟩,⟨⟨_,rfl,(bf (abh hq))⟩,uu⟩⟩ ?_;show a+1<=_;omega)
  have hq:c.cx.getLsbD a=false:=by cases hx:c.cx.getLsbD a with|false=>rfl|true=>exact absurd (hbt.2 hx) h1
  refine w_5 ?_
  first | (refine lpz (a+1) ⟨⟨⟨_, rfl, (bj (acd hq))⟩, tt⟩, ⟨⟨_, rfl, (bm (acd hq) (CoP.refl _))⟩, uu⟩⟩ ?_; show a+1<=_; omega)
        |(refine lpz (a+1) ⟨⟨⟨_,rfl,(bo (abh hq))⟩,tt⟩,⟨⟨_,rfl,(bf (abh hq))⟩,uu⟩⟩ ?_;show a+1<=_;omega)
 obtain rfl:a=t.attrs.length:=by omega
 refine w_3 ?_;refine be 8 rfl rfl rfl ?_;refine c8 2 rfl rfl rfl ?_;refine w_7 ?_;refine ar (ι:=Nat) (ka 2 (ka 3 (ka 8 (ka 40 (ka 41 kn))))) km (fun i=>⟨[(42,some (vI i))],[]⟩) (fun i=>i<=t.rows.length/\∀p,p<i->∀q,p<q->q<t.rows.length->agX t.attrs.length (t.rows.getD p default) (t.rows.getD q default) c.cx->fy (t.rows.getD p default) (t.rows.getD q default) c) (fun i=>t.rows.length-i) (0) (⟨bm3 _,fun p hp=>absurd hp (bm6 p)⟩) kk ?_;rintro i ⟨hi,hI⟩;refine w_5 ?_;refine hcd ?_ ?_<;>intro h2
 ·
  have hir:i<t.rows.length:=by omega
  refine w_8 ?_;refine m9 4 ?_;refine nc ?_;refine ar (ι:=Nat) (ka 2 (ka 3 (ka 8 (ka 11 (ka 40 (ka 41 (ka 42 (ka 51 (ka 52 kn))))))))) (kb 4 km) (fun k=>⟨[(53,some (vI k))],[]⟩) (fun k=>k<=t.rows.length/\∀q,q<k->i+1+q<t.rows.length->agX t.attrs.length (t.rows.getD i default) (t.rows.getD (i+1+q) default) c.cx->fy (t.rows.getD i default) (t.rows.getD (i+1+q) default) c) (fun k=>t.rows.length-k) (0) (⟨bm3 _,fun q hq=>absurd hq (bm6 q)⟩) kk ?_;rintro k ⟨hk,hK⟩;refine w_5 ?_;refine hcd ?_ ?_<;>intro h3
  ·
   have hkr:i+1+k<t.rows.length:=by have hz:=h3;simp only[eo,c5]at hz;omega
   refine w_7 ?_;refine m9 5 ?_;refine w_8 ?_;refine qcx adb (ar0 (t.rows.getD i default) (t.rows.getD (i+1+k) default) (t8 c.cx t.attrs.length) (a28 hT apn hir) (a28 hT apn hkr)) ?_;refine w_2 ?_;refine hcn ?_ ?_<;>intro h4
   ·
    have hag:¬agX t.attrs.length (t.rows.getD i default) (t.rows.getD (i+1+k) default) c.cx:=fun h=>absurd (an1.2 h) h4;refine w_5 ?_;refine lpz (k+1) kk ?_;refine⟨by show k+1<=_;omega,fun q hqk hqr=>?_⟩;by_cases hqi:q<k
    · exact hK q hqi hqr
    obtain rfl:q=k:=by omega
    first|exact fun hx=>absurd hx hag|exact fun _=>hv
   have hag:agX t.attrs.length (t.rows.getD i default) (t.rows.getD (i+1+k) default) c.cx:=an1.1 h4;refine w_7 ?_;refine rq rfl rfl rfl rfl rfl ?_ (hp:=⟨rfl,bni _,bos.2 (show c.a<(t.rows.getD i default).vals.length by rw[hT.width hir];exact h1)⟩);refine w_5 ?_;refine rq rfl rfl rfl rfl rfl ?_ (hp:=⟨rfl,bni _,bos.2 (show c.a<(t.rows.getD (i+1+k) default).vals.length by rw[hT.width hkr];exact h1)⟩);refine qy ?_;refine qcx xq (xk ((t.rows.getD i default).vals.getD c.a default) ((t.rows.getD (i+1+k) default).vals.getD c.a default)) ?_;refine w_9 ?_;refine am rfl rfl ?_ ?_<;>intro r5
   ·
    have h5:=tz1 r5;(iterate 2 refine qy ?_ (hg:=(gtt r5)));refine w_2 ?_;refine am rfl rfl ?_ ?_<;>intro r6
    ·
     have h6:=tz2 (dc (bp r5 r6));have hv:¬fy (t.rows.getD i default) (t.rows.getD (i+1+k) default) c:=by rw[rg,bou];first|(simp_all [cmA];done)|(simp_all [cmA];omega)
     (iterate 4 refine k9 (gtf r6) ?_);(iterate 16 refine k9 rfl ?_);refine k9 (gtf r6) ?_;refine w_9 ?_
     exact hx8 rfl rfl rfl (⟨ccb (adz bpw hkr hag hv).symm,CoC.refl _,trivial⟩)
    have h6:=tz1 (df (bp r5 r6));(iterate 4 refine qy ?_ (hg:=(gff r6)));refine am rfl rfl ?_ ?_<;>intro r7
    ·
     have h7:=tz1 r7;(iterate 5 refine qy ?_ (hg:=(gtt r7)));refine rq rfl rfl rfl rfl (gtt r7) ?_ (hp:=⟨rfl,by omega,(show c.b<(((t.rows.getD i default).vals.length:Nat):Int) by rw[hT.width hir];omega)⟩)
     (iterate 5 refine qy ?_ (hg:=(gtt r7)));refine rq rfl rfl rfl rfl (gtt r7) ?_ (hp:=⟨rfl,by omega,(show c.b<(((t.rows.getD (i+1+k) default).vals.length:Nat):Int) by rw[hT.width hkr];omega)⟩)
     refine qy ?_ (hg:=(gtt r7));refine qcx xq (xk ((t.rows.getD i default).vals.getD c.b.toNat default) ((t.rows.getD (i+1+k) default).vals.getD c.b.toNat default)) ?_ (hg:=(gtt r7));refine rq rfl rfl rfl rfl (gtt r7) ?_ (hp:=(by show inR .i64 (cmA (t.rows.getD i default) (t.rows.getD (i+1+k) default) c.a*cmA (t.rows.getD i default) (t.rows.getD (i+1+k) default) c.b.toNat);rcases a6s (o3 (a:=t.rows.getD i default) (b:=t.rows.getD (i+1+k) default) (i:=c.a)) (o3 (a:=t.rows.getD i default) (b:=t.rows.getD (i+1+k) default) (i:=c.b.toNat))with h|h|h<;>rw[h]<;>(simp only[inR,l8,ml];omega)));refine qy ?_ (hg:=(gtt r7));refine qy ?_ (hg:=(gff r6));refine w_3 ?_;refine aw _ rfl ?_ ?_<;>intro r8
     ·
      have h8:=tz1 (bp r7 (ca r6 r8));have hv:¬fy (t.rows.getD i default) (t.rows.getD (i+1+k) default) c:=by rw[rg,bou];first|(simp_all [cmA];done)|(simp_all [cmA];omega)
      refine v_5 ?_;exact⟨ccb (adz bpw hkr hag hv).symm,CoC.refl _,trivial⟩
     have h8:=tz2 (bp r7 (ca r6 r8));have hv:fy (t.rows.getD i default) (t.rows.getD (i+1+k) default) c:=by rw[rg];first|(simp_all [cmA];done)|(simp_all [cmA];omega)
     refine w_5 ?_;refine lpz (k+1) kk ?_;refine⟨by show k+1<=_;omega,fun q hqk hqr=>?_⟩;by_cases hqi:q<k
     · exact hK q hqi hqr
     obtain rfl:q=k:=by omega
     first|exact fun hx=>absurd hx hag|exact fun _=>hv
    have h7:=tz2 r7;have hv:fy (t.rows.getD i default) (t.rows.getD (i+1+k) default) c:=by rw[rg];first|(simp_all [cmA];done)|(simp_all [cmA];omega)
    (iterate 16 refine k9 (gft r7) ?_);refine rq rfl rfl rfl rfl (gff r6) ?_ (hp:=r7);refine w_3 ?_;refine aw _ rfl (fun e=>Bool.noConfusion ((a4q r6 rfl).symm.trans e)) (fun _=>?_);refine w_5 ?_
    refine lpz (k+1) kk ?_;refine⟨by show k+1<=_;omega,fun q hqk hqr=>?_⟩;by_cases hqi:q<k
    · exact hK q hqi hqr
    obtain rfl:q=k:=by omega
    first|exact fun hx=>absurd hx hag|exact fun _=>hv
   have h5:=tz2 r5;(iterate 2 refine k9 (gft r5) ?_);refine w_6 ?_;refine am rfl rfl ?_ ?_<;>intro r9
   ·
    have h9:=tz1 r9;(iterate 5 refine qy ?_ (hg:=(gtt r9)));refine rq rfl rfl rfl rfl (gtt r9) ?_ (hp:=⟨rfl,by omega,(show c.b<(((t.rows.getD i default).vals.length:Nat):Int) by rw[hT.width hir];omega)⟩)
    (iterate 5 refine qy ?_ (hg:=(gtt r9)));refine rq rfl rfl rfl rfl (gtt r9) ?_ (hp:=⟨rfl,by omega,(show c.b<(((t.rows.getD (i+1+k) default).vals.length:Nat):Int) by rw[hT.width hkr];omega)⟩)
    refine qy ?_ (hg:=(gtt r9));refine qcx xq (xk ((t.rows.getD i default).vals.getD c.b.toNat default) ((t.rows.getD (i+1+k) default).vals.getD c.b.toNat default)) ?_ (hg:=(gtt r9));refine rq rfl rfl rfl rfl (gtt r9) ?_ (hp:=(by show inR .i64 (cmA (t.rows.getD i default) (t.rows.getD (i+1+k) default) c.a*cmA (t.rows.getD i default) (t.rows.getD (i+1+k) default) c.b.toNat);rcases a6s (o3 (a:=t.rows.getD i default) (b:=t.rows.getD (i+1+k) default) (i:=c.a)) (o3 (a:=t.rows.getD i default) (b:=t.rows.getD (i+1+k) default) (i:=c.b.toNat))with h|h|h<;>rw[h]<;>(simp only[inR,l8,ml];omega)));refine qy ?_ (hg:=(gtt r9));refine w_4 ?_;refine aw _ rfl ?_ ?_<;>intro r10
    ·
     have h10:=tz1 (bp r9 r10);have hv:¬fy (t.rows.getD i default) (t.rows.getD (i+1+k) default) c:=by rw[rg,bou];first|(simp_all [cmA];done)|(simp_all [cmA];omega)
     refine v_5 ?_;exact⟨ccb (adz bpw hkr hag hv).symm,CoC.refl _,trivial⟩
    have h10:=tz2 (bp r9 r10);have hv:fy (t.rows.getD i default) (t.rows.getD (i+1+k) default) c:=by rw[rg];first|(simp_all [cmA];done)|(simp_all [cmA];omega)
    refine w_5 ?_;refine lpz (k+1) kk ?_;refine⟨by show k+1<=_;omega,fun q hqk hqr=>?_⟩;by_cases hqi:q<k
    · exact hK q hqi hqr
    obtain rfl:q=k:=by omega
    first|exact fun hx=>absurd hx hag|exact fun _=>hv
   have h9:=tz2 r9;have hv:fy (t.rows.getD i default) (t.rows.getD (i+1+k) default) c:=by rw[rg];first|(simp_all [cmA];done)|(simp_all [cmA];omega)
   (iterate 16 refine k9 (gft r9) ?_);refine w_4 ?_;refine aw _ rfl (fun e=>Bool.noConfusion ((a4q rfl rfl).symm.trans e)) (fun _=>?_);refine w_5 ?_;refine lpz (k+1) kk ?_
   refine⟨by show k+1<=_;omega,fun q hqk hqr=>?_⟩;by_cases hqi:q<k
   · exact hK q hqi hqr
   obtain rfl:q=k:=by omega
   first|exact fun hx=>absurd hx hag|exact fun _=>hv
  have hke:t.rows.length<=i+1+k:=by have hz:=h3;simp only[eo,c5]at hz;omega
  refine w_5 ?_;refine lpz (i+1) kk ?_;refine⟨by show i+1<=_;omega,fun p hp q hpq hq=>?_⟩;by_cases hpi:p<i
  · exact hI p hpi q hpq hq
  obtain rfl:p=i:=by omega
  have:=hK (q-(p+1)) bpw;rw[show p+1+(q-(p+1))=q by omega]at this;exact this hq
 obtain rfl:i=t.rows.length:=by omega
 refine v_6 ?_;exact⟨ccb (ayd hI).symm,CoC.refl _,trivial⟩
end
end
section
open Go.RowKit
def RMp(G:Array MapEntry->Nat->Prop):Value->(Nat->Prop)->(Nat->Option Obj)->Prop:=fun v bk h=>∃b es clock,v=.map (some b)/\bk=wk b/\h b=some (.map es clock)/\G es clock
section
variable {nt:Nat}{st:HSt}
section
variable {G:Array MapEntry->Nat->Prop}
def ax6 {Q:HSt->Prop} (mid:Nat) (ho:b6 st.o mid=some (.opq 0 0 0 (RMp G))) (h:∀b es clock,G es clock->HE nt ⟨st.t,(mid,some (mpO b es clock))::st.o⟩ Q):HE nt st Q:=fun w0 m0 a w hr=>by
 obtain⟨cc,hold,hrr⟩:=hr;obtain⟨h1,h2,b,es,clock,h3,h4,h5,h6⟩:=hrr.objs mid _ ho;have hb:cc.blk mid b:=by rw[h4];exact rfl
 have hh:w.heap[b]? = some (.map es clock):=by rw[<- h5,a23 hb]
 refine h b es clock h6 w0 m0 a w ?_
 have hw:=hrr.write mid (.opq 0 0 0 (RMp G)) ho (mpO b es clock) w (cc.own mid) (cc.blk mid) none (Grw.refl w _) (fun _ e=>by cases e)
  (.inr (.inr ⟨_,mpO b es clock,0,0,0,0,ho,rfl,by simp[S.setO],rfl,bm1 _,fun _=>by simp,fun _ _ _ _ _ _ _ hb=>by cases hb⟩)) (fun b hb=>.inl hb) ⟨by simpa using h3,by simpa using h4,(h1 b hb).1,hh,rfl⟩
 rw[<- ig]at hw;exact⟨_,(by exact hold),hw⟩
def a5q{Q:HSt->Prop}(mid:Nat)(G:Array MapEntry->Nat->Prop){b clock:Nat}{es:Array MapEntry}(ho:b6 st.o mid=some (mpO b es clock))(hG:G es clock)
 (h:HE nt ⟨st.t,(mid,some (.opq 0 0 0 (RMp G)))::st.o⟩ Q):HE nt st Q:=fun w0 m0 a w hr=>by
 obtain⟨cc,hold,hrr⟩:=hr;obtain⟨h1,h2,h3,h4,h5⟩:=hrr.objs mid _ ho;refine h w0 m0 a w ?_
 have hw:=hrr.write mid (mpO b es clock) ho (.opq 0 0 0 (RMp G)) w (cc.own mid) (cc.blk mid) none (Grw.refl w _) (fun _ e=>by cases e)
  (.inr (.inr ⟨_, .opq 0 0 0 (RMp G),0,0,0,0,ho,rfl,by simp[S.setO],rfl,bm1 _,fun _=>by simp,fun _ _ _ _ _ _ _ hb=>by cases hb⟩)) (fun b hb=>.inl hb)
  ⟨fun b' hb'=>by
   simp only[if_true]at hb';rw[h2]at hb';obtain rfl:b'=b:=hb'
   exact⟨h3,_,h4,h5⟩,by simp only[if_true];rw[h1];rfl,b,es,clock,by simpa using h1,by simpa using h2,by
   rw[a23 (by simp only[if_true];rw[h2];exact rfl)]
   exact h4,hG⟩
 rw[<- ig]at hw;exact⟨_,(by exact hold),hw⟩
variable {Q:Exit->HSt->Prop}
def azp{ro:Option Nat}{P:Program}{co:Code}(mid:Nat)(ho:b6 st.o mid=some (.opq 0 0 0 (RMp G)))(h:∀b es clock,G es clock->HW (ro:=ro) P nt co ⟨st.t,(mid,some (mpO b es clock))::st.o⟩ Q):HW (ro:=ro) P nt co st Q:=b1g (ax6 mid ho fun b es clock hG=>gl (h b es clock hG))
def au1{ro:Option Nat}{P:Program}{co:Code}(mid:Nat)(G:Array MapEntry->Nat->Prop){b clock:Nat}{es:Array MapEntry}(ho:b6 st.o mid=some (mpO b es clock))(hG:G es clock)(h:HW (ro:=ro) P nt co ⟨st.t,(mid,some (.opq 0 0 0 (RMp G)))::st.o⟩ Q):HW (ro:=ro) P nt co st Q:=b1g (a5q mid G ho hG (gl h))
end
end
end
end Go.Hx
