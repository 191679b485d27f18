/- A part of the proof: Kb4 Kw4 Kb5 Kw5 Kb6 Kw6 Kb7 Kw7 Bz11 Kl2 Kb8. -/
import Derived.Test.YtmoggbnlhllhaaaGreatDoorTx32
set_option linter.all false
set_option maxRecDepth 100000
set_option maxHeartbeats 1000000
namespace Go.Hx
section
section
variable {cl:List AS}{n:Int}{s:AS}
def a6b (h4:¬asI s=asI (aj n)) (h5:¬asI (th n cl s cl.length)=asI s):zc n cl s=true:=by
 unfold zc;rw[biw,decide_eq_true_eq,decide_eq_true_eq];exact⟨fun e=>h4 (by rw[e]),fun e=>h5 (by rw[e])⟩
def a0r (h5:asI (th n cl s cl.length)=asI s):zc n cl s=false:=by
 unfold zc;rw[dq.1 h5];simp
def a0k (h4:asI s=asI (aj n)):zc n cl s=false:=by
 unfold zc;rw[dq.1 h4];simp
def bau {i:Nat} (h:i<10):PV.raw (.string (Utf8.encode (97+(i:Int))))=.raw (.string (apo i)):=by
 have:∀i:Fin 10,Utf8.encode (97+(i.val:Int))=apo i.val:=by decide +kernel
 exact congrArg (fun x=>PV.raw (.string x)) (this ⟨i,h⟩)
def b4z{j:Nat}(h:j<32):d6 .and .u32 ((asI s).fdiv (2^(min j IntKind.u32.bits))) 1=0<->s.getLsbD j=false:=by
 have e1:(asI s).fdiv (2^(min j IntKind.u32.bits))=asI (s>>>j):=by
  rw[show min j IntKind.u32.bits=j from bjw (show j<=32 by omega)];show((s.toNat:Int)).fdiv _=(((s>>>j).toNat:Nat):Int);rw[show(2:Int)^j=((2^j:Nat):Int) by simp,bkb _ (bjp _),<- bli,bl3,bky]
 rw[e1,show(1:Int)=asI 1 from rfl,z8];constructor
 · intro h
   have h2:(s>>>j)&&&1=0:=dq.1 (h.trans (show(0:Int)=asI 0 from rfl));have h3:=congrArg (fun x:AS=>x.getLsbD 0) h2;simpa using h3
 intro hb
 have:(s>>>j)&&&1=0:=by
  apply bke;intro i hi;have hone:=wh 0 i hi;rw[show(1:AS)<<<0=1 from rfl]at hone;rw[bk6,hone];by_cases e:i=0
  · subst e;simp[hb]
  simp[e]
 rw[this];rfl
variable {k:Nat}
def ar9 {j:Nat} (h:j<32) (hb:d6 .and .u32 ((asI s).fdiv (2^(min j IntKind.u32.bits))) 1=0):PV.raw (.int .i64 (k:Int))=.raw (.int .i64 (adq s k j).num):=by
 unfold adq;rw[if_neg (by rw[(b4z h).1 hb];simp)]
def aqg {j:Nat} (h:j<32) (hb:¬d6 .and .u32 ((asI s).fdiv (2^(min j IntKind.u32.bits))) 1=0):PV.raw (.int .i64 0)=.raw (.int .i64 (adq s k j).num):=by
 unfold adq;rw[if_pos (by rw[b4z h]at hb;simpa using hb)]
def anp{a b:AS}:d6 .and .u32 (asI a) (asI b)=asI b<->sub b a:=by
 rw[z8,er];constructor
 · intro h i hi hb
   have h2:=dq.1 h;rw[<- h2,bk6,biw]at hb;exact hb.1
 intro h;refine congrArg asI ?_;apply bke;intro i hi;rw[bk6]
 cases hb:b.getLsbD i with
 |true=>rw[h i hi hb];rfl
 |false=>simp
def ap6 (hk:k<cl.length) (h2:¬asI (cl.getD k default)=asI s) (h3:d6 .and .u32 (asI (cl.getD k default)) (asI s)=asI s):
 CoR (.v (.one (.p (.raw (.int .u32 (d6 .and .u32 (asI (th n cl s k)) (asI (cl.getD k default)))))))) (vA (th n cl s (k+1))) :=
 nk (by rw[z8,a4w hk,ag7,if_pos ⟨fun e=>h2 (by rw[e]),anp.1 h3⟩])
def ahg (hk:k<cl.length) (h3:¬d6 .and .u32 (asI (cl.getD k default)) (asI s)=asI s):CoR (vA (th n cl s k)) (vA (th n cl s (k+1))) :=
 nk (by rw[a4w hk,ag7,if_neg fun e=>h3 (anp.2 e.2)])
def akn (hk:k<cl.length) (h2:asI (cl.getD k default)=asI s):CoR (vA (th n cl s k)) (vA (th n cl s (k+1))) :=
 nk (by rw[a4w hk,ag7,if_neg fun e=>e.1 (dq.1 h2)])
def xn {α:Type} [Inhabited α] {wr wr':Bool} {e:TypeId} {c:α->Nat->PV} {l l':List α} {x:α} {g:Nat->Nat->PV} (h:l'=l++[x]) (h0:CoP (g 0 0) (c x 0)) (h1:CoP (g 0 1) (c x 1)) (h2:CoP (g 0 2) (c x 2)) (hw:wr'=true->wr=true:=by exact fun h=>h) :
 CoO (.arr wr 3 e (l.length+1) (fg l.length (lf c l) g)) (.arr wr' 3 e l'.length (lf c l')) :=
 abu h (fun j hj=>by
  rcases(by omega:j=0\/j=1\/j=2)with rfl|rfl|rfl
  · exact h0
  · exact h1
  exact h2) rfl hw
def axq{α:Type}[Inhabited α]{e:TypeId}{c:α->Nat->PV}{x:α}{l:List α}{f:Nat->Nat->PV}(h:CoP (f 0 0) (c x 0)):CoO (.arr true 1 e (1+l.length) (fg 1 f (lf c l))) (.arr true 1 e (x::l).length (lf c (x::l))) :=
 a0m (by rw[bjv,Nat.add_comm]) fun i hi=>by
  unfold fg
  cases i with
  |zero=>rw[if_pos bmq];exact h
  | succ i =>
   rw[if_neg bmq,Nat.add_sub_cancel];exact CoP.of_eq rfl
end
end
section
open Go.Proofs
def b3e:a6 bnb 132:=wgx Tryz.func132
def azv (n:Nat) (l:List Fd) (hn:n<=10) (hv:cg n l=0):aa bnb 132 [pI (n:Int),pP (fdl l)] (ag [pI 0]):=by
 refine hpx (nt:=14) Tryz.func132 ?_;refine w_9 ?_;refine qcx a15 (anc hv) ?_;refine ic ?_;refine hcd ?_ ?_<;>intro h0
 · exfalso;omega
 refine v_5 ?_;exact CoL.refl _
def ajx:a6 bnb 75:=wgx Tryz.func75
def agv (n:Nat) (hn:n<=10):aa bnb 75 [pI (n:Int)] (ag [pA (aj (n:Int))]):=by
 refine hpx (nt:=6) Tryz.func75 ?_;have h0z:(0:Int)<=(n:Int):=by omega
 have h1z:(n:Int)<=16:=by omega
 refine w_8 ?_;refine rq rfl rfl rfl rfl rfl ?_ (hp:=⟨x8 h0z h1z,um h0z h1z⟩);refine v_2 ?_;exact⟨cci (wt h0z h1z),trivial⟩
def b6m:a6 bnb 74:=wgx Tryz.func74
def bn9{p:Prop}(h:p:=by first|exact a0r bmr|exact a0k bmr):p:=h
def bew(n:Nat)(l:List Fd)(hn:n<=10)(hv:cg n l=0):aa bnb 74 [pI (n:Int),pP (fdl l)] (ag [pP (asl (j5 (n:Int) (dt l (n:Int)))),pI 0]):=by
 refine hpx (nt:=73) Tryz.func74 ?_;have hsl:=ym (aj (n:Int));have hcn:(dt l (n:Int)).length<=4294967296:=bj2 (bk9 _ _) hsl;refine db ?_;refine qcx b3e (azv n l hn hv) ?_;refine kg ?_;refine qcx azs (b22 n l bmq hv) ?_;refine bf4 ?_;refine d4 9 900 true 1 35 (lf sC []) bmx rfl (CoP.sl rfl (.inr rfl) (fun h=>h) (fun i j hi _=>absurd hi (bip i))) (.inr rfl) rfl ?_;refine bp (ka 0 (ka 7 (ka 30 (ka 31 kn)))) km (fun i=>⟨[(9,some (.v (.one (.ref 900 (zr (n:Int) (dt l (n:Int)) i).length)))),(32,some (vI i))],[(900,some (.arr true 1 35 (zr (n:Int) (dt l (n:Int)) i).length (lf sC (zr (n:Int) (dt l (n:Int)) i))))]⟩) ((dt l (n:Int)).length) kk ?_;rintro i hi;have hcl:=ava (n:=(n:Int)) (cl:=dt l (n:Int)) (i:=i);refine w_5 ?_;refine hcd ?_ ?_<;>intro h0
 ·
  have hil:i<(dt l (n:Int)).length:=by omega
  refine gz ?_;refine qcx ajx (agv n hn) ?_;refine db ?_;refine bp (ka 0 (ka 7 (ka 9 (ka 11 (ka 30 (ka 31 (ka 32 (ka 38 (ka 39 kn))))))))) (kb 900 km) (fun k=>⟨[(12,some (vA (th (n:Int) (dt l (n:Int)) ((dt l (n:Int)).getD i default) k))),(40,some (vI k))],[]⟩) ((dt l (n:Int)).length) kk ?_;rintro k hk;refine w_5 ?_;refine hcd ?_ ?_<;>intro h1
  ·
   have hkl:k<(dt l (n:Int)).length:=by omega
   refine ic ?_;refine be rfl rfl ?_ ?_<;>intro r2
   ·
    have h2:=tz2 (iu r2);(iterate 5 refine qy ?_ (hg:=(gtt r2)));refine w_2 ?_;refine az _ rfl ?_ ?_<;>intro r3
    · have h3:=tz1 (dc r2 r3);refine db ?_;exact lpx (k+1) ⟨⟨⟨_,rfl,(by first|exact ap6 hkl bmr bmr|exact ahg hkl bmr|exact akn hkl bmr)⟩,tt⟩,uu⟩
    have h3:=tz2 (dc r2 r3);refine w_5 ?_;exact lpx (k+1) ⟨⟨⟨_,rfl,(by first|exact ap6 hkl bmr bmr|exact ahg hkl bmr|exact akn hkl bmr)⟩,tt⟩,uu⟩
   have h2:=tz1 (iz r2);(iterate 5 refine k9 (gft r2) ?_);refine w_8 ?_
   exact lpx (k+1) ⟨⟨⟨_,rfl,(by first|exact ap6 hkl bmr bmr|exact ahg hkl bmr|exact akn hkl bmr)⟩,tt⟩,uu⟩
  obtain rfl:k=(dt l (n:Int)).length:=by omega
  refine w_5 ?_;refine qcx ajx (agv n hn) ?_;refine w_2 ?_;refine be rfl rfl ?_ ?_<;>intro r4
  ·
   have h4:=tz2 (iu r4);(iterate 3 refine qy ?_ (hg:=(gtt r4)));refine w_2 ?_;refine az _ rfl ?_ ?_<;>intro r5
   ·
    have h5:=tz2 (iu (dc r4 r5));refine w_3 ?_;refine m9 0 ?_;refine r9 1 true ?_;refine w_6 ?_
    first | (refine lpz (i+1) ⟨⟨⟨_, rfl, (bq (a03 hil (a6b bmr bmr)))⟩, tt⟩, ⟨⟨_, rfl, (bn (a03 hil (a6b bmr bmr)) (CoP.refl _))⟩, trivial⟩⟩ ?_; show i+1<=_; omega)
          |(refine lpz (i+1) ⟨⟨⟨_,rfl,(bz (a07 hil bn9))⟩,tt⟩,⟨⟨_,rfl,(bm (a07 hil bn9))⟩,trivial⟩⟩ ?_;show i+1<=_;omega)
   have h5:=tz1 (iz (dc r4 r5));refine w_5 ?_
   first | (refine lpz (i+1) ⟨⟨⟨_, rfl, (bq (a03 hil (a6b bmr bmr)))⟩, tt⟩, ⟨⟨_, rfl, (bn (a03 hil (a6b bmr bmr)) (CoP.refl _))⟩, trivial⟩⟩ ?_; show i+1<=_; omega)
         |(refine lpz (i+1) ⟨⟨⟨_,rfl,(bz (a07 hil bn9))⟩,tt⟩,⟨⟨_,rfl,(bm (a07 hil bn9))⟩,trivial⟩⟩ ?_;show i+1<=_;omega)
  have h4:=tz1 (iz r4);(iterate 3 refine k9 (gft r4) ?_);refine w_8 ?_
  first | (refine lpz (i+1) ⟨⟨⟨_, rfl, (bq (a03 hil (a6b bmr bmr)))⟩, tt⟩, ⟨⟨_, rfl, (bn (a03 hil (a6b bmr bmr)) (CoP.refl _))⟩, trivial⟩⟩ ?_; show i+1<=_; omega)
        |(refine lpz (i+1) ⟨⟨⟨_,rfl,(bz (a07 hil bn9))⟩,tt⟩,⟨⟨_,rfl,(bm (a07 hil bn9))⟩,trivial⟩⟩ ?_;show i+1<=_;omega)
 obtain rfl:i=(dt l (n:Int)).length:=by omega
 refine w_2 ?_;refine bh 9 rfl rfl rfl ?_;refine v_5 ?_;exact⟨CoC.one (CoP.of_eq (by rw[aua];rfl)),CoC.refl _,trivial⟩
def b5f:a6 bnb 24:=wgx Tryz.func24
def b99(n:Nat)(l:List Fd)(hn:n<=10)(hv:cg n l=0):aa bnb 24 [pI (n:Int),pP (fdl l)] (ag [(b5d (aj (n:Int)::j5 (n:Int) (dt l (n:Int))) n).pc,pI 0]):=by
 refine hpx (nt:=81) Tryz.func24 ?_;have hsl:=ym (aj (n:Int));have hcn:(aj (n:Int)::j5 (n:Int) (dt l (n:Int))).length<=4294967297:=Nat.succ_le_succ (bj2 (bk9 _ _) (bj2 (bk9 _ _) hsl));have hci:(j5 (n:Int) (dt l (n:Int))).length<=4294967296:=Nat.le_of_succ_le_succ hcn;have hLn:(aj (n:Int)::j5 (n:Int) (dt l (n:Int))).length=(j5 (n:Int) (dt l (n:Int))).length+1:=rfl;refine sx7 ?_;refine m9 0 ?_;refine w_6 ?_;refine qcx b6m (bew n l hn hv) ?_;refine za ?_;refine m9 1 ?_;refine w_9 ?_;refine kr 1 1 100 true 1 9 (lf a8q (x7 0)) bmx rfl rfl (CoP.sl rfl (.inr rfl) (fun h=>h) (fun i j hi _=>absurd hi (bip i))) (.inr rfl) rfl rfl ?_;refine bp (ka 0 (ka 4 (ka 6 (ka 8 (ka 26 kn))))) (kb 0 km) (fun i=>⟨[(27,some (vI i))],[(1,some (.box [.p (.raw (.string ⟨#[116]⟩)), .ref 100 (x7 i).length, .p (k6 (.slice none 0 0))])),(100,some (.arr true 1 9 (x7 i).length (lf a8q (x7 i))))]⟩) n kk ?_;rintro i hi;have hl1:=auk (n:=i);refine w_5 ?_;refine hcd ?_ ?_<;>intro h0
 ·
  have hin:i<n:=by omega
  refine ic ?_;refine m9 2 ?_;refine r9 3 true ?_;refine w_7 ?_;exact lpx (i+1) ⟨tt,⟨⟨_,rfl,⟨CoP.refl _,congrArg (HV.ref 100) (by rw[af5,biq];rfl),CoP.refl _,trivial⟩⟩,⟨_,rfl,(bn af5 (CoP.of_eq (bau bmq)))⟩,uu⟩⟩
 obtain rfl:n=i:=by omega
 refine w_3 ?_;refine jl 1 1 rfl rfl rfl rfl rfl ?_;refine w_2 ?_;refine qcx ajx (agv n hn) ?_;refine m9 4 ?_;refine qy ?_;refine r9 5 true ?_;refine w_4 ?_;refine kr 1 2 101 true 2 106 (lf Row.c (uc (aj (n:Int)::j5 (n:Int) (dt l (n:Int))) n 0)) bmx rfl rfl (CoP.sl rfl (.inr rfl) (fun h=>h) (fun i j hi _=>absurd hi (bip i))) (.inr rfl) rfl rfl ?_;refine bp (ka 0 (ka 4 (ka 8 (ka 45 kn)))) (kb 0 km) (fun k=>⟨[(46,some (vI k)),(44,some (.v (.one (.ref 4 (aj (n:Int)::j5 (n:Int) (dt l (n:Int))).length))))],[(4,some (.arr true 1 35 (aj (n:Int)::j5 (n:Int) (dt l (n:Int))).length (lf sC (aj (n:Int)::j5 (n:Int) (dt l (n:Int)))))),(1,some (.box [.p (.raw (.string ⟨#[116]⟩)), .p (a3t (x7 n)), .ref 101 (uc (aj (n:Int)::j5 (n:Int) (dt l (n:Int))) n k).length])),(101,some (.arr true 2 106 (uc (aj (n:Int)::j5 (n:Int) (dt l (n:Int))) n k).length (lf Row.c (uc (aj (n:Int)::j5 (n:Int) (dt l (n:Int))) n k))))]⟩) ((aj (n:Int)::j5 (n:Int) (dt l (n:Int))).length) ⟨⟨zy,⟨_,rfl,(CoR.of_eq (by rw[Nat.add_comm];rfl))⟩,trivial⟩,⟨⟨_,rfl,(axq (CoP.refl _))⟩,uu⟩⟩ ?_;rintro k hk;have hl2:=aqj (l:=(aj (n:Int)::j5 (n:Int) (dt l (n:Int)))) (n:=n) (k:=k);refine w_5 ?_;refine hcd ?_ ?_<;>intro h1
 ·
  have hkl:k<(aj (n:Int)::j5 (n:Int) (dt l (n:Int))).length:=by omega
  refine xk ?_;refine m9 6 ?_;refine w_9 ?_;refine kr 6 1 102 true 3 141 (lf Val.c (ue ((aj (n:Int)::j5 (n:Int) (dt l (n:Int))).getD k default) k 0)) bmx rfl rfl (CoP.sl rfl (.inr rfl) (fun h=>h) (fun i j hi _=>absurd hi (bip i))) (.inr rfl) rfl rfl ?_;refine bp (ka 0 (ka 4 (ka 8 (ka 10 (ka 11 (ka 12 (ka 44 (ka 45 (ka 46 (ka 54 kn)))))))))) (kb 4 (kb 1 (kb 101 (kb 0 km)))) (fun j=>⟨[(55,some (vI j))],[(6,some (.box [.p (.raw (.int .i64 ((k:Int)+1))), .ref 102 (ue ((aj (n:Int)::j5 (n:Int) (dt l (n:Int))).getD k default) k j).length])),(102,some (.arr true 3 141 (ue ((aj (n:Int)::j5 (n:Int) (dt l (n:Int))).getD k default) k j).length (lf Val.c (ue ((aj (n:Int)::j5 (n:Int) (dt l (n:Int))).getD k default) k j))))]⟩) n kk ?_;rintro j hj;have hl3:=arn (s:=((aj (n:Int)::j5 (n:Int) (dt l (n:Int))).getD k default)) (k:=k) (n:=j);refine w_5 ?_;refine hcd ?_ ?_<;>intro h2
  ·
   have hjn:j<n:=by omega
   refine ip ?_;refine m9 7 ?_;refine ip ?_;refine hcd ?_ ?_<;>intro h3
   ·
    refine w_9 ?_;refine m9 8 ?_;refine r9 9 true ?_;refine w_7 ?_
    first | (refine lpz (j+1) ⟨tt, ⟨⟨_, rfl, ⟨CoP.refl _, congrArg (HV.ref 102) (by rw[l4, biq]; rfl), trivial⟩⟩, ⟨_, rfl, (xn l4 (CoP.refl _) (CoP.of_eq (ar9 bmq bmr)) (CoP.refl _))⟩, uu⟩⟩ ?_; show j+1<=_; omega)
          |(refine lpz (j+1) ⟨tt,⟨⟨_,rfl,⟨CoP.refl _,congrArg (HV.ref 102) (by rw[l4,biq];rfl),trivial⟩⟩,⟨_,rfl,(xn l4 (CoP.refl _) (CoP.of_eq (aqg bmq bmr)) (CoP.refl _))⟩,uu⟩⟩ ?_;show j+1<=_;omega)
   refine w_5 ?_;refine m9 10 ?_;refine r9 11 true ?_;refine w_7 ?_
   first | (refine lpz (j+1) ⟨tt, ⟨⟨_, rfl, ⟨CoP.refl _, congrArg (HV.ref 102) (by rw[l4, biq]; rfl), trivial⟩⟩, ⟨_, rfl, (xn l4 (CoP.refl _) (CoP.of_eq (ar9 bmq bmr)) (CoP.refl _))⟩, uu⟩⟩ ?_; show j+1<=_; omega)
         |(refine lpz (j+1) ⟨tt,⟨⟨_,rfl,⟨CoP.refl _,congrArg (HV.ref 102) (by rw[l4,biq];rfl),trivial⟩⟩,⟨_,rfl,(xn l4 (CoP.refl _) (CoP.of_eq (aqg bmq bmr)) (CoP.refl _))⟩,uu⟩⟩ ?_;show j+1<=_;omega)
  obtain rfl:n=j:=by omega
  refine eg ?_;refine jl 6 1 rfl rfl rfl rfl rfl ?_;refine w_4 ?_;refine m9 12 ?_;refine r9 13 true ?_;refine w_7 ?_;exact lpx (k+1) ⟨tt,⟨u9,⟨_,rfl,⟨CoP.refl _,CoP.refl _,congrArg (HV.ref 101) (by rw[aal,biq];rfl),trivial⟩⟩,⟨_,rfl,(jq aal (CoP.refl _) (CoP.refl _))⟩,uu⟩⟩
 obtain rfl:k=(aj (n:Int)::j5 (n:Int) (dt l (n:Int))).length:=by omega
 refine w_2 ?_;refine jl 1 2 rfl rfl rfl rfl rfl ?_;refine v_5 ?_;exact⟨CoC.agg ⟨CoP.refl _,CoP.refl _,CoP.refl _,trivial⟩,CoC.refl _,trivial⟩
end
section
section
variable {i:Nat}
theorem a0b (h:i<4294967296):asI (nA i)=(i:Int):=by
 show(((BitVec.ofNat 32 i).toNat:Nat):Int)=i
 grind
variable {n:Nat}
theorem ayf (h1:n<=16):IntKind.wrap .u32 (1*2^(min n IntKind.u32.bits))=((2^n:Nat):Int):=by
 have h2:2^n<=2^16:=bkv bmq h1;rw[show IntKind.wrap .u32 (1*2^(min n IntKind.u32.bits))=asI ((1:AS)<<<n) from ze 1 n];show(((1:AS)<<<n).toNat:Int)=_;rw[BitVec.toNat_shiftLeft,Nat.shiftLeft_eq]
 grind
def ab3(h:n<=16):2^n<=65536:=bkv bmq h
variable {k:Nat}
theorem a9u {n:Int} (h:((bsz (nA i):Nat):Int)=(k:Int)):tl n k (i+1)=tl n k i++[nA i]:=by
 unfold tl;rw[bjj,bju,bk8]
 grind
theorem aa1 {n:Int} (h:¬((bsz (nA i):Nat):Int)=(k:Int)):tl n k (i+1)=tl n k i:=by
 unfold tl;rw[bjj,bju,bk8]
 grind
theorem ak8 {n:Int}:(tl n k i).length<=i:=by
 unfold tl
 grind
abbrev au3(rk:List Int)(n:Nat):PC:=.agg [.raw (.int .i64 (n:Int)),zl rk]
theorem a41 (h:i<4294967296):(nA i).toNat=i:=by
 unfold nA
 grind
variable {s:AS}
def alt (h:s.toNat<2^n):∀z,s.getLsbD z=true->z<n:=fun z hz=>by
 rw[<- BitVec.testBit_toNat]at hz
 exact Nat.lt_of_not_le fun hn=>by
  have:=Nat.ge_two_pow_of_testBit hz;have:=bkv (show 0<2 by omega) hn;omega
theorem b3v (h:∀z,s.getLsbD z=true->z<n):s.toNat<2^n:=by
 refine Nat.lt_pow_two_of_testBit _ fun i hi=>?_;rw[BitVec.testBit_toNat,bj5]
 grind
variable {a:Nat}
def b9b (hs:s.toNat<2^n) (ha:a<n) (hn:n<=32):(s|||((1:AS)<<<a)).toNat<2^n:=b3v fun z hz=>by
 have hz32:z<32:=BitVec.lt_of_getLsbD hz;rw[bl5,wh a z hz32,bjx,decide_eq_true_eq]at hz
 rcases hz with h|h
 · exact alt hs z h
 omega
def b2q (hn:n<=16) (hi:i<(jg n k).length):((jg n k).getD i default).toNat<2^n:=by
 rw[ah _ _ hi];have hm:=bin hi;unfold jg tl at hm;obtain⟨h1,_⟩:=bix.1 hm;obtain⟨j,hj,e⟩:=bj3.1 h1;have hj:=bje.1 hj;have:=ab3 hn;rw[show(jg n k)[i]=nA j from e.symm,a41 bmq];exact hj
def agi(hn:n<=16):(jg n k).length<=65536:=bj2 ak8 (ab3 hn)
theorem b6d {j:Nat} (h:j<32):d6 .and .u32 ((asI s).fdiv (2^(min j IntKind.u32.bits))) 1=1<->s.getLsbD j=true:=by
 have e1:(asI s).fdiv (2^(min j IntKind.u32.bits))=asI (s>>>j):=by
  rw[show min j IntKind.u32.bits=j from bjw (show j<=32 by omega)];show((s.toNat:Int)).fdiv _=(((s>>>j).toNat:Nat):Int);rw[show(2:Int)^j=((2^j:Nat):Int) by simp,bkb _ (bjp _),<- bli,bl3,bky]
 have hb:d6 .and .u32 ((asI s).fdiv (2^(min j IntKind.u32.bits))) 1=asI ((s>>>j)&&&1):=by rw[e1,show(1:Int)=asI 1 from rfl,z8]
 have hv:(s>>>j)&&&1=if s.getLsbD j=true then 1 else 0:=by
  grind
 grind
variable {out:List AS}{rk:List Int}
def a97 {j:Nat} (hj:j<(jg n k).length):mnK rk n a out k (j+1)=mnA rk a (mnK rk n a out k j) ((jg n k).getD j default):=by
 unfold mnK;rw[ar hj,bj8];rfl
def a96:mnT rk n a (k+1)=mnK rk n a (mnT rk n a k) k (jg n k).length:=by
 unfold mnT;rw[bjj,bj8];rfl
theorem b1n:(mnA rk a out s).length<=out.length+1:=by
 unfold mnA
 grind
def ade:∀{j:Nat},j<=(jg n k).length->(mnK rk n a out k j).length<=out.length+j
 |0,_=>bil _
 | j+1,hj=>by
  rw[a97 hj];have:(mnK rk n a out k j).length<=out.length+j:=ade bmq;have:=b1n (rk:=rk) (a:=a) (out:=mnK rk n a out k j) (s:=(jg n k).getD j default);omega
def amn (hn:n<=16):∀{k:Nat},(mnT rk n a k).length<=65536*k
 |0=>bil _
 | k+1=>by
  rw[a96];have:(mnT rk n a k).length<=65536*k:=amn hn;have:=ade (rk:=rk) (n:=n) (a:=a) (k:=k) (out:=mnT rk n a k) (bil _);have:=agi (k:=k) hn;omega
def yt{j:Nat}(hj:j<(jg n k).length)(h:mnA rk a (mnK rk n a out k j) ((jg n k).getD j default)=mnK rk n a out k j++[(jg n k).getD j default]):mnK rk n a out k (j+1)=mnK rk n a out k j++[(jg n k).getD j default]:=(a97 hj).trans h
def y5{j:Nat}(hj:j<(jg n k).length)(h:mnA rk a (mnK rk n a out k j) ((jg n k).getD j default)=mnK rk n a out k j):mnK rk n a out k (j+1)=mnK rk n a out k j:=(a97 hj).trans h
def yh(ha:a<32)(h:d6 .and .u32 ((asI s).fdiv (2^(min a IntKind.u32.bits))) 1=1):mnA rk a out s=out:=if_pos (.inl ((b6d ha).1 h))
def yi(h:(out.any fun m=>decide (sub m s))=true):mnA rk a out s=out:=if_pos (.inr (.inl h))
def yg(h:aoz rk s a=false):mnA rk a out s=out:=if_pos (.inr (.inr h))
theorem a4u (ha:a<32) (h1:¬d6 .and .u32 ((asI s).fdiv (2^(min a IntKind.u32.bits))) 1=1) (h2:(out.any fun m=>decide (sub m s))=false) (h3:aoz rk s a=true):mnA rk a out s=out++[s]:=if_neg (by
 rintro(h|h|h)
 · exact h1 ((b6d ha).2 h)
 · grind
 rw[h3]at h;cases h)
end
end
section
open Go.Proofs
def b12:a6 bnb 198:=wgx Tryz.func198
def b6x(n k:Nat)(hn:n<=16)(hk:k<=n):aa bnb 198 [pI (n:Int),pI (k:Int)] (ag [pP (asl (jg n k)),pI 0]):=by
 refine hpx (nt:=38) Tryz.func198 ?_;have hp:=ab3 hn;have hs:=ayf hn;refine ip ?_;refine be rfl rfl ?_ ?_<;>intro r0
 ·
  have h0:=tz1 r0;(iterate 2 refine k9 (gtf r0) ?_);refine w_2 ?_;(iterate 2 refine k9 rfl ?_);refine w_2 ?_;(iterate 3 refine k9 rfl ?_);refine w_8 ?_;refine hrr ?_
  omega
 have h0:=tz2 r0;(iterate 2 refine qy ?_ (hg:=(gff r0)));refine w_2 ?_;refine be rfl rfl ?_ ?_<;>intro r1
 ·
  have h1:=tz1 (ck r0 r1);(iterate 2 refine k9 (gtf r1) ?_);refine w_2 ?_;(iterate 3 refine k9 rfl ?_);refine w_8 ?_;refine hrr ?_
  omega
 have h1:=tz2 (ck r0 r1);(iterate 2 refine qy ?_ (hg:=(gff r1)));refine w_2 ?_;refine be rfl rfl ?_ ?_<;>intro r2
 ·
  have h2:=tz1 (ck r1 r2);(iterate 3 refine k9 (gtf r2) ?_);refine w_8 ?_;refine hrr ?_
  omega
 have h2:=tz2 (ck r1 r2);(iterate 3 refine qy ?_ (hg:=(gff r2)));refine w_2 ?_;refine az _ rfl ?_ ?_<;>intro r3
 · have h3:=tz1 (ck r2 r3);exfalso;simp_all;omega
 have h3:=tz2 (ck r2 r3);refine ip ?_;refine d4 6 900 true 1 35 (lf sC []) bmx rfl (CoP.sl rfl (.inr rfl) (fun h=>h) (fun i j hi _=>absurd hi (bip i))) (.inr rfl) rfl ?_;refine bp (ka 0 (ka 1 kn)) km (fun i=>⟨[(6,some (.v (.one (.ref 900 (tl (n:Int) k i).length)))),(7,some (.v (.one (.p (.raw (.int .u32 (i:Int)))))))],[(900,some (.arr true 1 35 (tl (n:Int) k i).length (lf sC (tl (n:Int) k i))))]⟩) (2^n) kk ?_;rintro i hi;have hll:=ak8 (n:=(n:Int)) (k:=k) (i:=i);refine w_8 ?_;refine hcd ?_ ?_<;>intro h4
 ·
  have hi2:i<2^n:=by omega
  refine w_6 ?_;refine rc rfl rfl rfl rfl rfl rfl a5t (afq (nA i)) (⟨cci (a0b bmq).symm,trivial⟩) rfl rfl ?_;refine w_3 ?_;refine hcd ?_ ?_<;>intro h5
  ·
   refine w_3 ?_;refine m9 0 ?_;refine r9 1 true ?_;refine w_7 ?_
   first | (refine lpz (i+1) ⟨⟨⟨_, rfl, (bq (a9u bmr))⟩, tt⟩, ⟨⟨_, rfl, (bn (a9u bmr) (CoP.of_eq (congrArg (fun x => PV.raw (.int .u32 x)) (a0b bmq).symm)))⟩, trivial⟩⟩ ?_; show i+1<=_; omega)
         |(refine lpz (i+1) ⟨⟨⟨_,rfl,(bz (aa1 bmr))⟩,tt⟩,⟨⟨_,rfl,(bm (aa1 bmr))⟩,trivial⟩⟩ ?_;show i+1<=_;omega)
  refine w_6 ?_
  first | (refine lpz (i+1) ⟨⟨⟨_, rfl, (bq (a9u bmr))⟩, tt⟩, ⟨⟨_, rfl, (bn (a9u bmr) (CoP.of_eq (congrArg (fun x => PV.raw (.int .u32 x)) (a0b bmq).symm)))⟩, trivial⟩⟩ ?_; show i+1<=_; omega)
        |(refine lpz (i+1) ⟨⟨⟨_,rfl,(bz (aa1 bmr))⟩,tt⟩,⟨⟨_,rfl,(bm (aa1 bmr))⟩,trivial⟩⟩ ?_;show i+1<=_;omega)
 obtain rfl:i=2^n:=by omega
 refine w_2 ?_;refine bh 6 rfl rfl rfl ?_;refine v_5 ?_;exact⟨CoC.one (CoP.refl _),CoC.refl _,trivial⟩
def b09:a6 bnb 134:=wgx Tryz.func134
def bbc (t:Tbl) (hT:TOk t) (h10:t.attrs.length<=10) (h200:t.rows.length<=200):aa bnb 134 [t.pc] (ag [pI 0]):=by
 refine hpx (nt:=19) Tryz.func134 ?_;have hna:=hT.na;have hnr:=hT.nr;refine sx7 ?_;refine m9 0 ?_;refine w_6 ?_;refine qcx a48 (a3m hT) ?_;refine za ?_;refine be rfl rfl ?_ ?_<;>intro r0
 ·
  have h0:=tz1 r0;(iterate 4 refine k9 (gtf r0) ?_);refine w_7 ?_;refine hrr ?_
  omega
 have h0:=tz2 r0;(iterate 4 refine qy ?_ (hg:=(gff r0)));refine w_2 ?_;refine az _ rfl ?_ ?_<;>intro r1
 · have h1:=tz1 (ck r0 r1);refine w_4 ?_;refine hrr ?_;omega
 have h1:=tz2 (ck r0 r1);refine v_5 ?_;exact CoL.refl _
def b3w:a6 bnb 200:=wgx Tryz.func200
def bf5 (q:List Int) (n:Nat) (s:AS) (a:Nat) (hn:n<=16) (hr:q.length=2^n) (hs:s.toNat<2^n) (ha:a<n):aa bnb 200 [au3 q n,pA s,pI (a:Int)] (ag [pB (aoz q s a)]):=by
 refine hpx (nt:=21) Tryz.func200 ?_;have ho:=b9b hs ha bmq;have e:d6 .or .u32 (asI s) (IntKind.wrap .u32 (1*2^(min ((a:Int)).toNat IntKind.u32.bits)))=asI (s|||((1:AS)<<<a)):=by rw[show IntKind.wrap .u32 (1*2^(min ((a:Int)).toNat IntKind.u32.bits))=asI ((1:AS)<<<a) from ze 1 a,bOr]
 refine sx7 ?_;refine m9 0 ?_;refine w_7 ?_;refine rq rfl rfl rfl rfl rfl ?_ (hp:=⟨rfl,oi s,by rw[hr];exact bkm.2 hs⟩);refine w_7 ?_;refine rq rfl rfl rfl rfl rfl ?_ (hp:=⟨rfl,by rw[e];exact oi _,by rw[e,hr];exact bkm.2 ho⟩);refine v_5 ?_;exact⟨ccb (by rw[e];rfl),trivial⟩
def b48:a6 bnb 199:=wgx Tryz.func199
def be6 (y z:AS):aa bnb 199 [pA y,pP (bx (asC z))] (ag [pB (decide (sub y z))]):=by
 refine hpx (nt:=8) Tryz.func199 ?_;refine gz ?_;exact hx8 rfl rfl rfl (⟨ccb (decide_eq_decide.2 gh),trivial⟩)
def bbn(l:List AS)(z:AS):aa bnb 137 [pP (asl l),pP (.fn 199 1 (fun j=>[bx (asC z)].getD j .any))] (ag [pB (l.any fun y=>decide (sub y z))]):=afo l 199 1 _ _ b48 fun y=>be6 y z
def b1i:a6 bnb 136:=wgx Tryz.func136
def bn7{p:Prop}(h:p:=by first|exact yh bmq bmr|exact yi bmr|exact yg bmr):p:=h
def bbh(q:List Int)(n a:Nat)(hn:n<=16)(hr:q.length=2^n)(ha:a<n):aa bnb 136 [au3 q n,pI (a:Int),pI 16] (ag [pP (asl (mnL q n a))]):=by
 refine hpx (nt:=54) Tryz.func136 ?_;refine sx7 ?_;refine m9 0 ?_;refine gz ?_;refine d4 7 900 true 1 35 (lf sC []) bmx rfl (CoP.sl rfl (.inr rfl) (fun h=>h) (fun i j hi _=>absurd hi (bip i))) (.inr rfl) rfl ?_;refine bp (ka 1 (ka 2 (ka 3 kn))) (kb 0 km) (fun k=>⟨[(7,some (.v (.one (.ref 900 (mnT q n a k).length)))),(8,some (vI k))],[(900,some (.arr true 1 35 (mnT q n a k).length (lf sC (mnT q n a k))))]⟩) (n+1) kk ?_;rintro k hk;have htl:=amn (rk:=q) (a:=a) hn (k:=k);refine db ?_;refine hcd ?_ ?_<;>intro h0
 ·
  have hkn:k<=n:=by omega
  have hll:=agi (k:=k) hn;refine w_8 ?_;refine qcx b12 (b6x n k hn bmq) ?_;refine kg ?_;refine bp (ka 1 (ka 2 (ka 3 (ka 8 (ka 28 (ka 29 kn)))))) (kb 0 km) (fun j=>⟨[(7,some (.v (.one (.ref 900 (mnK q n a (mnT q n a k) k j).length)))),(30,some (vI j))],[(900,some (.arr true 1 35 (mnK q n a (mnT q n a k) k j).length (lf sC (mnK q n a (mnT q n a k) k j))))]⟩) ((jg n k).length) kk ?_;rintro j hj;have hkl:=ade (rk:=q) (n:=n) (a:=a) (k:=k) (out:=mnT q n a k) hj;refine w_5 ?_;refine hcd ?_ ?_<;>intro h1
  ·
   have hjl:j<(jg n k).length:=by omega
   have hsl:=b2q hn hjl;refine w_7 ?_;refine m9 1 ?_;refine w_2 ?_;refine ja 12 rfl rfl rfl ?_;refine w_9 ?_;refine be rfl rfl ?_ ?_<;>intro r2
   ·
    have h2:=tz1 r2;(iterate 3 refine k9 (gtf r2) ?_);refine w_8 ?_
    first | (refine lpz (j+1) ⟨⟨⟨_, rfl, (bq (yt hjl (a4u bmq bmr bmr bmr)))⟩, tt⟩, ⟨⟨_, rfl, (bn (yt hjl (a4u bmq bmr bmr bmr)) (CoP.refl _))⟩, uu⟩⟩ ?_; show j+1<=_; omega)
          |(refine lpz (j+1) ⟨⟨⟨_,rfl,(bz (y5 hjl bn7))⟩,tt⟩,⟨⟨_,rfl,(bm (y5 hjl bn7))⟩,uu⟩⟩ ?_;show j+1<=_;omega)
   have h2:=tz2 r2;(iterate 2 refine qy ?_ (hg:=(gff r2)));refine qcx a6q (bbn (mnK q n a (mnT q n a k) k j) ((jg n k).getD j default)) ?_ (hg:=(gff r2));refine w_2 ?_;refine az _ rfl ?_ ?_<;>intro r3
   ·
    have h3:=ck r2 r3;refine w_5 ?_
    first | (refine lpz (j+1) ⟨⟨⟨_, rfl, (bq (yt hjl (a4u bmq bmr bmr bmr)))⟩, tt⟩, ⟨⟨_, rfl, (bn (yt hjl (a4u bmq bmr bmr bmr)) (CoP.refl _))⟩, uu⟩⟩ ?_; show j+1<=_; omega)
          |(refine lpz (j+1) ⟨⟨⟨_,rfl,(bz (y5 hjl bn7))⟩,tt⟩,⟨⟨_,rfl,(bm (y5 hjl bn7))⟩,uu⟩⟩ ?_;show j+1<=_;omega)
   have h3:=ck r2 r3;refine w_6 ?_;refine qcx b3w (bf5 q n ((jg n k).getD j default) a hn hr hsl ha) ?_;refine ce ?_;refine hcb ?_ ?_<;>intro h4
   ·
    refine w_3 ?_;refine m9 2 ?_;refine r9 3 true ?_;refine w_6 ?_
    first | (refine lpz (j+1) ⟨⟨⟨_, rfl, (bq (yt hjl (a4u bmq bmr bmr bmr)))⟩, tt⟩, ⟨⟨_, rfl, (bn (yt hjl (a4u bmq bmr bmr bmr)) (CoP.refl _))⟩, uu⟩⟩ ?_; show j+1<=_; omega)
          |(refine lpz (j+1) ⟨⟨⟨_,rfl,(bz (y5 hjl bn7))⟩,tt⟩,⟨⟨_,rfl,(bm (y5 hjl bn7))⟩,uu⟩⟩ ?_;show j+1<=_;omega)
   refine w_5 ?_
   first | (refine lpz (j+1) ⟨⟨⟨_, rfl, (bq (yt hjl (a4u bmq bmr bmr bmr)))⟩, tt⟩, ⟨⟨_, rfl, (bn (yt hjl (a4u bmq bmr bmr bmr)) (CoP.refl _))⟩, uu⟩⟩ ?_; show j+1<=_; omega)
         |(refine lpz (j+1) ⟨⟨⟨_,rfl,(bz (y5 hjl bn7))⟩,tt⟩,⟨⟨_,rfl,(bm (y5 hjl bn7))⟩,uu⟩⟩ ?_;show j+1<=_;omega)
  obtain rfl:j=(jg n k).length:=by omega
  refine w_6 ?_;exact lpx (k+1) ⟨⟨⟨_,rfl,(CoR.of_eq (by rw[a96]))⟩,tt⟩,⟨⟨_,rfl,(CoO.of_eq (by rw[a96]))⟩,uu⟩⟩
 obtain rfl:k=n+1:=by omega
 refine w_2 ?_;refine bh 7 rfl rfl rfl ?_;refine v_4 ?_;exact⟨CoC.one (CoP.refl _),trivial⟩
end
section
def jh(t:Tbl)(k:Nat):Prt:=b84 t (a1r t k) k
section
variable {t:Tbl}
def a6k:∀{m k:Nat},k<m->(a1r t m).getD k default=jh t k
 | m+1,k,h=>by
  rw[a1r];by_cases e:k<m
  · rw[ah _ _ (by rw[biq,lx];omega),List.getElem_append_left (by rw[lx];exact e),<- ah (a1r t m) k (by rw[lx];exact e),a6k e]
  obtain rfl:k=m:=by omega
  rw[ah _ _ (by rw[biq,lx];simp),List.getElem_append_right (by rw[lx];omega)];simp[lx,jh]
def io(t:Tbl)(m i:Nat):List Prt:=(List.range m).map fun k=>if k<i then jh t k else⟨0,[]⟩
variable {i m:Nat}
def a1j:(io t m i).length=m:=by simp[io]
def ad1 {k:Nat} (hk:k<m) (hi:k<i):(io t m i).getD k default=jh t k:=by
 rw[ah _ _ (by rw[a1j];exact hk)];simp[io,hi]
def asz (hi:i<m):io t m (i+1)=(io t m i).set i (jh t i):=by
 refine bkn (by simp[io]) fun k h1 h2=>?_;rw[bl1];simp only[io,bkw,bkl];by_cases e:i=k
 · subst e;rw[if_pos bmq,if_pos rfl]
 rw[if_neg e];by_cases h:k<i
 · rw[if_pos bmq,if_pos h]
 rw[if_neg bmq,if_neg h]
def xl(t:Tbl)(m i:Nat):List Int:=(List.range m).map fun k=>if k<i then ap4 (jh t k)else 0
def a2r:(xl t m i).length=m:=by simp[xl]
def asb (hi:i<m):xl t m (i+1)=(xl t m i).set i (ap4 (jh t i)):=by
 refine bkn (by simp[xl]) fun k h1 h2=>?_;rw[bl1];simp only[xl,bkw,bkl];by_cases e:i=k
 · subst e;rw[if_pos bmq,if_pos rfl]
 rw[if_neg e];by_cases h:k<i
 · rw[if_pos bmq,if_pos h]
 rw[if_neg bmq,if_neg h]
def agz:xl t (2^t.attrs.length) (2^t.attrs.length)=ak t:=by
 unfold ak aox xl;refine bkn (by simp[lx]) fun k h1 h2=>?_;have hk:k<2^t.attrs.length:=by simpa using h1
 simp only[bkw,bkl,if_pos hk];rw[<- a6k hk,ah _ _ (by rw[lx];exact hk)]
def bag (hi:i<m):lf zC (xl t m 0) i 0=.raw (.int .i64 0):=by
 unfold lf;rw[ah _ _ (by rw[a2r];exact hi)];simp[xl,zC]
def aqt (hi:i<m):(io t m 0).getD i default=⟨0,[]⟩:=by
 rw[ah _ _ (by rw[a1j];exact hi)];simp[io]
def bbd (hi:i<m):lf Prt.c (io t m 0) i 0=.raw (.int .i64 0):=by
 unfold lf;rw[aqt hi];rfl
def bbl (hi:i<m):lf Prt.c (io t m 0) i 1=ill []:=by
 unfold lf;rw[aqt hi];rfl
def b4p (h:i<4294967296):IntKind.wrap .u32 ((i:Int)-1)=asI (nA i-1):=by
 show _=(((nA i-1).toNat:Nat):Int);rw[BitVec.toNat_sub,a41 h];unfold IntKind.wrap
 cases i with
 |zero=>decide
 | succ i =>
  show(((i+1:Nat):Int)-1)%4294967296=_;rw[show(1:AS).toNat=1 from rfl];omega
def b4j (h:i<4294967296):d6 .and .u32 (i:Int) (IntKind.wrap .u32 ((i:Int)-1))=asI (du i):=by
 rw[b4p h,show(i:Int)=asI (nA i) from (a0b h).symm,z8];rfl
def an2{s t:AS}(hi:i<32):(s&&&~~~t).getLsbD i=(s.getLsbD i&&!t.getLsbD i):=by simp[hi]
def am6 (h:i<4294967296) (h0:du i≠0):(du i).toNat<i:=by
 have hne:nA i≠0:=fun e=>h0 (by unfold du;rw[e];rfl);have:=agu hne;rw[a41 h]at this;exact this
def amt(h:i<4294967296)(h0:du i≠0):(nA i&&&~~~(du i)).toNat<i:=by
 have h1:sub (nA i&&&~~~(du i)) (nA i):=er.2 fun z hz hb=>by
  rw[an2 hz,biw]at hb;exact hb.1
 have:=a0f h1 fun e=>h0 (by
  apply bke;intro z hz;have e2:=congrArg (fun x:AS=>x.getLsbD z) e;simp only[an2 hz]at e2
  have h3:(du i).getLsbD z=true->(nA i).getLsbD z=true:=fun hb=>by
   unfold du at hb;rw[bk6,biw]at hb;exact hb.1
  rw[show(0:AS).getLsbD z=false by simp,bj5];intro hb;rw[h3 hb,hb]at e2
  cases e2)
 rw[a41 h]at this;exact this
def b98 (h:i<4294967296) {s:AS}:d6 .andNot .u32 (i:Int) (asI s)=asI (nA i&&&~~~s):=by
 rw[show(i:Int)=asI (nA i) from (a0b h).symm,apz]
def aqz(h:du i=0):jh t i=a7 t (nA i):=if_pos h
def b7d (hi:i<4294967296) (h:du i≠0):jh t i=aw3 (jh t (du i).toNat) (jh t (nA i&&&~~~(du i)).toNat):=by
 have h1:=am6 hi h;have h2:=amt hi h;rw[<- a6k h1,<- a6k h2];exact if_neg h
def abg {k:Nat} {p:Prt} {x y:PV} (hi:i<m) (hk:k=i) (hp:jh t i=p) (hx:x=p.c 0) (hy:y=p.c 1):
 CoO (.arr true 2 51 m (k8 (lf Prt.c (io t m i)) k 0 [x,y])) (.arr true 2 51 m (lf Prt.c (io t m (i+1)))):=by
 subst hp;rw[asz hi];exact ain (fun h=>h) a1j.symm hk (by rw[a1j];exact hi) hx hy
end
end
section
open Go.Proofs
def b0u:a6 bnb 135:=wgx Tryz.func135
def b9k(t:Tbl)(hT:TOk t)(hg:∀k,k<(2^t.attrs.length)->f7 (jh t k)=true/\(jh t k).rows=t.rows.length):aa bnb 135 [t.pc] (ag [au3 (ak t) t.attrs.length]):=by
 refine hpx (nt:=68) Tryz.func135 ?_;have hna:=hT.na;have hp:=ab3 hna;have hs:=ayf hna;have h64:IntKind.wrap .i64 (1*2^(min ((t.attrs.length:Int)).toNat IntKind.i64.bits))=(((2^t.attrs.length):Nat):Int):=bbe (n:=(t.attrs.length:Int)) bmq bmq;have h65:(IntKind.wrap .i64 (1*2^(min ((t.attrs.length:Int)).toNat IntKind.i64.bits))).toNat=(2^t.attrs.length):=by rw[h64];rfl
 refine sx7 ?_;refine m9 0 ?_;refine m9 1 ?_;refine kg ?_;refine rm 2 rfl rfl rfl rfl rfl rfl ?_ (hp:=(by dsimp only;rw[h64];(repeat' apply And.intro)<;>first|trivial|omega));refine qy ?_;refine m9 3 ?_;refine w_6 ?_;refine rm 4 rfl rfl rfl rfl rfl rfl ?_ (hp:=(by dsimp only;rw[h64];(repeat' apply And.intro)<;>first|trivial|omega));refine db ?_;refine bp (ka 1 (ka 2 (ka 4 (ka 20 kn)))) (kb 0 (kb 1 km)) (fun i=>⟨[(5,some (.v (.one (.ref 4 (2^t.attrs.length))))),(21,some (.v (.one (.p (.raw (.int .u32 (i:Int)))))))],[(2,some (.arr true 1 3 (2^t.attrs.length) (lf zC (xl t (2^t.attrs.length) i)))),(3,some (.box [.p (.raw (.int .i64 (t.attrs.length:Int))), .ref 2 (2^t.attrs.length)])),(4,some (.arr true 2 51 (2^t.attrs.length) (lf Prt.c (io t (2^t.attrs.length) i))))]⟩) (2^t.attrs.length) ⟨⟨⟨_,rfl,(CoR.of_eq (by dsimp only;rw[h65]))⟩,tt⟩,⟨⟨_,rfl,(a0m (by rw[h65]) fun i hi=>CoP.of_eq (by rw[bag (by rw[<- h65];exact hi)];rfl))⟩,⟨_,rfl,⟨CoH.refl _,congrArg (HV.ref 2) h65,trivial⟩⟩,⟨_,rfl,(amb (by rw[h65]) fun i hi=>⟨CoP.of_eq (by rw[bbd (by rw[<- h65];exact hi)];rfl),by rw[bbl (by rw[<- h65];exact hi)];exact aid⟩)⟩,trivial⟩⟩ ?_;rintro i hi;refine w_5 ?_;refine hcd ?_ ?_<;>intro h0
 ·
  have him:i<(2^t.attrs.length):=by omega
  have hrv:=b4j (i:=i) bmq;have hdv:=b98 (i:=i) (s:=(du i)) bmq;have hzi:(io t (2^t.attrs.length) (i+1)).getD ((i:Int)).toNat default=jh t i:=ad1 him bmq;refine gz ?_;refine rqw rfl rfl rfl rfl rfl ?_;refine w_3 ?_;refine aaz (ka 1 (ka 2 (ka 4 (ka 5 (ka 6 (ka 20 (ka 21 kn))))))) (kb 2 (kb 3 (kb 0 (kb 1 km)))) ⟨[],[(4,some (.arr true 2 51 (2^t.attrs.length) (lf Prt.c (io t (2^t.attrs.length) (i+1)))))]⟩ ?_ ?_
  ·
   refine w_7 ?_;refine hcd ?_ ?_<;>intro h1
   · have hz0:du i=0:=dq.1 (hrv.symm.trans h1);refine w_5 ?_;refine rc rfl rfl rfl rfl rfl rfl a3c (aav t (nA i) hT (alt (by rw[a41 bmq];exact him))) (⟨CoC.refl _,cci (a0b bmq).symm,trivial⟩) rfl rfl ?_;refine w_6 ?_;exact⟨tt,⟨⟨_,rfl,(by first|exact abg him (by simp only[bit]) (aqz hz0) rfl rfl|exact abg him (by simp only[bit]) hpr rfl rfl)⟩,uu⟩⟩
   have hne:du i≠0:=fun e=>h1 (by rw[hrv,e];rfl);have hrl:=am6 (i:=i) bmq hne;have hdl:=amt (i:=i) bmq hne;have hz1:(io t (2^t.attrs.length) i).getD (asI (du i)).toNat default=jh t (du i).toNat:=ad1 (k:=(du i).toNat) bmq bmq;have hz2:(io t (2^t.attrs.length) i).getD (asI ((nA i&&&~~~(du i)))).toNat default=jh t ((nA i&&&~~~(du i))).toNat:=ad1 (k:=((nA i&&&~~~(du i))).toNat) bmq bmq;have hpr:=b7d (t:=t) (i:=i) bmq hne;rw[<- hz1,<- hz2]at hpr;have hx1:f7 ((io t (2^t.attrs.length) i).getD (asI (du i)).toNat default)=true:=by rw[hz1];exact(hg _ bmq).1
   have hx2:f7 ((io t (2^t.attrs.length) i).getD (asI ((nA i&&&~~~(du i)))).toNat default)=true:=by rw[hz2];exact(hg _ bmq).1
   have hx3:((io t (2^t.attrs.length) i).getD (asI (du i)).toNat default).rows=((io t (2^t.attrs.length) i).getD (asI ((nA i&&&~~~(du i)))).toNat default).rows:=by rw[hz1,hz2,(hg _ bmq).2,(hg _ bmq).2]
   refine w_5 ?_;(iterate 2 refine rq rfl rfl rfl rfl rfl ?_ (hp:=(by dsimp only;rw[hrv];(repeat' apply And.intro)<;>first|trivial|rfl|exact oi _|exact Nat.lt_trans hrl him|exact bkm.2 (Nat.lt_trans hrl him)|omega)));refine w_4 ?_;(iterate 2 refine rq rfl rfl rfl rfl rfl ?_ (hp:=(by dsimp only;rw[hrv,hdv];(repeat' apply And.intro)<;>first|trivial|rfl|exact oi _|exact Nat.lt_trans hdl him|exact bkm.2 (Nat.lt_trans hdl him)|omega)));refine rc rfl rfl rfl rfl rfl rfl b4f (b4u ((io t (2^t.attrs.length) i).getD (asI (du i)).toNat default) ((io t (2^t.attrs.length) i).getD (asI ((nA i&&&~~~(du i)))).toNat default) hx1 hx2 hx3) (⟨CoC.of_eq (by rw[hrv];rfl),CoC.of_eq (by rw[hrv,hdv];rfl),trivial⟩) rfl rfl ?_;refine w_7 ?_;exact⟨tt,⟨⟨_,rfl,(by first|exact abg him (by simp only[bit]) (aqz hz0) rfl rfl|exact abg him (by simp only[bit]) hpr rfl rfl)⟩,uu⟩⟩
  refine w_8 ?_;refine rc rfl rfl rfl rfl rfl rfl b1s (b5h (jh t i) (hg i him).1) (⟨CoC.of_eq (by show PC.agg [Prt.c ((io t (2^t.attrs.length) (i+1)).getD ((i:Int)).toNat default) 0,Prt.c ((io t (2^t.attrs.length) (i+1)).getD ((i:Int)).toNat default) 1]=_;rw[hzi]),trivial⟩) rfl rfl ?_;refine w_8 ?_;exact lpx (i+1) ⟨tt,⟨⟨_,rfl,(by rw[asb him];exact qo (fun h=>h) a2r.symm (by simp only[bit]) (by rw[a2r];exact him) rfl)⟩,uu⟩⟩
 obtain rfl:i=(2^t.attrs.length):=by omega
 refine w_2 ?_;refine jl 3 1 rfl rfl rfl rfl rfl ?_;refine v_4 ?_;exact⟨CoC.agg ⟨CoP.refl _,(by rw[agz];exact CoP.sl (by rw[<- agz,a2r]) (.inl rfl) (fun h=>h) (fun _ _ _ _=>CoP.refl _)),trivial⟩,trivial⟩
end
section
open Go.RowKit
section
variable {P:Program}{nt:Nat}{ops:Array Oper}{st:HSt}{L:List Nat}{Q:HSt->Prop}{k d:Nat}{o:Oper}{t:TypeId}
theorem ael {x:Operand} {v0 v1:Value} {te:TypeId} {ie:TI} (j:Nat) (hi:ops[k]? = some o) (ht:P.underlying t=some (.array 2 te)) (hte:sj P te=some ie) (hag:ie.k.isAgg=false) (hsz:ie.size=1) (hj:j<2)
 (h:RN P nt ops L ⟨(d,some (.v (.one (.p (.raw (if j=0 then v0 else v1))))))::st.t,st.o⟩ Q)
 (hg:o.guard=none:=by exact rfl) (ho:o.op=.index t x (.const (.int .i64 (j:Int))):=by exact rfl) (hd:o.dst=some d:=by exact rfl) (hdn:c7 nt (some d)=true:=by exact rfl)
 (hx:ev st.den x=some (.v (.agg [.p (.raw v0), .p (.raw v1)])):=by exact rfl):RN P nt ops (k::L) st Q :=
 a9y hi hg hd hdn (fun c hc=>by rw[hc]at ho;cases ho) fun w0 a w c hrr=>by
  obtain⟨us,e1,hl⟩:=af hrr hx
  match us,hl with
  | [u0,u1],⟨⟨q0,o0⟩,⟨q1,o1⟩,_⟩ =>
   subst q0 q1;obtain⟨r,hp⟩:=ud hte [u0,u1] j w;have ez:a.eval (.const (.int .i64 (j:Int)))=.int .i64 (j:Int):=rfl
   have hrun:(Instr.index t (.agg #[u0,u1]) (.int .i64 (j:Int))).run P w=.ok (if j=0 then u0 else u1) w:=by
    have hin:(0:Int)<=(j:Int)/\(j:Int)<((2:Nat):Int):=⟨by omega,by omega⟩;unfold Instr.index;simp only[asIntOf,bjk,bjz,bj4,run_underlying ht,if_pos hin,da hte,hsz,bll,bit]
    grind
   exact⟨if j=0 then u0 else u1,w,st.o, .v (.one (.p (.raw (if j=0 then u0 else u1)))),c,rfl,by simp[execOp,ho,e1,ez,hrun],hrr,(show ej c (HSt.den ⟨st.t,st.o⟩).o (.one (.p (.raw (if j=0 then u0 else u1)))) (if j=0 then u0 else u1) from ⟨rfl,by split<;>assumption⟩),h⟩
end
def mkS(s:AS):Value:=.int .u32 (asI s)
def adg{a b:AS}(h:mkS a=mkS b):a=b:=dq.1 (Value.int.inj h).2
structure WIn (P:Program) (es:Array MapEntry) (clock:Nat) (l:List AS):Prop where
 mx:mz P 35 es clock
 to:∀e∈es.toList,∃s∈l,e.key=mkS s
 at_:∀s∈l,∃e∈es.toList,e.key=mkS s
 vl:∀e∈es.toList,∃a b:Int,e.val=.agg #[.int .i64 a, .int .i64 b]
 sz:es.size<=l.length
section
variable {P:Program}{clock:Nat}
theorem WIn.nil:WIn P #[] clock []:=⟨mz.nil,fun e he=>by simp at he,fun s hs=>by simp at hs,fun e he=>by simp at he,bil _⟩
variable {es:Array MapEntry}{l:List AS}{s:AS}
theorem WIn.put{es':Array MapEntry}{clock':Nat}{a b:Int}(h:WIn P es clock l)(hX:mz P 35 es' clock')(hP:ah7 es es' (mkS s) (.agg #[.int .i64 a, .int .i64 b])):WIn P es' clock' (l++[s]):=by
 refine⟨hX,fun e he=>?_,fun x hx=>?_,fun e he=>?_, ?_⟩
 · rcases hP.to e he with⟨h1,_⟩|⟨h1,_⟩
   · obtain ⟨x,hx,e2⟩:=h.to e h1
     grind
   grind
 · rcases bj1.1 hx with hx|hx
   · obtain ⟨e,he,hk⟩:=h.at_ x hx
     by_cases hq:e.key=mkS s
     · obtain ⟨y,y1,y2,_⟩:=hP.at_
       grind
     obtain⟨y,y1,y2,_⟩:=hP.old e he hq
     grind
   obtain rfl:x=s:=by simpa using hx
   obtain⟨y,y1,y2,_⟩:=hP.at_
   grind
 · rcases hP.to e he with⟨h1,_⟩|⟨_,h1⟩
   · exact h.vl e h1
   grind
 have:=hP.sz;have:=h.sz
 grind
theorem WIn.absent (h:WIn P es clock l) (hn:∀e∈es.toList,e.key≠mkS s):¬s∈l:=fun hs=>by
 obtain⟨e,he,hk⟩:=h.at_ s hs
 grind
theorem WIn.found (h:WIn P es clock l) {e:MapEntry} (he:e∈es.toList) (hk:e.key=mkS s):s∈l:=by
 obtain⟨x,hx,e2⟩:=h.to e he;rw[adg (hk.symm.trans e2)];exact hx
theorem a5x (h:¬s∈f8 l):f8 (l++[s])=f8 l++[s]:=by
 rw[aex];unfold a40
 grind
theorem a6e (h:s∈f8 l):f8 (l++[s])=f8 l:=by
 rw[aex];unfold a40
 grind
theorem aj4:∀{l:List AS},(f8 l).length<=l.length:=by
 have key:∀(l o:List AS),(l.foldl a40 o).length<=o.length+l.length:=by
  intro l
  induction l with
  |nil=>intro o;exact bil _
  | cons x l ih =>
   intro o;have:=ih (a40 o x)
   have h2:(a40 o x).length<=o.length+1:=by
    unfold a40
    grind
   grind
 intro l;have h:=key l [];rw[bmc,bjo]at h;exact h
variable {i:Nat}
theorem aih {l:List Row} {k:Nat}:(jf l i k).length<=(i+1)*l.length:=by
 have h1:∀i,(((List.range i).map (y9 l)).flatten).length<=i*l.length:=by
  intro i
  induction i with
  |zero=>simp
  | succ i ih =>
   rw[bjj,bju,bkk,biq];have:=a4k l i
   grind
 unfold jf;rw[biq];have:=h1 i
 have h2:((y9 l i).take (k-(i+1))).length<=l.length:=by
  rw[bjc,a4k];omega
 grind
def b0v {l:List Row} {k:Nat} (hi:i<l.length) (h:l.length<=1000):(f8 (jf l i k)).length<=1000000:=by
 have h1:=aj4 (l:=jf l i k);have h2:=aih (l:=l) (i:=i) (k:=k);have h3:(i+1)*l.length<=1000*1000:=bmo bmq h;omega
def asv {l:List Row} (h:l.length<=1000):(f8 (prs l)).length<=2000000:=by
 have h1:=aj4 (l:=prs l);have h2:=aih (l:=l) (i:=l.length) (k:=l.length+1);rw[agn]at h2;have h3:(l.length+1)*l.length<=1001*1000:=bmo bmq h;omega
def fp {l:List Row} {j q:Nat} (hk:i+1+j<l.length) (hq:q=i+1+j):jf l i (i+1+(j+1))=jf l i (i+1+j)++[agR (l.getD i default) (l.getD q default)]:=by
 subst hq;exact atk (show i<i+1+j by omega) hk
def a1n{l:List Row}(hi:i<l.length):jf l i (i+1+(l.length-(i+1)))=jf l (i+1) (i+1+1):=atm bmq
variable {av:List AS}{n:Nat}
def a43 (hi:i<(d8 (aj (n:Int))).length):oh n av (i+1)=adn av (oh n av i) ((d8 (aj (n:Int))).getD i default):=by
 unfold oh;rw[ar hi,bj8];rfl
def a0g (hi:i<(d8 (aj (n:Int))).length) (h1:(av.any fun y=>decide (sub ((d8 (aj (n:Int))).getD i default) y))=false) (h2:((oh n av i).any fun y=>decide (sub y ((d8 (aj (n:Int))).getD i default)))=false):
 oh n av (i+1)=oh n av i++[(d8 (aj (n:Int))).getD i default]:=by
 rw[a43 hi];exact if_pos ⟨h1,h2⟩
def w6 (hi:i<(d8 (aj (n:Int))).length) (h1:(av.any fun y=>decide (sub ((d8 (aj (n:Int))).getD i default) y))=true):oh n av (i+1)=oh n av i:=by
 rw[a43 hi];exact if_neg fun e=>by rw[show b5q av _=true from h1]at e;cases e.1
def w3 (hi:i<(d8 (aj (n:Int))).length) (h2:((oh n av i).any fun y=>decide (sub y ((d8 (aj (n:Int))).getD i default)))=true):oh n av (i+1)=oh n av i:=by
 rw[a43 hi];exact if_neg fun e=>by rw[h2]at e;cases e.2
theorem aww:∀{i:Nat},(oh n av i).length<=i:=by
 intro i
 have key:∀(l o:List AS),(l.foldl (adn av) o).length<=o.length+l.length:=by
  intro l
  induction l with
  |nil=>intro o;exact bil _
  | cons x l ih =>
   intro o;have:=ih (adn av o x)
   have h2:(adn av o x).length<=o.length+1:=by
    unfold adn
    grind
   grind
 have h:=key ((d8 (aj (n:Int))).take i) [];have h3:=bkx i (d8 (aj (n:Int)));rw[bmc,bjo]at h;exact bj2 h h3
def aec:(nf l).length<=l.length:=bj2 (bk9 _ _) (w4 l)
def wC (s:AS):Nat->PV
 |0=>asC s
 |_=>.any
end
section
variable {P:Program}{nt:Nat}{ops:Array Oper}{st:HSt}{L:List Nat}{Q:HSt->Prop}{k d:Nat}{o:Oper}{t kt et b mid:Nat}{es:Array MapEntry}{clock:Nat}
def aip {x ix:Operand} {kv:Value} {kl:Lit} {kx:HR} {l:List AS} (hi:ops[k]? = some o) (ht:P.underlying t=some (.map 35 et)) (K:Go.Maps.Keyed P 35) (hz:∀w,(zeroValue et).run P w=.ok (.agg #[.int .i64 0, .int .i64 0]) w) (hW:WIn P es clock l)
 (hkey:keyOf P 35 kv=some kl) (hkv:kOf kx=some kv)
 (h:∀a0 b0:Int,RN P nt ops L ⟨(d,some (.v (.agg [.p (.raw (.int .i64 a0)), .p (.raw (.int .i64 b0))])))::st.t,st.o⟩ Q)
 (hg:o.guard=none:=by exact rfl) (ho:o.op=.lookup t x ix false:=by exact rfl) (hd:o.dst=some d:=by exact rfl) (hdn:c7 nt (some d)=true:=by exact rfl)
 (hx:ev st.den x=some (.v (.one (.ref mid 0))):=by exact rfl) (hm:st.den.o mid=some (mpO b es clock):=by exact rfl) (hk:ev st.den ix=some kx:=by exact rfl):RN P nt ops (k::L) st Q :=
 a95 hi ht K hz rfl hW.mx hkey hkv (fun _=>h 0 0) (fun e he _=>by
  obtain⟨a0,b0,e2⟩:=hW.vl e he;rw[e2]
  exact h a0 b0) hg ho hd hdn hx hm hk
end
end
section
open Go.Proofs
def b8o:a6 bnb 77:=wgx Tryz.func77
def b2p (t:Tbl) (hT:TOk t) (h12:t.attrs.length<=12) (h200:t.rows.length<=200):aa bnb 77 [t.pc,pA 0,pB true] (ag [pI 0]):=by
 refine hpx (nt:=34) Tryz.func77 ?_;have hna:=hT.na;have h0f:∀m:Int,(asI 0).fdiv m=0:=fun m=>Int.zero_fdiv m;refine sx7 ?_;refine m9 0 ?_;refine w_6 ?_;refine qcx a48 (a3m hT) ?_;refine bf6 ?_;refine be rfl rfl ?_ ?_<;>intro r0
 ·
  have h0:=tz1 r0;(iterate 2 refine k9 (gtf r0) ?_);(iterate 2 refine k9 rfl ?_);refine k9 (gtf r0) ?_;refine w_8 ?_;refine hrr ?_
  omega
 have h0:=tz2 r0;(iterate 2 refine qy ?_ (hg:=(gff r0)));refine be rfl rfl ?_ ?_<;>intro r1
 ·
  have h1:=r1;(iterate 2 refine qy ?_ (hg:=(gtt r1)));refine qy ?_ (hg:=(gff r0));refine w_3 ?_;refine az _ rfl ?_ ?_<;>intro r2
  · have h2:=tz1 (dc r1 (ck r0 r2));refine w_4 ?_;refine hrr ?_;omega
  have h2:=tz2 (dc r1 (ck r0 r2));refine w_8 ?_;refine hcn ?_ ?_<;>intro h3
  · refine w_4 ?_;refine hrr ?_;simp_all
  refine v_5 ?_;exact CoL.refl _
 have h1:=r1;(iterate 2 refine k9 (gft r1) ?_);refine rq rfl rfl rfl rfl (gff r0) ?_ (hp:=r1);refine w_3 ?_;refine az _ rfl (fun e=>Bool.noConfusion ((agf r0 rfl).symm.trans e)) (fun _=>?_);refine w_8 ?_
 refine hcn ?_ ?_<;>intro h4
 · refine w_4 ?_;refine hrr ?_;simp_all
 refine v_5 ?_;exact CoL.refl _
def b47:a6 bnb 140:=wgx Tryz.func140
def b0g(a b:Row)(ha:a.vals.length<=16)(hb:b.vals.length=a.vals.length):aa bnb 140 [a.pc,b.pc] (ag [pA (agR a b)]):=by
 refine hpx (nt:=30) Tryz.func140 ?_;refine sx7 ?_;refine m9 0 ?_;refine m9 1 ?_;refine ic ?_;refine bp (ka 3 (ka 9 (ka 10 kn))) (kb 1 km) (fun i=>⟨[(5,some (vA (agT a b i))),(11,some (vI i))],[]⟩) a.vals.length kk ?_;rintro i hi;refine w_5 ?_;refine hcd ?_ ?_<;>intro h0
 ·
  have hil:i<a.vals.length:=by omega
  refine w_8 ?_;refine m9 2 ?_;refine ip ?_;refine qcx b3m (b15 (a.vals.getD i default) (b.vals.getD i default)) ?_;refine w_3 ?_;refine hcd ?_ ?_<;>intro h1
  ·
   refine ip ?_
   first | (refine lpz (i+1) ⟨⟨⟨_, rfl, (nk (by rw[show IntKind.wrap .u32 (1*2^(min ((i : Int)).toNat IntKind.u32.bits))=asI ((1 : AS)<<<i) from ze 1 i, bOr, az2 bmr]))⟩, tt⟩, uu⟩ ?_; show i+1<=_; omega)
         |(refine lpz (i+1) ⟨⟨⟨_,rfl,(nk (by rw[azn bmr]))⟩,tt⟩,uu⟩ ?_;show i+1<=_;omega)
  refine w_5 ?_
  first | (refine lpz (i+1) ⟨⟨⟨_, rfl, (nk (by rw[show IntKind.wrap .u32 (1*2^(min ((i : Int)).toNat IntKind.u32.bits))=asI ((1 : AS)<<<i) from ze 1 i, bOr, az2 bmr]))⟩, tt⟩, uu⟩ ?_; show i+1<=_; omega)
        |(refine lpz (i+1) ⟨⟨⟨_,rfl,(nk (by rw[azn bmr]))⟩,tt⟩,uu⟩ ?_;show i+1<=_;omega)
 obtain rfl:i=a.vals.length:=by omega
 refine v_6 ?_;exact CoL.refl _
def b43:a6 bnb 138:=wgx Tryz.func138
def bdf (y z:AS):aa bnb 138 [pA y,pP (bx (asC z))] (ag [pB (decide (sub z y))]):=by
 refine hpx (nt:=8) Tryz.func138 ?_;refine gz ?_;exact hx8 rfl rfl rfl (⟨ccb (decide_eq_decide.2 gh),trivial⟩)
def b33:a6 bnb 139:=wgx Tryz.func139
def bdp (y z:AS):aa bnb 139 [pA y,pP (bx (asC z))] (ag [pB (decide (sub y z))]):=by
 refine hpx (nt:=8) Tryz.func139 ?_;refine gz ?_;exact hx8 rfl rfl rfl (⟨ccb (decide_eq_decide.2 gh),trivial⟩)
def bas(l:List AS)(z:AS):aa bnb 137 [pP (asl l),pP (.fn 138 1 (fun j=>[bx (asC z)].getD j .any))] (ag [pB (l.any fun y=>decide (sub z y))]):=afo l 138 1 _ _ b43 fun y=>bdf y z
def bcw(l:List AS)(z:AS):aa bnb 137 [pP (asl l),pP (.fn 139 1 (fun j=>[bx (asC z)].getD j .any))] (ag [pB (l.any fun y=>decide (sub y z))]):=afo l 139 1 _ _ b33 fun y=>bdp y z
def b8c:a6 bnb 78:=wgx Tryz.func78
def bb3(n:Nat)(av:List AS)(hn:n<=16):aa bnb 78 [pI (n:Int),pP (asl av)] (ag [pP (asl (b7h n av))]):=by
 refine hpx (nt:=37) Tryz.func78 ?_;have hsl:=ym (aj (n:Int));have h0z:(0:Int)<=(n:Int):=by omega
 have h1z:(n:Int)<=16:=by omega
 refine kg ?_;refine rq rfl rfl rfl rfl rfl ?_ (hp:=⟨x8 h0z h1z,um h0z h1z⟩);refine rc rfl rfl rfl rfl rfl rfl at2 (ayl (aj (n:Int))) (⟨cci (wt h0z h1z),trivial⟩) rfl rfl ?_;refine w_4 ?_;refine d4 5 900 true 1 35 (lf sC []) bmx rfl (CoP.sl rfl (.inr rfl) (fun h=>h) (fun i j hi _=>absurd hi (bip i))) (.inr rfl) rfl ?_;refine bp (ka 1 (ka 13 (ka 14 kn))) km (fun i=>⟨[(5,some (.v (.one (.ref 900 (oh n av i).length)))),(15,some (vI i))],[(900,some (.arr true 1 35 (oh n av i).length (lf sC (oh n av i))))]⟩) ((d8 (aj (n:Int))).length) kk ?_;rintro i hi;have hul:=aww (n:=n) (av:=av) (i:=i);refine w_5 ?_;refine hcd ?_ ?_<;>intro h0
 ·
  have hil:i<(d8 (aj (n:Int))).length:=by omega
  refine w_7 ?_;refine m9 0 ?_;refine w_2 ?_;refine ja 7 rfl rfl rfl ?_;refine w_4 ?_;refine qcx a6q (bas av ((d8 (aj (n:Int))).getD i default)) ?_;refine w_6 ?_;refine qcx a6q (bcw (oh n av i) ((d8 (aj (n:Int))).getD i default)) ?_;refine w_7 ?_;refine be rfl rfl ?_ ?_<;>intro r1
  ·
   have h1:=iu r1;(iterate 2 refine qy ?_ (hg:=(gtt r1)));refine w_2 ?_;refine az _ rfl ?_ ?_<;>intro r2
   ·
    have h2:=iu (dc r1 r2);refine w_3 ?_;refine m9 1 ?_;refine r9 2 true ?_;refine w_6 ?_
    first | (refine lpz (i+1) ⟨⟨⟨_, rfl, (bq (a0g hil bmr bmr))⟩, tt⟩, ⟨⟨_, rfl, (bn (a0g hil bmr bmr) (CoP.refl _))⟩, trivial⟩⟩ ?_; show i+1<=_; omega)
          |(refine lpz (i+1) ⟨⟨⟨_,rfl,(bz (by first|exact w6 hil bmr|exact w3 hil bmr))⟩,tt⟩,⟨⟨_,rfl,(bm (by first|exact w6 hil bmr|exact w3 hil bmr))⟩,trivial⟩⟩ ?_;show i+1<=_;omega)
   have h2:=iz (dc r1 r2);refine w_5 ?_
   first | (refine lpz (i+1) ⟨⟨⟨_, rfl, (bq (a0g hil bmr bmr))⟩, tt⟩, ⟨⟨_, rfl, (bn (a0g hil bmr bmr) (CoP.refl _))⟩, trivial⟩⟩ ?_; show i+1<=_; omega)
         |(refine lpz (i+1) ⟨⟨⟨_,rfl,(bz (by first|exact w6 hil bmr|exact w3 hil bmr))⟩,tt⟩,⟨⟨_,rfl,(bm (by first|exact w6 hil bmr|exact w3 hil bmr))⟩,trivial⟩⟩ ?_;show i+1<=_;omega)
  have h1:=iz r1;(iterate 2 refine k9 (gft r1) ?_);refine w_8 ?_
  first | (refine lpz (i+1) ⟨⟨⟨_, rfl, (bq (a0g hil bmr bmr))⟩, tt⟩, ⟨⟨_, rfl, (bn (a0g hil bmr bmr) (CoP.refl _))⟩, trivial⟩⟩ ?_; show i+1<=_; omega)
        |(refine lpz (i+1) ⟨⟨⟨_,rfl,(bz (by first|exact w6 hil bmr|exact w3 hil bmr))⟩,tt⟩,⟨⟨_,rfl,(bm (by first|exact w6 hil bmr|exact w3 hil bmr))⟩,trivial⟩⟩ ?_;show i+1<=_;omega)
 obtain rfl:i=(d8 (aj (n:Int))).length:=by omega
 refine w_2 ?_;refine bh 5 rfl rfl rfl ?_;refine v_4 ?_;exact⟨CoC.one (CoP.refl _),trivial⟩
def b8m:a6 bnb 80:=wgx Tryz.func80
def bek(t:Tbl)(hT:TOk t):aa bnb 80 [t.pc] (ag [pP (psl 3 wC (nf (f8 (prs t.rows))))]):=by
 refine hpx (nt:=80) Tryz.func80 ?_;have hna:=hT.na;have hnr:=hT.nr;have hpb:=asv hnr;have hml:=aec (l:=f8 (prs t.rows));refine sx7 ?_;refine m9 0 ?_;refine w_3 ?_;refine cr [] [0,1] rfl ?_;refine wu (k:=0) (L:=[1]) 901 rfl (fun bg=>?_);refine ct (E:=cq) (L1:=[1]) (L2:=[]) ca ?_;refine w_2 ?_;refine f0 ?_;refine kg ?_;refine d4 4 900 true 1 35 (lf sC []) bmx rfl (CoP.sl rfl (.inr rfl) (fun h=>h) (fun i j hi _=>absurd hi (bip i))) (.inr rfl) rfl ?_;refine b7 (ι:=Nat×Array MapEntry×Nat) (ka 1 (ka 3 (ka 17 (ka 18 kn)))) (kb 0 km) (fun x=>⟨[(4,some (.v (.one (.ref 900 (f8 (jf t.rows x.1 (x.1+1))).length)))),(19,some (vI x.1))],[(900,some (.arr true 1 35 (f8 (jf t.rows x.1 (x.1+1))).length (lf sC (f8 (jf t.rows x.1 (x.1+1)))))),(901,some (mpO bg x.2.1 x.2.2))]⟩) (fun x=>x.1<=t.rows.length/\WIn bnb x.2.1 x.2.2 (f8 (jf t.rows x.1 (x.1+1)))) (fun x=>t.rows.length-x.1) ((0,#[],0)) (⟨bio _,WIn.nil⟩) kk ?_;rintro⟨i,es,clock⟩ ⟨hi,hW⟩;dsimp only at hi hW ⊢;refine w_5 ?_;refine hcd ?_ ?_<;>intro h0
 ·
  have hir:i<t.rows.length:=by omega
  have hwi:(t.rows.getD i default).vals.length=t.attrs.length:=hT.width hir;have hls:gw (c8 t.rows.length none) (some ((i:Int)+1))=t.rows.length-(i+1):=rfl;refine w_8 ?_;refine m9 1 ?_;refine mf ?_;refine b7 (ι:=Nat×Array MapEntry×Nat) (ka 1 (ka 3 (ka 6 (ka 17 (ka 18 (ka 19 (ka 28 (ka 29 kn)))))))) (kb 0 (kb 1 km)) (fun y=>⟨[(4,some (.v (.one (.ref 900 (f8 (jf t.rows i (i+1+y.1))).length)))),(30,some (vI y.1))],[(900,some (.arr true 1 35 (f8 (jf t.rows i (i+1+y.1))).length (lf sC (f8 (jf t.rows i (i+1+y.1)))))),(901,some (mpO bg y.2.1 y.2.2))]⟩) (fun y=>y.1<=t.rows.length-(i+1)/\WIn bnb y.2.1 y.2.2 (f8 (jf t.rows i (i+1+y.1)))) (fun y=>t.rows.length-(i+1)-y.1) ((0,es,clock)) (⟨bio _,hW⟩) kk ?_;rintro⟨j,es,clock⟩ ⟨hj,hW⟩;dsimp only at hj hW ⊢;have hbd:=b0v (k:=i+1+j) hir hnr;refine w_5 ?_;refine hcd ?_ ?_<;>intro h1
  ·
   have hkr:i+1+j<t.rows.length:=by omega
   have hjk:((i:Int)+1).toNat+j=i+1+j:=by omega
   have hwk:(t.rows.getD (((i:Int)+1).toNat+j) default).vals.length=t.attrs.length:=by rw[hjk];exact hT.width hkr
   refine w_7 ?_;refine m9 2 ?_;refine w_6 ?_;refine qcx b47 (b0g (t.rows.getD i default) (t.rows.getD (((i:Int)+1).toNat+j) default) (by rw[hwi];exact hna) (by rw[hwi,hwk])) ?_;refine w_3 ?_;refine cr [] [0,1,2,3,4,5,6,7,8] rfl ?_;refine ct (E:=cq) (L1:=[0,1]) (L2:=[2,3,4,5,6,7,8]) ca ?_;refine w_3 ?_;refine a1o (mid:=901) (k:=2) (L:=[3,4,5,6,7,8]) rfl Tryz.underlying222 (Go.Maps.int_keyed Tryz.underlying35) Tryz.zeroValue224 rfl hW.mx (Go.Maps.keyOf_int_mk Tryz.underlying35 (wfA _)) rfl (fun ok v hy hn1=>?_)
   obtain ⟨a0,b0,rfl⟩:∃a0 b0:Int,v=.agg #[.int .i64 a0, .int .i64 b0]:=by
    cases ok with
    | true =>
     obtain⟨e,he,hk,rfl⟩:=hy rfl;exact hW.vl e he
    |false=>exact⟨0,0,(hn1 rfl).1⟩
   refine ct (E:=cq) (L1:=[3,4,5,6,7,8]) (L2:=[]) ca ?_;refine w_3 ?_;refine m9 3 ?_;refine w_3 ?_;refine f0 ?_;refine w_5 ?_;refine az _ rfl ?_ ?_<;>intro r2
   ·
    have h2:=iu r2;have hok1:ok=false:=by simpa using r2
    subst hok1;obtain⟨_,hno⟩:=hn1 rfl;have hab:=hW.absent hno;refine f4 ?_;refine cr [] [0,1,2,3,4,5,6,7] rfl ?_;refine ct (E:=cq) (L1:=[0,1,2,3,4,5,6]) (L2:=[7]) ca ?_;refine w_8 ?_;refine wo (mid:=901) (k:=7) (L:=[]) rfl Tryz.underlying222 (Go.Maps.int_keyed Tryz.underlying35) hW.mx (by have:=hW.sz;unfold maxLen;omega) (Go.Maps.keyOf_int_mk Tryz.underlying35 (wfA _)) rfl rfl (fun es3 clock3 hX3 hP=>?_);refine f0 ?_;refine w_3 ?_;refine m9 4 ?_;refine r9 5 true ?_;refine w_6 ?_
    first | (refine lpz (j+1, es3, clock3) ⟨⟨⟨_, rfl, (bq (by rw[fp hkr hjk, a5x hab]))⟩, tt⟩, ⟨⟨_, rfl, (bn (by rw[fp hkr hjk, a5x hab]) (CoP.refl _))⟩, uu⟩⟩ ?_; exact⟨by show j+1<=_; omega, by rw[fp hkr hjk, a5x hab]; exact hW.put hX3 hP⟩)
          |(refine lpz (j+1,es,clock) ⟨⟨⟨_,rfl,(bz (by rw[fp hkr hjk,a6e hfd]))⟩,tt⟩,⟨⟨_,rfl,(bm (by rw[fp hkr hjk,a6e hfd]))⟩,uu⟩⟩ ?_;exact⟨by show j+1<=_;omega,by rw[fp hkr hjk,a6e hfd];exact hW⟩)
   have h2:=iz r2;have hok1:ok=true:=by simpa using r2
   obtain⟨e0,he0,hk0,_⟩:=hy hok1;have hfd:=hW.found he0 hk0;refine w_5 ?_
   first | (refine lpz (j+1, es3, clock3) ⟨⟨⟨_, rfl, (bq (by rw[fp hkr hjk, a5x hab]))⟩, tt⟩, ⟨⟨_, rfl, (bn (by rw[fp hkr hjk, a5x hab]) (CoP.refl _))⟩, uu⟩⟩ ?_; exact⟨by show j+1<=_; omega, by rw[fp hkr hjk, a5x hab]; exact hW.put hX3 hP⟩)
         |(refine lpz (j+1,es,clock) ⟨⟨⟨_,rfl,(bz (by rw[fp hkr hjk,a6e hfd]))⟩,tt⟩,⟨⟨_,rfl,(bm (by rw[fp hkr hjk,a6e hfd]))⟩,uu⟩⟩ ?_;exact⟨by show j+1<=_;omega,by rw[fp hkr hjk,a6e hfd];exact hW⟩)
  obtain rfl:j=t.rows.length-(i+1):=by omega
  refine w_5 ?_;refine lpz (i+1,es,clock) ⟨⟨⟨_,rfl,(bz (by rw[<- a1n hir]))⟩,tt⟩,⟨⟨_,rfl,(bm (by rw[<- a1n hir]))⟩,uu⟩⟩ ?_;exact⟨by show i+1<=_;omega,by rw[<- a1n hir];exact hW⟩
 obtain rfl:i=t.rows.length:=by omega
 refine w_7 ?_;refine bh 4 rfl rfl rfl ?_;refine w_2 ?_;refine rc rfl rfl rfl rfl rfl rfl aro (ah5 (f8 (prs t.rows)) bmq) (⟨CoC.of_eq (by rw[agn];rfl),trivial⟩) rfl rfl ?_;refine w_4 ?_;refine d4 12 902 true 3 221 (lf wC []) bmx rfl (CoP.sl rfl (.inr rfl) (fun h=>h) (fun i j hi _=>absurd hi (bip i))) (.inr rfl) rfl ?_;refine bp (ka 3 (ka 59 (ka 60 kn))) (kb 901 km) (fun i=>⟨[(12,some (.v (.one (.ref 902 ((nf (f8 (prs t.rows))).take i).length)))),(61,some (vI i))],[(902,some (.arr true 3 221 ((nf (f8 (prs t.rows))).take i).length (lf wC ((nf (f8 (prs t.rows))).take i))))]⟩) ((nf (f8 (prs t.rows))).length) kk ?_;rintro i hi;have htl:((nf (f8 (prs t.rows))).take i).length=i:=by rw[bjc];omega
 refine w_5 ?_;refine hcd ?_ ?_<;>intro h3
 ·
  have him:i<(nf (f8 (prs t.rows))).length:=by omega
  refine w_9 ?_;refine cr [] [0,1,2,3,4,5,6,7,8,9,10,11,12,13] rfl ?_;refine ct (E:=cq) (L1:=[0,1,2,3]) (L2:=[4,5,6,7,8,9,10,11,12,13]) ca ?_;refine w_5 ?_;refine aip (mid:=901) (k:=4) (L:=[5,6,7,8,9,10,11,12,13]) rfl Tryz.underlying222 (Go.Maps.int_keyed Tryz.underlying35) Tryz.zeroValue224 hW (Go.Maps.keyOf_int_mk Tryz.underlying35 (wfA _)) rfl (fun a4 b4=>?_);refine ael 0 (k:=5) (L:=[6,7,8,9,10,11,12,13]) rfl Tryz.underlying224 (show sj bnb 2=some ⟨.int .i64,1,8,some [.int .i64 0],false,false,true⟩ by kernel_rfl) rfl rfl bmx ?_;refine ct (E:=cq) (L1:=[6,7]) (L2:=[8,9,10,11,12,13]) ca ?_;refine w_3 ?_;refine aip (mid:=901) (k:=8) (L:=[9,10,11,12,13]) rfl Tryz.underlying222 (Go.Maps.int_keyed Tryz.underlying35) Tryz.zeroValue224 hW (Go.Maps.keyOf_int_mk Tryz.underlying35 (wfA _)) rfl (fun a8 b8=>?_);refine ael 1 (k:=9) (L:=[10,11,12,13]) rfl Tryz.underlying224 (show sj bnb 2=some ⟨.int .i64,1,8,some [.int .i64 0],false,false,true⟩ by kernel_rfl) rfl rfl bmx ?_;refine ct (E:=cq) (L1:=[10,11,12,13]) (L2:=[]) ca ?_;refine qy ?_;refine m9 6 ?_;refine r9 7 true ?_;refine w_2 ?_;refine f0 ?_;refine w_4 ?_;exact lpx (i+1) ⟨⟨⟨_,rfl,(bq (ar him))⟩,tt⟩,⟨⟨_,rfl,(xn (ar him) (CoP.refl _) CoP.any_of CoP.any_of)⟩,uu⟩⟩
 obtain rfl:i=(nf (f8 (prs t.rows))).length:=by omega
 refine w_2 ?_;refine bh 12 rfl rfl rfl ?_;refine v_4 ?_;exact⟨CoC.one (by rw[biz];exact CoP.refl _),trivial⟩
def b8k:a6 bnb 79:=wgx Tryz.func79
def b87 (l:List AS) (hl:l.length<=2000000):aa bnb 79 [pP (psl 3 wC l)] (ag [pP (asl l)]):=by
 refine hpx (nt:=19) Tryz.func79 ?_;refine db ?_;refine j4 0 rfl fun hn=>?_;refine w_6 ?_;refine d4 3 900 true 1 35 (lf sC []) bmx rfl (CoP.sl rfl (.inr rfl) (fun h=>h) (fun i j hi _=>absurd hi (bip i))) (.inr rfl) rfl ?_;refine bp (ka 6 (ka 7 kn)) km (fun i=>⟨[(3,some (.v (.one (.ref 900 (l.take i).length)))),(8,some (vI i))],[(900,some (.arr true 1 35 (l.take i).length (lf sC (l.take i))))]⟩) l.length kk ?_;rintro i hi;have htl:(l.take i).length=i:=by rw[bjc];omega
 refine w_5 ?_;refine hcd ?_ ?_<;>intro h0
 ·
  have hil:i<l.length:=by omega
  refine w_7 ?_;refine m9 0 ?_;refine w_6 ?_;refine m9 1 ?_;refine r9 2 true ?_;refine w_6 ?_;exact lpx (i+1) ⟨⟨⟨_,rfl,(bq (ar hil))⟩,tt⟩,⟨⟨_,rfl,(bn (ar hil) (CoP.refl _))⟩,trivial⟩⟩
 obtain rfl:i=l.length:=by omega
 refine w_2 ?_;refine bh 3 rfl rfl rfl ?_;refine v_4 ?_;exact⟨CoC.one (by rw[biz];exact CoP.refl _),trivial⟩
def b53:a6 bnb 26:=wgx Tryz.func26
def b8a (t:Tbl) (hT:TOk t) (h12:t.attrs.length<=12) (h200:t.rows.length<=200):aa bnb 26 [t.pc] (ag [pP (asl (az8 t)),pI 0]):=by
 refine hpx (nt:=17) Tryz.func26 ?_;have hna:=hT.na;refine sx7 ?_;refine m9 0 ?_;refine w_7 ?_;refine rc rfl rfl rfl rfl rfl rfl b8o (b2p t hT h12 h200) (⟨CoC.refl _,CoC.refl _,CoC.refl _,trivial⟩) rfl rfl ?_;refine ic ?_;refine qcx b8m (bek t hT) ?_;refine qcx b8k (b87 (nf (f8 (prs t.rows))) (bj2 aec (asv hT.nr))) ?_;refine qcx b8c (bb3 t.attrs.length (nf (f8 (prs t.rows))) hna) ?_;refine v_4 ?_;exact⟨CoC.refl _,CoC.refl _,trivial⟩
end
section
section
variable {n:Int}{p m:List Fd}{E:Int->Int->Prop}{R:Rw->Prop}
def bg1(E:Int->Int->Prop)(R:Rw->Prop)(x b:AS):Prop:=∀a c,R a->R c->AgE E a c x->R (j8 a c b)
end
section
variable {n:Int}{p m:List Fd}
end
end
section
def bhr(t:Tbl)(l:List Fd)(i:Nat):List Fd:=(l.take i).filter (mvB t)
def bgv(t:Tbl)(l:List Fd):List Fd:=l.filter (mvB t)
end
section
abbrev rwp(r:Row):PV:=.vp 2 fun j=>[r.c 0,r.c 1].getD j .any
end
end Go.Hx
