/- A part of the proof: Kb4 Kw4 Kb5 Kw5 Kb6 Kw6 Cs44 Kb7 Jc1. -/
import Derived.Test.YtnlcekpflogjkaaGreatDoorTy34
set_option linter.all false
set_option maxRecDepth 100000
set_option maxHeartbeats 1000000
namespace Go.Hx
section
section
variable {cl:List AS}{n:Int}{s:AS}
def aa8 (h4:¬asI s=asI (aa n)) (h5:¬asI (wt n cl s cl.length)=asI s):a2f n cl s=true:=by
 unfold a2f;rw[bt5,decide_eq_true_eq,decide_eq_true_eq];exact⟨fun e=>h4 (by rw[e]),fun e=>h5 (by rw[e])⟩
def a3s (h5:asI (wt n cl s cl.length)=asI s):a2f n cl s=false:=by
 unfold a2f;rw[df.1 h5];simp
def a4b (h4:asI s=asI (aa n)):a2f n cl s=false:=by
 unfold a2f;rw[df.1 h4];simp
def bn7 {i:Nat} (h:i<10):PV.raw (.string (Utf8.encode (97+(i:Int))))=.raw (.string (avm i)):=by
 have:∀i:Fin 10,Utf8.encode (97+(i.val:Int))=avm i.val:=by decide +kernel
 exact congrArg (fun x=>PV.raw (.string x)) (this ⟨i,h⟩)
def bi4{j:Nat}(h:j<32):ct .and .u32 ((asI s).fdiv (2^(min j IntKind.u32.bits))) 1=0<->s.getLsbD j=false:=by
 have e1:(asI s).fdiv (2^(min j IntKind.u32.bits))=asI (s>>>j):=by
  rw[show min j IntKind.u32.bits=j from btz (show j<=32 by omega)];show((s.toNat:Int)).fdiv _=(((s>>>j).toNat:Nat):Int);rw[show(2:Int)^j=((2^j:Nat):Int) by simp,bw9 _ (bv4 _),<- Int.natCast_ediv,bvq,bvm]
 rw[e1,show(1:Int)=asI 1 from rfl,kg];constructor
 · intro h
   have h2:(s>>>j)&&&1=0:=df.1 (h.trans (show(0:Int)=asI 0 from rfl));have h3:=congrArg (fun x:AS=>x.getLsbD 0) h2;simpa using h3
 intro hb
 have:(s>>>j)&&&1=0:=by
  apply bui;intro i hi;have hone:=vr 0 i hi;rw[show(1:AS)<<<0=1 from rfl]at hone;rw[btm,hone];by_cases e:i=0
  · subst e;simp[hb]
  simp[e]
 rw[this];rfl
variable {k:Nat}
def b1l {j:Nat} (h:j<32) (hb:ct .and .u32 ((asI s).fdiv (2^(min j IntKind.u32.bits))) 1=0):PV.raw (.int .i64 (k:Int))=.raw (.int .i64 (ai4 s k j).num):=by
 unfold ai4;rw[if_neg (by rw[(bi4 h).1 hb];simp)]
def azz {j:Nat} (h:j<32) (hb:¬ct .and .u32 ((asI s).fdiv (2^(min j IntKind.u32.bits))) 1=0):PV.raw (.int .i64 0)=.raw (.int .i64 (ai4 s k j).num):=by
 unfold ai4;rw[if_pos (by rw[bi4 h]at hb;simpa using hb)]
def asw{a b:AS}:ct .and .u32 (asI a) (asI b)=asI b<->sub b a:=by
 rw[kg,cz];constructor
 · intro h i hi hb
   have h2:=df.1 h;rw[<- h2,btm,bt5]at hb;exact hb.1
 intro h;refine congrArg asI ?_;apply bui;intro i hi;rw[btm]
 cases hb:b.getLsbD i with
 |true=>rw[h i hi hb];rfl
 |false=>simp
def avn (hk:k<cl.length) (h2:¬asI (cl.getD k default)=asI s) (h3:ct .and .u32 (asI (cl.getD k default)) (asI s)=asI s):
 CoR (.v (.one (.p (.raw (.int .u32 (ct .and .u32 (asI (wt n cl s k)) (asI (cl.getD k default)))))))) (vA (wt n cl s (k+1))) :=
 ip (by rw[kg,a6v hk,aqt,if_pos ⟨fun e=>h2 (by rw[e]),asw.1 h3⟩])
def alx (hk:k<cl.length) (h3:¬ct .and .u32 (asI (cl.getD k default)) (asI s)=asI s):CoR (vA (wt n cl s k)) (vA (wt n cl s (k+1))) :=
 ip (by rw[a6v hk,aqt,if_neg fun e=>h3 (asw.2 e.2)])
def apv (hk:k<cl.length) (h2:asI (cl.getD k default)=asI s):CoR (vA (wt n cl s k)) (vA (wt n cl s (k+1))) :=
 ip (by rw[a6v hk,aqt,if_neg fun e=>e.1 (df.1 h2)])
def zo {α:Type} [Inhabited α] {wr wr':Bool} {e:TypeId} {c:α->Nat->PV} {l l':List α} {x:α} {g:Nat->Nat->PV} (h:l'=l++[x]) (h0:CoP (g 0 0) (c x 0)) (h1:CoP (g 0 1) (c x 1)) (h2:CoP (g 0 2) (c x 2)) (hw:wr'=true->wr=true:=by exact fun h=>h) :
 CoO (.arr wr 3 e (l.length+1) (ep l.length (lf c l) g)) (.arr wr' 3 e l'.length (lf c l')) :=
 vw h (fun j hj=>by
  rcases(by omega:j=0\/j=1\/j=2)with rfl|rfl|rfl
  · exact h0
  · exact h1
  exact h2) rfl hw
def b4s{α:Type}[Inhabited α]{e:TypeId}{c:α->Nat->PV}{x:α}{l:List α}{f:Nat->Nat->PV}(h:CoP (f 0 0) (c x 0)):CoO (.arr true 1 e (1+l.length) (ep 1 f (lf c l))) (.arr true 1 e (x::l).length (lf c (x::l))) :=
 a81 (by rw[bto,Nat.add_comm]) fun i hi=>by
  unfold ep
  cases i with
  |zero=>rw[if_pos bww];exact h
  | succ i =>
   rw[if_neg bww,Nat.add_sub_cancel];exact CoP.of_eq rfl
end
end
section
open Go.Proofs
def bec (n:Nat) (l:List Fd) (hn:n<=10) (hv:cb n l=0):a6 bxn 132 [pI (n:Int),pP (fdl l)] (ae [pI 0]):=by
 refine hpx (nt:=14) Tryz.func132 ?_;refine w_9 ?_;refine qcx a2y (at0 hv) ?_;refine j5 ?_;refine hcd ?_ ?_<;>intro h0
 · exfalso;omega
 refine v_5 ?_;exact CoL.refl _
def apr:goodFn bxn 83:=wgx Tryz.func83
def aqq (n:Nat) (hn:n<=10):a6 bxn 83 [pI (n:Int)] (ae [pA (aa (n:Int))]):=by
 refine hpx (nt:=6) Tryz.func83 ?_;have h0z:(0:Int)<=(n:Int):=by omega
 have h1z:(n:Int)<=16:=by omega
 refine w_8 ?_;refine rq rfl rfl rfl rfl rfl ?_ (hp:=⟨qd h0z h1z,o9 h0z h1z⟩);refine v_2 ?_;exact⟨cci (ph h0z h1z),trivial⟩
def bxk{p:Prop}(h:p:=by first|exact a3s bwx|exact a4b bwx):p:=h
def bpy(n:Nat)(l:List Fd)(hn:n<=10)(hv:cb n l=0):a6 bxn 82 [pI (n:Int),pP (fdl l)] (ae [pP (asl (jz (n:Int) (f5 l (n:Int)))),pI 0]):=by
 refine hpx (nt:=73) Tryz.func82 ?_;have hsl:=xn (aa (n:Int));have hcn:(f5 l (n:Int)).length<=4294967296:=btc (buj _ _) hsl;refine da ?_;refine qcx (wgx Tryz.func132) (bec n l hn hv) ?_;refine jo ?_;refine qcx (wgx Tryz.func133) (b9o n l bww hv) ?_;refine b7q ?_;refine d4 9 900 true 1 50 (lf sC []) bx3 rfl (CoP.sl rfl (.inr rfl) (fun h=>h) (fun i j hi _=>absurd hi (bt1 i))) (.inr rfl) rfl ?_;refine br (ka 0 (ka 7 (ka 30 (ka 31 kn)))) km (fun i=>⟨[(9,some (.v (.one (.ref 900 (a2w (n:Int) (f5 l (n:Int)) i).length)))),(32,some (vI i))],[(900,some (.arr true 1 50 (a2w (n:Int) (f5 l (n:Int)) i).length (lf sC (a2w (n:Int) (f5 l (n:Int)) i))))]⟩) ((f5 l (n:Int)).length) kk ?_;rintro i hi;have hcl:=b6y (n:=(n:Int)) (cl:=f5 l (n:Int)) (i:=i);refine w_5 ?_;refine hcd ?_ ?_<;>intro h0
 ·
  have hil:i<(f5 l (n:Int)).length:=by omega
  refine fh ?_;refine qcx apr (aqq n hn) ?_;refine da ?_;refine br (ka 0 (ka 7 (ka 9 (ka 11 (ka 30 (ka 31 (ka 32 (ka 38 (ka 39 kn))))))))) (kb 900 km) (fun k=>⟨[(12,some (vA (wt (n:Int) (f5 l (n:Int)) ((f5 l (n:Int)).getD i default) k))),(40,some (vI k))],[]⟩) ((f5 l (n:Int)).length) kk ?_;rintro k hk;refine w_5 ?_;refine hcd ?_ ?_<;>intro h1
  ·
   have hkl:k<(f5 l (n:Int)).length:=by omega
   refine j5 ?_;refine ak rfl rfl ?_ ?_<;>intro r2
   ·
    have h2:=tz2 (dt r2);(iterate 5 refine qy ?_ (hg:=(gtt r2)));refine w_2 ?_;refine al _ rfl ?_ ?_<;>intro r3
    · have h3:=tz1 (c5 r2 r3);refine da ?_;exact lpx (k+1) ⟨⟨⟨_,rfl,(by first|exact avn hkl bwx bwx|exact alx hkl bwx|exact apv hkl bwx)⟩,tt⟩,uu⟩
    have h3:=tz2 (c5 r2 r3);refine w_5 ?_;exact lpx (k+1) ⟨⟨⟨_,rfl,(by first|exact avn hkl bwx bwx|exact alx hkl bwx|exact apv hkl bwx)⟩,tt⟩,uu⟩
   have h2:=tz1 (du r2);(iterate 5 refine k9 (gft r2) ?_);refine w_8 ?_
   exact lpx (k+1) ⟨⟨⟨_,rfl,(by first|exact avn hkl bwx bwx|exact alx hkl bwx|exact apv hkl bwx)⟩,tt⟩,uu⟩
  obtain rfl:k=(f5 l (n:Int)).length:=by omega
  refine w_5 ?_;refine qcx apr (aqq n hn) ?_;refine w_2 ?_;refine ak rfl rfl ?_ ?_<;>intro r4
  ·
   have h4:=tz2 (dt r4);(iterate 3 refine qy ?_ (hg:=(gtt r4)));refine w_2 ?_;refine al _ rfl ?_ ?_<;>intro r5
   ·
    have h5:=tz2 (dt (c5 r4 r5));refine w_3 ?_;refine m9 0 ?_;refine r9 1 true ?_;refine w_6 ?_
    first | (refine lpz (i+1) ⟨⟨⟨_, rfl, (bq (a3b hil (aa8 bwx bwx)))⟩, tt⟩, ⟨⟨_, rfl, (bw (a3b hil (aa8 bwx bwx)) (CoP.refl _))⟩, trivial⟩⟩ ?_; show i+1<=_; omega)
          |(refine lpz (i+1) ⟨⟨⟨_,rfl,(bm (a3z hil bxk))⟩,tt⟩,⟨⟨_,rfl,(b6 (a3z hil bxk))⟩,trivial⟩⟩ ?_;show i+1<=_;omega)
   have h5:=tz1 (du (c5 r4 r5));refine w_5 ?_
   first | (refine lpz (i+1) ⟨⟨⟨_, rfl, (bq (a3b hil (aa8 bwx bwx)))⟩, tt⟩, ⟨⟨_, rfl, (bw (a3b hil (aa8 bwx bwx)) (CoP.refl _))⟩, trivial⟩⟩ ?_; show i+1<=_; omega)
         |(refine lpz (i+1) ⟨⟨⟨_,rfl,(bm (a3z hil bxk))⟩,tt⟩,⟨⟨_,rfl,(b6 (a3z hil bxk))⟩,trivial⟩⟩ ?_;show i+1<=_;omega)
  have h4:=tz1 (du r4);(iterate 3 refine k9 (gft r4) ?_);refine w_8 ?_
  first | (refine lpz (i+1) ⟨⟨⟨_, rfl, (bq (a3b hil (aa8 bwx bwx)))⟩, tt⟩, ⟨⟨_, rfl, (bw (a3b hil (aa8 bwx bwx)) (CoP.refl _))⟩, trivial⟩⟩ ?_; show i+1<=_; omega)
        |(refine lpz (i+1) ⟨⟨⟨_,rfl,(bm (a3z hil bxk))⟩,tt⟩,⟨⟨_,rfl,(b6 (a3z hil bxk))⟩,trivial⟩⟩ ?_;show i+1<=_;omega)
 obtain rfl:i=(f5 l (n:Int)).length:=by omega
 refine w_2 ?_;refine bh 9 rfl rfl rfl ?_;refine v_5 ?_;exact⟨CoC.one (CoP.of_eq (by rw[b34];rfl)),CoC.refl _,trivial⟩
def biu(n:Nat)(l:List Fd)(hn:n<=10)(hv:cb n l=0):a6 bxn 30 [pI (n:Int),pP (fdl l)] (ae [(bht (aa (n:Int)::jz (n:Int) (f5 l (n:Int))) n).pc,pI 0]):=by
 refine hpx (nt:=81) Tryz.func30 ?_;have hsl:=xn (aa (n:Int));have hcn:(aa (n:Int)::jz (n:Int) (f5 l (n:Int))).length<=4294967297:=Nat.succ_le_succ (btc (buj _ _) (btc (buj _ _) hsl));have hci:(jz (n:Int) (f5 l (n:Int))).length<=4294967296:=Nat.le_of_succ_le_succ hcn;have hLn:(aa (n:Int)::jz (n:Int) (f5 l (n:Int))).length=(jz (n:Int) (f5 l (n:Int))).length+1:=rfl;refine sx7 ?_;refine m9 0 ?_;refine w_6 ?_;refine qcx (wgx Tryz.func82) (bpy n l hn hv) ?_;refine sv ?_;refine m9 1 ?_;refine w_9 ?_;refine go 1 1 100 true 1 9 (lf ac4 (a0c 0)) bx3 rfl rfl (CoP.sl rfl (.inr rfl) (fun h=>h) (fun i j hi _=>absurd hi (bt1 i))) (.inr rfl) rfl rfl ?_;refine br (ka 0 (ka 4 (ka 6 (ka 8 (ka 26 kn))))) (kb 0 km) (fun i=>⟨[(27,some (vI i))],[(1,some (.box [.p (.raw (.string ⟨#[116]⟩)), .ref 100 (a0c i).length, .p (lp (.slice none 0 0))])),(100,some (.arr true 1 9 (a0c i).length (lf ac4 (a0c i))))]⟩) n kk ?_;rintro i hi;have hl1:=b7k (n:=i);refine w_5 ?_;refine hcd ?_ ?_<;>intro h0
 ·
  have hin:i<n:=by omega
  refine j5 ?_;refine m9 2 ?_;refine r9 3 true ?_;refine w_7 ?_;exact lpx (i+1) ⟨tt,⟨⟨_,rfl,⟨CoP.refl _,congrArg (HV.ref 100) (by rw[aj5,bsy];rfl),CoP.refl _,trivial⟩⟩,⟨_,rfl,(bw aj5 (CoP.of_eq (bn7 bww)))⟩,uu⟩⟩
 obtain rfl:n=i:=by omega
 refine w_3 ?_;refine fm 1 1 rfl rfl rfl rfl rfl ?_;refine w_2 ?_;refine qcx apr (aqq n hn) ?_;refine m9 4 ?_;refine qy ?_;refine r9 5 true ?_;refine w_4 ?_;refine go 1 2 101 true 2 81 (lf Row.c (x6 (aa (n:Int)::jz (n:Int) (f5 l (n:Int))) n 0)) bx3 rfl rfl (CoP.sl rfl (.inr rfl) (fun h=>h) (fun i j hi _=>absurd hi (bt1 i))) (.inr rfl) rfl rfl ?_;refine br (ka 0 (ka 4 (ka 8 (ka 45 kn)))) (kb 0 km) (fun k=>⟨[(46,some (vI k)),(44,some (.v (.one (.ref 4 (aa (n:Int)::jz (n:Int) (f5 l (n:Int))).length))))],[(4,some (.arr true 1 50 (aa (n:Int)::jz (n:Int) (f5 l (n:Int))).length (lf sC (aa (n:Int)::jz (n:Int) (f5 l (n:Int)))))),(1,some (.box [.p (.raw (.string ⟨#[116]⟩)), .p (ya (a0c n)), .ref 101 (x6 (aa (n:Int)::jz (n:Int) (f5 l (n:Int))) n k).length])),(101,some (.arr true 2 81 (x6 (aa (n:Int)::jz (n:Int) (f5 l (n:Int))) n k).length (lf Row.c (x6 (aa (n:Int)::jz (n:Int) (f5 l (n:Int))) n k))))]⟩) ((aa (n:Int)::jz (n:Int) (f5 l (n:Int))).length) ⟨⟨zy,⟨_,rfl,(CoR.of_eq (by rw[Nat.add_comm];rfl))⟩,trivial⟩,⟨⟨_,rfl,(b4s (CoP.refl _))⟩,uu⟩⟩ ?_;rintro k hk;have hl2:=b04 (l:=(aa (n:Int)::jz (n:Int) (f5 l (n:Int)))) (n:=n) (k:=k);refine w_5 ?_;refine hcd ?_ ?_<;>intro h1
 ·
  have hkl:k<(aa (n:Int)::jz (n:Int) (f5 l (n:Int))).length:=by omega
  refine ov ?_;refine m9 6 ?_;refine w_9 ?_;refine go 6 1 102 true 3 84 (lf Val.c (xd ((aa (n:Int)::jz (n:Int) (f5 l (n:Int))).getD k default) k 0)) bx3 rfl rfl (CoP.sl rfl (.inr rfl) (fun h=>h) (fun i j hi _=>absurd hi (bt1 i))) (.inr rfl) rfl rfl ?_;refine br (ka 0 (ka 4 (ka 8 (ka 10 (ka 11 (ka 12 (ka 44 (ka 45 (ka 46 (ka 54 kn)))))))))) (kb 4 (kb 1 (kb 101 (kb 0 km)))) (fun j=>⟨[(55,some (vI j))],[(6,some (.box [.p (.raw (.int .i64 ((k:Int)+1))), .ref 102 (xd ((aa (n:Int)::jz (n:Int) (f5 l (n:Int))).getD k default) k j).length])),(102,some (.arr true 3 84 (xd ((aa (n:Int)::jz (n:Int) (f5 l (n:Int))).getD k default) k j).length (lf Val.c (xd ((aa (n:Int)::jz (n:Int) (f5 l (n:Int))).getD k default) k j))))]⟩) n kk ?_;rintro j hj;have hl3:=ayc (s:=((aa (n:Int)::jz (n:Int) (f5 l (n:Int))).getD k default)) (k:=k) (n:=j);refine w_5 ?_;refine hcd ?_ ?_<;>intro h2
  ·
   have hjn:j<n:=by omega
   refine ig ?_;refine m9 7 ?_;refine ig ?_;refine hcd ?_ ?_<;>intro h3
   ·
    refine w_9 ?_;refine m9 8 ?_;refine r9 9 true ?_;refine w_7 ?_
    first | (refine lpz (j+1) ⟨tt, ⟨⟨_, rfl, ⟨CoP.refl _, congrArg (HV.ref 102) (by rw[mq, bsy]; rfl), trivial⟩⟩, ⟨_, rfl, (zo mq (CoP.refl _) (CoP.of_eq (b1l bww bwx)) (CoP.refl _))⟩, uu⟩⟩ ?_; show j+1<=_; omega)
          |(refine lpz (j+1) ⟨tt,⟨⟨_,rfl,⟨CoP.refl _,congrArg (HV.ref 102) (by rw[mq,bsy];rfl),trivial⟩⟩,⟨_,rfl,(zo mq (CoP.refl _) (CoP.of_eq (azz bww bwx)) (CoP.refl _))⟩,uu⟩⟩ ?_;show j+1<=_;omega)
   refine w_5 ?_;refine m9 10 ?_;refine r9 11 true ?_;refine w_7 ?_
   first | (refine lpz (j+1) ⟨tt, ⟨⟨_, rfl, ⟨CoP.refl _, congrArg (HV.ref 102) (by rw[mq, bsy]; rfl), trivial⟩⟩, ⟨_, rfl, (zo mq (CoP.refl _) (CoP.of_eq (b1l bww bwx)) (CoP.refl _))⟩, uu⟩⟩ ?_; show j+1<=_; omega)
         |(refine lpz (j+1) ⟨tt,⟨⟨_,rfl,⟨CoP.refl _,congrArg (HV.ref 102) (by rw[mq,bsy];rfl),trivial⟩⟩,⟨_,rfl,(zo mq (CoP.refl _) (CoP.of_eq (azz bww bwx)) (CoP.refl _))⟩,uu⟩⟩ ?_;show j+1<=_;omega)
  obtain rfl:n=j:=by omega
  refine ck ?_;refine fm 6 1 rfl rfl rfl rfl rfl ?_;refine w_4 ?_;refine m9 12 ?_;refine r9 13 true ?_;refine w_7 ?_;exact lpx (k+1) ⟨tt,⟨u9,⟨_,rfl,⟨CoP.refl _,CoP.refl _,congrArg (HV.ref 101) (by rw[ag5,bsy];rfl),trivial⟩⟩,⟨_,rfl,(ij ag5 (CoP.refl _) (CoP.refl _))⟩,uu⟩⟩
 obtain rfl:k=(aa (n:Int)::jz (n:Int) (f5 l (n:Int))).length:=by omega
 refine w_2 ?_;refine fm 1 2 rfl rfl rfl rfl rfl ?_;refine v_5 ?_;exact⟨CoC.agg ⟨CoP.refl _,CoP.refl _,CoP.refl _,trivial⟩,CoC.refl _,trivial⟩
end
section
section
variable {i:Nat}
theorem a31 (h:i<4294967296):asI (nA i)=(i:Int):=by
 show(((BitVec.ofNat 32 i).toNat:Nat):Int)=i
 grind
variable {n:Nat}
theorem b8j (h1:n<=16):IntKind.wrap .u32 (1*2^(min n IntKind.u32.bits))=((2^n:Nat):Int):=by
 have h2:2^n<=2^16:=buu bww h1;rw[show IntKind.wrap .u32 (1*2^(min n IntKind.u32.bits))=asI ((1:AS)<<<n) from a00 1 n];show(((1:AS)<<<n).toNat:Int)=_;rw[BitVec.toNat_shiftLeft,Nat.shiftLeft_eq]
 grind
def aes(h:n<=16):2^n<=65536:=buu bww h
variable {k:Nat}
theorem af2 {n:Int} (h:((bsz (nA i):Nat):Int)=(k:Int)):w7 n k (i+1)=w7 n k i++[nA i]:=by
 unfold w7;rw[bu7,bum,buo]
 grind
theorem aeu {n:Int} (h:¬((bsz (nA i):Nat):Int)=(k:Int)):w7 n k (i+1)=w7 n k i:=by
 unfold w7;rw[bu7,bum,buo]
 grind
theorem ap9 {n:Int}:(w7 n k i).length<=i:=by
 unfold w7
 grind
abbrev b3q(rk:List Int)(n:Nat):PC:=.agg [.raw (.int .i64 (n:Int)),zl rk]
theorem a6k (h:i<4294967296):(nA i).toNat=i:=by
 unfold nA
 grind
variable {s:AS}
def avf (h:s.toNat<2^n):∀z,s.getLsbD z=true->z<n:=fun z hz=>by
 rw[<- BitVec.testBit_toNat]at hz
 exact Nat.lt_of_not_le fun hn=>by
  have:=Nat.ge_two_pow_of_testBit hz;have:=buu (show 0<2 by omega) hn;omega
theorem bf6 (h:∀z,s.getLsbD z=true->z<n):s.toNat<2^n:=by
 refine Nat.lt_pow_two_of_testBit _ fun i hi=>?_;rw[BitVec.testBit_toNat,btb]
 grind
variable {a:Nat}
def bkf (hs:s.toNat<2^n) (ha:a<n) (hn:n<=32):(s|||((1:AS)<<<a)).toNat<2^n:=bf6 fun z hz=>by
 have hz32:z<32:=BitVec.lt_of_getLsbD hz;rw[bv7,vr a z hz32,bud,decide_eq_true_eq]at hz
 rcases hz with h|h
 · exact avf hs z h
 omega
def ba7 (hn:n<=16) (hi:i<(kr n k).length):((kr n k).getD i default).toNat<2^n:=by
 rw[c4 _ _ hi];have hm:=bta hi;unfold kr w7 at hm;obtain⟨h1,_⟩:=bul.1 hm;obtain⟨j,hj,e⟩:=bti.1 h1;have hj:=btj.1 hj;have:=aes hn;rw[show(kr n k)[i]=nA j from e.symm,a6k bww];exact hj
def anf(hn:n<=16):(kr n k).length<=65536:=btc ap9 (aes hn)
theorem bhr {j:Nat} (h:j<32):ct .and .u32 ((asI s).fdiv (2^(min j IntKind.u32.bits))) 1=1<->s.getLsbD j=true:=by
 have e1:(asI s).fdiv (2^(min j IntKind.u32.bits))=asI (s>>>j):=by
  rw[show min j IntKind.u32.bits=j from btz (show j<=32 by omega)];show((s.toNat:Int)).fdiv _=(((s>>>j).toNat:Nat):Int);rw[show(2:Int)^j=((2^j:Nat):Int) by simp,bw9 _ (bv4 _),<- Int.natCast_ediv,bvq,bvm]
 have hb:ct .and .u32 ((asI s).fdiv (2^(min j IntKind.u32.bits))) 1=asI ((s>>>j)&&&1):=by rw[e1,show(1:Int)=asI 1 from rfl,kg]
 have hv:(s>>>j)&&&1=if s.getLsbD j=true then 1 else 0:=by
  grind
 grind
variable {out:List AS}{rk:List Int}
def acy {j:Nat} (hj:j<(kr n k).length):mnK rk n a out k (j+1)=mnA rk a (mnK rk n a out k j) ((kr n k).getD j default):=by
 unfold mnK;rw[aj hj,btq];rfl
def abn:mnT rk n a (k+1)=mnK rk n a (mnT rk n a k) k (kr n k).length:=by
 unfold mnT;rw[bu7,btq];rfl
theorem bf4:(mnA rk a out s).length<=out.length+1:=by
 unfold mnA
 grind
def aht:∀{j:Nat},j<=(kr n k).length->(mnK rk n a out k j).length<=out.length+j
 |0,_=>bsw _
 | j+1,hj=>by
  rw[acy hj];have:(mnK rk n a out k j).length<=out.length+j:=aht bww;have:=bf4 (rk:=rk) (a:=a) (out:=mnK rk n a out k j) (s:=(kr n k).getD j default);omega
def ate (hn:n<=16):∀{k:Nat},(mnT rk n a k).length<=65536*k
 |0=>bsw _
 | k+1=>by
  rw[abn];have:(mnT rk n a k).length<=65536*k:=ate hn;have:=aht (rk:=rk) (n:=n) (a:=a) (k:=k) (out:=mnT rk n a k) (bsw _);have:=anf (k:=k) hn;omega
def a1o{j:Nat}(hj:j<(kr n k).length)(h:mnA rk a (mnK rk n a out k j) ((kr n k).getD j default)=mnK rk n a out k j++[(kr n k).getD j default]):mnK rk n a out k (j+1)=mnK rk n a out k j++[(kr n k).getD j default]:=(acy hj).trans h
def a11{j:Nat}(hj:j<(kr n k).length)(h:mnA rk a (mnK rk n a out k j) ((kr n k).getD j default)=mnK rk n a out k j):mnK rk n a out k (j+1)=mnK rk n a out k j:=(acy hj).trans h
def a1u(ha:a<32)(h:ct .and .u32 ((asI s).fdiv (2^(min a IntKind.u32.bits))) 1=1):mnA rk a out s=out:=if_pos (.inl ((bhr ha).1 h))
def a1k(h:(out.any fun m=>decide (sub m s))=true):mnA rk a out s=out:=if_pos (.inr (.inl h))
def a1d(h:aw7 rk s a=false):mnA rk a out s=out:=if_pos (.inr (.inr h))
theorem a6j (ha:a<32) (h1:¬ct .and .u32 ((asI s).fdiv (2^(min a IntKind.u32.bits))) 1=1) (h2:(out.any fun m=>decide (sub m s))=false) (h3:aw7 rk s a=true):mnA rk a out s=out++[s]:=if_neg (by
 rintro(h|h|h)
 · exact h1 ((bhr ha).2 h)
 · grind
 rw[h3]at h;cases h)
end
end
section
open Go.Proofs
def bgu(n k:Nat)(hn:n<=16)(hk:k<=n):a6 bxn 186 [pI (n:Int),pI (k:Int)] (ae [pP (asl (kr n k)),pI 0]):=by
 refine hpx (nt:=38) Tryz.func186 ?_;have hp:=aes hn;have hs:=b8j hn;refine ig ?_;refine ak rfl rfl ?_ ?_<;>intro r0
 ·
  have h0:=tz1 r0;(iterate 2 refine k9 (gtf r0) ?_);refine w_2 ?_;(iterate 2 refine k9 rfl ?_);refine w_2 ?_;(iterate 3 refine k9 rfl ?_);refine w_8 ?_;refine hrr ?_
  omega
 have h0:=tz2 r0;(iterate 2 refine qy ?_ (hg:=(gff r0)));refine w_2 ?_;refine ak rfl rfl ?_ ?_<;>intro r1
 ·
  have h1:=tz1 (ax r0 r1);(iterate 2 refine k9 (gtf r1) ?_);refine w_2 ?_;(iterate 3 refine k9 rfl ?_);refine w_8 ?_;refine hrr ?_
  omega
 have h1:=tz2 (ax r0 r1);(iterate 2 refine qy ?_ (hg:=(gff r1)));refine w_2 ?_;refine ak rfl rfl ?_ ?_<;>intro r2
 ·
  have h2:=tz1 (ax r1 r2);(iterate 3 refine k9 (gtf r2) ?_);refine w_8 ?_;refine hrr ?_
  omega
 have h2:=tz2 (ax r1 r2);(iterate 3 refine qy ?_ (hg:=(gff r2)));refine w_2 ?_;refine al _ rfl ?_ ?_<;>intro r3
 · have h3:=tz1 (ax r2 r3);exfalso;simp_all;omega
 have h3:=tz2 (ax r2 r3);refine ig ?_;refine d4 6 900 true 1 50 (lf sC []) bx3 rfl (CoP.sl rfl (.inr rfl) (fun h=>h) (fun i j hi _=>absurd hi (bt1 i))) (.inr rfl) rfl ?_;refine br (ka 0 (ka 1 kn)) km (fun i=>⟨[(6,some (.v (.one (.ref 900 (w7 (n:Int) k i).length)))),(7,some (.v (.one (.p (.raw (.int .u32 (i:Int)))))))],[(900,some (.arr true 1 50 (w7 (n:Int) k i).length (lf sC (w7 (n:Int) k i))))]⟩) (2^n) kk ?_;rintro i hi;have hll:=ap9 (n:=(n:Int)) (k:=k) (i:=i);refine w_8 ?_;refine hcd ?_ ?_<;>intro h4
 ·
  have hi2:i<2^n:=by omega
  refine w_6 ?_;refine rc rfl rfl rfl rfl rfl rfl a3y (adp (nA i)) (⟨cci (a31 bww).symm,trivial⟩) rfl rfl ?_;refine w_3 ?_;refine hcd ?_ ?_<;>intro h5
  ·
   refine w_3 ?_;refine m9 0 ?_;refine r9 1 true ?_;refine w_7 ?_
   first | (refine lpz (i+1) ⟨⟨⟨_, rfl, (bq (af2 bwx))⟩, tt⟩, ⟨⟨_, rfl, (bw (af2 bwx) (CoP.of_eq (congrArg (fun x => PV.raw (.int .u32 x)) (a31 bww).symm)))⟩, trivial⟩⟩ ?_; show i+1<=_; omega)
         |(refine lpz (i+1) ⟨⟨⟨_,rfl,(bm (aeu bwx))⟩,tt⟩,⟨⟨_,rfl,(b6 (aeu bwx))⟩,trivial⟩⟩ ?_;show i+1<=_;omega)
  refine w_6 ?_
  first | (refine lpz (i+1) ⟨⟨⟨_, rfl, (bq (af2 bwx))⟩, tt⟩, ⟨⟨_, rfl, (bw (af2 bwx) (CoP.of_eq (congrArg (fun x => PV.raw (.int .u32 x)) (a31 bww).symm)))⟩, trivial⟩⟩ ?_; show i+1<=_; omega)
        |(refine lpz (i+1) ⟨⟨⟨_,rfl,(bm (aeu bwx))⟩,tt⟩,⟨⟨_,rfl,(b6 (aeu bwx))⟩,trivial⟩⟩ ?_;show i+1<=_;omega)
 obtain rfl:i=2^n:=by omega
 refine w_2 ?_;refine bh 6 rfl rfl rfl ?_;refine v_5 ?_;exact⟨CoC.one (CoP.refl _),CoC.refl _,trivial⟩
def bo5 (t:Tbl) (hT:TOk t) (h10:t.attrs.length<=10) (h200:t.rows.length<=200):a6 bxn 134 [t.pc] (ae [pI 0]):=by
 refine hpx (nt:=19) Tryz.func134 ?_;have hna:=hT.na;have hnr:=hT.nr;refine sx7 ?_;refine m9 0 ?_;refine w_6 ?_;refine qcx af7 (alu hT) ?_;refine sv ?_;refine ak rfl rfl ?_ ?_<;>intro r0
 ·
  have h0:=tz1 r0;(iterate 4 refine k9 (gtf r0) ?_);refine w_7 ?_;refine hrr ?_
  omega
 have h0:=tz2 r0;(iterate 4 refine qy ?_ (hg:=(gff r0)));refine w_2 ?_;refine al _ rfl ?_ ?_<;>intro r1
 · have h1:=tz1 (ax r0 r1);refine w_4 ?_;refine hrr ?_;omega
 have h1:=tz2 (ax r0 r1);refine v_5 ?_;exact CoL.refl _
def bou (q:List Int) (n:Nat) (s:AS) (a:Nat) (hn:n<=16) (hr:q.length=2^n) (hs:s.toNat<2^n) (ha:a<n):a6 bxn 188 [b3q q n,pA s,pI (a:Int)] (ae [pB (aw7 q s a)]):=by
 refine hpx (nt:=21) Tryz.func188 ?_;have ho:=bkf hs ha bww;have e:ct .or .u32 (asI s) (IntKind.wrap .u32 (1*2^(min ((a:Int)).toNat IntKind.u32.bits)))=asI (s|||((1:AS)<<<a)):=by rw[show IntKind.wrap .u32 (1*2^(min ((a:Int)).toNat IntKind.u32.bits))=asI ((1:AS)<<<a) from a00 1 a,bOr]
 refine sx7 ?_;refine m9 0 ?_;refine w_7 ?_;refine rq rfl rfl rfl rfl rfl ?_ (hp:=⟨rfl,t6 s,by rw[hr];exact Int.ofNat_lt.2 hs⟩);refine w_7 ?_;refine rq rfl rfl rfl rfl rfl ?_ (hp:=⟨rfl,by rw[e];exact t6 _,by rw[e,hr];exact Int.ofNat_lt.2 ho⟩);refine v_5 ?_;exact⟨ccb (by rw[e];rfl),trivial⟩
def bpl (y z:AS):a6 bxn 187 [pA y,pP (bx (asC z))] (ae [pB (decide (sub y z))]):=by
 refine hpx (nt:=8) Tryz.func187 ?_;refine fh ?_;exact hx8 rfl rfl rfl (⟨ccb (decide_eq_decide.2 j1),trivial⟩)
def bml(l:List AS)(z:AS):a6 bxn 67 [pP (asl l),pP (.fn 187 1 (fun j=>[bx (asC z)].getD j .any))] (ae [pB (l.any fun y=>decide (sub y z))]):=alc l 187 1 _ _ (wgx Tryz.func187) fun y=>bpl y z
def bxi{p:Prop}(h:p:=by first|exact a1u bww bwx|exact a1k bwx|exact a1d bwx):p:=h
def bnp(q:List Int)(n a:Nat)(hn:n<=16)(hr:q.length=2^n)(ha:a<n):a6 bxn 136 [b3q q n,pI (a:Int),pI 16] (ae [pP (asl (mnL q n a))]):=by
 refine hpx (nt:=54) Tryz.func136 ?_;refine sx7 ?_;refine m9 0 ?_;refine fh ?_;refine d4 7 900 true 1 50 (lf sC []) bx3 rfl (CoP.sl rfl (.inr rfl) (fun h=>h) (fun i j hi _=>absurd hi (bt1 i))) (.inr rfl) rfl ?_;refine br (ka 1 (ka 2 (ka 3 kn))) (kb 0 km) (fun k=>⟨[(7,some (.v (.one (.ref 900 (mnT q n a k).length)))),(8,some (vI k))],[(900,some (.arr true 1 50 (mnT q n a k).length (lf sC (mnT q n a k))))]⟩) (n+1) kk ?_;rintro k hk;have htl:=ate (rk:=q) (a:=a) hn (k:=k);refine da ?_;refine hcd ?_ ?_<;>intro h0
 ·
  have hkn:k<=n:=by omega
  have hll:=anf (k:=k) hn;refine w_8 ?_;refine qcx (wgx Tryz.func186) (bgu n k hn bww) ?_;refine jo ?_;refine br (ka 1 (ka 2 (ka 3 (ka 8 (ka 28 (ka 29 kn)))))) (kb 0 km) (fun j=>⟨[(7,some (.v (.one (.ref 900 (mnK q n a (mnT q n a k) k j).length)))),(30,some (vI j))],[(900,some (.arr true 1 50 (mnK q n a (mnT q n a k) k j).length (lf sC (mnK q n a (mnT q n a k) k j))))]⟩) ((kr n k).length) kk ?_;rintro j hj;have hkl:=aht (rk:=q) (n:=n) (a:=a) (k:=k) (out:=mnT q n a k) hj;refine w_5 ?_;refine hcd ?_ ?_<;>intro h1
  ·
   have hjl:j<(kr n k).length:=by omega
   have hsl:=ba7 hn hjl;refine w_7 ?_;refine m9 1 ?_;refine w_2 ?_;refine jb 12 rfl rfl rfl ?_;refine w_9 ?_;refine ak rfl rfl ?_ ?_<;>intro r2
   ·
    have h2:=tz1 r2;(iterate 3 refine k9 (gtf r2) ?_);refine w_8 ?_
    first | (refine lpz (j+1) ⟨⟨⟨_, rfl, (bq (a1o hjl (a6j bww bwx bwx bwx)))⟩, tt⟩, ⟨⟨_, rfl, (bw (a1o hjl (a6j bww bwx bwx bwx)) (CoP.refl _))⟩, uu⟩⟩ ?_; show j+1<=_; omega)
          |(refine lpz (j+1) ⟨⟨⟨_,rfl,(bm (a11 hjl bxi))⟩,tt⟩,⟨⟨_,rfl,(b6 (a11 hjl bxi))⟩,uu⟩⟩ ?_;show j+1<=_;omega)
   have h2:=tz2 r2;(iterate 2 refine qy ?_ (hg:=(gff r2)));refine qcx afl (bml (mnK q n a (mnT q n a k) k j) ((kr n k).getD j default)) ?_ (hg:=(gff r2));refine w_2 ?_;refine al _ rfl ?_ ?_<;>intro r3
   ·
    have h3:=ax r2 r3;refine w_5 ?_
    first | (refine lpz (j+1) ⟨⟨⟨_, rfl, (bq (a1o hjl (a6j bww bwx bwx bwx)))⟩, tt⟩, ⟨⟨_, rfl, (bw (a1o hjl (a6j bww bwx bwx bwx)) (CoP.refl _))⟩, uu⟩⟩ ?_; show j+1<=_; omega)
          |(refine lpz (j+1) ⟨⟨⟨_,rfl,(bm (a11 hjl bxi))⟩,tt⟩,⟨⟨_,rfl,(b6 (a11 hjl bxi))⟩,uu⟩⟩ ?_;show j+1<=_;omega)
   have h3:=ax r2 r3;refine w_6 ?_;refine qcx (wgx Tryz.func188) (bou q n ((kr n k).getD j default) a hn hr hsl ha) ?_;refine cj ?_;refine hcb ?_ ?_<;>intro h4
   ·
    refine w_3 ?_;refine m9 2 ?_;refine r9 3 true ?_;refine w_6 ?_
    first | (refine lpz (j+1) ⟨⟨⟨_, rfl, (bq (a1o hjl (a6j bww bwx bwx bwx)))⟩, tt⟩, ⟨⟨_, rfl, (bw (a1o hjl (a6j bww bwx bwx bwx)) (CoP.refl _))⟩, uu⟩⟩ ?_; show j+1<=_; omega)
          |(refine lpz (j+1) ⟨⟨⟨_,rfl,(bm (a11 hjl bxi))⟩,tt⟩,⟨⟨_,rfl,(b6 (a11 hjl bxi))⟩,uu⟩⟩ ?_;show j+1<=_;omega)
   refine w_5 ?_
   first | (refine lpz (j+1) ⟨⟨⟨_, rfl, (bq (a1o hjl (a6j bww bwx bwx bwx)))⟩, tt⟩, ⟨⟨_, rfl, (bw (a1o hjl (a6j bww bwx bwx bwx)) (CoP.refl _))⟩, uu⟩⟩ ?_; show j+1<=_; omega)
         |(refine lpz (j+1) ⟨⟨⟨_,rfl,(bm (a11 hjl bxi))⟩,tt⟩,⟨⟨_,rfl,(b6 (a11 hjl bxi))⟩,uu⟩⟩ ?_;show j+1<=_;omega)
  obtain rfl:j=(kr n k).length:=by omega
  refine w_6 ?_;exact lpx (k+1) ⟨⟨⟨_,rfl,(CoR.of_eq (by rw[abn]))⟩,tt⟩,⟨⟨_,rfl,(CoO.of_eq (by rw[abn]))⟩,uu⟩⟩
 obtain rfl:k=n+1:=by omega
 refine w_2 ?_;refine bh 7 rfl rfl rfl ?_;refine v_4 ?_;exact⟨CoC.one (CoP.refl _),trivial⟩
end
section
def k8(t:Tbl)(k:Nat):Prt:=bkp t (a5q t k) k
section
variable {t:Tbl}
def a96:∀{m k:Nat},k<m->(a5q t m).getD k default=k8 t k
 | m+1,k,h=>by
  rw[a5q];by_cases e:k<m
  · rw[c4 _ _ (by rw[bsy,ng];omega),List.getElem_append_left (by rw[ng];exact e),<- c4 (a5q t m) k (by rw[ng];exact e),a96 e]
  obtain rfl:k=m:=by omega
  rw[c4 _ _ (by rw[bsy,ng];simp),List.getElem_append_right (by rw[ng];omega)];simp[ng,k8]
def jj(t:Tbl)(m i:Nat):List Prt:=(List.range m).map fun k=>if k<i then k8 t k else⟨0,[]⟩
variable {i m:Nat}
def a5u:(jj t m i).length=m:=by simp[jj]
def ah5 {k:Nat} (hk:k<m) (hi:k<i):(jj t m i).getD k default=k8 t k:=by
 rw[c4 _ _ (by rw[a5u];exact hk)];simp[jj,hi]
def az7 (hi:i<m):jj t m (i+1)=(jj t m i).set i (k8 t i):=by
 refine bv1 (by simp[jj]) fun k h1 h2=>?_;rw[bvo];simp only[jj,bvj,bv9];by_cases e:i=k
 · subst e;rw[if_pos bww,if_pos rfl]
 rw[if_neg e];by_cases h:k<i
 · rw[if_pos bww,if_pos h]
 rw[if_neg bww,if_neg h]
def a06(t:Tbl)(m i:Nat):List Int:=(List.range m).map fun k=>if k<i then awo (k8 t k)else 0
def a5p:(a06 t m i).length=m:=by simp[a06]
def azx (hi:i<m):a06 t m (i+1)=(a06 t m i).set i (awo (k8 t i)):=by
 refine bv1 (by simp[a06]) fun k h1 h2=>?_;rw[bvo];simp only[a06,bvj,bv9];by_cases e:i=k
 · subst e;rw[if_pos bww,if_pos rfl]
 rw[if_neg e];by_cases h:k<i
 · rw[if_pos bww,if_pos h]
 rw[if_neg bww,if_neg h]
def amc:a06 t (2^t.attrs.length) (2^t.attrs.length)=ap t:=by
 unfold ap avt a06;refine bv1 (by simp[ng]) fun k h1 h2=>?_;have hk:k<2^t.attrs.length:=by simpa using h1
 simp only[bvj,bv9,if_pos hk];rw[<- a96 hk,c4 _ _ (by rw[ng];exact hk)]
def bm4 (hi:i<m):lf zC (a06 t m 0) i 0=.raw (.int .i64 0):=by
 unfold lf;rw[c4 _ _ (by rw[a5p];exact hi)];simp[a06,zC]
def ayl (hi:i<m):(jj t m 0).getD i default=⟨0,[]⟩:=by
 rw[c4 _ _ (by rw[a5u];exact hi)];simp[jj]
def bma (hi:i<m):lf Prt.c (jj t m 0) i 0=.raw (.int .i64 0):=by
 unfold lf;rw[ayl hi];rfl
def bmv (hi:i<m):lf Prt.c (jj t m 0) i 1=ill []:=by
 unfold lf;rw[ayl hi];rfl
def bkz (h:i<4294967296):IntKind.wrap .u32 ((i:Int)-1)=asI (nA i-1):=by
 show _=(((nA i-1).toNat:Nat):Int);rw[BitVec.toNat_sub,a6k h];unfold IntKind.wrap
 cases i with
 |zero=>decide
 | succ i =>
  show(((i+1:Nat):Int)-1)%4294967296=_;rw[show(1:AS).toNat=1 from rfl];omega
def bi9 (h:i<4294967296):ct .and .u32 (i:Int) (IntKind.wrap .u32 ((i:Int)-1))=asI (f7 i):=by
 rw[bkz h,show(i:Int)=asI (nA i) from (a31 h).symm,kg];rfl
def atk{s t:AS}(hi:i<32):(s&&&~~~t).getLsbD i=(s.getLsbD i&&!t.getLsbD i):=by simp[hi]
def atw (h:i<4294967296) (h0:f7 i≠0):(f7 i).toNat<i:=by
 have hne:nA i≠0:=fun e=>h0 (by unfold f7;rw[e];rfl);have:=am0 hne;rw[a6k h]at this;exact this
def atv(h:i<4294967296)(h0:f7 i≠0):(nA i&&&~~~(f7 i)).toNat<i:=by
 have h1:sub (nA i&&&~~~(f7 i)) (nA i):=cz.2 fun z hz hb=>by
  rw[atk hz,bt5]at hb;exact hb.1
 have:=xw h1 fun e=>h0 (by
  apply bui;intro z hz;have e2:=congrArg (fun x:AS=>x.getLsbD z) e;simp only[atk hz]at e2
  have h3:(f7 i).getLsbD z=true->(nA i).getLsbD z=true:=fun hb=>by
   unfold f7 at hb;rw[btm,bt5]at hb;exact hb.1
  rw[show(0:AS).getLsbD z=false by simp,btb];intro hb;rw[h3 hb,hb]at e2
  cases e2)
 rw[a6k h]at this;exact this
def bil (h:i<4294967296) {s:AS}:ct .andNot .u32 (i:Int) (asI s)=asI (nA i&&&~~~s):=by
 rw[show(i:Int)=asI (nA i) from (a31 h).symm,pn]
def b1m(h:f7 i=0):k8 t i=ald t (nA i):=if_pos h
def bim (hi:i<4294967296) (h:f7 i≠0):k8 t i=b49 (k8 t (f7 i).toNat) (k8 t (nA i&&&~~~(f7 i)).toNat):=by
 have h1:=atw hi h;have h2:=atv hi h;rw[<- a96 h1,<- a96 h2];exact if_neg h
def afu {k:Nat} {p:Prt} {x y:PV} (hi:i<m) (hk:k=i) (hp:k8 t i=p) (hx:x=p.c 0) (hy:y=p.c 1):
 CoO (.arr true 2 235 m (eu (lf Prt.c (jj t m i)) k 0 [x,y])) (.arr true 2 235 m (lf Prt.c (jj t m (i+1)))):=by
 subst hp;rw[az7 hi];exact arb (fun h=>h) a5u.symm hk (by rw[a5u];exact hi) hx hy
end
end
section
open Go.Proofs
def bl4(t:Tbl)(hT:TOk t)(hg:∀k,k<(2^t.attrs.length)->ke (k8 t k)=true/\(k8 t k).rows=t.rows.length):a6 bxn 135 [t.pc] (ae [b3q (ap t) t.attrs.length]):=by
 refine hpx (nt:=68) Tryz.func135 ?_;have hna:=hT.na;have hp:=aes hna;have hs:=b8j hna;have h64:IntKind.wrap .i64 (1*2^(min ((t.attrs.length:Int)).toNat IntKind.i64.bits))=(((2^t.attrs.length):Nat):Int):=bo2 (n:=(t.attrs.length:Int)) bww bww;have h65:(IntKind.wrap .i64 (1*2^(min ((t.attrs.length:Int)).toNat IntKind.i64.bits))).toNat=(2^t.attrs.length):=by rw[h64];rfl
 refine sx7 ?_;refine m9 0 ?_;refine m9 1 ?_;refine jo ?_;refine rm 2 rfl rfl rfl rfl rfl rfl ?_ (hp:=(by dsimp only;rw[h64];(repeat' apply And.intro)<;>first|trivial|omega));refine qy ?_;refine m9 3 ?_;refine w_6 ?_;refine rm 4 rfl rfl rfl rfl rfl rfl ?_ (hp:=(by dsimp only;rw[h64];(repeat' apply And.intro)<;>first|trivial|omega));refine da ?_;refine br (ka 1 (ka 2 (ka 4 (ka 20 kn)))) (kb 0 (kb 1 km)) (fun i=>⟨[(5,some (.v (.one (.ref 4 (2^t.attrs.length))))),(21,some (.v (.one (.p (.raw (.int .u32 (i:Int)))))))],[(2,some (.arr true 1 3 (2^t.attrs.length) (lf zC (a06 t (2^t.attrs.length) i)))),(3,some (.box [.p (.raw (.int .i64 (t.attrs.length:Int))), .ref 2 (2^t.attrs.length)])),(4,some (.arr true 2 235 (2^t.attrs.length) (lf Prt.c (jj t (2^t.attrs.length) i))))]⟩) (2^t.attrs.length) ⟨⟨⟨_,rfl,(CoR.of_eq (by dsimp only;rw[h65]))⟩,tt⟩,⟨⟨_,rfl,(a81 (by rw[h65]) fun i hi=>CoP.of_eq (by rw[bm4 (by rw[<- h65];exact hi)];rfl))⟩,⟨_,rfl,⟨CoH.refl _,congrArg (HV.ref 2) h65,trivial⟩⟩,⟨_,rfl,(at6 (by rw[h65]) fun i hi=>⟨CoP.of_eq (by rw[bma (by rw[<- h65];exact hi)];rfl),by rw[bmv (by rw[<- h65];exact hi)];exact sw⟩)⟩,trivial⟩⟩ ?_;rintro i hi;refine w_5 ?_;refine hcd ?_ ?_<;>intro h0
 ·
  have him:i<(2^t.attrs.length):=by omega
  have hrv:=bi9 (i:=i) bww;have hdv:=bil (i:=i) (s:=(f7 i)) bww;have hzi:(jj t (2^t.attrs.length) (i+1)).getD ((i:Int)).toNat default=k8 t i:=ah5 him bww;refine fh ?_;refine rqw rfl rfl rfl rfl rfl ?_;refine w_3 ?_;refine a1f (ka 1 (ka 2 (ka 4 (ka 5 (ka 6 (ka 20 (ka 21 kn))))))) (kb 2 (kb 3 (kb 0 (kb 1 km)))) ⟨[],[(4,some (.arr true 2 235 (2^t.attrs.length) (lf Prt.c (jj t (2^t.attrs.length) (i+1)))))]⟩ ?_ ?_
  ·
   refine w_7 ?_;refine hcd ?_ ?_<;>intro h1
   · have hz0:f7 i=0:=df.1 (hrv.symm.trans h1);refine w_5 ?_;refine rc rfl rfl rfl rfl rfl rfl (wgx Tryz.func183) (bmy t (nA i) hT (avf (by rw[a6k bww];exact him))) (⟨CoC.refl _,cci (a31 bww).symm,trivial⟩) rfl rfl ?_;refine w_6 ?_;exact⟨tt,⟨⟨_,rfl,(by first|exact afu him (by simp only[bt8]) (b1m hz0) rfl rfl|exact afu him (by simp only[bt8]) hpr rfl rfl)⟩,uu⟩⟩
   have hne:f7 i≠0:=fun e=>h1 (by rw[hrv,e];rfl);have hrl:=atw (i:=i) bww hne;have hdl:=atv (i:=i) bww hne;have hz1:(jj t (2^t.attrs.length) i).getD (asI (f7 i)).toNat default=k8 t (f7 i).toNat:=ah5 (k:=(f7 i).toNat) bww bww;have hz2:(jj t (2^t.attrs.length) i).getD (asI ((nA i&&&~~~(f7 i)))).toNat default=k8 t ((nA i&&&~~~(f7 i))).toNat:=ah5 (k:=((nA i&&&~~~(f7 i))).toNat) bww bww;have hpr:=bim (t:=t) (i:=i) bww hne;rw[<- hz1,<- hz2]at hpr;have hx1:ke ((jj t (2^t.attrs.length) i).getD (asI (f7 i)).toNat default)=true:=by rw[hz1];exact(hg _ bww).1
   have hx2:ke ((jj t (2^t.attrs.length) i).getD (asI ((nA i&&&~~~(f7 i)))).toNat default)=true:=by rw[hz2];exact(hg _ bww).1
   have hx3:((jj t (2^t.attrs.length) i).getD (asI (f7 i)).toNat default).rows=((jj t (2^t.attrs.length) i).getD (asI ((nA i&&&~~~(f7 i)))).toNat default).rows:=by rw[hz1,hz2,(hg _ bww).2,(hg _ bww).2]
   refine w_5 ?_;(iterate 2 refine rq rfl rfl rfl rfl rfl ?_ (hp:=(by dsimp only;rw[hrv];(repeat' apply And.intro)<;>first|trivial|rfl|exact t6 _|exact Nat.lt_trans hrl him|exact Int.ofNat_lt.2 (Nat.lt_trans hrl him)|omega)));refine w_4 ?_;(iterate 2 refine rq rfl rfl rfl rfl rfl ?_ (hp:=(by dsimp only;rw[hrv,hdv];(repeat' apply And.intro)<;>first|trivial|rfl|exact t6 _|exact Nat.lt_trans hdl him|exact Int.ofNat_lt.2 (Nat.lt_trans hdl him)|omega)));refine rc rfl rfl rfl rfl rfl rfl (wgx Tryz.func184) (bfy ((jj t (2^t.attrs.length) i).getD (asI (f7 i)).toNat default) ((jj t (2^t.attrs.length) i).getD (asI ((nA i&&&~~~(f7 i)))).toNat default) hx1 hx2 hx3) (⟨CoC.of_eq (by rw[hrv];rfl),CoC.of_eq (by rw[hrv,hdv];rfl),trivial⟩) rfl rfl ?_;refine w_7 ?_;exact⟨tt,⟨⟨_,rfl,(by first|exact afu him (by simp only[bt8]) (b1m hz0) rfl rfl|exact afu him (by simp only[bt8]) hpr rfl rfl)⟩,uu⟩⟩
  refine w_8 ?_;refine rc rfl rfl rfl rfl rfl rfl (wgx Tryz.func185) (bjt (k8 t i) (hg i him).1) (⟨CoC.of_eq (by show PC.agg [Prt.c ((jj t (2^t.attrs.length) (i+1)).getD ((i:Int)).toNat default) 0,Prt.c ((jj t (2^t.attrs.length) (i+1)).getD ((i:Int)).toNat default) 1]=_;rw[hzi]),trivial⟩) rfl rfl ?_;refine w_8 ?_;exact lpx (i+1) ⟨tt,⟨⟨_,rfl,(by rw[azx him];exact vu (fun h=>h) a5p.symm (by simp only[bt8]) (by rw[a5p];exact him) rfl)⟩,uu⟩⟩
 obtain rfl:i=(2^t.attrs.length):=by omega
 refine w_2 ?_;refine fm 3 1 rfl rfl rfl rfl rfl ?_;refine v_4 ?_;exact⟨CoC.agg ⟨CoP.refl _,(by rw[amc];exact CoP.sl (by rw[<- amc,a5p]) (.inl rfl) (fun h=>h) (fun _ _ _ _=>CoP.refl _)),trivial⟩,trivial⟩
end
section
def a16(l:List Fd)(z:Int):Option PV:=match l.find? (fun f=>decide (asI f.lhs=z)) with|some f=>some (asC (mgR l f.lhs))|none=>none
def a5s (l:List Fd):MK->Option PV
 | .i .u32 z=>a16 l z
 |_=>none
def wfA (s:AS):(Lit.int .u32 (asI s)).wf=true:=by
 have h1:=a7y s;have h2:=t6 s;have e1:IntKind.min .u32=0:=by decide
 have e2:IntKind.max .u32=4294967295:=by decide
 simp only[Lit.wf,e1,e2,bt5,decide_eq_true_eq];omega
section
variable {l:List Fd}
def b4m {s:AS} (h:∀f∈l,¬f.lhs=s):mgR l s=0:=by
 unfold mgR;rw[List.filter_eq_nil_iff.2 fun f hf=>by simpa using h f hf];rfl
def afg {s:AS} {f:Fd} (h:l.find? (fun f=>decide (asI f.lhs=asI s))=some f):f.lhs=s:=by
 have:=List.find?_some h;exact df.1 (of_decide_eq_true this)
def adr(l:List Fd)(s:AS):a51 (a5s l) (.i .u32 (asI s)) (.int .u32 0)=asC (mgR l s):=by
 show(match a16 l (asI s) with|some y=>y|none=>lp (.int .u32 0))=_;unfold a16
 cases h:l.find? (fun f=>decide (asI f.lhs=asI s)) with
 | some f =>
  have:=afg h;subst this;rfl
 | none =>
  rw [b4m fun f hf e=>by
   have:=bwn.1 h f hf;rw[e]at this
   exact this (decide_eq_true rfl)]
  rfl
def b1u (m:MK):CoM none (a5s [] m):=by
 cases m with
 |i q z=>cases q<;>exact CoM.refl _
 |s b=>exact CoM.refl _
def b1r{i:Nat}(hi:i<l.length)(z:Int):(if z=asI (l.getD i default).lhs then some (PV.raw (.int .u32 (ct .or .u32 (asI (mgR (l.take i) (l.getD i default).lhs)) (asI (l.getD i default).rhs))))else a16 (l.take i) z)=a16 (l.take (i+1)) z:=by
 unfold a16;by_cases hz:z=asI (l.getD i default).lhs
 · subst hz
   rw[if_pos rfl,bpj hi rfl]
   cases h:(l.take (i+1)).find? (fun f=>decide (asI f.lhs=asI (l.getD i default).lhs)) with
   | some f =>
    have:=afg h;rw[<- this]
   | none =>
    have:=bwn.1 h (l.getD i default) (by rw[aj hi];simp);exact absurd (decide_eq_true rfl) this
 rw[if_neg hz,aj hi,List.find?_append]
 have hx:[l.getD i default].find? (fun f=>decide (asI f.lhs=z))=none:=by
  rw[List.find?_cons,decide_eq_false (fun e=>hz e.symm)];rfl
 rw[hx,Option.or_none]
 cases h:(l.take i).find? (fun f=>decide (asI f.lhs=z)) with
 |none=>rfl
 | some f =>
  have hf0:=List.find?_some h;have hf:asI f.lhs=z:=of_decide_eq_true hf0;dsimp only;rw[<- aj hi,blq hi (fun e=>hz (by rw[e];exact hf.symm))]
def az2{i:Nat}(hi:i<l.length)(m:MK):CoM (vh (a5s (l.take i)) (.i .u32 (asI (l.getD i default).lhs)) (.raw (.int .u32 (ct .or .u32 (asI (mgR (l.take i) (l.getD i default).lhs)) (asI (l.getD i default).rhs)))) m) (a5s (l.take (i+1)) m):=by
 refine CoM.of_eq ?_;unfold vh
 cases m with
 |s b=>rfl
 | i q z =>
  by_cases hq:q=.u32
  · subst hq
    show(bif (decide True&&decide (z=_))then _ else a16 _ z)=a16 _ z;rw[<- b1r hi z];by_cases hz:z=asI (l.getD i default).lhs
    · rw[if_pos hz,decide_eq_true hz];rfl
    rw[if_neg hz,decide_eq_false hz];rfl
  have h1:MK.same (.i q z) (.i .u32 (asI (l.getD i default).lhs))=false:=by
   show(decide _&&decide _)=false;rw[decide_eq_false hq,Bool.false_and]
  rw[h1];cases q<;>first|rfl|exact absurd rfl hq
end
end
section
open Go.RowKit
section
variable {P:Program}{nt:Nat}{ops:Array Oper}{st:HSt}{L:List Nat}{Q:HSt->Prop}{k d:Nat}{o:Oper}{t:TypeId}
theorem aj7 {x:Operand} {v0 v1:Value} {te:TypeId} {ie:TI} (j:Nat) (hi:ops[k]? = some o) (ht:P.underlying t=some (.array 2 te)) (hte:vf P te=some ie) (hag:ie.k.isAgg=false) (hsz:ie.size=1) (hj:j<2)
 (h:RN P nt ops L ⟨(d,some (.v (.one (.p (.raw (if j=0 then v0 else v1))))))::st.t,st.o⟩ Q)
 (hg:o.guard=none:=by exact rfl) (ho:o.op=.index t x (.const (.int .i64 (j:Int))):=by exact rfl) (hd:o.dst=some d:=by exact rfl) (hdn:d6 nt (some d)=true:=by exact rfl)
 (hx:ev st.den x=some (.v (.agg [.p (.raw v0), .p (.raw v1)])):=by exact rfl):RN P nt ops (k::L) st Q :=
 ae3 hi hg hd hdn (fun c hc=>by rw[hc]at ho;cases ho) fun w0 a w c hrr=>by
  obtain⟨us,e1,hl⟩:=af hrr hx
  match us,hl with
  | [u0,u1],⟨⟨q0,o0⟩,⟨q1,o1⟩,_⟩ =>
   subst q0 q1;obtain⟨r,hp⟩:=xg hte [u0,u1] j w;have ez:a.eval (.const (.int .i64 (j:Int)))=.int .i64 (j:Int):=rfl
   have hrun:(Instr.index t (.agg #[u0,u1]) (.int .i64 (j:Int))).run P w=.ok (if j=0 then u0 else u1) w:=by
    have hin:(0:Int)<=(j:Int)/\(j:Int)<((2:Nat):Int):=⟨by omega,by omega⟩;unfold Instr.index;simp only[asIntOf,bu3,buh,bth,run_underlying ht,if_pos hin,ef hte,hsz,bvs,bt8]
    grind
   exact⟨if j=0 then u0 else u1,w,st.o, .v (.one (.p (.raw (if j=0 then u0 else u1)))),c,rfl,by simp[execOp,ho,e1,ez,hrun],hrr,(show fu c (HSt.den ⟨st.t,st.o⟩).o (.one (.p (.raw (if j=0 then u0 else u1)))) (if j=0 then u0 else u1) from ⟨rfl,by split<;>assumption⟩),h⟩
end
def mkS(s:AS):Value:=.int .u32 (asI s)
def ahh{a b:AS}(h:mkS a=mkS b):a=b:=df.1 (Value.int.inj h).2
structure WIn (P:Program) (es:Array MapEntry) (clock:Nat) (l:List AS):Prop where
 mx:oj P 50 es clock
 to:∀e∈es.toList,∃s∈l,e.key=mkS s
 at_:∀s∈l,∃e∈es.toList,e.key=mkS s
 vl:∀e∈es.toList,∃a b:Int,e.val=.agg #[.int .i64 a, .int .i64 b]
 sz:es.size<=l.length
section
variable {P:Program}{clock:Nat}
theorem WIn.nil:WIn P #[] clock []:=⟨oj.nil,fun e he=>by simp at he,fun s hs=>by simp at hs,fun e he=>by simp at he,bsw _⟩
variable {es:Array MapEntry}{l:List AS}{s:AS}
theorem WIn.put{es':Array MapEntry}{clock':Nat}{a b:Int}(h:WIn P es clock l)(hX:oj P 50 es' clock')(hP:amh es es' (mkS s) (.agg #[.int .i64 a, .int .i64 b])):WIn P es' clock' (l++[s]):=by
 refine⟨hX,fun e he=>?_,fun x hx=>?_,fun e he=>?_, ?_⟩
 · rcases hP.to e he with⟨h1,_⟩|⟨h1,_⟩
   · obtain ⟨x,hx,e2⟩:=h.to e h1
     grind
   grind
 · rcases btd.1 hx with hx|hx
   · obtain ⟨e,he,hk⟩:=h.at_ x hx
     by_cases hq:e.key=mkS s
     · obtain ⟨y,y1,y2,_⟩:=hP.at_
       grind
     obtain⟨y,y1,y2,_⟩:=hP.old e he hq
     grind
   obtain rfl:x=s:=by simpa using hx
   obtain⟨y,y1,y2,_⟩:=hP.at_
   grind
 · rcases hP.to e he with⟨h1,_⟩|⟨_,h1⟩
   · exact h.vl e h1
   grind
 have:=hP.sz;have:=h.sz
 grind
theorem WIn.absent (h:WIn P es clock l) (hn:∀e∈es.toList,e.key≠mkS s):¬s∈l:=fun hs=>by
 obtain⟨e,he,hk⟩:=h.at_ s hs
 grind
theorem WIn.found (h:WIn P es clock l) {e:MapEntry} (he:e∈es.toList) (hk:e.key=mkS s):s∈l:=by
 obtain⟨x,hx,e2⟩:=h.to e he;rw[ahh (hk.symm.trans e2)];exact hx
theorem a90 (h:¬s∈gr l):gr (l++[s])=gr l++[s]:=by
 rw[akh];unfold a7t
 grind
theorem a97 (h:s∈gr l):gr (l++[s])=gr l:=by
 rw[akh];unfold a7t
 grind
theorem am9:∀{l:List AS},(gr l).length<=l.length:=by
 have key:∀(l o:List AS),(l.foldl a7t o).length<=o.length+l.length:=by
  intro l
  induction l with
  |nil=>intro o;exact bsw _
  | cons x l ih =>
   intro o;have:=ih (a7t o x)
   have h2:(a7t o x).length<=o.length+1:=by
    unfold a7t
    grind
   grind
 intro l;have h:=key l [];rw[bux,btk]at h;exact h
variable {i:Nat}
theorem ao7 {l:List Row} {k:Nat}:(kj l i k).length<=(i+1)*l.length:=by
 have h1:∀i,(((List.range i).map (a1g l)).flatten).length<=i*l.length:=by
  intro i
  induction i with
  |zero=>simp
  | succ i ih =>
   rw[bu7,bum,bv6,bsy];have:=a6l l i
   grind
 unfold kj;rw[bsy];have:=h1 i
 have h2:((a1g l i).take (k-(i+1))).length<=l.length:=by
  rw[bt4,a6l];omega
 grind
def bbv {l:List Row} {k:Nat} (hi:i<l.length) (h:l.length<=1000):(gr (kj l i k)).length<=1000000:=by
 have h1:=am9 (l:=kj l i k);have h2:=ao7 (l:=l) (i:=i) (k:=k);have h3:(i+1)*l.length<=1000*1000:=Nat.mul_le_mul bww h;omega
def azk {l:List Row} (h:l.length<=1000):(gr (prs l)).length<=2000000:=by
 have h1:=am9 (l:=prs l);have h2:=ao7 (l:=l) (i:=l.length) (k:=l.length+1);rw[ams]at h2;have h3:(l.length+1)*l.length<=1001*1000:=Nat.mul_le_mul bww h;omega
def i7 {l:List Row} {j q:Nat} (hk:i+1+j<l.length) (hq:q=i+1+j):kj l i (i+1+(j+1))=kj l i (i+1+j)++[agR (l.getD i default) (l.getD q default)]:=by
 subst hq;exact b0c (show i<i+1+j by omega) hk
def a63{l:List Row}(hi:i<l.length):kj l i (i+1+(l.length-(i+1)))=kj l (i+1) (i+1+1):=b2m bww
variable {av:List AS}{n:Nat}
def a7n (hi:i<(c8 (aa (n:Int))).length):qj n av (i+1)=ai0 av (qj n av i) ((c8 (aa (n:Int))).getD i default):=by
 unfold qj;rw[aj hi,btq];rfl
def a49 (hi:i<(c8 (aa (n:Int))).length) (h1:(av.any fun y=>decide (sub ((c8 (aa (n:Int))).getD i default) y))=false) (h2:((qj n av i).any fun y=>decide (sub y ((c8 (aa (n:Int))).getD i default)))=false):
 qj n av (i+1)=qj n av i++[(c8 (aa (n:Int))).getD i default]:=by
 rw[a7n hi];exact if_pos ⟨h1,h2⟩
def yz (hi:i<(c8 (aa (n:Int))).length) (h1:(av.any fun y=>decide (sub ((c8 (aa (n:Int))).getD i default) y))=true):qj n av (i+1)=qj n av i:=by
 rw[a7n hi];exact if_neg fun e=>by rw[show bi7 av _=true from h1]at e;cases e.1
def zj (hi:i<(c8 (aa (n:Int))).length) (h2:((qj n av i).any fun y=>decide (sub y ((c8 (aa (n:Int))).getD i default)))=true):qj n av (i+1)=qj n av i:=by
 rw[a7n hi];exact if_neg fun e=>by rw[h2]at e;cases e.2
theorem b5x:∀{i:Nat},(qj n av i).length<=i:=by
 intro i
 have key:∀(l o:List AS),(l.foldl (ai0 av) o).length<=o.length+l.length:=by
  intro l
  induction l with
  |nil=>intro o;exact bsw _
  | cons x l ih =>
   intro o;have:=ih (ai0 av o x)
   have h2:(ai0 av o x).length<=o.length+1:=by
    unfold ai0
    grind
   grind
 have h:=key ((c8 (aa (n:Int))).take i) [];have h3:=bwk i (c8 (aa (n:Int)));rw[bux,btk]at h;exact btc h h3
def ak5:(gw l).length<=l.length:=btc (buj _ _) (uz l)
def wC (s:AS):Nat->PV
 |0=>asC s
 |_=>.any
end
section
variable {P:Program}{nt:Nat}{ops:Array Oper}{st:HSt}{L:List Nat}{Q:HSt->Prop}{k d:Nat}{o:Oper}{t kt et b mid:Nat}{es:Array MapEntry}{clock:Nat}
def ar6 {x ix:Operand} {kv:Value} {kl:Lit} {kx:HR} {l:List AS} (hi:ops[k]? = some o) (ht:P.underlying t=some (.map 50 et)) (K:Go.Maps.Keyed P 50) (hz:∀w,(zeroValue et).run P w=.ok (.agg #[.int .i64 0, .int .i64 0]) w) (hW:WIn P es clock l)
 (hkey:keyOf P 50 kv=some kl) (hkv:kOf kx=some kv)
 (h:∀a0 b0:Int,RN P nt ops L ⟨(d,some (.v (.agg [.p (.raw (.int .i64 a0)), .p (.raw (.int .i64 b0))])))::st.t,st.o⟩ Q)
 (hg:o.guard=none:=by exact rfl) (ho:o.op=.lookup t x ix false:=by exact rfl) (hd:o.dst=some d:=by exact rfl) (hdn:d6 nt (some d)=true:=by exact rfl)
 (hx:ev st.den x=some (.v (.one (.ref mid 0))):=by exact rfl) (hm:st.den.o mid=some (mpO b es clock):=by exact rfl) (hk:ev st.den ix=some kx:=by exact rfl):RN P nt ops (k::L) st Q :=
 acg hi ht K hz rfl hW.mx hkey hkv (fun _=>h 0 0) (fun e he _=>by
  obtain⟨a0,b0,e2⟩:=hW.vl e he;rw[e2]
  exact h a0 b0) hg ho hd hdn hx hm hk
end
end
section
def aha {P:Nat->Prop} (h0:P 0) (h1:P 1) (h2:P 2):∀j,j<3->P j:=fun j hj=>by
 rcases(by omega:j=0\/j=1\/j=2)with rfl|rfl|rfl<;>assumption
section
variable {k p:Nat}
def bd1{α:Type}[Inhabited α]{wr wr':Bool}{n:Nat}{e:TypeId}{c:α->Nat->PV}{l:List α}{v:α}{x y z:PV}(hw:wr'=true->wr=true)(hn:n=l.length)(hp:k=p)(hk:p<l.length)(hx:x=c v 0)(hy:y=c v 1)(hz:z=c v 2):
 CoO (.arr wr 3 e n (eu (lf c l) k 0 [x,y,z])) (.arr wr' 3 e n (lf c (l.set p v))):=by
 subst hp hx hy hz hn;refine⟨hw,rfl,rfl,rfl,fun i j hi hj=>CoP.of_eq ?_⟩;unfold eu lf;by_cases h:i=k
 · subst h
   rw[if_pos ⟨rfl,by omega,by simpa using hj⟩,l3 hk];revert j;exact aha rfl rfl rfl
 rw[if_neg bww,getD_set_ne' h]
def aod {α:Type} [Inhabited α] {wr wr':Bool} {n q d:Nat} {e:TypeId} {c:α->Nat->PV} {l l':List α} (hw:wr'=true->wr=true) (hn:n=l.length) (hp:k=p) (hk:p<l.length) (hd:d=q):
 CoO (.arr wr 3 e n (eu (lf c l) k 0 [lf c l' d 0,lf c l' d 1,lf c l' d 2])) (.arr wr' 3 e n (lf c (l.set p (l'.getD q default)))):=bd1 hw hn hp hk (by rw[hd];rfl) (by rw[hd];rfl) (by rw[hd];rfl)
variable {a:Nat}
def b7o {α:Type} [Inhabited α] {s n m:Nat} {cl:Bool} {c:α->Nat->PV} {l l':List α} {z:List Value} {p:Option Int} {h:Option Int} (hn:dv (b7 n h) p=l'.length) (hp:p=none) (ha:l'.length<=a) (hl:l'=l.take l'.length):
 CoP (.sl (dv (b7 n h) p) s cl (nj (o5 (lf c l) a m z) p)) (psl s c l'):=by
 subst hp;refine CoP.sl hn.symm (.inl rfl) (fun h=>by cases h) fun i j hi hj=>CoP.of_eq ?_;rw[hn]at hi;show o5 (lf c l) a m z i j=lf c l' i j;unfold o5;rw[if_neg bww];simp only[lf,List.getD];have e:l'[i]? = l[i]?:=by rw[hl,btx,if_pos hi]
 rw[e]
structure CpJ (l:List Val) (k p q:Nat) (m:List Val):Prop where
 len:m.length=l.length
 kq:k<q
 pq:p<q
 ql:q<=l.length
 pre:m.take p=gi (l.take q)
 high:∀j,q-1<=j->m.getD j default=l.getD j default
variable {l:List Val}
theorem CpJ.start (h1:1<=k) (hk:k<l.length) (h:∀j,0<j->j<k->¬l.getD j default=l.getD (j-1) default) (hd:l.getD k default=l.getD (k-1) default):CpJ l k k (k+1) l :=
 ⟨rfl,by omega,by omega,by omega,by rw[kz bww hk,if_pos hd.symm,btu,qc bww h],fun _ _=>rfl⟩
variable {m:List Val}
theorem CpJ.skip {q:Nat} (h:CpJ l k p q m) (hq:q<l.length) (he:m.getD q default=m.getD (q-1) default):CpJ l k p (q+1) m:=by
 have hk:=h.kq;refine⟨h.len,by omega,by have:=h.pq;omega,hq, ?_,fun j hj=>h.high j bww⟩;rw[h.high q bww,h.high (q-1) bww]at he;rw[kz bww hq,if_pos he.symm,btu,h.pre]
theorem CpJ.keep {q:Nat} (h:CpJ l k p q m) (hq:q<l.length) (he:¬m.getD q default=m.getD (q-1) default):CpJ l k (p+1) (q+1) (m.set p (m.getD q default)):=by
 have hk:=h.kq;have hp:=h.pq;have hl:=h.len;refine⟨by simp[hl],by omega,by omega,hq, ?_,fun j hj=>by rw[getD_set_ne' bww];exact h.high j bww⟩;have e:=h.high q bww;rw[e,h.high (q-1) bww]at he;rw[kz bww hq,if_neg (fun e=>he e.symm),<- h.pre,aj (by simp[hl];omega),l3 bww,e];congr 1;rw[List.take_set,bwg bxc]
def ati (hk:l.length<=k) (h:∀j,0<j->j<k->¬l.getD j default=l.getD (j-1) default):CoP (.sl l.length 3 false (lf Val.c l)) (vals (gi l)):=by
 have:=qc (bsw l.length) fun j h1 h2=>h j h1 bww;rw[bt6]at this;rw[this];exact CoP.refl _
def bfp {q n d:Nat} {cl:Bool} {z:List Value} (hC:CpJ l k p q m) (hq:¬q<l.length) (ha:p<=a):CoP (.sl (dv (b7 n (some (p:Int))) none) 3 cl (nj (o5 (lf Val.c m) a d z) none)) (vals (gi l)):=by
 have e:=hC.pre;have h1:=hC.ql;have h2:=hC.len;have h3:=hC.pq;rw[show q=l.length by omega,bt6]at e;have el:(gi l).length=p:=by rw[<- e];simp;omega
 exact b7o (by rw[el];rfl) rfl bww (by rw[el,e])
def eqJ{b a' b':Nat}(h:(l.getD a' default).kind=(l.getD b' default).kind/\(l.getD a' default).num=(l.getD b' default).num/\(l.getD a' default).str=(l.getD b' default).str)(ha:a'=a)(hb:b'=b):l.getD a default=l.getD b default:=by subst ha hb;exact Val.eq_iff.2 h
def neJ{b a' b':Nat}(h:¬((l.getD a' default).kind=(l.getD b' default).kind/\(l.getD a' default).num=(l.getD b' default).num/\(l.getD a' default).str=(l.getD b' default).str))(ha:a'=a)(hb:b'=b):¬l.getD a default=l.getD b default:=by subst ha hb;exact fun e=>h (Val.eq_iff.1 e)
def boj {b a' b':Nat} (h:¬(l.getD a' default).kind=(l.getD b' default).kind\/¬(l.getD a' default).num=(l.getD b' default).num\/¬(l.getD a' default).str=(l.getD b' default).str) (ha:a'=a) (hb:b'=b):¬l.getD a default=l.getD b default :=
 neJ (fun e=>by
  rcases h with h|h|h
  · exact h e.1
  · exact h e.2.1
  exact h e.2.2) ha hb
end
end
end Go.Hx
