/- A part of the proof: Ls1 Cs24 Cs26 V25 Cs27 Cs28 Cs30 Cs31 Cs32 Cs33 Cs34 Cs35 V34 Cs36 Cz1m Cs37 Cs40 Cs42 Ls2 Ls3 Ls5 W0 W1 Ls6 W2a Rbm Bz1. -/
import Derived.Test.YtnlcekpflogjkaaGreatDoorTy24
set_option linter.all false
set_option maxRecDepth 100000
set_option maxHeartbeats 1000000
namespace Go.Hx
section
section
variable {n:Int}{p m:List Fd}{l0 l:List Rw}{σ:Int->Int}
def b4r(hT:tok n l=true)(hp:p.all (inU n)=true)(hm:m=[]){s:St}(hs:a28 l p m s):(dx n l p m s).2.2=0:=by
 obtain⟨mu,i,a,b⟩:=s;obtain⟨ha,hb,hs|hs⟩:=hs
 · obtain ⟨h1,h2,h3⟩:=hs
   cases h1;have h4:dx n l p m (false,i,a,b)=fdE n l a b (p.getD i default):=rfl;have hg:fdE n l a b (p.getD i default)=(n,fdL l a b (p.getD i default),0):=(axq hT (btl.1 hp _ (gl h2)) ha hb h3).1;rw[h4,hg]
 obtain⟨_,h2,_⟩:=hs;subst hm;exact absurd h2 (bt1 _)
def b25(hl0:∀r,r∈l0->r.length=n.toNat)(hp:p.all (inU n)=true)(Z:List Int):∀(F:Nat) (l:List Rw) (acc:List St) (σ:Int->Int),tok n l=true->Ch n.toNat p m l0 l σ->Cov Z l->muC Z l<F ->
 (j6 F n l p m acc=([],(0,[]),3)/\¬m=[])\/∃sts lend σ',j6 F n l p m acc=(acc++sts,(n,lend),0)/\Ch n.toNat p m l0 lend σ'/\tok n lend=true/\gf lend p m=none/\TrZ n p m lend l sts:=by
 intro F
 induction F with
 |zero=>intro _ _ _ _ _ _ h;exact absurd h (bt1 _)
 | succ F ih =>
  intro l acc σ hT hC hZ hF
  cases hn:gf l p m with
  |none=>exact .inr ⟨[],l,σ,by rw[adw bww hn,btu],hC,hT,hn,rfl⟩
  | some s =>
   have hs:=ahy hn
   rcases aqo hT hp hs with e|⟨l',e,hT',h3⟩
   · left
     refine⟨af5 bww hn e bx3,fun hm=>?_⟩;have:=b4r hT hp hm hs;rw[e]at this;exact absurd this bx3
   obtain⟨h4,h5⟩:=h3 Z hZ;obtain⟨_,σ',hC'⟩:=Ch.app hl0 hT hp hC (auq hs) (by rw[e]);rw[e]at hC'
   rcases ih l' (acc++[s]) σ' hT' hC' h4 bww with⟨q,q0⟩|⟨sts,lend,σ2,q1,q2,q3,q4,q5⟩
   · left
     exact⟨by rw[a2g bww hn e,Nat.add_sub_cancel,q],q0⟩
   right;refine⟨s::sts,lend,σ2, ?_,q2,q3,q4,hT,hs,l',e,fun e=>?_,q5⟩
   · rw [a2g bww hn e,Nat.add_sub_cancel,q1,bts]
     rfl
   subst e;omega
def azo (hT:tok n l=true) (hb:dc n p m=0):(mj FU n l p m=([],(0,[]),3)/\¬m=[])\/∃sts lend σ,mj FU n l p m=(sts,(n,lend),0)/\Ch n.toNat p m l lend σ/\tok n lend=true/\gf lend p m=none/\TrZ n p m lend l sts:=by
 have hck:ckE n l p m=0:=(if_pos hT).trans hb;rw[a4m hck]
 rcases b25 (fun r hr=>(sb hT r hr).1) (uv hb).2.2.2.1 l.flatten FU l [] id hT Ch.start (aly l) (az6 hT)with h|⟨sts,lend,σ',q1,q⟩
 · exact .inl h
 exact .inr ⟨sts,lend,σ',by rw[q1,buz],q⟩
def trL (n:Int) (p m:List Fd):List Rw->List St->List (List Rw)
 |l,[]=>[l]
 |l,s::r=>l::trL n p m (dx n l p m s).2.1 r
def agl:∀{sts:List St} {l:List Rw},(trL n p m l sts).length=sts.length+1
 | [],_=>rfl
 |s::r,l=>by unfold trL;rw[bto,agl,bto]
def amt:∀{sts:List St} {l lend:List Rw},TrZ n p m lend l sts->lend∈trL n p m l sts
 | [],l,lend,h=>by
  have h:l=lend:=h;subst h;simp[trL]
 | s::r,l,lend,h=>by
  obtain⟨_,_,l',e,_,h⟩:=h;unfold trL;rw[e];exact btp _ (amt h)
def b1o (hl0:∀r,r∈l0->r.length=n.toNat) (hp:p.all (inU n)=true):∀{sts:List St} {l lend:List Rw} {σ:Int->Int},TrZ n p m lend l sts->tok n lend=true->Ch n.toNat p m l0 l σ->∀t,t∈trL n p m l sts->∃σ,Ch n.toNat p m l0 t σ
 | [],l,lend,σ,h,_,hC,t,ht=>by
  rw[bte.1 (show t∈[l] from ht)];exact⟨σ,hC⟩
 | s::r,l,lend,σ,h,hTe,hC,t,ht=>by
  obtain⟨hT,hs,l',e,_,h⟩:=h;unfold trL at ht;rw[e]at ht
  rcases bt7.1 ht with rfl|ht
  · exact⟨σ,hC⟩
  obtain⟨_,σ',hC'⟩:=Ch.app hl0 hT hp hC (auq hs) (by rw[e]);rw[e]at hC';exact b1o hl0 hp h hTe hC' t ht
end
section
variable {n:Int}{ps:List AS}{p m:List Fd}
def aen(h0:0<=n)(h16:n<=16)(hk:ps.length<=64):tok n (bn (b9 n ps))=true:=by
 refine a89 h0 h16 ?_ fun r hr=>?_
 · have:=ajf (b9 n ps)
   rw[yw]at this;omega
 obtain⟨h1,h2⟩:=afp hr;refine⟨h1,fun z hz=>?_⟩;obtain⟨i,hi,rfl⟩:=vi hz
 rcases ay3 h0 (h2 i bww)with h3|h3<;>omega
def ajs(hk:ps.length<=64)(hb:dc n p m=0) :
 (mj FU n (bn (b9 n ps)) p m=([],(0,[]),3)/\¬m=[])\/∃sts lend,mj FU n (bn (b9 n ps)) p m=(sts,(n,lend),0)/\(dy n∈lend<->LR n.toNat p m (b9 n ps) (dy n)) /\
  TrZ n p m lend (bn (b9 n ps)) sts/\tok n lend=true/\((∃t,t∈trL n p m (bn (b9 n ps)) sts/\dy n∈t)<->dy n∈lend):=by
 obtain⟨h0,h16,_,hp,_⟩:=uv hb;have hT:=aen h0 h16 hk;have hl0:∀r,r∈bn (b9 n ps)->r.length=n.toNat:=fun r hr=>(sb hT r hr).1
 rcases azo hT hb with h|⟨sts,lend,σ,h1,h2,h3,h4,h5⟩
 · exact .inl h
 right
 have hf:dy n∈lend<->LR n.toNat p m (bn (b9 n ps)) (dy n):=by
  rw[h2.mem h3 hl0 h4];exact⟨fun h=>h.1,fun h=>⟨h,h2.first h0⟩⟩
 refine⟨sts,lend,h1,by rw[hf,bj4 (l':=b9 n ps) fun r=>gt],h5,h3, ?_⟩;constructor
 · rintro ⟨t,ht,hft⟩
   obtain⟨σ',hC⟩:=b1o hl0 hp h5 h3 Ch.start t ht;exact hf.2 (hC.rows _ hft)
 intro h;exact⟨lend,amt h5,h⟩
end
end
section
section
variable {n:Int}{l:List Fd}
def bch (h:cb n l=0):∀f∈l,sub f.lhs (aa n)/\sub f.rhs (aa n):=fun f hf=>by
 obtain⟨h0,h1,_,h3⟩:=l4 h;exact(a9g h0 h1).1 (btl.1 h3 f hf)
def ard(h:cb n l=0):uh l (aa n):=fun f hf _=>(bch h f hf).2
def b7u(h:cb n l=0){x:AS}(hx:sub x (aa n)):sub (clo l x) (aa n):=a8c (ard h) hx
end
def a2o {α β:Type} [Inhabited α] {f:α->β} {l:List α} {i:Nat} (h:i<l.length):(l.take (i+1)).map f=(l.take i).map f++[f (l.getD i default)]:=by
 rw[aj h,bum];rfl
structure Dps where
 n:BitVec 8
 l:List Dp
deriving Inhabited
def Dps.num(d:Dps):Int:=((d.n.toNat%7:Nat):Int)
def Dps.fds(d:Dps):List Fd:=d.l.map (Dp.fd d.num)
def Dps.c (d:Dps):Nat->PV
 |0=>.raw (.int .u8 (d.n.toNat:Int))
 |1=>dpl d.l
 |_=>.any
abbrev Dps.pc(d:Dps):PC:=.agg [d.c 0,d.c 1]
def afe(d:Dps):0<=d.num/\d.num<=6:=by unfold Dps.num;omega
def bi1 {d:Dps} (h:d.l.length<=6):cb d.num d.fds=0:=by
 obtain⟨h0,h1⟩:=afe d;unfold cb;rw[if_neg bww,if_neg (by unfold Dps.fds;rw[btn];omega),if_pos];rw[btl];intro f hf;unfold Dps.fds at hf;obtain⟨x,hx,rfl⟩:=bti.1 hf;exact(a9g h0 bww).2 ⟨xp,xp⟩
end
section
def noA(s:AS)(a:Nat):AS:=s&&&~~~((1:AS)<<<a)
def axo (s:AS) (a:Nat) {b:Int} (h:b.toNat=a):ct .andNot .u32 (asI s) (IntKind.wrap .u32 (1*2^(min b.toNat 32)))=asI (noA s a):=by
 rw[h];exact a9p s a
def b0j(n:Int)(l:List Fd)(s:AS)(a:Nat):AS:=if oz n l (noA s a)=true then noA s a else s
def sc(n:Int)(l:List Fd)(s:AS)(k:Nat):AS:=(List.range k).foldl (fun s j=>b0j n l s (n.toNat-1-j)) s
def ae6 (n:Int) (l:List Fd) (s:AS) (k:Nat):sc n l s (k+1)=b0j n l (sc n l s k) (n.toNat-1-k):=by
 unfold sc;rw[bu7,btq];rfl
section
variable {l:List Fd}{n:Int}{s:AS}
def auz {k:Nat} (h:oz n l (noA (sc n l s k) (n.toNat-1-k))=true):sc n l s (k+1)=noA (sc n l s k) (n.toNat-1-k):=by
 rw[ae6];exact if_pos h
def av4 {k:Nat} (h:oz n l (noA (sc n l s k) (n.toNat-1-k))=false):sc n l s (k+1)=sc n l s k:=by
 rw[ae6];exact if_neg (by rw[h];decide)
def rkE(n:Int)(l:List Fd)(s:AS):Int:=if cb n l=0 then(if oz n l s=true then 0 else 1)else cb n l
def rkS(n:Int)(l:List Fd)(s:AS):AS:=if rkE n l s=0 then sc n l s n.toNat else 0
def bp1 (h:¬cb n l=0):rkS n l s=0/\rkE n l s=cb n l:=by
 have e:rkE n l s=cb n l:=if_neg h;exact⟨if_neg (by rw[e];exact h),e⟩
def bol (h:cb n l=0) (h2:oz n l s=false):rkS n l s=0/\rkE n l s=1:=by
 have e:rkE n l s=1:=by unfold rkE;rw[if_pos h,if_neg (by rw[h2];decide)]
 exact⟨if_neg (by rw[e];decide),e⟩
def bii (h:cb n l=0) (h2:oz n l s=true):rkS n l s=sc n l s n.toNat/\rkE n l s=0:=by
 have e:rkE n l s=0:=by unfold rkE;rw[if_pos h,if_pos h2]
 exact⟨if_pos e,e⟩
def bn3(n:Int)(l:List Fd)(s:AS):Bool:=oz n l s&&(List.range n.toNat).all fun a=>!(s.getLsbD a&&oz n l (noA s a))
def bm5(n:Int)(l:List Fd)(i:Nat):List AS:=((List.range i).map (BitVec.ofNat 32)).filter (bn3 n l)
def b85(n:Int)(l:List Fd):List AS:=if cb n l=0 then ord (bm5 n l (2^n.toNat)) else[]
end
end
section
open Go.Proofs
def bfv(n:Int)(l:List Fd)(s:AS):a6 bxn 39 [pI n,pP (fdl l),pA s] (ae [pA (rkS n l s),pI (rkE n l s)]):=by
 refine hpx (nt:=38) Tryz.func39 ?_;refine da ?_;refine qcx a2y (a8f n l) ?_;refine w_7 ?_;refine hcn ?_ ?_<;>intro h0
 · refine w_6 ?_;refine hrr ?_;have he:=bp1 (s:=s) h0;exact f9 rfl rfl (⟨cci (congrArg asI he.1.symm),cci he.2.symm,trivial⟩)
 refine w_7 ?_;refine qcx amd (aw9 n l s) ?_;refine w_2 ?_;refine hcv ?_ ?_<;>intro h1
 · refine w_5 ?_;refine hrr ?_;have he:=bol h0 bwx;exact f9 rfl rfl (⟨cci (congrArg asI he.1.symm),cci he.2.symm,trivial⟩)
 refine w_3 ?_;have hv:=l4 h0;refine w_6 ?_;refine br (ka 0 (ka 1 kn)) km (fun k=>⟨[(2,some (vA (sc n l s k))),(9,some (vI (n-1-(k:Int))))],[]⟩) n.toNat ⟨⟨zy,⟨_,rfl,(coi bww)⟩,trivial⟩,trivial⟩ ?_;rintro k hk;refine w_6 ?_;refine hcd ?_ ?_<;>intro h2
 ·
  refine ov ?_;refine rc rfl rfl rfl rfl rfl rfl amd (aw9 n l (noA (sc n l s k) (n.toNat-1-k))) (⟨CoC.refl _,CoC.refl _,cci (axo _ _ bww),trivial⟩) rfl rfl ?_;refine cj ?_;refine hcb ?_ ?_<;>intro h3
  ·
   refine w_9 ?_
   first | (refine lpz (k+1) ⟨⟨⟨_, rfl, (ip ((axo _ (n.toNat-1-k) bww).trans (congrArg asI (auz bwx).symm)))⟩, ⟨_, rfl, (coi bww)⟩, tt⟩, trivial⟩ ?_; show k+1<=_; omega)
         |(refine lpz (k+1) ⟨⟨⟨_,rfl,(ip (by rw[av4 bwx]))⟩,⟨_,rfl,(coi bww)⟩,tt⟩,trivial⟩ ?_;show k+1<=_;omega)
  refine w_6 ?_
  first | (refine lpz (k+1) ⟨⟨⟨_, rfl, (ip ((axo _ (n.toNat-1-k) bww).trans (congrArg asI (auz bwx).symm)))⟩, ⟨_, rfl, (coi bww)⟩, tt⟩, trivial⟩ ?_; show k+1<=_; omega)
        |(refine lpz (k+1) ⟨⟨⟨_,rfl,(ip (by rw[av4 bwx]))⟩,⟨_,rfl,(coi bww)⟩,tt⟩,trivial⟩ ?_;show k+1<=_;omega)
 refine w_7 ?_;refine hrr ?_;have he:=bii h0 bwx;obtain rfl:k=n.toNat:=by omega
 exact f9 rfl rfl (⟨cci (congrArg asI he.1.symm),cci he.2.symm,trivial⟩)
end
section
def bo2 {n:Int} (h0:0<=n) (h1:n<=16):IntKind.wrap .i64 (1*2^min n.toNat IntKind.i64.bits)=((2^n.toNat:Nat):Int):=by
 have h2:2^n.toNat<=2^16:=buu bww bww
 have e:(1:Int)*2^min n.toNat IntKind.i64.bits=((2^n.toNat:Nat):Int):=by
  rw[show min n.toNat IntKind.i64.bits=n.toNat from btz (by show n.toNat<=64;omega),Int.natCast_pow,Int.one_mul];rfl
 rw[e];have h3:((2^n.toNat:Nat):Int)<=65536:=by omega
 have h4:0<=((2^n.toNat:Nat):Int):=bv4 _;generalize ((2^n.toNat:Nat):Int)=z at *;exact tz (by simp only[inR,w9,a0r];omega)
def bC:Bool->Nat->PV:=fun b _=>.raw (.bool b)
def b6m(n:Int)(l:List Fd)(k:Nat):Bool:=decide (clo l (BitVec.ofNat 32 k)=aa n)
def bpn(n:Int)(l:List Fd)(i:Nat):List Bool:=(List.range (2^n.toNat)).map fun k=>decide (k<i)&&b6m n l k
def bsf(n:Int)(l:List Fd):List Bool:=bpn n l (2^n.toNat)
end
section
section
variable {n:Int}{l:List Fd}
def okA(n:Int)(l:List Fd)(i a:Nat):Bool:=b6m n l i&&(List.range a).all fun b=>!(i.testBit b&&b6m n l (i ^^^ 2^b))
section
variable {i a:Nat}(hv:cb n l=0)(hi:i<2^n.toNat)(ha:(a:Int)<n)(hx:i ^^^ 2^a<2^n.toNat)
include hv hi ha hx
end
end
end
section
def avq (s:AS):Nat->AS->List AS
 |0,_=>[]
 |n+1,x=>if x=0 then[]else x::avq s n ((x-1)&&&s)
def alf(s:AS):List AS:=0::avq s (s.toNat+1) s
def sub_zero(s:AS):sub 0 s:=cz.2 fun i hi h=>by simp at h
def TsI(s:AS)(x:Nat×List AS×AS):Prop:=x.2.1++avq s x.1 x.2.2=alf s/\x.2.2.toNat<x.1/\x.2.1.length+x.1=s.toNat+2
def anh(l:List Fd)(p s:AS):Bool:=decide (sub p (clo l s))
def bq5(l:List Fd)(p x:AS):Bool:=(List.range 32).all fun a=>!(x.getLsbD a&&anh l p (noA x a))
def brp(l:List Fd)(p x r:AS):Prop:=sub r x/\∀a,a<32->x.getLsbD a=true->r.getLsbD a=true\/anh l p (noA x a)=false
def b7h(l:List Fd)(p x:AS):Bool:=anh l p x&&bq5 l p x
def b2w(l:List Fd)(p:AS):AS:=orL ((alf p).filter (b7h l p))
def a9j {k:Nat}:∀{ps:List AS} {s:AS},(ps.foldl (·|||·) s).getLsbD k=(s.getLsbD k||ps.any fun x=>x.getLsbD k)
 | [],s=>by simp
 | x::ps,s=>by
  rw[bvl,a9j,bv7,List.any_cons,Bool.or_assoc]
def bqi(l:List Fd)(p:AS)(i:Nat):AS:=orL (((alf p).take i).filter (b7h l p))
end
section
def brw(l:List Fd)(p x:AS)(a:Nat):Bool:=(List.range a).all fun b=>!(x.getLsbD b&&anh l p (noA x b))
def bpc(i:Nat):List AS:=(List.range i).map (BitVec.ofNat 32)
def prQ(l:List Fd)(p x:AS):Bool:=decide (sub x p)&&b7h l p x
def bqj(l:List Fd)(p:AS)(i:Nat):AS:=orL ((bpc i).filter (prQ l p))
section
variable {l:List Fd}{p:AS}{i:Nat}
end
def bop(l:List Fd)(p x:AS):Bool:=!anh l p x&&decide (((clo l x&&&p)&&&~~~x)&&&~~~b2w l p≠0)
def aya(l:List Fd)(p:AS):Bool:=!(alf p).any (bop l p)
def bqa(n:Int)(l:List Fd)(p:AS):Int:=if cb n l=0 then(if sub p (aa n)then 0 else 1)else cb n l
def bs0(n:Int)(l:List Fd)(p:AS):Bool:=decide (bqa n l p=0)&&aya l p
end
section
section
variable {n:Int}{l:List Fd}
def bjh(n:Int)(l:List Fd)(f:Fd):Bool:=decide (clo l f.lhs≠aa n)&&decide (f.rhs&&&~~~b2w l (aa n)≠0)
def br4(n:Int)(l:List Fd)(i:Nat):List Fd:=((a2v n l).take i).filter (bjh n l)
def br5(n:Int)(l:List Fd):List Fd:=(a2v n l).filter (bjh n l)
def ani(n:Int)(l:List Fd):(a2v n l).length<=2048:=by
 unfold a2v;split
 · rename_i h
   have h1:=(l4 h).2.2.1;have h2:=aem l
   have h3:(ar0 l).length<=(a38 l).length:=by
    have:∀(f:Nat) (k:List Fd) (i:Nat),(vj f k i).length<=k.length:=by
     intro f
     induction f with
     |zero=>intro k i;exact bsw _
     | succ f ih =>
      intro k i;unfold vj;split
      · rename_i hi
        split
        · exact btc (ih _ _) (by rw[mw hi];omega)
        exact ih _ _
      exact bsw _
    exact this _ _ _
   omega
 simp
end
end
section
def bpd(l:List Fd)(pr k:AS):Bool:=(List.range 32).all fun a=>!k.getLsbD a||decide (sub (clo l (noA k a)) pr)
def bpz(n:Int)(l:List Fd):Bool:=(b85 n l).all (bpd l (orL (b85 n l)))
def bs6(n:Int)(l:List Fd):Bool:=decide (cb n l=0)&&bpz n l
section
variable {l:List Fd}{pr k:AS}
def bsq(l:List Fd)(pr k r:AS):Prop:=sub r k/\∀a,a<32->k.getLsbD a=true->r.getLsbD a=true\/sub (clo l (noA k a)) pr
def bsr(l:List Fd)(pr k:AS)(s:Nat):Prop:=∀j,j<s->sub (BitVec.ofNat 32 j) k->sub (clo l (BitVec.ofNat 32 j)) pr
end
section
variable {n:Int}{l:List Fd}
end
end
section
def mgR(l:List Fd)(s:AS):AS:=(l.filter fun f=>decide (f.lhs=s)).foldl (fun a f=>a|||f.rhs) 0
def mgF(l:List Fd)(s:AS):Fd:=⟨s,mgR l s⟩
def ai6(l:List Fd):List Fd:=(ord (l.map Fd.lhs)).map (mgF l)
def bln {l:List Fd} {s:AS} {i:Nat} (hi:i<l.length) (h:(l.getD i default).lhs=s):mgR (l.take (i+1)) s=mgR (l.take i) s|||(l.getD i default).rhs:=by
 unfold mgR;rw[aj hi,buo,btq];simp only[buy,h,decide_true,if_true,bw8,bvl,List.foldl_nil]
def blq {l:List Fd} {s:AS} {i:Nat} (hi:i<l.length) (h:¬(l.getD i default).lhs=s):mgR (l.take (i+1)) s=mgR (l.take i) s:=by
 unfold mgR;rw[aj hi,buo,btq];simp only[buy,h,decide_false,buv,if_false,bw8,List.foldl_nil]
def bpj {l:List Fd} {s:AS} {i:Nat} (hi:i<l.length) (h:asI (l.getD i default).lhs=asI s):PV.raw (.int .u32 (ct .or .u32 (asI (mgR (l.take i) s)) (asI (l.getD i default).rhs)))=asC (mgR (l.take (i+1)) s):=by
 rw[bOr,bln hi (df.1 h)];rfl
def b79 (l:List Fd):(ai6 l).length<=l.length:=by
 unfold ai6;rw[btn];exact btc (uz _) (by rw[btn];exact bsw _)
end
section
open Go.Proofs
def brg(t:AS)(l:List Fd):Prop:=∀x∈l,sub x.rhs t
def jc(n:Int)(l:List Fd):List Fd:=ai6 (a2v n l)
def apu(n:Int)(l:List Fd):(jc n l).length<=2048:=btc (b79 _) (ani n l)
def pt(f:Fd):AS:=f.lhs|||f.rhs
section
variable {n:Int}{l:List Fd}
def oh(n:Int)(l:List Fd)(i:Nat):Bool:=((jc n l).take i).any fun f=>oz n l (pt f)
def a5n {i:Nat} (hi:i<(jc n l).length):oh n l (i+1)=(oh n l i||oz n l (pt ((jc n l).getD i default))):=by
 unfold oh;rw[aj hi,List.any_append];simp
def azm(h:cb n l=0):oz n l (aa n)=true:=decide_eq_true ⟨h,jh _,lj (b7u h (jh _)) aos⟩
def b9q(h:cb n l=0):rkE n l (aa n)=0:=(bii h (azm h)).2
def ac2(n:Int)(l:List Fd):List AS:=(jc n l).map pt
def bgy(n:Int)(l:List Fd):List AS:=gw (if oh n l (jc n l).length=true then ac2 n l else ac2 n l++[rkS n l (aa n)])
def aq1(n:Int)(l:List Fd):List AS:=if cb n l=0 then bgy n l else[]
def blg(h:¬cb n l=0):aq1 n l=[]:=if_neg h
def bgd(h:cb n l=0):aq1 n l=bgy n l:=if_pos h
def b45(n:Int)(l:List Fd):(ac2 n l).length<=2048:=by unfold ac2;rw[btn];exact apu n l
def akj(n:Int)(l:List Fd):((jc n l).take (jc n l).length).map pt=ac2 n l:=by rw[bt6];rfl
def a8b(n:Int)(l:List Fd):List AS:=if oh n l (jc n l).length=true then ac2 n l else ac2 n l++[rkS n l (aa n)]
def a3o(h:oh n l (jc n l).length=true):a8b n l=((jc n l).take (jc n l).length).map pt:=by rw[akj];exact if_pos h
def af3(h:oh n l (jc n l).length=false):a8b n l=((jc n l).take (jc n l).length).map pt++[rkS n l (aa n)]:=by rw[akj];exact if_neg (by rw[h];decide)
def b6z (n:Int) (l:List Fd):(a8b n l).length<=4096:=by
 have:=b45 n l;unfold a8b;split
 · omega
 rw[bsy,bub];omega
def b8t{i:Nat}(hi:i<(jc n l).length)(h:oh n l i=true):true=oh n l (i+1):=by rw[a5n hi,h];rfl
def b91{i:Nat}(hi:i<(jc n l).length)(h:oh n l i=false):oz n l (pt ((jc n l).getD i default))=oh n l (i+1):=by rw[a5n hi,h];rfl
def b8m{i:Nat}(hi:i<(jc n l).length):(bif oh n l i then true else oz n l (pt ((jc n l).getD i default)))=oh n l (i+1):=by rw[a5n hi];cases oh n l i<;>rfl
end
end
section
open Go.Proofs
def biv (hM:∀k:List Fd,k.length<=16777216->a6 bxn 89 [pP (fdl k)] (ae [pP (fdl (ai6 k))])) (n:Int) (l:List Fd):a6 bxn 37 [pI n,pP (fdl l)] (ae [pP (fdl (jc n l)),pI (cb n l)]):=by
 refine hpx (nt:=17) Tryz.func37 ?_;refine w_9 ?_;refine qcx (wgx Tryz.func63) (bn6 n l) ?_;refine w_7 ?_;have hml:=ani n l;refine w_2 ?_;refine qcx (wgx Tryz.func89) (hM (a2v n l) bww) ?_;refine v_4 ?_;exact CoL.refl _
def bbb(hM:∀k:List Fd,k.length<=16777216->a6 bxn 89 [pP (fdl k)] (ae [pP (fdl (ai6 k))]))(n:Int)(l:List Fd):a6 bxn 10 [pI n,pP (fdl l)] (ae [pP (asl (aq1 n l)),pI (cb n l)]):=by
 refine hpx (nt:=66) Tryz.func10 ?_;refine w_9 ?_;refine qcx (wgx Tryz.func37) (biv hM n l) ?_;refine fh ?_;refine hcn ?_ ?_<;>intro h0
 · refine v_6 ?_;exact⟨CoC.one (am3 (blg h0)),CoC.refl _,trivial⟩
 refine w_2 ?_;have hv:=l4 h0;have hcl:=apu n l;have hsl:=b6z n l;refine j5 ?_;refine d4 8 900 true 1 50 (lf sC []) bx3 rfl (CoP.sl rfl (.inr rfl) (fun h=>h) (fun i j hi _=>absurd hi (bt1 i))) (.inr rfl) rfl ?_;refine br (ka 0 (ka 1 (ka 24 (ka 25 kn)))) km (fun i=>⟨[(8,some (.v (.one (.ref 900 (((jc n l).take i).map pt).length)))),(9,some (vB (oh n l i))),(26,some (vI i))],[(900,some (.arr true 1 50 (((jc n l).take i).map pt).length (lf sC (((jc n l).take i).map pt))))]⟩) ((jc n l).length) ⟨⟨zy,⟨_,rfl,(cob rfl)⟩,tt⟩,uu⟩ ?_;rintro i hi;have hlen:(((jc n l).take i).map pt).length<=i:=by rw[btn,bt4];omega
 refine w_5 ?_;refine hcd ?_ ?_<;>intro h1
 ·
  refine w_7 ?_;refine m9 0 ?_;refine j5 ?_;refine m9 1 ?_;refine r9 2 true ?_;refine w_5 ?_;refine ak rfl rfl ?_ ?_<;>intro r2
  ·
   have h2:=r2;(iterate 4 refine k9 (gtf r2) ?_);refine w_7 ?_
   exact lpx (i+1) ⟨⟨⟨_,rfl,(bq (a2o bww))⟩,⟨_,rfl,(cob (by first|exact b8t (n:=n) (l:=l) (i:=i) bww bwx|exact b91 (n:=n) (l:=l) (i:=i) bww bwx|exact b8m (n:=n) (l:=l) (i:=i) bww))⟩,tt⟩,⟨⟨_,rfl,(bw (a2o bww) (CoP.of_eq (congrArg (fun z=>PV.raw (.int .u32 z)) (bOr _ _))))⟩,trivial⟩⟩
  have h2:=r2;(iterate 3 refine qy ?_ (hg:=(gff r2)));refine rc rfl rfl rfl rfl rfl rfl amd (aw9 n l (pt ((jc n l).getD i default))) (⟨CoC.refl _,CoC.refl _,cci (bOr _ _),trivial⟩) rfl (gff r2) ?_;refine w_7 ?_
  exact lpx (i+1) ⟨⟨⟨_,rfl,(bq (a2o bww))⟩,⟨_,rfl,(cob (by first|exact b8t (n:=n) (l:=l) (i:=i) bww bwx|exact b91 (n:=n) (l:=l) (i:=i) bww bwx|exact b8m (n:=n) (l:=l) (i:=i) bww))⟩,tt⟩,⟨⟨_,rfl,(bw (a2o bww) (CoP.of_eq (congrArg (fun z=>PV.raw (.int .u32 z)) (bOr _ _))))⟩,trivial⟩⟩
 obtain rfl:i=(jc n l).length:=by omega
 refine ck ?_;refine a1f kn km ⟨[(8,some (.v (.one (.ref 900 (a8b n l).length))))],[(900,some (.arr true 1 50 (a8b n l).length (lf sC (a8b n l))))]⟩ ?_ ?_
 ·
  refine w_5 ?_;refine hcv ?_ ?_<;>intro h3
  ·
   refine w_5 ?_;refine qcx (wgx Tryz.func40) (bis n hv.1 hv.2.1) ?_;refine qcx (wgx Tryz.func39) (bfv n l (aa n)) ?_;refine fh ?_;refine hcn ?_ ?_<;>intro h4
   · exfalso;exact h4 (b9q h0)
   refine w_4 ?_;refine m9 3 ?_;refine r9 4 true ?_;refine w_2 ?_;exact⟨⟨⟨_,rfl,(by first|exact fb (by rw[a3o bwx])|exact fb (by rw[af3 bwx,bsy];rfl))⟩,trivial⟩,⟨⟨_,rfl,(by first|exact jw (a3o bwx) (by rw[a3o bwx])|exact bw (af3 bwx) (CoP.refl _))⟩,trivial⟩⟩
  refine dn ?_;exact⟨⟨⟨_,rfl,(by first|exact fb (by rw[a3o bwx])|exact fb (by rw[af3 bwx,bsy];rfl))⟩,trivial⟩,⟨⟨_,rfl,(by first|exact jw (a3o bwx) (by rw[a3o bwx])|exact bw (af3 bwx) (CoP.refl _))⟩,trivial⟩⟩
 refine d5 ?_;refine bh 8 rfl rfl rfl ?_;refine w_2 ?_;refine qcx an9 (abh (a8b n l) bww) ?_;refine v_3 ?_;exact⟨CoC.one (CoP.of_eq (by rw[bgd h0];rfl)),cci h0.symm,trivial⟩
end
section
def Eqv(l k:List Fd):Prop:=∀s,uh l s<->uh k s
theorem Eqv.refl(l:List Fd):Eqv l l:=fun s=>Iff.rfl
theorem Eqv.trans{a b c:List Fd}(h:Eqv a b)(k:Eqv b c):Eqv a c:=fun s=>(h s).trans (k s)
theorem Eqv.clo {l k:List Fd} (h:Eqv l k) (s:AS):clo l s=clo k s :=
 lj (a8c ((h _).2 a7w) aos) (a8c ((h _).1 a7w) aos)
end
section
def bqx(l:List Fd)(ps:List AS)(t:AS):Prop:=∀p∈ps,sub (clo l (t&&&p)&&&p) t
def bnm(l:List Fd)(s p:AS):AS:=s|||(clo l (s&&&p)&&&p)
def bqk(l:List Fd)(ps:List AS)(s:AS):AS:=ps.foldl (bnm l) s
def PrI(l:List Fd)(ps:List AS)(z s:AS):Prop:=sub z s/\sub s (b7i l ps z)
def bro(n:Int)(l:List Fd)(i:Nat):List AS:=((c8 (aa n)).take i).filter fun s=>!yo l s
end
section
def bqm(l:List Fd):Prop:=∀f∈l,∀i,i<32->f.rhs.getLsbD i=true->f.lhs.getLsbD i=false
section
variable {n:Int}{l:List Fd}
end
end
section
open Go.Proofs
def aab {ps:List AS} {k:AS} (h:k∈ps):sub k (orL ps):=cz.2 fun i hi hb=>by
 unfold orL;rw[a9j,bud];exact .inr (bu1.2 ⟨k,h,hb⟩)
section
variable {n:Int}{l:List Fd}
end
end
section
def b51{L:List AS}{x:AS}:x∈gw L<->x∈L/\∀y∈L,sub x y->x=y:=by
 unfold gw a5a a3j;rw[bul,o3,bu4,buk];constructor
 · rintro ⟨h1,h2⟩
   refine⟨h1,fun y hy hs=>Classical.byContradiction fun hne=>h2 y (o3.2 hy) ?_⟩;rw[bt5,decide_eq_true_iff];exact⟨hne,decide_eq_true hs⟩
 rintro⟨h1,h2⟩;refine⟨h1,fun y hy hc=>?_⟩;rw[bt5,decide_eq_true_iff]at hc;exact hc.1 (h2 y (o3.1 hy) (of_decide_eq_true hc.2))
def af0{L:List AS}:∀(n:Nat) (x:AS),x∈L->4294967296-x.toNat<=n->∃y∈gw L,sub x y
 |0,x,_,h=>by have:=x.isLt;omega
 | n + 1,x,hx,h=>by
  by_cases hm:x∈gw L
  · exact⟨x,hm,jh x⟩
  have:∃y∈L,sub x y/\x≠y:=by
   apply Classical.byContradiction;intro hn;exact hm (b51.2 ⟨hx,fun y hy hs=>Classical.byContradiction fun hne=>hn ⟨y,hy,hs,hne⟩⟩)
  obtain⟨y,hy,hs,hne⟩:=this;have hlt:=xw hs hne;have hyl:=y.isLt;obtain⟨z,hz,hyz⟩:=af0 n y hy bww;exact⟨z,hz,ku hs hyz⟩
def aib{L:List AS}{x:AS}(h:x∈L):∃y∈gw L,sub x y:=af0 4294967296 x h bww
section
variable {n:Int}{l:List Fd}
def b0r {L:List AS} {t:AS} (h:∀x∈L,sub x t):sub (orL L) t:=cz.2 fun i hi hb=>by
 unfold orL at hb;rw[a9j,bud]at hb
 rcases hb with hb|hb
 · simp at hb
 obtain⟨x,hx,hxb⟩:=bu1.1 hb;exact cz.1 (h x hx) i hi hxb
end
end
section
def a2c(E:Int->Int->Prop)(R:Rw->Prop)(s:AS):Prop:=∃r,R r/\∀i:Nat,i<r.length->bu s (i:Int)=true->E (r.getD i default) (i:Int)
section
variable {N:Nat}{p m:List Fd}{E:Int->Int->Prop}{R:Rw->Prop}
def b4f{s t:AS}(h:sub s t){i:Nat}(hi:bu s (i:Int)=true):bu t (i:Int)=true:=by
 by_cases hl:i<32
 · rw [c9 hl]at hi ⊢
   exact cz.1 h i hl hi
 rw[a0n bww]at hi;cases hi
def a2c.mono {s t:AS} (h:a2c E R t) (hs:sub s t):a2c E R s:=by
 obtain⟨r,h1,h2⟩:=h;exact⟨r,h1,fun i hi hh=>h2 i hi (b4f hs hh)⟩
end
section
variable {n:Int}{p m:List Fd}{ps:List AS}
section
variable {E:Int->Int->Prop}
def b2p(h0:0<=n){R:Rw->Prop}(h:Mdl n.toNat p m E R)(hl:∀r,r∈b9 n ps->R r){q:AS}(hq:q∈ps):a2c E R q:=by
 obtain⟨i,hi,e⟩:=vi hq;refine⟨stR n i q,hl _ ?_,fun c hc hh=>?_⟩
 · unfold b9
   exact bti.2 ⟨i,btj.2 hi,by rw[e]⟩
 rw[a91]at hc;rw[aml hc];unfold stV;rw[if_pos hh];exact h.refl _
def ant {c:Nat} (hc:c<n.toNat):(dy n).getD c default=(c:Int):=by
 unfold dy;rw[bsv,btf,bu8 hc];rfl
def aop {i:Nat} (h16:n<=16) (hi:i<n.toNat):bu (aa n) (i:Int)=true:=by
 rw[c9 bww];unfold aa;rw[btz bww,mh _ _ bww];exact decide_eq_true hi
def b1i (h16:n<=16) {R:Rw->Prop} (h:Mdl n.toNat p m E R) (hf:a2c E R (aa n)):R (dy n):=by
 obtain⟨r,hr,hh⟩:=hf;have hl:=h.len hr;refine h.cong hr (by rw[afw,hl]) fun i hi=>?_;rw[ant bww];exact hh i hi (aop h16 bww)
end
end
end
section
def lvE(n:Int)(ps:List AS):Int:=if n<0\/8<n then 7 else if 64<ps.length then 3 else if ps.length=0\/¬orL ps=aa n then 1 else 0
section
variable {n:Int}{ps:List AS}{p m:List Fd}
def b9a(h:n<0\/8<n):lvE n ps=7:=if_pos h
def bn5(h:¬(n<0\/8<n))(h2:64<ps.length):lvE n ps=3:=by unfold lvE;rw[if_neg h,if_pos h2]
def b89(h:¬(n<0\/8<n))(h2:¬64<ps.length)(h3:ps.length=0\/¬orL ps=aa n):lvE n ps=1:=by unfold lvE;rw[if_neg h,if_neg h2,if_pos h3]
def b8d(h:¬(n<0\/8<n))(h2:¬64<ps.length)(h3:¬(ps.length=0\/¬orL ps=aa n)):lvE n ps=0:=by unfold lvE;rw[if_neg h,if_neg h2,if_neg h3]
theorem a41 (h:lvE n ps=0):0<=n/\n<=8/\ps.length<=64/\0<ps.length/\orL ps=aa n:=by
 unfold lvE at h
 grind
def lsT(n:Int)(ps:List AS)(p m:List Fd):List St×(Int×List Rw)×Int:=mj FU n (bn (b9 n ps)) p m
def lsC(n:Int)(ps:List AS)(p m:List Fd):Int:=if lvE n ps=0 then(if dc n p m=0 then(lsT n ps p m).2.2 else dc n p m)else lvE n ps
def lsB(n:Int)(ps:List AS)(p m:List Fd):Bool:=decide (lsC n ps p m=0)&&(lsT n ps p m).2.1.2.any fun r=>decide (r=dy n)
def alp(h:lvE n ps=0)(h2:dc n p m=0):lsC n ps p m=(lsT n ps p m).2.2:=(if_pos h).trans (if_pos h2)
theorem azl (h:lsC n ps p m=0):lvE n ps=0/\dc n p m=0:=by
 unfold lsC at h
 grind
def bjn (h:lvE n ps=0) {q:AS} (hq:q∈ps):sub q (aa n):=by
 rw[<- (a41 h).2.2.2.2];exact aab hq
def b5u (h:lvE n ps=0):j8 n ps=(n,bn (b9 n ps),0):=by
 obtain⟨h0,h8,h64,_⟩:=a41 h;exact aqi bww bww fun j hj=>(b8e h0 bww).1 (bjn h (gl hj))
theorem b38 (h0:0<=n) (h6:n<=6) (hd:ps.Nodup) (hs:∀q,q∈ps->sub q (aa n)):ps.length<=64:=by
 have hlt:∀q,q∈ps->q.toNat<64:=fun q hq=>by
  have h1:=b2a (hs q hq);have h2:∀k,k<=6->(kc k).toNat<64:=by decide +kernel
  have h3:=h2 (min n.toNat 32) bww;have h4:(aa n).toNat<64:=h3;omega
 have hn:(ps.map BitVec.toNat).Nodup:=by
  refine List.Pairwise.map BitVec.toNat (fun a b hab e=>?_) hd;exact hab (bug e)
 have:=hn.length_le_of_subset (l₂:=List.range 64) fun x hx=>by
  grind
 grind
theorem bmc (h0:0<=n) (h6:n<=6) (hd:ps.Nodup) (hs:∀q,q∈ps->sub q (aa n)) (hne:0<ps.length) (ho:sub (aa n) (orL ps)):lvE n ps=0:=by
 have h1:=b38 h0 h6 hd hs;have h2:orL ps=aa n:=lj (b0r hs) ho
 exact b8d bww bww fun e=>by
  grind
def brk(n:Int)(p:List Fd)(ps:List AS):Bool:=lsB n ps p []&&!ps.any (yo p)
end
end
section
abbrev tbC(a:Int×List Rw):Nat->PV:=fun j=>[.raw (.int .i64 a.1),rl a.2].getD j .any
def lcR (n:Int) (ps:List AS) (p m:List Fd):(Int×List Rw)×List St×(Int×List Rw)×Int :=
 if lvE n ps=0 then(if dc n p m=0 then((n,bn (b9 n ps)),(lsT n ps p m).1,(lsT n ps p m).2.1,(lsT n ps p m).2.2) else((0,[]),[],(0,[]),dc n p m)) else((0,[]),[],(0,[]),lvE n ps)
section
variable {n:Int}{ps:List AS}{p m:List Fd}{l lend:List Rw}
def bnu(h:¬lvE n ps=0):lcR n ps p m=((0,[]),[],(0,[]),lvE n ps):=if_neg h
def bls(h:lvE n ps=0)(h2:¬dc n p m=0):lcR n ps p m=((0,[]),[],(0,[]),dc n p m):=(if_pos h).trans (if_neg h2)
def b9b(h:lvE n ps=0)(h2:dc n p m=0):lcR n ps p m=((n,bn (b9 n ps)),(lsT n ps p m).1,(lsT n ps p m).2.1,(lsT n ps p m).2.2):=(if_pos h).trans (if_pos h2)
def ada:(lcR n ps p m).2.2.2=lsC n ps p m:=by
 unfold lcR lsC;split
 · split<;>rfl
 rfl
def b96:∀{sts:List St} {l:List Rw} {i:Nat},TrZ n p m lend l sts->i<=sts.length->TrZ n p m lend ((trL n p m l sts).getD i default) (sts.drop i)
 | [],l,0,h,_=>h
 |s::r,l,0,h,_=>h
 | s::r,l,i+1,h,hi=>by
  obtain⟨_,_,l',e,_,h⟩:=h;unfold trL;rw[e];exact b96 (i:=i) h (by simpa using hi)
def auy:∀{sts:List St} {l:List Rw} {i:Nat},i<sts.length->(trL n p m l sts).getD (i+1) default=(dx n ((trL n p m l sts).getD i default) p m (sts.getD i default)).2.1
 | [],l,i,hi=>by simp at hi
 | s::r,l,0,_=>by
  unfold trL
  cases r with
  |nil=>rfl
  |cons s2 r2=>rfl
 | s::r,l,i+1,hi=>by
  unfold trL;exact auy (sts:=r) (i:=i) (by simpa using hi)
section
variable {sts:List St}
def auo:(trL n p m l sts).getD 0 default=l:=by cases sts<;>rfl
def vg(n:Int)(p m:List Fd)(l:List Rw)(sts:List St):List (Int×List Rw):=(trL n p m l sts).map fun t=>(n,t)
def aow:(vg n p m l sts).length=sts.length+1:=by unfold vg;rw[btn,agl]
def aie {i:Nat} (hi:i<=sts.length):(vg n p m l sts).getD i default=(n,(trL n p m l sts).getD i default):=by
 unfold vg;have:i<(trL n p m l sts).length:=by rw[agl];omega
 rw[bsv,btf,bsu this,bsv,bsu this];rfl
def rcR (n:Int) (ps:List AS) (p m:List Fd):List St×List (Int×List Rw)×Int :=
 if lsC n ps p m=0 then((lsT n ps p m).1,vg n p m (bn (b9 n ps)) (lsT n ps p m).1,0) else([],[],lsC n ps p m)
def avs(h:lsC n ps p m=0):rcR n ps p m=((lsT n ps p m).1,vg n p m (bn (b9 n ps)) (lsT n ps p m).1,0):=if_pos h
def b0k(h:lvE n ps=0)(hb:dc n p m=0)(hc:(lsT n ps p m).2.2=0):∃sts lend,lsT n ps p m=(sts,(n,lend),0)/\TrZ n p m lend (bn (b9 n ps)) sts/\tok n lend=true/\((∃t,t∈trL n p m (bn (b9 n ps)) sts/\dy n∈t)<->dy n∈lend):=by
 rcases ajs (a41 h).2.2.1 hb with⟨e,_⟩|⟨sts,lend,e,h1,h2,h3,h4⟩
 · unfold lsT at hc
   rw[e]at hc;exact absurd hc bx3
 exact⟨sts,lend,e,h2,h3,h4⟩
def b0i{p m:List Fd}:∀(F:Nat) (n:Int) (l:List Rw) (acc:List St),(j6 F n l p m acc).1.length<=acc.length+F:=by
 intro F
 induction F with
 |zero=>intro n l acc;unfold j6;simp
 | succ F ih =>
  intro n l acc;unfold j6;split
  · simp
  rename_i s _;split;rename_i n' l' e _;split
  · have:=ih n' l' (acc++[s])
    simp only[bsy,bub]at this;omega
  simp
def bc8 (h:lvE n ps=0) (hb:dc n p m=0):(lsT n ps p m).1.length<=FU:=by
 obtain⟨h0,h8,h64,_⟩:=a41 h;have hT:=aen (ps:=ps) h0 bww h64;have hck:ckE n (bn (b9 n ps)) p m=0:=(if_pos hT).trans hb;unfold lsT;rw[a4m hck];have:=b0i (p:=p) (m:=m) FU n (bn (b9 n ps)) [];simpa using this
def nc(n:Int)(t:List Rw):Bool:=t.any fun r=>decide (r=dy n)
def prX(n:Int)(ps:List AS)(p m:List Fd):Int:=idx (fun a:Int×List Rw=>nc n a.2) (rcR n ps p m).2.1
def prC(n:Int)(ps:List AS)(p m:List Fd):Int:=if(rcR n ps p m).2.2=0 then(if prX n ps p m<0 then 11 else 0) else(rcR n ps p m).2.2
def prS(n:Int)(ps:List AS)(p m:List Fd):List St:=if(rcR n ps p m).2.2=0 then(if prX n ps p m<0 then[] else(rcR n ps p m).1.take (prX n ps p m).toNat) else[]
def a07:(rcR n ps p m).2.2=lsC n ps p m:=by
 unfold rcR;split
 · rename_i h;exact h.symm
 rfl
def bbm(hc:lsC n ps p m=0):(0<=prX n ps p m)<->lsB n ps p m=true:=by
 obtain⟨h1,h2⟩:=azl hc;have hc2:(lsT n ps p m).2.2=0:=(alp h1 h2).symm.trans hc;obtain⟨sts,lend,e,_,_,h3⟩:=b0k h1 h2 hc2
 have e1:lsB n ps p m=decide (dy n∈lend):=by
  unfold lsB;rw[decide_eq_true hc,bv2,e];exact a1h
 have e2:(rcR n ps p m).2.1=vg n p m (bn (b9 n ps)) sts:=by rw[avs hc,e]
 have e3:(vg n p m (bn (b9 n ps)) sts).any (fun a=>nc n a.2)=decide (0<=prX n ps p m):=by
  unfold prX;rw[e2];exact a0i.symm
 rw[e1,decide_eq_true_iff,<- h3,<- decide_eq_true_iff (p:=0<=prX n ps p m),<- e3,bu1];unfold vg nc;constructor
 · rintro ⟨x,hx,h⟩
   obtain⟨t,ht,rfl⟩:=bti.1 hx;exact⟨t,ht,by rw[a1h]at h;exact of_decide_eq_true h⟩
 rintro⟨t,ht,h⟩;exact⟨(n,t),bti.2 ⟨t,ht,rfl⟩,by rw[a1h];exact decide_eq_true h⟩
end
end
end
section
open Go.Proofs
def b32 {n:Int} {ps:List AS} {p m:List Fd} (h:lvE n ps=0) (hb:dc n p m=0) (hc:(lsT n ps p m).2.2=0):TrZ n p m (lsT n ps p m).2.1.2 (bn (b9 n ps)) (lsT n ps p m).1:=by
 obtain⟨sts,lend,e,htr,_⟩:=b0k h hb hc;rw[e];exact htr
def b3g {n:Nat} {l:List St} {i:Nat} {cl:Bool} (hn:n=(l.take i).length) {f:Nat->Nat->PV} (hf:∀a j,f a j=lf St.c l a j):CoP (.sl n 4 cl f) (stl (l.take i)):=by
 refine CoP.sl hn.symm (.inl rfl) (fun h=>by cases h) fun a j ha hj=>CoP.of_eq ?_;rw[hf];show St.c (l.getD a default) j=St.c ((l.take i).getD a default) j;have:a<i:=by rw[hn,bt4]at ha;omega
 rw[bsv,bsv,btx,if_pos this]
def au7 (n:Int) (ps:List AS) (h:lvE n ps=0):a6 bxn 98 [pI n,pP (asl ps)] (ae [pT n (bn (b9 n ps)),pI 0]):=by
 have:=bhg n ps;rw[b5u h]at this;exact this
def bei (n:Int) (ps:List AS) (p m:List Fd):a6 bxn 142 [pT n (bn (b9 n ps)),pP (fdl p),pP (fdl m)] (ae [pP (stl (lsT n ps p m).1),pT (lsT n ps p m).2.1.1 (lsT n ps p m).2.1.2,pI (lsT n ps p m).2.2]) :=
 bgr FU n (bn (b9 n ps)) p m (fun h=>az6 h) bx3
def bnw {n:Int} {p m:List Fd} {l lend:List Rw} {sts:List St} {i:Nat} (hi:i<sts.length) (h:TrZ n p m lend l (sts.drop i)):tok n l=true/\a28 l p m (sts.getD i default)/\dx n l p m (sts.getD i default)=(n,(dx n l p m (sts.getD i default)).2.1,0):=by
 have e:sts.drop i=sts.getD i default::sts.drop (i+1):=by
  rw[bva hi,bsv,bsu hi];rfl
 rw[e]at h;obtain⟨h1,h2,l',h3,h4,h5⟩:=h;rw[h3];exact⟨h1,h2,rfl⟩
end
section
open Go.Proofs
def bih (ps:List AS):a6 bxn 125 [pP (asl ps)] (ae [pA (orL ps)]):=by
 refine hpx (nt:=17) Tryz.func125 ?_;refine da ?_;refine cw 0 rfl fun hn=>?_;refine w_6 ?_;refine br (ka 6 (ka 7 kn)) km (fun i=>⟨[(3,some (vA (orL (ps.take i)))),(8,some (vI i))],[]⟩) ps.length ⟨⟨⟨_,rfl,(CoR.refl _)⟩,tt⟩,trivial⟩ ?_;rintro i hi;refine w_5 ?_;refine hcd ?_ ?_<;>intro h0
 · refine air ?_;exact lpx (i+1) ⟨⟨⟨_,rfl,(ip (by rw[bOr,b7r bww];rfl))⟩,tt⟩,trivial⟩
 obtain rfl:i=ps.length:=by omega
 refine v_6 ?_;exact⟨cci (by rw[bt6]),trivial⟩
def apz:goodFn bxn 70:=wgx Tryz.func70
def aic (n:Int) (ps:List AS):a6 bxn 70 [pI n,pP (asl ps)] (ae [pI (lvE n ps)]):=by
 refine hpx (nt:=28) Tryz.func70 ?_;refine ig ?_;refine ak rfl rfl ?_ ?_<;>intro r0
 ·
  have h0:=tz1 r0;(iterate 2 refine k9 (gtf r0) ?_);refine w_8 ?_
  exact hx8 rfl rfl rfl (⟨cci (b9a bww).symm,trivial⟩)
 have h0:=tz2 r0;(iterate 2 refine qy ?_ (hg:=(gff r0)));refine w_3 ?_;refine al _ rfl ?_ ?_<;>intro r1
 · have h1:=tz1 (ax r0 r1);refine v_4 ?_;exact⟨cci (b9a bww).symm,trivial⟩
 have h1:=tz2 (ax r0 r1);have hz0:0<=n:=by omega
 have hz1:n<=16:=by omega
 refine w_7 ?_;refine hcd ?_ ?_<;>intro h2
 · refine v_4 ?_;exact⟨cci (bn5 bww bww).symm,trivial⟩
 refine w_6 ?_;refine ak rfl rfl ?_ ?_<;>intro r3
 ·
  have h3:=tz1 r3;(iterate 6 refine k9 (gtf r3) ?_);refine w_9 ?_
  exact hx8 rfl rfl rfl (⟨cci (b89 bww bww (by first|exact .inl bww|exact .inr (fun e=>absurd (show asI (orL ps)=IntKind.wrap .u32 (1*2^(min n.toNat 32))-1 by rw[ph hz0 hz1,e]) bwx))).symm,trivial⟩)
 have h3:=tz2 r3;refine qy ?_ (hg:=(gff r3));refine qcx (wgx Tryz.func125) (bih ps) ?_ (hg:=(gff r3));(iterate 2 refine qy ?_ (hg:=(gff r3)));refine rq rfl rfl rfl rfl (gff r3) ?_ (hp:=⟨qd hz0 hz1,o9 hz0 hz1⟩);refine qy ?_ (hg:=(gff r3));refine w_4 ?_;refine al _ rfl ?_ ?_<;>intro r4
 · have h4:=tz2 (dt (ax r3 r4));refine v_4 ?_;exact⟨cci (b89 bww bww (by first|exact .inl bww|exact .inr (fun e=>absurd (show asI (orL ps)=IntKind.wrap .u32 (1*2^(min n.toNat 32))-1 by rw[ph hz0 hz1,e]) bwx))).symm,trivial⟩
 have h4:=tz1 (du (ax r3 r4));refine w_6 ?_;refine⟨.inr rfl, ?_⟩
 exact ⟨_,_,_,_,rfl,(by(repeat' apply And.intro)<;>first|trivial|exact bt0 rfl|rfl),rfl,(by(repeat' apply And.intro)<;>first|trivial|exact bt0 rfl|rfl),⟨cci (b8d bww bww (fun e=>by
  rcases e with e|e
  · omega
  exact e (df.1 ((by assumption:asI (orL ps)=IntKind.wrap .u32 (1*2^(min n.toNat 32))-1).trans (ph hz0 hz1))))).symm,trivial⟩⟩
def bfg (n:Int) (ps:List AS) (p m:List Fd):a6 bxn 93 [pI n,pP (asl ps),pP (fdl p),pP (fdl m)] (ae [pT (lcR n ps p m).1.1 (lcR n ps p m).1.2,pP (stl (lcR n ps p m).2.1),pT (lcR n ps p m).2.2.1.1 (lcR n ps p m).2.2.1.2,pI (lcR n ps p m).2.2.2]):=by
 refine hpx (nt:=58) Tryz.func93 ?_;refine sx7 ?_;refine m9 0 ?_;refine qy ?_;refine m9 1 ?_;refine w_7 ?_;refine qcx apz (aic n ps) ?_;refine w_7 ?_;refine hcn ?_ ?_<;>intro h0
 · refine da ?_;refine hrr ?_;have he:=bnu (p:=p) (m:=m) (by assumption:¬lvE n ps=0);exact f9 rfl rfl (by rw[he];exact⟨CoC.agg ⟨CoP.refl _,ed,trivial⟩,CoC.one (CoP.sl rfl (.inr rfl) (fun _=>rfl) (fun i j hi _=>absurd hi (bt1 i))),CoC.agg ⟨CoP.refl _,ed,trivial⟩,CoC.refl _,trivial⟩)
 have hv:lvE n ps=0:=by assumption
 refine w_7 ?_;refine qcx a8a (a44 n p m) ?_;refine w_7 ?_;refine hcn ?_ ?_<;>intro h1
 · refine da ?_;refine hrr ?_;have he:=bls hv (by assumption:¬dc n p m=0);exact f9 rfl rfl (by rw[he];exact⟨CoC.agg ⟨CoP.refl _,ed,trivial⟩,CoC.one (CoP.sl rfl (.inr rfl) (fun _=>rfl) (fun i j hi _=>absurd hi (bt1 i))),CoC.agg ⟨CoP.refl _,ed,trivial⟩,CoC.refl _,trivial⟩)
 have hb:dc n p m=0:=by assumption
 refine w_5 ?_;refine qcx (wgx Tryz.func98) (au7 n ps hv) ?_;refine w_3 ?_;refine m9 2 ?_;refine ov ?_;refine qcx (wgx Tryz.func142) (bei n ps p m) ?_;refine w_4 ?_;refine m9 3 ?_;refine ov ?_;refine hrr ?_;have he:=b9b hv hb;exact f9 rfl rfl (by rw[he];exact CoL.refl _)
def av6 (n:Int) (h0:0<=n) (h1:n<=16):a6 bxn 95 [pI n] (ae [pZ (dy n)]):=by
 refine hpx (nt:=18) Tryz.func95 ?_;refine w_7 ?_;refine m9 0 ?_;refine da ?_;refine br (ka 3 (ka 8 kn)) km (fun k=>⟨[(9,some (vI k))],[(0,some (.arr true 1 3 n.toNat (lf zC (stT n 0 (kc 32) k))))]⟩) n.toNat ⟨tt,⟨⟨_,rfl,(anl rfl (fun _=>rfl))⟩,trivial⟩⟩ ?_;rintro k hk;refine w_5 ?_;refine hcd ?_ ?_<;>intro h0
 · refine air ?_;exact lpx (k+1) ⟨tt,⟨⟨_,rfl,(bji (b2l bww) rfl bww)⟩,trivial⟩⟩
 refine w_2 ?_;refine bh 3 rfl rfl rfl ?_;refine v_4 ?_;exact⟨ayy h1 bww,trivial⟩
end
section
inductive Lf (l:List Fd):AS->AS->Prop
 |leaf {s:AS}:yo l s=false->Lf l s s
 |left {s q:AS}:yo l s=true->Lf l (spA l s) q->Lf l s q
 |right {s q:AS}:yo l s=true->Lf l (spB l s) q->Lf l s q
def bl2 (l:List Fd):Nat->AS->List AS
 |0,s=>[s]
 |k+1,s=>if yo l s=true then bl2 l k (spA l s)++bl2 l k (spB l s) else[s]
end
section
open Go.Proofs
def u8A(b:BitVec 8):AS:=b.setWidth 32
abbrev u8C:BitVec 8->Nat->PV:=fun b _=>.raw (.int .u8 (b.toNat:Int))
end
section
open Go.Proofs Go.Proofs.YtnlcekpflogjkaaGreatDoor
open Go.RowKit Go.ChangeShapes Go.WideShapes Go.ChangeAt
def rd5:Rd bxn 5 1 u8C:=(b8n Tryz.underlying5).co (fun u=>u.toBitVec) fun a j hj=>CoP.refl _
end
section
section
variable {b:AS}
def a32{a:AS}(h:∀i,i<32->a.getLsbD i=b.getLsbD i):a=b:=bui h
variable {s:AS}
def avo{t:AS}:s&&&t=0<->∀i,i<32->s.getLsbD i=true->t.getLsbD i=false:=by
 constructor
 · intro h i hi hs
   have:=congrArg (fun x:AS=>x.getLsbD i) h;simp only[btm,hs,bv2]at this;simpa using this
 intro h;apply a32;intro i hi;have:=h i hi;rw[btm];cases hs:s.getLsbD i<;>simp_all
def ama {t:AS} (h:s&&&t≠0):∃i,i<32/\s.getLsbD i=true/\t.getLsbD i=true:=by
 apply Classical.byContradiction;intro hn;refine h (avo.2 fun i hi hs=>?_)
 cases ht:t.getLsbD i with
 |false=>rfl
 |true=>exact absurd ⟨i,hi,hs,ht⟩ hn
def bjc (h:s≠0):∃i,i<32/\s.getLsbD i=true:=by
 apply Classical.byContradiction;intro hn;refine h (a32 fun i hi=>?_)
 cases hs:s.getLsbD i with
 |false=>simp
 |true=>exact absurd ⟨i,hi,hs⟩ hn
def b0d{i:Nat}(h:s.getLsbD i=true):i<32:=BitVec.lt_of_getLsbD h
def ic{t:AS}{i:Nat}(hi:i<32):(s&&&~~~t).getLsbD i=(s.getLsbD i&&!t.getLsbD i):=by simp[hi]
def a0p(a:Nat):AS:=1#32<<<a
def ad8 {a i:Nat} (ha:a<32) (hi:i<32):(a0p a).getLsbD i=decide (i=a):=by
 unfold a0p;rw[BitVec.getLsbD_shiftLeft];by_cases h:i=a
 · subst h;simp[hi]
 by_cases h2:i<a
 · simp[h,h2,hi]
 have:i-a≠0:=by omega
 simp[h,h2,hi,BitVec.getLsbD_one,this]
def dz(m:Fd)(b:AS):Bool:=decide (b&&&m.lhs=0)&&(decide (b&&&m.rhs≠0)&&decide (b&&&~~~m.rhs≠0))
def hdB(m:Fd)(b:AS):AS:=if dz m b=true then b&&&m.rhs else b
def tlB(m:Fd)(b:AS):List AS:=if dz m b=true then[b&&&~~~m.rhs] else[]
def stB(m:Fd)(l:List AS)(i:Nat):List AS:=(l.take i).map (hdB m)++l.drop i++(l.take i).flatMap (tlB m)
def rdB(m:Fd)(l:List AS):List AS:=l.map (hdB m)++l.flatMap (tlB m)
def cr(ms:List Fd)(l:List AS):List AS:=ms.foldl (fun l m=>rdB m l) l
def n7:List Fd->List AS->Bool
 | [],_=>false
 |m::ms,l=>l.any (dz m)||n7 ms (rdB m l)
def y5 (ms:List Fd):Nat->List AS->List AS
 |0,l=>l
 |f+1,l=>if n7 ms l=true then y5 ms f (cr ms l)else cr ms l
def muB:List AS->Nat
 | []=>0
 |b::l=>b.toNat*b.toNat+muB l
def aik:∀(l k:List AS),muB (l++k)=muB l+muB k
 | [],k=>by simp[muB]
 |b::l,k=>by simp[muB,aik l k];omega
def aaz (b r:AS):(b&&&r).toNat+(b&&&~~~r).toNat=b.toNat:=by
 have h:(b&&&r)&&&(b&&&~~~r)=0#32:=avo.2 fun i hi hs=>by
  rw[ic hi];rw[btm,bt5]at hs;simp[hs.1,hs.2]
 have e:(b&&&r)+(b&&&~~~r)=b:=by
  rw[BitVec.add_eq_or_of_and_eq_zero _ _ h];apply a32;intro i hi;rw[bv7,ic hi,btm];cases b.getLsbD i<;>cases r.getLsbD i<;>rfl
 rw[<- BitVec.toNat_add_of_and_eq_zero h,e]
def a0z{m:Fd}:dz m b=true<->b&&&m.lhs=0/\b&&&m.rhs≠0/\b&&&~~~m.rhs≠0:=by simp[dz]
def b3x {x y z:Nat} (h:x+y=z) (hx:0<x) (hy:0<y):x*x+y*y<z*z:=by
 subst h;rw[bu6,Nat.mul_add,Nat.mul_add];have:0<x*y:=Nat.mul_pos hx hy;have:0<y*x:=Nat.mul_pos hy hx;omega
def a8k(h:b≠0):0<b.toNat:=Nat.pos_of_ne_zero fun e=>h (bug e)
def ayj(m:Fd):∀(l:List AS),muB (l.map (hdB m))+muB (l.flatMap (tlB m))+(if l.any (dz m)=true then 1 else 0)<=muB l
 | []=>by simp[muB]
 | b :: l=>by
  have ih:=ayj m l;rw[buf,bv8,aik,List.any_cons];simp only[muB];by_cases h:dz m b=true
  · obtain ⟨_,h2,h3⟩:=a0z.1 h
    have:=b3x (aaz b m.rhs) (a8k h2) (a8k h3);simp only[hdB,tlB,h,if_true,muB,Bool.true_or];omega
  rw[Bool.not_eq_true]at h;simp only[hdB,tlB,h,muB,Bool.false_or,buv,if_false];omega
def bfq (m:Fd) (l:List AS):muB (rdB m l)+(if l.any (dz m)=true then 1 else 0)<=muB l:=by
 unfold rdB;rw[aik];exact ayj m l
def ah3:∀(ms:List Fd) (l:List AS),muB (cr ms l)+(if n7 ms l=true then 1 else 0)<=muB l
 | [],l=>by simp[cr,n7]
 | m::ms,l=>by
  have h1:=bfq m l;have h2:=ah3 ms (rdB m l);show muB (cr ms (rdB m l))+_<=_;simp only[n7];by_cases h3:l.any (dz m)=true<;>by_cases h4:n7 ms (rdB m l)=true<;>simp only[h3,h4,Bool.true_or,Bool.or_true,Bool.or_false,if_true,buv,if_false]at h1 h2 ⊢<;>omega
def b5n {m:Fd} {l:List AS} (h:l.any (dz m)=false):rdB m l=l:=by
 have h':∀b∈l,dz m b=false:=fun b hb=>by
  have:=buk.1 h b hb;simpa using this
 have e1:l.map (hdB m)=l:=by
  conv=>rhs;rw[<- List.map_id l]
  exact bvc fun b hb=>by simp[hdB,h' b hb]
 have e2:l.flatMap (tlB m)=[]:=List.flatMap_eq_nil_iff.2 fun b hb=>by simp[tlB,h' b hb]
 simp[rdB,e1,e2]
def aqb:∀{ms:List Fd} {l:List AS},n7 ms l=false->cr ms l=l/\∀m∈ms,∀b∈l,dz m b=false
 | [],l,_=>⟨rfl,fun _ h=>by cases h⟩
 | m :: ms,l,h=>by
  simp only[n7,Bool.or_eq_false_iff]at h;have e:=b5n h.1;rw[e]at h;obtain⟨h1,h2⟩:=aqb h.2;refine⟨?_,fun k hk b hb=>?_⟩
  · show cr ms (rdB m l)=l
    rw[e];exact h1
  rcases bt7.1 hk with rfl|hk
  · have:=buk.1 h.1 b hb
    simpa using this
  exact h2 k hk b hb
structure Blk (ms:List Fd) (rest:AS) (bs:List AS):Prop where
 nz:∀b∈bs,b≠0
 cnt:∀a,a<32->bs.countP (fun b=>b.getLsbD a)=if rest.getLsbD a=true then 1 else 0
 ind:∀G:AS->Prop,G rest->(∀m∈ms,∀b,G b->dz m b=true->G (b&&&m.rhs)/\G (b&&&~~~m.rhs))->∀b∈bs,G b
variable {bs:List AS}{ms:List Fd}{rest:AS}
theorem Blk.rd (h:Blk ms rest bs) {m:Fd} (hm:m∈ms):Blk ms rest (rdB m bs):=by
 have hmem:∀{b:AS},b∈rdB m bs->∃b0∈bs,(dz m b0=false/\b=b0)\/(dz m b0=true/\(b=b0&&&m.rhs\/b=b0&&&~~~m.rhs)):=by
  intro b hb;unfold rdB at hb
  rcases btd.1 hb with hb|hb
  · obtain ⟨b0,h0,rfl⟩:=bti.1 hb
    refine⟨b0,h0, ?_⟩;cases hs:dz m b0<;>simp[hdB,hs]
  obtain⟨b0,h0,hb⟩:=bwi.1 hb;refine⟨b0,h0, ?_⟩;cases hs:dz m b0
  · simp[tlB,hs]at hb
  simp[tlB,hs]at hb;exact .inr ⟨rfl, .inr hb⟩
 refine⟨fun b hb=>?_,fun a ha=>?_,fun G h0 hG b hb=>?_⟩
 · obtain ⟨b0,h0,⟨_,rfl⟩|⟨hs,hb⟩⟩:=hmem hb
   · exact h.nz _ h0
   obtain⟨_,h2,h3⟩:=a0z.1 hs
   rcases hb with rfl|rfl
   · exact h2
   exact h3
 · rw [<- h.cnt a ha]
   have:∀l:List AS,(l.map (hdB m)).countP (fun b=>b.getLsbD a)+(l.flatMap (tlB m)).countP (fun b=>b.getLsbD a)=l.countP (fun b=>b.getLsbD a):=by
    intro l
    induction l with
    |nil=>rfl
    | cons b l ih =>
     rw[buf,bv8,List.countP_append,bw4,bw4,<- ih];cases hs:dz m b
     · simp[hdB,tlB,hs];omega
     simp only[hdB,tlB,hs,if_true,bw4,List.countP_nil,ic ha,btm];cases b.getLsbD a<;>cases m.rhs.getLsbD a<;>simp<;>omega
   unfold rdB;rw[List.countP_append];exact this bs
 obtain⟨b0,h1,⟨_,rfl⟩|⟨hs,hb⟩⟩:=hmem hb
 · exact h.ind G h0 hG _ h1
 obtain⟨g1,g2⟩:=hG m hm b0 (h.ind G h0 hG _ h1) hs
 rcases hb with rfl|rfl
 · exact g1
 exact g2
theorem Blk.ron:∀{ms':List Fd} {bs:List AS},(∀m∈ms',m∈ms)->Blk ms rest bs->Blk ms rest (cr ms' bs)
 | [],bs,_,h=>h
 |m::ms',bs,hm,h=>Blk.ron (ms':=ms') (fun k hk=>hm k (by simp[hk])) (h.rd (hm m bx0))
theorem Blk.end_:∀{f:Nat} {bs:List AS},muB bs<f->Blk ms rest bs->Blk ms rest (y5 ms f bs)/\∀m∈ms,∀b∈y5 ms f bs,dz m b=false
 |0,bs,hf,_=>absurd hf (bt1 _)
 | f + 1,bs,hf,h=>by
  have hr:=h.ron (ms':=ms) (fun _ h=>h);unfold y5;cases hc:n7 ms bs
  · obtain ⟨e,hs⟩:=aqb hc
    simp only[buv,if_false];rw[e];exact⟨h,hs⟩
  have:=ah3 ms bs;rw[hc]at this;simp only[if_true]at this ⊢;exact Blk.end_ bww hr
def k6(rest:AS):List AS:=if rest=0 then[] else[rest]
theorem Blk.start (ms:List Fd) (rest:AS):Blk ms rest (k6 rest):=by
 unfold k6;by_cases h:rest=0
 · subst h
   simp only[if_true];exact⟨fun _ h=>by(cases h),fun a ha=>by simp,fun _ _ _ _ h=>by cases h⟩
 rw[if_neg h];exact⟨fun b hb=>by(simp at hb;subst hb;exact h),fun a ha=>by simp[bw4],fun G h0 _ b hb=>by(simp at hb;subst hb;exact h0)⟩
def aje (rest:AS):muB (k6 rest)<18446744073709551616:=by
 unfold k6;split
 · simp[muB]
 simp only[muB];have h:=rest.isLt;have:=Nat.mul_le_mul (bvv (show rest.toNat<4294967295+1 from h)) (bvv (show rest.toNat<4294967295+1 from h));omega
def blks(ms:List Fd)(rest:AS):List AS:=y5 ms 18446744073709551616 (k6 rest)
def asv(ms:List Fd)(rest:AS):Blk ms rest (blks ms rest)/\∀m∈ms,∀b∈blks ms rest,dz m b=false:=Blk.end_ (aje rest) (Blk.start ms rest)
def ax9 {p:AS->Bool} {l:List AS} (h:l.countP p<=1) {a:AS} (ha:a∈l) (hb:b∈l) (pa:p a=true) (pb:p b=true):a=b:=by
 rw[List.countP_eq_length_filter]at h;have h1:a∈l.filter p:=bul.2 ⟨ha,pa⟩;have h2:b∈l.filter p:=bul.2 ⟨hb,pb⟩
 cases hl:l.filter p with
 |nil=>rw[hl]at h1;cases h1
 | cons x r =>
  rw[hl]at h h1 h2
  cases r with
  |nil=>simp at h1 h2;rw[h1,h2]
  |cons=>simp at h
theorem Blk.one (h:Blk ms rest bs) {b':AS} (hb:b∈bs) (hb':b'∈bs) {a:Nat} (h1:b.getLsbD a=true) (h2:b'.getLsbD a=true):b=b':=by
 refine ax9 (p:=fun b=>b.getLsbD a) ?_ hb hb' h1 h2;rw[h.cnt a (b0d h1)];split<;>omega
theorem Blk.sub (h:Blk ms rest bs) (hb:b∈bs):Go.Hx.sub b rest:=cz.2 fun a ha hba=>by
 have h1:=h.cnt a ha;have h2:0<bs.countP (fun b=>b.getLsbD a):=List.countP_pos_iff.2 ⟨b,hb,hba⟩
 cases hr:rest.getLsbD a with
 |true=>rfl
 |false=>rw[hr]at h1;simp only[buv,if_false]at h1;omega
end
end
end Go.Hx
