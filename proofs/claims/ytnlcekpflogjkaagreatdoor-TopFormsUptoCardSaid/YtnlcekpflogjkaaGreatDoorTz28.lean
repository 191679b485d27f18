/- A part of the proof: Cz1m Cs37 Cs40 Cs42 Ls2 Cz2m Ls3 Ls5 W0 W1 Ls6 W2a Rbm Bz1 Bz2 Bz3. -/
import Derived.Test.YtnlcekpflogjkaaGreatDoorTz26
import Derived.Test.YtnlcekpflogjkaaGreatDoorTz27
set_option linter.all false
set_option maxRecDepth 100000
set_option maxHeartbeats 1000000
namespace Go.Hx
section
def a9w(l:List Fd)(ps:List AS)(t:AS):Prop:=∀p∈ps,sub (clo l (t&&&p)&&&p) t
section
variable {l:List Fd}
def bci {z p:AS}:jy l z p=false<->sub (clo l (z&&&p)&&&p) z:=by
 unfold jy tn sub;rw[decide_eq_false_iff_not,Decidable.not_not,BitVec.and_comm p]
def aow{a b c:AS}(h:sub a b):sub (a&&&c) (b&&&c):=mh (bz gc h) lw
variable {ps:List AS}
def ap4:∀(n:Nat) (z:AS),4294967296<n+z.toNat->a9w l ps (vu l ps n z)
 |0,z,h=>by have:=z.isLt;omega
 | n + 1,z,h=>by
  unfold vu
  cases hf:ps.find? (jy l z) with
  | none =>
   intro p hp;have:=bva.1 hf p hp;exact bci.1 (by simpa using this)
  | some p =>
   have hm:=bx1 hf;have:=aqm hm;exact ap4 n _ bx5
def aup:∀(n:Nat) (z:AS),sub z (vu l ps n z)
 |0,z=>dw z
 | n+1,z=>by
  unfold vu
  cases hf:ps.find? (jy l z) with
  |none=>exact dw z
  |some p=>exact bz wo (aup n _)
def atd{t:AS}(ht:a9w l ps t):∀(n:Nat) (z:AS),sub z t->sub (vu l ps n z) t
 |0,z,h=>h
 | n + 1,z,h=>by
  unfold vu
  cases hf:ps.find? (jy l z) with
  |none=>exact h
  | some p =>
   refine atd ht n _ (a1h h ?_);have hp:=bwb hf;refine bz ?_ (ht p hp);unfold tn;refine bz gc ?_;rw[BitVec.and_comm];exact aow (wc (aow h))
def ac5(l:List Fd)(ps:List AS)(z:AS):a9w l ps (qa l ps z):=ap4 _ _ (by have:=z.isLt;omega)
def aae{z:AS}:sub z (qa l ps z):=aup _ _
def ai1{z t:AS}(ht:a9w l ps t)(h:sub z t):sub (qa l ps z) t:=atd ht _ _ h
def bm2(l:List Fd)(s p:AS):AS:=s|||(clo l (s&&&p)&&&p)
def bqq(l:List Fd)(ps:List AS)(s:AS):AS:=ps.foldl (bm2 l) s
def PrI(l:List Fd)(ps:List AS)(z s:AS):Prop:=sub z s/\sub s (qa l ps z)
def b0k{z:AS}:qa l ps (qa l ps z)=qa l ps z:=d7 (ai1 (ac5 l ps z) (dw _)) aae
def azc{a b:AS}(h:sub a b):sub (qa l ps a) (qa l ps b):=ai1 (ac5 l ps b) (bz h aae)
def aon {m:List Fd} (h:∀f∈m,jb l ps f=true) (s:AS):sub (clo m s) (qa l ps s):=by
 refine n9 (fun f hf hfs=>?_) aae;have h1:sub f.rhs (qa l ps f.lhs):=of_decide_eq_true (h f hf);refine bz h1 ?_;have:=azc (l:=l) (ps:=ps) hfs;rw[b0k]at this;exact this
def ake {m k:List Fd} (h:∀f∈m,jb l ps f=true) (he:∀s,clo k s=clo m s):∀f∈k,jb l ps f=true:=fun f hf=>by
 refine decide_eq_true ?_;refine bz ?_ (aon h f.lhs);rw[<- he];exact gr f hf jf
def adh:j0 l ps=true<->∀f∈l,jb l ps f=true:=by
 unfold j0;rw[btl];constructor
 · intro h f hf
   obtain⟨j,hj,rfl⟩:=btt hf;have:=h j (btg.2 hj);rwa [bt1,bt0 hj]at this
 intro h j hj;have hj:=btg.1 hj;rw[bt1,bt0 hj];exact h _ (bti hj)
def b4n:j0 l ps=true<->∀f∈wk l,jb l ps f=true:=by
 rw[adh];exact⟨fun h=>ake h (fun s=>v7 l s),fun h=>ake h (fun s=>(v7 l s).symm)⟩
def b5s{n:Int}(h:fb n l 8=0):j0 l (dj n l)=decide (qc n l=4):=by
 rw[bv5,b4n,decide_eq_true_iff];unfold qc;rw[if_pos h];unfold a6e;rw[aef (pk h).1];constructor
 · intro hh
   rw[bva.2 fun f hf=>by rw[hh f hf];decide]
 intro hh
 cases hf:(wk l).find? (fun f=>!jb l (dj n l) f) with
 |some f=>rw[hf]at hh;cases hh
 | none =>
  intro f hm;have:=bva.1 hf f hm;simpa using this
def brp(n:Int)(l:List Fd)(i:Nat):List AS:=((b6 (a6 n)).take i).filter fun s=>!dx l s
end
end
section
def yc(l:List Fd):Prop:=∀f∈l,∀i,i<32->f.rhs.getLsbD i=true->f.lhs.getLsbD i=false
def are (l:List Fd):yc (gu l):=fun g hg i hi hb=>by
 unfold gu at hg;obtain⟨ys,hys,hxy⟩:=bwu.1 hg;obtain⟨f,hf,rfl⟩:=bto.1 hys;unfold pg at hxy;obtain⟨a,ha,rfl⟩:=bto.1 hxy;have h1:((1:AS)<<<a).getLsbD i=decide (i=a):=er a i hi;rw[show(⟨f.lhs,(1:AS)<<<a⟩:Fd).rhs.getLsbD i=decide (i=a) from h1,decide_eq_true_iff]at hb;subst hb;have hm:=(io.1 ha).2;rw[bta,bu9,decide_eq_true hi,bu0,bt3]at hm;simpa using hm.2
def avy{i a:Nat}{l:List Fd}(h:yc l):yc (kg i l a):=by
 unfold kg;split
 · intro x hx
   rcases bvr hx with hx|rfl
   · exact h x hx
   by_cases hi:i<l.length
   · intro j hj hb
     have hm:l.getD i default∈l:=by rw[bt1,bt0 hi];exact bti hi
     have:=h _ hm j hj hb;unfold aqg;show((l.getD i default).lhs&&&~~~((1:AS)<<<a)).getLsbD j=false;rw[bta,this];rfl
   rw[bve bx5]at hx;exact h _ hx
 exact h
def ab1 {i:Nat}:∀(m:List Nat) (l:List Fd),yc l->yc (m.foldl (kg i) l)
 | [],_,h=>h
 |a::m,l,h=>ab1 m _ (avy h)
def aff {l:List Fd} (h:yc l):∀i,yc (k8 l i)
 |0=>h
 |i+1=>by rw[yg];exact ab1 _ _ (aff h i)
def b15 (l:List Fd):yc (wk l):=fun f hf=>by
 have h1:=oh.1 (y7 _ _ _ hf);exact aff (fun g hg=>are l g (oh.1 hg)) _ f h1
section
variable {n:Int}{l:List Fd}
def aog(h:aw n l=0):ew l (a6 n)=decide (tq n l=[]):=by
 have hme:=aef h;rw[bv5,decide_eq_true_iff];constructor
 · intro hl
   unfold tq;rw[bw3];intro f hf hv;rw[hme]at hf;unfold xf at hv;rw[bt3,decide_eq_true_iff,decide_eq_true_iff]at hv;have hx:=be9 h f hf
   have hbad:oc l (a6 n) f.lhs=true:=by
    unfold oc;have e:ni l (a6 n) f.lhs=false:=decide_eq_false fun e=>hv.1 ((a1g h hx).1 e);rw[e,bw8,bu0,decide_eq_true_iff];intro hz;refine hv.2 (bz (ai.2 fun i hi hb=>?_) hz);have h1:sub f.rhs (clo l f.lhs):=by rw[<- v7];exact gr f hf jf
    have h2:=b15 l f hf i hi hb;rw[bta,bta,bu9,decide_eq_true hi,ai.1 h1 i hi hb,ai.1 (b60 h f hf) i hi hb,h2];rfl
   rw[ahu hx hbad]at hl;cases hl
 intro hv;refine ag8 fun x hx=>?_
 cases hs:ni l (a6 n) x with
 |true=>exact ado hs
 | false =>
  have hns:¬sub (a6 n) (clo l x):=of_decide_eq_false hs;unfold oc;rw[hs,bw8,bu0];refine decide_eq_false fun hne=>hne ?_
  have hcl:sub (clo l x) (x|||(jl l (a6 n)&&&clo l x)):=by
   rw[<- v7];refine n9 (fun f hf hfs=>?_) wo;have hS:sub (x|||(jl l (a6 n)&&&clo (wk l) x)) (clo l x):=a1h jf (by rw[v7];exact lw);have hlx:=bz hfs hS
   have hr:sub f.rhs (clo l x):=by
    rw[<- v7]at hlx ⊢;exact gr f hf hlx
   have hnf:clo l f.lhs≠a6 n:=fun e=>hns (by
    rw[<- e];have:=wc (l:=l) hlx
    rwa [b2e]at this)
   have hn3:¬xf n l f=true:=by
    unfold tq at hv;rw[bw3]at hv;exact hv f (by rw[hme];exact hf)
   have hrp:sub f.rhs (jl l (a6 n)):=by
    apply Classical.byContradiction;intro hc;apply hn3;unfold xf;rw[bt3,decide_eq_true_iff,decide_eq_true_iff];exact⟨hnf,hc⟩
   refine bz (mh hrp ?_) a5p;rw[v7];exact hr
  show sub ((clo l x&&&a6 n)&&&~~~x) (jl l (a6 n));refine ai.2 fun i hi hb=>?_;rw[bta,bta,bu9,decide_eq_true hi,bu0,bt3,bt3]at hb;have h3:=ai.1 hcl i hi hb.1.1;have hxi:x.getLsbD i=false:=by simpa using hb.2
  rw[buy,hxi,Bool.false_or,bta,bt3]at h3;exact h3.1
end
end
section
open Go.Proofs
def b10 {l:List Fd} {p x:AS} (h:ew l p=true) (hx:sub x p):oc l p x=false:=by
 cases hb:oc l p x with
 |false=>rfl
 |true=>rw[ahu hx hb]at h;cases h
def aiv {ps:List AS} {k:AS} (h:k∈ps):sub k (orL ps):=ai.2 fun i hi hb=>by
 unfold orL;rw[a3f,buk];exact .inr (bue.2 ⟨k,h,hb⟩)
section
variable {n:Int}{l:List Fd}
def ap3 (h:aw n l=0) (h3:ew l (a6 n)=true):a8e n l=true:=by
 obtain⟨h0,h1,_⟩:=d9 h;unfold a8e;rw[btl];intro k hk;have hkp:=aiv hk
 have hkey:kp n l k=true:=by
  rw[agy h,ly]at hk;exact(buw.1 hk).2
 have hsk:f0 n l k=true:=by
  unfold kp at hkey;rw[bt3]at hkey;exact hkey.1
 have hkf:sub k (a6 n):=(of_decide_eq_true hsk).2.1;refine aym fun a ha hka=>?_;have hxk:sub (noA k a) k:=a3a;have hxf:=bz hxk hkf
 have hna:a<n.toNat:=by
  have hf:=ai.1 hkf a ha hka;rw[alu h0 h1 ha]at hf;exact of_decide_eq_true hf
 have hns:f0 n l (noA k a)=false:=by
  cases hs:f0 n l (noA k a) with
  |false=>rfl
  |true=>rw[b5t hna hka hs]at hkey;cases hkey
 rw[a1n h hxf]at hns;have hb:=b10 h3 hxf;unfold oc at hb;rw[hns,bw8,bu0,decide_eq_false_iff_not]at hb;have hsub:sub ((clo l (noA k a)&&&a6 n)&&&~~~noA k a) (jl l (a6 n)):=Classical.byContradiction fun hc=>hb hc;rw[aqu h]at hkp ⊢;refine ai.2 fun i hi hc=>?_
 cases hx:(noA k a).getLsbD i with
 |true=>exact ai.1 hkp i hi (ai.1 hxk i hi hx)
 | false =>
  refine ai.1 hsub i hi ?_;rw[bta,bta,bu9,decide_eq_true hi,hc,ai.1 (ol h hxf) i hi hc,hx];rfl
end
end
section
def abp{L:List AS}{x:AS}:x∈dl L<->x∈L/\∀y∈L,sub x y->x=y:=by
 unfold dl a9c a3r;rw[buw,ly,btv,buu];constructor
 · rintro ⟨h1,h2⟩
   refine⟨h1,fun y hy hs=>Classical.byContradiction fun hne=>h2 y (ly.2 hy) ?_⟩;rw[bt3,decide_eq_true_iff];exact⟨hne,decide_eq_true hs⟩
 rintro⟨h1,h2⟩;refine⟨h1,fun y hy hc=>?_⟩;rw[bt3,decide_eq_true_iff]at hc;exact hc.1 (h2 y (ly.1 hy) (of_decide_eq_true hc.2))
def ae2{L:List AS}:∀(n:Nat) (x:AS),x∈L->4294967296-x.toNat<=n->∃y∈dl L,sub x y
 |0,x,_,h=>by have:=x.isLt;omega
 | n + 1,x,hx,h=>by
  by_cases hm:x∈dl L
  · exact⟨x,hm,dw x⟩
  have:∃y∈L,sub x y/\x≠y:=by
   apply Classical.byContradiction;intro hn;exact hm (abp.2 ⟨hx,fun y hy hs=>Classical.byContradiction fun hne=>hn ⟨y,hy,hs,hne⟩⟩)
  obtain⟨y,hy,hs,hne⟩:=this;have hlt:=vz hs hne;have hyl:=y.isLt;obtain⟨z,hz,hyz⟩:=ae2 n y hy bx5;exact⟨z,hz,bz hs hyz⟩
def aih{L:List AS}{x:AS}(h:x∈L):∃y∈dl L,sub x y:=ae2 4294967296 x h bx5
section
variable {n:Int}{l:List Fd}
def ayg {L:List AS} {t:AS} (h:∀x∈L,sub x t):sub (orL L) t:=ai.2 fun i hi hb=>by
 unfold orL at hb;rw[a3f,buk]at hb
 rcases hb with hb|hb
 · simp at hb
 obtain⟨x,hx,hxb⟩:=bue.1 hb;exact ai.1 (h x hx) i hi hxb
end
end
section
def a8q(E:Int->Int->Prop)(R:Rw->Prop)(s:AS):Prop:=∃r,R r/\∀i:Nat,i<r.length->en s (i:Int)=true->E (r.getD i default) (i:Int)
section
variable {N:Nat}{p m:List Fd}{E:Int->Int->Prop}{R:Rw->Prop}
def uj{s t:AS}(h:sub s t){i:Nat}(hi:en s (i:Int)=true):en t (i:Int)=true:=by
 by_cases hl:i<32
 · rw [ou hl]at hi ⊢
   exact ai.1 h i hl hi
 rw[afg bx5]at hi;cases hi
def b4w(h:Mdl N p m E R){a b:Rw}(ha:R a)(hb:R b){f:Fd}(hf:f∈p){s:AS}(hs:AgE E a b s):AgE E a b (gn s f):=by
 unfold gn;split
 · rename_i hl
   have h2:=h.fd hf ha hb fun i hi hh=>hs i hi (uj hl hh);intro i hi hh;rw[atm,buk]at hh
   rcases hh with hh|hh
   · exact hs i hi hh
   exact h2 i hi hh
 exact hs
def ajk (h:Mdl N p m E R) {a b:Rw} (ha:R a) (hb:R b):∀{q:List Fd} {s:AS},(∀f,f∈q->f∈p)->AgE E a b s->AgE E a b (fh q s)
 | [],s,_,hs=>hs
 |f::q,s,hq,hs=>ajk h ha hb (q:=q) (s:=gn s f) (fun g hg=>hq g (by simp[hg])) (b4w h ha hb (hq f bx8) hs)
def as5 (h:Mdl N p m E R) {a b:Rw} (ha:R a) (hb:R b):∀{k:Nat} {s:AS},AgE E a b s->AgE E a b (clF p k s)
 |0,s,hs=>hs
 | k+1,s,hs=>by
  unfold clF;split
  · exact hs
  exact as5 h ha hb (ajk h ha hb (fun _ hf=>hf) hs)
def bbk(h:Mdl N p m E R){a b:Rw}(ha:R a)(hb:R b){s:AS}(hs:AgE E a b s):AgE E a b (clo p s):=as5 h ha hb hs
def a8q.mono {s t:AS} (h:a8q E R t) (hs:sub s t):a8q E R s:=by
 obtain⟨r,h1,h2⟩:=h;exact⟨r,h1,fun i hi hh=>h2 i hi (uj hs hh)⟩
def b3v (h:Mdl N p m E R) {r:Rw} (hr:R r) {z q c:AS} (hz:∀i:Nat,i<r.length->en z (i:Int)=true->E (r.getD i default) (i:Int)) (hq:a8q E R q) (hc1:sub c (clo p (z&&&q))) (hc2:sub c q) :
 ∀i:Nat,i<r.length->en (z|||c) (i:Int)=true->E (r.getD i default) (i:Int):=by
 obtain⟨b,hb,hbq⟩:=hq;have hl:r.length=b.length:=(h.len hr).trans (h.len hb).symm;have hag:AgE E r b (z&&&q):=fun i hi hh=>h.trans (hz i hi (uj gc hh)) (h.symm (hbq i bx5 (uj lw hh)));have hcl:=bbk h hr hb hag;intro i hi hh;rw[atm,buk]at hh
 rcases hh with hh|hh
 · exact hz i hi hh
 exact h.trans (hcl i hi (uj hc1 hh)) (hbq i bx5 (uj hc2 hh))
end
section
variable {n:Int}{p m:List Fd}{ps:List AS}
section
variable {E:Int->Int->Prop}{R:Rw->Prop}
def ayo(h0:0<=n)(h:Mdl n.toNat p m E R)(hl:∀r,r∈cq n ps->R r){q:AS}(hq:q∈ps):a8q E R q:=by
 obtain⟨i,hi,e⟩:=yj hq;refine⟨stR n i q,hl _ ?_,fun c hc hh=>?_⟩
 · unfold cq
   exact bto.2 ⟨i,btg.2 hi,by rw[e]⟩
 rw[aht]at hc;rw[b0z hc];unfold stV;rw[if_pos hh];exact h.refl _
def b5z {c:Nat} (hc:c<n.toNat):(fc n).getD c default=(c:Int):=by
 unfold fc;rw[bt1,btm,bus hc];rfl
def b6w {i:Nat} (h16:n<=16) (hi:i<n.toNat):en (a6 n) (i:Int)=true:=by
 rw[ou bx5];unfold a6;rw[bua bx5,lq _ _ bx5];exact decide_eq_true hi
def b21 (h16:n<=16) (h:Mdl n.toNat p m E R) (hf:a8q E R (a6 n)):R (fc n):=by
 obtain⟨r,hr,hh⟩:=hf;have hl:=h.len hr;refine h.cong hr (by rw[adv,hl]) fun i hi=>?_;rw[b5z bx5];exact hh i hi (b6w h16 bx5)
def aqa (hm:Mdl n.toNat p m E R) (hq:∀q,q∈ps->a8q E R q) {r:Rw} (hr:R r):∀(f:Nat) {z:AS},(∀i:Nat,i<r.length->en z (i:Int)=true->E (r.getD i default) (i:Int))->∀i:Nat,i<r.length->en (vu p ps f z) (i:Int)=true->E (r.getD i default) (i:Int)
 |0,z,hz=>hz
 | f+1,z,hz=>by
  unfold vu;split
  · exact hz
  rename_i q hqf;refine aqa hm hq hr f (b3v hm hr hz (hq q (bwb hqf)) (c:=tn p q z) ?_ ?_)
  · exact bz gc lw
  exact bz gc gc
def al2 (h0:0<=n) (h16:n<=16) {k:AS} (hk:k∈ps) (hkey:clo p k=a6 n) (hpr:j0 p ps=true):LR n.toNat p m (cq n ps) (fc n):=fun E R hm hl=>by
 have hq:∀q,q∈ps->a8q E R q:=fun q hq=>ayo h0 hm hl hq;obtain⟨r,hr,hrk⟩:=hq k hk;refine b21 h16 hm ⟨r,hr,fun i hi hh=>?_⟩;have h1:sub (clo p k) (qa p ps k):=aon (adh.1 hpr) k;rw[hkey]at h1;exact aqa hm hq hr 4294967297 hrk i hi (uj h1 hh)
end
end
end
section
def axq {n:Int} (h:n<=32) {a:Nat} (ha:a<32):(a6 n).getLsbD a=decide (a<n.toNat):=by
 unfold a6;rw[lq _ a ha,bua bx5]
def aj2 {p x:AS} (h:x∈b6 p):sub x p:=by
 unfold b6 at h;split at h
 · cases h
 exact qn.1 h
section
variable {l:List Fd}
def afs {p:AS} (h:∀x,sub x p->kw l p x=false):dx l p=false:=by
 have e:a1p l p=none:=by
  unfold a1p;rw[bva];intro x hx;rw[h x (aj2 hx)];decide
 unfold dx;rw[e];rfl
def am8 {p x:AS}:kw l p x=true<->clo l x&&&p≠x/\clo l x&&&p≠p:=by
 unfold kw;rw[bt3,decide_eq_true_iff,decide_eq_true_iff]
def alh {n:Int} (h:fb n l 8=0) {s:AS} (h1:sub s (a6 n)) (h2:dx l s=false):s∈dj n l:=by
 rw[anm h,buw];refine⟨?_,by rw[h2];rfl⟩;have:=a0n (n:=n) (m:=8) (pk h).2 bx5;rw[aha bx5];exact qn.2 h1
def b49{n:Int}{k:AS}(hn:n<=32)(h:kp n l k=true):dx l k=false:=by
 unfold kp at h;rw[bt3,btl]at h;obtain⟨h1,h2⟩:=h;obtain⟨hv,hs,hc⟩:=of_decide_eq_true h1;refine afs fun x hx=>?_
 cases hq:kw l k x with
 |false=>rfl
 | true =>
  exfalso;obtain⟨g1,_⟩:=am8.1 hq;apply g1;refine d7 (ai.2 fun a ha hb=>?_) (mh jf hx);rw[bta,bt3]at hb
  cases hxa:x.getLsbD a with
  |true=>rfl
  | false =>
   exfalso
   have ha2:a<n.toNat:=by
    have:=ai.1 hs a ha hb.2;rw[axq hn ha]at this;exact of_decide_eq_true this
   have hno:sub x (noA k a):=ai.2 fun i hi hbi=>by
    unfold noA;have h1:((1:AS)<<<a).getLsbD i=decide (i=a):=er a i hi;rw[bta,bu9,ai.1 hx i hi hbi,h1,decide_eq_true hi];by_cases hia:i=a
    · subst hia;rw[hxa]at hbi;cases hbi
    rw[decide_eq_false hia];rfl
   have hk:sub k (clo l (noA k a)):=ai.2 fun i hi hbi=>by
    by_cases hia:i=a
    · subst hia
      exact ai.1 (wc hno) i hi hb.1
    refine ai.1 jf i hi ?_;unfold noA;have h1:((1:AS)<<<a).getLsbD i=decide (i=a):=er a i hi;rw[bta,bu9,hbi,h1,decide_eq_true hi,decide_eq_false hia];rfl
   have hns:sub (noA k a) (a6 n):=bz gc hs
   have hcl:clo l (noA k a)=a6 n:=d7 (ol hv hns) (by
    rw[<- hc]
    exact n9 gr hk)
   have:=h2 a (btg.2 ha2);rw[hb.2,show f0 n l (noA k a)=true from decide_eq_true ⟨hv,hns,hcl⟩]at this;cases this
def bbv{y:AS}{i:Nat}(h:sub y ((1:AS)<<<i)):y=0\/y=(1:AS)<<<i:=by
 by_cases h0:y=0
 · exact .inl h0
 refine .inr (d7 h (ai.2 fun a ha hb=>?_));have h1:((1:AS)<<<i).getLsbD a=decide (a=i):=er i a ha;rw[h1]at hb;have hai:=of_decide_eq_true hb;subst hai
 cases hy:y.getLsbD a with
 |true=>rfl
 | false =>
  exfalso;apply h0;apply bu7;intro j hj
  cases hyj:y.getLsbD j with
  |false=>simp
  | true =>
   have:=ai.1 h j hj hyj;have h2:((1:AS)<<<a).getLsbD j=decide (j=a):=er a j hj;rw[h2]at this;have:=of_decide_eq_true this;subst this;rw[hy]at hyj;cases hyj
def b3r{i:Nat}:dx l ((1:AS)<<<i)=false:=by
 refine afs fun x hx=>?_
 cases hq:kw l ((1:AS)<<<i) x with
 |false=>rfl
 | true =>
  exfalso;obtain⟨g1,g2⟩:=am8.1 hq
  rcases bbv (y:=clo l x&&&((1:AS)<<<i)) lw with e|e
  · have hx0:sub x 0:=by rw[<- e];exact mh jf hx
    exact g1 (d7 (by rw[e];exact ai.2 fun a ha hb=>by simp at hb) (by rw[e];exact hx0))
  exact g2 e
end
end
section
def lvE(n:Int)(ps:List AS):Int:=if n<0\/8<n then 7 else if 64<ps.length then 3 else if ps.length=0\/¬orL ps=a6 n then 1 else 0
section
variable {n:Int}{ps:List AS}{p m:List Fd}
def b8j(h:n<0\/8<n):lvE n ps=7:=if_pos h
def bol(h:¬(n<0\/8<n))(h2:64<ps.length):lvE n ps=3:=by unfold lvE;rw[if_neg h,if_pos h2]
def b86(h:¬(n<0\/8<n))(h2:¬64<ps.length)(h3:ps.length=0\/¬orL ps=a6 n):lvE n ps=1:=by unfold lvE;rw[if_neg h,if_neg h2,if_pos h3]
def b81(h:¬(n<0\/8<n))(h2:¬64<ps.length)(h3:¬(ps.length=0\/¬orL ps=a6 n)):lvE n ps=0:=by unfold lvE;rw[if_neg h,if_neg h2,if_neg h3]
theorem a7y (h:lvE n ps=0):0<=n/\n<=8/\ps.length<=64/\0<ps.length/\orL ps=a6 n:=by
 unfold lvE at h
 grind
def lsT(n:Int)(ps:List AS)(p m:List Fd):List St×(Int×List Rw)×Int:=nb FU n (ck (cq n ps)) p m
def lsC(n:Int)(ps:List AS)(p m:List Fd):Int:=if lvE n ps=0 then(if eo n p m=0 then(lsT n ps p m).2.2 else eo n p m)else lvE n ps
def lsB(n:Int)(ps:List AS)(p m:List Fd):Bool:=decide (lsC n ps p m=0)&&(lsT n ps p m).2.1.2.any fun r=>decide (r=fc n)
def bn3 (h:¬lvE n ps=0):lsC n ps p m=lvE n ps/\lsB n ps p m=false:=by
 have e:lsC n ps p m=lvE n ps:=if_neg h;exact⟨e,by unfold lsB;rw[e,decide_eq_false h];rfl⟩
def bmt(h:lvE n ps=0)(h2:eo n p m=0):lsC n ps p m=(lsT n ps p m).2.2:=(if_pos h).trans (if_pos h2)
theorem amt (h:lsC n ps p m=0):lvE n ps=0/\eo n p m=0:=by
 unfold lsC at h
 grind
def ax7 (h:lvE n ps=0) {q:AS} (hq:q∈ps):sub q (a6 n):=by
 rw[<- (a7y h).2.2.2.2];exact aiv hq
def b68 (h:lvE n ps=0):jh n ps=(n,ck (cq n ps),0):=by
 obtain⟨h0,h8,h64,_⟩:=a7y h;exact aml bx5 bx5 fun j hj=>(blh h0 bx5).1 (ax7 h (ik hj))
theorem bc1 (h:lvE n ps=0) (hb:eo n p []=0):lsC n ps p []=0/\(lsB n ps p []=true<->LR n.toNat p [] (cq n ps) (fc n)):=by
 obtain⟨h0,h8,h64,_⟩:=a7y h
 rcases ayw (m:=[]) h64 hb with⟨_,e⟩|⟨sts,lend,e,h1,_⟩
 · grind
 have ec:lsC n ps p []=0:=by rw[bmt h hb];unfold lsT;rw[e]
 refine⟨ec, ?_⟩;unfold lsB lsT
 grind
def b5g(h:aw n p=0):eo n p []=0:=(ax3 (m:=[]) h bx8 fun j hj=>absurd hj (bt9 j)).symm
theorem b6e (h0:0<=n) (h6:n<=6) (hd:ps.Nodup) (hs:∀q,q∈ps->sub q (a6 n)):ps.length<=64:=by
 have hlt:∀q,q∈ps->q.toNat<64:=fun q hq=>by
  have h1:=azn (hs q hq);have h2:∀k,k<=6->(li k).toNat<64:=by decide +kernel
  have h3:=h2 (min n.toNat 32) bx5;have h4:(a6 n).toNat<64:=h3;omega
 have hn:(ps.map BitVec.toNat).Nodup:=by
  refine List.Pairwise.map BitVec.toNat (fun a b hab e=>?_) hd;exact hab (bu2 e)
 have:=hn.length_le_of_subset (l₂:=List.range 64) fun x hx=>by
  grind
 grind
theorem bn0 (h0:0<=n) (h6:n<=6) (hd:ps.Nodup) (hs:∀q,q∈ps->sub q (a6 n)) (hne:0<ps.length) (ho:sub (a6 n) (orL ps)):lvE n ps=0:=by
 have h1:=b6e h0 h6 hd hs;have h2:orL ps=a6 n:=d7 (ayg hs) ho
 exact b81 bx5 bx5 fun e=>by
  grind
def a5t(n:Int)(p:List Fd)(ps:List AS):Bool:=lsB n ps p []&&!ps.any (dx p)
end
end
section
abbrev tbC(a:Int×List Rw):Nat->PV:=fun j=>[.raw (.int .i64 a.1),rl a.2].getD j .any
def lcR (n:Int) (ps:List AS) (p m:List Fd):(Int×List Rw)×List St×(Int×List Rw)×Int :=
 if lvE n ps=0 then(if eo n p m=0 then((n,ck (cq n ps)),(lsT n ps p m).1,(lsT n ps p m).2.1,(lsT n ps p m).2.2) else((0,[]),[],(0,[]),eo n p m)) else((0,[]),[],(0,[]),lvE n ps)
section
variable {n:Int}{ps:List AS}{p m:List Fd}{l lend:List Rw}
def bls(h:¬lvE n ps=0):lcR n ps p m=((0,[]),[],(0,[]),lvE n ps):=if_neg h
def bmc(h:lvE n ps=0)(h2:¬eo n p m=0):lcR n ps p m=((0,[]),[],(0,[]),eo n p m):=(if_pos h).trans (if_neg h2)
def b7j(h:lvE n ps=0)(h2:eo n p m=0):lcR n ps p m=((n,ck (cq n ps)),(lsT n ps p m).1,(lsT n ps p m).2.1,(lsT n ps p m).2.2):=(if_pos h).trans (if_pos h2)
def a0q:(lcR n ps p m).2.2.2=lsC n ps p m:=by
 unfold lcR lsC;split
 · split<;>rfl
 rfl
def b2f (h:(lcR n ps p m).2.2.2=0):((lcR n ps p m).2.2.1.2.any fun r=>decide (r=fc n))=lsB n ps p m:=by
 have hc:=h;rw[a0q]at hc;obtain⟨h1,h2⟩:=amt hc;unfold lsB;rw[decide_eq_true hc,bu0,b7j h1 h2]
def b74 (h:¬(lcR n ps p m).2.2.2=0):lsB n ps p m=false:=by
 rw[a0q]at h;unfold lsB;rw[decide_eq_false h];rfl
def biw:(bif decide ((lcR n ps p m).2.2.2=0) then((lcR n ps p m).2.2.1.2.any fun r=>decide (r=fc n))else false)=lsB n ps p m:=by
 by_cases h:(lcR n ps p m).2.2.2=0
 · rw[decide_eq_true h,cond_true,b2f h]
 rw[decide_eq_false h,cond_false,b74 h]
def bq2 (h:lcR n ps p m=lcR n ps p m) (h2:(lcR n ps p m).2.2.2=0):0<=n/\n<=8:=by
 rw[a0q]at h2;obtain⟨h1,_⟩:=amt h2;exact⟨(a7y h1).1,(a7y h1).2.1⟩
def bnu(n:Int)(p m:List Fd)(l:List Rw)(sts:List St):List (Int×List Rw):=(trL n p m l sts).map fun t=>(n,t)
def rcR (n:Int) (ps:List AS) (p m:List Fd):List St×List (Int×List Rw)×Int :=
 if lsC n ps p m=0 then((lsT n ps p m).1,bnu n p m (ck (cq n ps)) (lsT n ps p m).1,0) else([],[],lsC n ps p m)
def av9(n:Int)(t:List Rw):Bool:=t.any fun r=>decide (r=fc n)
def prX(n:Int)(ps:List AS)(p m:List Fd):Int:=idx (fun a:Int×List Rw=>av9 n a.2) (rcR n ps p m).2.1
def prC(n:Int)(ps:List AS)(p m:List Fd):Int:=if(rcR n ps p m).2.2=0 then(if prX n ps p m<0 then 11 else 0) else(rcR n ps p m).2.2
def prS(n:Int)(ps:List AS)(p m:List Fd):List St:=if(rcR n ps p m).2.2=0 then(if prX n ps p m<0 then[] else(rcR n ps p m).1.take (prX n ps p m).toNat) else[]
end
end
section
open Go.Proofs
def be7 (n:Int) (ps:List AS) (h:lvE n ps=0):a7 bxr 98 [pI n,pP (asl ps)] (ae [pT n (ck (cq n ps)),pI 0]):=by
 have:=bfh n ps;rw[b68 h]at this;exact this
def bbr (n:Int) (ps:List AS) (p m:List Fd):a7 bxr 142 [pT n (ck (cq n ps)),pP (fdl p),pP (fdl m)] (ae [pP (stl (lsT n ps p m).1),pT (lsT n ps p m).2.1.1 (lsT n ps p m).2.1.2,pI (lsT n ps p m).2.2]) :=
 bix FU n (ck (cq n ps)) p m (fun h=>axr h) bxc
end
section
open Go.Proofs
def bl5 (ps:List AS):a7 bxr 125 [pP (asl ps)] (ae [pA (orL ps)]):=by
 refine hpx (nt:=17) Tryz.func125 ?_;refine cr ?_;refine e9 0 rfl fun hn=>?_;refine w_6 ?_;refine bw (ka 6 (ka 7 kn)) km (fun i=>⟨[(3,some (vA (orL (ps.take i)))),(8,some (vI i))],[]⟩) ps.length ⟨⟨⟨_,rfl,(CoR.refl _)⟩,tt⟩,trivial⟩ ?_;rintro i hi;refine w_5 ?_;refine hcd ?_ ?_<;>intro h0
 · refine a5u ?_;exact lpx (i+1) ⟨⟨⟨_,rfl,(df (by rw[bOr,a4w bx5];rfl))⟩,tt⟩,trivial⟩
 obtain rfl:i=ps.length:=by omega
 refine v_6 ?_;exact⟨cci (by rw[btb]),trivial⟩
def ary (n:Int) (ps:List AS):a7 bxr 70 [pI n,pP (asl ps)] (ae [pI (lvE n ps)]):=by
 refine hpx (nt:=28) Tryz.func70 ?_;refine gv ?_;refine al rfl rfl ?_ ?_<;>intro r0
 ·
  have h0:=tz1 r0;(iterate 2 refine k9 (gtf r0) ?_);refine w_8 ?_
  exact hx8 rfl rfl rfl (⟨cci (b8j bx5).symm,trivial⟩)
 have h0:=tz2 r0;(iterate 2 refine qy ?_ (hg:=(gff r0)));refine w_3 ?_;refine ax _ rfl ?_ ?_<;>intro r1
 · have h1:=tz1 (bn r0 r1);refine v_4 ?_;exact⟨cci (b8j bx5).symm,trivial⟩
 have h1:=tz2 (bn r0 r1);have hz0:0<=n:=by omega
 have hz1:n<=16:=by omega
 refine w_7 ?_;refine hcd ?_ ?_<;>intro h2
 · refine v_4 ?_;exact⟨cci (bol bx5 bx5).symm,trivial⟩
 refine w_6 ?_;refine al rfl rfl ?_ ?_<;>intro r3
 ·
  have h3:=tz1 r3;(iterate 6 refine k9 (gtf r3) ?_);refine w_9 ?_
  exact hx8 rfl rfl rfl (⟨cci (b86 bx5 bx5 (by first|exact .inl bx5|exact .inr (fun e=>absurd (show asI (orL ps)=IntKind.wrap .u32 (1*2^(min n.toNat 32))-1 by rw[og hz0 hz1,e]) bx6))).symm,trivial⟩)
 have h3:=tz2 r3;refine qy ?_ (hg:=(gff r3));refine qcx (wgx Tryz.func125) (bl5 ps) ?_ (hg:=(gff r3));(iterate 2 refine qy ?_ (hg:=(gff r3)));refine rq rfl rfl rfl rfl (gff r3) ?_ (hp:=⟨om hz0 hz1,nf hz0 hz1⟩);refine qy ?_ (hg:=(gff r3));refine w_4 ?_;refine ax _ rfl ?_ ?_<;>intro r4
 · have h4:=tz2 (cj (bn r3 r4));refine v_4 ?_;exact⟨cci (b86 bx5 bx5 (by first|exact .inl bx5|exact .inr (fun e=>absurd (show asI (orL ps)=IntKind.wrap .u32 (1*2^(min n.toNat 32))-1 by rw[og hz0 hz1,e]) bx6))).symm,trivial⟩
 have h4:=tz1 (cn (bn r3 r4));refine w_6 ?_;refine⟨.inr rfl, ?_⟩
 exact ⟨_,_,_,_,rfl,(by(repeat' apply And.intro)<;>first|trivial|exact bt4 rfl|rfl),rfl,(by(repeat' apply And.intro)<;>first|trivial|exact bt4 rfl|rfl),⟨cci (b81 bx5 bx5 (fun e=>by
  rcases e with e|e
  · omega
  exact e (cb.1 ((by assumption:asI (orL ps)=IntKind.wrap .u32 (1*2^(min n.toNat 32))-1).trans (og hz0 hz1))))).symm,trivial⟩⟩
def bbh (n:Int) (ps:List AS) (p m:List Fd):a7 bxr 93 [pI n,pP (asl ps),pP (fdl p),pP (fdl m)] (ae [pT (lcR n ps p m).1.1 (lcR n ps p m).1.2,pP (stl (lcR n ps p m).2.1),pT (lcR n ps p m).2.2.1.1 (lcR n ps p m).2.2.1.2,pI (lcR n ps p m).2.2.2]):=by
 refine hpx (nt:=58) Tryz.func93 ?_;refine sx7 ?_;refine m9 0 ?_;refine qy ?_;refine m9 1 ?_;refine w_7 ?_;refine qcx (wgx Tryz.func70) (ary n ps) ?_;refine w_7 ?_;refine hcn ?_ ?_<;>intro h0
 · refine cr ?_;refine hrr ?_;have he:=bls (p:=p) (m:=m) (by assumption:¬lvE n ps=0);exact f9 rfl rfl (by rw[he];exact⟨CoC.agg ⟨CoP.refl _,m7,trivial⟩,CoC.one (CoP.sl rfl (.inr rfl) (fun _=>rfl) (fun i j hi _=>absurd hi (bt9 i))),CoC.agg ⟨CoP.refl _,m7,trivial⟩,CoC.refl _,trivial⟩)
 have hv:lvE n ps=0:=by assumption
 refine w_7 ?_;refine qcx af0 (a9l n p m) ?_;refine w_7 ?_;refine hcn ?_ ?_<;>intro h1
 · refine cr ?_;refine hrr ?_;have he:=bmc hv (by assumption:¬eo n p m=0);exact f9 rfl rfl (by rw[he];exact⟨CoC.agg ⟨CoP.refl _,m7,trivial⟩,CoC.one (CoP.sl rfl (.inr rfl) (fun _=>rfl) (fun i j hi _=>absurd hi (bt9 i))),CoC.agg ⟨CoP.refl _,m7,trivial⟩,CoC.refl _,trivial⟩)
 have hb:eo n p m=0:=by assumption
 refine w_5 ?_;refine qcx (wgx Tryz.func98) (be7 n ps hv) ?_;refine w_3 ?_;refine m9 2 ?_;refine ss ?_;refine qcx (wgx Tryz.func142) (bbr n ps p m) ?_;refine w_4 ?_;refine m9 3 ?_;refine ss ?_;refine hrr ?_;have he:=b7j hv hb;exact f9 rfl rfl (by rw[he];exact CoL.refl _)
def bcw (n:Int) (h0:0<=n) (h1:n<=16):a7 bxr 95 [pI n] (ae [pZ (fc n)]):=by
 refine hpx (nt:=18) Tryz.func95 ?_;refine w_7 ?_;refine m9 0 ?_;refine cr ?_;refine bw (ka 3 (ka 8 kn)) km (fun k=>⟨[(9,some (vI k))],[(0,some (.arr true 1 3 n.toNat (lf zC (stT n 0 (li 32) k))))]⟩) n.toNat ⟨tt,⟨⟨_,rfl,(apl rfl (fun _=>rfl))⟩,trivial⟩⟩ ?_;rintro k hk;refine w_5 ?_;refine hcd ?_ ?_<;>intro h0
 · refine a5u ?_;exact lpx (k+1) ⟨tt,⟨⟨_,rfl,(bhk (b22 bx5) rfl bx5)⟩,trivial⟩⟩
 refine w_2 ?_;refine bj 3 rfl rfl rfl ?_;refine v_4 ?_;exact⟨axc h1 bx5,trivial⟩
def bka (n:Int) (ps:List AS) (p m:List Fd):a7 bxr 66 [pI n,pP (asl ps),pP (fdl p),pP (fdl m)] (ae [pB (lsB n ps p m),pI (lsC n ps p m)]):=by
 refine hpx (nt:=33) Tryz.func66 ?_;refine gv ?_;refine qcx (wgx Tryz.func93) (bbh n ps p m) ?_;refine w_5 ?_;refine m9 0 ?_;refine m9 1 ?_;refine cr ?_;refine al rfl rfl ?_ ?_<;>intro r0
 ·
  have h0:=tz1 r0;have hz:=bq2 (n:=n) (ps:=ps) (p:=p) (m:=m) rfl h0;(iterate 2 refine qy ?_ (hg:=(gtt r0)));refine qcx (wgx Tryz.func95) (bcw n hz.1 bx5) ?_ (hg:=(gtt r0));refine qcx (wgx Tryz.func94) (b8k (lcR n ps p m).2.2.1.1 (lcR n ps p m).2.2.1.2 (fc n)) ?_ (hg:=(gtt r0));refine w_6 ?_
  exact hx8 rfl rfl rfl (⟨ccb (by first|exact biw|exact b2f (n:=n) (ps:=ps) (p:=p) (m:=m) bx6|exact(b74 (n:=n) (ps:=ps) (p:=p) (m:=m) bx6).symm),cci a0q,trivial⟩)
 have h0:=tz2 r0;(iterate 4 refine k9 (gft r0) ?_);refine w_6 ?_
 exact hx8 rfl rfl rfl (⟨ccb (by first|exact biw|exact b2f (n:=n) (ps:=ps) (p:=p) (m:=m) bx6|exact(b74 (n:=n) (ps:=ps) (p:=p) (m:=m) bx6).symm),cci a0q,trivial⟩)
end
section
inductive Lf (l:List Fd):AS->AS->Prop
 |leaf {s:AS}:dx l s=false->Lf l s s
 |left {s q:AS}:dx l s=true->Lf l (spA l s) q->Lf l s q
 |right {s q:AS}:dx l s=true->Lf l (spB l s) q->Lf l s q
def bfl (l:List Fd):Nat->AS->List AS
 |0,s=>[s]
 |k+1,s=>if dx l s=true then bfl l k (spA l s)++bfl l k (spB l s) else[s]
section
variable {ps:List AS}
def b7n {n:Int} {l:List Fd} (h:¬lsC n ps l []=0\/lsB n ps l []=false):a5t n l ps=false:=by
 have:lsB n ps l []=false:=by
  rcases h with h|h
  · unfold lsB;rw[decide_eq_false h];rfl
  exact h
 unfold a5t;rw[this];rfl
def bmn {n:Int} {l:List Fd} (h:lsB n ps l []=true):(!ps.any (dx l))=a5t n l ps:=by
 unfold a5t;rw[h];rfl
def agc {f:AS->Bool} {i:Nat} (h:i<ps.length):(ps.take (i+1)).all f=((ps.take i).all f&&f (ps.getD i default)):=by
 rw[aj h,List.all_append];simp
def al5{s:Nat}{f:Nat->Nat->PV}:CoC (.one (.sl 0 s true f)) (pP (fdl [])):=CoC.one (CoP.sl rfl (.inr rfl) (fun h=>by cases h) fun i j hi _=>absurd hi (bt9 i))
end
end
section
open Go.Proofs
def u8A(b:BitVec 8):AS:=b.setWidth 32
abbrev u8C:BitVec 8->Nat->PV:=fun b _=>.raw (.int .u8 (b.toNat:Int))
end
section
open Go.Proofs Go.Proofs.YtnlcekpflogjkaaGreatDoor
open Go.RowKit Go.ChangeShapes Go.WideShapes Go.ChangeAt
def rd5:Rd bxr 5 1 u8C:=(bnn Tryz.underlying5).co (fun u=>u.toBitVec) fun a j hj=>CoP.refl _
end
section
section
variable {b:AS}
def t8{a:AS}(h:∀i,i<32->a.getLsbD i=b.getLsbD i):a=b:=bu7 h
variable {s:AS}
def a62{t:AS}:s&&&t=0<->∀i,i<32->s.getLsbD i=true->t.getLsbD i=false:=by
 constructor
 · intro h i hi hs
   have:=congrArg (fun x:AS=>x.getLsbD i) h;simp only[bta,hs,bu0]at this;simpa using this
 intro h;apply t8;intro i hi;have:=h i hi;rw[bta];cases hs:s.getLsbD i<;>simp_all
def anj {t:AS} (h:s&&&t≠0):∃i,i<32/\s.getLsbD i=true/\t.getLsbD i=true:=by
 apply Classical.byContradiction;intro hn;refine h (a62.2 fun i hi hs=>?_)
 cases ht:t.getLsbD i with
 |false=>rfl
 |true=>exact absurd ⟨i,hi,hs,ht⟩ hn
def apf (h:s≠0):∃i,i<32/\s.getLsbD i=true:=by
 apply Classical.byContradiction;intro hn;refine h (t8 fun i hi=>?_)
 cases hs:s.getLsbD i with
 |false=>simp
 |true=>exact absurd ⟨i,hi,hs⟩ hn
def a7t{i:Nat}(h:s.getLsbD i=true):i<32:=BitVec.lt_of_getLsbD h
def db{t:AS}{i:Nat}(hi:i<32):(s&&&~~~t).getLsbD i=(s.getLsbD i&&!t.getLsbD i):=by simp[hi]
def lb(a:Nat):AS:=1#32<<<a
def j3 {a i:Nat} (ha:a<32) (hi:i<32):(lb a).getLsbD i=decide (i=a):=by
 unfold lb;rw[BitVec.getLsbD_shiftLeft];by_cases h:i=a
 · subst h;simp[hi]
 by_cases h2:i<a
 · simp[h,h2,hi]
 have:i-a≠0:=by omega
 simp[h,h2,hi,BitVec.getLsbD_one,this]
def b55 {a:Nat} (ha:a<32) (h:sub b (lb a)) (hb:b.getLsbD a=true):b=lb a:=by
 apply t8;intro i hi;have:=ai.1 h i hi;rw[j3 ha hi]at this ⊢;by_cases e:i=a
 · subst e;simp[hb]
 cases hs:b.getLsbD i
 · simp[e]
 simp[e,hs]at this
def dz(m:Fd)(b:AS):Bool:=decide (b&&&m.lhs=0)&&(decide (b&&&m.rhs≠0)&&decide (b&&&~~~m.rhs≠0))
def hdB(m:Fd)(b:AS):AS:=if dz m b=true then b&&&m.rhs else b
def tlB(m:Fd)(b:AS):List AS:=if dz m b=true then[b&&&~~~m.rhs] else[]
def stB(m:Fd)(l:List AS)(i:Nat):List AS:=(l.take i).map (hdB m)++l.drop i++(l.take i).flatMap (tlB m)
def rdB(m:Fd)(l:List AS):List AS:=l.map (hdB m)++l.flatMap (tlB m)
def cg(ms:List Fd)(l:List AS):List AS:=ms.foldl (fun l m=>rdB m l) l
def ns:List Fd->List AS->Bool
 | [],_=>false
 |m::ms,l=>l.any (dz m)||ns ms (rdB m l)
def yu (ms:List Fd):Nat->List AS->List AS
 |0,l=>l
 |f+1,l=>if ns ms l=true then yu ms f (cg ms l)else cg ms l
def muB:List AS->Nat
 | []=>0
 |b::l=>b.toNat*b.toNat+muB l
def ah0:∀(l k:List AS),muB (l++k)=muB l+muB k
 | [],k=>by simp[muB]
 |b::l,k=>by simp[muB,ah0 l k];omega
def abe (b r:AS):(b&&&r).toNat+(b&&&~~~r).toNat=b.toNat:=by
 have h:(b&&&r)&&&(b&&&~~~r)=0#32:=a62.2 fun i hi hs=>by
  rw[db hi];rw[bta,bt3]at hs;simp[hs.1,hs.2]
 have e:(b&&&r)+(b&&&~~~r)=b:=by
  rw[BitVec.add_eq_or_of_and_eq_zero _ _ h];apply t8;intro i hi;rw[buy,db hi,bta];cases b.getLsbD i<;>cases r.getLsbD i<;>rfl
 rw[<- BitVec.toNat_add_of_and_eq_zero h,e]
def xb{m:Fd}:dz m b=true<->b&&&m.lhs=0/\b&&&m.rhs≠0/\b&&&~~~m.rhs≠0:=by simp[dz]
def b66 {x y z:Nat} (h:x+y=z) (hx:0<x) (hy:0<y):x*x+y*y<z*z:=by
 subst h;rw[buh,Nat.mul_add,Nat.mul_add];have:0<x*y:=Nat.mul_pos hx hy;have:0<y*x:=Nat.mul_pos hy hx;omega
def a7x(h:b≠0):0<b.toNat:=Nat.pos_of_ne_zero fun e=>h (bu2 e)
def ayz(m:Fd):∀(l:List AS),muB (l.map (hdB m))+muB (l.flatMap (tlB m))+(if l.any (dz m)=true then 1 else 0)<=muB l
 | []=>by simp[muB]
 | b :: l=>by
  have ih:=ayz m l;rw[bur,bw0,ah0,List.any_cons];simp only[muB];by_cases h:dz m b=true
  · obtain ⟨_,h2,h3⟩:=xb.1 h
    have:=b66 (abe b m.rhs) (a7x h2) (a7x h3);simp only[hdB,tlB,h,if_true,muB,Bool.true_or];omega
  rw[Bool.not_eq_true]at h;simp only[hdB,tlB,h,muB,Bool.false_or,bup,if_false];omega
def bc5 (m:Fd) (l:List AS):muB (rdB m l)+(if l.any (dz m)=true then 1 else 0)<=muB l:=by
 unfold rdB;rw[ah0];exact ayz m l
def aiq:∀(ms:List Fd) (l:List AS),muB (cg ms l)+(if ns ms l=true then 1 else 0)<=muB l
 | [],l=>by simp[cg,ns]
 | m::ms,l=>by
  have h1:=bc5 m l;have h2:=aiq ms (rdB m l);show muB (cg ms (rdB m l))+_<=_;simp only[ns];by_cases h3:l.any (dz m)=true<;>by_cases h4:ns ms (rdB m l)=true<;>simp only[h3,h4,Bool.true_or,Bool.or_true,Bool.or_false,if_true,bup,if_false]at h1 h2 ⊢<;>omega
def b46 {m:Fd} {l:List AS} (h:l.any (dz m)=false):rdB m l=l:=by
 have h':∀b∈l,dz m b=false:=fun b hb=>by
  have:=buu.1 h b hb;simpa using this
 have e1:l.map (hdB m)=l:=by
  conv=>rhs;rw[<- List.map_id l]
  exact bvd fun b hb=>by simp[hdB,h' b hb]
 have e2:l.flatMap (tlB m)=[]:=List.flatMap_eq_nil_iff.2 fun b hb=>by simp[tlB,h' b hb]
 simp[rdB,e1,e2]
def aln:∀{ms:List Fd} {l:List AS},ns ms l=false->cg ms l=l/\∀m∈ms,∀b∈l,dz m b=false
 | [],l,_=>⟨rfl,fun _ h=>by cases h⟩
 | m :: ms,l,h=>by
  simp only[ns,Bool.or_eq_false_iff]at h;have e:=b46 h.1;rw[e]at h;obtain⟨h1,h2⟩:=aln h.2;refine⟨?_,fun k hk b hb=>?_⟩
  · show cg ms (rdB m l)=l
    rw[e];exact h1
  rcases btd.1 hk with rfl|hk
  · have:=buu.1 h.1 b hb
    simpa using this
  exact h2 k hk b hb
structure Blk (ms:List Fd) (rest:AS) (bs:List AS):Prop where
 nz:∀b∈bs,b≠0
 cnt:∀a,a<32->bs.countP (fun b=>b.getLsbD a)=if rest.getLsbD a=true then 1 else 0
 ind:∀G:AS->Prop,G rest->(∀m∈ms,∀b,G b->dz m b=true->G (b&&&m.rhs)/\G (b&&&~~~m.rhs))->∀b∈bs,G b
variable {bs:List AS}{ms:List Fd}{rest:AS}
theorem Blk.rd (h:Blk ms rest bs) {m:Fd} (hm:m∈ms):Blk ms rest (rdB m bs):=by
 have hmem:∀{b:AS},b∈rdB m bs->∃b0∈bs,(dz m b0=false/\b=b0)\/(dz m b0=true/\(b=b0&&&m.rhs\/b=b0&&&~~~m.rhs)):=by
  intro b hb;unfold rdB at hb
  rcases btn.1 hb with hb|hb
  · obtain ⟨b0,h0,rfl⟩:=bto.1 hb
    refine⟨b0,h0, ?_⟩;cases hs:dz m b0<;>simp[hdB,hs]
  obtain⟨b0,h0,hb⟩:=List.mem_flatMap.1 hb;refine⟨b0,h0, ?_⟩;cases hs:dz m b0
  · simp[tlB,hs]at hb
  simp[tlB,hs]at hb;exact .inr ⟨rfl, .inr hb⟩
 refine⟨fun b hb=>?_,fun a ha=>?_,fun G h0 hG b hb=>?_⟩
 · obtain ⟨b0,h0,⟨_,rfl⟩|⟨hs,hb⟩⟩:=hmem hb
   · exact h.nz _ h0
   obtain⟨_,h2,h3⟩:=xb.1 hs
   rcases hb with rfl|rfl
   · exact h2
   exact h3
 · rw [<- h.cnt a ha]
   have:∀l:List AS,(l.map (hdB m)).countP (fun b=>b.getLsbD a)+(l.flatMap (tlB m)).countP (fun b=>b.getLsbD a)=l.countP (fun b=>b.getLsbD a):=by
    intro l
    induction l with
    |nil=>rfl
    | cons b l ih =>
     rw[bur,bw0,bwz,bw4,bw4,<- ih];cases hs:dz m b
     · simp[hdB,tlB,hs];omega
     simp only[hdB,tlB,hs,if_true,bw4,List.countP_nil,db ha,bta];cases b.getLsbD a<;>cases m.rhs.getLsbD a<;>simp<;>omega
   unfold rdB;rw[bwz];exact this bs
 obtain⟨b0,h1,⟨_,rfl⟩|⟨hs,hb⟩⟩:=hmem hb
 · exact h.ind G h0 hG _ h1
 obtain⟨g1,g2⟩:=hG m hm b0 (h.ind G h0 hG _ h1) hs
 rcases hb with rfl|rfl
 · exact g1
 exact g2
theorem Blk.ron:∀{ms':List Fd} {bs:List AS},(∀m∈ms',m∈ms)->Blk ms rest bs->Blk ms rest (cg ms' bs)
 | [],bs,_,h=>h
 |m::ms',bs,hm,h=>Blk.ron (ms':=ms') (fun k hk=>hm k (by simp[hk])) (h.rd (hm m bx8))
theorem Blk.end_:∀{f:Nat} {bs:List AS},muB bs<f->Blk ms rest bs->Blk ms rest (yu ms f bs)/\∀m∈ms,∀b∈yu ms f bs,dz m b=false
 |0,bs,hf,_=>absurd hf (bt9 _)
 | f + 1,bs,hf,h=>by
  have hr:=h.ron (ms':=ms) (fun _ h=>h);unfold yu;cases hc:ns ms bs
  · obtain ⟨e,hs⟩:=aln hc
    simp only[bup,if_false];rw[e];exact⟨h,hs⟩
  have:=aiq ms bs;rw[hc]at this;simp only[if_true]at this ⊢;exact Blk.end_ bx5 hr
def l7(rest:AS):List AS:=if rest=0 then[] else[rest]
theorem Blk.start (ms:List Fd) (rest:AS):Blk ms rest (l7 rest):=by
 unfold l7;by_cases h:rest=0
 · subst h
   simp only[if_true];exact⟨fun _ h=>by(cases h),fun a ha=>by simp,fun _ _ _ _ h=>by cases h⟩
 rw[if_neg h];exact⟨fun b hb=>by(simp at hb;subst hb;exact h),fun a ha=>by simp[bw4],fun G h0 _ b hb=>by(simp at hb;subst hb;exact h0)⟩
def aj5 (rest:AS):muB (l7 rest)<18446744073709551616:=by
 unfold l7;split
 · simp[muB]
 simp only[muB];have h:=rest.isLt;have:=Nat.mul_le_mul (bwd (show rest.toNat<4294967295+1 from h)) (bwd (show rest.toNat<4294967295+1 from h));omega
def blks(ms:List Fd)(rest:AS):List AS:=yu ms 18446744073709551616 (l7 rest)
def ag6(ms:List Fd)(rest:AS):Blk ms rest (blks ms rest)/\∀m∈ms,∀b∈blks ms rest,dz m b=false:=Blk.end_ (aj5 rest) (Blk.start ms rest)
def av4 {p:AS->Bool} {l:List AS} (h:l.countP p<=1) {a:AS} (ha:a∈l) (hb:b∈l) (pa:p a=true) (pb:p b=true):a=b:=by
 rw[List.countP_eq_length_filter]at h;have h1:a∈l.filter p:=buw.2 ⟨ha,pa⟩;have h2:b∈l.filter p:=buw.2 ⟨hb,pb⟩
 cases hl:l.filter p with
 |nil=>rw[hl]at h1;cases h1
 | cons x r =>
  rw[hl]at h h1 h2
  cases r with
  |nil=>simp at h1 h2;rw[h1,h2]
  |cons=>simp at h
theorem Blk.one (h:Blk ms rest bs) {b':AS} (hb:b∈bs) (hb':b'∈bs) {a:Nat} (h1:b.getLsbD a=true) (h2:b'.getLsbD a=true):b=b':=by
 refine av4 (p:=fun b=>b.getLsbD a) ?_ hb hb' h1 h2;rw[h.cnt a (a7t h1)];split<;>omega
theorem Blk.cov (h:Blk ms rest bs) {a:Nat} (ha:rest.getLsbD a=true):∃b∈bs,b.getLsbD a=true:=by
 have:=h.cnt a (a7t ha);rw[if_pos ha]at this;exact List.countP_pos_iff.1 bx5
theorem Blk.sub (h:Blk ms rest bs) (hb:b∈bs):Go.Hx.sub b rest:=ai.2 fun a ha hba=>by
 have h1:=h.cnt a ha;have h2:0<bs.countP (fun b=>b.getLsbD a):=List.countP_pos_iff.2 ⟨b,hb,hba⟩
 cases hr:rest.getLsbD a with
 |true=>rfl
 |false=>rw[hr]at h1;simp only[bup,if_false]at h1;omega
end
end
section
def sgl(f:Fd):List Fd:=(ak f.rhs).map fun a=>⟨f.lhs,lb a⟩
def ll(fs ms:List Fd):List Fd:=ms++fs.flatMap sgl
def b1m{fs ms:List Fd}{m:Fd}:m∈ll fs ms<->m∈ms\/∃f∈fs,∃a,a<32/\f.rhs.getLsbD a=true/\m=⟨f.lhs,lb a⟩:=by
 unfold ll sgl;simp only[btn,List.mem_flatMap,bto,io];constructor
 · rintro (h|⟨f,hf,a,⟨h1,h2⟩,rfl⟩)
   · exact .inl h
   exact .inr ⟨f,hf,a,h1,h2,rfl⟩
 rintro(h|⟨f,hf,a,h1,h2,rfl⟩)
 · exact .inl h
 exact .inr ⟨f,hf,a,⟨h1,h2⟩,rfl⟩
def sw(T:List AS)(r:AS):List AS:=if r∈T then T else T++[r]
def ach{T:List AS}{r z:AS}:z∈sw T r<->z∈T\/z=r:=by
 unfold sw;split
 · rename_i h
   constructor
   · exact .inl
   rintro(h2|rfl)
   · exact h2
   exact h
 simp
def zf {T:List AS} {r:AS} (h:T.Nodup):(sw T r).Nodup:=by
 unfold sw;split
 · exact h
 rename_i hr;rw[List.nodup_append];exact⟨h,by simp,fun a ha b hb=>by simp at hb;subst hb;rintro rfl;exact hr ha⟩
def aes(s:AS)(o:List AS)(T:List AS):List AS:=T.foldl (fun o r=>sw o (r&&&~~~s)) o
def ud(T:List AS)(s:AS):List AS:=aes s [] T
def ad7{s:AS}:∀{T o:List AS},(o.Nodup->(aes s o T).Nodup)/\∀z,z∈aes s o T<->z∈o\/∃r∈T,z=r&&&~~~s
 | [],o=>⟨fun h=>h,fun z=>by simp[aes]⟩
 | r :: T,o=>by
  obtain⟨h1,h2⟩:=ad7 (s:=s) (T:=T) (o:=sw o (r&&&~~~s));refine⟨fun h=>h1 (zf h),fun z=>?_⟩;show z∈aes s (sw o (r&&&~~~s)) T<->_;rw[h2 z,ach];simp only[btd];constructor
  · rintro ((h|h)|⟨q,hq,h⟩)
    · exact .inl h
    · exact .inr ⟨r, .inl rfl,h⟩
    exact .inr ⟨q, .inr hq,h⟩
  rintro(h|⟨q,rfl|hq,h⟩)
  · exact .inl (.inl h)
  · exact .inl (.inr h)
  exact .inr ⟨q,hq,h⟩
def acp {T:List AS} {s z:AS}:z∈ud T s<->∃r∈T,z=r&&&~~~s:=by
 have:=(ad7 (s:=s) (T:=T) (o:=[])).2 z;simpa [ud]using this
def aeh(T:List AS)(s:AS):(ud T s).Nodup:=(ad7 (s:=s) (T:=T) (o:=[])).1 List.nodup_nil
def a2h(d:Fd)(r k:AS):AS:=(r&&&(d.lhs|||d.rhs))|||(k&&&~~~(d.lhs|||d.rhs))
def agB(d:Fd)(r k:AS):Bool:=decide ((r ^^^ k)&&&d.lhs=0)
def b71 {d:Fd} {r k:AS} {i:Nat} (hi:i<32):(a2h d r k).getLsbD i=(if d.lhs.getLsbD i||d.rhs.getLsbD i then r.getLsbD i else k.getLsbD i):=by
 unfold a2h;rw[buy,db hi,bta,buy];cases d.lhs.getLsbD i<;>cases d.rhs.getLsbD i<;>simp
structure bnr (fs ms:List Fd) (T:List AS):Prop where
 fd:∀d∈fs,∀r∈T,∀k∈T,agB d r k=true->(r ^^^ k)&&&d.rhs=0
 mv:∀d∈ms,∀r∈T,∀k∈T,agB d r k=true->a2h d r k∈T
def aez(fs:List Fd)(bs:List AS)(a:Nat):Prop:=lb a∈bs/\∃f∈fs,f.rhs.getLsbD a=true/\f.lhs.getLsbD a=false
structure JT (fs:List Fd) (bs:List AS) (rest:AS) (T:List AS):Prop where
 z:(0:AS)∈T
 r:∀r∈T,sub r rest/\∀b∈bs,b&&&r=0\/sub b r
 top:∃L∈T,(∀r∈T,sub r L)/\∀a,a<32->rest.getLsbD a=true->L.getLsbD a=false->aez fs bs a
section
variable {fs ms:List Fd}{bs:List AS}{rest:AS}{T:List AS}
def br5(T:List AS)(b:AS):Prop:=∀r∈T,∀k∈T,((r&&&b)|||(k&&&~~~b))∈T
structure bsq (fs ms:List Fd) (bs:List AS) (rest:AS) (T:List AS):Prop where
 j:JT fs bs rest T
 c:bnr fs ms T
def qB(T:List AS)(L x rest y:AS):Prop:=y≠0/\sub y rest/\(L&&&~~~(x|||y))∈T
end
end
section
def o5:List AS->Nat
 | []=>0
 |b::l=>b.toNat+o5 l
def ac1:∀(l k:List AS),o5 (l++k)=o5 l+o5 k
 | [],k=>by simp[o5]
 |b::l,k=>by simp[o5,ac1 l k];omega
def OkB(l:List AS):Prop:=o5 l<4294967296/\∀b∈l,b≠0
section
variable {l:List AS}
def agp(h:OkB l):l.length<=4294967296:=by
 have:∀l:List AS,(∀b∈l,b≠0)->l.length<=o5 l:=by
  intro l
  induction l with
  |nil=>intro _;simp[o5]
  | cons b l ih =>
   intro h;have h1:=ih fun x hx=>h x (by simp[hx]);have h2:=a7x (h b bx8);simp only[bud,o5];omega
 have h1:=this l h.2;have:=h.1;omega
def bj6(m:Fd)(l:List AS):o5 (rdB m l)=o5 l:=by
 have:∀l:List AS,o5 (l.map (hdB m))+o5 (l.flatMap (tlB m))=o5 l:=by
  intro l
  induction l with
  |nil=>rfl
  | cons b l ih =>
   rw[bur,bw0,ac1];simp only[o5];by_cases h:dz m b=true
   · have:=abe b m.rhs
     simp only[hdB,tlB,h,if_true,o5];omega
   rw[Bool.not_eq_true]at h;simp only[hdB,tlB,h,o5,bup,if_false];omega
 unfold rdB;rw[ac1];exact this l
variable {m:Fd}
def b0a(h:OkB l):OkB (rdB m l):=by
 refine⟨by rw[bj6];exact h.1,fun b hb=>?_⟩;unfold rdB at hb
 rcases btn.1 hb with hb|hb
 · obtain ⟨b0,h0,rfl⟩:=bto.1 hb
   unfold hdB;split
   · rename_i hs;exact(xb.1 hs).2.1
   exact h.2 _ h0
 obtain⟨b0,h0,hb⟩:=List.mem_flatMap.1 hb;unfold tlB at hb;split at hb
 · rename_i hs
   simp at hb;subst hb;exact(xb.1 hs).2.2
 cases hb
def ak7 (rest:AS):OkB (l7 rest):=by
 unfold l7;split
 · exact⟨by simp[o5],fun _ h=>by cases h⟩
 rename_i h;exact⟨by simp only[o5];have:=rest.isLt;omega,fun b hb=>by simp at hb;subst hb;exact h⟩
def a9v{rest:AS}(h:¬rest=0):l7 rest=[]++[rest]:=by rw[l7,if_neg h];rfl
def a8z{rest:AS}(h:rest=0):l7 rest=[]:=by rw[l7,if_pos h]
def acx(m:Fd)(l:List AS):stB m l 0=l:=by simp[stB]
def a4f(m:Fd)(l:List AS):stB m l l.length=rdB m l:=by simp[stB,rdB]
def vg(m:Fd)(l:List AS)(i:Nat):((l.take i).map (hdB m)).length=min i l.length:=by simp
variable {i:Nat}
def bf7 (h:i<l.length):(stB m l i).getD i default=l.getD i default:=by
 have e:((l.take i).map (hdB m)).length=i:=by rw[vg];omega
 unfold stB;rw[bu4,bt1,bvm (by rw[e];omega),e,bwt,bvp (by rw[bvi];omega),bw6,bv4,<- bt1]
def stB_get' {a:Nat} (hia:i<=a) (h:a<l.length):(stB m l i).getD a default=l.getD a default:=by
 have e:((l.take i).map (hdB m)).length=i:=by rw[vg];omega
 unfold stB;rw[bu4,bt1,bvm (by rw[e];omega),e,bvp (by rw[bvi];omega),bw6,show i+(a-i)=a by omega,<- bt1]
def as1 (m:Fd) (l:List AS) (i:Nat):l.length<=(stB m l i).length:=by
 unfold stB;rw[bt8,bt8,vg,bvi];omega
def aka (h:i<l.length):l.drop i=l.getD i default::l.drop (i+1):=by
 rw[bwa h];congr 1;simp[bt1,bt0 h]
def qe (h:i<l.length) (hs:dz m (l.getD i default)=false):stB m l (i+1)=stB m l i:=by
 unfold stB;rw[aj h,bux,bwv,aka h];simp only[bur,bx3,bw0,List.flatMap_nil,hdB,tlB,hs,bup,if_false,btq,bu4,bvj,bwy]
def alb (h:i<l.length) (hs:dz m (l.getD i default)=true):stB m l (i+1)=(stB m l i).set i (l.getD i default&&&m.rhs)++[l.getD i default&&&~~~m.rhs]:=by
 have e:((l.take i).map (hdB m)).length=i:=by rw[vg];omega
 unfold stB;rw[aj h,bux,bwv,aka h];simp only[bur,bx3,bw0,List.flatMap_nil,hdB,tlB,hs,if_true,btq];generalize hA:(l.take i).map (hdB m)=A at e ⊢;generalize (l.take i).flatMap (tlB m)=B;generalize l.drop (i+1)=D;subst e;rw[bu4 A,bu4 A,bu4 A,List.set_append_right _ _ (bt2 _),bwt,bu4 A];simp
def bg0(m:Fd)(l:List AS):∀i,(stB m l i).length<=(rdB m l).length:=by
 intro i;by_cases hi:i<l.length
 · have:∀k,i+k<=l.length->(stB m l i).length<=(stB m l (i+k)).length:=by
    intro k
    induction k with
    |zero=>intro _;exact bt2 _
    | succ k ih =>
     intro hk;have h1:=ih bx5;refine bth h1 ?_;cases hs:dz m (l.getD (i+k) default)
     · rw[show i+(k+1)=i+k+1 by omega,qe bx5 hs];exact bt2 _
     rw[show i+(k+1)=i+k+1 by omega,alb bx5 hs,bt8,buv];omega
   have h2:=this (l.length-i) bx5;rw[show i+(l.length-i)=l.length by omega,a4f]at h2;exact h2
 unfold stB rdB;rw[bwg bx5,bwf bx5];simp
def a6h(l:List AS)(i:Nat):Nat->Nat->PV:=fun k c=>if k<i then .any else sC (l.getD k default) c
def bc8 (l:List AS) (i:Nat):a6h l i i 0=asC (l.getD i default):=by
 unfold a6h;rw[if_neg (bvy i)]
def aad {cl:Bool} {n:Nat} (hn:n=l.length):CoP (.sl n 1 cl (a6h l i)) (.sl l.length 1 false (a6h l (i+1))):=by
 subst hn;refine CoP.sl rfl (.inl rfl) (fun h=>by cases h) fun k c hk hc=>?_;unfold a6h;by_cases h1:k<i
 · rw[if_pos h1,if_pos (show k<i+1 by omega)];exact CoP.refl _
 rw[if_neg h1];by_cases h2:k<i+1
 · rw[if_pos h2];exact CoP.any_of
 rw[if_neg h2];exact CoP.refl _
def ap8 {L:List AS} {k:Nat} {v:PV} (hil:i<L.length) (hk:k=i:=by rfl):CoP (.sl L.length 1 false (fz (lf sC (stB m L i)) k 0 [v])) (.sl L.length 1 false (a6h L (i+1))):=by
 subst hk;refine CoP.sl rfl (.inl rfl) (fun h=>h) fun a c ha hc=>?_;obtain rfl:c=0:=by omega
 unfold a6h;by_cases h:a<k+1
 · rw[if_pos h];exact CoP.any_of
 rw[if_neg h];unfold fz lf;rw[if_neg bx5,stB_get' bx5 ha];exact CoP.refl _
def aze{A B:List AS}{a:Nat}(h:a<A.length):(A++B).getD a default=A.getD a default:=by simp[bt1,bvp h]
def b1e{A:List AS}{x:AS}:(A++[x]).getD A.length default=x:=by simp[bt1]
def y8{wr wr':Bool}{e:TypeId}{L:List AS}{k:Nat}{u:Int}{g:Nat->Nat->PV}(hil:i<L.length)(hs:dz m (L.getD i default)=true)(hk:k=i)(hu:u=asI (L.getD i default&&&m.rhs))(hg:CoP (g 0 0) (asC (L.getD i default&&&~~~m.rhs)))(hw:wr'=true->wr=true:=by exact fun h=>h):
 CoO (.arr wr 1 e ((stB m L i).length+1) (iw (stB m L i).length (fz (lf sC (stB m L i)) k 0 [.raw (.int .u32 u)]) g)) (.arr wr' 1 e (stB m L (i+1)).length (lf sC (stB m L (i+1)))):=by
 subst hk hu;have hl:=as1 m L k;rw[alb hil hs];refine⟨hw,rfl,rfl,by rw[bt8,buv];rfl,fun a j ha hj=>?_⟩;obtain rfl:j=0:=by omega
 unfold iw;generalize L.getD k default&&&m.rhs=X;generalize L.getD k default&&&~~~m.rhs=Y at hg ⊢;generalize stB m L k=A at hl ha ⊢;by_cases h:a<A.length
 · rw [if_pos h]
   refine CoP.of_eq ?_;show fz (lf sC A) k 0 [.raw (.int .u32 (asI X))] a 0=sC ((A.set k X++[Y]).getD a default) 0;rw[aze (by rw[buv];exact h)];unfold fz lf;by_cases h2:a=k
   · subst h2
     rw[if_pos ⟨rfl,bt2 _,by simp⟩,nk h];rfl
   rw[if_neg bx5,getD_set_ne' h2]
 obtain rfl:a=A.length:=by omega
 rw[if_neg h,bwt];show CoP (g 0 0) (sC ((A.set k X++[Y]).getD A.length default) 0);have:=b1e (A:=A.set k X) (x:=Y);rw[buv]at this;rw[this];exact hg
variable {ms:List Fd}
def a5v {j:Nat} (h:j<ms.length):cg (ms.take (j+1)) l=rdB (ms.getD j default) (cg (ms.take j) l):=by
 unfold cg;rw[aj h,btr];rfl
def au3:∀(ms:List Fd) (m:Fd) (l:List AS),ns (ms++[m]) l=(ns ms l||(cg ms l).any (dz m))
 | [],m,l=>by simp[ns,cg]
 | k::ms,m,l=>by
  simp only[bvj,ns];rw[au3 ms m (rdB k l),Bool.or_assoc];rfl
def alo {j:Nat} (h:j<ms.length):ns (ms.take (j+1)) l=(ns (ms.take j) l||(cg (ms.take j) l).any (dz (ms.getD j default))):=by
 rw[aj h,au3]
def a9p (h:OkB l):∀{ms:List Fd},OkB (cg ms l):=by
 intro ms
 induction ms generalizing l with
 |nil=>exact h
 |cons m ms ih=>exact ih (b0a h)
structure BkI (ms:List Fd) (R:List AS) (x:Nat×List AS×Bool):Prop where
 ok:OkB x.2.1
 t:x.2.2=true->yu ms x.1 x.2.1=R/\muB x.2.1<x.1
 f:x.2.2=false->x.2.1=R
def b5a(ms:List Fd)(rest:AS):BkI ms (blks ms rest) (18446744073709551616,l7 rest,true):=⟨ak7 rest,fun _=>⟨rfl,aj5 rest⟩,fun h=>by cases h⟩
def bdi{R:List AS}{f:Nat}(h:BkI ms R (f,l,true)):BkI ms R (f-1,cg ms l,ns ms l)/\0<f:=by
 obtain⟨h1,h2⟩:=h.t rfl;have h2:muB l<f:=h2;obtain⟨g,rfl⟩:∃g,f=g+1:=⟨f-1,by omega⟩;have h3:=aiq ms l;refine⟨⟨a9p h.ok,fun hc=>?_,fun hc=>?_⟩,by omega⟩
 · have hc:ns ms l=true:=hc
   have h1:yu ms (g+1) l=R:=h1;unfold yu at h1;rw[if_pos hc]at h1 h3;exact⟨h1,by show muB (cg ms l)<g;omega⟩
 have hc:ns ms l=false:=hc;have h1:yu ms (g+1) l=R:=h1;unfold yu at h1;rw[hc]at h1;exact h1
def ckB(n:Int)(l m:List Fd)(s:AS):Int:=if eo n l m=0 then(if s>>>n.toNat=0 then 0 else 1)else eo n l m
def b8z{n:Int}{l m:List Fd}{s:AS}(h:¬eo n l m=0):ckB n l m s=eo n l m:=if_neg h
def b8a{n:Int}{l m:List Fd}{s:AS}(h:eo n l m=0)(h2:¬s>>>n.toNat=0):ckB n l m s=1:=by unfold ckB;rw[if_pos h,if_neg h2]
def aag{n:Int}{l m:List Fd}{s:AS}(h:eo n l m=0)(h2:s>>>n.toNat=0):ckB n l m s=0:=by unfold ckB;rw[if_pos h,if_pos h2]
def a8v{n:Int}{l m:List Fd}{s:AS}(h:ckB n l m s=0):eo n l m=0/\s>>>n.toNat=0:=by
 unfold ckB at h;split at h
 · split at h
   · exact⟨by assumption,by assumption⟩
   cases h
 exact absurd h bx6
def atk(f:Fd):(sgl f).length<=32:=by unfold sgl;rw[btw];exact wd _
def mo(fs ms:List Fd)(i k:Nat):List Fd:=ms++(fs.take i).flatMap sgl++(sgl (fs.getD i default)).take k
def aj9(fs ms:List Fd):mo fs ms 0 0=ms:=by simp[mo]
variable {fs:List Fd}
def b1k (h:i<fs.length):mo fs ms (i+1) 0=mo fs ms i (sgl (fs.getD i default)).length:=by
 unfold mo;rw[aj h,bwv,btb];simp
def b4e(fs ms:List Fd):mo fs ms fs.length 0=ll fs ms:=by simp[mo,ll]
def b2a {k:Nat} (h:k<(sgl (fs.getD i default)).length):mo fs ms i (k+1)=mo fs ms i k++[(sgl (fs.getD i default)).getD k default]:=by
 unfold mo;rw[aj h,<- bu4]
def b2g{k:Nat}:(mo fs ms i k).length<=ms.length+32*(i+1):=by
 have:∀l:List Fd,(l.flatMap sgl).length<=32*l.length:=by
  intro l
  induction l with
  |nil=>simp
  | cons f l ih =>
   rw[bw0,bt8,bud];have:=atk f;omega
 have h1:=this (fs.take i);have h2:=atk (fs.getD i default);unfold mo;rw[bt8,bt8,btp];rw[btp]at h1;omega
end
end
end Go.Hx
