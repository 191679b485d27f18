/- A part of the proof: Cs42 Ls2 Cz2m Ls3 Ls5 W0 W1 Ls6 W2a Ch22 X26 Ch25. -/
import Derived.Test.YtkkenjdfbojdlaaGreatDoorMx30
set_option linter.all false
set_option maxRecDepth 100000
set_option maxHeartbeats 1000000
namespace Go.Hx
section
def uz {L:List AS} {x:AS}:x ∈ ef L <-> x ∈ L /\ ∀ y ∈ L,sub x y -> x = y:=by
 unfold ef wt ws;rw [bpq,gn,boz,bpw];constructor
 · rintro ⟨h1,h2⟩
   refine ⟨h1,fun y hy hs=>Classical.byContradiction fun hne=>h2 y (gn.2 hy) ?_⟩;rw [boc,decide_eq_true_iff];exact ⟨hne,decide_eq_true hs⟩
 rintro ⟨h1,h2⟩;refine ⟨h1,fun y hy hc=>?_⟩;rw [boc,decide_eq_true_iff] at hc;exact hc.1 (h2 y (gn.1 hy) (of_decide_eq_true hc.2))
def afi {L:List AS}:∀ (n:Nat) (x:AS),x ∈ L -> 4294967296 - x.toNat <= n -> ∃ y ∈ ef L,sub x y
 | 0,x,_,h=>by have:=x.isLt;omega
 | n + 1,x,hx,h=>by
  by_cases hm:x ∈ ef L
  · exact ⟨x,hm,df x⟩
  have:∃ y ∈ L,sub x y /\ x ≠ y:=by
   apply Classical.byContradiction;intro hn;exact hm (uz.2 ⟨hx,fun y hy hs=>Classical.byContradiction fun hne=>hn ⟨y,hy,hs,hne⟩⟩)
  obtain ⟨y,hy,hs,hne⟩:=this;have hlt:=zd hs hne;have hyl:=y.isLt;obtain ⟨z,hz,hyz⟩:=afi n y hy bsq;exact ⟨z,hz,ak hs hyz⟩
def n5 {L:List AS} {x:AS} (h:x ∈ L):∃ y ∈ ef L,sub x y:=afi 4294967296 x h bsq
section
variable {n:Int} {l:List Fd}
def ajn (h:f5 n l (a6 n) = true):∀ k,f5 n l (iz n l (a6 n) k) = true
 | 0=>h
 | k + 1=>by
  rw [t6];unfold a4q;split
  · assumption
  exact ajn h k
def ai1 (h:au n l = 0):f5 n l (rkS n l (a6 n)) = true:=by
 rw [(aup h (a2d h)).1];exact ajn (a2d h) _
def atp (h:au n l = 0):∀ x ∈ ou n l,sub x (a6 n):=fun x hx=>by
 have hp:∀ x ∈ xe n l,sub x (a6 n):=fun x hx=>by
  unfold xe at hx;obtain ⟨f,hf,rfl⟩:=boo.1 hx;unfold ic at hf;rw [a1h h] at hf;obtain ⟨h1,h2⟩:=be6 (bal h) (b3p h) f hf;exact sc h1 h2
 unfold ou at hx;split at hx
 · exact hp x hx
 rcases boj.1 hx with hx | hx
 · exact hp x hx
 rw [bom] at hx;subst hx;exact (of_decide_eq_true (ai1 h)).2.1
def apy (h:au n l = 0):∃ x ∈ ou n l,f5 n l x = true:=by
 unfold ou;split
 · rename_i hs
   unfold od at hs;rw [bog] at hs;obtain ⟨f,hf,hk⟩:=bp4.1 hs;exact ⟨pt f,boo.2 ⟨f,hf,rfl⟩,hk⟩
 exact ⟨_,boj.2 (.inr (bom.2 rfl)),ai1 h⟩
def aoa (h:au n l = 0):∃ x ∈ oz n l,f5 n l x = true:=by
 obtain ⟨x,hx,hk⟩:=apy h;obtain ⟨y,hy,hs⟩:=n5 hx;rw [a3v h];refine ⟨y,hy, ?_⟩;have hyf:=atp h y (uz.1 hy).1;refine decide_eq_true ⟨h,hyf,br (ut h hyf) ?_⟩;rw [<- (of_decide_eq_true hk).2.2];exact jv hs
def ahn {k:List Fd} {s:AS} {f:Fd} (hf:f ∈ k) (hs:f.lhs = s):sub f.rhs (mgR k s):=by
 have:∀ (q:List Fd) (a:AS),(sub f.rhs a \/ f ∈ q) -> sub f.rhs (q.foldl (fun a f=>a ||| f.rhs) a):=by
  intro q
  induction q with
  | nil => intro a h; rcases h with h | h; · exact h
           cases h
  | cons g q ih =>
   intro a h;refine ih _ ?_
   rcases h with h | h
   · exact .inl (ak h o5)
   rcases bok.1 h with rfl | h
   · exact .inl pn
   exact .inr h
 unfold mgR;exact this _ 0 (.inr (bpq.2 ⟨hf,decide_eq_true hs⟩))
def b4y (h:au n l = 0) {f:Fd} (hf:f ∈ nn l):∃ x ∈ ou n l,sub f.rhs x:=by
 have hm:mgF (tc n l) f.lhs ∈ ic n l:=by
  unfold ic a1q;rw [a1h h];exact boo.2 ⟨f.lhs,gn.2 (boo.2 ⟨f,hf,rfl⟩),rfl⟩
 refine ⟨pt (mgF (tc n l) f.lhs), ?_, ?_⟩
 · have:pt (mgF (tc n l) f.lhs) ∈ xe n l:=boo.2 ⟨_,hm,rfl⟩
   unfold ou;split
   · exact this
   exact boj.2 (.inl this)
 unfold pt mgF;refine ak (ahn (k:=tc n l) (by rw [a1h h];exact hf) rfl) pn
def a85 {L:List AS} {t:AS} (h:∀ x ∈ L,sub x t):sub (orL L) t:=ae.2 fun i hi hb=>by
 unfold orL at hb;rw [a0r,bph] at hb
 rcases hb with hb | hb
 · simp at hb
 obtain ⟨x,hx,hxb⟩:=bp4.1 hb;exact ae.1 (h x hx) i hi hxb
def anl (h:au n l = 0):orL (oz n l) = a6 n:=by
 rw [a3v h];refine br (a85 fun x hx=>atp h x (uz.1 hx).1) ?_
 have hup:∀ x ∈ ou n l,sub x (orL (auv n l)):=fun x hx=>by
  obtain ⟨y,hy,hs⟩:=n5 hx;exact ak hs (sq hy)
 obtain ⟨k,hk,hkk⟩:=apy h;have hc:clo l k = a6 n:=(of_decide_eq_true hkk).2.2;rw [<- hc,<- sh];refine ku (fun f hf _=>?_) (hup k hk);obtain ⟨x,hx,hs⟩:=b4y h hf;exact ak hs (hup x hx)
end
end
section
def po (E:Int -> Int -> Prop) (R:Rw -> Prop) (s:AS):Prop:=∃ r,R r /\ ∀ i:Nat,i < r.length -> bw s (i:Int) = true -> E (r.getD i default) (i:Int)
section
variable {N:Nat} {p m:List Fd} {E:Int -> Int -> Prop} {R:Rw -> Prop}
def v7 {s t:AS} (h:sub s t) {i:Nat} (hi:bw s (i:Int) = true):bw t (i:Int) = true:=by
 by_cases hl:i < 32
 · rw [cb hl] at hi ⊢
   exact ae.1 h i hl hi
 rw [zb bsq] at hi;cases hi
def b37 (h:Mdl N p m E R) {a b:Rw} (ha:R a) (hb:R b) {f:Fd} (hf:f ∈ p) {s:AS} (hs:AgE E a b s):AgE E a b (fl s f):=by
 unfold fl;split
 · rename_i hl
   have h2:=h.fd hf ha hb fun i hi hh=>hs i hi (v7 hl hh);intro i hi hh;rw [xc,bph] at hh
   rcases hh with hh | hh
   · exact hs i hi hh
   exact h2 i hi hh
 exact hs
def aik (h:Mdl N p m E R) {a b:Rw} (ha:R a) (hb:R b):∀ {q:List Fd} {s:AS},(∀ f,f ∈ q -> f ∈ p) -> AgE E a b s -> AgE E a b (du q s)
 | [],s,_,hs=>hs
 | f :: q,s,hq,hs=>aik h ha hb (q:=q) (s:=fl s f) (fun g hg=>hq g (by simp [hg])) (b37 h ha hb (hq f bst) hs)
def at9 (h:Mdl N p m E R) {a b:Rw} (ha:R a) (hb:R b):∀ {k:Nat} {s:AS},AgE E a b s -> AgE E a b (clF p k s)
 | 0,s,hs=>hs
 | k + 1,s,hs=>by
  unfold clF;split
  · exact hs
  exact at9 h ha hb (aik h ha hb (fun _ hf=>hf) hs)
def ba7 (h:Mdl N p m E R) {a b:Rw} (ha:R a) (hb:R b) {s:AS} (hs:AgE E a b s):AgE E a b (clo p s):=at9 h ha hb hs
def po.mono {s t:AS} (h:po E R t) (hs:sub s t):po E R s:=by
 obtain ⟨r,h1,h2⟩:=h;exact ⟨r,h1,fun i hi hh=>h2 i hi (v7 hs hh)⟩
def akz (h:Mdl N p m E R) {r:Rw} (hr:R r) {z q c:AS} (hz:∀ i:Nat,i < r.length -> bw z (i:Int) = true -> E (r.getD i default) (i:Int)) (hq:po E R q) (hc1:sub c (clo p (z &&& q))) (hc2:sub c q) :
 ∀ i:Nat,i < r.length -> bw (z ||| c) (i:Int) = true -> E (r.getD i default) (i:Int):=by
 obtain ⟨b,hb,hbq⟩:=hq;have hl:r.length = b.length:=(h.len hr).trans (h.len hb).symm;have hag:AgE E r b (z &&& q):=fun i hi hh=>h.trans (hz i hi (v7 d6 hh)) (h.symm (hbq i bsq (v7 lu hh)));have hcl:=ba7 h hr hb hag;intro i hi hh;rw [xc,bph] at hh
 rcases hh with hh | hh
 · exact hz i hi hh
 exact h.trans (hcl i hi (v7 hc1 hh)) (hbq i bsq (v7 hc2 hh))
def b13 (h:Mdl N p m E R) {s:AS} (hv:cr p s = true) (h1:po E R (spA p s)) (h2:po E R (spB p s)):po E R s:=by
 obtain ⟨x,hx,hxs,hvx⟩:=a92 hv;have e:jy p s = apn p s x:=by unfold jy;rw [hx]
 have ea:spA p s = x ||| ((clo p x &&& s) &&& ~~~x):=by unfold spA;rw [e];rfl
 have eb:spB p s = s &&& ~~~((clo p x &&& s) &&& ~~~x):=by unfold spB;rw [e];rfl
 obtain ⟨r,hr,hrz⟩:=h2;rw [eb] at hrz;refine ⟨r,hr,fun i hi hh=>?_⟩;have:=akz h hr hrz h1 (c:=(clo p x &&& s) &&& ~~~x) ?_ ?_ i hi ?_
 · exact this
 · refine ak d6 (ak d6 (jv ?_))
   rw [ea]
   exact gr (gr hxs (ae.2 fun i hi hb=>by
    rw [bp7,boh,bp7,hb]
    simp [hi])) o5
 · rw [ea];exact pn
 rw [xc,bph];by_cases hb:bw ((clo p x &&& s) &&& ~~~x) (i:Int) = true
 · exact .inr hb
 left
 have hl:i < 32:=by
  apply Classical.byContradiction;intro hn;rw [zb bsq] at hh;cases hh
 rw [cb hl] at hb hh ⊢;rw [boh,bp7,hh,bol.2 hb];simp [hl]
def bbq (h:Mdl N p m E R):∀ (f:Nat) (todo out:List AS),f7 todo < f -> (∀ q,q ∈ wz p f todo out -> po E R q) -> (∀ q,q ∈ out -> po E R q) /\ ∀ s,s ∈ todo -> po E R s:=by
 intro f
 induction f with
 | zero=>intro _ _ h _;exact absurd h (bod _)
 | succ f ih =>
  intro todo out hm hq;unfold wz at hq;by_cases h0:todo.length = 0
  · rw [if_pos h0] at hq
    have:todo = []:=brl.1 h0;subst this;exact ⟨hq,fun s hs=>by simp at hs⟩
  rw [if_neg h0] at hq;have hlast:=pi (todo:=todo) bsq;have hms:=jl (todo.take (todo.length - 1)) [todo.getD (todo.length - 1) default];rw [<- hlast] at hms;have hone:f7 [todo.getD (todo.length - 1) default] = 3 ^ bsz (todo.getD (todo.length - 1) default):=by unfold f7;simp
  have hp1:0 < 3 ^ bsz (todo.getD (todo.length - 1) default):=bqv bsu;by_cases hv:cr p (todo.getD (todo.length - 1) default) = true
  · rw [if_pos hv] at hq
    obtain ⟨s1,s2,s3,s4⟩:=a6n hv;have b1:=j0 s1 s2;have b2:=j0 s3 s4
    have hm2:f7 (todo.take (todo.length - 1) ++ [spA p (todo.getD (todo.length - 1) default),spB p (todo.getD (todo.length - 1) default)]) < f:=by
     rw [jl];have e2:f7 [spA p (todo.getD (todo.length - 1) default),spB p (todo.getD (todo.length - 1) default)] = 3 ^ bsz (spA p (todo.getD (todo.length - 1) default)) + 3 ^ bsz (spB p (todo.getD (todo.length - 1) default)):=by unfold f7;simp
     obtain ⟨k,hk⟩:∃ k,bsz (todo.getD (todo.length - 1) default) = k + 1:=⟨bsz (todo.getD (todo.length - 1) default) - 1,by omega⟩;have p1:3 ^ bsz (spA p (todo.getD (todo.length - 1) default)) <= 3 ^ k:=bpm bsu bsq;have p2:3 ^ bsz (spB p (todo.getD (todo.length - 1) default)) <= 3 ^ k:=bpm bsu bsq;have p3:(3:Nat) ^ (k + 1) = 3 ^ k * 3:=bs6 ..;have p4:0 < 3 ^ k:=bqv bsu;rw [hk] at hone;omega
    obtain ⟨i1,i2⟩:=ih _ _ hm2 hq;refine ⟨i1,fun s hs=>?_⟩;rw [hlast] at hs
    rcases boj.1 hs with hs | hs
    · exact i2 s (boq _ hs)
    rw [bom.1 hs];exact b13 h hv (i2 _ (bos _ bst)) (i2 _ (bos _ bst))
  rw [if_neg hv] at hq;obtain ⟨i1,i2⟩:=ih _ _ bsq hq;refine ⟨fun q hq=>i1 q (boq _ hq),fun s hs=>?_⟩;rw [hlast] at hs
  rcases boj.1 hs with hs | hs
  · exact i2 s hs
  rw [bom.1 hs];exact i1 _ (bos _ bst)
end
section
variable {n:Int} {p m:List Fd} {ps:List AS}
section
variable {E:Int -> Int -> Prop} {R:Rw -> Prop}
def a7t (h0:0 <= n) (h:Mdl n.toNat p m E R) (hl:∀ r,r ∈ bj n ps -> R r) {q:AS} (hq:q ∈ ps):po E R q:=by
 obtain ⟨i,hi,e⟩:=ze hq;refine ⟨stR n i q,hl _ ?_,fun c hc hh=>?_⟩
 · unfold bj
   exact boo.2 ⟨i,bor.2 hi,by rw [e]⟩
 rw [a9n] at hc;rw [adi hc];unfold stV;rw [if_pos hh];exact h.refl _
def b2i {c:Nat} (hc:c < n.toNat):(cg n).getD c default = (c:Int):=by
 unfold cg;rw [bo7,boy,bpu hc];rfl
def aod {i:Nat} (h16:n <= 16) (hi:i < n.toNat):bw (a6 n) (i:Int) = true:=by
 rw [cb bsq];unfold a6;rw [bq4 bsq,ly _ _ bsq];exact decide_eq_true hi
def a7i (h16:n <= 16) (h:Mdl n.toNat p m E R) (hf:po E R (a6 n)):R (cg n):=by
 obtain ⟨r,hr,hh⟩:=hf;have hl:=h.len hr;refine h.cong hr (by rw [a58,hl]) fun i hi=>?_;rw [b2i bsq];exact hh i hi (aod h16 bsq)
def ann (h0:0 <= n) (h8:fc n p 8 = 0):LR n.toNat p m (bj n (xu n p)) (cg n):=fun E R hm hl=>by
 obtain ⟨hv,hn8⟩:=sy h8;refine a7i bsq hm ?_;have hz:=(ad3 h8).2.1;refine (bbq hm 6562 [a6 n] [] hz fun q hq=>?_).2 _ bst;rw [apg h8] at hl;obtain ⟨y,hy,hqy⟩:=n5 (show q ∈ a57 n p from hq);exact (a7t h0 hm hl hy).mono hqy
def aq1 (hm:Mdl n.toNat p m E R) (hq:∀ q,q ∈ ps -> po E R q) {r:Rw} (hr:R r):∀ (f:Nat) {z:AS},(∀ i:Nat,i < r.length -> bw z (i:Int) = true -> E (r.getD i default) (i:Int)) -> ∀ i:Nat,i < r.length -> bw (w5 p ps f z) (i:Int) = true -> E (r.getD i default) (i:Int)
 | 0,z,hz=>hz
 | f + 1,z,hz=>by
  unfold w5;split
  · exact hz
  rename_i q hqf;refine aq1 hm hq hr f (akz hm hr hz (hq q (bry hqf)) (c:=oj p q z) ?_ ?_)
  · exact ak d6 lu
  exact ak d6 d6
def zp (h0:0 <= n) (h16:n <= 16) {k:AS} (hk:k ∈ ps) (hkey:clo p k = a6 n) (hpr:ij p ps = true):LR n.toNat p m (bj n ps) (cg n):=fun E R hm hl=>by
 have hq:∀ q,q ∈ ps -> po E R q:=fun q hq=>a7t h0 hm hl hq;obtain ⟨r,hr,hrk⟩:=hq k hk;refine a7i h16 hm ⟨r,hr,fun i hi hh=>?_⟩;have h1:sub (clo p k) (o0 p ps k):=al7 (abs.1 hpr) k;rw [hkey] at h1;exact aq1 hm hq hr 4294967297 hrk i hi (v7 h1 hh)
end
end
end
section
def b0w {n:Int} (h:n <= 32) {a:Nat} (ha:a < 32):(a6 n).getLsbD a = decide (a < n.toNat):=by
 unfold a6;rw [ly _ a ha,bq4 bsq]
def aij {p x:AS} (h:x ∈ av p):sub x p:=by
 unfold av at h;split at h
 · cases h
 exact rt.1 h
section
variable {l:List Fd}
def af7 {p:AS} (h:∀ x,sub x p -> ll l p x = false):cr l p = false:=by
 have e:a1x l p = none:=by
  unfold a1x;rw [br2];intro x hx;rw [h x (aij hx)];decide
 unfold cr;rw [e];rfl
def aq5 {p x:AS}:ll l p x = true <-> clo l x &&& p ≠ x /\ clo l x &&& p ≠ p:=by
 unfold ll;rw [boc,decide_eq_true_iff,decide_eq_true_iff]
def apk {n:Int} (h:fc n l 8 = 0) {s:AS} (h1:sub s (a6 n)) (h2:cr l s = false):s ∈ gj n l:=by
 rw [anv h,bpq];refine ⟨?_,by rw [h2];rfl⟩;have:=y7 (n:=n) (m:=8) (sy h).2 bsq;rw [a9v bsq];exact rt.2 h1
def b4j {n:Int} {k:AS} (hn:n <= 32) (h:a5g n l k = true):cr l k = false:=by
 unfold a5g at h;rw [boc,bp1] at h;obtain ⟨h1,h2⟩:=h;obtain ⟨hv,hs,hc⟩:=of_decide_eq_true h1;refine af7 fun x hx=>?_
 cases hq:ll l k x with
 | false=>rfl
 | true =>
  exfalso;obtain ⟨g1,_⟩:=aq5.1 hq;apply g1;refine br (ae.2 fun a ha hb=>?_) (gr j9 hx);rw [boh,boc] at hb
  cases hxa:x.getLsbD a with
  | true=>rfl
  | false =>
   exfalso
   have ha2:a < n.toNat:=by
    have:=ae.1 hs a ha hb.2;rw [b0w hn ha] at this;exact of_decide_eq_true this
   have hno:sub x (noA k a):=ae.2 fun i hi hbi=>by
    unfold noA;have h1:((1:AS) <<< a).getLsbD i = decide (i = a):=ey a i hi;rw [boh,bp7,ae.1 hx i hi hbi,h1,decide_eq_true hi];by_cases hia:i = a
    · subst hia;rw [hxa] at hbi;cases hbi
    rw [decide_eq_false hia];rfl
   have hk:sub k (clo l (noA k a)):=ae.2 fun i hi hbi=>by
    by_cases hia:i = a
    · subst hia
      exact ae.1 (jv hno) i hi hb.1
    refine ae.1 j9 i hi ?_;unfold noA;have h1:((1:AS) <<< a).getLsbD i = decide (i = a):=ey a i hi;rw [boh,bp7,hbi,h1,decide_eq_true hi,decide_eq_false hia];rfl
   have hns:sub (noA k a) (a6 n):=ak d6 hs
   have hcl:clo l (noA k a) = a6 n:=br (ut hv hns) (by
    rw [<- hc]
    exact ku gu hk)
   have:=h2 a (bor.2 ha2);rw [hb.2,show f5 n l (noA k a) = true from decide_eq_true ⟨hv,hns,hcl⟩] at this;cases this
def b97 {y:AS} {i:Nat} (h:sub y ((1:AS) <<< i)):y = 0 \/ y = (1:AS) <<< i:=by
 by_cases h0:y = 0
 · exact .inl h0
 refine .inr (br h (ae.2 fun a ha hb=>?_));have h1:((1:AS) <<< i).getLsbD a = decide (a = i):=ey i a ha;rw [h1] at hb;have hai:=of_decide_eq_true hb;subst hai
 cases hy:y.getLsbD a with
 | true=>rfl
 | false =>
  exfalso;apply h0;apply bpx;intro j hj
  cases hyj:y.getLsbD j with
  | false=>simp
  | true =>
   have:=ae.1 h j hj hyj;have h2:((1:AS) <<< a).getLsbD j = decide (j = a):=ey a j hj;rw [h2] at this;have:=of_decide_eq_true this;subst this;rw [hy] at hyj;cases hyj
def b3u {i:Nat}:cr l ((1:AS) <<< i) = false:=by
 refine af7 fun x hx=>?_
 cases hq:ll l ((1:AS) <<< i) x with
 | false=>rfl
 | true =>
  exfalso;obtain ⟨g1,g2⟩:=aq5.1 hq
  rcases b97 (y:=clo l x &&& ((1:AS) <<< i)) lu with e | e
  · have hx0:sub x 0:=by rw [<- e];exact gr j9 hx
    exact g1 (br (by rw [e];exact ae.2 fun a ha hb=>by simp at hb) (by rw [e];exact hx0))
  exact g2 e
end
end
section
def lvE (n:Int) (ps:List AS):Int:=if n < 0 \/ 8 < n then 7 else if 64 < ps.length then 3 else if ps.length = 0 \/ ¬ orL ps = a6 n then 1 else 0
section
variable {n:Int} {ps:List AS} {p m:List Fd}
def akj (h:n < 0 \/ 8 < n):lvE n ps = 7:=if_pos h
def b7m (h:¬ (n < 0 \/ 8 < n)) (h2:64 < ps.length):lvE n ps = 3:=by unfold lvE;rw [if_neg h,if_pos h2]
def akc (h:¬ (n < 0 \/ 8 < n)) (h2:¬ 64 < ps.length) (h3:ps.length = 0 \/ ¬ orL ps = a6 n):lvE n ps = 1:=by unfold lvE;rw [if_neg h,if_neg h2,if_pos h3]
def avc (h:¬ (n < 0 \/ 8 < n)) (h2:¬ 64 < ps.length) (h3:¬ (ps.length = 0 \/ ¬ orL ps = a6 n)):lvE n ps = 0:=by unfold lvE;rw [if_neg h,if_neg h2,if_neg h3]
def nj (h:lvE n ps = 0):0 <= n /\ n <= 8 /\ ps.length <= 64 /\ 0 < ps.length /\ orL ps = a6 n:=by
 unfold lvE at h;split at h
 · exact absurd h bsu
 split at h
 · exact absurd h bsu
 split at h
 · exact absurd h bsu
 rename_i h1 h2 h3;refine ⟨by omega,by omega,by omega,by omega, ?_⟩;apply Classical.byContradiction;intro e;exact h3 (.inr e)
def lsT (n:Int) (ps:List AS) (p m:List Fd):List St × (Int × List Rw) × Int:=ni FU n (b5 (bj n ps)) p m
def lsC (n:Int) (ps:List AS) (p m:List Fd):Int:=if lvE n ps = 0 then (if be n p m = 0 then (lsT n ps p m).2.2 else be n p m) else lvE n ps
def lsB (n:Int) (ps:List AS) (p m:List Fd):Bool:=decide (lsC n ps p m = 0) && (lsT n ps p m).2.1.2.any fun r=>decide (r = cg n)
def a56 (h:lvE n ps = 0) (h2:be n p m = 0):lsC n ps p m = (lsT n ps p m).2.2:=(if_pos h).trans (if_pos h2)
def lh (h:lsC n ps p m = 0):lvE n ps = 0 /\ be n p m = 0:=by
 unfold lsC at h;split at h
 · rename_i e
   split at h
   · rename_i e2;exact ⟨e,e2⟩
   rename_i e2;exact absurd h e2
 rename_i e;exact absurd h e
def a7a (h:lvE n ps = 0) {q:AS} (hq:q ∈ ps):sub q (a6 n):=by
 rw [<- (nj h).2.2.2.2];exact sq hq
def an0 (h:lvE n ps = 0):ig n ps = (n,b5 (bj n ps),0):=by
 obtain ⟨h0,h8,h64,_⟩:=nj h;exact ad4 bsq bsq fun j hj=>(a5r h0 bsq).1 (a7a h (dj hj))
def baa (h:lvE n ps = 0) (hb:be n p [] = 0):lsC n ps p [] = 0 /\ (lsB n ps p [] = true <-> LR n.toNat p [] (bj n ps) (cg n)):=by
 obtain ⟨h0,h8,h64,_⟩:=nj h
 rcases a8i (m:=[]) h64 hb with ⟨_,e⟩ | ⟨sts,lend,e,h1,_⟩
 · exact absurd rfl e
 have ec:lsC n ps p [] = 0:=by rw [a56 h hb];unfold lsT;rw [e]
 refine ⟨ec, ?_⟩;unfold lsB lsT;rw [ec,e,decide_eq_true rfl,bq1];show (lend.any fun r=>decide (r = cg n)) = true <-> _;rw [yt,decide_eq_true_iff,h1]
def b4q (h:au n p = 0):be n p [] = 0:=(aeu (m:=[]) h bst fun j hj=>absurd hj (bod j)).symm
def b3w (h0:0 <= n) (h6:n <= 6) (hd:ps.Nodup) (hs:∀ q,q ∈ ps -> sub q (a6 n)):ps.length <= 64:=by
 have hlt:∀ q,q ∈ ps -> q.toNat < 64:=fun q hq=>by
  have h1:=a8g (hs q hq);have h2:∀ k,k <= 6 -> (ky k).toNat < 64:=by decide +kernel
  have h3:=h2 (min n.toNat 32) bsq;have h4:(a6 n).toNat < 64:=h3;omega
 have hn:(ps.map BitVec.toNat).Nodup:=by
  refine List.Pairwise.map BitVec.toNat (fun a b hab e=>?_) hd;exact hab (bp8 e)
 have:=hn.length_le_of_subset (l₂:=List.range 64) fun x hx=>by
  obtain ⟨q,hq,rfl⟩:=boo.1 hx;exact bor.2 (hlt q hq)
 simpa using this
def akt (h0:0 <= n) (h6:n <= 6) (hd:ps.Nodup) (hs:∀ q,q ∈ ps -> sub q (a6 n)) (hne:0 < ps.length) (ho:sub (a6 n) (orL ps)):lvE n ps = 0:=by
 have h1:=b3w h0 h6 hd hs;have h2:orL ps = a6 n:=br (a85 hs) ho
 exact avc bsq bsq fun e=>by
  rcases e with e | e
  · omega
  exact e h2
def axl {t:AS}:∀ (f:Nat) (todo out:List AS),f7 todo < f -> (∀ q,q ∈ wz p f todo out -> sub q t) -> (∀ q,q ∈ out -> sub q t) /\ ∀ s,s ∈ todo -> sub s t:=by
 intro f
 induction f with
 | zero=>intro _ _ h _;exact absurd h (bod _)
 | succ f ih =>
  intro todo out hm hq;unfold wz at hq;by_cases h0:todo.length = 0
  · rw [if_pos h0] at hq
    have:todo = []:=brl.1 h0;subst this;exact ⟨hq,fun s hs=>by simp at hs⟩
  rw [if_neg h0] at hq;have hlast:=pi (todo:=todo) bsq;have hms:=jl (todo.take (todo.length - 1)) [todo.getD (todo.length - 1) default];rw [<- hlast] at hms;have hone:f7 [todo.getD (todo.length - 1) default] = 3 ^ bsz (todo.getD (todo.length - 1) default):=by unfold f7;simp
  have hp1:0 < 3 ^ bsz (todo.getD (todo.length - 1) default):=bqv bsu;by_cases hv:cr p (todo.getD (todo.length - 1) default) = true
  · rw [if_pos hv] at hq
    obtain ⟨s1,s2,s3,s4⟩:=a6n hv;have b1:=j0 s1 s2;have b2:=j0 s3 s4
    have hm2:f7 (todo.take (todo.length - 1) ++ [spA p (todo.getD (todo.length - 1) default),spB p (todo.getD (todo.length - 1) default)]) < f:=by
     rw [jl];have e2:f7 [spA p (todo.getD (todo.length - 1) default),spB p (todo.getD (todo.length - 1) default)] = 3 ^ bsz (spA p (todo.getD (todo.length - 1) default)) + 3 ^ bsz (spB p (todo.getD (todo.length - 1) default)):=by unfold f7;simp
     obtain ⟨k,hk⟩:∃ k,bsz (todo.getD (todo.length - 1) default) = k + 1:=⟨bsz (todo.getD (todo.length - 1) default) - 1,by omega⟩;have p1:3 ^ bsz (spA p (todo.getD (todo.length - 1) default)) <= 3 ^ k:=bpm bsu bsq;have p2:3 ^ bsz (spB p (todo.getD (todo.length - 1) default)) <= 3 ^ k:=bpm bsu bsq;have p3:(3:Nat) ^ (k + 1) = 3 ^ k * 3:=bs6 ..;have p4:0 < 3 ^ k:=bqv bsu;rw [hk] at hone;omega
    obtain ⟨i1,i2⟩:=ih _ _ hm2 hq;refine ⟨i1,fun s hs=>?_⟩;rw [hlast] at hs
    rcases boj.1 hs with hs | hs
    · exact i2 s (boq _ hs)
    rw [bom.1 hs];have c1:=i2 _ (bos _ (show spA p (todo.getD (todo.length - 1) default) ∈ _ by simp));have c2:=i2 _ (bos _ (show spB p (todo.getD (todo.length - 1) default) ∈ _ by simp));refine ae.2 fun i hi hb=>?_
    cases hr:(jy p (todo.getD (todo.length - 1) default)).rhs.getLsbD i with
    | true=>exact ae.1 c1 i hi (by unfold spA;rw [bpj,hr,bsp])
    | false=>exact ae.1 c2 i hi (by unfold spB;rw [boh,bp7,hb,hr];simp [hi])
  rw [if_neg hv] at hq;obtain ⟨i1,i2⟩:=ih _ _ bsq hq;refine ⟨fun q hq=>i1 q (boq _ hq),fun s hs=>?_⟩;rw [hlast] at hs
  rcases boj.1 hs with hs | hs
  · exact i2 s hs
  rw [bom.1 hs];exact i1 _ (bos _ bst)
def b2z {t:AS}:∀ (f:Nat) (todo out:List AS),(∀ s,s ∈ todo -> sub s t) -> (∀ q,q ∈ out -> sub q t /\ cr p q = false) -> f7 todo < f -> (∀ q,q ∈ wz p f todo out -> sub q t /\ cr p q = false) /\ (0 < todo.length + out.length -> 0 < (wz p f todo out).length):=by
 intro f
 induction f with
 | zero=>intro _ _ _ _ h;exact absurd h (bod _)
 | succ f ih =>
  intro todo out ht ho hm;unfold wz;by_cases h0:todo.length = 0
  · rw [if_pos h0]
    exact ⟨ho,by omega⟩
  rw [if_neg h0];have hlast:=pi (todo:=todo) bsq;have hms:=jl (todo.take (todo.length - 1)) [todo.getD (todo.length - 1) default];rw [<- hlast] at hms;have hone:f7 [todo.getD (todo.length - 1) default] = 3 ^ bsz (todo.getD (todo.length - 1) default):=by unfold f7;simp
  have hp1:0 < 3 ^ bsz (todo.getD (todo.length - 1) default):=bqv bsu;have hl:=ht _ (dj (l:=todo) (i:=todo.length - 1) bsq);have htk:∀ s,s ∈ todo.take (todo.length - 1) -> sub s t:=fun s hs=>ht s (bq8 hs);by_cases hv:cr p (todo.getD (todo.length - 1) default) = true
  · rw [if_pos hv]
    obtain ⟨s1,s2,s3,s4⟩:=a6n hv;have b1:=j0 s1 s2;have b2:=j0 s3 s4
    have hm2:f7 (todo.take (todo.length - 1) ++ [spA p (todo.getD (todo.length - 1) default),spB p (todo.getD (todo.length - 1) default)]) < f:=by
     rw [jl];have e2:f7 [spA p (todo.getD (todo.length - 1) default),spB p (todo.getD (todo.length - 1) default)] = 3 ^ bsz (spA p (todo.getD (todo.length - 1) default)) + 3 ^ bsz (spB p (todo.getD (todo.length - 1) default)):=by unfold f7;simp
     obtain ⟨k,hk⟩:∃ k,bsz (todo.getD (todo.length - 1) default) = k + 1:=⟨bsz (todo.getD (todo.length - 1) default) - 1,by omega⟩;have p1:3 ^ bsz (spA p (todo.getD (todo.length - 1) default)) <= 3 ^ k:=bpm bsu bsq;have p2:3 ^ bsz (spB p (todo.getD (todo.length - 1) default)) <= 3 ^ k:=bpm bsu bsq;have p3:(3:Nat) ^ (k + 1) = 3 ^ k * 3:=bs6 ..;have p4:0 < 3 ^ k:=bqv bsu;rw [hk] at hone;omega
    obtain ⟨i1,i2⟩:=ih _ out (fun s hs=>by
     rcases boj.1 hs with hs | hs
     · exact htk s hs
     simp only [bok,List.not_mem_nil,or_false] at hs
     rcases hs with rfl | rfl
     · exact ak s1 hl
     exact ak s3 hl) ho hm2
    exact ⟨i1,fun _=>i2 (by simp only [bob,bov,bps];omega)⟩
  rw [if_neg hv]
  obtain ⟨i1,i2⟩:=ih (todo.take (todo.length - 1)) (out ++ [todo.getD (todo.length - 1) default]) htk (fun q hq=>by
   rcases boj.1 hq with hq | hq
   · exact ho q hq
   rw [bom.1 hq]
   exact ⟨hl,bol.2 hv⟩) bsq
  exact ⟨i1,fun _=>i2 (by simp only [bob,bov,bps];omega)⟩
def b19 (h8:fc n p 8 = 0) (h6:n <= 6):lvE n (xu n p) = 0 /\ ∀ q,q ∈ xu n p -> cr p q = false:=by
 obtain ⟨hv,_⟩:=sy h8;obtain ⟨h0,_,_⟩:=f8 hv;have hz:=(ad3 h8).2.1;obtain ⟨i1,i2⟩:=b2z (p:=p) (t:=a6 n) 6562 [a6 n] [] (fun s hs=>by rw [bom.1 hs];exact df _) (fun q hq=>by simp at hq) hz;have e:xu n p = ef (a57 n p):=apg h8;have hin:∀ q,q ∈ xu n p -> q ∈ a57 n p:=fun q hq=>by rw [e] at hq;exact (uz.1 hq).1
 refine ⟨akt h0 h6 (by rw [e];exact vz _) (fun q hq=>(i1 q (hin q hq)).1) ?_ ?_,fun q hq=>(i1 q (hin q hq)).2⟩
 · have h1:0 < (a57 n p).length:=i2 bst
   obtain ⟨y,hy,_⟩:=n5 (dj h1);rw [e];exact bsk hy
 refine (axl (p:=p) 6562 [a6 n] [] hz fun q hq=>?_).2 _ bst;obtain ⟨y,hy,hqy⟩:=n5 (show q ∈ a57 n p from hq);rw [e];exact ak hqy (sq hy)
def b3i (n:Int) (p:List Fd) (ps:List AS):Bool:=lsB n ps p [] && !ps.any (cr p)
end
end
section
abbrev tbC (a:Int × List Rw):Nat -> PV:=fun j=>[.raw (.int .i64 a.1),rl a.2].getD j .any
def lcR (n:Int) (ps:List AS) (p m:List Fd):(Int × List Rw) × List St × (Int × List Rw) × Int :=
 if lvE n ps = 0 then (if be n p m = 0 then ((n,b5 (bj n ps)),(lsT n ps p m).1,(lsT n ps p m).2.1,(lsT n ps p m).2.2) else ((0,[]),[],(0,[]),be n p m)) else ((0,[]),[],(0,[]),lvE n ps)
section
variable {n:Int} {ps:List AS} {p m:List Fd} {l lend:List Rw}
def bjj (h:¬ lvE n ps = 0):lcR n ps p m = ((0,[]),[],(0,[]),lvE n ps):=if_neg h
def bkm (h:lvE n ps = 0) (h2:¬ be n p m = 0):lcR n ps p m = ((0,[]),[],(0,[]),be n p m):=(if_pos h).trans (if_neg h2)
def av4 (h:lvE n ps = 0) (h2:be n p m = 0):lcR n ps p m = ((n,b5 (bj n ps)),(lsT n ps p m).1,(lsT n ps p m).2.1,(lsT n ps p m).2.2):=(if_pos h).trans (if_pos h2)
def s8:(lcR n ps p m).2.2.2 = lsC n ps p m:=by
 unfold lcR lsC;split
 · split <;> rfl
 rfl
def b1s (h:(lcR n ps p m).2.2.2 = 0):((lcR n ps p m).2.2.1.2.any fun r=>decide (r = cg n)) = lsB n ps p m:=by
 have hc:=h;rw [s8] at hc;obtain ⟨h1,h2⟩:=lh hc;unfold lsB;rw [decide_eq_true hc,bq1,av4 h1 h2]
def b4t (h:¬ (lcR n ps p m).2.2.2 = 0):lsB n ps p m = false:=by
 rw [s8] at h;unfold lsB;rw [decide_eq_false h];rfl
def bhe:(bif decide ((lcR n ps p m).2.2.2 = 0) then ((lcR n ps p m).2.2.1.2.any fun r=>decide (r = cg n)) else false) = lsB n ps p m:=by
 by_cases h:(lcR n ps p m).2.2.2 = 0
 · rw [decide_eq_true h,cond_true,b1s h]
 rw [decide_eq_false h,cond_false,b4t h]
def bmj (h:lcR n ps p m = lcR n ps p m) (h2:(lcR n ps p m).2.2.2 = 0):0 <= n /\ n <= 8:=by
 rw [s8] at h2;obtain ⟨h1,_⟩:=lh h2;exact ⟨(nj h1).1,(nj h1).2.1⟩
def b7s:∀ {sts:List St} {l:List Rw} {i:Nat},TrZ n p m lend l sts -> i <= sts.length -> TrZ n p m lend ((trL n p m l sts).getD i default) (sts.drop i)
 | [],l,0,h,_=>h
 | s :: r,l,0,h,_=>h
 | s :: r,l,i + 1,h,hi=>by
  obtain ⟨_,_,l',e,_,h⟩:=h;unfold trL;rw [e];exact b7s (i:=i) h (by simpa using hi)
def atj:∀ {sts:List St} {l:List Rw} {i:Nat},i < sts.length -> (trL n p m l sts).getD (i + 1) default = (fu n ((trL n p m l sts).getD i default) p m (sts.getD i default)).2.1
 | [],l,i,hi=>by simp at hi
 | s :: r,l,0,_=>by
  unfold trL
  cases r with
  | nil=>rfl
  | cons s2 r2=>rfl
 | s :: r,l,i + 1,hi=>by
  unfold trL;exact atj (sts:=r) (i:=i) (by simpa using hi)
section
variable {sts:List St}
def bbl:(trL n p m l sts).getD 0 default = l:=by cases sts <;> rfl
def qb (n:Int) (p m:List Fd) (l:List Rw) (sts:List St):List (Int × List Rw):=(trL n p m l sts).map fun t=>(n,t)
def abp:(qb n p m l sts).length = sts.length + 1:=by unfold qb;rw [bp2,a4e]
def a3y {i:Nat} (hi:i <= sts.length):(qb n p m l sts).getD i default = (n,(trL n p m l sts).getD i default):=by
 unfold qb;have:i < (trL n p m l sts).length:=by rw [a4e];omega
 rw [bo7,boy,bo6 this,bo7,bo6 this];rfl
def rcR (n:Int) (ps:List AS) (p m:List Fd):List St × List (Int × List Rw) × Int :=
 if lsC n ps p m = 0 then ((lsT n ps p m).1,qb n p m (b5 (bj n ps)) (lsT n ps p m).1,0) else ([],[],lsC n ps p m)
def akl (h:lsC n ps p m = 0):rcR n ps p m = ((lsT n ps p m).1,qb n p m (b5 (bj n ps)) (lsT n ps p m).1,0):=if_pos h
def aeg (h:lvE n ps = 0) (hb:be n p m = 0) (hc:(lsT n ps p m).2.2 = 0):∃ sts lend,lsT n ps p m = (sts,(n,lend),0) /\ TrZ n p m lend (b5 (bj n ps)) sts /\ tok n lend = true /\ ((∃ t,t ∈ trL n p m (b5 (bj n ps)) sts /\ cg n ∈ t) <-> cg n ∈ lend):=by
 rcases a8i (nj h).2.2.1 hb with ⟨e,_⟩ | ⟨sts,lend,e,h1,h2,h3,h4⟩
 · unfold lsT at hc
   rw [e] at hc;exact absurd hc bsu
 exact ⟨sts,lend,e,h2,h3,h4⟩
def aya {p m:List Fd}:∀ (F:Nat) (n:Int) (l:List Rw) (acc:List St),(jj F n l p m acc).1.length <= acc.length + F:=by
 intro F
 induction F with
 | zero=>intro n l acc;unfold jj;simp
 | succ F ih =>
  intro n l acc;unfold jj;split
  · simp
  rename_i s _;split;rename_i n' l' e _;split
  · have:=ih n' l' (acc ++ [s])
    simp only [bob,bpz] at this;omega
  simp
def bbi (h:lvE n ps = 0) (hb:be n p m = 0):(lsT n ps p m).1.length <= FU:=by
 obtain ⟨h0,h8,h64,_⟩:=nj h;have hT:=adj (ps:=ps) h0 bsq h64;have hck:ckE n (b5 (bj n ps)) p m = 0:=(if_pos hT).trans hb;unfold lsT;rw [a5y hck];have:=aya (p:=p) (m:=m) FU n (b5 (bj n ps)) [];simpa using this
def ke (n:Int) (t:List Rw):Bool:=t.any fun r=>decide (r = cg n)
def prX (n:Int) (ps:List AS) (p m:List Fd):Int:=idx (fun a:Int × List Rw=>ke n a.2) (rcR n ps p m).2.1
def prC (n:Int) (ps:List AS) (p m:List Fd):Int:=if (rcR n ps p m).2.2 = 0 then (if prX n ps p m < 0 then 11 else 0) else (rcR n ps p m).2.2
def prS (n:Int) (ps:List AS) (p m:List Fd):List St:=if (rcR n ps p m).2.2 = 0 then (if prX n ps p m < 0 then [] else (rcR n ps p m).1.take (prX n ps p m).toNat) else []
def b4k:(rcR n ps p m).2.2 = lsC n ps p m:=by
 unfold rcR;split
 · rename_i h;exact h.symm
 rfl
def bao (hc:lsC n ps p m = 0):(0 <= prX n ps p m) <-> lsB n ps p m = true:=by
 obtain ⟨h1,h2⟩:=lh hc;have hc2:(lsT n ps p m).2.2 = 0:=(a56 h1 h2).symm.trans hc;obtain ⟨sts,lend,e,_,_,h3⟩:=aeg h1 h2 hc2
 have e1:lsB n ps p m = decide (cg n ∈ lend):=by
  unfold lsB;rw [decide_eq_true hc,bq1,e];exact yt
 have e2:(rcR n ps p m).2.1 = qb n p m (b5 (bj n ps)) sts:=by rw [akl hc,e]
 have e3:(qb n p m (b5 (bj n ps)) sts).any (fun a=>ke n a.2) = decide (0 <= prX n ps p m):=by
  unfold prX;rw [e2];exact yy.symm
 rw [e1,decide_eq_true_iff,<- h3,<- decide_eq_true_iff (p:=0 <= prX n ps p m),<- e3,bp4];unfold qb ke;constructor
 · rintro ⟨x,hx,h⟩
   obtain ⟨t,ht,rfl⟩:=boo.1 hx;exact ⟨t,ht,by rw [yt] at h;exact of_decide_eq_true h⟩
 rintro ⟨t,ht,h⟩;exact ⟨(n,t),boo.2 ⟨t,ht,rfl⟩,by rw [yt];exact decide_eq_true h⟩
end
end
end
section
open Go.Proofs
def bfi {n:Int} {ps:List AS} {p m:List Fd} (h:lvE n ps = 0) (hb:be n p m = 0) (hc:(lsT n ps p m).2.2 = 0):TrZ n p m (lsT n ps p m).2.1.2 (b5 (bj n ps)) (lsT n ps p m).1:=by
 obtain ⟨sts,lend,e,htr,_⟩:=aeg h hb hc;rw [e];exact htr
def b3v {n:Nat} {l:List St} {i:Nat} {cl:Bool} (hn:n = (l.take i).length) {f:Nat -> Nat -> PV} (hf:∀ a j,f a j = lf St.c l a j):CoP (.sl n 4 cl f) (stl (l.take i)):=by
 refine CoP.sl hn.symm (.inl rfl) (fun h=>by cases h) fun a j ha hj=>CoP.of_eq ?_;rw [hf];show St.c (l.getD a default) j = St.c ((l.take i).getD a default) j;have:a < i:=by rw [hn,boi] at ha;omega
 rw [bo7,bo7,bpf,if_pos this]
def atq (n:Int) (ps:List AS) (h:lvE n ps = 0):a7 btb 128 [pI n,pP (asl ps)] (aa [pT n (b5 (bj n ps)),pI 0]):=by
 have:=bej n ps;rw [an0 h] at this;exact this
def b3j (n:Int) (ps:List AS) (h:lvE n ps = 0):a7 btb 130 [pI n,pP (asl ps)] (aa [pT n (b5 (bj n ps)),pI 0]):=by
 have:=bb9 n ps;rw [an0 h] at this;exact this
def bap (n:Int) (ps:List AS) (p m:List Fd):a7 btb 151 [pT n (b5 (bj n ps)),pP (fdl p),pP (fdl m)] (aa [pP (stl (lsT n ps p m).1),pT (lsT n ps p m).2.1.1 (lsT n ps p m).2.1.2,pI (lsT n ps p m).2.2]) :=
 beo FU n (b5 (bj n ps)) p m (fun h=>ayg h) bsu
def bj8 {n:Int} {p m:List Fd} {l lend:List Rw} {sts:List St} {i:Nat} (hi:i < sts.length) (h:TrZ n p m lend l (sts.drop i)):tok n l = true /\ a2z l p m (sts.getD i default) /\ fu n l p m (sts.getD i default) = (n,(fu n l p m (sts.getD i default)).2.1,0):=by
 have e:sts.drop i = sts.getD i default :: sts.drop (i + 1):=by
  rw [brf hi,bo7,bo6 hi];rfl
 rw [e] at h;obtain ⟨h1,h2,l',h3,h4,h5⟩:=h;rw [h3];exact ⟨h1,h2,rfl⟩
end
section
open Go.Proofs
def bga (ps:List AS):a7 btb 112 [pP (asl ps)] (aa [pA (orL ps)]):=by
 refine hpx (nt:=17) Tryz.func112 ?_;refine d5 ?_;refine cq 0 rfl fun hn=>?_;refine w_6 ?_;refine bp (ka 6 (ka 7 kn)) km (fun i=>⟨[(3,some (vA (orL (ps.take i)))),(8,some (vI i))],[]⟩) ps.length ⟨⟨⟨_,rfl,(CoR.refl _)⟩,tt⟩,trivial⟩ ?_;rintro i hi;refine w_5 ?_;refine hcd (fun h0=>?_) (fun h0=>?_)
 · refine a3d ?_;exact lpx (i + 1) ⟨⟨⟨_,rfl,(bz (by rw [bOr,a4u bsq];rfl))⟩,tt⟩,trivial⟩
 obtain rfl:i = ps.length:=by omega
 refine v_6 ?_;exact ⟨cci (by rw [bog]),trivial⟩
def ae3:goodFn btb 52:=wgx Tryz.func52
def bt4 {p:Prop} (h:p:=by (repeat' apply And.intro) <;> first | trivial | exact bo8 rfl | rfl):p:=h
def a9f (n:Int) (ps:List AS):a7 btb 52 [pI n,pP (asl ps)] (aa [pI (lvE n ps)]):=by
 refine hpx (nt:=28) Tryz.func52 ?_;refine dl ?_;refine ai rfl rfl (fun r0=>?_) (fun r0=>?_)
 ·
  have h0:=tz1 r0;(iterate 2 refine k9 (gtf r0) ?_);refine w_8 ?_
  exact hx8 rfl rfl rfl (⟨cci (akj bsq).symm,trivial⟩)
 have h0:=tz2 r0;(iterate 2 refine qy ?_ (hg:=(gff r0)));refine w_3 ?_;refine am _ rfl (fun r1=>?_) (fun r1=>?_)
 · have h1:=tz1 (aq r0 r1);refine v_4 ?_;exact ⟨cci (akj bsq).symm,trivial⟩
 have h1:=tz2 (aq r0 r1);have hz0:0 <= n:=by omega
 have hz1:n <= 16:=by omega
 refine w_7 ?_;refine hcd (fun h2=>?_) (fun h2=>?_)
 · refine v_4 ?_;exact ⟨cci (b7m bsq bsq).symm,trivial⟩
 refine w_6 ?_;refine ai rfl rfl (fun r3=>?_) (fun r3=>?_)
 ·
  have h3:=tz1 r3;(iterate 6 refine k9 (gtf r3) ?_);refine w_9 ?_
  exact hx8 rfl rfl rfl (⟨cci (akc bsq bsq (by first | exact .inl bsq | exact .inr (fun e=>absurd (show asI (orL ps) = IntKind.wrap .u32 (1 * 2 ^ (min n.toNat 32)) - 1 by rw [u6 hz0 hz1,e]) bsr))).symm,trivial⟩)
 have h3:=tz2 r3;refine qy ?_ (hg:=(gff r3));refine qcx (wgx Tryz.func112) (bga ps) ?_ (hg:=(gff r3));(iterate 2 refine qy ?_ (hg:=(gff r3)));refine rq rfl rfl rfl rfl (gff r3) ?_ (hp:=⟨xq hz0 hz1,vg hz0 hz1⟩);refine qy ?_ (hg:=(gff r3));refine w_4 ?_;refine am _ rfl (fun r4=>?_) (fun r4=>?_)
 · have h4:=tz2 (ci (aq r3 r4));refine v_4 ?_;exact ⟨cci (akc bsq bsq (by first | exact .inl bsq | exact .inr (fun e=>absurd (show asI (orL ps) = IntKind.wrap .u32 (1 * 2 ^ (min n.toNat 32)) - 1 by rw [u6 hz0 hz1,e]) bsr))).symm,trivial⟩
 have h4:=tz1 (cj (aq r3 r4));refine w_6 ?_;refine ⟨.inr rfl, ?_⟩
 exact ⟨_,_,_,_,rfl,bt4,rfl,bt4,⟨cci (avc bsq bsq (fun e=>by
  rcases e with e | e
  · omega
  exact e (ck.1 ((by assumption:asI (orL ps) = IntKind.wrap .u32 (1 * 2 ^ (min n.toNat 32)) - 1).trans (u6 hz0 hz1))))).symm,trivial⟩⟩
def ats (n:Int) (ps:List AS) (p m:List Fd):a7 btb 100 [pI n,pP (asl ps),pP (fdl p),pP (fdl m)] (aa [pT (lcR n ps p m).1.1 (lcR n ps p m).1.2,pP (stl (lcR n ps p m).2.1),pT (lcR n ps p m).2.2.1.1 (lcR n ps p m).2.2.1.2,pI (lcR n ps p m).2.2.2]):=by
 refine hpx (nt:=58) Tryz.func100 ?_;refine sx7 ?_;refine m9 0 ?_;refine qy ?_;refine m9 1 ?_;refine w_7 ?_;refine qcx ae3 (a9f n ps) ?_;refine w_7 ?_;refine hcn (fun h0=>?_) (fun h0=>?_)
 · refine d5 ?_;refine hrr ?_;have he:=bjj (p:=p) (m:=m) (by assumption:¬ lvE n ps = 0);exact f9 rfl rfl (by rw [he];exact ⟨CoC.agg ⟨CoP.refl _,bg,trivial⟩,CoC.one (CoP.sl rfl (.inr rfl) (fun _=>rfl) (fun i j hi _=>absurd hi (bod i))),CoC.agg ⟨CoP.refl _,bg,trivial⟩,CoC.refl _,trivial⟩)
 have hv:lvE n ps = 0:=by assumption
 refine w_7 ?_;refine qcx zc (vu n p m) ?_;refine w_7 ?_;refine hcn (fun h1=>?_) (fun h1=>?_)
 · refine d5 ?_;refine hrr ?_;have he:=bkm hv (by assumption:¬ be n p m = 0);exact f9 rfl rfl (by rw [he];exact ⟨CoC.agg ⟨CoP.refl _,bg,trivial⟩,CoC.one (CoP.sl rfl (.inr rfl) (fun _=>rfl) (fun i j hi _=>absurd hi (bod i))),CoC.agg ⟨CoP.refl _,bg,trivial⟩,CoC.refl _,trivial⟩)
 have hb:be n p m = 0:=by assumption
 refine w_5 ?_;refine qcx (wgx Tryz.func128) (atq n ps hv) ?_;refine w_3 ?_;refine m9 2 ?_;refine uk ?_;refine qcx (wgx Tryz.func151) (bap n ps p m) ?_;refine w_4 ?_;refine m9 3 ?_;refine uk ?_;refine hrr ?_;have he:=av4 hv hb;exact f9 rfl rfl (by rw [he];exact CoL.refl _)
def agv:goodFn btb 102:=wgx Tryz.func102
def afp (n:Int) (h0:0 <= n) (h1:n <= 16):a7 btb 102 [pI n] (aa [pZ (cg n)]):=by
 refine hpx (nt:=18) Tryz.func102 ?_;refine w_7 ?_;refine m9 0 ?_;refine d5 ?_;refine bp (ka 3 (ka 8 kn)) km (fun k=>⟨[(9,some (vI k))],[(0,some (.arr true 1 3 n.toNat (lf zC (stT n 0 (ky 32) k))))]⟩) n.toNat ⟨tt,⟨⟨_,rfl,(ank rfl (fun _=>rfl))⟩,trivial⟩⟩ ?_;rintro k hk;refine w_5 ?_;refine hcd (fun h0=>?_) (fun h0=>?_)
 · refine a3d ?_;exact lpx (k + 1) ⟨tt,⟨⟨_,rfl,(be4 (b1f bsq) rfl bsq)⟩,trivial⟩⟩
 refine w_2 ?_;refine b6 3 rfl rfl rfl ?_;refine v_4 ?_;exact ⟨axf h1 bsq,trivial⟩
def bl8 (n:Int) (ps:List AS) (p m:List Fd):a7 btb 45 [pI n,pP (asl ps),pP (fdl p),pP (fdl m)] (aa [pB (lsB n ps p m),pI (lsC n ps p m)]):=by
 refine hpx (nt:=33) Tryz.func45 ?_;refine dl ?_;refine qcx (wgx Tryz.func100) (ats n ps p m) ?_;refine w_5 ?_;refine m9 0 ?_;refine m9 1 ?_;refine d5 ?_;refine ai rfl rfl (fun r0=>?_) (fun r0=>?_)
 ·
  have h0:=tz1 r0;have hz:=bmj (n:=n) (ps:=ps) (p:=p) (m:=m) rfl h0;(iterate 2 refine qy ?_ (hg:=(gtt r0)));refine qcx agv (afp n hz.1 bsq) ?_ (hg:=(gtt r0));refine qcx aaa (akp (lcR n ps p m).2.2.1.1 (lcR n ps p m).2.2.1.2 (cg n)) ?_ (hg:=(gtt r0))
  refine v_6 ?_;exact ⟨ccb (by first | exact bhe | exact b1s (n:=n) (ps:=ps) (p:=p) (m:=m) bsr | exact (b4t (n:=n) (ps:=ps) (p:=p) (m:=m) bsr).symm),cci s8,trivial⟩
 have h0:=tz2 r0;(iterate 4 refine k9 (gft r0) ?_);refine w_6 ?_
 exact hx8 rfl rfl rfl (⟨ccb (by first | exact bhe | exact b1s (n:=n) (ps:=ps) (p:=p) (m:=m) bsr | exact (b4t (n:=n) (ps:=ps) (p:=p) (m:=m) bsr).symm),cci s8,trivial⟩)
def ao6 (n:Int) (ps:List AS):a7 btb 62 [pI n,pP (asl ps)] (aa [pI (lvE n ps)]):=by
 refine hpx (nt:=37) Tryz.func62 ?_;refine d5 ?_;refine ai rfl rfl (fun r0=>?_) (fun r0=>?_)
 ·
  have h0:=tz1 r0;(iterate 2 refine k9 (gtf r0) ?_);refine w_7 ?_
  exact hx8 rfl rfl rfl (⟨cci (akj bsq).symm,trivial⟩)
 have h0:=tz2 r0;(iterate 2 refine qy ?_ (hg:=(gff r0)));refine w_2 ?_;refine am _ rfl (fun r1=>?_) (fun r1=>?_)
 · have h1:=tz1 (aq r0 r1);refine v_4 ?_;exact ⟨cci (akj bsq).symm,trivial⟩
 have h1:=tz2 (aq r0 r1);refine w_8 ?_;refine hcd (fun h2=>?_) (fun h2=>?_)
 · refine v_4 ?_;exact ⟨cci (b7m bsq bsq).symm,trivial⟩
 refine dl ?_;refine bp (ka 0 (ka 1 kn)) km (fun i=>⟨[(5,some (vA (orL (ps.take i)))),(6,some (vI i))],[]⟩) ps.length ⟨⟨⟨_,rfl,(CoR.refl _)⟩,tt⟩,trivial⟩ ?_;rintro i hi;refine w_8 ?_;refine hcd (fun h3=>?_) (fun h3=>?_)
 · refine a3c ?_;exact lpx (i + 1) ⟨⟨⟨_,rfl,(bz (by rw [bOr,a4u bsq];rfl))⟩,tt⟩,trivial⟩
 obtain rfl:i = ps.length:=by omega
 rw [show ps.take ps.length = ps from bog];refine w_8 ?_;refine ai rfl rfl (fun r4=>?_) (fun r4=>?_)
 ·
  have h4:=tz1 r4;(iterate 4 refine k9 (gtf r4) ?_);refine w_7 ?_
  exact hx8 rfl rfl rfl (⟨cci (akc bsq bsq (by first | exact .inl bsq | exact .inr (fun e=>absurd (show asI (orL ps) = asI (a6 n) by rw [e]) bsr))).symm,trivial⟩)
 have h4:=tz2 r4;(iterate 2 refine qy ?_ (hg:=(gff r4)));refine qcx x4 (w4 n) ?_ (hg:=(gff r4));refine qy ?_ (hg:=(gff r4));refine w_2 ?_;refine am _ rfl (fun r5=>?_) (fun r5=>?_)
 · have h5:=tz2 (ci (aq r4 r5));refine v_4 ?_;exact ⟨cci (akc bsq bsq (by first | exact .inl bsq | exact .inr (fun e=>absurd (show asI (orL ps) = asI (a6 n) by rw [e]) bsr))).symm,trivial⟩
 have h5:=tz1 (cj (aq r4 r5));refine w_6 ?_;refine ⟨.inr rfl, ?_⟩
 exact ⟨_,_,_,_,rfl,bt4,rfl,bt4,⟨cci (avc bsq bsq (fun e=>by
  rcases e with e | e
  · omega
  exact e (ck.1 bsr))).symm,trivial⟩⟩
end
section
inductive Lf (l:List Fd):AS -> AS -> Prop
 | leaf {s:AS}:cr l s = false -> Lf l s s
 | left {s q:AS}:cr l s = true -> Lf l (spA l s) q -> Lf l s q
 | right {s q:AS}:cr l s = true -> Lf l (spB l s) q -> Lf l s q
def bij (l:List Fd):Nat -> AS -> List AS
 | 0,s=>[s]
 | k + 1,s=>if cr l s = true then bij l k (spA l s) ++ bij l k (spB l s) else [s]
end
section
open Go.Proofs
def u8A (b:BitVec 8):AS:=b.setWidth 32
abbrev u8C:BitVec 8 -> Nat -> PV:=fun b _=>.raw (.int .u8 (b.toNat:Int))
end
section
structure Rcp where
 n:BitVec 8
 f:List Dp
 m:List Dp
 p:List (BitVec 8)
deriving Inhabited
def Rcp.num (d:Rcp) (k:Nat):Int:=1 + ((d.n.toNat % k:Nat):Int)
abbrev Rcp.pc (d:Rcp):PC:=.agg [.raw (.int .u8 (d.n.toNat:Int)),dpl d.f,dpl d.m,psl 1 u8C d.p]
def u8S (n:Int) (b:BitVec 8):AS:=b.setWidth 32 &&& a6 n
def auo {a b c:Nat}:(bif bif decide ((a:Int) <= 4) then decide ((b:Int) <= 4) else false then decide ((c:Int) <= 3) else false) = decide (a <= 4 /\ b <= 4 /\ c <= 3):=by
 rw [bqf,decide_eq_true_iff];by_cases h1:(a:Int) <= 4
 · by_cases h2:(b:Int) <= 4
   · rw [decide_eq_true h1,decide_eq_true h2,cond_true,cond_true,decide_eq_true_iff];omega
   rw [decide_eq_true h1,decide_eq_false h2,cond_true,cond_false];exact ⟨(fun h=>by cases h),(fun h=>by omega)⟩
 rw [decide_eq_false h1,cond_false,cond_false];exact ⟨(fun h=>by cases h),(fun h=>by omega)⟩
end
section
open Go.Proofs
def bm1 (d:Rcp) (hf:d.f.length <= 16777216) (hm:d.m.length <= 16777216) (hp:d.p.length <= 16777216):a7 btb 29 [d.pc,pI 4] (aa [pI (d.num 4),pP (fdl (d.f.map (Dp.fd (d.num 4)))),pP (fdl (d.m.map (Dp.fd (d.num 4)))),pP (asl (d.p.map (u8S (d.num 4)))),pB (decide (d.f.length <= 4 /\ d.m.length <= 4 /\ d.p.length <= 3))]):=by
 refine hpx (nt:=118) Tryz.func29 ?_;refine sx7 ?_;refine m9 0 ?_;refine a3d ?_;refine qcx x4 (w4 (d.num 4)) ?_;refine i6 ?_;refine ct 11 900 true 2 48 (lf Fd.c []) bsu rfl (CoP.sl rfl (.inr rfl) (fun h=>h) (fun i j hi _=>absurd hi (bod i))) (.inr rfl) rfl ?_;refine bp (ka 2 (ka 9 (ka 10 kn))) (kb 0 km) (fun i=>⟨[(11,some (.v (.one (.ref 900 ((d.f.take i).map (Dp.fd (d.num 4))).length)))),(12,some (vI i))],[(900,some (.arr true 2 48 ((d.f.take i).map (Dp.fd (d.num 4))).length (lf Fd.c ((d.f.take i).map (Dp.fd (d.num 4))))))]⟩) d.f.length kk ?_;rintro i hi;have hlen:((d.f.take i).map (Dp.fd (d.num 4))).length <= i:=by rw [bp2,boi];omega
 refine w_9 ?_;refine hcd (fun h0=>?_) (fun h0=>?_)
 · refine bek ?_;refine m9 1 ?_;refine r9 2 true ?_;refine w_8 ?_;exact lpx (i + 1) ⟨⟨⟨_,rfl,(c8 (wa bsq))⟩,tt⟩,⟨⟨_,rfl,(v6 (wa bsq) (CoP.of_eq (congrArg (fun z=>PV.raw (.int .u32 z)) (a7w _ _))) (CoP.of_eq (congrArg (fun z=>PV.raw (.int .u32 z)) (a7w _ _))))⟩,uu⟩⟩
 obtain rfl:i = d.f.length:=by omega
 refine w_2 ?_;refine b6 11 rfl rfl rfl ?_;refine w_9 ?_;refine ct 13 901 true 2 49 (lf Fd.c []) bsu rfl (CoP.sl rfl (.inr rfl) (fun h=>h) (fun i j hi _=>absurd hi (bod i))) (.inr rfl) rfl ?_;refine bp (ka 2 (ka 9 (ka 10 (ka 11 kn)))) (kb 0 km) (fun i=>⟨[(13,some (.v (.one (.ref 901 ((d.m.take i).map (Dp.fd (d.num 4))).length)))),(14,some (vI i))],[(901,some (.arr true 2 49 ((d.m.take i).map (Dp.fd (d.num 4))).length (lf Fd.c ((d.m.take i).map (Dp.fd (d.num 4))))))]⟩) d.m.length kk ?_;rintro i hi;have hlen:((d.m.take i).map (Dp.fd (d.num 4))).length <= i:=by rw [bp2,boi];omega
 refine w_9 ?_;refine hcd (fun h1=>?_) (fun h1=>?_)
 · refine bek ?_;refine m9 3 ?_;refine r9 4 true ?_;refine w_8 ?_;exact lpx (i + 1) ⟨⟨⟨_,rfl,(c8 (wa bsq))⟩,tt⟩,⟨⟨_,rfl,(v6 (wa bsq) (CoP.of_eq (congrArg (fun z=>PV.raw (.int .u32 z)) (a7w _ _))) (CoP.of_eq (congrArg (fun z=>PV.raw (.int .u32 z)) (a7w _ _))))⟩,uu⟩⟩
 obtain rfl:i = d.m.length:=by omega
 refine w_2 ?_;refine b6 13 rfl rfl rfl ?_;refine w_9 ?_;refine ct 15 902 true 1 46 (lf sC []) bsu rfl (CoP.sl rfl (.inr rfl) (fun h=>h) (fun i j hi _=>absurd hi (bod i))) (.inr rfl) rfl ?_;refine bp (ka 2 (ka 9 (ka 10 (ka 11 (ka 13 kn))))) (kb 0 km) (fun i=>⟨[(15,some (.v (.one (.ref 902 ((d.p.take i).map (u8S (d.num 4))).length)))),(16,some (vI i))],[(902,some (.arr true 1 46 ((d.p.take i).map (u8S (d.num 4))).length (lf sC ((d.p.take i).map (u8S (d.num 4))))))]⟩) d.p.length kk ?_;rintro i hi;have hlen:((d.p.take i).map (u8S (d.num 4))).length <= i:=by rw [bp2,boi];omega
 refine w_9 ?_;refine hcd (fun h2=>?_) (fun h2=>?_)
 · refine kw ?_;refine m9 5 ?_;refine r9 6 true ?_;refine w_7 ?_;exact lpx (i + 1) ⟨⟨⟨_,rfl,(c8 (wa bsq))⟩,tt⟩,⟨⟨_,rfl,(bu (wa bsq) (CoP.of_eq (congrArg (fun z=>PV.raw (.int .u32 z)) (a7w _ _))))⟩,uu⟩⟩
 obtain rfl:i = d.p.length:=by omega
 refine w_2 ?_;refine b6 15 rfl rfl rfl ?_;refine w_9 ?_;refine ai rfl rfl (fun r3=>?_) (fun r3=>?_)
 ·
  have h3:=tz1 r3;(iterate 3 refine qy ?_ (hg:=(gtt r3)));refine w_2 ?_;refine ai rfl rfl (fun r4=>?_) (fun r4=>?_)
  ·
   have h4:=tz1 (bq r3 r4);(iterate 3 refine qy ?_ (hg:=(gtt r4)));refine w_7 ?_
   exact hx8 rfl rfl rfl (⟨CoC.refl _,(by rw [bog];exact CoC.refl _),(by rw [bog];exact CoC.refl _),(by rw [bog];exact CoC.refl _),ccb (by first | (simp only [bp2,bog];exact auo) | exact (decide_eq_false bsq).symm),trivial⟩)
  have h4:=tz2 (bq r3 r4);(iterate 3 refine k9 (gft r4) ?_);refine w_7 ?_
  exact hx8 rfl rfl rfl (⟨CoC.refl _,(by rw [bog];exact CoC.refl _),(by rw [bog];exact CoC.refl _),(by rw [bog];exact CoC.refl _),ccb (by first | (simp only [bp2,bog];exact auo) | exact (decide_eq_false bsq).symm),trivial⟩)
 have h3:=tz2 r3;(iterate 3 refine k9 (gft r3) ?_);refine w_2 ?_;(iterate 3 refine k9 rfl ?_);refine w_7 ?_
 exact hx8 rfl rfl rfl (⟨CoC.refl _,(by rw [bog];exact CoC.refl _),(by rw [bog];exact CoC.refl _),(by rw [bog];exact CoC.refl _),ccb (by first | (simp only [bp2,bog];exact auo) | exact (decide_eq_false bsq).symm),trivial⟩)
end
section
section
variable {a b:Int}
def alm {n:Int} {l:List Rw} {p m:List Fd} {mu:Bool} {i:Int} (h:¬ ckE n l p m = 0):dv n l p m mu i a b = (0,[],ckE n l p m):=if_neg h
def np {n:Int} {l:List Rw} {p m:List Fd} {mu:Bool} {i:Int} (h:ckE n l p m = 0) (h3:jm l p m mu i a b):dv n l p m mu i a b = (0,[],1):=(if_pos h).trans (if_pos h3)
def acq {n:Int} {l:List Rw} {p m:List Fd} {mu:Bool} {i:Int} (h:ckE n l p m = 0) (h3:¬ jm l p m mu i a b):dv n l p m mu i a b = fu n l p m (mu,i.toNat,a.toNat,b.toNat):=(if_pos h).trans (if_neg h3)
def qk (h:(if b < a then b else a) < 0):a < 0 \/ b < 0:=by split at h <;> omega
def qi {k:Int} (h:k <= (if a < b then b else a)):k <= a \/ k <= b:=by split at h <;> omega
def az2 (h:¬ (if b < a then b else a) < 0):0 <= a /\ 0 <= b:=by split at h <;> omega
def b0h {k:Int} (h:¬ k <= (if a < b then b else a)):a < k /\ b < k:=by split at h <;> omega
def stQ (x y:St):Bool:=(x.1 == y.1) && (decide ((x.2.1:Int) = (y.2.1:Int)) && (decide ((x.2.2.1:Int) = (y.2.2.1:Int)) && decide ((x.2.2.2:Int) = (y.2.2.2:Int))))
end
end
end Go.Hx
