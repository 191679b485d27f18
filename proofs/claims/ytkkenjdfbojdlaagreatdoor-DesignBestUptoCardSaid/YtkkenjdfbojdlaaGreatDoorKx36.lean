/- A part of the proof: Bz9 Ls7 Ls8 Ds3 Ds4 Ds5 Ds11 Ds9 W4a W4. -/
import Derived.Test.YtkkenjdfbojdlaaGreatDoorKx35
set_option linter.all false
set_option maxRecDepth 100000
set_option maxHeartbeats 1000000
namespace Go.Hx
section
def aaw (a b:AS):Bool:=o3 b a
def a2c (l:List AS):List AS:=a0x aaw l
def okM (l:List AS) (i k:Nat):Bool:=(List.range k).all fun j=>decide (j = i) || !o3 (l.getD j default) (l.getD i default)
def b1x (l:List AS) (i k:Nat):okM l i (k + 1) = (okM l i k && (decide (k = i) || !o3 (l.getD k default) (l.getD i default))):=by
 unfold okM;rw [bo0,List.all_append];simp
def okM_succ' (l:List AS) (i k:Nat):okM l i (k + 1) = (okM l i k && (decide ((k:Int) = i) || !o3 (l.getD k default) (l.getD i default))):=by
 rw [b1x,decide_eq_decide.2 (show (k:Int) = i <-> k = i by omega)]
section
variable {l:List AS}
def aq3 {i:Nat} (hn:l.Nodup) (hi:i < l.length):okM l i l.length = !sb aaw l (l.getD i default):=by
 rw [bo8];unfold okM sb aaw;rw [bnh,bn8,bo7];constructor
 · intro h b hb hc
   obtain ⟨j,hj,rfl⟩:=bn1 hb;have:=h j (bmq.2 hj);simp only [bml,decide_eq_true_eq,bnz,bn8,bmb,bma hj,bma hi,bn6] at this hc
   rcases this with h1 | h1
   · subst h1;exact hc.1 rfl
   rw [hc.2] at h1;cases h1
 intro h j hj;have hj:=bmq.1 hj;have:=h l[j] (bmz hj);simp only [bmb,bma hj,bma hi,bn6,bnz,decide_eq_true_eq,bn8,bml] at this ⊢;by_cases e:j = i
 · exact .inl e
 right;rw [bmm];intro hs;refine this ⟨fun he=>e ?_,hs⟩;exact ((List.getElem_inj hn).1 he).symm
def qo (l:List AS) (i:Nat):List AS:=((ord l).take i).filter fun x=>!sb aaw (ord l) x
def a84 {i:Nat} (hi:i < (ord l).length) (h:okM (ord l) i (ord l).length = true):qo l (i + 1) = qo l i ++ [(ord l).getD i default]:=by
 rw [aq3 (xb l) hi] at h;unfold qo;rw [am hi,bnc];simp only [bnf,h,if_true,bnw]
def a8v {i:Nat} (hi:i < (ord l).length) (h:okM (ord l) i (ord l).length = false):qo l (i + 1) = qo l i:=by
 rw [aq3 (xb l) hi] at h;unfold qo;rw [am hi,bnc];simp only [bnf,h,bnq,if_false,bnw,bn9]
def ay2 (l:List AS) (i:Nat):(qo l i).length <= i:=by
 unfold qo;exact bmo (bo2 _ _) (by rw [bmk];omega)
def ayn (l:List AS):qo l (ord l).length = a2c l:=by
 unfold qo a2c a0x;rw [bmi]
def ans {z:AS}:z ∈ a2c l <-> z ∈ l /\ ∀ b ∈ l,sub b z -> b = z:=by
 unfold a2c a0x;rw [bog,qn,bn8,bmm];refine and_congr Iff.rfl ?_;unfold sb aaw o3;rw [Ne,bne];constructor
 · intro h b hb hs
   apply Classical.byContradiction;intro hne;exact h ⟨b,qn.2 hb,by rw [bml,decide_eq_true_eq,decide_eq_true_eq];exact ⟨fun e=>hne e.symm,hs⟩⟩
 rintro h ⟨b,hb,hc⟩;rw [bml,decide_eq_true_eq,decide_eq_true_eq] at hc;exact hc.1 (h b (qn.1 hb) hc.2).symm
def b0u (l:List AS):ru (a2c l):=List.Pairwise.filter _ (jj l)
def b0s (l:List AS):(a2c l).length <= l.length:=bmo (bo2 _ _) (jw l)
def yq (rest L x:AS) (T:List AS) (y:AS):Bool:=!decide (y = 0) && (decide (y &&& ~~~rest = 0) && decide ((L &&& ~~~(x ||| y)) ∈ T))
def yL (rest L x:AS) (T:List AS) (k:Nat):List AS:=((List.range k).map (BitVec.ofNat 32)).filter (yq rest L x T)
end
section
variable {rest L x:AS} {T:List AS} {k:Nat}
def av8:yL rest L x T 1 = []:=by
 unfold yL;rw [show List.range 1 = [0] from rfl];simp only [bnx,bpz,bnf,bnw];rw [if_neg];unfold yq;rw [decide_eq_true (show BitVec.ofNat 32 0 = 0 from rfl)];intro h;cases h
def agb (h:yq rest L x T (BitVec.ofNat 32 k) = true):yL rest L x T (k + 1) = yL rest L x T k ++ [BitVec.ofNat 32 k]:=by
 unfold yL;rw [bo0,boh,bnc];simp only [bnx,bpz,bnf,bnw,h,if_true]
def aee (h:yq rest L x T (BitVec.ofNat 32 k) = false):yL rest L x T (k + 1) = yL rest L x T k:=by
 unfold yL;rw [bo0,boh,bnc];simp only [bnx,bpz,bnf,bnw,h,bnq,if_false,bn9]
def azj:(yL rest L x T k).length <= k:=by
 unfold yL;exact bmo (bo2 _ _) (by rw [bms,boq];exact bmd _)
def bdu {z:AS}:z ∈ yL rest L x T (rest.toNat + 1) <-> qB T L x rest z:=by
 unfold yL yq qB;rw [bog,bn2,bml,bml,bn8,decide_eq_false_iff_not,decide_eq_true_eq,decide_eq_true_eq];constructor
 · rintro ⟨_,h1,h2,h3⟩
   exact ⟨h1,h2,h3⟩
 rintro ⟨h1,h2,h3⟩;exact ⟨⟨z.toNat,bmq.2 (by have:=acz h2;omega),by simp⟩,h1,h2,h3⟩
end
def b99 (n:Int) (x:AS):(a7 n &&& ~~~x) &&& x = 0:=jy.2 fun i hi h=>by
 rw [d5 hi,bml] at h;simpa using h.2
def atm (n:Int) (l m:List Fd) (x:AS):a2c (yL (a7 n &&& ~~~x) (orL (chT l m (a7 n &&& ~~~x))) x (chT l m (a7 n &&& ~~~x)) ((a7 n &&& ~~~x).toNat + 1)) = dq n l m x:=by
 obtain ⟨h1,h2⟩:=ame (fs:=l) (ms:=m) (rest:=a7 n &&& ~~~x);refine awd (b0u _) fun z=>?_;rw [ans,awp ald (ag7 (kr l m) (a7 n &&& ~~~x)).1 h1 h2 (b99 n x) z];simp only [bdu]
section
variable {a:Nat}
def b6a {b:AS} (h:bsz b = 1) (ha:b.getLsbD a = true):b = jt a:=by
 rw [tn] at h;have h1:a ∈ aj b:=j8.2 ⟨zk ha,ha⟩
 cases hm:aj b with
 | nil=>rw [hm] at h1;cases h1
 | cons c r =>
  rw [hm] at h h1;have hr:r = []:=List.length_eq_zero_iff.1 (by simpa using h);subst hr;have e:a = c:=by simpa using h1
  subst e;apply ln;intro i hi;rw [gl (zk ha) hi]
  cases hb:b.getLsbD i with
  | true =>
   have:i ∈ aj b:=j8.2 ⟨hi,hb⟩;rw [hm] at this;simpa using this
  | false =>
   symm;rw [decide_eq_false_iff_not];rintro rfl;rw [ha] at hb;cases hb
def b22 (ha:a < 32):bsz (jt a) = 1:=by
 unfold bsz
 have e:(List.range 32).countP (fun i=>(jt a).getLsbD i) = (List.range 32).countP fun i=>decide (i = a):=by
  apply List.countP_congr;intro i hi;rw [bmq] at hi;rw [gl ha hi]
 rw [e]
 have h2:∀ k,(List.range k).countP (fun i=>decide (i = a)) = if a < k then 1 else 0:=by
  intro k
  induction k with
  | zero=>simp
  | succ k ih =>
   rw [bo0,bq8,ih];simp only [boy,List.countP_nil];by_cases h:k = a
   · subst h
     simp
   have hd:¬ decide (k = a) = true:=fun q=>h (of_decide_eq_true q);rw [if_neg hd];by_cases h3:a < k
   · rw [if_pos h3,if_pos (show a < k + 1 by omega)]
   rw [if_neg h3,if_neg (show ¬ a < k + 1 by omega)]
 rw [h2,if_pos ha]
def amq {l:List Fd}:∀ {bs:List AS} {o:AS},(um l o bs).getLsbD a = true <-> o.getLsbD a = true \/ ∃ b ∈ bs,bsz b = 1 /\ l.any (a0f b) = true /\ b.getLsbD a = true
 | [],o=>by simp [um]
 | b :: bs,o=>by
  show (um l (vm l o b) bs).getLsbD a = true <-> _;rw [amq];unfold vm;constructor
  · rintro (h | ⟨c,hc,h⟩)
    · split at h
      · split at h
        · rw [bo4,bnz] at h
          rcases h with h | h
          · exact .inl h
          exact .inr ⟨b,by simp,by assumption,by assumption,h⟩
        exact .inl h
      exact .inl h
    exact .inr ⟨c,by simp [hc],h⟩
  rintro (h | ⟨c,hc,h1,h2,h3⟩)
  · left
    split
    · split
      · rw [bo4,h];rfl
      exact h
    exact h
  rcases bmp.1 hc with rfl | hc
  · left
    rw [if_pos h1,if_pos h2,bo4,h3,Bool.or_true]
  exact .inr ⟨c,hc,h1,h2,h3⟩
def aid {f:Fd} (ha:a < 32):a0f (jt a) f = true <-> f.rhs.getLsbD a = true /\ f.lhs.getLsbD a = false:=by
 unfold a0f;rw [bn8,decide_eq_false_iff_not];constructor
 · intro h
   obtain ⟨i,hi,h1,h2⟩:=a7b h;rw [gl ha hi] at h2;have e:i = a:=by simpa using h2
   subst e;rw [d5 hi,bml] at h1;exact ⟨h1.1,by simpa using h1.2⟩
 rintro ⟨h1,h2⟩ h;have:=jy.1 h a ha (by rw [d5 ha,h1,h2];rfl);rw [gl ha ha] at this;simp at this
def b81 {n:Int} {l m:List Fd} {x:AS} (ha:a < 32):(qc n l m x).getLsbD a = true <-> x.getLsbD a = true \/ ae3 l (blks (kr l m) (a7 n &&& ~~~x)) a:=by
 unfold qc;rw [amq];refine or_congr Iff.rfl ?_;unfold dq ae3;constructor
 · rintro ⟨b,hb,h1,h2,h3⟩
   have e:=b6a h1 h3;subst e;obtain ⟨f,hf,hc⟩:=bne.1 h2;exact ⟨qn.1 hb,f,hf,(aid ha).1 hc⟩
 rintro ⟨h1,f,hf,h2⟩;exact ⟨jt a,qn.2 h1,b22 ha,bne.2 ⟨f,hf,(aid ha).2 h2⟩,by rw [gl ha ha];simp⟩
def b11 {n:Int} {l m:List Fd} {x:AS} (hx:sub x (a7 n)):a7 n &&& ~~~(orL (chT l m (a7 n &&& ~~~x))) = qc n l m x:=by
 obtain ⟨h1,h2⟩:=ame (fs:=l) (ms:=m) (rest:=a7 n &&& ~~~x);have hf:=ald (fs:=l) (ms:=m) (rest:=a7 n &&& ~~~x);obtain ⟨hb,hs⟩:=ag7 (kr l m) (a7 n &&& ~~~x);have hr:=(hf.j.r _ h1).1;obtain ⟨L,q1,q2,q3⟩:=hf.j.top;have eL:orL (chT l m (a7 n &&& ~~~x)) = L:=dt (q2 _ h1) (h2 _ q1);apply ln;intro a ha;rw [d5 ha,bo8,bml,bn8,b81 ha];constructor
 · rintro ⟨p1,p2⟩
   cases hxa:x.getLsbD a with
   | true=>exact .inl rfl
   | false =>
    right;rw [eL] at p2;exact q3 a ha (by rw [d5 ha,p1,hxa];rfl) p2
 rintro (p | p)
 · refine ⟨ar.1 hx a ha p, ?_⟩
   cases hl:(orL (chT l m (a7 n &&& ~~~x))).getLsbD a with
   | false=>rfl
   | true =>
    have:=ar.1 hr a ha hl;rw [d5 ha,p] at this;simp at this
 have p0:=p;obtain ⟨p1,_⟩:=p;have:=ar.1 (hb.sub p1) a ha (by rw [gl ha ha];simp);rw [d5 ha,bml] at this;exact ⟨this.1,b39 hf hb h1 h2 ha p0⟩
end
end
section
section
variable {n:Int} {l:List Fd}
def b33 {ps:List AS} {s:AS} (h:ps.Nodup):(kp n l ps s).Nodup:=by
 unfold kp;split
 · exact h.sublist (List.eraseIdx_sublist _ _)
 exact h
section
variable {p0:List AS}
def abq (h:p0.Nodup):∀ j,(fu n l p0 j).Nodup
 | 0=>h
 | j + 1=>b33 (abq h j)
def b4x {ps:List AS} (h:ps.Nodup) {i:Nat} (hi:i < ps.length):idx (fun x=>decide (x = ps.getD i default)) ps = (i:Int):=by
 refine rg hi (fun j hj=>?_) (decide_eq_true rfl);exact decide_eq_false (ahg h bqi hi bqi)
def a56 (h:p0.Nodup):∀ j,j <= p0.length -> (fu n l p0 j).take (p0.length - j) = p0.take (p0.length - j) /\ p0.length - j <= (fu n l p0 j).length
 | 0,_=>⟨rfl,bmd _⟩
 | j + 1,hj=>by
  obtain ⟨h1,h2⟩:=a56 h j bqi;have hi:p0.length - 1 - j < (fu n l p0 j).length:=by omega
  have he:p0.getD (p0.length - 1 - j) default = (fu n l p0 j).getD (p0.length - 1 - j) default:=by
   have e1:(p0.take (p0.length - j)).getD (p0.length - 1 - j) default = p0.getD (p0.length - 1 - j) default:=by
    rw [bmb,bmy,if_pos bqi,bmb]
   have e2:((fu n l p0 j).take (p0.length - j)).getD (p0.length - 1 - j) default = (fu n l p0 j).getD (p0.length - 1 - j) default:=by
    rw [bmb,bmy,if_pos bqi,bmb]
   rw [<- e1,<- e2,h1]
  have hx:=b4x (abq (n:=n) (l:=l) h j) hi
  have hcut:(fu n l p0 j).take (p0.length - (j + 1)) = p0.take (p0.length - (j + 1)):=by
   have:=congrArg (List.take (p0.length - (j + 1))) h1;rwa [List.take_take,List.take_take,bo5 bqi] at this
  show (kp n l (fu n l p0 j) (p0.getD (p0.length - 1 - j) default)).take _ = _ /\ _ <= (kp n l (fu n l p0 j) (p0.getD (p0.length - 1 - j) default)).length;rw [he];unfold kp;rw [hx,bmn];split
  · refine ⟨?_, ?_⟩
    · rw [<- hcut]
      refine bop fun a=>?_;rw [bmy,bmy];split
      · rw [List.getElem?_eraseIdx,if_pos bqi]
      rfl
    rw [List.length_eraseIdx,if_pos hi];omega
  exact ⟨hcut,by omega⟩
def au4 (h:p0.Nodup) {j:Nat} (hj:j < p0.length):fu n l p0 (j + 1) = if ph n l ((fu n l p0 j).take (p0.length - 1 - j) ++ (fu n l p0 j).drop (p0.length - 1 - j + 1)) = true then (fu n l p0 j).take (p0.length - 1 - j) ++ (fu n l p0 j).drop (p0.length - 1 - j + 1) else fu n l p0 j:=by
 obtain ⟨h1,h2⟩:=a56 (n:=n) (l:=l) h j bqi;have hi:p0.length - 1 - j < (fu n l p0 j).length:=by omega
 have he:p0.getD (p0.length - 1 - j) default = (fu n l p0 j).getD (p0.length - 1 - j) default:=by
  have e1:(p0.take (p0.length - j)).getD (p0.length - 1 - j) default = p0.getD (p0.length - 1 - j) default:=by
   rw [bmb,bmy,if_pos bqi,bmb]
  have e2:((fu n l p0 j).take (p0.length - j)).getD (p0.length - 1 - j) default = (fu n l p0 j).getD (p0.length - 1 - j) default:=by
   rw [bmb,bmy,if_pos bqi,bmb]
  rw [<- e1,<- e2,h1]
 have hx:=b4x (abq (n:=n) (l:=l) h j) hi;show kp n l (fu n l p0 j) (p0.getD (p0.length - 1 - j) default) = _;rw [he];unfold kp;rw [hx,bmn,List.eraseIdx_eq_take_drop_succ]
end
end
end
section
def bky (l:List Fd) (p:AS) (k:Nat):List Fd:=(((List.range k).map (BitVec.ofNat 32)).filter fun s=>decide (sub s p)).map fun s=>⟨s,clo l s &&& p⟩
def bm0 (l:List Fd) (ps:List AS) (i:Nat):List Fd:=(ps.take i).flatMap fun p=>bky l p (p.toNat + 1)
def bm3 (a b:List Fd):Bool:=b.any fun f=>!imp a f
def bm2 (n:Int) (l:List Fd) (ps:List AS):Int:=if b6 n l = 0 then lsC n ps l [] else b6 n l
def blv (n:Int) (l:List Fd) (ps:List AS):Bool:=decide (b6 n l = 0) && (lsB n ps l [] && k6 l ps && ps.all (sk l))
section
variable {n:Int} {l:List Fd} {ps:List AS}
def b64 (h0:0 <= n) (h8:n <= 8) {q:AS} (hq:sub q (a7 n)):q.toNat < 65536:=by
 have h1:=acz hq;have h2:∀ k,k <= 8 -> (jn k).toNat < 65536:=by decide +kernel
 have h3:(a7 n).toNat < 65536:=h2 (min n.toNat 32) bqi;omega
def ajc (h:lvE n ps = 0) {q:AS} (hq:q ∈ ps):q.toNat < 65536:=b64 (oe h).1 (oe h).2.1 (a69 h hq)
end
end
section
def adl (a b:Bs):bL (a ++ b) = bL a ++ bL b:=by simp [ByteArray.data_append]
def pkV (l:List Fd) (p s:AS):Bool:=!decide (p &&& ~~~(clo l s) = 0)
def pkL (l:List Fd) (p:AS):List AS:=a2c ((aq p).filter fun s=>!pkV l p s)
def asy (ns:List Bs) (k:AS):List UInt8:=32 :: bL (txT ns k)
def og (ns:List Bs) (ks:List AS) (i:Nat):List UInt8:=(ks.take i).flatMap (asy ns)
def vg (ns:List Bs) (p:AS):List UInt8:=[112,97,114,116,32] ++ bL (txT ns p) ++ [32,107,101,121,115]
def a7l (ns:List Bs) (l:List Fd) (p:AS):List UInt8:=vg ns p ++ og ns (pkL l p) (pkL l p).length ++ [10]
def gq (ns:List Bs) (l:List Fd) (ps:List AS) (i:Nat):List UInt8:=(ps.take i).flatMap (a7l ns l)
def a7u (ns:List Bs) (f:Fd):List UInt8:=[108,111,115,116,32] ++ bL (txT ns f.lhs) ++ [32,45,62,32] ++ bL (txT ns f.rhs) ++ [10]
def ji (ns:List Bs) (l:List Fd) (ls:List Nat) (i:Nat):List UInt8:=(ls.take i).flatMap fun j=>a7u ns (l.getD j default)
def jz:List Bs:=[⟨#[108,111,115,115,108,101,115,115]⟩,⟨#[112,114,101,115,101,114,118,105,110,103]⟩,⟨#[116,104,105,114,100]⟩,⟨#[98,111,121,99,101]⟩,⟨#[102,111,117,114,116,104]⟩]
def ada (c:Int) (i:Nat):Bool:=decide (ay .and .i64 (c.fdiv (2 ^ (min i 64))) 1 = 1)
def a6v (c:Int) (i:Nat):List UInt8:=if ada c i = true then 32 :: bL (jz.getD i default) else []
def j3 (c:Int) (i:Nat):List UInt8:=(List.range i).flatMap (a6v c)
def an5 (ns:List Bs) (l:List Fd) (ps:List AS) (c:Int):List UInt8 :=
 gq ns l ps ps.length ++ ji ns l (ca l ps l.length) (ca l ps l.length).length ++ [99,108,97,105,109,115] ++ j3 c 5 ++ [10]
section
variable {ns:List Bs} {l:List Fd} {ps:List AS} {c:Int} {i:Nat}
def a4b {α:Type} [Inhabited α] {f:α -> List UInt8} {q:List α} (h:i < q.length):(q.take (i + 1)).flatMap f = (q.take i).flatMap f ++ f (q.getD i default):=by
 rw [List.take_succ,bma h,bq2,bmb,bma h];simp
def aoy {ks:List AS} (h:i < ks.length):og ns ks (i + 1) = og ns ks i ++ asy ns (ks.getD i default):=a4b h
def ake (h:i < ps.length):gq ns l ps (i + 1) = gq ns l ps i ++ a7l ns l (ps.getD i default):=a4b h
def akc {ls:List Nat} (h:i < ls.length):ji ns l ls (i + 1) = ji ns l ls i ++ a7u ns (l.getD (ls.getD i default) default):=a4b h
def a5r:j3 c (i + 1) = j3 c i ++ a6v c i:=by
 unfold j3;rw [bo0,bq2];simp
def xg {α:Type} {f:α -> List UInt8} {K:Nat}:∀ {q:List α},(∀ x ∈ q,(f x).length <= K) -> (q.flatMap f).length <= K * q.length
 | [],_=>by simp
 | x :: q,h=>by
  have h1:=h x bqm;have h2:=xg (q:=q) fun y hy=>h y (by simp [hy]);rw [bpi,bmg,bn7,Nat.mul_succ];omega
def a6k (h:∀ b ∈ ns,b.size <= 1000) (s:AS):(bL (txT ns s)).length <= 32033:=by
 have:=b5u (s:=s) h;rw [ac5];omega
def a6y (h:∀ b ∈ ns,b.size <= 1000) {ks:List AS}:(og ns ks i).length <= 32034 * ks.length:=by
 refine bmo (xg (K:=32034) fun x _=>?_) (Nat.mul_le_mul_left _ (by rw [bmk];omega));have:=a6k h x;show (bL _).length + 1 <= _;omega
def a6g (h:∀ b ∈ ns,b.size <= 1000) (p:AS):(vg ns p).length <= 32043:=by
 have:=a6k h p;unfold vg;simp only [bmg,bn7,bof];omega
def ac7 {p:AS} (hp:p.toNat < 65536):(pkL l p).length <= 65537:=by
 unfold pkL;refine bmo (b0s _) (bmo (bo2 _ _) ?_);unfold aq yp;have h1:=a7c (s:=p) (p.toNat + 1) p;have h2:=jw (a1p p (p.toNat + 1) p);split
 · simp
 omega
def az7 (h:∀ b ∈ ns,b.size <= 1000) {p:AS} (hp:p.toNat < 65536):(a7l ns l p).length <= 2100000000:=by
 have h1:=a6y (i:=(pkL l p).length) (ks:=pkL l p) h;have h2:=a6g h p;have h3:=ac7 (l:=l) hp;unfold a7l;simp only [bmg,bn7,bof];omega
def ati (h:∀ b ∈ ns,b.size <= 1000) (hp:∀ p ∈ ps,p.toNat < 65536) (h64:ps.length <= 64):(gq ns l ps i).length <= 134400000000:=by
 have h1:(gq ns l ps i).length <= 2100000000 * (ps.take i).length:=xg (K:=2100000000) fun x hx=>az7 h (hp x (bov hx));rw [bmk] at h1;omega
def av1 (h:∀ b ∈ ns,b.size <= 1000) (f:Fd):(a7u ns f).length <= 64100:=by
 have h1:=a6k h f.lhs;have h2:=a6k h f.rhs;unfold a7u;simp only [bmg,bn7,bof];omega
def at9 (h:∀ b ∈ ns,b.size <= 1000) {ls:List Nat} (hl:ls.length <= 64):(ji ns l ls i).length <= 4102400:=by
 have h1:(ji ns l ls i).length <= 64100 * (ls.take i).length:=xg (K:=64100) fun x _=>av1 h _;rw [bmk] at h1;omega
def a9t (h:i <= 5):(j3 c i).length <= 100:=by
 have h1:(j3 c i).length <= 20 * (List.range i).length:=xg (K:=20) fun x hx=>by
  unfold a6v;split
  · have hx:=bmq.1 hx
    have:(bL (jz.getD x default)).length <= 10:=by
     match x,hx with
     | 0,_=>decide
     | 1,_=>decide
     | 2,_=>decide
     | 3,_=>decide
     | 4,_=>decide
     | n + 5,hx=>omega
    show _ + 1 <= _;omega
  exact bmh _
 rw [boq] at h1;omega
def b5w {s:AS} {n:Nat} (h8:n <= 16) (h:sub s (a7 n)) {i:Nat} (hi:i ∈ aj s):i < n:=by
 obtain ⟨h32,hb⟩:=j8.1 hi;have:=ar.1 h i h32 hb
 have hn:¬ n <= i:=fun hle=>by
  have h2:=(a4w (s:=a7 n) (n:=(n:Int)) bqi bqi).1 (sub_self _);have h3:=congrArg (fun x:AS=>x.getLsbD (i - n)) h2;simp only [bmn,bp5,show n + (i - n) = i by omega,this] at h3;simp at h3
 omega
def bbe {j:Nat} (h:j < (ca l ps l.length).length):(ca l ps l.length).getD j default < l.length:=by
 have hm:(ca l ps l.length).getD j default ∈ ca l ps l.length:=dl h;exact bmq.1 (bog.1 hm).1
def aki:(ca l ps l.length).length <= l.length:=by
 refine bmo (bo2 _ _) ?_;rw [boq];exact bmd _
end
end
section
def vc (ns:List Bs) (l m:List Fd) (ps:List AS):Int:=if n4 ns = 0 then (if lvE ns.length ps = 0 then bt ns.length l m else lvE ns.length ps) else n4 ns
def agr (ns:List Bs) (l m:List Fd) (ps:List AS) (c:Int):Bs:=if vc ns l m ps = 0 then bOf (an5 ns l ps c) else ⟨#[]⟩
section
variable {ns:List Bs} {l m:List Fd} {ps:List AS} {c:Int} {X:List UInt8}
def bfm (h:¬ n4 ns = 0):vc ns l m ps = n4 ns /\ agr ns l m ps c = ⟨#[]⟩:=by
 have e:vc ns l m ps = n4 ns:=if_neg h;exact ⟨e,if_neg (by rw [e];exact h)⟩
def bdz (h:n4 ns = 0) (h2:¬ lvE ns.length ps = 0):vc ns l m ps = lvE ns.length ps /\ agr ns l m ps c = ⟨#[]⟩:=by
 have e:vc ns l m ps = lvE ns.length ps:=by unfold vc;rw [if_pos h,if_neg h2]
 exact ⟨e,if_neg (by rw [e];exact h2)⟩
def bg0 (h:n4 ns = 0) (h2:lvE ns.length ps = 0) (h3:¬ bt ns.length l m = 0):vc ns l m ps = bt ns.length l m /\ agr ns l m ps c = ⟨#[]⟩:=by
 have e:vc ns l m ps = bt ns.length l m:=by unfold vc;rw [if_pos h,if_pos h2]
 exact ⟨e,if_neg (by rw [e];exact h3)⟩
def bff (h:n4 ns = 0) (h2:lvE ns.length ps = 0) (h3:bt ns.length l m = 0):vc ns l m ps = 0 /\ agr ns l m ps c = bOf (an5 ns l ps c):=by
 have e:vc ns l m ps = 0:=by unfold vc;rw [if_pos h,if_pos h2,h3]
 exact ⟨e,if_pos e⟩
def bct {p k:AS} (h:k ∈ pkL l p):sub k p:=by
 have h1:=(ans.1 h).1;have h2:=(bog.1 h1).1;unfold aq at h2;split at h2
 · cases h2
 exact a15.1 h2
def szA (a b:Bs):(a ++ b).size = a.size + b.size:=ByteArray.size_append
def bhy (h:∀ b ∈ ns,b.size <= 1000) (s:AS):(txT ns s).size <= 32033:=a6k h s
def bb3 {p:AS} {ks:List AS}:X ++ bL ((⟨#[112,97,114,116,32]⟩ ++ txT ns p) ++ ⟨#[32,107,101,121,115]⟩) = X ++ vg ns p ++ og ns ks 0:=by
 simp [adl,vg,og]
def bf0 {ks:List AS} {k:Nat} (h:k < ks.length):(X ++ og ns ks k) ++ bL (⟨#[32]⟩ ++ txT ns (ks.getD k default)) = X ++ og ns ks (k + 1):=by
 rw [aoy h];simp [adl,asy]
section
variable {i:Nat}
def b95 (h:i < ps.length):(gq ns l ps i ++ vg ns (ps.getD i default) ++ og ns (pkL l (ps.getD i default)) (pkL l (ps.getD i default)).length) ++ bL ⟨#[10]⟩ = gq ns l ps (i + 1):=by
 rw [ake h];simp [a7l]
def bab {ls:List Nat} {j:Nat} (h:j < ls.length) (f:Fd) (hf:f = l.getD (ls.getD j default) default) :
 (X ++ ji ns l ls j) ++ bL ((((⟨#[108,111,115,116,32]⟩ ++ txT ns f.lhs) ++ ⟨#[32,45,62,32]⟩) ++ txT ns f.rhs) ++ ⟨#[10]⟩) = X ++ ji ns l ls (j + 1):=by
 subst hf;rw [akc h];simp [adl,a7u]
def avt (h:ada c i = true):(X ++ j3 c i) ++ bL (⟨#[32]⟩ ++ jz.getD i default) = X ++ j3 c (i + 1):=by
 rw [a5r];unfold a6v;rw [if_pos h];simp [adl]
def ax6 (h:ada c i = false):X ++ j3 c i = X ++ j3 c (i + 1):=by
 rw [a5r];unfold a6v;rw [if_neg (by rw [h];exact bq5),bn9]
def b2t {f:Nat -> Nat -> PV} (hi:i < 5) (h0:f 0 0 = bsC (jz.getD 0 default) 0) (h1:f 1 0 = bsC (jz.getD 1 default) 0) (h2:f 2 0 = bsC (jz.getD 2 default) 0) (h3:f 3 0 = bsC (jz.getD 3 default) 0) (h4:f 4 0 = bsC (jz.getD 4 default) 0):f i 0 = bsC (jz.getD i default) 0:=by
 match i,hi with
 | 0,_=>exact h0
 | 1,_=>exact h1
 | 2,_=>exact h2
 | 3,_=>exact h3
 | 4,_=>exact h4
def amy (hi:i < 5):(jz.getD i default).size <= 10:=by
 match i,hi with
 | 0,_=>decide
 | 1,_=>decide
 | 2,_=>decide
 | 3,_=>decide
 | 4,_=>decide
end
end
end
section
section
variable {n:Int} {ps:List AS} {p m l:List Fd}
abbrev tb0 (n:Int) (ps:List AS):List Rw:=av (bo n ps)
abbrev trS (n:Int) (ps:List AS) (p m:List Fd):List St:=(lsT n ps p m).1
abbrev trT (n:Int) (ps:List AS) (p m:List Fd) (i:Nat):List Rw:=(trL n p m (tb0 n ps) (trS n ps p m)).getD i default
def bem (h:¬ lsC n ps p m = 0):prS n ps p m = [] /\ prC n ps p m = lsC n ps p m:=by
 have hc:(rcR n ps p m).2.2 = lsC n ps p m:=a05;unfold prS prC;rw [hc,if_neg h,if_neg h];exact ⟨rfl,rfl⟩
def abz (hls:lsC n ps p m = 0) {i:Nat} (hi:i <= (trS n ps p m).length) (hI:∀ j,j < i -> np n (trT n ps p m j) = false) (h:np n (trT n ps p m i) = true):prS n ps p m = (trS n ps p m).take i /\ prC n ps p m = 0:=by
 have hq:=a9d hls;have hi':i <= (lsT n ps p m).1.length:=hi;have hc:(rcR n ps p m).2.2 = 0:=by rw [hq]
 have hx:prX n ps p m = (i:Int):=by
  unfold prX;rw [hq];refine rg (p:=fun a:Int × List Rw=>np n a.2) (i:=i) (by show i < (jd n p m _ _).length;rw [zr];omega) (fun j hj=>?_) ?_
  · show np n ((jd n p m _ _).getD j default).2 = false
    rw [a88 bqi];exact hI j hj
  show np n ((jd n p m _ _).getD i default).2 = true;rw [a88 bqi];exact h
 unfold prS prC;rw [if_pos hc,if_pos hc,hx,if_neg bqi,if_neg bqi,hq];exact ⟨rfl,rfl⟩
def bbl (hls:lsC n ps p m = 0) (hI:∀ j,j < (trS n ps p m).length + 1 -> np n (trT n ps p m j) = false):prS n ps p m = [] /\ prC n ps p m = 11:=by
 have hq:=a9d hls;have hc:(rcR n ps p m).2.2 = 0:=by rw [hq]
 have hx:prX n ps p m = -1:=by
  unfold prX;rw [hq];refine sx (p:=fun a:Int × List Rw=>np n a.2) fun j hj=>?_;have hj:j < (jd n p m (av (bo n ps)) (lsT n ps p m).1).length:=hj;rw [zr] at hj;show np n ((jd n p m _ _).getD j default).2 = false;rw [a88 bqi];exact hI j hj
 unfold prS prC;rw [if_pos hc,if_pos hc,hx,if_pos bqi,if_pos bqi];exact ⟨rfl,rfl⟩
def bi0 (hls:lsC n ps p m = 0) (hb:lsB n ps p m = true):prC n ps p m = 0:=by
 obtain ⟨hv,hbe⟩:=pl hls;have hc:(lsT n ps p m).2.2 = 0:=(ad8 hv hbe).symm.trans hls;obtain ⟨sts,lend,e,htr,_,hif⟩:=anl hv hbe hc
 have hin:dj n ∈ lend:=by
  unfold lsB at hb;rw [bml,e] at hb;obtain ⟨r,hr,he⟩:=bne.1 hb.2;rw [<- of_decide_eq_true he];exact hr
 obtain ⟨t,ht,hf⟩:=hif.2 hin;apply Classical.byContradiction;intro hne;have hs:trS n ps p m = sts:=by show (lsT n ps p m).1 = sts;rw [e]
 have hall:∀ j,j < (trS n ps p m).length + 1 -> np n (trT n ps p m j) = false:=by
  apply Classical.byContradiction;intro hno
  have:∃ j,j < (trS n ps p m).length + 1 /\ np n (trT n ps p m j) = true:=by
   apply Classical.byContradiction;intro hno2;exact hno fun j hj=>bmm.2 fun h=>hno2 ⟨j,hj,h⟩
  obtain ⟨j,hj,hjt⟩:=this
  have key:∀ k,k <= j -> (∀ i,i < k -> np n (trT n ps p m i) = false) \/ prC n ps p m = 0:=by
   intro k
   induction k with
   | zero=>exact fun _=>.inl fun i hi=>absurd hi (bmf i)
   | succ k ih =>
    intro hk
    rcases ih bqi with h | h
    · rcases Bool.eq_false_or_eq_true (np n (trT n ps p m k)) with hb2 | hb2
      · exact .inr (abz hls (i:=k) bqi h hb2).2
      refine .inl fun i hi=>?_;by_cases hik:i = k
      · rw [hik];exact hb2
      exact h i bqi
    exact .inr h
  rcases key j (bmd j) with h | h
  · exact hne (abz hls (i:=j) bqi h hjt).2
  exact hne h
 obtain ⟨k,hk,he⟩:=bn1 ht;rw [a3i] at hk;have h1:=hall k (by rw [hs];exact hk)
 have h2:trT n ps p m k = t:=by
  show (trL n p m (tb0 n ps) (trS n ps p m)).getD k default = t;rw [hs,bmb,bma (by rw [a3i];exact hk),<- he];rfl
 rw [h2] at h1;have:np n t = true:=bne.2 ⟨dj n,hf,decide_eq_true rfl⟩;rw [this] at h1;cases h1
def thB (n:Int) (l:List Fd) (p:AS):Bool:=qk n l p && decide (yb n l p = 0)
def byB (l:List Fd) (p:AS):Bool:=!v8 l p && decide (pn l p = 0)
def foB (n:Int) (l m:List Fd) (p:AS):Bool:=!(a6c n l m p).2 && decide (ck4 n l m p = 0)
def ly (a b c d:Bool):Int:=(bif a then 2 else 0) + ((bif b then 4 else 0) + ((bif c then 8 else 0) + (bif d then 16 else 0)))
def a16 (n:Int) (l m:List Fd) (ps:List AS):Int:=ly (k6 l ps) (ps.all (thB n l)) (ps.all (byB l)) (ps.all (foB n l m))
def pf (n:Int) (l m:List Fd) (ps:List AS):Int:=if lsC n ps l m = 0 then a16 n l m ps + (bif lsB n ps l m then 1 else 0) else 0
def b4l (h:¬ lsC n ps l m = 0):pf n l m ps = 0:=if_neg h
def bgv (h:lsC n ps l m = 0) (hb:lsB n ps l m = true):pf n l m ps = ay .or .i64 (a16 n l m ps) 1:=by
 unfold pf;rw [if_pos h,hb];unfold a16;generalize k6 l ps = a;generalize ps.all (thB n l) = b;generalize ps.all (byB l) = c;generalize ps.all (foB n l m) = d;cases a <;> cases b <;> cases c <;> cases d <;> decide
def bib (h:lsC n ps l m = 0) (hb:lsB n ps l m = false):pf n l m ps = a16 n l m ps:=by
 unfold pf;rw [if_pos h,hb];exact Int.add_zero _
def aqw (h:lsC n ps l m = 0):decide (ay .and .i64 (pf n l m ps) 1 = 0) = !lsB n ps l m:=by
 unfold pf;rw [if_pos h];unfold a16;generalize k6 l ps = a;generalize ps.all (thB n l) = b;generalize ps.all (byB l) = c;generalize ps.all (foB n l m) = d;generalize lsB n ps l m = e;cases a <;> cases b <;> cases c <;> cases d <;> cases e <;> decide
section
variable {a:Bool}
def axx (h:a = true):ay .or .i64 0 2 = ly a false false false:=by rw [h];decide
def awk {b:Bool} (h:b = true):ay .or .i64 (ly a false false false) 4 = ly a b false false:=by rw [h];cases a <;> decide
def avz {b c:Bool} (h:c = true):ay .or .i64 (ly a b false false) 8 = ly a b c false:=by rw [h];cases a <;> cases b <;> decide
def axt {b c d:Bool} (h:d = true):ay .or .i64 (ly a b c false) 16 = ly a b c d:=by rw [h];cases a <;> cases b <;> cases c <;> decide
abbrev Dsg:=List AS × Int × List St
abbrev dsn (d:Dsg):PC:=.agg [asl d.1, .raw (.int .i64 d.2.1),stl d.2.2]
def fuD (n:Int) (l m:List Fd) (ps:List AS):Dsg:=if lsC n ps l m = 0 then (ps,pf n l m ps,if lsB n ps l m = true then prS n ps l m else []) else ([],0,[])
def bg3 (h:¬ lsC n ps l m = 0):fuD n l m ps = ([],0,[]):=if_neg h
def beb (h:lsC n ps l m = 0) (hb:lsB n ps l m = true):fuD n l m ps = (ps,pf n l m ps,prS n ps l m):=by unfold fuD;rw [if_pos h,if_pos hb]
def bft (h:lsC n ps l m = 0) (hb:lsB n ps l m = false):fuD n l m ps = (ps,pf n l m ps,[]):=by unfold fuD;rw [if_pos h,if_neg (by rw [hb];exact bq5)]
def o5 (n:Int) (l m:List Fd):Int:=if n < 0 \/ 8 < n then 7 else bt n l m
def mt (n:Int) (l m:List Fd) (f:Int):List AS × Int:=if f = 3 then (a54 n l,b6 n l) else if f = 4 then (alh n l,eo n l 8) else if f = 5 then (bkc n l m,ck4 n l m 0) else ([],1)
def bjj {f:Int} (h:f = 3):mt n l m f = (a54 n l,b6 n l):=if_pos h
def bjw {f:Int} (h:¬ f = 3) (h2:f = 4):mt n l m f = (alh n l,eo n l 8):=by unfold mt;rw [if_neg h,if_pos h2]
def bk5 {f:Int} (h:¬ f = 3) (h2:¬ f = 4) (h3:¬ f = 5):mt n l m f = ([],1):=by unfold mt;rw [if_neg h,if_neg h2,if_neg h3]
def goD (n:Int) (l m:List Fd) (q:List AS × Int):Dsg:=if o5 n l m = 0 then (if q.2 = 0 then fuD n l m q.1 else ([],0,[])) else ([],0,[])
def goE (n:Int) (l m:List Fd) (q:List AS × Int):Int:=if o5 n l m = 0 then (if q.2 = 0 then lsC n q.1 l m else q.2) else o5 n l m
variable {q:List AS × Int}
def azq (h:¬ o5 n l m = 0):goD n l m q = ([],0,[]) /\ goE n l m q = o5 n l m:=⟨if_neg h,if_neg h⟩
def bc7 (h:o5 n l m = 0) (h2:¬ q.2 = 0):goD n l m q = ([],0,[]) /\ goE n l m q = q.2:=by
 unfold goD goE;rw [if_pos h,if_neg h2,if_pos h,if_neg h2];exact ⟨rfl,rfl⟩
def b1c (h:o5 n l m = 0) (h2:q.2 = 0):goD n l m q = fuD n l m q.1 /\ goE n l m q = lsC n q.1 l m:=by
 unfold goD goE;rw [if_pos h,if_pos h2,if_pos h,if_pos h2];exact ⟨rfl,rfl⟩
def jo (n:Int) (l:List Fd):List AS × Int:=if eo n l 8 = 0 then (if qq n l = true then (uq n l,0) else (a54 n l,b6 n l)) else (uq n l,eo n l 8)
def bkb (h:¬ eo n l 8 = 0):jo n l = (uq n l,eo n l 8):=if_neg h
def bcp (h:eo n l 8 = 0) (h2:qq n l = true):jo n l = (uq n l,eo n l 8):=by unfold jo;rw [if_pos h,if_pos h2,h]
def bed (h:eo n l 8 = 0) (h2:qq n l = false):jo n l = (a54 n l,b6 n l):=by unfold jo;rw [if_pos h,if_neg (by rw [h2];exact bq5)]
def aj6 (h:n < 0 \/ 8 < n):o5 n l m = 7:=if_pos h
def b3r (h:¬ (n < 0 \/ 8 < n)):o5 n l m = bt n l m:=if_neg h
end
end
end
section
section
variable {n:Int} {l m:List Fd} {ps:List AS} {p x:AS}
def adh (h:lvE n ps = 0 /\ bt n l m = 0):0 <= n /\ n <= 8 /\ bt n l m = 0 /\ b6 n l = 0 /\ (∀ f ∈ l,sub f.lhs (a7 n) /\ sub f.rhs (a7 n)) /\ ∀ q ∈ ps,sub q (a7 n) /\ bsz q <= 8:=by
 obtain ⟨h1,h2⟩:=h
 have hv:b6 n l = 0:=by
  unfold bt at h2;split at h2
  · assumption
  exact h2
 have hn:0 <= n /\ n <= 8:=by
  unfold lvE at h1;split at h1
  · cases h1
  omega
 exact ⟨hn.1,hn.2,h2,hv,aff hv,fun q hq=>⟨a69 h1 hq,bmo (afq (a69 h1 hq)) (ant (n:=n) (m:=8) hn.2 bqi)⟩⟩
def bc6 (h:lsC n ps l m = 0):0 <= n /\ n <= 8 /\ bt n l m = 0 /\ b6 n l = 0 /\ (∀ f ∈ l,sub f.lhs (a7 n) /\ sub f.rhs (a7 n)) /\ ∀ q ∈ ps,sub q (a7 n) /\ bsz q <= 8:=adh (pl h)
def afw (h1:n <= 16):sub (a7 n) (a7 16):=ar.2 fun i hi h=>by
 unfold a7 at h ⊢;have e:min (Int.toNat 16) 32 = 16:=rfl;rw [e];rw [ny _ i hi] at h ⊢;rw [decide_eq_true_iff] at h ⊢;omega
def bf5 (h:lvE n ps = 0 /\ bt n l m = 0) (hp:p ∈ ps):thB n l p = qk n l p:=by
 obtain ⟨_,_,_,hv,_,hq⟩:=adh h;unfold thB;rw [(aj0 hv (hq p hp).1).1];simp
def b5d (h:lvE n ps = 0 /\ bt n l m = 0) (hp:p ∈ ps):byB l p = !ec l p:=by
 obtain ⟨h0,h8,_,hv,hu,hq⟩:=adh h;obtain ⟨q1,q2⟩:=hq p hp;obtain ⟨_,_,hl,_⟩:=ew hv
 have hv16:b6 16 l = 0:=by
  unfold b6;rw [if_neg bqi,if_neg bqi,if_pos];rw [bnh];intro f hf;exact (om bqi bqi).2 ⟨d8 (hu f hf).1 (afw bqi),d8 (hu f hf).2 (afw bqi)⟩
 have he:pn l p = 0:=by
  unfold pn;rw [if_pos hv16,if_neg bqi,if_pos];exact (a4w (s:=p) (n:=16) bqi bqi).1 (d8 q1 (afw bqi))
 unfold byB v8;rw [he];simp
def bc4 (h:lvE n ps = 0 /\ bt n l m = 0) (hp:p ∈ ps):foB n l m p = !vBo (lu n l m) p:=by
 obtain ⟨h0,h8,hb,hv,hu,hq⟩:=adh h;obtain ⟨q1,q2⟩:=hq p hp
 have hk:ck4 n l m p = 0:=by
  rw [a9c bqi];unfold ckB;rw [if_pos hb,if_pos ((a4w h0 bqi).1 q1)]
 unfold foB;rw [hk,alk hk];unfold vBo;simp
def fmI (n:Int) (l m:List Fd) (q:List AS):Int:=ly false (q.all (qk n l)) (q.all fun p=>!ec l p) (q.all fun p=>!vBo (lu n l m) p)
def bjb {b c d:Bool}:ay .andNot .i64 (ly false b c d) 4 = ly false false c d:=by cases b <;> cases c <;> cases d <;> decide
def bk2 {b c d:Bool}:ay .andNot .i64 (ly false b c d) 8 = ly false b false d:=by cases b <;> cases c <;> cases d <;> decide
def bjm {b c d:Bool}:ay .andNot .i64 (ly false b c d) 16 = ly false b c false:=by cases b <;> cases c <;> cases d <;> decide
def fm1 (n:Int) (l m:List Fd) (q:List AS) (i:Nat):Int:=ly false ((q.take (i + 1)).all (qk n l)) ((q.take i).all fun p=>!ec l p) ((q.take i).all fun p=>!vBo (lu n l m) p)
def fm2 (n:Int) (l m:List Fd) (q:List AS) (i:Nat):Int:=ly false ((q.take (i + 1)).all (qk n l)) ((q.take (i + 1)).all fun p=>!ec l p) ((q.take i).all fun p=>!vBo (lu n l m) p)
section
variable {i:Nat}
def a2u {P:AS -> Bool} {q:List AS} (hi:i < q.length):(q.take (i + 1)).all P = ((q.take i).all P && P (q.getD i default)):=by
 rw [am hi,List.all_append];simp
def bhp (hi:i < ps.length) (h:qk n l (ps.getD i default) = true):fmI n l m (ps.take i) = fm1 n l m ps i:=by
 unfold fm1 fmI;rw [a2u hi,h,Bool.and_true]
def bi2 (hi:i < ps.length) (h:qk n l (ps.getD i default) = false):ay .andNot .i64 (fmI n l m (ps.take i)) 4 = fm1 n l m ps i:=by
 unfold fm1 fmI;rw [bjb,a2u hi,h,bqg]
def bi4 (hi:i < ps.length) (h:ec l (ps.getD i default) = false):fm1 n l m ps i = fm2 n l m ps i:=by
 unfold fm1 fm2;rw [a2u (P:=fun p=>!ec l p) hi,h];simp
def bhx (hi:i < ps.length) (h:ec l (ps.getD i default) = true):ay .andNot .i64 (fm1 n l m ps i) 8 = fm2 n l m ps i:=by
 unfold fm1 fm2;rw [bk2,a2u (P:=fun p=>!ec l p) hi,h];simp
def bhf (hi:i < ps.length) (h:vBo (lu n l m) (ps.getD i default) = false):fm2 n l m ps i = fmI n l m (ps.take (i + 1)):=by
 unfold fm2 fmI;rw [a2u (P:=fun p=>!vBo (lu n l m) p) hi,h];simp
def bht (hi:i < ps.length) (h:vBo (lu n l m) (ps.getD i default) = true):ay .andNot .i64 (fm2 n l m ps i) 16 = fmI n l m (ps.take (i + 1)):=by
 unfold fm2 fmI;rw [bjm,a2u (P:=fun p=>!vBo (lu n l m) p) hi,h];simp
def fmL (n:Int) (l m:List Fd) (q:List AS):Int:=fmI n l m q + (bif lsB n q l m then 1 else 0)
def bij (h:lsB n ps l m = true):ay .or .i64 (fmI n l m ps) 1 = fmL n l m ps:=by
 unfold fmL fmI;rw [h];generalize ps.all (qk n l) = b;generalize (ps.all fun p=>!ec l p) = c;generalize (ps.all fun p=>!vBo (lu n l m) p) = d;cases b <;> cases c <;> cases d <;> decide
def bia (h:lsB n ps l m = false):fmI n l m ps = fmL n l m ps:=by
 unfold fmL;rw [h];exact (Int.add_zero _).symm
def apy (h:lvE n ps = 0 /\ bt n l m = 0):fmI n l m ps = ly false (ps.all (thB n l)) (ps.all (byB l)) (ps.all (foB n l m)):=by
 have e:∀ {P Q:AS -> Bool},(∀ q ∈ ps,P q = Q q) -> ps.all P = ps.all Q:=fun {P Q} hh=>by
  rw [bo8,bnh,bnh];exact forall_congr' fun q=>forall_congr' fun hq=>by rw [hh q hq]
 unfold fmI;rw [e (P:=qk n l) fun q hq=>(bf5 h hq).symm,e (P:=fun p=>!ec l p) fun q hq=>(b5d h hq).symm,e (P:=fun p=>!vBo (lu n l m) p) fun q hq=>(bc4 h hq).symm]
def bir (h:lsC n ps l m = 0) (hl:((ca l ps l.length).length:Int) = 0):ay .or .i64 (fmL n l m ps) 2 = pf n l m ps:=by
 have h2:k6 l ps = true:=aao.symm.trans (decide_eq_true hl);unfold fmL pf;rw [if_pos h,apy (pl h)];unfold a16;rw [h2];generalize ps.all (thB n l) = b;generalize ps.all (byB l) = c;generalize ps.all (foB n l m) = d;generalize lsB n ps l m = e;cases b <;> cases c <;> cases d <;> cases e <;> decide
def bh3 (h:lsC n ps l m = 0) (hl:¬ ((ca l ps l.length).length:Int) = 0):fmL n l m ps = pf n l m ps:=by
 have h2:k6 l ps = false:=aao.symm.trans (decide_eq_false hl);unfold fmL pf;rw [if_pos h,apy (pl h)];unfold a16;rw [h2]
end
end
end
section
def aax (l:List Fd) (ps:List AS) (z:AS):AS:=match ps.find? (dz l z) with | none=>z | some p=>z ||| o8 l p z
section
variable {l:List Fd}
def awy {p z:AS}:sub (clo l (z &&& p) &&& p) z <-> dz l z p = false:=by
 unfold dz o8 sub;rw [BitVec.and_comm (clo l (z &&& p)) p,decide_eq_false_iff_not,Ne,Decidable.not_not]
def bi3 (z a:AS):z ||| a = z ||| (a &&& ~~~z):=by
 apply bnu;intro i hi;simp only [bo4,bmr,bob,decide_eq_true hi];cases z.getLsbD i <;> cases a.getLsbD i <;> rfl
variable {ps:List AS}
def bk8 {z:AS} {i:Nat} (hi:i < ps.length) (hI:∀ j,j < i -> dz l z (ps.getD j default) = false) (h:dz l z (ps.getD i default) = true):
 idx (dz l z) ps = (i:Int) /\ aax l ps z = z ||| (clo l (z &&& ps.getD i default) &&& ps.getD i default):=by
 refine ⟨rg hi hI h, ?_⟩;unfold aax;rw [adm hi hI h,bi3 z (clo l (z &&& ps.getD i default) &&& ps.getD i default),BitVec.and_comm (clo l (z &&& ps.getD i default))];rfl
def bjd {z:AS} (hI:∀ j,j < ps.length -> dz l z (ps.getD j default) = false):idx (dz l z) ps = -1 /\ aax l ps z = z:=by
 refine ⟨sx hI, ?_⟩;unfold aax;rw [ak7 hI]
def bh9 {z:AS} {i:Nat} (hi:i < ps.length) (h:dz l z (ps.getD i default) = true) (hI:∀ j,j < i -> dz l z (ps.getD j default) = false):aax l ps z = z ||| o8 l (ps.getD i default) z:=by
 unfold aax;rw [adm hi hI h]
end
end
section
section
variable {ps:List AS}
def bbd {l:List Fd} {i:Nat} (hi:i < l.length) (h:o6 l ps (l.getD i default) = false):k6 l ps = false:=by
 rw [bmm];intro e;have:=al2.1 e _ (dl hi);rw [h] at this;cases this
def b1g {l:List Fd} (h:∀ j,j < l.length -> o6 l ps (l.getD j default) = true):k6 l ps = true:=al2.2 fun f hf=>by
 obtain ⟨j,hj,rfl⟩:=xr hf;exact h j hj
def ajy {f:AS -> Bool} {i:Nat} (hi:i < ps.length) {v:Bool} (h:((ps.take i).any f = true /\ v = true) \/ ((ps.take i).any f = false /\ v = f (ps.getD i default))):v = (ps.take (i + 1)).any f:=by
 rw [am hi,List.any_append]
 rcases h with ⟨h1,h2⟩ | ⟨h1,h2⟩
 · rw [h1,h2];rfl
 rw [h1,h2];simp
def ag2 {n:Int} {l:List Fd}:ph n l ps = (bif bif (ps.take ps.length).any (i6 n l) then decide (asI (orL (ps.take ps.length)) = asI (a7 n)) else false then k6 l ps else false):=by
 unfold ph;rw [bmi,a6b];cases decide (orL ps = a7 n) <;> cases k6 l ps <;> cases ps.any (i6 n l) <;> rfl
def ah5 (n:Int) (l:List Fd) (p0:List AS):∀ j,(fu n l p0 j).length <= p0.length
 | 0=>bmd _
 | j + 1=>by
  have:=ah5 n l p0 j;show (kp n l (fu n l p0 j) _).length <= _;unfold kp;split
  · exact bmo (List.length_eraseIdx_le _ _) this
  exact this
def ag8 {L:List AS} {i:Nat} (hi:i < L.length) {z1 z2:Int} (h1:z1.toNat = i) (h2:z2.toNat = i + 1) {f0:Nat -> Nat -> PV}:CoP (.sl (0 + d9 (ax L.length (some z1)) none + d9 (ax L.length none) (some z2)) 1 false (eq (0 + d9 (ax L.length (some z1)) none) (eq 0 f0 (n8 (lf (fun s _=>asC s) L) none)) (n8 (lf (fun s _=>asC s) L) (some z2)))) (asl (L.take i ++ L.drop (i + 1))):=by
 refine ba0 (l:=L.take i) (l':=L.drop (i + 1)) ?_ ?_ (fun a j ha hj=>CoP.of_eq ?_) (fun a j ha hj=>CoP.of_eq ?_)
 · show 0 + z1.toNat = _
   rw [bmk];omega
 · show L.length - z2.toNat = _
   rw [bnv];omega
 · have ha:a < 0 + z1.toNat:=ha
   show eq 0 f0 (lf (fun s _=>asC s) L) a j = _;unfold eq;rw [if_neg (bmf a),bpg];simp only [lf,List.getD,bmy];rw [if_pos bqi]
 show lf (fun s _=>asC s) L (z2.toNat + a) j = _;rw [h2];simp only [lf,List.getD,boj]
end
end
section
open Go.Proofs
def bf3 (l:List Fd) (ps:List AS) (f:Fd) (hl:ps.length <= 8589934592):a6 br6 150 [pP (fdl l),pP (asl ps),f.pc] (a8 [pB (o6 l ps f)]):=by
 refine hpx (nt:=41) Tryz.func150 ?_;refine sx7 ?_;refine m9 0 ?_;refine w_9 ?_;refine ae (ι:=AS) (ka 0 (ka 1 (ka 5 kn))) (kb 0 km) (fun s=>⟨[(7,some (vA s))],[]⟩) (fun s=>PrI l ps f.lhs s) (fun s=>4294967296 - s.toNat) (f.lhs) (b9r _ _ _) kk ?_;rintro s hs;refine dy ?_;refine b5 (ka 0 (ka 1 (ka 5 (ka 8 kn)))) (kb 0 km) (fun i=>⟨[(7,some (vA (ig l (ps.take i) s))),(9,some (vI i))],[]⟩) ps.length kk ?_;rintro i hi;refine w_8 ?_;refine hcd (fun h0=>?_) (fun h0=>?_)
 · refine dy ?_;refine rc rfl rfl rfl rfl rfl rfl wc (wl l ((ig l (ps.take i) s) &&& (ps.getD i default))) (⟨CoC.refl _,cci (fj _ _),trivial⟩) rfl rfl ?_;refine p9 ?_;exact lpx (i + 1) ⟨⟨⟨_,rfl,(bj ((b6k _ _ _).trans (congrArg asI (b2h bqi).symm)))⟩,tt⟩,uu⟩
 obtain rfl:i = ps.length:=by omega
 rw [show ps.take ps.length = ps from bmi];refine w_7 ?_;refine hcd (fun h1=>?_) (fun h1=>?_)
 · have he:ig l ps s = s:=c6.1 h1;refine w_5 ?_;refine qcx l6 (qp f.rhs (ig l ps s)) ?_;refine v_2 ?_;exact ⟨ccb (by rw [he];exact bc8 hs he),trivial⟩
 have hne:¬ ig l ps s = s:=fun e=>h1 (by rw [e]);refine ck ?_;refine ⟨ig l ps s, ?_, ?_, ?_⟩
 · exact b8s hs
 · exact bav hne
 exact kk
def arl (l:List Fd) (ps:List AS) (hl:ps.length <= 8589934592):a6 br6 96 [pP (fdl l),pP (asl ps)] (a8 [pB (k6 l ps)]):=by
 refine hpx (nt:=20) Tryz.func96 ?_;refine w_6 ?_;refine c8 0 rfl fun hn=>?_;refine w_4 ?_;refine ae (ι:=Nat) (ka 0 (ka 1 kn)) km (fun i=>⟨[(5,some (vI i))],[]⟩) (fun i=>i <= l.length /\ ∀ j,j < i -> o6 l ps (l.getD j default) = true) (fun i=>l.length - i) (0) (⟨bmh _,fun j hj=>absurd hj (bmf j)⟩) kk ?_;rintro i ⟨hi,hI⟩;refine w_8 ?_;refine hcd (fun h0=>?_) (fun h0=>?_)
 ·
  refine cq ?_;refine qcx (wgx Tryz.func150) (bf3 l ps (l.getD i default) hl) ?_;refine w_2 ?_;refine hcv (fun h1=>?_) (fun h1=>?_)
  · refine v_4 ?_;exact ⟨ccb (bbd (i:=i) bqi bqs).symm,trivial⟩
  refine w_6 ?_;refine lpz (i + 1) kk ?_;refine ⟨by omega,fun j hj=>?_⟩;by_cases e:j = i
  · rw [e];simp_all
  exact hI j bqi
 obtain rfl:i = l.length:=by omega
 refine v_5 ?_;exact ⟨ccb (b1g hI).symm,trivial⟩
def b1p (n:Int) (l:List Fd):a6 br6 95 [pI n,pP (fdl l)] (a8 [pP (asl (ek n l)),pI (eo n l 8)]):=by
 refine hpx (nt:=39) Tryz.func95 ?_;refine c5 ?_;refine qcx (wgx Tryz.func86) (bj5 n l 8) ?_;refine w_7 ?_;refine hcn (fun h0=>?_) (fun h0=>?_)
 · refine v_6 ?_;exact ⟨CoC.one (wu (awj h0)),CoC.refl _,trivial⟩
 refine w_2 ?_;have hsl:=nu (a7 n);refine w_2 ?_;refine qcx lg (li n) ?_;refine qcx afc (als (a7 n)) ?_;refine dy ?_;refine bw 8 900 true 1 46 (lf sC []) bqo rfl (CoP.sl rfl (.inr rfl) (fun h=>h) (fun i j hi _=>absurd hi (bmf i))) (.inr rfl) rfl ?_;refine b5 (ka 1 (ka 7 kn)) km (fun i=>⟨[(8,some (.v (.one (.ref 900 (wn n l i).length)))),(9,some (vI i))],[(900,some (.arr true 1 46 (wn n l i).length (lf sC (wn n l i))))]⟩) ((aq (a7 n)).length) kk ?_;rintro i hi;have hlen:=b1i n l i;refine w_8 ?_;refine hcd (fun h1=>?_) (fun h1=>?_)
 ·
  refine c5 ?_;refine qcx (wgx Tryz.func108) (avn l ((aq (a7 n)).getD i default)) ?_;refine bz ?_;refine hcb (fun h2=>?_) (fun h2=>?_)
  ·
   refine w_6 ?_;refine m9 0 ?_;refine r9 1 true ?_;refine w_7 ?_
   first | (refine ⟨i + 1, ?_, ?_, ?_⟩
            · show i + 1 <= _;omega
            · first | omega | (dsimp only;omega)
            exact ⟨⟨⟨_,rfl,(bg (aeb bqi bqj))⟩,tt⟩,⟨⟨_,rfl,(bh (aeb bqi bqj) (CoP.refl _))⟩,trivial⟩⟩)
         | (refine ⟨i + 1, ?_, ?_, ?_⟩
            · show i + 1 <= _;omega
            · first | omega | (dsimp only;omega)
            exact ⟨⟨⟨_,rfl,(bi (acj bqi bqj))⟩,tt⟩,⟨⟨_,rfl,(b8 (acj bqi bqj))⟩,trivial⟩⟩)
  refine w_6 ?_
  first | (refine ⟨i + 1, ?_, ?_, ?_⟩
           · show i + 1 <= _;omega
           · first | omega | (dsimp only;omega)
           exact ⟨⟨⟨_,rfl,(bg (aeb bqi bqj))⟩,tt⟩,⟨⟨_,rfl,(bh (aeb bqi bqj) (CoP.refl _))⟩,trivial⟩⟩)
        | (refine ⟨i + 1, ?_, ?_, ?_⟩
           · show i + 1 <= _;omega
           · first | omega | (dsimp only;omega)
           exact ⟨⟨⟨_,rfl,(bi (acj bqi bqj))⟩,tt⟩,⟨⟨_,rfl,(b8 (acj bqi bqj))⟩,trivial⟩⟩)
 obtain rfl:i = (aq (a7 n)).length:=by omega
 refine w_7 ?_;refine al 4 rfl rfl rfl ?_;exact hx8 rfl rfl rfl (⟨CoC.one (CoP.of_eq (by rw [b26 h0];rfl)),cci h0.symm,trivial⟩)
def bqv {p:Prop} (h:p:=by first | exact .inl ⟨by assumption,by first | rfl | simp_all⟩ | exact .inr ⟨by assumption,by first | rfl | simp_all⟩):p:=h
def bqw {p:Prop} (h:p:=by first | (rw [ag2];done) | (rw [ag2];first | rfl | simp_all)):p:=h
def b8d (n:Int) (l:List Fd) (ps:List AS) (hl:ps.length <= 8589934592):a6 br6 97 [pI n,pP (fdl l),pP (asl ps)] (a8 [pB (ph n l ps)]):=by
 refine hpx (nt:=44) Tryz.func97 ?_;refine aad ?_;refine b5 (ka 0 (ka 1 (ka 2 kn))) km (fun i=>⟨[(7,some (vA (orL (ps.take i)))),(8,some (vB ((ps.take i).any (i6 n l)))),(9,some (vI i))],[]⟩) ps.length ⟨⟨⟨_,rfl,(CoR.refl _)⟩,⟨_,rfl,(CoR.refl _)⟩,tt⟩,trivial⟩ ?_;rintro i hi;refine w_8 ?_;refine hcd (fun h0=>?_) (fun h0=>?_)
 ·
  refine ow ?_;refine ah rfl rfl (fun r1=>?_) (fun r1=>?_)
  ·
   have h1:=r1;(iterate 7 refine k9 (gtf r1) ?_);refine rq rfl rfl rfl rfl rfl ?_ (hp:=r1);refine w_7 ?_
   exact lpx (i + 1) ⟨⟨⟨_,rfl,(bj (by rw [bOr,wt bqi];rfl))⟩,⟨_,rfl,(cob (ajy bqi bqv))⟩,tt⟩,trivial⟩
  have h1:=r1;(iterate 6 refine qy ?_ (hg:=(gff r1)));refine qcx afh (ajj n l (ps.getD i default)) ?_ (hg:=(gff r1));refine w_8 ?_
  exact lpx (i + 1) ⟨⟨⟨_,rfl,(bj (by rw [bOr,wt bqi];rfl))⟩,⟨_,rfl,(cob (ajy bqi bqv))⟩,tt⟩,trivial⟩
 obtain rfl:i = ps.length:=by omega
 refine w_5 ?_;refine ah rfl rfl (fun r2=>?_) (fun r2=>?_)
 ·
  have h2:=r2;(iterate 2 refine qy ?_ (hg:=(gtt r2)));refine qcx lg (li n) ?_ (hg:=(gtt r2));refine qy ?_ (hg:=(gtt r2));refine w_2 ?_;refine ah rfl rfl (fun r3=>?_) (fun r3=>?_)
  ·
   have h3:=tz1 (br r2 r3);(iterate 2 refine qy ?_ (hg:=(gtt r3)));refine qcx (wgx Tryz.func96) (arl l ps hl) ?_ (hg:=(gtt r3));refine w_3 ?_
   exact hx8 rfl rfl rfl (⟨ccb bqw,trivial⟩)
  have h3:=tz2 (br r2 r3);(iterate 3 refine k9 (gft r3) ?_);refine rq rfl rfl rfl rfl rfl ?_ (hp:=r3);refine w_2 ?_
  exact hx8 rfl rfl rfl (⟨ccb bqw,trivial⟩)
 have h2:=r2;(iterate 4 refine k9 (gft r2) ?_);refine rq rfl rfl rfl rfl rfl ?_ (hp:=r2);refine qy ?_;(iterate 3 refine k9 rfl ?_);refine w_3 ?_
 exact hx8 rfl rfl rfl (⟨ccb bqw,trivial⟩)
def bd9 (n:Int) (l:List Fd):a6 br6 43 [pI n,pP (fdl l)] (a8 [pP (asl (uq n l)),pB (qq n l),pI (eo n l 8)]):=by
 refine hpx (nt:=52) Tryz.func43 ?_;refine c5 ?_;refine qcx (wgx Tryz.func95) (b1p n l) ?_;refine dy ?_;refine ah rfl rfl (fun r0=>?_) (fun r0=>?_)
 ·
  have h0:=tz2 (cu r0);(iterate 4 refine k9 (gtf r0) ?_);refine rq rfl rfl rfl rfl rfl ?_ (hp:=r0);refine w_9 ?_;refine hrr ?_
  have hpr:uq n l = [] /\ qq n l = false:=by
   by_cases h8:eo n l 8 = 0
   · exact an1 (by unfold ud;simp_all)
   exact ak2 h8
  exact f9 rfl rfl (⟨CoC.one (wu hpr.1),ccb hpr.2.symm,CoC.refl _,trivial⟩)
 have h0:=tz1 (ct r0);(iterate 2 refine qy ?_ (hg:=(gff r0)));refine qcx (wgx Tryz.func96) (arl l (ek n l) (bmo (a47 n l) bqo)) ?_ (hg:=(gff r0));refine qy ?_ (hg:=(gff r0));refine w_2 ?_
 refine ak _ rfl (fun r1=>?_) (fun r1=>?_)
 ·
  have h1:=cu (au r0 r1);refine w_7 ?_;refine hrr ?_
  have hpr:uq n l = [] /\ qq n l = false:=by
   by_cases h8:eo n l 8 = 0
   · exact an1 (by unfold ud;simp_all)
   exact ak2 h8
  exact f9 rfl rfl (⟨CoC.one (wu hpr.1),ccb hpr.2.symm,CoC.refl _,trivial⟩)
 have h1:=ct (au r0 r1);have h8:eo n l 8 = 0:=by simp_all
 have hall:ud n l = true:=by unfold ud;simp_all
 have hnd:=a4l (ek n l);have hml:(er (ek n l)).length <= 4294967296:=bmo (ajk _) (a47 n l);refine w_4 ?_;refine qcx (wgx Tryz.func85) (ah6 (ek n l) (bmo (a47 n l) bqo)) ?_;refine cq ?_;refine b5 (ka 0 (ka 1 kn)) km (fun j=>⟨[(9,some (.v (.one (.p (asl (fu n l (er (ek n l)) j)))))),(10,some (vI (((er (ek n l)).length:Int) - 1 - j)))],[]⟩) ((er (ek n l)).length) ⟨⟨⟨_,rfl,(CoR.refl _)⟩,⟨_,rfl,(coi bqi)⟩,trivial⟩,trivial⟩ ?_;rintro j hjl;refine w_6 ?_;refine hcd (fun h2=>?_) (fun h2=>?_)
 ·
  have hj:j < (er (ek n l)).length:=by omega
  obtain ⟨htk,hln⟩:=a56 (n:=n) (l:=l) hnd j bqi;have hup:=ah5 n l (er (ek n l)) j;have hstep:=au4 (n:=n) (l:=l) hnd hj;refine w_5 ?_;refine m9 0 ?_;refine w_3 ?_;refine r9 1 true ?_;refine w_4 ?_;refine r9 2 true ?_;refine w_4 ?_;refine al 11 rfl rfl rfl ?_;refine w_4 ?_;refine rc rfl rfl rfl rfl rfl rfl (wgx Tryz.func97) (b8d n l ((fu n l (er (ek n l)) j).take ((er (ek n l)).length - 1 - j) ++ (fu n l (er (ek n l)) j).drop (((er (ek n l)).length - 1 - j) + 1)) (by rw [bmg,bmk,bnv];omega)) (⟨CoC.refl _,CoC.refl _,CoC.one (ag8 bqi bqi bqi),trivial⟩) rfl rfl ?_;refine bz ?_;refine hcb (fun h3=>?_) (fun h3=>?_)
  ·
   refine w_9 ?_
   first | (refine ⟨j + 1, ?_, ?_, ?_⟩
            · show j + 1 <= _;omega
            · first | omega | (dsimp only;omega)
            exact ⟨⟨⟨_,rfl,(by rw [hstep,if_pos bqj];exact CoC.one (ag8 bqi bqi bqi))⟩,⟨_,rfl,(coi bqi)⟩,tt⟩,trivial⟩)
         | (refine ⟨j + 1, ?_, ?_, ?_⟩
            · show j + 1 <= _;omega
            · first | omega | (dsimp only;omega)
            exact ⟨⟨⟨_,rfl,(by rw [hstep,if_neg bqs];exact CoR.refl _)⟩,⟨_,rfl,(coi bqi)⟩,tt⟩,trivial⟩)
  refine w_6 ?_
  first | (refine ⟨j + 1, ?_, ?_, ?_⟩
           · show j + 1 <= _;omega
           · first | omega | (dsimp only;omega)
           exact ⟨⟨⟨_,rfl,(by rw [hstep,if_pos bqj];exact CoC.one (ag8 bqi bqi bqi))⟩,⟨_,rfl,(coi bqi)⟩,tt⟩,trivial⟩)
        | (refine ⟨j + 1, ?_, ?_, ?_⟩
           · show j + 1 <= _;omega
           · first | omega | (dsimp only;omega)
           exact ⟨⟨⟨_,rfl,(by rw [hstep,if_neg bqs];exact CoR.refl _)⟩,⟨_,rfl,(coi bqi)⟩,tt⟩,trivial⟩)
 obtain rfl:j = (er (ek n l)).length:=by omega
 refine w_8 ?_;refine hrr ?_;have hpr:=ays h8 hall;exact f9 rfl rfl (by rw [hpr.1,hpr.2,h8];exact CoL.refl _)
end
end Go.Hx
