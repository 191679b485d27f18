/- A part of the proof: Ds3 Ds4 Ds5 W2a Ch22 Ch25 X31 Cc4 Dw5 Cs43. -/
import Derived.Test.YtkkenjdfbojdlaaGreatDoorEx17
import Derived.Test.YtkkenjdfbojdlaaGreatDoorEx20
import Derived.Test.YtkkenjdfbojdlaaGreatDoorEx21
import Derived.Test.YtkkenjdfbojdlaaGreatDoorEx23
import Derived.Test.YtkkenjdfbojdlaaGreatDoorEx25
import Derived.Test.YtkkenjdfbojdlaaGreatDoorEx30
import Derived.Test.YtkkenjdfbojdlaaGreatDoorEx31
import Derived.Test.YtkkenjdfbojdlaaGreatDoorEx32
import Derived.Test.YtkkenjdfbojdlaaGreatDoorEx33
set_option linter.all false
section
namespace Go.Hx
theorem a6d (a b:Bs):bL (a ++ b) = bL a ++ bL b:=by simp [ByteArray.data_append]
def pkV (l:List Fd) (p s:AS):Bool:=!decide (p &&& ~~~(clo l s) = 0)
def pkL (l:List Fd) (p:AS):List AS:=acm ((bi p).filter fun s=>!pkV l p s)
def aj5 (ns:List Bs) (k:AS):List UInt8:=32 :: bL (txT ns k)
def kx (ns:List Bs) (ks:List AS) (i:Nat):List UInt8:=(ks.take i).flatMap (aj5 ns)
def pg (ns:List Bs) (p:AS):List UInt8:=[112,97,114,116,32] ++ bL (txT ns p) ++ [32,107,101,121,115]
def a21 (ns:List Bs) (l:List Fd) (p:AS):List UInt8:=pg ns p ++ kx ns (pkL l p) (pkL l p).length ++ [10]
def fb (ns:List Bs) (l:List Fd) (ps:List AS) (i:Nat):List UInt8:=(ps.take i).flatMap (a21 ns l)
def a15 (ns:List Bs) (f:Fd):List UInt8:=[108,111,115,116,32] ++ bL (txT ns f.lhs) ++ [32,45,62,32] ++ bL (txT ns f.rhs) ++ [10]
def i7 (ns:List Bs) (l:List Fd) (ls:List Nat) (i:Nat):List UInt8:=(ls.take i).flatMap fun j=>a15 ns (l.getD j default)
def im:List Bs:=[⟨#[108,111,115,115,108,101,115,115]⟩,⟨#[112,114,101,115,101,114,118,105,110,103]⟩,⟨#[116,104,105,114,100]⟩,⟨#[98,111,121,99,101]⟩,⟨#[102,111,117,114,116,104]⟩]
def a74 (c:Int) (i:Nat):Bool:=decide (bj .and .i64 (c.fdiv (2 ^ (min i 64))) 1 = 1)
def a1p (c:Int) (i:Nat):List UInt8:=if a74 c i = true then 32 :: bL (im.getD i default) else []
def gl (c:Int) (i:Nat):List UInt8:=(List.range i).flatMap (a1p c)
def adk (ns:List Bs) (l:List Fd) (ps:List AS) (c:Int):List UInt8 :=
 fb ns l ps ps.length ++ i7 ns l (bv l ps l.length) (bv l ps l.length).length ++ [99,108,97,105,109,115] ++ gl c 5 ++ [10]
section
variable {ns:List Bs} {l:List Fd} {ps:List AS} {c:Int} {i:Nat}
theorem ze {α:Type} [Inhabited α] {f:α → List UInt8} {q:List α} (h:i < q.length):(q.take (i + 1)).flatMap f = (q.take i).flatMap f ++ f (q.getD i default):=by
 rw [List.take_succ,List.getElem?_eq_getElem h,List.flatMap_append,List.getD_eq_getElem?_getD,List.getElem?_eq_getElem h]
 simp
theorem agl {ks:List AS} (h:i < ks.length):kx ns ks (i + 1) = kx ns ks i ++ aj5 ns (ks.getD i default):=ze h
theorem adj (h:i < ps.length):fb ns l ps (i + 1) = fb ns l ps i ++ a21 ns l (ps.getD i default):=ze h
theorem aew {ls:List Nat} (h:i < ls.length):i7 ns l ls (i + 1) = i7 ns l ls i ++ a15 ns (l.getD (ls.getD i default) default):=ze h
theorem a04:gl c (i + 1) = gl c i ++ a1p c i:=by
 unfold gl
 rw [List.range_succ,List.flatMap_append]
 simp
theorem sn {α:Type} {f:α → List UInt8} {K:Nat}:∀ {q:List α},(∀ x ∈ q,(f x).length ≤ K) → (q.flatMap f).length ≤ K * q.length
 | [],_=>by simp
 | x :: q,h=>by
  have h1:=h x (by simp)
  have h2:=sn (q:=q) fun y hy=>h y (by simp [hy])
  rw [List.flatMap_cons,List.length_append,List.length_cons,Nat.mul_succ]
  omega
theorem a1h (h:∀ b ∈ ns,b.size ≤ 1000) (s:AS):(bL (txT ns s)).length ≤ 32033:=by
 have:=b49 (s:=s) h
 rw [a7j]
 omega
theorem a18 (h:∀ b ∈ ns,b.size ≤ 1000) {ks:List AS}:(kx ns ks i).length ≤ 32034 * ks.length:=by
 refine Nat.le_trans (sn (K:=32034) fun x _=>?_) (Nat.mul_le_mul_left _ (by rw [List.length_take];omega))
 have:=a1h h x
 show (bL _).length + 1 ≤ _
 omega
theorem a1f (h:∀ b ∈ ns,b.size ≤ 1000) (p:AS):(pg ns p).length ≤ 32043:=by
 have:=a1h h p
 unfold pg
 simp only [List.length_append,List.length_cons,List.length_nil]
 omega
theorem a7s {p:AS} (hp:p.toNat < 65536):(pkL l p).length ≤ 65537:=by
 unfold pkL
 refine Nat.le_trans (avd _) (Nat.le_trans (List.length_filter_le _ _) ?_)
 unfold bi vm
 have h1:=a1c (s:=p) (p.toNat + 1) p
 have h2:=mo (vr p (p.toNat + 1) p)
 split
 · simp
 omega
theorem arw (h:∀ b ∈ ns,b.size ≤ 1000) {p:AS} (hp:p.toNat < 65536):(a21 ns l p).length ≤ 2100000000:=by
 have h1:=a18 (i:=(pkL l p).length) (ks:=pkL l p) h
 have h2:=a1f h p
 have h3:=a7s (l:=l) hp
 unfold a21
 simp only [List.length_append,List.length_cons,List.length_nil]
 omega
theorem ajf (h:∀ b ∈ ns,b.size ≤ 1000) (hp:∀ p ∈ ps,p.toNat < 65536) (h64:ps.length ≤ 64):(fb ns l ps i).length ≤ 134400000000:=by
 have h1:(fb ns l ps i).length ≤ 2100000000 * (ps.take i).length:=sn (K:=2100000000) fun x hx=>arw h (hp x (List.mem_of_mem_take hx))
 rw [List.length_take] at h1
 omega
theorem amb (h:∀ b ∈ ns,b.size ≤ 1000) (f:Fd):(a15 ns f).length ≤ 64100:=by
 have h1:=a1h h f.lhs
 have h2:=a1h h f.rhs
 unfold a15
 simp only [List.length_append,List.length_cons,List.length_nil]
 omega
theorem ak7 (h:∀ b ∈ ns,b.size ≤ 1000) {ls:List Nat} (hl:ls.length ≤ 64):(i7 ns l ls i).length ≤ 4102400:=by
 have h1:(i7 ns l ls i).length ≤ 64100 * (ls.take i).length:=sn (K:=64100) fun x _=>amb h _
 rw [List.length_take] at h1
 omega
theorem a49 (h:i ≤ 5):(gl c i).length ≤ 100:=by
 have h1:(gl c i).length ≤ 20 * (List.range i).length:=sn (K:=20) fun x hx=>by
  unfold a1p
  split
  · have hx:=List.mem_range.1 hx
    have:(bL (im.getD x default)).length ≤ 10:=by
     match x,hx with
     | 0,_=>decide
     | 1,_=>decide
     | 2,_=>decide
     | 3,_=>decide
     | 4,_=>decide
     | n + 5,hx=>omega
    show _ + 1 ≤ _
    omega
  exact Nat.zero_le _
 rw [List.length_range] at h1
 omega
theorem b59 {s:AS} {n:Nat} (h8:n ≤ 16) (h:sub s (ar n)) {i:Nat} (hi:i ∈ al s):i < n:=by
 obtain ⟨h32,hb⟩:=lx.1 hi
 have:=cb.1 h i h32 hb
 have hn:¬ n ≤ i:=fun hle=>by
  have h2:=(ajd (s:=ar n) (n:=(n:Int)) (by omega) (by omega)).1 (sub_self _)
  have h3:=congrArg (fun x:AS=>x.getLsbD (i - n)) h2
  simp only [Int.toNat_natCast,BitVec.getLsbD_ushiftRight,show n + (i - n) = i by omega,this] at h3
  simp at h3
 omega
theorem b0f {j:Nat} (h:j < (bv l ps l.length).length):(bv l ps l.length).getD j default < l.length:=by
 have hm:(bv l ps l.length).getD j default ∈ bv l ps l.length:=da h
 exact List.mem_range.1 (List.mem_filter.1 hm).1
theorem af1:(bv l ps l.length).length ≤ l.length:=by
 refine Nat.le_trans (List.length_filter_le _ _) ?_
 rw [List.length_range]
 exact Nat.le_refl _
end
end Go.Hx
end
section
namespace Go.Hx
def oz (ns:List Bs) (l m:List Fd) (ps:List AS):Int:=if jw ns = 0 then (if lvE ns.length ps = 0 then bw ns.length l m else lvE ns.length ps) else jw ns
def a8s (ns:List Bs) (l m:List Fd) (ps:List AS) (c:Int):Bs:=if oz ns l m ps = 0 then bOf (adk ns l ps c) else ⟨#[]⟩
section
variable {ns:List Bs} {l m:List Fd} {ps:List AS} {c:Int} {X:List UInt8}
theorem b7e (h:¬ jw ns = 0):oz ns l m ps = jw ns ∧ a8s ns l m ps c = ⟨#[]⟩:=by
 have e:oz ns l m ps = jw ns:=if_neg h
 exact ⟨e,if_neg (by rw [e];exact h)⟩
theorem b7m (h:jw ns = 0) (h2:¬ lvE ns.length ps = 0):oz ns l m ps = lvE ns.length ps ∧ a8s ns l m ps c = ⟨#[]⟩:=by
 have e:oz ns l m ps = lvE ns.length ps:=by unfold oz;rw [if_pos h,if_neg h2]
 exact ⟨e,if_neg (by rw [e];exact h2)⟩
theorem b6g (h:jw ns = 0) (h2:lvE ns.length ps = 0) (h3:¬ bw ns.length l m = 0):oz ns l m ps = bw ns.length l m ∧ a8s ns l m ps c = ⟨#[]⟩:=by
 have e:oz ns l m ps = bw ns.length l m:=by unfold oz;rw [if_pos h,if_pos h2]
 exact ⟨e,if_neg (by rw [e];exact h3)⟩
theorem b8k (h:jw ns = 0) (h2:lvE ns.length ps = 0) (h3:bw ns.length l m = 0):oz ns l m ps = 0 ∧ a8s ns l m ps c = bOf (adk ns l ps c):=by
 have e:oz ns l m ps = 0:=by unfold oz;rw [if_pos h,if_pos h2,h3]
 exact ⟨e,if_pos e⟩
theorem b5s {p k:AS} (h:k ∈ pkL l p):sub k p:=by
 have h1:=(ax0.1 h).1
 have h2:=(List.mem_filter.1 h1).1
 unfold bi at h2
 split at h2
 · cases h2
 exact vk.1 h2
theorem szA (a b:Bs):(a ++ b).size = a.size + b.size:=ByteArray.size_append
theorem ban (h:∀ b ∈ ns,b.size ≤ 1000) (s:AS):(txT ns s).size ≤ 32033:=a1h h s
theorem b51 {p:AS} {ks:List AS}:X ++ bL ((⟨#[112,97,114,116,32]⟩ ++ txT ns p) ++ ⟨#[32,107,101,121,115]⟩) = X ++ pg ns p ++ kx ns ks 0:=by
 simp [a6d,pg,kx]
theorem b8v {ks:List AS} {k:Nat} (h:k < ks.length):(X ++ kx ns ks k) ++ bL (⟨#[32]⟩ ++ txT ns (ks.getD k default)) = X ++ kx ns ks (k + 1):=by
 rw [agl h]
 simp [a6d,aj5]
theorem b12 {i:Nat} (h:i < ps.length):(fb ns l ps i ++ pg ns (ps.getD i default) ++ kx ns (pkL l (ps.getD i default)) (pkL l (ps.getD i default)).length) ++ bL ⟨#[10]⟩ = fb ns l ps (i + 1):=by
 rw [adj h]
 simp [a21]
theorem b27 {ls:List Nat} {j:Nat} (h:j < ls.length) (f:Fd) (hf:f = l.getD (ls.getD j default) default) :
 (X ++ i7 ns l ls j) ++ bL ((((⟨#[108,111,115,116,32]⟩ ++ txT ns f.lhs) ++ ⟨#[32,45,62,32]⟩) ++ txT ns f.rhs) ++ ⟨#[10]⟩) = X ++ i7 ns l ls (j + 1):=by
 subst hf
 rw [aew h]
 simp [a6d,a15]
theorem aq7 {i:Nat} (h:a74 c i = true):(X ++ gl c i) ++ bL (⟨#[32]⟩ ++ im.getD i default) = X ++ gl c (i + 1):=by
 rw [a04]
 unfold a1p
 rw [if_pos h]
 simp [a6d]
theorem am4 {i:Nat} (h:a74 c i = false):X ++ gl c i = X ++ gl c (i + 1):=by
 rw [a04]
 unfold a1p
 rw [if_neg (by rw [h];exact Bool.false_ne_true),List.append_nil]
theorem awp {i:Nat} {f:Nat → Nat → PV} (hi:i < 5) (h0:f 0 0 = bsC (im.getD 0 default) 0) (h1:f 1 0 = bsC (im.getD 1 default) 0) (h2:f 2 0 = bsC (im.getD 2 default) 0) (h3:f 3 0 = bsC (im.getD 3 default) 0) (h4:f 4 0 = bsC (im.getD 4 default) 0):f i 0 = bsC (im.getD i default) 0:=by
 match i,hi with
 | 0,_=>exact h0
 | 1,_=>exact h1
 | 2,_=>exact h2
 | 3,_=>exact h3
 | 4,_=>exact h4
theorem ado {i:Nat} (hi:i < 5):(im.getD i default).size ≤ 10:=by
 match i,hi with
 | 0,_=>decide
 | 1,_=>decide
 | 2,_=>decide
 | 3,_=>decide
 | 4,_=>decide
end
end Go.Hx
end
section
namespace Go.Hx
section
variable {n:Int} {ps:List AS} {p m l:List Fd}
abbrev tb0 (n:Int) (ps:List AS):List Rw:=bq (c8 n ps)
abbrev trS (n:Int) (ps:List AS) (p m:List Fd):List St:=(lsT n ps p m).1
abbrev trT (n:Int) (ps:List AS) (p m:List Fd) (i:Nat):List Rw:=(trL n p m (tb0 n ps) (trS n ps p m)).getD i default
theorem b75 (h:¬ lsC n ps p m = 0):prS n ps p m = [] ∧ prC n ps p m = lsC n ps p m:=by
 have hc:(rcR n ps p m).2.2 = lsC n ps p m:=avj
 unfold prS prC
 rw [hc,if_neg h,if_neg h]
 exact ⟨rfl,rfl⟩
theorem a4k (hls:lsC n ps p m = 0) {i:Nat} (hi:i ≤ (trS n ps p m).length) (hI:∀ j,j < i → nx n (trT n ps p m j) = false) (h:nx n (trT n ps p m i) = true):prS n ps p m = (trS n ps p m).take i ∧ prC n ps p m = 0:=by
 have hq:=b06 hls
 have hi':i ≤ (lsT n ps p m).1.length:=hi
 have hc:(rcR n ps p m).2.2 = 0:=by rw [hq]
 have hx:prX n ps p m = (i:Int):=by
  unfold prX
  rw [hq]
  refine rz (p:=fun a:Int × List Rw=>nx n a.2) (i:=i) (by show i < (p6 n p m _ _).length;rw [ad4];omega) (fun j hj=>?_) ?_
  · show nx n ((p6 n p m _ _).getD j default).2 = false
    rw [a83 (by omega)]
    exact hI j hj
  show nx n ((p6 n p m _ _).getD i default).2 = true
  rw [a83 (by omega)]
  exact h
 unfold prS prC
 rw [if_pos hc,if_pos hc,hx,if_neg (by omega),if_neg (by omega),hq]
 exact ⟨rfl,rfl⟩
theorem b30 (hls:lsC n ps p m = 0) (hI:∀ j,j < (trS n ps p m).length + 1 → nx n (trT n ps p m j) = false):prS n ps p m = [] ∧ prC n ps p m = 11:=by
 have hq:=b06 hls
 have hc:(rcR n ps p m).2.2 = 0:=by rw [hq]
 have hx:prX n ps p m = -1:=by
  unfold prX
  rw [hq]
  refine rr (p:=fun a:Int × List Rw=>nx n a.2) fun j hj=>?_
  have hj:j < (p6 n p m (bq (c8 n ps)) (lsT n ps p m).1).length:=hj
  rw [ad4] at hj
  show nx n ((p6 n p m _ _).getD j default).2 = false
  rw [a83 (by omega)]
  exact hI j hj
 unfold prS prC
 rw [if_pos hc,if_pos hc,hx,if_pos (by omega),if_pos (by omega)]
 exact ⟨rfl,rfl⟩
theorem bbe (hls:lsC n ps p m = 0) (hb:lsB n ps p m = true):prC n ps p m = 0:=by
 obtain ⟨hv,hbe⟩:=xh hls
 have hc:(lsT n ps p m).2.2 = 0:=(b09 hv hbe).symm.trans hls
 obtain ⟨sts,lend,e,htr,_,hif⟩:=al6 hv hbe hc
 have hin:dx n ∈ lend:=by
  unfold lsB at hb
  rw [Bool.and_eq_true,e] at hb
  obtain ⟨r,hr,he⟩:=List.any_eq_true.1 hb.2
  rw [← of_decide_eq_true he]
  exact hr
 obtain ⟨t,ht,hf⟩:=hif.2 hin
 apply Classical.byContradiction
 intro hne
 have hs:trS n ps p m = sts:=by show (lsT n ps p m).1 = sts;rw [e]
 have hall:∀ j,j < (trS n ps p m).length + 1 → nx n (trT n ps p m j) = false:=by
  apply Classical.byContradiction
  intro hno
  have:∃ j,j < (trS n ps p m).length + 1 ∧ nx n (trT n ps p m j) = true:=by
   apply Classical.byContradiction
   intro hno2
   exact hno fun j hj=>Bool.eq_false_iff.2 fun h=>hno2 ⟨j,hj,h⟩
  obtain ⟨j,hj,hjt⟩:=this
  have key:∀ k,k ≤ j → (∀ i,i < k → nx n (trT n ps p m i) = false) ∨ prC n ps p m = 0:=by
   intro k
   induction k with
   | zero=>exact fun _=>.inl fun i hi=>absurd hi (Nat.not_lt_zero i)
   | succ k ih =>
    intro hk
    rcases ih (by omega) with h | h
    · rcases Bool.eq_false_or_eq_true (nx n (trT n ps p m k)) with hb2 | hb2
      · exact .inr (a4k hls (i:=k) (by omega) h hb2).2
      refine .inl fun i hi=>?_
      by_cases hik:i = k
      · rw [hik];exact hb2
      exact h i (by omega)
    exact .inr h
  rcases key j (Nat.le_refl j) with h | h
  · exact hne (a4k hls (i:=j) (by omega) h hjt).2
  exact hne h
 obtain ⟨k,hk,he⟩:=List.getElem_of_mem ht
 rw [y9] at hk
 have h1:=hall k (by rw [hs];exact hk)
 have h2:trT n ps p m k = t:=by
  show (trL n p m (tb0 n ps) (trS n ps p m)).getD k default = t
  rw [hs,List.getD_eq_getElem?_getD,List.getElem?_eq_getElem (by rw [y9];exact hk),← he]
  rfl
 rw [h2] at h1
 have:nx n t = true:=List.any_eq_true.2 ⟨dx n,hf,decide_eq_true rfl⟩
 rw [this] at h1
 cases h1
def thB (n:Int) (l:List Fd) (p:AS):Bool:=a10 n l p && decide (vg n l p = 0)
def byB (l:List Fd) (p:AS):Bool:=!re l p && decide (o8 l p = 0)
def foB (n:Int) (l m:List Fd) (p:AS):Bool:=!(a1y n l m p).2 && decide (ck4 n l m p = 0)
def ss (a b c d:Bool):Int:=(bif a then 2 else 0) + ((bif b then 4 else 0) + ((bif c then 8 else 0) + (bif d then 16 else 0)))
def a3f (n:Int) (l m:List Fd) (ps:List AS):Int:=ss (n4 l ps) (ps.all (thB n l)) (ps.all (byB l)) (ps.all (foB n l m))
def qe (n:Int) (l m:List Fd) (ps:List AS):Int:=if lsC n ps l m = 0 then a3f n l m ps + (bif lsB n ps l m then 1 else 0) else 0
theorem az5 (h:¬ lsC n ps l m = 0):qe n l m ps = 0:=if_neg h
theorem ba3 (h:lsC n ps l m = 0) (hb:lsB n ps l m = true):qe n l m ps = bj .or .i64 (a3f n l m ps) 1:=by
 unfold qe
 rw [if_pos h,hb]
 unfold a3f
 generalize n4 l ps = a
 generalize ps.all (thB n l) = b
 generalize ps.all (byB l) = c
 generalize ps.all (foB n l m) = d
 cases a <;> cases b <;> cases c <;> cases d <;> decide
theorem bb4 (h:lsC n ps l m = 0) (hb:lsB n ps l m = false):qe n l m ps = a3f n l m ps:=by
 unfold qe
 rw [if_pos h,hb]
 exact Int.add_zero _
theorem b2w (h:lsC n ps l m = 0):decide (bj .and .i64 (qe n l m ps) 1 = 0) = !lsB n ps l m:=by
 unfold qe
 rw [if_pos h]
 unfold a3f
 generalize n4 l ps = a
 generalize ps.all (thB n l) = b
 generalize ps.all (byB l) = c
 generalize ps.all (foB n l m) = d
 generalize lsB n ps l m = e
 cases a <;> cases b <;> cases c <;> cases d <;> cases e <;> decide
theorem ard {a:Bool} (h:a = true):bj .or .i64 0 2 = ss a false false false:=by rw [h];decide
theorem an9 {a b:Bool} (h:b = true):bj .or .i64 (ss a false false false) 4 = ss a b false false:=by rw [h];cases a <;> decide
theorem aoq {a b c:Bool} (h:c = true):bj .or .i64 (ss a b false false) 8 = ss a b c false:=by rw [h];cases a <;> cases b <;> decide
theorem asz {a b c d:Bool} (h:d = true):bj .or .i64 (ss a b c false) 16 = ss a b c d:=by rw [h];cases a <;> cases b <;> cases c <;> decide
abbrev Dsg:=List AS × Int × List St
abbrev dsn (d:Dsg):PC:=.agg [asl d.1, .raw (.int .i64 d.2.1),stl d.2.2]
def fuD (n:Int) (l m:List Fd) (ps:List AS):Dsg:=if lsC n ps l m = 0 then (ps,qe n l m ps,if lsB n ps l m = true then prS n ps l m else []) else ([],0,[])
theorem bci (h:¬ lsC n ps l m = 0):fuD n l m ps = ([],0,[]):=if_neg h
theorem bd2 (h:lsC n ps l m = 0) (hb:lsB n ps l m = true):fuD n l m ps = (ps,qe n l m ps,prS n ps l m):=by unfold fuD;rw [if_pos h,if_pos hb]
theorem bcx (h:lsC n ps l m = 0) (hb:lsB n ps l m = false):fuD n l m ps = (ps,qe n l m ps,[]):=by unfold fuD;rw [if_pos h,if_neg (by rw [hb];exact Bool.false_ne_true)]
def jq (n:Int) (l m:List Fd):Int:=if n < 0 ∨ 8 < n then 7 else bw n l m
def ju (n:Int) (l m:List Fd) (f:Int):List AS × Int:=if f = 3 then (a0s n l,bg n l) else if f = 4 then (abw n l,fh n l 8) else if f = 5 then (bcf n l m,ck4 n l m 0) else ([],1)
theorem bc3 {f:Int} (h:f = 3):ju n l m f = (a0s n l,bg n l):=if_pos h
theorem bcg {f:Int} (h:¬ f = 3) (h2:f = 4):ju n l m f = (abw n l,fh n l 8):=by unfold ju;rw [if_neg h,if_pos h2]
theorem bcc {f:Int} (h:¬ f = 3) (h2:¬ f = 4) (h3:¬ f = 5):ju n l m f = ([],1):=by unfold ju;rw [if_neg h,if_neg h2,if_neg h3]
def goD (n:Int) (l m:List Fd) (q:List AS × Int):Dsg:=if jq n l m = 0 then (if q.2 = 0 then fuD n l m q.1 else ([],0,[])) else ([],0,[])
def goE (n:Int) (l m:List Fd) (q:List AS × Int):Int:=if jq n l m = 0 then (if q.2 = 0 then lsC n q.1 l m else q.2) else jq n l m
theorem b6v {q:List AS × Int} (h:¬ jq n l m = 0):goD n l m q = ([],0,[]) ∧ goE n l m q = jq n l m:=⟨if_neg h,if_neg h⟩
theorem b91 {q:List AS × Int} (h:jq n l m = 0) (h2:¬ q.2 = 0):goD n l m q = ([],0,[]) ∧ goE n l m q = q.2:=by
 unfold goD goE
 rw [if_pos h,if_neg h2,if_pos h,if_neg h2]
 exact ⟨rfl,rfl⟩
theorem b7b {q:List AS × Int} (h:jq n l m = 0) (h2:q.2 = 0):goD n l m q = fuD n l m q.1 ∧ goE n l m q = lsC n q.1 l m:=by
 unfold goD goE
 rw [if_pos h,if_pos h2,if_pos h,if_pos h2]
 exact ⟨rfl,rfl⟩
def m7 (n:Int) (l:List Fd):List AS × Int:=if fh n l 8 = 0 then (if rj n l = true then (wh n l,0) else (a0s n l,bg n l)) else (wh n l,fh n l 8)
theorem bc0 (h:¬ fh n l 8 = 0):m7 n l = (wh n l,fh n l 8):=if_neg h
theorem bct (h:fh n l 8 = 0) (h2:rj n l = true):m7 n l = (wh n l,fh n l 8):=by unfold m7;rw [if_pos h,if_pos h2,h]
theorem bc2 (h:fh n l 8 = 0) (h2:rj n l = false):m7 n l = (a0s n l,bg n l):=by unfold m7;rw [if_pos h,if_neg (by rw [h2];exact Bool.false_ne_true)]
theorem abi (h:n < 0 ∨ 8 < n):jq n l m = 7:=if_pos h
theorem abm (h:¬ (n < 0 ∨ 8 < n)):jq n l m = bw n l m:=if_neg h
end
end Go.Hx
end
section
namespace Go.Hx
open Go.Proofs
theorem axu (l:List AS):ae Tryz.prog 40 [pP (asl l),pP (asl l)] (ai [pB true]):=by
 have:=b81 l l
 rw [decide_eq_true rfl] at this
 exact this
def u8A (b:BitVec 8):AS:=b.setWidth 32
abbrev u8C:BitVec 8 → Nat → PV:=fun b _=>.raw (.int .u8 (b.toNat:Int))
end Go.Hx
end
section
namespace Go.Hx
structure Rcp where
 n:BitVec 8
 f:List Dp
 m:List Dp
 p:List (BitVec 8)
deriving Inhabited
def Rcp.num (d:Rcp) (k:Nat):Int:=1 + ((d.n.toNat % k:Nat):Int)
abbrev Rcp.pc (d:Rcp):PC:=.agg [.raw (.int .u8 (d.n.toNat:Int)),dpl d.f,dpl d.m,psl 1 u8C d.p]
def u8S (n:Int) (b:BitVec 8):AS:=b.setWidth 32 &&& ar n
end Go.Hx
end
section
namespace Go.Hx
theorem ady {n:Int} {l:List Rw} {p m:List Fd} {mu:Bool} {i a b:Int} (h:¬ ckE n l p m = 0):jn n l p m mu i a b = (0,[],ckE n l p m):=if_neg h
theorem jr {n:Int} {l:List Rw} {p m:List Fd} {mu:Bool} {i a b:Int} (h:ckE n l p m = 0) (h3:cu l p m mu i a b):jn n l p m mu i a b = (0,[],1):=(if_pos h).trans (if_pos h3)
theorem a4q {n:Int} {l:List Rw} {p m:List Fd} {mu:Bool} {i a b:Int} (h:ckE n l p m = 0) (h3:¬ cu l p m mu i a b):jn n l p m mu i a b = ee n l p m (mu,i.toNat,a.toNat,b.toNat):=(if_pos h).trans (if_neg h3)
theorem lb {a b:Int} (h:(if b < a then b else a) < 0):a < 0 ∨ b < 0:=by split at h <;> omega
theorem l5 {a b k:Int} (h:k ≤ (if a < b then b else a)):k ≤ a ∨ k ≤ b:=by split at h <;> omega
theorem al4 {a b:Int} (h:¬ (if b < a then b else a) < 0):0 ≤ a ∧ 0 ≤ b:=by split at h <;> omega
theorem ap3 {a b k:Int} (h:¬ k ≤ (if a < b then b else a)):a < k ∧ b < k:=by split at h <;> omega
def stQ (x y:St):Bool:=(x.1 == y.1) && (decide ((x.2.1:Int) = (y.2.1:Int)) && (decide ((x.2.2.1:Int) = (y.2.2.1:Int)) && decide ((x.2.2.2:Int) = (y.2.2.2:Int))))
end Go.Hx
end
section
namespace Go.Hx
open Go.Proofs
set_option maxRecDepth 100000
set_option maxHeartbeats 1000000
theorem b5h:goodFn Tryz.prog 129:=⟨Tryz.f129,Tryz.func129,by kernel_rfl,by kernel_rfl⟩
theorem avx (n:Int) (l:List Rw) (p m:List Fd) (i a b:Int):ae Tryz.prog 129 [pT n l,pP (fdl p),pP (fdl m), .agg [.raw (.bool true), .raw (.int .i64 i), .raw (.int .i64 a), .raw (.int .i64 b)]] (ai [pT (jn n l p m true i a b).1 (jn n l p m true i a b).2.1,pI (jn n l p m true i a b).2.2]):=by
 refine a8 (nt:=69) a7 Tryz.func129 rfl rfl l9 ?_;refine sx7 ?_;refine m9 0 ?_;refine m9 1 ?_;refine m9 2 ?_;refine w_8 ?_;refine rc rfl rfl rfl rfl rfl rfl a8y (a5v n l p m) (CoL.refl _) rfl rfl ?_
 refine w_7 ?_;refine a6 _ rfl (fun r0=>?_) (fun r0=>?_)
 ·
  have h0:=r0
  have h0:=of_decide_eq_false (ap h0)
  try simp only [ty] at h0
  refine w_8 ?_;refine ⟨.inr rfl, ?_⟩
  have he:=ady (n:=n) (l:=l) (p:=p) (m:=m) (mu:=true) (i:=i) (a:=a) (b:=b) (by assumption)
  exact f9 rfl rfl (by rw [he];exact ⟨CoC.agg ⟨CoP.refl _,df,trivial⟩,CoC.refl _,trivial⟩)
 have h0:=r0
 have h0:=of_decide_eq_true (am h0)
 try simp only [ty] at h0
 have hck:ckE n l p m = 0:=by assumption
 obtain ⟨hT,hbe,hpa⟩:=aep hck
 refine ld ?_;refine a6 _ rfl (fun _=>?_) (fun e=>by cases e);refine fl ?_;refine bc rfl rfl (fun r1=>?_) (fun r1=>?_)
 ·
  have h1:=of_decide_eq_true r1
  try simp only [ty] at h1
  (iterate 4 refine k9 (gtf r1) ?_);refine rq rfl rfl rfl rfl rfl ?_ (hp:=r1);refine qy ?_;(iterate 5 refine k9 rfl ?_);refine w_2 ?_;(iterate 6 refine k9 rfl ?_);refine w_2 ?_;(iterate 9 refine k9 rfl ?_);refine w_2 ?_
  refine a6 _ rfl (fun _=>?_) (fun e=>by cases e);refine w_7 ?_;refine ⟨.inr rfl, ?_⟩
  have hbad:cu l p m true i a b:=by
   first
    | (unfold cu;first | exact .inl (by omega) | exact .inr (.inl (by omega)) | exact .inr (.inr (.inl (by omega))) | exact .inr (.inr (.inr (.inl (by omega)))) | exact .inr (.inr (.inr (.inr (.inl (by omega))))) | exact .inr (.inr (.inr (.inr (.inr (.inl (by omega)))))) | exact .inr (.inr (.inr (.inr (.inr (.inr (.inl ⟨rfl,by omega⟩)))))))
    | (refine (lb (a:=a) (b:=b) ?_).elim (fun hq=>?_) (fun hq=>?_) <;> first | assumption | (unfold cu;first | exact .inl (by omega) | exact .inr (.inl (by omega)) | exact .inr (.inr (.inl (by omega))) | exact .inr (.inr (.inr (.inl (by omega)))) | exact .inr (.inr (.inr (.inr (.inl (by omega))))) | exact .inr (.inr (.inr (.inr (.inr (.inl (by omega)))))) | exact .inr (.inr (.inr (.inr (.inr (.inr (.inl ⟨rfl,by omega⟩))))))))
    | (refine (l5 (a:=a) (b:=b) (k:=(l.length:Int)) ?_).elim (fun hq=>?_) (fun hq=>?_) <;> first | assumption | (unfold cu;first | exact .inl (by omega) | exact .inr (.inl (by omega)) | exact .inr (.inr (.inl (by omega))) | exact .inr (.inr (.inr (.inl (by omega)))) | exact .inr (.inr (.inr (.inr (.inl (by omega))))) | exact .inr (.inr (.inr (.inr (.inr (.inl (by omega)))))) | exact .inr (.inr (.inr (.inr (.inr (.inr (.inl ⟨rfl,by omega⟩))))))))
  have he:=jr hck hbad
  exact f9 rfl rfl (by rw [he];exact ⟨CoC.agg ⟨CoP.refl _,df,trivial⟩,CoC.refl _,trivial⟩)
 have h1:=of_decide_eq_false r1
 try simp only [ty] at h1
 (iterate 4 refine qy ?_ (hg:=(gff r1)));refine w_2 ?_;refine bc rfl rfl (fun r2=>?_) (fun r2=>?_)
 ·
  have h2:=r2
  have h2:=bu r1 h2
  have h2:=of_decide_eq_true h2
  try simp only [ty] at h2
  (iterate 5 refine k9 (gtf r2) ?_);refine rq rfl rfl rfl rfl rfl ?_ (hp:=r2);refine qy ?_;(iterate 6 refine k9 rfl ?_);refine w_2 ?_;(iterate 9 refine k9 rfl ?_);refine w_2 ?_
  refine a6 _ rfl (fun _=>?_) (fun e=>by cases e);refine w_7 ?_;refine ⟨.inr rfl, ?_⟩
  have hbad:cu l p m true i a b:=by
   first
    | (unfold cu;first | exact .inl (by omega) | exact .inr (.inl (by omega)) | exact .inr (.inr (.inl (by omega))) | exact .inr (.inr (.inr (.inl (by omega)))) | exact .inr (.inr (.inr (.inr (.inl (by omega))))) | exact .inr (.inr (.inr (.inr (.inr (.inl (by omega)))))) | exact .inr (.inr (.inr (.inr (.inr (.inr (.inl ⟨rfl,by omega⟩)))))))
    | (refine (lb (a:=a) (b:=b) ?_).elim (fun hq=>?_) (fun hq=>?_) <;> first | assumption | (unfold cu;first | exact .inl (by omega) | exact .inr (.inl (by omega)) | exact .inr (.inr (.inl (by omega))) | exact .inr (.inr (.inr (.inl (by omega)))) | exact .inr (.inr (.inr (.inr (.inl (by omega))))) | exact .inr (.inr (.inr (.inr (.inr (.inl (by omega)))))) | exact .inr (.inr (.inr (.inr (.inr (.inr (.inl ⟨rfl,by omega⟩))))))))
    | (refine (l5 (a:=a) (b:=b) (k:=(l.length:Int)) ?_).elim (fun hq=>?_) (fun hq=>?_) <;> first | assumption | (unfold cu;first | exact .inl (by omega) | exact .inr (.inl (by omega)) | exact .inr (.inr (.inl (by omega))) | exact .inr (.inr (.inr (.inl (by omega)))) | exact .inr (.inr (.inr (.inr (.inl (by omega))))) | exact .inr (.inr (.inr (.inr (.inr (.inl (by omega)))))) | exact .inr (.inr (.inr (.inr (.inr (.inr (.inl ⟨rfl,by omega⟩))))))))
  have he:=jr hck hbad
  exact f9 rfl rfl (by rw [he];exact ⟨CoC.agg ⟨CoP.refl _,df,trivial⟩,CoC.refl _,trivial⟩)
 have h2:=r2
 have h2:=bu r1 h2
 have h2:=of_decide_eq_false h2
 try simp only [ty] at h2
 (iterate 5 refine qy ?_ (hg:=(gff r2)));refine w_2 ?_;refine bc rfl rfl (fun r3=>?_) (fun r3=>?_)
 ·
  have h3:=r3
  have h3:=bu r2 h3
  have h3:=of_decide_eq_true h3
  try simp only [ty] at h3
  (iterate 6 refine k9 (gtf r3) ?_);refine rq rfl rfl rfl rfl rfl ?_ (hp:=r3);refine qy ?_;(iterate 9 refine k9 rfl ?_);refine w_2 ?_;refine a6 _ rfl (fun _=>?_) (fun e=>by cases e);refine w_7 ?_
  refine ⟨.inr rfl, ?_⟩
  have hbad:cu l p m true i a b:=by
   first
    | (unfold cu;first | exact .inl (by omega) | exact .inr (.inl (by omega)) | exact .inr (.inr (.inl (by omega))) | exact .inr (.inr (.inr (.inl (by omega)))) | exact .inr (.inr (.inr (.inr (.inl (by omega))))) | exact .inr (.inr (.inr (.inr (.inr (.inl (by omega)))))) | exact .inr (.inr (.inr (.inr (.inr (.inr (.inl ⟨rfl,by omega⟩)))))))
    | (refine (lb (a:=a) (b:=b) ?_).elim (fun hq=>?_) (fun hq=>?_) <;> first | assumption | (unfold cu;first | exact .inl (by omega) | exact .inr (.inl (by omega)) | exact .inr (.inr (.inl (by omega))) | exact .inr (.inr (.inr (.inl (by omega)))) | exact .inr (.inr (.inr (.inr (.inl (by omega))))) | exact .inr (.inr (.inr (.inr (.inr (.inl (by omega)))))) | exact .inr (.inr (.inr (.inr (.inr (.inr (.inl ⟨rfl,by omega⟩))))))))
    | (refine (l5 (a:=a) (b:=b) (k:=(l.length:Int)) ?_).elim (fun hq=>?_) (fun hq=>?_) <;> first | assumption | (unfold cu;first | exact .inl (by omega) | exact .inr (.inl (by omega)) | exact .inr (.inr (.inl (by omega))) | exact .inr (.inr (.inr (.inl (by omega)))) | exact .inr (.inr (.inr (.inr (.inl (by omega))))) | exact .inr (.inr (.inr (.inr (.inr (.inl (by omega)))))) | exact .inr (.inr (.inr (.inr (.inr (.inr (.inl ⟨rfl,by omega⟩))))))))
  have he:=jr hck hbad
  exact f9 rfl rfl (by rw [he];exact ⟨CoC.agg ⟨CoP.refl _,df,trivial⟩,CoC.refl _,trivial⟩)
 have h3:=r3
 have h3:=bu r2 h3
 have h3:=of_decide_eq_false h3
 try simp only [ty] at h3
 (iterate 6 refine qy ?_ (hg:=(gff r3)));refine w_2 ?_;refine bc rfl rfl (fun r4=>?_) (fun r4=>?_)
 ·
  have h4:=r4
  have h4:=bu r3 h4
  have h4:=of_decide_eq_true h4
  try simp only [ty] at h4
  (iterate 9 refine k9 (gtf r4) ?_);refine rq rfl rfl rfl rfl rfl ?_ (hp:=r4);refine b8 ?_;refine a6 _ rfl (fun _=>?_) (fun e=>by cases e);refine w_7 ?_;refine ⟨.inr rfl, ?_⟩
  have hbad:cu l p m true i a b:=by
   first
    | (unfold cu;first | exact .inl (by omega) | exact .inr (.inl (by omega)) | exact .inr (.inr (.inl (by omega))) | exact .inr (.inr (.inr (.inl (by omega)))) | exact .inr (.inr (.inr (.inr (.inl (by omega))))) | exact .inr (.inr (.inr (.inr (.inr (.inl (by omega)))))) | exact .inr (.inr (.inr (.inr (.inr (.inr (.inl ⟨rfl,by omega⟩)))))))
    | (refine (lb (a:=a) (b:=b) ?_).elim (fun hq=>?_) (fun hq=>?_) <;> first | assumption | (unfold cu;first | exact .inl (by omega) | exact .inr (.inl (by omega)) | exact .inr (.inr (.inl (by omega))) | exact .inr (.inr (.inr (.inl (by omega)))) | exact .inr (.inr (.inr (.inr (.inl (by omega))))) | exact .inr (.inr (.inr (.inr (.inr (.inl (by omega)))))) | exact .inr (.inr (.inr (.inr (.inr (.inr (.inl ⟨rfl,by omega⟩))))))))
    | (refine (l5 (a:=a) (b:=b) (k:=(l.length:Int)) ?_).elim (fun hq=>?_) (fun hq=>?_) <;> first | assumption | (unfold cu;first | exact .inl (by omega) | exact .inr (.inl (by omega)) | exact .inr (.inr (.inl (by omega))) | exact .inr (.inr (.inr (.inl (by omega)))) | exact .inr (.inr (.inr (.inr (.inl (by omega))))) | exact .inr (.inr (.inr (.inr (.inr (.inl (by omega)))))) | exact .inr (.inr (.inr (.inr (.inr (.inr (.inl ⟨rfl,by omega⟩))))))))
  have he:=jr hck hbad
  exact f9 rfl rfl (by rw [he];exact ⟨CoC.agg ⟨CoP.refl _,df,trivial⟩,CoC.refl _,trivial⟩)
 have h4:=r4
 have h4:=bu r3 h4
 have h4:=of_decide_eq_false h4
 try simp only [ty] at h4
 (iterate 9 refine qy ?_ (hg:=(gff r4)));refine w_2 ?_;refine a6 _ rfl (fun r5=>?_) (fun r5=>?_)
 ·
  have h5:=r5
  have h5:=bu r4 h5
  have h5:=of_decide_eq_true h5
  try simp only [ty] at h5
  refine w_7 ?_;refine ⟨.inr rfl, ?_⟩
  have hbad:cu l p m true i a b:=by
   first
    | (unfold cu;first | exact .inl (by omega) | exact .inr (.inl (by omega)) | exact .inr (.inr (.inl (by omega))) | exact .inr (.inr (.inr (.inl (by omega)))) | exact .inr (.inr (.inr (.inr (.inl (by omega))))) | exact .inr (.inr (.inr (.inr (.inr (.inl (by omega)))))) | exact .inr (.inr (.inr (.inr (.inr (.inr (.inl ⟨rfl,by omega⟩)))))))
    | (refine (lb (a:=a) (b:=b) ?_).elim (fun hq=>?_) (fun hq=>?_) <;> first | assumption | (unfold cu;first | exact .inl (by omega) | exact .inr (.inl (by omega)) | exact .inr (.inr (.inl (by omega))) | exact .inr (.inr (.inr (.inl (by omega)))) | exact .inr (.inr (.inr (.inr (.inl (by omega))))) | exact .inr (.inr (.inr (.inr (.inr (.inl (by omega)))))) | exact .inr (.inr (.inr (.inr (.inr (.inr (.inl ⟨rfl,by omega⟩))))))))
    | (refine (l5 (a:=a) (b:=b) (k:=(l.length:Int)) ?_).elim (fun hq=>?_) (fun hq=>?_) <;> first | assumption | (unfold cu;first | exact .inl (by omega) | exact .inr (.inl (by omega)) | exact .inr (.inr (.inl (by omega))) | exact .inr (.inr (.inr (.inl (by omega)))) | exact .inr (.inr (.inr (.inr (.inl (by omega))))) | exact .inr (.inr (.inr (.inr (.inr (.inl (by omega)))))) | exact .inr (.inr (.inr (.inr (.inr (.inr (.inl ⟨rfl,by omega⟩))))))))
  have he:=jr hck hbad
  exact f9 rfl rfl (by rw [he];exact ⟨CoC.agg ⟨CoP.refl _,df,trivial⟩,CoC.refl _,trivial⟩)
 have h5:=r5
 have h5:=bu r4 h5
 have h5:=of_decide_eq_false h5
 try simp only [ty] at h5
 refine w_2 ?_
 obtain ⟨ha0,hb0⟩:=al4 (a:=a) (b:=b) (by assumption)
 obtain ⟨hal,hbl⟩:=ap3 (a:=a) (b:=b) (k:=(l.length:Int)) (by assumption)
 have hnb:¬ cu l p m true i a b:=by
  unfold cu
  rintro (h | h | h | h | h | h | ⟨h,h2⟩ | ⟨h,h2⟩) <;> first | omega | cases h
 have ha:a.toNat < l.length:=by omega
 have hb:b.toNat < l.length:=by omega
 have hi:i.toNat < m.length:=by omega
 refine w_5 ?_
 refine rc rfl rfl rfl rfl rfl rfl a8k (aif n l p m i.toNat a.toNat b.toNat hT ha hb hi) (⟨CoC.refl _,CoC.refl _,CoC.refl _,CoC.agg ⟨CoP.refl _,CoP.of_eq (by rw [Int.toNat_of_nonneg (by omega)]),CoP.of_eq (by rw [Int.toNat_of_nonneg (by omega)]),CoP.of_eq (by rw [Int.toNat_of_nonneg (by omega)]),trivial⟩,trivial⟩) rfl rfl ?_
 refine w_6 ?_;refine ⟨.inr rfl, ?_⟩
 have he:=a4q (n:=n) (i:=i) (a:=a) (b:=b) hck hnb
 exact f9 rfl rfl (by rw [he];exact CoL.refl _)
theorem aut (n:Int) (l:List Rw) (p m:List Fd) (i a b:Int):ae Tryz.prog 129 [pT n l,pP (fdl p),pP (fdl m), .agg [.raw (.bool false), .raw (.int .i64 i), .raw (.int .i64 a), .raw (.int .i64 b)]] (ai [pT (jn n l p m false i a b).1 (jn n l p m false i a b).2.1,pI (jn n l p m false i a b).2.2]):=by
 refine a8 (nt:=69) a7 Tryz.func129 rfl rfl l9 ?_;refine sx7 ?_;refine m9 0 ?_;refine m9 1 ?_;refine m9 2 ?_;refine w_8 ?_;refine rc rfl rfl rfl rfl rfl rfl a8y (a5v n l p m) (CoL.refl _) rfl rfl ?_
 refine w_7 ?_;refine a6 _ rfl (fun r0=>?_) (fun r0=>?_)
 ·
  have h0:=r0
  have h0:=of_decide_eq_false (ap h0)
  try simp only [ty] at h0
  refine w_8 ?_;refine ⟨.inr rfl, ?_⟩
  have he:=ady (n:=n) (l:=l) (p:=p) (m:=m) (mu:=false) (i:=i) (a:=a) (b:=b) (by assumption)
  exact f9 rfl rfl (by rw [he];exact ⟨CoC.agg ⟨CoP.refl _,df,trivial⟩,CoC.refl _,trivial⟩)
 have h0:=r0
 have h0:=of_decide_eq_true (am h0)
 try simp only [ty] at h0
 have hck:ckE n l p m = 0:=by assumption
 obtain ⟨hT,hbe,hpa⟩:=aep hck
 refine ld ?_;refine a6 _ rfl (fun e=>by cases e) (fun _=>?_);refine w_8 ?_;refine bc rfl rfl (fun r1=>?_) (fun r1=>?_)
 ·
  have h1:=of_decide_eq_true r1
  try simp only [ty] at h1
  (iterate 4 refine k9 (gtf r1) ?_);refine rq rfl rfl rfl rfl rfl ?_ (hp:=r1);refine qy ?_;(iterate 5 refine k9 rfl ?_);refine w_2 ?_;(iterate 6 refine k9 rfl ?_);refine w_2 ?_;(iterate 9 refine k9 rfl ?_);refine w_2 ?_
  refine a6 _ rfl (fun _=>?_) (fun e=>by cases e);refine w_7 ?_;refine ⟨.inr rfl, ?_⟩
  have hbad:cu l p m false i a b:=by
   first
    | (unfold cu;first | exact .inl (by omega) | exact .inr (.inl (by omega)) | exact .inr (.inr (.inl (by omega))) | exact .inr (.inr (.inr (.inl (by omega)))) | exact .inr (.inr (.inr (.inr (.inl (by omega))))) | exact .inr (.inr (.inr (.inr (.inr (.inl (by omega)))))) | exact .inr (.inr (.inr (.inr (.inr (.inr (.inr ⟨rfl,by omega⟩)))))))
    | (refine (lb (a:=a) (b:=b) ?_).elim (fun hq=>?_) (fun hq=>?_) <;> first | assumption | (unfold cu;first | exact .inl (by omega) | exact .inr (.inl (by omega)) | exact .inr (.inr (.inl (by omega))) | exact .inr (.inr (.inr (.inl (by omega)))) | exact .inr (.inr (.inr (.inr (.inl (by omega))))) | exact .inr (.inr (.inr (.inr (.inr (.inl (by omega)))))) | exact .inr (.inr (.inr (.inr (.inr (.inr (.inr ⟨rfl,by omega⟩))))))))
    | (refine (l5 (a:=a) (b:=b) (k:=(l.length:Int)) ?_).elim (fun hq=>?_) (fun hq=>?_) <;> first | assumption | (unfold cu;first | exact .inl (by omega) | exact .inr (.inl (by omega)) | exact .inr (.inr (.inl (by omega))) | exact .inr (.inr (.inr (.inl (by omega)))) | exact .inr (.inr (.inr (.inr (.inl (by omega))))) | exact .inr (.inr (.inr (.inr (.inr (.inl (by omega)))))) | exact .inr (.inr (.inr (.inr (.inr (.inr (.inr ⟨rfl,by omega⟩))))))))
  have he:=jr hck hbad
  exact f9 rfl rfl (by rw [he];exact ⟨CoC.agg ⟨CoP.refl _,df,trivial⟩,CoC.refl _,trivial⟩)
 have h1:=of_decide_eq_false r1
 try simp only [ty] at h1
 (iterate 4 refine qy ?_ (hg:=(gff r1)));refine w_2 ?_;refine bc rfl rfl (fun r2=>?_) (fun r2=>?_)
 ·
  have h2:=r2
  have h2:=bu r1 h2
  have h2:=of_decide_eq_true h2
  try simp only [ty] at h2
  (iterate 5 refine k9 (gtf r2) ?_);refine rq rfl rfl rfl rfl rfl ?_ (hp:=r2);refine qy ?_;(iterate 6 refine k9 rfl ?_);refine w_2 ?_;(iterate 9 refine k9 rfl ?_);refine w_2 ?_
  refine a6 _ rfl (fun _=>?_) (fun e=>by cases e);refine w_7 ?_;refine ⟨.inr rfl, ?_⟩
  have hbad:cu l p m false i a b:=by
   first
    | (unfold cu;first | exact .inl (by omega) | exact .inr (.inl (by omega)) | exact .inr (.inr (.inl (by omega))) | exact .inr (.inr (.inr (.inl (by omega)))) | exact .inr (.inr (.inr (.inr (.inl (by omega))))) | exact .inr (.inr (.inr (.inr (.inr (.inl (by omega)))))) | exact .inr (.inr (.inr (.inr (.inr (.inr (.inr ⟨rfl,by omega⟩)))))))
    | (refine (lb (a:=a) (b:=b) ?_).elim (fun hq=>?_) (fun hq=>?_) <;> first | assumption | (unfold cu;first | exact .inl (by omega) | exact .inr (.inl (by omega)) | exact .inr (.inr (.inl (by omega))) | exact .inr (.inr (.inr (.inl (by omega)))) | exact .inr (.inr (.inr (.inr (.inl (by omega))))) | exact .inr (.inr (.inr (.inr (.inr (.inl (by omega)))))) | exact .inr (.inr (.inr (.inr (.inr (.inr (.inr ⟨rfl,by omega⟩))))))))
    | (refine (l5 (a:=a) (b:=b) (k:=(l.length:Int)) ?_).elim (fun hq=>?_) (fun hq=>?_) <;> first | assumption | (unfold cu;first | exact .inl (by omega) | exact .inr (.inl (by omega)) | exact .inr (.inr (.inl (by omega))) | exact .inr (.inr (.inr (.inl (by omega)))) | exact .inr (.inr (.inr (.inr (.inl (by omega))))) | exact .inr (.inr (.inr (.inr (.inr (.inl (by omega)))))) | exact .inr (.inr (.inr (.inr (.inr (.inr (.inr ⟨rfl,by omega⟩))))))))
  have he:=jr hck hbad
  exact f9 rfl rfl (by rw [he];exact ⟨CoC.agg ⟨CoP.refl _,df,trivial⟩,CoC.refl _,trivial⟩)
 have h2:=r2
 have h2:=bu r1 h2
 have h2:=of_decide_eq_false h2
 try simp only [ty] at h2
 (iterate 5 refine qy ?_ (hg:=(gff r2)));refine w_2 ?_;refine bc rfl rfl (fun r3=>?_) (fun r3=>?_)
 ·
  have h3:=r3
  have h3:=bu r2 h3
  have h3:=of_decide_eq_true h3
  try simp only [ty] at h3
  (iterate 6 refine k9 (gtf r3) ?_);refine rq rfl rfl rfl rfl rfl ?_ (hp:=r3);refine qy ?_;(iterate 9 refine k9 rfl ?_);refine w_2 ?_;refine a6 _ rfl (fun _=>?_) (fun e=>by cases e);refine w_7 ?_
  refine ⟨.inr rfl, ?_⟩
  have hbad:cu l p m false i a b:=by
   first
    | (unfold cu;first | exact .inl (by omega) | exact .inr (.inl (by omega)) | exact .inr (.inr (.inl (by omega))) | exact .inr (.inr (.inr (.inl (by omega)))) | exact .inr (.inr (.inr (.inr (.inl (by omega))))) | exact .inr (.inr (.inr (.inr (.inr (.inl (by omega)))))) | exact .inr (.inr (.inr (.inr (.inr (.inr (.inr ⟨rfl,by omega⟩)))))))
    | (refine (lb (a:=a) (b:=b) ?_).elim (fun hq=>?_) (fun hq=>?_) <;> first | assumption | (unfold cu;first | exact .inl (by omega) | exact .inr (.inl (by omega)) | exact .inr (.inr (.inl (by omega))) | exact .inr (.inr (.inr (.inl (by omega)))) | exact .inr (.inr (.inr (.inr (.inl (by omega))))) | exact .inr (.inr (.inr (.inr (.inr (.inl (by omega)))))) | exact .inr (.inr (.inr (.inr (.inr (.inr (.inr ⟨rfl,by omega⟩))))))))
    | (refine (l5 (a:=a) (b:=b) (k:=(l.length:Int)) ?_).elim (fun hq=>?_) (fun hq=>?_) <;> first | assumption | (unfold cu;first | exact .inl (by omega) | exact .inr (.inl (by omega)) | exact .inr (.inr (.inl (by omega))) | exact .inr (.inr (.inr (.inl (by omega)))) | exact .inr (.inr (.inr (.inr (.inl (by omega))))) | exact .inr (.inr (.inr (.inr (.inr (.inl (by omega)))))) | exact .inr (.inr (.inr (.inr (.inr (.inr (.inr ⟨rfl,by omega⟩))))))))
  have he:=jr hck hbad
  exact f9 rfl rfl (by rw [he];exact ⟨CoC.agg ⟨CoP.refl _,df,trivial⟩,CoC.refl _,trivial⟩)
 have h3:=r3
 have h3:=bu r2 h3
 have h3:=of_decide_eq_false h3
 try simp only [ty] at h3
 (iterate 6 refine qy ?_ (hg:=(gff r3)));refine w_2 ?_;refine bc rfl rfl (fun r4=>?_) (fun r4=>?_)
 ·
  have h4:=r4
  have h4:=bu r3 h4
  have h4:=of_decide_eq_true h4
  try simp only [ty] at h4
  (iterate 9 refine k9 (gtf r4) ?_);refine rq rfl rfl rfl rfl rfl ?_ (hp:=r4);refine b8 ?_;refine a6 _ rfl (fun _=>?_) (fun e=>by cases e);refine w_7 ?_;refine ⟨.inr rfl, ?_⟩
  have hbad:cu l p m false i a b:=by
   first
    | (unfold cu;first | exact .inl (by omega) | exact .inr (.inl (by omega)) | exact .inr (.inr (.inl (by omega))) | exact .inr (.inr (.inr (.inl (by omega)))) | exact .inr (.inr (.inr (.inr (.inl (by omega))))) | exact .inr (.inr (.inr (.inr (.inr (.inl (by omega)))))) | exact .inr (.inr (.inr (.inr (.inr (.inr (.inr ⟨rfl,by omega⟩)))))))
    | (refine (lb (a:=a) (b:=b) ?_).elim (fun hq=>?_) (fun hq=>?_) <;> first | assumption | (unfold cu;first | exact .inl (by omega) | exact .inr (.inl (by omega)) | exact .inr (.inr (.inl (by omega))) | exact .inr (.inr (.inr (.inl (by omega)))) | exact .inr (.inr (.inr (.inr (.inl (by omega))))) | exact .inr (.inr (.inr (.inr (.inr (.inl (by omega)))))) | exact .inr (.inr (.inr (.inr (.inr (.inr (.inr ⟨rfl,by omega⟩))))))))
    | (refine (l5 (a:=a) (b:=b) (k:=(l.length:Int)) ?_).elim (fun hq=>?_) (fun hq=>?_) <;> first | assumption | (unfold cu;first | exact .inl (by omega) | exact .inr (.inl (by omega)) | exact .inr (.inr (.inl (by omega))) | exact .inr (.inr (.inr (.inl (by omega)))) | exact .inr (.inr (.inr (.inr (.inl (by omega))))) | exact .inr (.inr (.inr (.inr (.inr (.inl (by omega)))))) | exact .inr (.inr (.inr (.inr (.inr (.inr (.inr ⟨rfl,by omega⟩))))))))
  have he:=jr hck hbad
  exact f9 rfl rfl (by rw [he];exact ⟨CoC.agg ⟨CoP.refl _,df,trivial⟩,CoC.refl _,trivial⟩)
 have h4:=r4
 have h4:=bu r3 h4
 have h4:=of_decide_eq_false h4
 try simp only [ty] at h4
 (iterate 9 refine qy ?_ (hg:=(gff r4)));refine w_2 ?_;refine a6 _ rfl (fun r5=>?_) (fun r5=>?_)
 ·
  have h5:=r5
  have h5:=bu r4 h5
  have h5:=of_decide_eq_true h5
  try simp only [ty] at h5
  refine w_7 ?_;refine ⟨.inr rfl, ?_⟩
  have hbad:cu l p m false i a b:=by
   first
    | (unfold cu;first | exact .inl (by omega) | exact .inr (.inl (by omega)) | exact .inr (.inr (.inl (by omega))) | exact .inr (.inr (.inr (.inl (by omega)))) | exact .inr (.inr (.inr (.inr (.inl (by omega))))) | exact .inr (.inr (.inr (.inr (.inr (.inl (by omega)))))) | exact .inr (.inr (.inr (.inr (.inr (.inr (.inr ⟨rfl,by omega⟩)))))))
    | (refine (lb (a:=a) (b:=b) ?_).elim (fun hq=>?_) (fun hq=>?_) <;> first | assumption | (unfold cu;first | exact .inl (by omega) | exact .inr (.inl (by omega)) | exact .inr (.inr (.inl (by omega))) | exact .inr (.inr (.inr (.inl (by omega)))) | exact .inr (.inr (.inr (.inr (.inl (by omega))))) | exact .inr (.inr (.inr (.inr (.inr (.inl (by omega)))))) | exact .inr (.inr (.inr (.inr (.inr (.inr (.inr ⟨rfl,by omega⟩))))))))
    | (refine (l5 (a:=a) (b:=b) (k:=(l.length:Int)) ?_).elim (fun hq=>?_) (fun hq=>?_) <;> first | assumption | (unfold cu;first | exact .inl (by omega) | exact .inr (.inl (by omega)) | exact .inr (.inr (.inl (by omega))) | exact .inr (.inr (.inr (.inl (by omega)))) | exact .inr (.inr (.inr (.inr (.inl (by omega))))) | exact .inr (.inr (.inr (.inr (.inr (.inl (by omega)))))) | exact .inr (.inr (.inr (.inr (.inr (.inr (.inr ⟨rfl,by omega⟩))))))))
  have he:=jr hck hbad
  exact f9 rfl rfl (by rw [he];exact ⟨CoC.agg ⟨CoP.refl _,df,trivial⟩,CoC.refl _,trivial⟩)
 have h5:=r5
 have h5:=bu r4 h5
 have h5:=of_decide_eq_false h5
 try simp only [ty] at h5
 refine w_2 ?_
 obtain ⟨ha0,hb0⟩:=al4 (a:=a) (b:=b) (by assumption)
 obtain ⟨hal,hbl⟩:=ap3 (a:=a) (b:=b) (k:=(l.length:Int)) (by assumption)
 have hnb:¬ cu l p m false i a b:=by
  unfold cu
  rintro (h | h | h | h | h | h | ⟨h,h2⟩ | ⟨h,h2⟩) <;> first | omega | cases h
 have ha:a.toNat < l.length:=by omega
 have hb:b.toNat < l.length:=by omega
 have hi:i.toNat < p.length:=by omega
 refine w_5 ?_
 refine rc rfl rfl rfl rfl rfl rfl a8k (ahz n l p m i.toNat a.toNat b.toNat hT ha hb hi (List.all_eq_true.1 hpa _ (da hi))) (⟨CoC.refl _,CoC.refl _,CoC.refl _,CoC.agg ⟨CoP.refl _,CoP.of_eq (by rw [Int.toNat_of_nonneg (by omega)]),CoP.of_eq (by rw [Int.toNat_of_nonneg (by omega)]),CoP.of_eq (by rw [Int.toNat_of_nonneg (by omega)]),trivial⟩,trivial⟩) rfl rfl ?_
 refine w_6 ?_;refine ⟨.inr rfl, ?_⟩
 have he:=a4q (n:=n) (i:=i) (a:=a) (b:=b) hck hnb
 exact f9 rfl rfl (by rw [he];exact CoL.refl _)
end Go.Hx
end
section
namespace Go.Hx
open Go.Proofs
abbrev Rcp.fs (d:Rcp) (k:Nat):List Fd:=d.f.map (Dp.fd (d.num k))
abbrev Rcp.ms (d:Rcp) (k:Nat):List Fd:=d.m.map (Dp.fd (d.num k))
abbrev Rcp.ps (d:Rcp) (k:Nat):List AS:=d.p.map (u8S (d.num k))
abbrev Rcp.t0 (d:Rcp) (k:Nat):List Rw:=bq (c8 (d.num k) (d.ps k))
section
variable {n:Int} {p m:List Fd} {l0 l:List Rw}
end
theorem b4s (n:Int) (l:List Rw) (p m:List Fd) (mu:Bool) (i a b:Int):ae Tryz.prog 129 [pT n l,pP (fdl p),pP (fdl m), .agg [.raw (.bool mu), .raw (.int .i64 i), .raw (.int .i64 a), .raw (.int .i64 b)]] (ai [pT (jn n l p m mu i a b).1 (jn n l p m mu i a b).2.1,pI (jn n l p m mu i a b).2.2]):=by
 cases mu with
 | false=>exact aut n l p m i a b
 | true=>exact avx n l p m i a b
theorem alx {n:Int} {l:List Rw} {p m:List Fd} {s:St} (hT:tok n l = true) (hb:bw n p m = 0) (h:wv l p m s):jn n l p m s.1 s.2.1 s.2.2.1 s.2.2.2 = ee n l p m s:=by
 obtain ⟨mu,i,a,b⟩:=s
 have hck:ckE n l p m = 0:=(if_pos hT).trans hb
 obtain ⟨ha,hbb,h⟩:=h
 have ha:a < l.length:=ha
 have hbb:b < l.length:=hbb
 have hne:¬ a = b:=by
  rintro rfl
  rcases h with ⟨_,_,h⟩ | ⟨_,_,h⟩
  · rw [show gc l (p.getD i default) a a = false from aje] at h;cases h
  rw [show fw l (m.getD i default) a a = false from ajn ha] at h;cases h
 show jn n l p m mu (i:Int) (a:Int) (b:Int) = _
 rw [a4q hck]
 · rfl
 unfold cu
 rcases h with ⟨h1,h2,_⟩ | ⟨h1,h2,_⟩
 · have h1:mu = false:=h1
   subst h1
   have h2:i < p.length:=h2
   rintro (h | h | h | h | h | h | ⟨h,h3⟩ | ⟨h,h3⟩) <;> first | omega | cases h
 have h1:mu = true:=h1
 subst h1
 have h2:i < m.length:=h2
 rintro (h | h | h | h | h | h | ⟨h,h3⟩ | ⟨h,h3⟩) <;> first | omega | cases h
theorem aq0 (n:Int) (l:List Rw) (p m:List Fd) (s:St) (hT:tok n l = true) (hb:bw n p m = 0) (h:wv l p m s) (he:ee n l p m s = (n,(ee n l p m s).2.1,0)):ae Tryz.prog 129 [pT n l,pP (fdl p),pP (fdl m),s.pc] (ai [pT n (ee n l p m s).2.1,pI 0]):=by
 have:=b4s n l p m s.1 s.2.1 s.2.2.1 s.2.2.2
 rw [alx hT hb h,he] at this
 exact this
end Go.Hx
end
section
namespace Go.Hx
open Go.Proofs
set_option maxRecDepth 100000
theorem b74:goodFn Tryz.prog 81:=⟨Tryz.f81,Tryz.func81,by kernel_rfl,by kernel_rfl⟩
theorem b40 (n:Int) (ps:List AS) (p m:List Fd):ae Tryz.prog 81 [pI n,pP (asl ps),pP (fdl p),pP (fdl m)] (ai [pP (stl (prS n ps p m)),pI (prC n ps p m)]):=by
 refine a8 (nt:=55) a7 Tryz.func81 rfl rfl l9 ?_;refine ez ?_;refine rc rfl rfl rfl rfl rfl rfl aie (ai3 n ps p m) (CoL.refl _) rfl rfl ?_;refine w_5 ?_;refine m9 0 ?_;refine m9 1 ?_;refine ez ?_
 refine a6 _ rfl (fun r0=>?_) (fun r0=>?_)
 ·
  have h0:=r0
  have h0:=of_decide_eq_false (ap h0)
  try simp only [ty] at h0
  have hne:¬ lsC n ps p m = 0:=by rw [← ly];exact h0
  have hr:=b75 hne
  refine w_6 ?_
  exact hx8 rfl rfl rfl (by rw [hr.1,hr.2,← ly];exact ⟨CoC.one coN,CoC.refl _,trivial⟩)
 have h0:=r0
 have h0:=of_decide_eq_true (am h0)
 try simp only [ty] at h0
 have hls:lsC n ps p m = 0:=by
  rw [← ly]
  exact h0
 obtain ⟨hv,hb⟩:=xh hls
 have hc:(lsT n ps p m).2.2 = 0:=(b09 hv hb).symm.trans hls
 have htr:=b60 hv hb hc
 have hR:=akh hv hb
 obtain ⟨hn0,hn8,_,_,_⟩:=kw hv
 have hn16:n ≤ 16:=by omega
 have hfew:(trS n ps p m).length ≤ 1300000:=b0t (p:=p) (m:=m) hv hb
 refine w_6 ?_
 refine aj (ι:=Nat) ⟨[(0,some _),(2,some _),(3,some _),(10,some _)],[]⟩ ⟨⟨c9,c9,c9,c9,trivial⟩,trivial⟩ (fun i=>⟨[(14,some (vI i)),(11,some (.v (.one (.p (stl (trS n ps p m))))))],[(0,some (.box [.p (.raw (.int .i64 n)), .p (rl (trT n ps p m i))]))]⟩) (fun i=>i ≤ (trS n ps p m).length ∧ ∀ j,j < i → nx n (trT n ps p m j) = false) (fun i=>(trS n ps p m).length - i) (0) (⟨Nat.zero_le _,fun j hj=>absurd hj (Nat.not_lt_zero j)⟩) ⟨⟨zy,⟨_,rfl,(by rw [hR];exact CoR.refl _)⟩,trivial⟩,⟨⟨_,rfl,(by rw [hR];unfold trT;rw [b5q];exact CoO.refl _)⟩,trivial⟩⟩ ?_
 rintro i ⟨hi,hI⟩
 refine w_4 ?_;refine bp (E:=bm) a7 ax [0,1,2,3] ?_;refine w_2 ?_;refine rc rfl rfl rfl rfl rfl rfl ahg (agt n hn0 hn16) (CoL.refl _) rfl rfl ?_
 refine rc rfl rfl rfl rfl rfl rfl a9h (ajs n (trT n ps p m i) (dx n)) (CoL.refl _) rfl rfl ?_;refine b8 ?_;refine ⟨by kernel_rfl, ?_⟩;refine a6 _ rfl (fun r1=>?_) (fun r1=>?_)
 ·
  have h1:=r1
  have hr:=a4k hls (i:=i) hi hI h1
  refine w_8 ?_
  exact hx8 rfl rfl rfl (by rw [hr.1,hr.2];exact ⟨CoC.one (avv (by rw [List.length_take];dsimp only [dq,b4];omega) (fun a j=>by first | rfl | (simp;rfl))),CoC.refl _,trivial⟩)
 have h1:=r1
 refine w_9 ?_;refine a6 _ rfl (fun r2=>?_) (fun r2=>?_)
 ·
  have h2:=of_decide_eq_true r2
  try simp only [ty] at h2
  obtain rfl:i = (trS n ps p m).length:=by omega
  have hr:=b30 hls fun j hj=>by
   by_cases e:j = (trS n ps p m).length
   · rw [e];assumption
   exact hI j (by omega)
  refine w_5 ?_
  exact hx8 rfl rfl rfl (by rw [hr.1,hr.2];exact ⟨CoC.one coN,CoC.refl _,trivial⟩)
 have h2:=of_decide_eq_false r2
 try simp only [ty] at h2
 have hil:i < (trS n ps p m).length:=by omega
 obtain ⟨hx1,hx2,hx3⟩:=bba hil (b07 htr (i:=i) hi)
 refine w_2 ?_;refine bp (E:=bm) a7 ax [0,1,2,3,4,5,6,7,8,9,10,11,12] ?_;refine w_7 ?_
 refine rc rfl rfl rfl rfl rfl rfl b5h (aq0 n (trT n ps p m i) p m ((trS n ps p m).getD i default) hx1 hb hx2 hx3) (CoL.refl _) rfl rfl ?_;refine w_6 ?_;refine ⟨by kernel_rfl, ?_⟩;refine w_5 ?_
 refine a6 _ rfl (fun e=>by cases e) (fun _=>?_);refine w_6 ?_;refine ⟨i + 1, ?_, ?_, ?_⟩
 · refine ⟨by omega,fun j hj=>?_⟩
   by_cases e:j = i
   · rw [e];assumption
   exact hI j (by omega)
 · first | omega | (dsimp only;omega)
 exact ⟨⟨zy,c9,c9,c9,c9,c9,trivial⟩,⟨⟨_,rfl,(by unfold trT;rw [ahe hil];exact CoO.refl _)⟩,trivial⟩⟩
end Go.Hx
end
section
namespace Go.Hx
open Go.Proofs
def bdq (n:Int) (l:List Fd) (i:Nat):Bool:=((a0s n l).take i).any (jc n l)
section
variable {n:Int} {l:List Fd}
end
section
variable {d:Dps}
end
end Go.Hx
end
