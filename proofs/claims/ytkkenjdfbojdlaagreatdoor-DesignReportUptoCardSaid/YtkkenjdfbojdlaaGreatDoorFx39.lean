/- A part of the proof: Ds4 Ds7 Ds8 Y10 Y12 Dw9 Ds10 Ds5 Dw5 Cs43. -/
import Derived.Test.YtkkenjdfbojdlaaGreatDoorFx15
import Derived.Test.YtkkenjdfbojdlaaGreatDoorFx16
import Derived.Test.YtkkenjdfbojdlaaGreatDoorFx19
import Derived.Test.YtkkenjdfbojdlaaGreatDoorFx20
import Derived.Test.YtkkenjdfbojdlaaGreatDoorFx23
import Derived.Test.YtkkenjdfbojdlaaGreatDoorFx31
import Derived.Test.YtkkenjdfbojdlaaGreatDoorFx32
import Derived.Test.YtkkenjdfbojdlaaGreatDoorFx38
set_option linter.all false
set_option maxRecDepth 100000
set_option maxHeartbeats 1000000
namespace Go.Hx
section
def pg (ns:List Bs) (l m:List Fd) (ps:List AS):Int:=if j6 ns = 0 then (if lvE ns.length ps = 0 then d9 ns.length l m else lvE ns.length ps) else j6 ns
def a6l (ns:List Bs) (l m:List Fd) (ps:List AS) (c:Int):Bs:=if pg ns l m ps = 0 then bOf (ah5 ns l ps c) else ⟨#[]⟩
section
variable {ns:List Bs} {l m:List Fd} {ps:List AS} {c:Int} {X:List UInt8}
theorem apm (h:¬ j6 ns = 0):pg ns l m ps = j6 ns ∧ a6l ns l m ps c = ⟨#[]⟩:=by
 have e:pg ns l m ps = j6 ns:=if_neg h
 exact ⟨e,if_neg (by rw [e];exact h)⟩
theorem asb (h:j6 ns = 0) (h2:¬ lvE ns.length ps = 0):pg ns l m ps = lvE ns.length ps ∧ a6l ns l m ps c = ⟨#[]⟩:=by
 have e:pg ns l m ps = lvE ns.length ps:=by unfold pg;rw [if_pos h,if_neg h2]
 exact ⟨e,if_neg (by rw [e];exact h2)⟩
theorem aru (h:j6 ns = 0) (h2:lvE ns.length ps = 0) (h3:¬ d9 ns.length l m = 0):pg ns l m ps = d9 ns.length l m ∧ a6l ns l m ps c = ⟨#[]⟩:=by
 have e:pg ns l m ps = d9 ns.length l m:=by unfold pg;rw [if_pos h,if_pos h2]
 exact ⟨e,if_neg (by rw [e];exact h3)⟩
theorem ap1 (h:j6 ns = 0) (h2:lvE ns.length ps = 0) (h3:d9 ns.length l m = 0):pg ns l m ps = 0 ∧ a6l ns l m ps c = bOf (ah5 ns l ps c):=by
 have e:pg ns l m ps = 0:=by unfold pg;rw [if_pos h,if_pos h2,h3]
 exact ⟨e,if_pos e⟩
theorem apy {p k:AS} (h:k ∈ pkL l p):sub k p:=by
 have h1:=(ato.1 h).1
 have h2:=(List.mem_filter.1 h1).1
 unfold be at h2
 split at h2
 · cases h2
 exact xj.1 h2
theorem szA (a b:Bs):(a ++ b).size = a.size + b.size:=ByteArray.size_append
theorem axw (h:∀ b ∈ ns,b.size ≤ 1000) (s:AS):(txT ns s).size ≤ 32033:=a2f h s
theorem b0n {p:AS} {ks:List AS}:X ++ bL ((⟨#[112,97,114,116,32]⟩ ++ txT ns p) ++ ⟨#[32,107,101,121,115]⟩) = X ++ k6 ns p ++ io ns ks 0:=by
 simp [ep,k6,io]
theorem b5c {ks:List AS} {k:Nat} (h:k < ks.length):(X ++ io ns ks k) ++ bL (⟨#[32]⟩ ++ txT ns (ks.getD k default)) = X ++ io ns ks (k + 1):=by
 rw [a6b h]
 simp [ep,adx]
theorem b2a {i:Nat} (h:i < ps.length):(d7 ns l ps i ++ k6 ns (ps.getD i default) ++ io ns (pkL l (ps.getD i default)) (pkL l (ps.getD i default)).length) ++ bL ⟨#[10]⟩ = d7 ns l ps (i + 1):=by
 rw [a2w h]
 simp [a08]
theorem b17 {ls:List Nat} {j:Nat} (h:j < ls.length) (f:Fd) (hf:f = l.getD (ls.getD j default) default) :
 (X ++ eq ns l ls j) ++ bL ((((⟨#[108,111,115,116,32]⟩ ++ txT ns f.lhs) ++ ⟨#[32,45,62,32]⟩) ++ txT ns f.rhs) ++ ⟨#[10]⟩) = X ++ eq ns l ls (j + 1):=by
 subst hf
 rw [a30 h]
 simp [ep,yx]
theorem arf {i:Nat} (h:xl c i = true):(X ++ fk c i) ++ bL (⟨#[32]⟩ ++ ir.getD i default) = X ++ fk c (i + 1):=by
 rw [a1u]
 unfold lv
 rw [if_pos h]
 simp [ep]
theorem ap4 {i:Nat} (h:xl c i = false):X ++ fk c i = X ++ fk c (i + 1):=by
 rw [a1u]
 unfold lv
 rw [if_neg (by rw [h];exact Bool.false_ne_true),List.append_nil]
theorem aw6 {i:Nat} {f:Nat → Nat → PV} (hi:i < 5) (h0:f 0 0 = bsC (ir.getD 0 default) 0) (h1:f 1 0 = bsC (ir.getD 1 default) 0) (h2:f 2 0 = bsC (ir.getD 2 default) 0) (h3:f 3 0 = bsC (ir.getD 3 default) 0) (h4:f 4 0 = bsC (ir.getD 4 default) 0):f i 0 = bsC (ir.getD i default) 0:=by
 match i,hi with
 | 0,_=>exact h0
 | 1,_=>exact h1
 | 2,_=>exact h2
 | 3,_=>exact h3
 | 4,_=>exact h4
theorem afy {i:Nat} (hi:i < 5):(ir.getD i default).size ≤ 10:=by
 match i,hi with
 | 0,_=>decide
 | 1,_=>decide
 | 2,_=>decide
 | 3,_=>decide
 | 4,_=>decide
end
end
section
section
variable {ns:List Bs} {i k:Nat} {s:AS} {c:Int}
theorem ak3 (h:ns.getD i default = ⟨#[]⟩):j2 ns i = true:=by unfold j2;rw [decide_eq_true h];rfl
theorem akn (hk:k < (ns.getD i default).size) (h:fp (ns.getD i default) k ≤ 32 ∨ fp (ns.getD i default) k = 127):j2 ns i = true:=by
 have:((ns.getD i default).data.toList.any a4b) = true:=by
  refine alb (i:=k) hk ?_
  unfold a4b
  rcases h with h | h
  · rw [decide_eq_true (show ((((ns.getD i default).data.toList.getD k default).toNat:Int) ≤ 32) from h)];rfl
  rw [decide_eq_true (show ((((ns.getD i default).data.toList.getD k default).toNat:Int) = 127) from h),Bool.or_true]
 unfold j2
 rw [this,Bool.true_or,Bool.or_true]
theorem b25 (hk:k < i) (hi:i < ns.length) (h:ns.getD k default = ns.getD i default):j2 ns i = true:=by
 have:((ns.take i).any fun x=>decide (x = ns.getD i default)) = true:=by
  refine alb (i:=k) (by rw [List.length_take];omega) ?_
  rw [List.getD_eq_getElem?_getD,List.getElem?_take,if_pos hk,← List.getD_eq_getElem?_getD]
  exact decide_eq_true h
 unfold j2
 rw [this,Bool.or_true,Bool.or_true]
theorem az1 (hi:i < ns.length) (h0:¬ ns.getD i default = ⟨#[]⟩) (h1:∀ j,j < (ns.getD i default).size → ¬ (fp (ns.getD i default) j ≤ 32) ∧ ¬ fp (ns.getD i default) j = 127) (h2:∀ j,j < i → ¬ ns.getD j default = ns.getD i default):j2 ns i = false:=by
 unfold j2
 rw [decide_eq_false h0,Bool.false_or,Bool.or_eq_false_iff]
 constructor
 · rw [List.any_eq_false]
   intro x hx
   obtain ⟨j,hj,rfl⟩:=List.getElem_of_mem hx
   obtain ⟨a,b⟩:=h1 j hj
   have e:fp (ns.getD i default) j = (((ns.getD i default).data.toList[j]).toNat:Int):=by
    unfold fp
    rw [List.getD_eq_getElem?_getD (l:=(ns.getD i default).data.toList),List.getElem?_eq_getElem hj]
    rfl
   rw [e] at a b
   unfold a4b
   rw [decide_eq_false a,decide_eq_false b]
   exact Bool.false_ne_true
 rw [List.any_eq_false]
 intro x hx
 obtain ⟨j,hj,rfl⟩:=List.getElem_of_mem hx
 rw [List.length_take] at hj
 rw [List.getElem_take]
 have:=h2 j (by omega)
 rw [List.getD_eq_getElem?_getD (l:=ns) (i:=j),List.getElem?_eq_getElem (by omega),Option.getD_some] at this
 rw [decide_eq_false this]
 exact Bool.false_ne_true
theorem ban (h:j6 ns = 0) {b:Bs} (hb:b ∈ ns):¬ b = ⟨#[]⟩:=fun e=>by
 subst e
 obtain ⟨i,hi,e⟩:=List.getElem_of_mem hb
 unfold j6 at h
 split at h
 · cases h
 split at h
 · cases h
 rename_i hn
 exact hn (List.any_eq_true.2 ⟨i,List.mem_range.2 hi,ak3 (by rw [List.getD_eq_getElem?_getD,List.getElem?_eq_getElem hi,Option.getD_some];exact e)⟩)
theorem a95 {a b:Bs} (h:bL a = bL b):a = b:=by rw [← amu a,← amu b,h]
def nmP (ns:List Bs) (s:AS) (i:Nat):Bs:=lq ((iz s i).map fun k=>ns.getD k default) ⟨#[44]⟩
theorem ao6:∀ {q:List Bs} {x sep:Bs},¬ q = [] → lq (q ++ [x]) sep = (lq q sep ++ sep) ++ x
 | [],_,_,h=>absurd rfl h
 | y :: r,x,sep,_=>by
  refine a95 ?_
  rw [ep,ep]
  unfold lq
  rw [v8,v8,List.cons_append,List.map_cons,List.map_cons,Lib.join_cons,Lib.join_cons,List.map_append]
  unfold Lib.joinTail
  simp
theorem al2 {q:List Bs} {sep:Bs} (hq:∀ b ∈ q,¬ b = ⟨#[]⟩):lq q sep = ⟨#[]⟩ ↔ q = []:=by
 constructor
 · intro h
   cases q with
   | nil=>rfl
   | cons y r =>
    have h2:=congrArg bL h
    unfold lq at h2
    rw [v8,List.map_cons,Lib.join_cons] at h2
    have h3:bL y = []:=(List.append_eq_nil_iff.1 h2).1
    exact absurd (a95 h3) (hq y (by simp))
 rintro rfl;rfl
theorem b42 (h:∀ b ∈ ns,b.size ≤ 1000) (hi:i ≤ 32):(nmP ns s i).size ≤ 32033:=by
 have h1:=aev ((iz s i).map fun k=>ns.getD k default) [44]
 have h3:=ac8 s i
 have h2:szB ((iz s i).map fun k=>ns.getD k default) ≤ 1000 * (iz s i).length:=by
  generalize iz s i = q
  induction q with
  | nil=>simp [szB]
  | cons a q ih =>
   have h1:(ns.getD a default).size ≤ 1000:=by
    rw [List.getD_eq_getElem?_getD]
    cases hi:ns[a]? with
    | none=>exact Nat.zero_le _
    | some b=>exact h b (List.mem_of_getElem? hi)
   have h2:szB ((a :: q).map fun i=>ns.getD i default) = (ns.getD a default).size + szB (q.map fun i=>ns.getD i default):=by simp [szB]
   rw [h2,List.length_cons,Nat.mul_succ]
   omega
 have h4:(nmP ns s i).size = (Lib.join (((iz s i).map fun k=>ns.getD k default).map bL) [44]).length:=rfl
 rw [h4]
 rw [List.length_map] at h1
 simp only [List.length_singleton,Nat.one_mul] at h1
 omega
theorem b9w (hne:∀ b ∈ ns,¬ b = ⟨#[]⟩) (hm:∀ i ∈ ap s,i < ns.length) (hi:i < 32) (h:dx s (i:Int) = true) (h2:¬ nmP ns s i = ⟨#[]⟩):nmP ns s (i + 1) = (nmP ns s i ++ ⟨#[44]⟩) ++ ns.getD i default:=by
 unfold nmP
 rw [vr hi h,List.map_append]
 refine ao6 fun e=>h2 ?_
 unfold nmP
 rw [e]
 rfl
theorem apn {q:List Nat} (h:∀ i ∈ q,i < ns.length) (hne:∀ b ∈ ns,¬ b = ⟨#[]⟩):∀ b ∈ (q.map fun k=>ns.getD k default),¬ b = ⟨#[]⟩:=by
 intro b hb
 obtain ⟨i,hi,rfl⟩:=List.mem_map.1 hb
 exact hne _ (cu (h i hi))
theorem aso (s:AS) (i:Nat) (hi:i ≤ 32) {j:Nat} (h:j ∈ iz s i):j ∈ ap s:=by
 obtain ⟨a,b⟩:=List.mem_filter.1 h
 exact kb.2 ⟨by have:=List.mem_range.1 a;omega,b⟩
theorem bar (hne:∀ b ∈ ns,¬ b = ⟨#[]⟩) (hm:∀ i ∈ ap s,i < ns.length) (hi:i < 32) (h:dx s (i:Int) = true) (h2:nmP ns s i = ⟨#[]⟩):nmP ns s (i + 1) = nmP ns s i ++ ns.getD i default:=by
 have h3:=(al2 (apn (fun j hj=>hm j (aso s i (by omega) hj)) hne)).1 h2
 unfold nmP
 rw [vr hi h,List.map_append,h3]
 refine a95 ?_
 rw [ep]
 show bL (lq [ns.getD i default] _) = bL (lq [] _) ++ _
 rw [ac3 _ rfl]
 rfl
theorem b8v (hi:i < 32) (h:dx s (i:Int) = false):nmP ns s (i + 1) = nmP ns s i:=by
 unfold nmP
 rw [vf hi h]
theorem ako (h16:ns.length ≤ 16) (hm:∀ i ∈ ap s,i < ns.length):nmP ns s ns.length = lq (o5 ns s) ⟨#[44]⟩:=by
 unfold nmP o5
 rw [aqp (by omega) hm]
theorem bac (h16:ns.length ≤ 16) (hne:∀ b ∈ ns,¬ b = ⟨#[]⟩) (hm:∀ i ∈ ap s,i < ns.length) (h:nmP ns s ns.length = ⟨#[]⟩):txT ns s = ⟨#[45]⟩:=by
 rw [ako h16 hm] at h
 have h2:=(al2 (q:=o5 ns s) (apn hm hne)).1 h
 exact if_pos (by rw [h2];rfl)
theorem b8m (h16:ns.length ≤ 16) (hm:∀ i ∈ ap s,i < ns.length) (h:¬ nmP ns s ns.length = ⟨#[]⟩):txT ns s = nmP ns s ns.length:=by
 rw [ako h16 hm] at h ⊢
 refine if_neg fun e=>h ?_
 rw [List.eq_nil_of_length_eq_zero e]
 rfl
theorem adl {q:List AS} {V:AS → Bool} (hi:i < q.length) (h:V (q.getD i default) = true):(q.take (i + 1)).filter V = (q.take i).filter V ++ [q.getD i default]:=by
 rw [b5 hi,List.filter_append,List.filter_cons,if_pos h]
 rfl
theorem adt {q:List AS} {V:AS → Bool} (hi:i < q.length) (h:V (q.getD i default) = false):(q.take (i + 1)).filter V = (q.take i).filter V:=by
 rw [b5 hi,List.filter_append,List.filter_cons,if_neg (by rw [h];exact Bool.false_ne_true),List.filter_nil,List.append_nil]
def kd (c b:Int) (w:Bs):Bs:=if bo .and .i64 c b = 0 then ⟨#[]⟩ else ⟨#[32]⟩ ++ w
theorem b40 (c:Int):bo .and .i64 c 1 = c % 2:=by
 show IntKind.i64.wrap ((BitVec.ofInt 64 c &&& BitVec.ofInt 64 1).toNat:Int) = _
 rw [BitVec.toNat_and,show (BitVec.ofInt 64 1).toNat = 1 from rfl,Nat.and_one_is_mod,BitVec.toNat_ofInt,IntKind.wrap_i64]
 omega
theorem b5s (n i:Nat):n &&& 2 ^ i = n / 2 ^ i % 2 * 2 ^ i:=by
 have hb:n.testBit i = decide (n / 2 ^ i % 2 = 1):=Nat.testBit_eq_decide_div_mod_eq
 apply Nat.eq_of_testBit_eq
 intro j
 rcases Nat.mod_two_eq_zero_or_one (n / 2 ^ i) with h | h
 · rw [h,Nat.zero_mul,Nat.testBit_and,Nat.testBit_two_pow,Nat.zero_testBit]
   by_cases e:i = j
   · subst e;rw [hb,h];rfl
   rw [decide_eq_false e,Bool.and_false]
 rw [h,Nat.one_mul,Nat.testBit_and,Nat.testBit_two_pow]
 by_cases e:i = j
 · subst e;rw [hb,h];simp
 rw [decide_eq_false e,Bool.and_false]
theorem aiz (c:Int) (i:Nat) (hi:i < 5):bo .and .i64 c ((2 ^ i:Nat):Int) = 0 ↔ ¬ (c / ((2 ^ i:Nat):Int)) % 2 = 1:=by
 have key:bo .and .i64 c ((2 ^ i:Nat):Int) = (((c % 18446744073709551616).toNat / 2 ^ i % 2 * 2 ^ i:Nat):Int):=by
  show IntKind.i64.wrap ((BitVec.ofInt 64 c &&& BitVec.ofInt 64 ((2 ^ i:Nat):Int)).toNat:Int) = _
  have h1:(BitVec.ofInt 64 ((2 ^ i:Nat):Int)).toNat = 2 ^ i:=by
   match i,hi with
   | 0,_=>rfl
   | 1,_=>rfl
   | 2,_=>rfl
   | 3,_=>rfl
   | 4,_=>rfl
  rw [BitVec.toNat_and,h1,b5s,BitVec.toNat_ofInt,IntKind.wrap_i64]
  have h2:(c % ((2 ^ 64:Nat):Int)).toNat = (c % 18446744073709551616).toNat:=rfl
  rw [h2]
  have h3:(c % 18446744073709551616).toNat / 2 ^ i % 2 < 2:=Nat.mod_lt _ (by omega)
  generalize (c % 18446744073709551616).toNat / 2 ^ i % 2 = d at h3 ⊢
  rcases (show d = 0 ∨ d = 1 by omega) with rfl | rfl
  · rw [Nat.zero_mul];rfl
  rw [Nat.one_mul]
  match i,hi with
  | 0,_=>rfl
  | 1,_=>rfl
  | 2,_=>rfl
  | 3,_=>rfl
  | 4,_=>rfl
 rw [key]
 match i,hi with
 | 0,_=>simp only [Nat.pow_zero];omega
 | 1,_=>simp only [Nat.pow_one];omega
 | 2,_=>simp only [show 2 ^ 2 = 4 from rfl];omega
 | 3,_=>simp only [show 2 ^ 3 = 8 from rfl];omega
 | 4,_=>simp only [show 2 ^ 4 = 16 from rfl];omega
theorem bal (i:Nat) (hi:i < 5):((2:Int) ^ i) = ((2 ^ i:Nat):Int):=by
 match i,hi with
 | 0,_=>rfl
 | 1,_=>rfl
 | 2,_=>rfl
 | 3,_=>rfl
 | 4,_=>rfl
theorem zw (c:Int) (i:Nat) (hi:i < 5):bL (kd c ((2 ^ i:Nat):Int) (ir.getD i default)) = lv c i:=by
 unfold kd lv
 have hb:xl c i = true ↔ (c / ((2 ^ i:Nat):Int)) % 2 = 1:=by
  unfold xl
  rw [b40,decide_eq_true_iff,Nat.min_eq_left (by omega)]
  have:c.fdiv ((2:Int) ^ i) = c / ((2 ^ i:Nat):Int):=by
   rw [bal i hi]
   exact Int.fdiv_eq_ediv_of_nonneg _ (Int.natCast_nonneg _)
  rw [this]
 by_cases h:xl c i = true
 · rw [if_neg (fun e=>(aiz c i hi).1 e (hb.1 h)),if_pos h,ep]
   rfl
 rw [if_pos ((aiz c i hi).2 fun e=>h (hb.2 e)),if_neg h]
end
end
section
section
variable {ns:List Bs} {l m:List Fd} {ps:List AS} {c:Int}
theorem a8o {a:Bs} {x:List UInt8} (h:bL a = x):a = bOf x:=a95 (by rw [v8];exact h)
theorem b9c {X:List UInt8} {p:AS} {ks:List AS}:((bOf X ++ ⟨#[112,97,114,116,32]⟩) ++ txT ns p) ++ ⟨#[32,107,101,121,115]⟩ = bOf (X ++ k6 ns p ++ io ns ks 0):=by
 refine a8o ?_
 rw [ep,ep,ep,v8]
 simp [k6,io]
 try rfl
theorem bay {X:List UInt8} {ks:List AS} {k:Nat} (h:k < ks.length):(bOf (X ++ io ns ks k) ++ ⟨#[32]⟩) ++ txT ns (ks.getD k default) = bOf (X ++ io ns ks (k + 1)):=by
 refine a8o ?_
 rw [ep,ep,v8,a6b h]
 simp [adx]
 try rfl
theorem b9i {i:Nat} (h:i < ps.length):bOf (d7 ns l ps i ++ k6 ns (ps.getD i default) ++ io ns (pkL l (ps.getD i default)) (pkL l (ps.getD i default)).length) ++ ⟨#[10]⟩ = bOf (d7 ns l ps (i + 1)):=by
 refine a8o ?_
 rw [ep,v8,a2w h]
 simp [a08]
 try rfl
theorem ba8 {X:List UInt8} {ls:List Nat} {j:Nat} (h:j < ls.length) (f:Fd) (hf:f = l.getD (ls.getD j default) default) :
 ((((bOf (X ++ eq ns l ls j) ++ ⟨#[108,111,115,116,32]⟩) ++ txT ns f.lhs) ++ ⟨#[32,45,62,32]⟩) ++ txT ns f.rhs) ++ ⟨#[10]⟩ = bOf (X ++ eq ns l ls (j + 1)):=by
 subst hf
 refine a8o ?_
 rw [ep,ep,ep,ep,ep,v8,a30 h]
 simp [yx]
 try rfl
theorem b8u {X:List UInt8}:((((((bOf X ++ ⟨#[99,108,97,105,109,115]⟩) ++ kd c 1 ⟨#[108,111,115,115,108,101,115,115]⟩) ++ kd c 2 ⟨#[112,114,101,115,101,114,118,105,110,103]⟩) ++ kd c 4 ⟨#[116,104,105,114,100]⟩) ++ kd c 8 ⟨#[98,111,121,99,101]⟩) ++ kd c 16 ⟨#[102,111,117,114,116,104]⟩) ++ ⟨#[10]⟩ = bOf (X ++ [99,108,97,105,109,115] ++ fk c 5 ++ [10]):=by
 refine a8o ?_
 have h0:=zw c 0 (by omega)
 have h1:=zw c 1 (by omega)
 have h2:=zw c 2 (by omega)
 have h3:=zw c 3 (by omega)
 have h4:=zw c 4 (by omega)
 have e:fk c 5 = lv c 0 ++ lv c 1 ++ lv c 2 ++ lv c 3 ++ lv c 4:=by simp [fk,List.range_succ]
 rw [e,← h0,← h1,← h2,← h3,← h4]
 rw [ep,ep,ep,ep,ep,ep,ep,v8]
 simp [ir]
 try rfl
theorem x5 (c b:Int) (w:Bs):(kd c b w).size ≤ 1 + w.size:=by
 unfold kd
 split
 · exact Nat.zero_le _
 rw [szA];exact Nat.le_refl _
theorem li (x:List UInt8):(bOf x).size = x.length:=rfl
theorem ba1 {p s:AS} (h:decide (sub p (clo l s)) = true):(!pkV l p s) = true:=by
 unfold pkV
 rw [Bool.not_not]
 exact h
theorem b98 {p s:AS} (h:decide (sub p (clo l s)) = false):(!pkV l p s) = false:=by
 unfold pkV
 rw [Bool.not_not]
 exact h
def abn (t:Bs) (ns:List Bs):Bool:=decide ((t.size:Int) + (szB ns:Int) ≤ 400) && decide ((ns.length:Int) ≤ 40)
end
end
section
open Go.Proofs
theorem azt:goodFn Tryz.prog 127:=wgx Tryz.func127
theorem aqv (l:List AS) (hl:l.length ≤ 8589934592):af Tryz.prog 127 [pP (asl l)] (aj [pP (asl (a2h l))]):=by
 refine a8 (nt:=49) a7 Tryz.func127 rfl rfl l9 ?_;refine f8 ?_;refine qcx b2m (ayf l hl) ?_;refine w_8 ?_
 have hol:=l7 l
 refine d6 3 900 true 1 46 (lf sC []) (by decide) rfl (CoP.sl rfl (.inr rfl) (fun h=>h) (fun i j hi _=>absurd hi (Nat.not_lt_zero i))) (.inr rfl) rfl ?_
 refine ah (ι:=Nat) ⟨[(4,some _)],[]⟩ ⟨⟨c9,trivial⟩,trivial⟩ (fun i=>⟨[(3,some (.v (.one (.ref 900 (nf l i).length)))),(5,some (vI i))],[(900,some (.arr true 1 46 (nf l i).length (lf sC (nf l i))))]⟩) (fun i=>i ≤ (ord l).length) (fun i=>(ord l).length - i) (0) (Nat.zero_le _) ⟨⟨zy,zy,trivial⟩,⟨u9,trivial⟩⟩ ?_
 rintro i hi
 have hlen:=aqx l i
 refine w_8 ?_;refine a6 _ rfl (fun r0=>?_) (fun r0=>?_)
 ·
  have h0:=ae r0
  try simp only [ty] at h0
  refine kf ?_
  refine ah (ι:=Nat) ⟨[(3,some _),(4,some _),(5,some _)],[(900,some _)]⟩ ⟨⟨c9,c9,c9,trivial⟩,⟨u9,trivial⟩⟩ (fun k=>⟨[(6,some (vB (okM (ord l) i k))),(7,some (vI k))],[]⟩) (fun k=>k ≤ (ord l).length) (fun k=>(ord l).length - k) (0) (Nat.zero_le _) ⟨⟨⟨_,rfl,(cob rfl)⟩,zy,trivial⟩,trivial⟩ ?_
  rintro k hk
  refine w_8 ?_;refine a6 _ rfl (fun r1=>?_) (fun r1=>?_)
  ·
   have h1:=ae r1
   try simp only [ty] at h1
   refine w_3 ?_;refine bg (E:=bj) a7 aw [0,1,2,3,4,5,6,7,8,9,10,11,12,13,14,15,16,17,18] ?_;refine w_2 ?_;refine b9 rfl rfl (fun r2=>?_) (fun r2=>?_)
   ·
    have h2:=r2
    (iterate 4 refine qy ?_ (hg:=(gtt r2)));refine b9 rfl rfl (fun r3=>?_) (fun r3=>?_)
    ·
     have h3:=ae r3
     try simp only [ty] at h3
     (iterate 10 refine k9 (gtf r3) ?_);refine rq rfl rfl rfl rfl (gtt r2) ?_ (hp:=r3);refine w_3 ?_;refine ⟨by kernel_rfl, ?_⟩;refine w_5 ?_;refine ⟨k + 1, ?_, ?_, ?_⟩
     · show k + 1 ≤ _;omega
     · first | omega | (dsimp only;omega)
     exact ⟨⟨⟨_,rfl,(cob (by rw [okM_succ'];simp_all only [s8];simp))⟩,zy,c9,c9,c9,trivial⟩,⟨u9,trivial⟩⟩
    have h3:=aa r3
    try simp only [ty] at h3
    (iterate 8 refine qy ?_ (hg:=(gff r3)));refine qcx qe (xv _ _) ?_ (hg:=(gff r3));refine qy ?_ (hg:=(gff r3));refine qy ?_ (hg:=(gtt r2));refine w_3 ?_;refine ⟨by kernel_rfl, ?_⟩;refine w_5 ?_
    refine ⟨k + 1, ?_, ?_, ?_⟩
    · show k + 1 ≤ _;omega
    · first | omega | (dsimp only;omega)
    exact ⟨⟨⟨_,rfl,(cob (by rw [okM_succ'];simp_all only [s8];simp))⟩,zy,c9,c9,c9,trivial⟩,⟨u9,trivial⟩⟩
   have h2:=r2
   (iterate 4 refine k9 (gft r2) ?_);(iterate 10 refine k9 rfl ?_);refine k9 (gft r2) ?_;refine rq rfl rfl rfl rfl rfl ?_ (hp:=r2);refine w_2 ?_;refine ⟨by kernel_rfl, ?_⟩;refine w_5 ?_;refine ⟨k + 1, ?_, ?_, ?_⟩
   · show k + 1 ≤ _;omega
   · first | omega | (dsimp only;omega)
   exact ⟨⟨⟨_,rfl,(cob (by rw [okM_succ'];simp_all only [s8];simp))⟩,zy,c9,c9,c9,trivial⟩,⟨u9,trivial⟩⟩
  have h1:=aa r1
  try simp only [ty] at h1
  obtain rfl:k = (ord l).length:=by omega
  refine w_5 ?_;refine a6 _ rfl (fun r4=>?_) (fun r4=>?_)
  ·
   have h4:=r4
   refine w_6 ?_;refine m9 0 ?_;refine ra 1 true rfl rfl rfl rfl rfl rfl ?_;refine w_7 ?_
   first | (refine ⟨i + 1, ?_, ?_, ?_⟩
            · show i + 1 ≤ _;omega
            · first | omega | (dsimp only;omega)
            exact ⟨⟨⟨_,rfl,(ca (a4w (by omega) (by assumption)))⟩,zy,c9,trivial⟩,⟨⟨_,rfl,(c7 (a4w (by omega) (by assumption)) (CoP.refl _))⟩,trivial⟩⟩)
         | (refine ⟨i + 1, ?_, ?_, ?_⟩
            · show i + 1 ≤ _;omega
            · first | omega | (dsimp only;omega)
            exact ⟨⟨⟨_,rfl,(cg (a54 (by omega) (by assumption)))⟩,zy,c9,trivial⟩,⟨⟨_,rfl,(cb (a54 (by omega) (by assumption)))⟩,trivial⟩⟩)
  have h4:=r4
  refine w_6 ?_
  first | (refine ⟨i + 1, ?_, ?_, ?_⟩
           · show i + 1 ≤ _;omega
           · first | omega | (dsimp only;omega)
           exact ⟨⟨⟨_,rfl,(ca (a4w (by omega) (by assumption)))⟩,zy,c9,trivial⟩,⟨⟨_,rfl,(c7 (a4w (by omega) (by assumption)) (CoP.refl _))⟩,trivial⟩⟩)
        | (refine ⟨i + 1, ?_, ?_, ?_⟩
           · show i + 1 ≤ _;omega
           · first | omega | (dsimp only;omega)
           exact ⟨⟨⟨_,rfl,(cg (a54 (by omega) (by assumption)))⟩,zy,c9,trivial⟩,⟨⟨_,rfl,(cb (a54 (by omega) (by assumption)))⟩,trivial⟩⟩)
 have h0:=aa r0
 try simp only [ty] at h0
 obtain rfl:i = (ord l).length:=by omega
 refine w_6 ?_;refine bi 2 rfl rfl rfl ?_
 exact hx8 rfl rfl rfl (⟨CoC.one (CoP.of_eq (by rw [← aqy];rfl)),trivial⟩)
end
section
open Go.Proofs
def a3t (n:Int) (ps:List AS):List AS:=if ps.length = 0 then [aq n] else ps.set (ps.length - 1) (ps.getD (ps.length - 1) default ||| (aq n &&& ~~~(orL ps)))
theorem b09 {n:Int} {ps:List AS} (h:ps.length = 0):a3t n ps = [aq n]:=if_pos h
theorem b0a {n:Int} {ps:List AS} (h:¬ ps.length = 0):a3t n ps = ps.set (ps.length - 1) (ps.getD (ps.length - 1) default ||| (aq n &&& ~~~(orL ps))):=if_neg h
theorem b0c {e:TypeId} {l:List AS} {f:Nat → Nat → PV} {m:Nat} (hm:m = l.length):CoO (.arr true 1 e (0 + m) (gk 0 f (lf sC l))) (.arr true 1 e l.length (lf sC l)):=by
 subst hm
 exact ⟨fun h=>h,rfl,rfl,(Nat.zero_add _).symm,fun i j _ _=>CoP.of_eq (by simp [gk])⟩
theorem bbh {n:Int} {ps:List AS} {j k:Nat} (h:k = j):bo .or .u32 (asI (ps.getD k default)) (bo .andNot .u32 (asI (aq n)) (asI (orL ps))) = asI (ps.getD j default ||| (aq n &&& ~~~(orL ps))):=by
 subst h
 rw [jn,bOr]
theorem b44 {x:AS} {cl:Bool} {f:Nat → Nat → PV} (h:CoP (f 0 0) (asC x)):CoP (.sl 1 1 cl f) (asl [x]):=CoP.sl rfl (.inl rfl) (fun h=>by cases h) fun i j hi hj=>by
 obtain rfl:i = 0:=by omega
 obtain rfl:j = 0:=by omega
 exact h
theorem b58:goodFn Tryz.prog 20:=wgx Tryz.func20
theorem b5u (n:Int) (ps:List AS) (hps:ps.length ≤ 8589934592):af Tryz.prog 20 [pI n,pP (asl ps)] (aj [pP (asl (a3t n ps))]):=by
 refine a8 (nt:=42) a7 Tryz.func20 rfl rfl l9 ?_
 refine dg 1 rfl fun hb=>?_
 refine wg ?_
 refine ah (ι:=Nat) ⟨[(0,some _),(1,some _)],[]⟩ ⟨⟨c9,c9,trivial⟩,trivial⟩ (fun i=>⟨[(5,some (vA (orL (ps.take i)))),(6,some (vI i))],[]⟩) (fun i=>i ≤ ps.length) (fun i=>ps.length - i) (0) (Nat.zero_le _) ⟨⟨⟨_,rfl,(CoR.refl _)⟩,⟨_,rfl,(CoR.refl _)⟩,trivial⟩,trivial⟩ ?_
 rintro i hi
 refine w_8 ?_;refine a6 _ rfl (fun r0=>?_) (fun r0=>?_)
 ·
  have h0:=ae r0
  try simp only [ty] at h0
  refine ae8 ?_;refine ⟨i + 1, ?_, ?_, ?_⟩
  · show i + 1 ≤ _;omega
  · first | omega | (dsimp only;omega)
  exact ⟨⟨⟨_,rfl,(dz ((bOr _ _).trans (congrArg asI (a0g (by omega)).symm)))⟩,⟨_,rfl,(CoR.refl _)⟩,c9,c9,trivial⟩,trivial⟩
 have h0:=aa r0
 try simp only [ty] at h0
 obtain rfl:i = ps.length:=by omega
 rw [show ps.take ps.length = ps from List.take_length]
 refine w_3 ?_;refine m9 900 ?_;refine qy ?_;refine ra 901 true rfl rfl rfl rfl rfl rfl ?_;refine w_2 ?_
 refine a6n ⟨[(0,some _),(5,some _),(7,some (.v (.one (.ref 900 ps.length))))],[(900,some (.arr true 1 46 ps.length (lf sC ps)))]⟩ (by exact ⟨⟨c9,c9,⟨_,rfl,CoR.of_eq (congrArg (fun z=>HR.v (.one (.ref 900 z))) (Nat.zero_add _))⟩,trivial⟩,⟨⟨_,rfl,b0c rfl⟩,trivial⟩⟩) ?_
 refine w_7 ?_;refine a6 _ rfl (fun r1=>?_) (fun r1=>?_)
 ·
  have h1:=ae r1
  try simp only [ty] at h1
  have h0:ps.length = 0:=by omega
  refine w_3 ?_;refine qcx ze (a00 n) ?_;refine m9 902 ?_;refine w_2 ?_;refine bi 4 rfl rfl rfl ?_
  exact hx8 rfl rfl rfl (⟨CoC.one (by rw [b09 h0];exact b44 (CoP.refl _)),trivial⟩)
 have h1:=aa r1
 try simp only [ty] at h1
 have h0:¬ ps.length = 0:=by omega
 refine w_2 ?_;refine bg (E:=bj) a7 aw [0,1,2,3,4,5,6,7,8,9,10,11,12] ?_;refine w_7 ?_;refine qcx ze (a00 n) ?_;refine w_6 ?_;refine ⟨by kernel_rfl, ?_⟩
 refine a6n ⟨[(7,some _)],[(900,some (.arr true 1 46 ps.length (lf sC (ps.set (ps.length - 1) (ps.getD (ps.length - 1) default ||| (aq n &&& ~~~(orL ps)))))))]⟩ (by exact ⟨⟨c9,trivial⟩,⟨⟨_,rfl,(abo (fun h=>h) rfl (by omega) (by omega) (congrArg (fun z=>PV.raw (.int .u32 z)) (bbh (by omega))))⟩,trivial⟩⟩) ?_
 refine w_5 ?_;refine bi 4 rfl rfl rfl ?_
 exact hx8 rfl rfl rfl (⟨CoC.one (CoP.of_eq (by rw [b0a h0];exact (congrArg (fun z=>PV.sl z 1 false (lf sC (ps.set (ps.length - 1) (ps.getD (ps.length - 1) default ||| (aq n &&& ~~~(orL ps)))))) List.length_set.symm))),trivial⟩)
end
section
open Go.Proofs
theorem b6u:goodFn Tryz.prog 61:=wgx Tryz.func61
theorem b75 (ns:List Bs) (hl:∀ b ∈ ns,b.size ≤ maxLen):af Tryz.prog 61 [pP (bsl ns)] (aj [pI (j6 ns)]):=by
 refine a8 (nt:=59) a7 Tryz.func61 rfl rfl l9 ?_;refine w_6 ?_
 refine dg 0 rfl fun hn=>?_
 refine w_5 ?_;refine a6 _ rfl (fun r0=>?_) (fun r0=>?_)
 ·
  have h0:=ae r0
  try simp only [ty] at h0
  have he:=b4v h0
  refine w_4 ?_
  exact hx8 rfl rfl rfl (⟨cci he.symm,trivial⟩)
 have h0:=aa r0
 try simp only [ty] at h0
 refine w_7 ?_
 refine ah (ι:=Nat) ⟨[(0,some _)],[]⟩ ⟨⟨c9,trivial⟩,trivial⟩ (fun i=>⟨[(3,some (vI i))],[]⟩) (fun i=>i ≤ ns.length ∧ ∀ j,j < i → j2 ns j = false) (fun i=>ns.length - i) (0) (⟨Nat.zero_le _,cr⟩) ⟨⟨zy,trivial⟩,trivial⟩ ?_
 rintro i ⟨hi,hI⟩
 refine w_8 ?_;refine a6 _ rfl (fun r1=>?_) (fun r1=>?_)
 ·
  have h1:=ae r1
  try simp only [ty] at h1
  have hil:i < ns.length:=by omega
  have hsz:(ns.getD i default).size ≤ maxLen:=hl _ (cu hil)
  unfold maxLen at hsz
  refine fc ?_;refine a6 _ rfl (fun r2=>?_) (fun r2=>?_)
  ·
   have h2:=ae r2
   try simp only [ty] at h2
   have hb:=ak3 (ns:=ns) (i:=i) h2
   refine w_4 ?_
   exact hx8 rfl rfl rfl (⟨cci (a7e h0 hil hb).symm,trivial⟩)
  have h2:=aa r2
  try simp only [ty] at h2
  refine w_7 ?_
  refine ah (ι:=Nat) ⟨[(0,some _),(3,some _)],[]⟩ ⟨⟨c9,c9,trivial⟩,trivial⟩ (fun k=>⟨[(4,some (vI k))],[]⟩) (fun k=>k ≤ (ns.getD i default).size ∧ ∀ j,j < k → ¬ (fp (ns.getD i default) j ≤ 32) ∧ ¬ fp (ns.getD i default) j = 127) (fun k=>(ns.getD i default).size - k) (0) (⟨Nat.zero_le _,cr⟩) ⟨⟨zy,trivial⟩,trivial⟩ ?_
  rintro k ⟨hk,hK⟩
  refine f8 ?_;refine a6 _ rfl (fun r3=>?_) (fun r3=>?_)
  ·
   have h3:=ae r3
   try simp only [ty] at h3
   have hk2:k < (ns.getD i default).size:=by have:(k:Int) < ((ns.getD i default).size:Int):=h3;omega
   refine kf ?_;refine b9 rfl rfl (fun r4=>?_) (fun r4=>?_)
   ·
    have h4:=ae r4
    try simp only [ty] at h4
    have hb:=akn (ns:=ns) (i:=i) hk2 (.inl h4)
    (iterate 7 refine k9 (gtf r4) ?_);refine rq rfl rfl rfl rfl rfl ?_ (hp:=r4);refine ax ?_;refine a6 _ rfl (fun _=>?_) (fun e=>by cases e);refine w_4 ?_
    exact hx8 rfl rfl rfl (⟨cci (a7e h0 hil hb).symm,trivial⟩)
   have h4:=aa r4
   try simp only [ty] at h4
   (iterate 7 refine qy ?_ (hg:=(gff r4)));refine w_2 ?_;refine a6 _ rfl (fun r5=>?_) (fun r5=>?_)
   ·
    have h5:=r5
    have h5:=c6 r4 h5
    have h5:=ae h5
    try simp only [ty] at h5
    have hb:=akn (ns:=ns) (i:=i) hk2 (.inr h5)
    refine w_4 ?_
    exact hx8 rfl rfl rfl (⟨cci (a7e h0 hil hb).symm,trivial⟩)
   have h5:=r5
   have h5:=c6 r4 h5
   have h5:=aa h5
   try simp only [ty] at h5
   refine w_6 ?_;refine ⟨k + 1, ?_, ?_, ?_⟩
   · exact ⟨by omega,bz hK (by constructor <;> assumption)⟩
   · first | omega | (dsimp only;omega)
   exact ⟨⟨zy,c9,c9,trivial⟩,trivial⟩
  have h3:=aa r3
  try simp only [ty] at h3
  have hke:k = (ns.getD i default).size:=by have:¬ (k:Int) < ((ns.getD i default).size:Int):=h3;omega
  subst hke
  refine w_6 ?_
  refine ah (ι:=Nat) ⟨[(0,some _),(3,some _)],[]⟩ ⟨⟨c9,c9,trivial⟩,trivial⟩ (fun k2=>⟨[(5,some (vI k2))],[]⟩) (fun k2=>k2 ≤ i ∧ ∀ j,j < k2 → ¬ ns.getD j default = (ns.getD i default)) (fun k2=>i - k2) (0) (⟨Nat.zero_le _,cr⟩) ⟨⟨zy,trivial⟩,trivial⟩ ?_
  rintro k2 ⟨hk2,hK2⟩
  refine w_7 ?_;refine a6 _ rfl (fun r6=>?_) (fun r6=>?_)
  ·
   have h6:=ae r6
   try simp only [ty] at h6
   refine w_4 ?_;refine bg (E:=bj) a7 aw [0,1,2,3,4,5,6,7,8] ?_;refine dl ?_;refine ⟨by kernel_rfl, ?_⟩;refine a6 _ rfl (fun r7=>?_) (fun r7=>?_)
   ·
    have h7:=ae r7
    try simp only [ty] at h7
    have hb:=b25 (ns:=ns) (i:=i) (k:=k2) (by omega) hil h7
    refine w_4 ?_
    exact hx8 rfl rfl rfl (⟨cci (a7e h0 hil hb).symm,trivial⟩)
   have h7:=aa r7
   try simp only [ty] at h7
   refine w_6 ?_;refine ⟨k2 + 1, ?_, ?_, ?_⟩
   · exact ⟨by omega,bz hK2 (by assumption)⟩
   · first | omega | (dsimp only;omega)
   exact ⟨⟨zy,c9,c9,trivial⟩,trivial⟩
  have h6:=aa r6
  try simp only [ty] at h6
  obtain rfl:k2 = i:=by omega
  have hb:=az1 hil (by assumption) hK hK2
  refine w_6 ?_;refine ⟨k2 + 1, ?_, ?_, ?_⟩
  · exact ⟨by omega,bz hI hb⟩
  · first | omega | (dsimp only;omega)
  exact ⟨⟨zy,c9,trivial⟩,trivial⟩
 have h1:=aa r1
 try simp only [ty] at h1
 obtain rfl:i = ns.length:=by omega
 refine w_5 ?_
 exact hx8 rfl rfl rfl (⟨cci (b63 h0 hI).symm,trivial⟩)
theorem a9m:goodFn Tryz.prog 63:=wgx Tryz.func63
theorem a58 (s:AS) (ns:List Bs) (h16:ns.length ≤ 16) (hne:∀ b ∈ ns,¬ b = ⟨#[]⟩) (hm:∀ i ∈ ap s,i < ns.length) (hsz:∀ b ∈ ns,b.size ≤ 1000):af Tryz.prog 63 [pA s,pP (bsl ns)] (aj [pS (txT ns s)]):=by
 refine a8 (nt:=29) a7 Tryz.func63 rfl rfl l9 ?_;refine wg ?_
 refine ah (ι:=Nat) ⟨[(0,some _),(1,some _)],[]⟩ ⟨⟨c9,c9,trivial⟩,trivial⟩ (fun i=>⟨[(5,some (vS (nmP ns s i))),(6,some (vI i))],[]⟩) (fun i=>i ≤ ns.length) (fun i=>ns.length - i) (0) (Nat.zero_le _) ⟨⟨c9,zy,trivial⟩,trivial⟩ ?_
 rintro i hi
 refine w_8 ?_;refine a6 _ rfl (fun r0=>?_) (fun r0=>?_)
 ·
  have h0:=ae r0
  try simp only [ty] at h0
  have hil:i < ns.length:=by omega
  have hx:=b42 (s:=s) (i:=i) hsz (by omega)
  have hx2:=hsz (ns.getD i default) (cu hil)
  refine w_7 ?_;refine qcx akl (b6r s i) ?_;refine ax ?_;refine a6 _ rfl (fun r1=>?_) (fun r1=>?_)
  ·
   have h1:=r1
   have hh:=h1
   refine w_6 ?_;refine a6 _ rfl (fun r2=>?_) (fun r2=>?_)
   ·
    have h2:=r2
    have h2:=aa (au h2)
    try simp only [ty] at h2
    have hN:=b9w hne hm (by omega) hh h2
    refine w_2 ?_;refine rq rfl rfl rfl rfl rfl ?_ (hp:=(by show _ + 1 ≤ _;omega));refine w_8 ?_
    refine rq rfl rfl rfl rfl rfl ?_ (hp:=(by first | (rw [szA];show _ + 1 + (ns.getD i default).size ≤ _;omega) | (show _ + (ns.getD i default).size ≤ _;omega)));refine w_7 ?_;refine ⟨i + 1, ?_, ?_, ?_⟩
    · show i + 1 ≤ _;omega
    · first | omega | (dsimp only;omega)
    exact ⟨⟨⟨_,rfl,(CoR.of_eq (by rw [hN];first | done | rfl))⟩,zy,c9,c9,trivial⟩,trivial⟩
   have h2:=r2
   have h2:=ae (ar h2)
   try simp only [ty] at h2
   have hN:=bar hne hm (by omega) hh (by assumption)
   refine w_7 ?_;refine rq rfl rfl rfl rfl rfl ?_ (hp:=(by first | (rw [szA];show _ + 1 + (ns.getD i default).size ≤ _;omega) | (show _ + (ns.getD i default).size ≤ _;omega)));refine w_7 ?_;refine ⟨i + 1, ?_, ?_, ?_⟩
   · show i + 1 ≤ _;omega
   · first | omega | (dsimp only;omega)
   exact ⟨⟨⟨_,rfl,(CoR.of_eq (by rw [hN];first | done | rfl))⟩,zy,c9,c9,trivial⟩,trivial⟩
  have h1:=r1
  have hN:=b8v (ns:=ns) (s:=s) (i:=i) (by omega) h1
  refine w_6 ?_;refine ⟨i + 1, ?_, ?_, ?_⟩
  · show i + 1 ≤ _;omega
  · first | omega | (dsimp only;omega)
  exact ⟨⟨⟨_,rfl,(CoR.of_eq (by rw [hN];first | done | rfl))⟩,zy,c9,c9,trivial⟩,trivial⟩
 have h0:=aa r0
 try simp only [ty] at h0
 obtain rfl:i = ns.length:=by omega
 refine w_7 ?_;refine a6 _ rfl (fun r3=>?_) (fun r3=>?_)
 ·
  have h3:=ae r3
  try simp only [ty] at h3
  have he:=bac h16 hne hm h3
  refine w_4 ?_
  exact hx8 rfl rfl rfl (⟨CoC.one (CoP.of_eq (by rw [he];rfl)),trivial⟩)
 have h3:=aa r3
 try simp only [ty] at h3
 have he:=b8m h16 hm h3
 refine w_6 ?_
 exact hx8 rfl rfl rfl (⟨CoC.one (CoP.of_eq (by rw [he])),trivial⟩)
theorem b5n:goodFn Tryz.prog 64:=wgx Tryz.func64
theorem b7v (l:List Fd) (p:AS):af Tryz.prog 64 [pP (fdl l),pA p] (aj [pP (asl (pkL l p))]):=by
 refine a8 (nt:=33) a7 Tryz.func64 rfl rfl l9 ?_;refine f8 ?_;refine qcx b1r (b6q p) ?_;refine w_8 ?_
 have hsl:=qc p
 refine d6 5 900 true 1 46 (lf sC []) (by decide) rfl (CoP.sl rfl (.inr rfl) (fun h=>h) (fun i j hi _=>absurd hi (Nat.not_lt_zero i))) (.inr rfl) rfl ?_
 refine ah (ι:=Nat) ⟨[(0,some _),(1,some _),(6,some _)],[]⟩ ⟨⟨c9,c9,c9,trivial⟩,trivial⟩ (fun i=>⟨[(5,some (.v (.one (.ref 900 (((be p).take i).filter fun s=>!pkV l p s).length)))),(7,some (vI i))],[(900,some (.arr true 1 46 (((be p).take i).filter fun s=>!pkV l p s).length (lf sC (((be p).take i).filter fun s=>!pkV l p s))))]⟩) (fun i=>i ≤ (be p).length) (fun i=>(be p).length - i) (0) (Nat.zero_le _) ⟨⟨zy,zy,trivial⟩,⟨u9,trivial⟩⟩ ?_
 rintro i hi
 have hlen:(((be p).take i).filter fun s=>!pkV l p s).length ≤ i:=Nat.le_trans (List.length_filter_le _ _) (by rw [List.length_take];omega)
 refine w_8 ?_;refine a6 _ rfl (fun r0=>?_) (fun r0=>?_)
 ·
  have h0:=ae r0
  try simp only [ty] at h0
  have hil:i < (be p).length:=by omega
  refine f8 ?_;refine qcx ajs (ajh l ((be p).getD i default)) ?_;refine qcx qe (xv p (clo l ((be p).getD i default))) ?_;refine ax ?_;refine a6 _ rfl (fun r1=>?_) (fun r1=>?_)
  ·
   have h1:=r1
   have hv:=ba1 h1
   refine w_6 ?_;refine m9 0 ?_;refine ra 1 true rfl rfl rfl rfl rfl rfl ?_;refine w_7 ?_
   first | (refine ⟨i + 1, ?_, ?_, ?_⟩
            · show i + 1 ≤ _;omega
            · first | omega | (dsimp only;omega)
            exact ⟨⟨⟨_,rfl,(ca (adl hil hv))⟩,zy,c9,c9,c9,trivial⟩,⟨⟨_,rfl,(c7 (adl hil hv) (CoP.refl _))⟩,trivial⟩⟩)
         | (refine ⟨i + 1, ?_, ?_, ?_⟩
            · show i + 1 ≤ _;omega
            · first | omega | (dsimp only;omega)
            exact ⟨⟨⟨_,rfl,(cg (adt hil hv))⟩,zy,c9,c9,c9,trivial⟩,⟨⟨_,rfl,(cb (adt hil hv))⟩,trivial⟩⟩)
  have h1:=r1
  have hv:=b98 h1
  refine w_6 ?_
  first | (refine ⟨i + 1, ?_, ?_, ?_⟩
           · show i + 1 ≤ _;omega
           · first | omega | (dsimp only;omega)
           exact ⟨⟨⟨_,rfl,(ca (adl hil hv))⟩,zy,c9,c9,c9,trivial⟩,⟨⟨_,rfl,(c7 (adl hil hv) (CoP.refl _))⟩,trivial⟩⟩)
        | (refine ⟨i + 1, ?_, ?_, ?_⟩
           · show i + 1 ≤ _;omega
           · first | omega | (dsimp only;omega)
           exact ⟨⟨⟨_,rfl,(cg (adt hil hv))⟩,zy,c9,c9,c9,trivial⟩,⟨⟨_,rfl,(cb (adt hil hv))⟩,trivial⟩⟩)
 have h0:=aa r0
 try simp only [ty] at h0
 obtain rfl:i = (be p).length:=by omega
 rw [List.take_length] at hlen ⊢
 refine w_2 ?_;refine bi 5 rfl rfl rfl ?_;refine w_2 ?_;refine qcx azt (aqv ((be p).filter fun s=>!pkV l p s) (Nat.le_trans (List.length_filter_le _ _) (Nat.le_trans (qc p) (by decide)))) ?_
 refine w_2 ?_
 exact hx8 rfl rfl rfl (CoL.refl _)
theorem a2u:goodFn Tryz.prog 65:=wgx Tryz.func65
theorem a3q (c b:Int) (w:Bs) (hw:w.size ≤ 1000):af Tryz.prog 65 [pI c,pI b,pS w] (aj [pS (kd c b w)]):=by
 refine a8 (nt:=13) a7 Tryz.func65 rfl rfl l9 ?_;refine fc ?_;refine a6 _ rfl (fun r0=>?_) (fun r0=>?_)
 ·
  have h0:=ae r0
  try simp only [ty] at h0
  have he:kd c b w = ⟨#[]⟩:=if_pos h0
  refine w_4 ?_
  exact hx8 rfl rfl rfl (⟨CoC.one (CoP.of_eq (by rw [he];first | done | rfl)),trivial⟩)
 have h0:=aa r0
 try simp only [ty] at h0
 have he:kd c b w = ⟨#[32]⟩ ++ w:=if_neg h0
 refine w_4 ?_;refine rq rfl rfl rfl rfl rfl ?_ (hp:=(by show 1 + _ ≤ _;omega));refine w_2 ?_
 exact hx8 rfl rfl rfl (⟨CoC.one (CoP.of_eq (by rw [he];first | done | rfl)),trivial⟩)
end
section
theorem zo {a b:Bs} {m k:Nat} (ha:a.size ≤ m) (hb:b.size ≤ k):(a ++ b).size ≤ m + k:=by rw [szA];omega
theorem b2s {l:List Bs} {m:Nat} (h:∀ b ∈ l,b.size ≤ m):szB l ≤ m * l.length:=by
 induction l with
 | nil=>simp [szB]
 | cons b l ih =>
  have h1:=h b (by simp)
  have h2:=ih fun x hx=>h x (by simp [hx])
  have e:szB (b :: l) = b.size + szB l:=by simp [szB]
  rw [e,List.length_cons,Nat.mul_succ]
  omega
def okR (d:Rcp):Bool:=decide (d.f.length ≤ 4 ∧ d.m.length ≤ 4 ∧ d.p.length ≤ 3) && decide ((d.m.length:Int) ≤ 2)
theorem b8t {d:Rcp} (h:okR d = true):d.f.length ≤ 4 ∧ d.m.length ≤ 2 ∧ d.p.length ≤ 3:=by
 unfold okR at h
 rw [Bool.and_eq_true,decide_eq_true_eq,decide_eq_true_eq] at h
 omega
def nsL (d:Rcp) (ns:List Bs):List Bs:=if d.num 4 < (ns.length:Int) ∧ (ns.length:Int) % 2 = 0 then ns.take (d.num 4).toNat else ns
theorem alu {d:Rcp} {ns:List Bs} (h:d.num 4 < (ns.length:Int)) (h2:(ns.length:Int) % 2 = 0):nsL d ns = ns.take (d.num 4).toNat:=if_pos ⟨h,h2⟩
theorem anb {d:Rcp} {ns:List Bs} (h:¬ d.num 4 < (ns.length:Int)):nsL d ns = ns:=if_neg fun e=>h e.1
theorem alj {d:Rcp} {ns:List Bs} (h:¬ (ns.length:Int) % 2 = 0):nsL d ns = ns:=if_neg fun e=>h e.2
theorem ayp {d:Rcp} {ns:List Bs} {b:Bs} (h:b ∈ nsL d ns):b ∈ ns:=by
 unfold nsL at h
 split at h
 · exact List.mem_of_mem_take h
 exact h
theorem b3e {d:Rcp} {ns:List Bs} {k:Nat} (h:ns.length ≤ k):(nsL d ns).length ≤ k:=by
 unfold nsL
 split
 · rw [List.length_take];omega
 exact h
theorem bbb (d:Rcp):1 ≤ d.num 4 ∧ d.num 4 ≤ 4:=by
 have:d.n.toNat % 4 < 4:=Nat.mod_lt _ (by omega)
 unfold Rcp.num
 omega
theorem b4h {t:Bs} {ns:List Bs} (h:abn t ns = true) {b:Bs} (hb:b ∈ ns):b.size ≤ 1000:=by
 unfold abn at h
 rw [Bool.and_eq_true,decide_eq_true_eq,decide_eq_true_eq] at h
 have:=b3d hb
 omega
end
section
section
variable {n:Int} {ps:List AS} {p m l:List Fd}
abbrev tb0 (n:Int) (ps:List AS):List Rw:=c5 (cj n ps)
abbrev trS (n:Int) (ps:List AS) (p m:List Fd):List St:=(lsT n ps p m).1
abbrev trT (n:Int) (ps:List AS) (p m:List Fd) (i:Nat):List Rw:=(trL n p m (tb0 n ps) (trS n ps p m)).getD i default
theorem b56 (h:¬ lsC n ps p m = 0):prS n ps p m = [] ∧ prC n ps p m = lsC n ps p m:=by
 have hc:(rcR n ps p m).2.2 = lsC n ps p m:=at8
 unfold prS prC
 rw [hc,if_neg h,if_neg h]
 exact ⟨rfl,rfl⟩
theorem a7a (hls:lsC n ps p m = 0) {i:Nat} (hi:i ≤ (trS n ps p m).length) (hI:∀ j,j < i → ow n (trT n ps p m j) = false) (h:ow n (trT n ps p m i) = true):prS n ps p m = (trS n ps p m).take i ∧ prC n ps p m = 0:=by
 have hq:=axi hls
 have hi':i ≤ (lsT n ps p m).1.length:=hi
 have hc:(rcR n ps p m).2.2 = 0:=by rw [hq]
 have hx:prX n ps p m = (i:Int):=by
  unfold prX
  rw [hq]
  refine qt (p:=fun a:Int × List Rw=>ow n a.2) (i:=i) (by show i < (qq n p m _ _).length;rw [agb];omega) (fun j hj=>?_) ?_
  · show ow n ((qq n p m _ _).getD j default).2 = false
    rw [aan (by omega)]
    exact hI j hj
  show ow n ((qq n p m _ _).getD i default).2 = true
  rw [aan (by omega)]
  exact h
 unfold prS prC
 rw [if_pos hc,if_pos hc,hx,if_neg (by omega),if_neg (by omega),hq]
 exact ⟨rfl,rfl⟩
theorem ayu (hls:lsC n ps p m = 0) (hI:∀ j,j < (trS n ps p m).length + 1 → ow n (trT n ps p m j) = false):prS n ps p m = [] ∧ prC n ps p m = 11:=by
 have hq:=axi hls
 have hc:(rcR n ps p m).2.2 = 0:=by rw [hq]
 have hx:prX n ps p m = -1:=by
  unfold prX
  rw [hq]
  refine re (p:=fun a:Int × List Rw=>ow n a.2) fun j hj=>?_
  have hj:j < (qq n p m (c5 (cj n ps)) (lsT n ps p m).1).length:=hj
  rw [agb] at hj
  show ow n ((qq n p m _ _).getD j default).2 = false
  rw [aan (by omega)]
  exact hI j hj
 unfold prS prC
 rw [if_pos hc,if_pos hc,hx,if_pos (by omega),if_pos (by omega)]
 exact ⟨rfl,rfl⟩
theorem baq (hls:lsC n ps p m = 0) (hb:lsB n ps p m = true):prC n ps p m = 0:=by
 obtain ⟨hv,hbe⟩:=a3w hls
 have hc:(lsT n ps p m).2.2 = 0:=(ay3 hv hbe).symm.trans hls
 obtain ⟨sts,lend,e,htr,_,hif⟩:=arq hv hbe hc
 have hin:eo n ∈ lend:=by
  unfold lsB at hb
  rw [Bool.and_eq_true,e] at hb
  obtain ⟨r,hr,he⟩:=List.any_eq_true.1 hb.2
  rw [← of_decide_eq_true he]
  exact hr
 obtain ⟨t,ht,hf⟩:=hif.2 hin
 apply Classical.byContradiction
 intro hne
 have hs:trS n ps p m = sts:=by show (lsT n ps p m).1 = sts;rw [e]
 have hall:∀ j,j < (trS n ps p m).length + 1 → ow n (trT n ps p m j) = false:=by
  apply Classical.byContradiction
  intro hno
  have:∃ j,j < (trS n ps p m).length + 1 ∧ ow n (trT n ps p m j) = true:=by
   apply Classical.byContradiction
   intro hno2
   exact hno fun j hj=>Bool.eq_false_iff.2 fun h=>hno2 ⟨j,hj,h⟩
  obtain ⟨j,hj,hjt⟩:=this
  have key:∀ k,k ≤ j → (∀ i,i < k → ow n (trT n ps p m i) = false) ∨ prC n ps p m = 0:=by
   intro k
   induction k with
   | zero=>exact fun _=>.inl fun i hi=>absurd hi (Nat.not_lt_zero i)
   | succ k ih =>
    intro hk
    rcases ih (by omega) with h | h
    · rcases Bool.eq_false_or_eq_true (ow n (trT n ps p m k)) with hb2 | hb2
      · exact .inr (a7a hls (i:=k) (by omega) h hb2).2
      refine .inl fun i hi=>?_
      by_cases hik:i = k
      · rw [hik];exact hb2
      exact h i (by omega)
    exact .inr h
  rcases key j (Nat.le_refl j) with h | h
  · exact hne (a7a hls (i:=j) (by omega) h hjt).2
  exact hne h
 obtain ⟨k,hk,he⟩:=List.getElem_of_mem ht
 rw [zb] at hk
 have h1:=hall k (by rw [hs];exact hk)
 have h2:trT n ps p m k = t:=by
  show (trL n p m (tb0 n ps) (trS n ps p m)).getD k default = t
  rw [hs,List.getD_eq_getElem?_getD,List.getElem?_eq_getElem (by rw [zb];exact hk),← he]
  rfl
 rw [h2] at h1
 have:ow n t = true:=List.any_eq_true.2 ⟨eo n,hf,decide_eq_true rfl⟩
 rw [this] at h1
 cases h1
def thB (n:Int) (l:List Fd) (p:AS):Bool:=a2x n l p && decide (xc n l p = 0)
def byB (l:List Fd) (p:AS):Bool:=!t8 l p && decide (p6 l p = 0)
def foB (n:Int) (l m:List Fd) (p:AS):Bool:=!(a49 n l m p).2 && decide (ck4 n l m p = 0)
def um (a b c d:Bool):Int:=(bif a then 2 else 0) + ((bif b then 4 else 0) + ((bif c then 8 else 0) + (bif d then 16 else 0)))
def a56 (n:Int) (l m:List Fd) (ps:List AS):Int:=um (nr l ps) (ps.all (thB n l)) (ps.all (byB l)) (ps.all (foB n l m))
def uh (n:Int) (l m:List Fd) (ps:List AS):Int:=if lsC n ps l m = 0 then a56 n l m ps + (bif lsB n ps l m then 1 else 0) else 0
theorem b92 (h:¬ lsC n ps l m = 0):uh n l m ps = 0:=if_neg h
theorem bas (h:lsC n ps l m = 0) (hb:lsB n ps l m = true):uh n l m ps = bo .or .i64 (a56 n l m ps) 1:=by
 unfold uh
 rw [if_pos h,hb]
 unfold a56
 generalize nr l ps = a
 generalize ps.all (thB n l) = b
 generalize ps.all (byB l) = c
 generalize ps.all (foB n l m) = d
 cases a <;> cases b <;> cases c <;> cases d <;> decide
theorem ba2 (h:lsC n ps l m = 0) (hb:lsB n ps l m = false):uh n l m ps = a56 n l m ps:=by
 unfold uh
 rw [if_pos h,hb]
 exact Int.add_zero _
theorem ayr (h:lsC n ps l m = 0):decide (bo .and .i64 (uh n l m ps) 1 = 0) = !lsB n ps l m:=by
 unfold uh
 rw [if_pos h]
 unfold a56
 generalize nr l ps = a
 generalize ps.all (thB n l) = b
 generalize ps.all (byB l) = c
 generalize ps.all (foB n l m) = d
 generalize lsB n ps l m = e
 cases a <;> cases b <;> cases c <;> cases d <;> cases e <;> decide
theorem anm {a:Bool} (h:a = true):bo .or .i64 0 2 = um a false false false:=by rw [h];decide
theorem aqb {a b:Bool} (h:b = true):bo .or .i64 (um a false false false) 4 = um a b false false:=by rw [h];cases a <;> decide
theorem arx {a b c:Bool} (h:c = true):bo .or .i64 (um a b false false) 8 = um a b c false:=by rw [h];cases a <;> cases b <;> decide
theorem aq9 {a b c d:Bool} (h:d = true):bo .or .i64 (um a b c false) 16 = um a b c d:=by rw [h];cases a <;> cases b <;> cases c <;> decide
abbrev Dsg:=List AS × Int × List St
abbrev dsn (d:Dsg):PC:=.agg [asl d.1, .raw (.int .i64 d.2.1),stl d.2.2]
def fuD (n:Int) (l m:List Fd) (ps:List AS):Dsg:=if lsC n ps l m = 0 then (ps,uh n l m ps,if lsB n ps l m = true then prS n ps l m else []) else ([],0,[])
theorem bc5 (h:¬ lsC n ps l m = 0):fuD n l m ps = ([],0,[]):=if_neg h
theorem bck (h:lsC n ps l m = 0) (hb:lsB n ps l m = true):fuD n l m ps = (ps,uh n l m ps,prS n ps l m):=by unfold fuD;rw [if_pos h,if_pos hb]
theorem bbs (h:lsC n ps l m = 0) (hb:lsB n ps l m = false):fuD n l m ps = (ps,uh n l m ps,[]):=by unfold fuD;rw [if_pos h,if_neg (by rw [hb];exact Bool.false_ne_true)]
def su (n:Int) (l m:List Fd):Int:=if n < 0 ∨ 8 < n then 7 else d9 n l m
def kj (n:Int) (l m:List Fd) (f:Int):List AS × Int:=if f = 3 then (a3d n l,br n l) else if f = 4 then (ag2 n l,gi n l 8) else if f = 5 then (bcb n l m,ck4 n l m 0) else ([],1)
theorem bc4 {f:Int} (h:f = 3):kj n l m f = (a3d n l,br n l):=if_pos h
theorem bc2 {f:Int} (h:¬ f = 3) (h2:f = 4):kj n l m f = (ag2 n l,gi n l 8):=by unfold kj;rw [if_neg h,if_pos h2]
theorem bbz {f:Int} (h:¬ f = 3) (h2:¬ f = 4) (h3:¬ f = 5):kj n l m f = ([],1):=by unfold kj;rw [if_neg h,if_neg h2,if_neg h3]
def goD (n:Int) (l m:List Fd) (q:List AS × Int):Dsg:=if su n l m = 0 then (if q.2 = 0 then fuD n l m q.1 else ([],0,[])) else ([],0,[])
def goE (n:Int) (l m:List Fd) (q:List AS × Int):Int:=if su n l m = 0 then (if q.2 = 0 then lsC n q.1 l m else q.2) else su n l m
theorem b7e {q:List AS × Int} (h:¬ su n l m = 0):goD n l m q = ([],0,[]) ∧ goE n l m q = su n l m:=⟨if_neg h,if_neg h⟩
theorem b5x {q:List AS × Int} (h:su n l m = 0) (h2:¬ q.2 = 0):goD n l m q = ([],0,[]) ∧ goE n l m q = q.2:=by
 unfold goD goE
 rw [if_pos h,if_neg h2,if_pos h,if_neg h2]
 exact ⟨rfl,rfl⟩
theorem b4f {q:List AS × Int} (h:su n l m = 0) (h2:q.2 = 0):goD n l m q = fuD n l m q.1 ∧ goE n l m q = lsC n q.1 l m:=by
 unfold goD goE
 rw [if_pos h,if_pos h2,if_pos h,if_pos h2]
 exact ⟨rfl,rfl⟩
def mn (n:Int) (l:List Fd):List AS × Int:=if gi n l 8 = 0 then (if te n l = true then (xx n l,0) else (a3d n l,br n l)) else (xx n l,gi n l 8)
theorem bbc (h:¬ gi n l 8 = 0):mn n l = (xx n l,gi n l 8):=if_neg h
theorem bb8 (h:gi n l 8 = 0) (h2:te n l = true):mn n l = (xx n l,gi n l 8):=by unfold mn;rw [if_pos h,if_pos h2,h]
theorem bci (h:gi n l 8 = 0) (h2:te n l = false):mn n l = (a3d n l,br n l):=by unfold mn;rw [if_pos h,if_neg (by rw [h2];exact Bool.false_ne_true)]
theorem aya (h:n < 0 ∨ 8 < n):su n l m = 7:=if_pos h
theorem b9h (h:¬ (n < 0 ∨ 8 < n)):su n l m = d9 n l m:=if_neg h
end
end
section
open Go.Proofs
theorem b89:goodFn Tryz.prog 81:=wgx Tryz.func81
theorem aye (n:Int) (ps:List AS) (p m:List Fd):af Tryz.prog 81 [pI n,pP (asl ps),pP (fdl p),pP (fdl m)] (aj [pP (stl (prS n ps p m)),pI (prC n ps p m)]):=by
 refine a8 (nt:=55) a7 Tryz.func81 rfl rfl l9 ?_;refine f8 ?_;refine qcx akh (akp n ps p m) ?_;refine w_5 ?_;refine m9 0 ?_;refine m9 1 ?_;refine f8 ?_
 refine a6 _ rfl (fun r0=>?_) (fun r0=>?_)
 ·
  have h0:=r0
  have h0:=aa (au h0)
  try simp only [ty] at h0
  have hne:¬ lsC n ps p m = 0:=by rw [← mz];exact h0
  have hr:=b56 hne
  refine w_6 ?_
  exact hx8 rfl rfl rfl (by rw [hr.1,hr.2,← mz];exact ⟨CoC.one coN,CoC.refl _,trivial⟩)
 have h0:=r0
 have h0:=ae (ar h0)
 try simp only [ty] at h0
 have hls:lsC n ps p m = 0:=by
  rw [← mz]
  exact h0
 obtain ⟨hv,hb⟩:=a3w hls
 have hc:(lsT n ps p m).2.2 = 0:=(ay3 hv hb).symm.trans hls
 have htr:=b78 hv hb hc
 have hR:=aml hv hb
 obtain ⟨hn0,hn8,_,_,_⟩:=n3 hv
 have hn16:n ≤ 16:=by omega
 have hfew:(trS n ps p m).length ≤ 1300000:=b0l (p:=p) (m:=m) hv hb
 refine w_6 ?_
 refine ah (ι:=Nat) ⟨[(0,some _),(2,some _),(3,some _),(10,some _)],[]⟩ ⟨⟨c9,c9,c9,c9,trivial⟩,trivial⟩ (fun i=>⟨[(14,some (vI i)),(11,some (.v (.one (.p (stl (trS n ps p m))))))],[(0,some (.box [.p (.raw (.int .i64 n)), .p (rl (trT n ps p m i))]))]⟩) (fun i=>i ≤ (trS n ps p m).length ∧ ∀ j,j < i → ow n (trT n ps p m j) = false) (fun i=>(trS n ps p m).length - i) (0) (⟨Nat.zero_le _,fun j hj=>absurd hj (Nat.not_lt_zero j)⟩) ⟨⟨zy,⟨_,rfl,(by rw [hR];exact CoR.refl _)⟩,trivial⟩,⟨⟨_,rfl,(by rw [hR];unfold trT;rw [b0t];exact CoO.refl _)⟩,trivial⟩⟩ ?_
 rintro i ⟨hi,hI⟩
 refine w_4 ?_;refine bg (E:=bj) a7 aw [0,1,2,3] ?_;refine w_2 ?_;refine qcx aiq (aki n hn0 hn16) ?_;refine qcx aau (alr n (trT n ps p m i) (eo n)) ?_;refine ax ?_
 refine ⟨by kernel_rfl, ?_⟩;refine a6 _ rfl (fun r1=>?_) (fun r1=>?_)
 ·
  have h1:=r1
  have hr:=a7a hls (i:=i) hi hI h1
  refine w_8 ?_
  exact hx8 rfl rfl rfl (by rw [hr.1,hr.2];exact ⟨CoC.one (avv (by rw [List.length_take];dsimp only [ej,bc];omega) (fun a j=>by first | rfl | (simp;rfl))),CoC.refl _,trivial⟩)
 have h1:=r1
 refine w_9 ?_;refine a6 _ rfl (fun r2=>?_) (fun r2=>?_)
 ·
  have h2:=ae r2
  try simp only [ty] at h2
  obtain rfl:i = (trS n ps p m).length:=by omega
  have hr:=ayu hls fun j hj=>by
   by_cases e:j = (trS n ps p m).length
   · rw [e];assumption
   exact hI j (by omega)
  refine w_5 ?_
  exact hx8 rfl rfl rfl (by rw [hr.1,hr.2];exact ⟨CoC.one coN,CoC.refl _,trivial⟩)
 have h2:=aa r2
 try simp only [ty] at h2
 have hil:i < (trS n ps p m).length:=by omega
 obtain ⟨hx1,hx2,hx3⟩:=b90 hil (ay9 htr (i:=i) hi)
 refine w_2 ?_;refine bg (E:=bj) a7 aw [0,1,2,3,4,5,6,7,8,9,10,11,12] ?_;refine w_7 ?_;refine qcx azv (ary n (trT n ps p m i) p m ((trS n ps p m).getD i default) hx1 hb hx2 hx3) ?_
 refine w_6 ?_;refine ⟨by kernel_rfl, ?_⟩;refine w_5 ?_;refine a6 _ rfl (fun e=>by cases e) (fun _=>?_);refine w_6 ?_;refine ⟨i + 1, ?_, ?_, ?_⟩
 · refine ⟨by omega,fun j hj=>?_⟩
   by_cases e:j = i
   · rw [e];assumption
   exact hI j (by omega)
 · first | omega | (dsimp only;omega)
 exact ⟨⟨zy,c9,c9,c9,c9,c9,trivial⟩,⟨⟨_,rfl,(by unfold trT;rw [aku hil];exact CoO.refl _)⟩,trivial⟩⟩
end
section
open Go.Proofs
def bd8 (n:Int) (l:List Fd) (i:Nat):Bool:=((a3d n l).take i).any (jo n l)
section
variable {n:Int} {l:List Fd}
end
section
variable {d:Dps}
end
end
end Go.Hx
