/- A part of the proof: Bz6 Ch15 Y4 Y6 Y7. -/
import Derived.Test.YtidophngianjiaaDoorDx16
import Derived.Test.YtidophngianjiaaDoorDx19
import Derived.Test.YtidophngianjiaaDoorDx21
import Derived.Test.YtidophngianjiaaDoorDx22
import Derived.Test.YtidophngianjiaaDoorDx25
set_option linter.all false
section
namespace Go.Hx
def fdP (d:Fd) (r k:AS):Option AS:=if (r ^^^ k) &&& d.lhs = 0 then (if (r ^^^ k) &&& d.rhs = 0 then none else some ((r ^^^ k) &&& d.rhs)) else none
def fdQ (d:Fd) (T:List AS) (r:AS):Option AS:=T.findSome? (fdP d r)
def fdT (d:Fd) (T:List AS):Option AS:=T.findSome? (fdQ d T)
theorem a65 {d:Fd} {T:List AS} {s:AS} (h:fdT d T = some s):∃ r ∈ T,∃ k ∈ T,agB d r k = true ∧ s = (r ^^^ k) &&& d.rhs ∧ s ≠ 0:=by
 unfold fdT at h
 obtain ⟨r,hr,h⟩:=List.exists_of_findSome?_eq_some h
 unfold fdQ at h
 obtain ⟨k,hk,h⟩:=List.exists_of_findSome?_eq_some h
 unfold fdP at h
 split at h
 · rename_i h1
   split at h
   · cases h
   · rename_i h2
     cases h
     exact ⟨r,hr,k,hk,decide_eq_true h1,rfl,h2⟩
 · cases h
theorem aip {d:Fd} {T:List AS} (h:fdT d T = none):∀ r ∈ T,∀ k ∈ T,agB d r k = true → (r ^^^ k) &&& d.rhs = 0:=by
 intro r hr k hk ha
 unfold fdT at h
 rw [List.findSome?_eq_none_iff] at h
 have h:=h r hr
 unfold fdQ at h
 rw [List.findSome?_eq_none_iff] at h
 have h:=h k hk
 unfold fdP at h
 rw [if_pos (of_decide_eq_true ha)] at h
 split at h
 · assumption
 · cases h
theorem a56 {d:Fd} {r k:AS} (h:¬ (r ^^^ k) &&& d.lhs = 0):fdP d r k = none:=if_neg h
theorem a4w {d:Fd} {r k:AS} (h:(r ^^^ k) &&& d.lhs = 0) (h2:(r ^^^ k) &&& d.rhs = 0):fdP d r k = none:=by unfold fdP;rw [if_pos h,if_pos h2]
theorem al0 {d:Fd} {r k:AS} (h:(r ^^^ k) &&& d.lhs = 0) (h2:¬ (r ^^^ k) &&& d.rhs = 0):fdP d r k = some ((r ^^^ k) &&& d.rhs):=by unfold fdP;rw [if_pos h,if_neg h2]
theorem nk {T:List AS} (h:T.Nodup):T.length ≤ 4294967296:=by
 have h1:(T.map BitVec.toNat).Nodup:=List.Pairwise.map _ (fun a b hab e=>hab (BitVec.eq_of_toNat_eq e)) h
 have h2:∀ x ∈ T.map BitVec.toNat,x < 4294967296:=by
  intro x hx
  obtain ⟨a,_,rfl⟩:=List.mem_map.1 hx
  exact a.isLt
 have hlen:(T.map BitVec.toNat).length = T.length:=List.length_map _
 rw [← hlen]
 have key:∀ (N:Nat) (l:List Nat),l.Nodup → (∀ x ∈ l,x < N) → l.length ≤ N:=by
  intro N
  induction N with
  | zero =>
   intro l _ hl
   cases l with
   | nil=>exact Nat.le_refl _
   | cons a l=>exact absurd (hl a (by simp)) (Nat.not_lt_zero _)
  | succ N ih =>
   intro l hn hl
   have h3:=ih (l.filter fun x=>!decide (x = N)) (hn.filter _) fun x hx=>by
    rw [List.mem_filter] at hx
    have:=hl x hx.1
    have hx2:¬ x = N:=by simpa using hx.2
    omega
   have h4:l.length ≤ (l.filter fun x=>!decide (x = N)).length + 1:=by
    have h5:∀ l:List Nat,l.length = (l.filter fun x=>!decide (x = N)).length + l.countP fun x=>decide (x = N):=by
     intro l
     induction l with
     | nil=>rfl
     | cons a l ih =>
      by_cases e:a = N
      · simp [List.filter_cons,List.countP_cons,e,ih];omega
      · simp [List.filter_cons,List.countP_cons,e,ih];omega
    have h6:=h5 l
    have h7:(l.countP fun x=>decide (x = N)) ≤ 1:=by
     have:=hn.count (a:=N)
     have e:(l.countP fun x=>decide (x = N)) = l.count N:=by
      unfold List.count
      congr 1
     rw [e]
     first | exact List.nodup_iff_count.1 hn N | (rw [this];split <;> omega)
    omega
   omega
 exact key _ _ h1 h2
theorem qa {T:List AS} {i:Nat} (hi:i < 32):(orL T).getLsbD i = T.any fun r=>r.getLsbD i:=by
 unfold orL
 have:∀ (T:List AS) (o:AS),(T.foldl (· ||| ·) o).getLsbD i = (o.getLsbD i || T.any fun r=>r.getLsbD i):=by
  intro T
  induction T with
  | nil=>intro o;simp
  | cons a T ih=>intro o;rw [List.foldl_cons,ih,BitVec.getLsbD_or,List.any_cons,Bool.or_assoc]
 rw [this]
 simp
theorem amx {T:List AS} {s:AS}:orL (fk T s) = orL T &&& ~~~s:=by
 apply ew
 intro i hi
 rw [qa hi,bh hi,qa hi]
 cases hs:s.getLsbD i with
 | true =>
  simp only [Bool.not_true,Bool.and_false]
  rw [List.any_eq_false]
  intro z hz
  obtain ⟨r,hr,rfl⟩:=kw.1 hz
  rw [bh hi,hs]
  simp
 | false =>
  simp only [Bool.not_false,Bool.and_true]
  rw [Bool.eq_iff_iff,List.any_eq_true,List.any_eq_true]
  constructor
  · rintro ⟨z,hz,hb⟩
    obtain ⟨r,hr,rfl⟩:=kw.1 hz
    rw [bh hi,Bool.and_eq_true] at hb
    exact ⟨r,hr,hb.1⟩
  · rintro ⟨r,hr,hb⟩
    exact ⟨r &&& ~~~s,kw.2 ⟨r,hr,rfl⟩,by rw [bh hi,hb,hs];rfl⟩
theorem a2p {d:Fd} {T:List AS} {s:AS} (h:fdT d T = some s):(orL (fk T s)).toNat < (orL T).toNat:=by
 obtain ⟨r,hr,k,hk,_,rfl,hz⟩:=a65 h
 rw [amx]
 refine a7c qq fun e=>?_
 obtain ⟨i,hi,hb⟩:=a7o hz
 have h1:=congrArg (fun z:AS=>z.getLsbD i) e
 simp only [bh hi,hb,Bool.not_true,Bool.and_false] at h1
 have h1:(orL T).getLsbD i = false:=h1.symm
 rw [qa hi,List.any_eq_false] at h1
 rw [BitVec.getLsbD_and,BitVec.getLsbD_xor,Bool.and_eq_true] at hb
 have h2:r.getLsbD i = false:=by simpa using h1 r hr
 have h3:k.getLsbD i = false:=by simpa using h1 k hk
 rw [h2,h3] at hb
 simp at hb
def jw (d:Fd):Nat → List AS → List AS
 | 0,T=>T
 | f + 1,T=>match fdT d T with
  | none=>T
  | some s=>jw d f (fk T s)
def mvS (d:Fd) (T:List AS) (i k:Nat):List AS:=if agB d (T.getD i default) (T.getD k default) = true then db T (fv d (T.getD i default) (T.getD k default)) else T
def mvI (d:Fd):Nat → List AS → Nat → Nat → List AS
 | 0,T,_,_=>T
 | f + 1,T,i,k=>if k < T.length then mvI d f (mvS d T i k) i (k + 1) else T
def mvO (d:Fd):Nat → List AS → Nat → List AS
 | 0,T,_=>T
 | f + 1,T,i=>if i < T.length then mvO d f (mvI d 8589934592 T i 0) (i + 1) else T
theorem tf (d:Fd) (T:List AS) (i k:Nat):T <+: mvS d T i k:=by
 unfold mvS db
 split
 · split
   · exact List.prefix_refl _
   · exact List.prefix_append _ _
 · exact List.prefix_refl _
theorem og (d:Fd):∀ (f:Nat) (T:List AS) (i k:Nat),T <+: mvI d f T i k
 | 0,T,_,_=>List.prefix_refl _
 | f + 1,T,i,k=>by
  unfold mvI
  split
  · exact (tf d T i k).trans (og d f _ i (k + 1))
  · exact List.prefix_refl _
theorem su (d:Fd):∀ (f:Nat) (T:List AS) (i:Nat),T <+: mvO d f T i
 | 0,T,_=>List.prefix_refl _
 | f + 1,T,i=>by
  unfold mvO
  split
  · exact (og d _ T i 0).trans (su d f _ (i + 1))
  · exact List.prefix_refl _
theorem ads {A B:List AS} (h:A <+: B) (hl:B.length = A.length):B = A:=by
 obtain ⟨C,rfl⟩:=h
 rw [List.length_append] at hl
 rw [List.length_eq_zero_iff.1 (show C.length = 0 by omega),List.append_nil]
theorem z7 {A B C:List AS} (h:A <+: B) (k:B <+: C) (hl:C.length = A.length):B = A:=by
 have h1:=h.length_le
 have h2:=k.length_le
 exact ads h (by omega)
theorem a5n {d:Fd}:∀ {f:Nat} {T:List AS} {i k:Nat},T.length < f + k → (mvI d f T i k).length = T.length → ∀ j,k ≤ j → j < T.length → agB d (T.getD i default) (T.getD j default) = true → fv d (T.getD i default) (T.getD j default) ∈ T
 | 0,T,i,k,hf,_,j,hj,hjl,_=>by omega
 | f + 1,T,i,k,hf,hl,j,hj,hjl,ha=>by
  unfold mvI at hl
  rw [if_pos (by omega)] at hl
  have e:=z7 (tf d T i k) (og d f _ i (k + 1)) hl
  by_cases hjk:j = k
  · subst hjk
    unfold mvS db at e
    rw [if_pos ha] at e
    split at e
    · assumption
    · have:=congrArg List.length e
      simp at this
  · rw [e] at hl
    exact a5n (by omega) hl j (by omega) hjl ha
theorem a6b {d:Fd}:∀ {f:Nat} {T:List AS} {i:Nat},T.length ≤ 4294967296 → T.length < f + i → (mvO d f T i).length = T.length → ∀ a,i ≤ a → a < T.length → ∀ j,j < T.length → agB d (T.getD a default) (T.getD j default) = true → fv d (T.getD a default) (T.getD j default) ∈ T
 | 0,T,i,_,hf,_,a,ha,hal,_,_,_=>by omega
 | f + 1,T,i,hT,hf,hl,a,ha,hal,j,hj,hag=>by
  unfold mvO at hl
  rw [if_pos (by omega)] at hl
  have e:=z7 (og d 8589934592 T i 0) (su d f _ (i + 1)) hl
  by_cases hai:a = i
  · subst hai
    exact a5n (by omega) (congrArg List.length e) j (Nat.zero_le _) hj hag
  · rw [e] at hl
    exact a6b hT (by omega) hl a (by omega) hal j hj hag
theorem acm {d:Fd} {T:List AS} {i k:Nat} (h:T.Nodup):(mvS d T i k).Nodup:=by
 unfold mvS
 split
 · exact o7 h
 · exact h
theorem a6n {d:Fd}:∀ {f:Nat} {T:List AS} {i k:Nat},T.Nodup → (mvI d f T i k).Nodup
 | 0,T,_,_,h=>h
 | f + 1,T,i,k,h=>by
  unfold mvI
  split
  · exact a6n (acm h)
  · exact h
theorem a6z {d:Fd}:∀ {f:Nat} {T:List AS} {i:Nat},T.Nodup → (mvO d f T i).Nodup
 | 0,T,_,h=>h
 | f + 1,T,i,h=>by
  unfold mvO
  split
  · exact a6z (a6n h)
  · exact h
abbrev TC:=List AS × Bool
def FU2:Nat:=8589934592
def fdR (x:TC) (d:Fd):TC:=(jw d FU2 x.1,x.2 || (fdT d x.1).isSome)
def mvR (x:TC) (d:Fd):TC:=(mvO d FU2 x.1 0,x.2 || decide (x.1.length < (mvO d FU2 x.1 0).length))
def iw (fs ms:List Fd) (T:List AS):TC:=ms.foldl mvR (fs.foldl fdR (T,false))
def chF (fs ms:List Fd):Nat → List AS → List AS
 | 0,T=>T
 | f + 1,T=>if (iw fs ms T).2 = true then chF fs ms f (iw fs ms T).1 else (iw fs ms T).1
def muT (T:List AS):Nat:=(orL T).toNat * FU2 + (4294967296 - T.length)
theorem qw {d:Fd} {f:Nat} {T:List AS} {s:AS} (h:fdT d T = some s):jw d (f + 1) T = jw d f (fk T s):=by
 show (match fdT d T with | none=>T | some s=>jw d f (fk T s)) = _
 rw [h]
theorem qi {d:Fd} {f:Nat} {T:List AS} (h:fdT d T = none):jw d f T = T:=by
 cases f with
 | zero=>rfl
 | succ f =>
  show (match fdT d T with | none=>T | some s=>jw d f (fk T s)) = _
  rw [h]
theorem a6t {d:Fd} {P:List AS → Prop} (hP:∀ T s,P T → fdT d T = some s → P (fk T s)):∀ (f:Nat) (T:List AS),P T → P (jw d f T)
 | 0,T,h=>h
 | f + 1,T,h=>by
  cases hq:fdT d T with
  | none=>rw [qi hq];exact h
  | some s=>rw [qw hq];exact a6t hP f _ (hP T s h hq)
theorem a93 {d:Fd} {P:List AS → Prop} (hP:∀ T r k,P T → r ∈ T → k ∈ T → agB d r k = true → P (db T (fv d r k))):∀ (f:Nat) (T:List AS) (i k:Nat),i < T.length → P T → P (mvI d f T i k)
 | 0,T,_,_,_,h=>h
 | f + 1,T,i,k,hi,h=>by
  unfold mvI
  split
  · rename_i hk
    refine a93 hP f _ i (k + 1) (Nat.lt_of_lt_of_le hi (tf d T i k).length_le) ?_
    unfold mvS
    split
    · rename_i ha
      exact hP T _ _ h (it hi) (it hk) ha
    · exact h
  · exact h
theorem a3o {d:Fd} {P:List AS → Prop} (hP:∀ T r k,P T → r ∈ T → k ∈ T → agB d r k = true → P (db T (fv d r k))):∀ (f:Nat) (T:List AS) (i:Nat),P T → P (mvO d f T i)
 | 0,T,_,h=>h
 | f + 1,T,i,h=>by
  unfold mvO
  split
  · rename_i hi
    exact a3o hP f _ (i + 1) (a93 hP _ T i 0 hi h)
  · exact h
theorem y7 {P:List AS → Prop} {fs:List Fd} (hP:∀ d ∈ fs,∀ T s,P T → fdT d T = some s → P (fk T s)):∀ (ds:List Fd) (x:TC),(∀ d ∈ ds,d ∈ fs) → P x.1 → P (ds.foldl fdR x).1
 | [],x,_,h=>h
 | d :: ds,x,hd,h=>y7 hP ds (fdR x d) (fun e he=>hd e (by simp [he])) (a6t (hP d (hd d (by simp))) _ _ h)
theorem a3k {P:List AS → Prop} {ms:List Fd} (hP:∀ d ∈ ms,∀ T r k,P T → r ∈ T → k ∈ T → agB d r k = true → P (db T (fv d r k))):∀ (ds:List Fd) (x:TC),(∀ d ∈ ds,d ∈ ms) → P x.1 → P (ds.foldl mvR x).1
 | [],x,_,h=>h
 | d :: ds,x,hd,h=>a3k hP ds (mvR x d) (fun e he=>hd e (by simp [he])) (a3o (hP d (hd d (by simp))) _ _ _ h)
theorem xp {P:List AS → Prop} {fs ms:List Fd} (h1:∀ d ∈ fs,∀ T s,P T → fdT d T = some s → P (fk T s)) (h2:∀ d ∈ ms,∀ T r k,P T → r ∈ T → k ∈ T → agB d r k = true → P (db T (fv d r k))) {T:List AS} (h:P T):P (iw fs ms T).1 :=
 a3k h2 ms _ (fun _ h=>h) (y7 h1 fs (T,false) (fun _ h=>h) h)
theorem afb {P:List AS → Prop} {fs ms:List Fd} (h1:∀ d ∈ fs,∀ T s,P T → fdT d T = some s → P (fk T s)) (h2:∀ d ∈ ms,∀ T r k,P T → r ∈ T → k ∈ T → agB d r k = true → P (db T (fv d r k))):∀ (f:Nat) (T:List AS),P T → P (chF fs ms f T)
 | 0,T,h=>h
 | f + 1,T,h=>by
  unfold chF
  split
  · exact afb h1 h2 f _ (xp h1 h2 h)
  · exact xp h1 h2 h
theorem a54 {fs:List Fd}:∀ d ∈ fs,∀ (T:List AS) (s:AS),T.Nodup → fdT d T = some s → (fk T s).Nodup:=fun _ _ T s _ _=>a26 T s
theorem abf {ms:List Fd}:∀ d ∈ ms,∀ (T:List AS) (r k:AS),T.Nodup → r ∈ T → k ∈ T → agB d r k = true → (db T (fv d r k)).Nodup:=fun _ _ _ _ _ h _ _ _=>o7 h
theorem a7b:∀ (ds:List Fd) (x:TC),x.2 = true → (ds.foldl fdR x).2 = true
 | [],x,h=>h
 | d :: ds,x,h=>a7b ds (fdR x d) (by unfold fdR;simp [h])
theorem a0c:∀ (ds:List Fd) (x:TC),x.2 = true → (ds.foldl mvR x).2 = true
 | [],x,h=>h
 | d :: ds,x,h=>a0c ds (mvR x d) (by unfold mvR;simp [h])
theorem a5w:∀ {ds:List Fd} {x:TC},(ds.foldl fdR x).2 = false → ds.foldl fdR x = x ∧ ∀ d ∈ ds,fdT d x.1 = none
 | [],x,h=>⟨rfl,fun _ h=>by cases h⟩
 | d :: ds,x,h=>by
  have hx2:(fdR x d).2 = false:=by
   cases hq:(fdR x d).2 with
   | false=>rfl
   | true=>rw [List.foldl_cons,a7b ds _ hq] at h;cases h
  have hd:x.2 = false ∧ fdT d x.1 = none:=by
   unfold fdR at hx2
   rw [Bool.or_eq_false_iff] at hx2
   exact ⟨hx2.1,by cases hq:fdT d x.1 with | none=>rfl | some s=>rw [hq] at hx2;cases hx2.2⟩
  have e:fdR x d = x:=by
   unfold fdR
   rw [qi hd.2,hd.2]
   simp
  rw [List.foldl_cons,e] at h
  obtain ⟨q1,q2⟩:=a5w h
  refine ⟨by rw [List.foldl_cons,e];exact q1,fun k hk=>?_⟩
  rcases List.mem_cons.1 hk with rfl | hk
  · exact hd.2
  · exact q2 k hk
theorem a6l:∀ {ds:List Fd} {x:TC},x.1.Nodup → (ds.foldl mvR x).2 = false → ds.foldl mvR x = x ∧ ∀ d ∈ ds,∀ r ∈ x.1,∀ k ∈ x.1,agB d r k = true → fv d r k ∈ x.1
 | [],x,_,h=>⟨rfl,fun _ h=>by cases h⟩
 | d :: ds,x,hn,h=>by
  have hx2:(mvR x d).2 = false:=by
   cases hq:(mvR x d).2 with
   | false=>rfl
   | true=>rw [List.foldl_cons,a0c ds _ hq] at h;cases h
  have hfew:=nk hn
  have hd:x.2 = false ∧ (mvO d FU2 x.1 0).length = x.1.length:=by
   unfold mvR at hx2
   rw [Bool.or_eq_false_iff] at hx2
   refine ⟨hx2.1, ?_⟩
   have h1:=of_decide_eq_false hx2.2
   have h2:=(su d FU2 x.1 0).length_le
   omega
  have e0:mvO d FU2 x.1 0 = x.1:=ads (su d FU2 x.1 0) hd.2
  have e:mvR x d = x:=by
   unfold mvR
   rw [e0]
   simp
  rw [List.foldl_cons,e] at h
  obtain ⟨q1,q2⟩:=a6l hn h
  refine ⟨by rw [List.foldl_cons,e];exact q1,fun k hk=>?_⟩
  rcases List.mem_cons.1 hk with rfl | hk
  · intro r hr q hq ha
    obtain ⟨i,hi,rfl⟩:=List.mem_iff_getElem.1 hr
    obtain ⟨j,hj,rfl⟩:=List.mem_iff_getElem.1 hq
    have g:=a6b (d:=k) (f:=FU2) (T:=x.1) (i:=0) hfew (by show _ < 8589934592 + 0;omega) hd.2 i (Nat.zero_le _) hi j hj
    have ei:x.1.getD i default = x.1[i]:=by rw [List.getD_eq_getElem?_getD,List.getElem?_eq_getElem hi];rfl
    have ej:x.1.getD j default = x.1[j]:=by rw [List.getD_eq_getElem?_getD,List.getElem?_eq_getElem hj];rfl
    rw [ei,ej] at g
    exact g ha
  · exact q2 k hk
theorem aj3 {fs ms:List Fd} {T:List AS} (hn:T.Nodup) (h:(iw fs ms T).2 = false):(iw fs ms T).1 = T ∧ a52 fs ms T:=by
 unfold iw at h ⊢
 have h0:(fs.foldl fdR (T,false)).2 = false:=by
  cases hq:(fs.foldl fdR (T,false)).2 with
  | false=>rfl
  | true=>rw [a0c ms _ hq] at h;cases h
 obtain ⟨e1,c1⟩:=a5w h0
 rw [e1] at h ⊢
 obtain ⟨e2,c2⟩:=a6l (x:=(T,false)) hn h
 rw [e2]
 exact ⟨rfl,fun d hd=>aip (c1 d hd),fun d hd r hr k hk ha=>c2 d hd r hr k hk ha⟩
theorem adk {A B:List AS} (h:(orL B).toNat < (orL A).toNat):muT B < muT A:=by
 unfold muT
 have h1:((orL B).toNat + 1) * FU2 ≤ (orL A).toNat * FU2:=Nat.mul_le_mul_right _ h
 rw [Nat.add_mul] at h1
 have:FU2 = 8589934592:=rfl
 omega
theorem amh {A B:List AS} (hp:A <+: B) (ho:(orL B).toNat = (orL A).toNat) (hB:B.length ≤ 4294967296):muT B ≤ muT A ∧ (A.length < B.length → muT B < muT A):=by
 unfold muT
 rw [ho]
 have:=hp.length_le
 omega
theorem amd {T:List AS} {d:Fd} {r k:AS} (hr:r ∈ T) (hk:k ∈ T):orL (db T (fv d r k)) = orL T:=by
 apply ew
 intro i hi
 rw [qa hi,qa hi,Bool.eq_iff_iff,List.any_eq_true,List.any_eq_true]
 constructor
 · rintro ⟨z,hz,hb⟩
   rcases jj.1 hz with hz | rfl
   · exact ⟨z,hz,hb⟩
   · rw [mf hi] at hb
     split at hb
     · exact ⟨r,hr,hb⟩
     · exact ⟨k,hk,hb⟩
 · rintro ⟨z,hz,hb⟩
   exact ⟨z,jj.2 (.inl hz),hb⟩
theorem an6 {d:Fd} {f:Nat} {T:List AS} {i:Nat}:orL (mvO d f T i) = orL T :=
 a3o (P:=fun X=>orL X = orL T) (fun X r k h hr hk _=>(amd hr hk).trans h) f T i rfl
theorem aaa {d:Fd} {T0:List AS} (f:Nat):∀ (T:List AS),muT T ≤ muT T0 → muT (jw d f T) ≤ muT T0:=by
 induction f with
 | zero=>intro T h;exact h
 | succ f ih =>
  intro T h
  cases hq:fdT d T with
  | none=>rw [qi hq];exact h
  | some s =>
   rw [qw hq]
   have h1:=adk (a2p hq)
   exact ih _ (by omega)
theorem ap4 (x:TC) (d:Fd):muT (fdR x d).1 ≤ muT x.1 ∧ (x.2 = false → (fdR x d).2 = true → muT (fdR x d).1 < muT x.1):=by
 refine ⟨aaa _ _ (Nat.le_refl _),fun h1 h2=>?_⟩
 unfold fdR at h2 ⊢
 rw [h1,Bool.false_or,Option.isSome_iff_exists] at h2
 obtain ⟨s,hs⟩:=h2
 show muT (jw d FU2 x.1) < _
 rw [show FU2 = 8589934591 + 1 from rfl,qw hs]
 exact Nat.lt_of_le_of_lt (aaa _ _ (Nat.le_refl _)) (adk (a2p hs))
theorem apl {x:TC} (hn:x.1.Nodup) (d:Fd):muT (mvR x d).1 ≤ muT x.1 ∧ (x.2 = false → (mvR x d).2 = true → muT (mvR x d).1 < muT x.1):=by
 have h:=amh (su d FU2 x.1 0) (congrArg BitVec.toNat an6) (nk (a6z hn))
 refine ⟨h.1,fun h1 h2=>h.2 ?_⟩
 unfold mvR at h2
 rw [h1,Bool.false_or] at h2
 exact of_decide_eq_true h2
theorem a9u:∀ (ds:List Fd) (x:TC),muT (ds.foldl fdR x).1 ≤ muT x.1 ∧ (x.2 = false → (ds.foldl fdR x).2 = true → muT (ds.foldl fdR x).1 < muT x.1)
 | [],x=>⟨Nat.le_refl _,fun h k=>by simp only [List.foldl_nil] at k;rw [h] at k;cases k⟩
 | d :: ds,x=>by
  obtain ⟨a1,a2⟩:=ap4 x d
  obtain ⟨b1,b2⟩:=a9u ds (fdR x d)
  refine ⟨Nat.le_trans b1 a1,fun h k=>?_⟩
  cases hq:(fdR x d).2 with
  | true=>exact Nat.lt_of_le_of_lt b1 (a2 h hq)
  | false=>exact Nat.lt_of_lt_of_le (b2 hq k) a1
theorem a99:∀ (ds:List Fd) (x:TC),x.1.Nodup → muT (ds.foldl mvR x).1 ≤ muT x.1 ∧ (x.2 = false → (ds.foldl mvR x).2 = true → muT (ds.foldl mvR x).1 < muT x.1)
 | [],x,_=>⟨Nat.le_refl _,fun h k=>by simp only [List.foldl_nil] at k;rw [h] at k;cases k⟩
 | d :: ds,x,hn=>by
  obtain ⟨a1,a2⟩:=apl hn d
  obtain ⟨b1,b2⟩:=a99 ds (mvR x d) (a6z hn)
  refine ⟨Nat.le_trans b1 a1,fun h k=>?_⟩
  cases hq:(mvR x d).2 with
  | true=>exact Nat.lt_of_le_of_lt b1 (a2 h hq)
  | false=>exact Nat.lt_of_lt_of_le (b2 hq k) a1
theorem aew {fs ms:List Fd} {T:List AS} (hn:T.Nodup) (h:(iw fs ms T).2 = true):muT (iw fs ms T).1 < muT T:=by
 unfold iw at h ⊢
 obtain ⟨a1,a2⟩:=a9u fs (T,false)
 have hn2:(fs.foldl fdR (T,false)).1.Nodup:=y7 a54 fs (T,false) (fun _ h=>h) hn
 obtain ⟨b1,b2⟩:=a99 ms (fs.foldl fdR (T,false)) hn2
 cases hq:(fs.foldl fdR (T,false)).2 with
 | true=>exact Nat.lt_of_le_of_lt b1 (a2 rfl hq)
 | false=>exact Nat.lt_of_lt_of_le (b2 hq h) a1
theorem amm {fs ms:List Fd} (f:Nat):∀ {T:List AS},T.Nodup → muT T < f → a52 fs ms (chF fs ms f T):=by
 induction f with
 | zero=>intro T _ h;omega
 | succ f ih =>
  intro T hn h
  unfold chF
  split
  · rename_i hc
    have h1:=aew hn hc
    exact ih (xp a54 abf hn) (by omega)
  · rename_i hc
    rw [Bool.not_eq_true] at hc
    obtain ⟨e,c⟩:=aj3 hn hc
    rw [e]
    exact c
def MU:Nat:=73786976294838206464
theorem aco (T:List AS):muT T < MU:=by
 unfold muT
 have h:=(orL T).isLt
 have h1:((orL T).toNat + 1) * FU2 ≤ 4294967296 * FU2:=Nat.mul_le_mul_right _ h
 rw [Nat.add_mul] at h1
 have e:FU2 = 8589934592:=rfl
 have e2:MU = 73786976294838206464:=rfl
 omega
def a0u (rest:AS):List AS:=db [0] rest
def chT (fs ms:List Fd) (rest:AS):List AS:=chF fs ms MU (a0u rest)
theorem al7 (rest:AS):(a0u rest).Nodup:=o7 (by simp)
theorem a78 {fs ms:List Fd} {rest:AS}:ak4 fs ms (blks (ep fs ms) rest) rest (chT fs ms rest):=by
 obtain ⟨hb,hs⟩:=xj (ep fs ms) rest
 refine ⟨afb (P:=JT fs (blks (ep fs ms) rest) rest) (fun d hd T s hT hq=>?_) (fun d hd T r k hT hr hk ha=>?_) MU (a0u rest) ?_,amm MU (al7 rest) (aco _)⟩
 · obtain ⟨r,hr,k,hk,ha,rfl,_⟩:=a65 hq
   exact hT.equ hb hs hd hr hk ha
 · exact hT.mix (hs d (vv.2 (.inl hd))) hr hk ha
 · have hm:∀ z,z ∈ a0u rest ↔ z = 0 ∨ z = rest:=fun z=>by unfold a0u;rw [jj];simp
   refine ⟨(hm 0).2 (.inl rfl),fun r hr=>?_,rest,(hm rest).2 (.inr rfl),fun r hr=>?_,fun a ha h1 h2=>by rw [h1] at h2;cases h2⟩
   · rcases (hm r).1 hr with rfl | rfl
     · exact ⟨ar.2 fun i hi h=>by simp at h,fun b hb'=>.inl (by simp)⟩
     · exact ⟨gt _,fun b hb'=>.inr (hb.sub hb')⟩
   · rcases (hm r).1 hr with rfl | rfl
     · exact ar.2 fun i hi h=>by simp at h
     · exact gt _
theorem a5f {fs ms:List Fd} {rest:AS}:orL (chT fs ms rest) ∈ chT fs ms rest ∧ ∀ r ∈ chT fs ms rest,sub r (orL (chT fs ms rest)):=by
 have h:=(a78 (fs:=fs) (ms:=ms) (rest:=rest)).j
 obtain ⟨L,h1,h2,h3⟩:=h.top
 have e:orL (chT fs ms rest) = L:=dw (ao2 h2) (am9 h1)
 rw [e]
 exact ⟨h1,h2⟩
end Go.Hx
end
section
namespace Go.Hx
open Go.Proofs
set_option maxRecDepth 100000
def sT:List Rw:=[[0,1,5],[0,7,2]]
def fdX:List Fd:=[⟨1,2⟩]
theorem a18 {x:Fd} {cl:Bool} {f:Nat → Nat → PV} (h0:CoP (f 0 0) (x.c 0)) (h1:CoP (f 0 1) (x.c 1)):CoP (.sl 1 2 cl f) (fdl [x]) :=
 CoP.sl rfl (.inl rfl) (fun h=>by cases h) fun i j hi hj=>by
  obtain rfl:i = 0:=by omega
  rcases (by omega:j = 0 ∨ j = 1) with rfl | rfl
  · exact h0
  · exact h1
theorem a2a {s:Nat} {f:Nat → Nat → PV}:CoP (.sl 0 s true f) (fdl []):=CoP.sl rfl (.inr rfl) (fun h=>by cases h) fun i j hi _=>absurd hi (Nat.not_lt_zero i)
end Go.Hx
end
section
namespace Go.Hx
open Go.Proofs
set_option maxRecDepth 100000
set_option maxHeartbeats 1000000
theorem a5d:al Tryd.prog 11:=⟨Tryd.f11,Tryd.func11,by kernel_rfl,by kernel_rfl⟩
theorem agi (a b:List AS):ao Tryd.prog 11 [pP (asl a),pP (asl b)] (ay [pB (decide (a = b))]):=by
 refine am (nt:=26) ai Tryd.func11 rfl rfl l9 ?_;refine sx7 ?_;refine qy ?_;refine a6 ?_;(iterate 2 refine a7 ?_)
 refine kr 0 rfl fun hn0=>?_
 refine kr 1 rfl fun hn1=>?_
 refine gy ?_;(iterate 5 refine qy ?_);refine a6 ?_;refine a8 _ rfl (fun r0=>?_) (fun r0=>?_)
 ·
  have h0:=r0
  have h0:=of_decide_eq_false (cb h0)
  try simp only [ty] at h0
  refine sx7 ?_;refine qy ?_;refine a6 ?_
  exact hx8 rfl rfl rfl (⟨ccb (decide_eq_false fun e=>by subst e;omega).symm,trivial⟩)
 ·
  have h0:=r0
  have h0:=of_decide_eq_true (ce h0)
  try simp only [ty] at h0
  refine aa ?_;refine a7 ?_;refine sx7 ?_;(iterate 3 refine qy ?_);refine a6 ?_;refine af ?_
  refine av (ι:=Nat) ⟨[(0,some _),(1,some _),(12,some _)],[]⟩ ⟨⟨c9,c9,c9,trivial⟩,trivial⟩ (fun i=>⟨[(13,some (vI i))],[]⟩) (fun i=>i ≤ a.length ∧ ∀ j,j < i → a.getD j default = b.getD j default) (fun i=>a.length - i) (0) (⟨Nat.zero_le _,fun j hj=>absurd hj (Nat.not_lt_zero j)⟩) ⟨⟨⟨_,rfl,(CoR.refl _)⟩,trivial⟩,trivial⟩ ?_
  rintro i ⟨hi,hI⟩
  refine sx7 ?_;refine qy ?_;refine a6 ?_;refine a7 ?_;refine a8 _ rfl (fun r1=>?_) (fun r1=>?_)
  ·
   have h1:=of_decide_eq_true r1
   try simp only [ty] at h1
   refine aa ?_;refine a7 ?_;refine af ?_;refine sx7 ?_;(iterate 2 refine qy ?_);refine a6 ?_;refine a7 ?_;refine d8 (E:=dg) ai c7 [0,1,2,3,4,5,6,7,8] ?_
   (iterate 9 refine qy ?_);refine a6 ?_;refine ⟨by kernel_rfl, ?_⟩;refine a8 _ rfl (fun r2=>?_) (fun r2=>?_)
   ·
    have h2:=r2
    have h2:=of_decide_eq_false (cb h2)
    try simp only [ty] at h2
    refine sx7 ?_;refine qy ?_;refine a6 ?_
    exact hx8 rfl rfl rfl (⟨ccb (decide_eq_false fun e=>by subst e;exact absurd rfl (by assumption:¬ asI _ = asI _)).symm,trivial⟩)
   ·
    have h2:=r2
    have h2:=of_decide_eq_true (ce h2)
    try simp only [ty] at h2
    refine aa ?_;refine gy ?_;(iterate 2 refine qy ?_);refine a6 ?_;refine ⟨i + 1, ?_, ?_, ?_⟩
    · refine ⟨by omega,fun j hj=>?_⟩
      by_cases e:j = i
      · subst e;exact dt.1 (by assumption)
      · exact hI j (by omega)
    · first | omega | (dsimp only;omega)
    · exact ⟨⟨⟨_,rfl,(CoR.refl _)⟩,c9,c9,c9,trivial⟩,trivial⟩
  ·
   have h1:=of_decide_eq_false r1
   try simp only [ty] at h1
   obtain rfl:i = a.length:=by omega
   refine au ?_;refine sx7 ?_;refine qy ?_;refine a6 ?_
   exact hx8 rfl rfl rfl (⟨ccb (decide_eq_true (anu (by omega) hI)).symm,trivial⟩)
theorem ap0:al Tryd.prog 18:=⟨Tryd.f18,Tryd.func18,by kernel_rfl,by kernel_rfl⟩
theorem aly (n:Int) (l:List Dp) (hl:l.length ≤ 16777216):ao Tryd.prog 18 [pI n,pP (dpl l)] (ay [pP (fdl (l.map (Dp.fd n)))]):=by
 refine am (nt:=32) ai Tryd.func18 rfl rfl l9 ?_;refine sx7 ?_;refine qy ?_;refine a6 ?_;refine sx7 ?_;refine qy ?_;refine a6 ?_;refine sx7 ?_;(iterate 2 refine qy ?_)
 refine rc rfl rfl rfl rfl rfl rfl acf (al5 n l hl) (CoL.refl _) rfl rfl ?_;refine qy ?_;refine a6 ?_;refine a7 ?_;refine sx7 ?_;refine qy ?_;refine a6 ?_;refine af ?_
 refine dm 5 900 true 2 44 (lf Fd.c []) (by decide) rfl (CoP.sl rfl (.inr rfl) (fun h=>h) (fun i j hi _=>absurd hi (Nat.not_lt_zero i))) (.inr rfl) rfl ?_
 have hll:(l.map (Dp.fd n)).length ≤ 16777216:=by rw [List.length_map];exact hl
 refine av (ι:=Nat) ⟨[(6,some _)],[]⟩ ⟨⟨c9,trivial⟩,trivial⟩ (fun i=>⟨[(5,some (.v (.one (.ref 900 ((l.map (Dp.fd n)).take i).length)))),(7,some (vI i))],[(900,some (.arr true 2 44 ((l.map (Dp.fd n)).take i).length (lf Fd.c ((l.map (Dp.fd n)).take i))))]⟩) (fun i=>i ≤ (l.map (Dp.fd n)).length) (fun i=>(l.map (Dp.fd n)).length - i) (0) (Nat.zero_le _) ⟨⟨⟨_,rfl,(CoR.refl _)⟩,⟨_,rfl,(CoR.refl _)⟩,trivial⟩,⟨u9,trivial⟩⟩ ?_
 rintro i hi
 have hlen:((l.map (Dp.fd n)).take i).length ≤ i:=by rw [List.length_take];omega
 refine a7 ?_;refine sx7 ?_;(iterate 4 refine qy ?_);refine a6 ?_;refine a8 _ rfl (fun r0=>?_) (fun r0=>?_)
 ·
  have h0:=of_decide_eq_true r0
  try simp only [ty] at h0
  refine aa ?_;refine a7 ?_;refine af ?_;refine d8 (E:=dg) ai c7 [0,1,2,3,4,5,6,7,8,9,10,11,12,13,14] ?_;(iterate 12 refine qy ?_);refine m9 0 ?_
  refine ra 1 true rfl rfl rfl rfl rfl rfl ?_;refine qy ?_;refine a6 ?_;refine ⟨by kernel_rfl, ?_⟩;refine gy ?_;(iterate 3 refine qy ?_);refine a6 ?_;refine ⟨i + 1, ?_, ?_, ?_⟩
  · show i + 1 ≤ _;omega
  · first | omega | (dsimp only;omega)
  · exact ⟨⟨⟨_,rfl,(ck (b8 (by omega)))⟩,⟨_,rfl,(CoR.refl _)⟩,c9,trivial⟩,⟨⟨_,rfl,(a00 (b8 (by omega)) (CoP.refl _) (CoP.refl _))⟩,trivial⟩⟩
 ·
  have h0:=of_decide_eq_false r0
  try simp only [ty] at h0
  obtain rfl:i = (l.map (Dp.fd n)).length:=by omega
  refine au ?_;refine sx7 ?_;(iterate 2 refine qy ?_);refine a6 ?_;refine c8 4 rfl rfl rfl ?_
  exact hx8 rfl rfl rfl (⟨CoC.one (CoP.of_eq (by rw [List.take_length];rfl)),trivial⟩)
theorem aky:al Tryd.prog 5:=⟨Tryd.f5,Tryd.func5,by kernel_rfl,by kernel_rfl⟩
theorem ali (x:Mx) (hl:x.d.l.length ≤ 16777216) (hm:x.m.length ≤ 16777216):ao Tryd.prog 5 [x.pc] (ay [pI x.d.num,pP (fdl x.d.fds),pP (fdl x.mv),pB x.ok]):=by
 refine am (nt:=29) ai Tryd.func5 rfl rfl l9 ?_;refine sx7 ?_;refine m9 0 ?_;(iterate 4 refine qy ?_);refine a6 ?_;refine sx7 ?_;(iterate 2 refine qy ?_)
 refine rc rfl rfl rfl rfl rfl rfl anw (cOf x.d hl) (CoL.refl _) rfl rfl ?_;(iterate 7 refine qy ?_);refine a6 ?_;refine a7 ?_
 refine d8 (E:=dg) ai c7 [0,1,2,3,4,5,6,7,8,9,10,11,12,13,14,15,16] ?_;(iterate 5 refine qy ?_);refine rc rfl rfl rfl rfl rfl rfl ap0 (aly x.d.num x.m hm) (CoL.refl _) rfl rfl ?_
 (iterate 2 refine qy ?_);refine ct rfl rfl (fun r0=>?_) (fun r0=>?_)
 ·
  have h0:=r0
  (iterate 4 refine qy ?_ (hg:=(gtt r0)));(iterate 5 refine qy ?_);refine a6 ?_;refine ⟨by kernel_rfl, ?_⟩
  exact hx8 rfl rfl rfl (⟨CoC.refl _,CoC.refl _,CoC.refl _,ccb (by unfold Mx.ok;try first | rfl | (rw [(by assumption:decide (x.d.l.length ≤ 6) = false),Bool.false_and]) | (rw [(by assumption:decide (x.d.l.length ≤ 6) = true),Bool.true_and];exact decide_eq_decide.2 (by omega))),trivial⟩)
 ·
  have h0:=r0
  (iterate 4 refine k9 (gft r0) ?_);refine rq rfl rfl rfl rfl rfl ?_ (hp:=r0);(iterate 4 refine qy ?_);refine a6 ?_;refine ⟨by kernel_rfl, ?_⟩
  exact hx8 rfl rfl rfl (⟨CoC.refl _,CoC.refl _,CoC.refl _,ccb (by unfold Mx.ok;try first | rfl | (rw [(by assumption:decide (x.d.l.length ≤ 6) = false),Bool.false_and]) | (rw [(by assumption:decide (x.d.l.length ≤ 6) = true),Bool.true_and];exact decide_eq_decide.2 (by omega))),trivial⟩)
theorem aqu:ao Tryd.prog 13 [pI 3,pP (fdl []),pP (fdl [⟨1,2⟩]),pA 7] (ay [Fd.pc ⟨1,2⟩,pB true,pI 0]):=by
 have h:=abk 3 [] [⟨1,2⟩] 7
 rw [ann.1,ann.2] at h
 exact h
theorem arm:ao Tryd.prog 19 [pI 3,pP (fdl []),pP (fdl [⟨1,2⟩])] (ay [pP (asl [3,5]),pI 0]):=by
 have h:=aku 3 [] [⟨1,2⟩]
 rw [ao1.1,ao1.2] at h
 exact h
theorem aos:ao Tryd.prog 13 [pI 3,pP (fdl [⟨2,4⟩]),pP (fdl []),pA 7] (ay [Fd.pc ⟨2,1⟩,pB true,pI 0]):=by
 have h:=abk 3 [⟨2,4⟩] [] 7
 rw [ape.1,ape.2] at h
 exact h
theorem ao5:ao Tryd.prog 19 [pI 3,pP (fdl [⟨2,4⟩]),pP (fdl [])] (ay [pP (asl [3,6]),pI 0]):=by
 have h:=aku 3 [⟨2,4⟩] []
 rw [aq4.1,aq4.2] at h
 exact h
theorem asi:ao Tryd.prog 11 [pP (asl [3,5]),pP (asl [3,5])] (ay [pB true]):=by
 have h:=agi [3,5] [3,5]
 rw [decide_eq_true rfl] at h
 exact h
theorem as7:ao Tryd.prog 11 [pP (asl [3,6]),pP (asl [3,6])] (ay [pB true]):=by
 have h:=agi [3,6] [3,6]
 rw [decide_eq_true rfl] at h
 exact h
theorem xf:al Tryd.prog 6:=⟨Tryd.f6,Tryd.func6,by kernel_rfl,by kernel_rfl⟩
theorem mz  : ao Tryd.prog 6 [] (ay [pB true]):=by
 refine am (nt:=80) ai Tryd.func6 rfl rfl l9 ?_;refine sx7 ?_;refine qy ?_;refine a6 ?_;refine sx7 ?_;refine qy ?_;refine m9 0 ?_;refine qy ?_;refine a6 ?_;refine c8 1 rfl rfl rfl ?_
 refine sx7 ?_;refine qy ?_;refine rc rfl rfl rfl rfl rfl rfl x3 (aqu) (⟨CoC.refl _,CoC.one a2a,CoC.one (a18 (CoP.refl _) (CoP.refl _)),CoC.refl _,trivial⟩) rfl rfl ?_;(iterate 4 refine qy ?_);refine m9 1 ?_
 refine s9 ?_;(iterate 2 refine qy ?_);refine a6 ?_;refine sx7 ?_;refine qy ?_;refine rc rfl rfl rfl rfl rfl rfl afs (arm) (⟨CoC.refl _,CoC.one a2a,CoC.one (a18 (CoP.refl _) (CoP.refl _)),trivial⟩) rfl rfl ?_
 (iterate 5 refine qy ?_);refine a6 ?_;refine a7 ?_;refine a1n [0,1] [2,3,4,5,6,7,8,9,10] rfl ?_;refine a2f (E:=dg) ai ?_;refine qy ?_;refine m9 2 ?_;refine a6 ?_;refine al2 ?_
 refine a42 27 rfl rfl rfl ?_;refine a9e ?_;refine a2f (E:=dg) (L1:=[2,3,4,5,6,7,8,9,10]) (L2:=[]) ai ?_
 refine rc rfl rfl rfl rfl rfl rfl x3 (aos) (⟨CoC.refl _,CoC.one (a18 (CoP.refl _) (CoP.refl _)),CoC.one a2a,CoC.refl _,trivial⟩) rfl rfl ?_;(iterate 4 refine qy ?_);refine m9 3 ?_;refine s9 ?_
 (iterate 2 refine qy ?_);refine a6 ?_;refine afv ?_;refine a7 ?_;refine a1n [0,1] [2,3,4,5,6,7] rfl ?_;refine a2f (E:=dg) ai ?_;refine qy ?_;refine m9 4 ?_;refine a6 ?_
 refine al2 ?_;refine a42 34 rfl rfl rfl ?_;refine a9e ?_;refine a2f (E:=dg) (L1:=[2,3,4,5,6,7]) (L2:=[]) ai ?_
 refine rc rfl rfl rfl rfl rfl rfl afs (ao5) (⟨CoC.refl _,CoC.one (a18 (CoP.refl _) (CoP.refl _)),CoC.one a2a,trivial⟩) rfl rfl ?_;(iterate 5 refine qy ?_);refine a6 ?_;refine afv ?_;refine a7 ?_
 refine d8 (E:=dg) ai c7 [0,1,2,3,4,5,6,7,8,9,10,11,12,13,14,15,16,17,18,19,20,21,22,23,24,25,26,27,28,29,30,31,32,33,34,35,36,37,38,39,40,41,42] ?_
 (iterate 18 refine qy ?_);refine m9 5 ?_
 refine dn rfl rfl rfl rfl rfl rfl a5d (ao.eat (hcs:=[.one (.p (asl [3,5])), .one (.ref 5 2)]) (o1:=[(5, .arr true 1 34 2 (lf sC [3,5]))]) (asi) rfl (by (repeat' apply And.intro) <;> first | trivial | rfl) (CoL.refl _)) (fh.refl _) ⟨⟨_,rfl,(a6u (CoP.refl _) (CoP.refl _))⟩,trivial⟩ rfl rfl ?_
 (iterate 19 refine qy ?_);refine m9 6 ?_
 refine dn rfl rfl rfl rfl rfl rfl a5d (ao.eat (hcs:=[.one (.p (asl [3,6])), .one (.ref 6 2)]) (o1:=[(6, .arr true 1 34 2 (lf sC [3,6]))]) (as7) rfl (by (repeat' apply And.intro) <;> first | trivial | rfl) (CoL.refl _)) (fh.refl _) ⟨⟨_,rfl,(a6u (CoP.refl _) (CoP.refl _))⟩,trivial⟩ rfl rfl ?_
 (iterate 2 refine qy ?_);refine a6 ?_;refine ⟨by kernel_rfl, ?_⟩
 exact hx8 rfl rfl rfl (CoL.refl _)
end Go.Hx
end
section
namespace Go.Hx
open Go.Proofs
set_option maxRecDepth 100000
theorem a5y {T:List AS} {r:AS} (h:¬ r ∈ T):(db T r).length = T.length + 1:=by unfold db;rw [if_neg h,List.length_append];rfl
theorem alq {T:List AS} {r:AS}:(db T r).length ≤ T.length + 1:=by
 unfold db
 split
 · omega
 · rw [List.length_append];exact Nat.le_refl _
theorem a5v {s:AS}:∀ {T o:List AS},(gw s o T).length ≤ o.length + T.length
 | [],o=>by simp [gw]
 | r :: T,o=>by
  have h1:=a5v (s:=s) (T:=T) (o:=db o (r &&& ~~~s))
  have h2:=alq (T:=o) (r:=r &&& ~~~s)
  show (gw s (db o (r &&& ~~~s)) T).length ≤ _
  simp only [List.length_cons]
  omega
theorem a1e {s:AS} {T:List AS} {i:Nat} (h:i < T.length):gw s [] (T.take (i + 1)) = db (gw s [] (T.take i)) (T.getD i default &&& ~~~s):=by
 unfold gw
 rw [b8 h,List.foldl_append]
 rfl
theorem a88:al Tryd.prog 60:=⟨Tryd.f60,Tryd.func60,by kernel_rfl,by kernel_rfl⟩
theorem aij (T:List AS) (r:AS) (hT:T.length ≤ 8589934592):eq Tryd.prog 60 [.one (.ptr 1000 0), .one (.p (asC r))] [(1000, .box [.ref 1001 T.length]),(1001, .arr true 1 34 T.length (lf sC T))] (.v (.one (.p (.raw (.bool (!decide (r ∈ T))))))) [(1000, .box [.ref 1001 (db T r).length]),(1001, .arr true 1 34 (db T r).length (lf sC (db T r)))] [1000,1001]:=by
 refine j2 (nt:=21) ai Tryd.func60 rfl rfl l9 rfl ?_;refine sx7 ?_;refine qy ?_;refine a6 ?_;refine a7 ?_;refine sx7 ?_;(iterate 5 refine qy ?_)
 refine rc rfl rfl rfl rfl rfl rfl a5p (cIn T r) (CoL.refl _) rfl rfl ?_;refine a6 ?_;refine a8 _ rfl (fun r0=>?_) (fun r0=>?_)
 ·
  have h0:=r0
  have hin:r ∈ T:=of_decide_eq_true r0
  refine sx7 ?_;refine qy ?_;refine a6 ?_;refine dc ?_;refine ⟨.inr rfl, ?_⟩
  rw [show db T r = T from if_pos hin,decide_eq_true hin]
  exact ⟨_,_,rfl,(by (repeat' apply And.intro) <;> first | trivial | exact Nat.le_of_ble_eq_true rfl),CoR.refl _,⟨u9,u9,trivial⟩⟩
 ·
  have h0:=r0
  have hin:¬ r ∈ T:=of_decide_eq_false r0
  refine aa ?_;refine sx7 ?_;(iterate 6 refine qy ?_);refine m9 0 ?_;refine ra 1 true rfl rfl rfl rfl rfl rfl ?_;(iterate 2 refine qy ?_);refine s9 ?_;refine a6 ?_;refine sx7 ?_;refine qy ?_;refine a6 ?_
  refine dc ?_;refine ⟨.inr rfl, ?_⟩
  exact ⟨_,_,rfl,(by (repeat' apply And.intro) <;> first | trivial | exact Nat.le_of_ble_eq_true rfl),CoR.of_eq (congrArg (fun z=>HR.v (.one (.p (.raw (.bool (!z)))))) (decide_eq_false hin).symm),⟨⟨_,rfl,⟨congrArg (HV.ref 1001) (a5y hin).symm,trivial⟩⟩,⟨_,rfl,ca (if_neg hin) (CoP.refl _)⟩,trivial⟩⟩
theorem apx:al Tryd.prog 82:=⟨Tryd.f82,Tryd.func82,by kernel_rfl,by kernel_rfl⟩
theorem as9 (T:List AS) (s:AS) (hT:T.length ≤ 8589934592):eq Tryd.prog 82 [.one (.ptr 1000 0), .one (.p (asC s))] [(1000, .box [.ref 901 T.length]),(901, .arr true 1 34 T.length (lf sC T))] (.tup []) [(1000, .box [.ref 901 (fk T s).length]),(901, .arr true 1 34 (fk T s).length (lf sC (fk T s)))] [1000]:=by
 refine j2 (nt:=27) ai Tryd.func82 rfl rfl l9 rfl ?_;refine sx7 ?_;(iterate 5 refine qy ?_);refine a6 ?_;refine sx7 ?_;(iterate 3 refine qy ?_);refine s9 ?_;refine a6 ?_;refine c8 4 rfl rfl rfl ?_
 refine a0p ⟨[(0,some _),(1,some _),(4,some _)],[(1000,some _)]⟩ (by exact ⟨⟨c9,c9,c9,trivial⟩,⟨u9,trivial⟩⟩) ?_
 refine a4u 1000 0 901 true 1 34 (lf sC []) (by decide) rfl rfl (CoP.sl rfl (.inr rfl) (fun h=>h) (fun i j hi _=>absurd hi (Nat.not_lt_zero i))) (.inr rfl) rfl rfl ?_;refine sx7 ?_;refine qy ?_;refine a6 ?_
 refine af ?_
 refine av (ι:=Nat) ⟨[(0,some _),(1,some _),(4,some _)],[]⟩ ⟨⟨c9,c9,c9,trivial⟩,trivial⟩ (fun i=>⟨[(5,some (vI i))],[(1000,some (.box [.ref 901 (gw s [] (T.take i)).length])),(901,some (.arr true 1 34 (gw s [] (T.take i)).length (lf sC (gw s [] (T.take i)))))]⟩) (fun i=>i ≤ T.length) (fun i=>T.length - i) (0) (Nat.zero_le _) ⟨⟨⟨_,rfl,(CoR.refl _)⟩,trivial⟩,⟨u9,u9,trivial⟩⟩ ?_
 rintro i hi
 have hel:(gw s [] (T.take i)).length ≤ i:=Nat.le_trans a5v (by rw [List.length_take,List.length_nil];omega)
 refine a7 ?_;refine sx7 ?_;(iterate 4 refine qy ?_);refine a6 ?_;refine a8 _ rfl (fun r0=>?_) (fun r0=>?_)
 ·
  have h0:=of_decide_eq_true r0
  try simp only [ty] at h0
  refine aa ?_;refine a7 ?_;refine af ?_;refine gy ?_;(iterate 7 refine qy ?_)
  refine dn rfl rfl rfl rfl rfl rfl a88 ((aij (gw s [] (T.take i)) (T.getD i default &&& ~~~s) (by omega)).swap 1001 901) (⟨nx.refl _,(CoP.of_eq (congrArg (fun z=>PV.raw (.int .u32 z)) (fw _ _))),trivial⟩) ⟨u9,u9,trivial⟩ rfl rfl ?_
  refine a6 ?_;refine gy ?_;(iterate 3 refine qy ?_);refine a6 ?_;refine ⟨i + 1, ?_, ?_, ?_⟩
  · show i + 1 ≤ _;omega
  · first | omega | (dsimp only;omega)
  · exact ⟨⟨⟨_,rfl,(CoR.refl _)⟩,c9,c9,c9,trivial⟩,⟨⟨_,rfl,(by rw [a1e (by omega)];exact CoO.refl _)⟩,⟨_,rfl,(by rw [a1e (by omega)];exact CoO.refl _)⟩,trivial⟩⟩
 ·
  have h0:=of_decide_eq_false r0
  try simp only [ty] at h0
  obtain rfl:i = T.length:=by omega
  rw [show T.take T.length = T from List.take_length]
  refine au ?_;refine ⟨.inl rfl, ?_⟩
  exact ⟨_,_,rfl,(by (repeat' apply And.intro) <;> first | trivial | exact Nat.le_of_ble_eq_true rfl),CoR.refl _,⟨u9,u9,trivial⟩⟩
end Go.Hx
end
section
namespace Go.Hx
open Go.Proofs
set_option maxRecDepth 100000
set_option maxHeartbeats 1000000
theorem aeq:al Tryd.prog 61:=⟨Tryd.f61,Tryd.func61,by kernel_rfl,by kernel_rfl⟩
theorem as3 (T:List AS) (d:Fd) (s:AS) (hq:fdT d T = some s) (hT:T.length ≤ 8589934592):eq Tryd.prog 61 [.one (.ptr 1000 0),d.pc.toH] [(1000, .box [.ref 901 T.length]),(901, .arr true 1 34 T.length (lf sC T))] (.v (.one (.p (.raw (.bool true))))) [(1000, .box [.ref 901 (fk T s).length]),(901, .arr true 1 34 (fk T s).length (lf sC (fk T s)))] [1000]:=by
 refine j2 (nt:=59) ai Tryd.func61 rfl rfl l9 rfl ?_;refine sx7 ?_;refine m9 0 ?_;refine qy ?_;refine a6 ?_;refine a7 ?_;refine sx7 ?_;refine qy ?_;refine a6 ?_;refine af ?_
 refine av (ι:=Nat) ⟨[(0,some _),(3,some _)],[(1000,some _),(901,some _),(0,some _)]⟩ ⟨⟨c9,c9,trivial⟩,⟨u9,u9,u9,trivial⟩⟩ (fun i=>⟨[(5,some (vI i))],[]⟩) (fun i=>i ≤ T.length ∧ (T.take i).findSome? (fdQ d T) = none) (fun i=>T.length - i) (0) (⟨Nat.zero_le _,rfl⟩) ⟨⟨⟨_,rfl,(CoR.refl _)⟩,trivial⟩,trivial⟩ ?_
 rintro i ⟨hi,hI⟩
 refine a7 ?_;refine sx7 ?_;(iterate 7 refine qy ?_);refine a6 ?_;refine a8 _ rfl (fun r0=>?_) (fun r0=>?_)
 ·
  have h0:=of_decide_eq_true r0
  try simp only [ty] at h0
  have hil:i < T.length:=by omega
  refine aa ?_;refine a7 ?_;refine af ?_;refine sx7 ?_;refine qy ?_;refine a6 ?_;refine af ?_
  refine av (ι:=Nat) ⟨[(0,some _),(3,some _),(5,some _)],[(1000,some _),(901,some _),(0,some _)]⟩ ⟨⟨c9,c9,c9,trivial⟩,⟨u9,u9,u9,trivial⟩⟩ (fun k=>⟨[(6,some (vI k))],[]⟩) (fun k=>k ≤ T.length ∧ (T.take k).findSome? (fdP d (T.getD i default)) = none) (fun k=>T.length - k) (0) (⟨Nat.zero_le _,rfl⟩) ⟨⟨⟨_,rfl,(CoR.refl _)⟩,trivial⟩,trivial⟩ ?_
  rintro k ⟨hk,hK⟩
  refine a7 ?_;refine sx7 ?_;(iterate 7 refine qy ?_);refine a6 ?_;refine a8 _ rfl (fun r1=>?_) (fun r1=>?_)
  ·
   have h1:=of_decide_eq_true r1
   try simp only [ty] at h1
   have hkl:k < T.length:=by omega
   refine aa ?_;refine a7 ?_;refine af ?_;refine a7 ?_;refine d8 (E:=dg) ai c7 [0,1,2,3,4,5,6,7,8,9,10,11,12,13,14,15] ?_;(iterate 14 refine qy ?_)
   refine rq (out:=⟨_, .v (.one (.p (asC ((T.getD i default) ^^^ (T.getD k default)))))⟩) rfl rfl rfl (congrArg (fun z=>some (Out.mk _ (HR.v (HC.one (HV.p (.raw (.int .u32 z))))))) (ab5 _ _)) rfl ?_;refine qy ?_
   refine a6 ?_;refine ⟨by kernel_rfl, ?_⟩;refine sx7 ?_;(iterate 6 refine qy ?_);refine ct rfl rfl (fun r2=>?_) (fun r2=>?_)
   ·
    have h2:=of_decide_eq_true r2
    try simp only [ty] at h2
    have g1:((T.getD i default) ^^^ (T.getD k default)) &&& d.lhs = 0:=lr h2
    (iterate 5 refine qy ?_ (hg:=(gtt r2)));refine qy ?_;refine a6 ?_;refine a8 _ rfl (fun r3=>?_) (fun r3=>?_)
    ·
     have h3:=r3
     have h3:=ef r2 h3
     have h3:=of_decide_eq_false (cb h3)
     try simp only [ty] at h3
     have g2:¬ ((T.getD i default) ^^^ (T.getD k default)) &&& d.rhs = 0:=jd h3
     have hq2:fdT d T = some (((T.getD i default) ^^^ (T.getD k default)) &&& d.rhs):=ld hil hI (show fdQ d T (T.getD i default) = _ from ld hkl hK (al0 g1 g2))
     rw [hq] at hq2
     obtain rfl:=Option.some.inj hq2
     refine a7 ?_;refine a0p ⟨[(0,some _),(3,some _),(7,some _)],[(1000,some _),(901,some _),(0,some _)]⟩ (by exact ⟨⟨c9,c9,c9,trivial⟩,⟨u9,u9,u9,trivial⟩⟩) ?_;refine gy ?_;(iterate 5 refine qy ?_)
     refine dn rfl rfl rfl rfl rfl rfl apx (as9 T (((T.getD i default) ^^^ (T.getD k default)) &&& d.rhs) hT) (⟨nx.refl _,(CoP.of_eq (congrArg (fun z=>PV.raw (.int .u32 z)) (fc _ _))),trivial⟩) ⟨u9,u9,trivial⟩ rfl rfl ?_
     refine a6 ?_;refine sx7 ?_;refine qy ?_;refine a6 ?_;refine dc ?_;refine ⟨.inr rfl, ?_⟩
     exact ⟨_,_,rfl,(by (repeat' apply And.intro) <;> first | trivial | exact Nat.le_of_ble_eq_true rfl),CoR.refl _,⟨u9,u9,trivial⟩⟩
    ·
     have h3:=r3
     have h3:=ef r2 h3
     have h3:=of_decide_eq_true (ce h3)
     try simp only [ty] at h3
     have g2:((T.getD i default) ^^^ (T.getD k default)) &&& d.rhs = 0:=lr h3
     refine aa ?_;refine gy ?_;(iterate 3 refine qy ?_);refine a6 ?_;refine ⟨k + 1, ?_, ?_, ?_⟩
     · exact ⟨by omega,(ey hkl hK).trans (by first | exact a56 g1 | exact a4w g1 g2)⟩
     · first | omega | (dsimp only;omega)
     · exact ⟨⟨⟨_,rfl,(CoR.refl _)⟩,c9,c9,c9,trivial⟩,⟨u9,u9,u9,trivial⟩⟩
   ·
    have h2:=of_decide_eq_false r2
    try simp only [ty] at h2
    have g1:¬ ((T.getD i default) ^^^ (T.getD k default)) &&& d.lhs = 0:=jd h2
    (iterate 5 refine k9 (gft r2) ?_);refine rq rfl rfl rfl rfl rfl ?_ (hp:=r2);refine a6 ?_;refine a8 _ rfl (fun e=>by cases e) (fun _=>?_);refine aa ?_;refine gy ?_;(iterate 3 refine qy ?_)
    refine a6 ?_;refine ⟨k + 1, ?_, ?_, ?_⟩
    · exact ⟨by omega,(ey hkl hK).trans (by first | exact a56 g1 | exact a4w g1 g2)⟩
    · first | omega | (dsimp only;omega)
    · exact ⟨⟨⟨_,rfl,(CoR.refl _)⟩,c9,c9,c9,trivial⟩,⟨u9,u9,u9,trivial⟩⟩
  ·
   have h1:=of_decide_eq_false r1
   try simp only [ty] at h1
   obtain rfl:k = T.length:=by omega
   rw [show T.take T.length = T from List.take_length] at hK
   refine au ?_;refine gy ?_;(iterate 3 refine qy ?_);refine a6 ?_;refine ⟨i + 1, ?_, ?_, ?_⟩
   · exact ⟨by omega,(ey hil hI).trans hK⟩
   · first | omega | (dsimp only;omega)
   · exact ⟨⟨⟨_,rfl,(CoR.refl _)⟩,c9,c9,trivial⟩,⟨u9,u9,u9,trivial⟩⟩
 ·
  have h0:=of_decide_eq_false r0
  try simp only [ty] at h0
  obtain rfl:i = T.length:=by omega
  rw [show T.take T.length = T from List.take_length] at hI
  refine au ?_;refine sx7 ?_;refine qy ?_;refine a6 ?_;refine dc ?_;refine ⟨.inr rfl, ?_⟩
  exact absurd (hq.symm.trans (show fdT d T = none from hI)) (fun e=>by cases e)
theorem asa (T:List AS) (d:Fd) (hq:fdT d T = none) (hT:T.length ≤ 8589934592):eq Tryd.prog 61 [.one (.ptr 1000 0),d.pc.toH] [(1000, .box [.ref 901 T.length]),(901, .arr true 1 34 T.length (lf sC T))] (.v (.one (.p (.raw (.bool false))))) [(1000, .box [.ref 901 T.length]),(901, .arr true 1 34 T.length (lf sC T))] [1000]:=by
 refine j2 (nt:=59) ai Tryd.func61 rfl rfl l9 rfl ?_;refine sx7 ?_;refine m9 0 ?_;refine qy ?_;refine a6 ?_;refine a7 ?_;refine sx7 ?_;refine qy ?_;refine a6 ?_;refine af ?_
 refine av (ι:=Nat) ⟨[(0,some _),(3,some _)],[(1000,some _),(901,some _),(0,some _)]⟩ ⟨⟨c9,c9,trivial⟩,⟨u9,u9,u9,trivial⟩⟩ (fun i=>⟨[(5,some (vI i))],[]⟩) (fun i=>i ≤ T.length ∧ (T.take i).findSome? (fdQ d T) = none) (fun i=>T.length - i) (0) (⟨Nat.zero_le _,rfl⟩) ⟨⟨⟨_,rfl,(CoR.refl _)⟩,trivial⟩,trivial⟩ ?_
 rintro i ⟨hi,hI⟩
 refine a7 ?_;refine sx7 ?_;(iterate 7 refine qy ?_);refine a6 ?_;refine a8 _ rfl (fun r0=>?_) (fun r0=>?_)
 ·
  have h0:=of_decide_eq_true r0
  try simp only [ty] at h0
  have hil:i < T.length:=by omega
  refine aa ?_;refine a7 ?_;refine af ?_;refine sx7 ?_;refine qy ?_;refine a6 ?_;refine af ?_
  refine av (ι:=Nat) ⟨[(0,some _),(3,some _),(5,some _)],[(1000,some _),(901,some _),(0,some _)]⟩ ⟨⟨c9,c9,c9,trivial⟩,⟨u9,u9,u9,trivial⟩⟩ (fun k=>⟨[(6,some (vI k))],[]⟩) (fun k=>k ≤ T.length ∧ (T.take k).findSome? (fdP d (T.getD i default)) = none) (fun k=>T.length - k) (0) (⟨Nat.zero_le _,rfl⟩) ⟨⟨⟨_,rfl,(CoR.refl _)⟩,trivial⟩,trivial⟩ ?_
  rintro k ⟨hk,hK⟩
  refine a7 ?_;refine sx7 ?_;(iterate 7 refine qy ?_);refine a6 ?_;refine a8 _ rfl (fun r1=>?_) (fun r1=>?_)
  ·
   have h1:=of_decide_eq_true r1
   try simp only [ty] at h1
   have hkl:k < T.length:=by omega
   refine aa ?_;refine a7 ?_;refine af ?_;refine a7 ?_;refine d8 (E:=dg) ai c7 [0,1,2,3,4,5,6,7,8,9,10,11,12,13,14,15] ?_;(iterate 14 refine qy ?_)
   refine rq (out:=⟨_, .v (.one (.p (asC ((T.getD i default) ^^^ (T.getD k default)))))⟩) rfl rfl rfl (congrArg (fun z=>some (Out.mk _ (HR.v (HC.one (HV.p (.raw (.int .u32 z))))))) (ab5 _ _)) rfl ?_;refine qy ?_
   refine a6 ?_;refine ⟨by kernel_rfl, ?_⟩;refine sx7 ?_;(iterate 6 refine qy ?_);refine ct rfl rfl (fun r2=>?_) (fun r2=>?_)
   ·
    have h2:=of_decide_eq_true r2
    try simp only [ty] at h2
    have g1:((T.getD i default) ^^^ (T.getD k default)) &&& d.lhs = 0:=lr h2
    (iterate 5 refine qy ?_ (hg:=(gtt r2)));refine qy ?_;refine a6 ?_;refine a8 _ rfl (fun r3=>?_) (fun r3=>?_)
    ·
     have h3:=r3
     have h3:=ef r2 h3
     have h3:=of_decide_eq_false (cb h3)
     try simp only [ty] at h3
     have g2:¬ ((T.getD i default) ^^^ (T.getD k default)) &&& d.rhs = 0:=jd h3
     have hq2:fdT d T = some (((T.getD i default) ^^^ (T.getD k default)) &&& d.rhs):=ld hil hI (show fdQ d T (T.getD i default) = _ from ld hkl hK (al0 g1 g2))
     exact absurd (hq.symm.trans hq2) (fun e=>by cases e)
    ·
     have h3:=r3
     have h3:=ef r2 h3
     have h3:=of_decide_eq_true (ce h3)
     try simp only [ty] at h3
     have g2:((T.getD i default) ^^^ (T.getD k default)) &&& d.rhs = 0:=lr h3
     refine aa ?_;refine gy ?_;(iterate 3 refine qy ?_);refine a6 ?_;refine ⟨k + 1, ?_, ?_, ?_⟩
     · exact ⟨by omega,(ey hkl hK).trans (by first | exact a56 g1 | exact a4w g1 g2)⟩
     · first | omega | (dsimp only;omega)
     · exact ⟨⟨⟨_,rfl,(CoR.refl _)⟩,c9,c9,c9,trivial⟩,⟨u9,u9,u9,trivial⟩⟩
   ·
    have h2:=of_decide_eq_false r2
    try simp only [ty] at h2
    have g1:¬ ((T.getD i default) ^^^ (T.getD k default)) &&& d.lhs = 0:=jd h2
    (iterate 5 refine k9 (gft r2) ?_);refine rq rfl rfl rfl rfl rfl ?_ (hp:=r2);refine a6 ?_;refine a8 _ rfl (fun e=>by cases e) (fun _=>?_);refine aa ?_;refine gy ?_;(iterate 3 refine qy ?_)
    refine a6 ?_;refine ⟨k + 1, ?_, ?_, ?_⟩
    · exact ⟨by omega,(ey hkl hK).trans (by first | exact a56 g1 | exact a4w g1 g2)⟩
    · first | omega | (dsimp only;omega)
    · exact ⟨⟨⟨_,rfl,(CoR.refl _)⟩,c9,c9,c9,trivial⟩,⟨u9,u9,u9,trivial⟩⟩
  ·
   have h1:=of_decide_eq_false r1
   try simp only [ty] at h1
   obtain rfl:k = T.length:=by omega
   rw [show T.take T.length = T from List.take_length] at hK
   refine au ?_;refine gy ?_;(iterate 3 refine qy ?_);refine a6 ?_;refine ⟨i + 1, ?_, ?_, ?_⟩
   · exact ⟨by omega,(ey hil hI).trans hK⟩
   · first | omega | (dsimp only;omega)
   · exact ⟨⟨⟨_,rfl,(CoR.refl _)⟩,c9,c9,trivial⟩,⟨u9,u9,u9,trivial⟩⟩
 ·
  have h0:=of_decide_eq_false r0
  try simp only [ty] at h0
  obtain rfl:i = T.length:=by omega
  rw [show T.take T.length = T from List.take_length] at hI
  refine au ?_;refine sx7 ?_;refine qy ?_;refine a6 ?_;refine dc ?_;refine ⟨.inr rfl, ?_⟩
  exact ⟨_,_,rfl,(by (repeat' apply And.intro) <;> first | trivial | exact Nat.le_of_ble_eq_true rfl),CoR.refl _,⟨u9,u9,trivial⟩⟩
end Go.Hx
end
