/- A part of the proof: Bz6 Ch15 Y4 Y6. -/
import Derived.Test.YtidophngianjiaaGreatDoorBx16
import Derived.Test.YtidophngianjiaaGreatDoorBx19
import Derived.Test.YtidophngianjiaaGreatDoorBx22
import Derived.Test.YtidophngianjiaaGreatDoorBx27
import Derived.Test.YtidophngianjiaaGreatDoorBx30
import Derived.Test.YtidophngianjiaaGreatDoorBx31
import Derived.Test.YtidophngianjiaaGreatDoorBx34
set_option linter.all false
section
namespace Go.Hx
def fdP (d:Fd) (r k:AS):Option AS:=if (r ^^^ k) &&& d.lhs = 0 then (if (r ^^^ k) &&& d.rhs = 0 then none else some ((r ^^^ k) &&& d.rhs)) else none
def fdQ (d:Fd) (T:List AS) (r:AS):Option AS:=T.findSome? (fdP d r)
def fdT (d:Fd) (T:List AS):Option AS:=T.findSome? (fdQ d T)
theorem abu {d:Fd} {T:List AS} {s:AS} (h:fdT d T = some s):∃ r ∈ T,∃ k ∈ T,agB d r k = true ∧ s = (r ^^^ k) &&& d.rhs ∧ s ≠ 0:=by
 unfold fdT at h
 obtain ⟨r,hr,h⟩:=List.exists_of_findSome?_eq_some h
 unfold fdQ at h
 obtain ⟨k,hk,h⟩:=List.exists_of_findSome?_eq_some h
 unfold fdP at h
 split at h
 · rename_i h1
   split at h
   · cases h
   · rename_i h2
     cases h
     exact ⟨r,hr,k,hk,decide_eq_true h1,rfl,h2⟩
 · cases h
theorem ap0 {d:Fd} {T:List AS} (h:fdT d T = none):∀ r ∈ T,∀ k ∈ T,agB d r k = true → (r ^^^ k) &&& d.rhs = 0:=by
 intro r hr k hk ha
 unfold fdT at h
 rw [List.findSome?_eq_none_iff] at h
 have h:=h r hr
 unfold fdQ at h
 rw [List.findSome?_eq_none_iff] at h
 have h:=h k hk
 unfold fdP at h
 rw [if_pos (of_decide_eq_true ha)] at h
 split at h
 · assumption
 · cases h
theorem aat {d:Fd} {r k:AS} (h:¬ (r ^^^ k) &&& d.lhs = 0):fdP d r k = none:=if_neg h
theorem aak {d:Fd} {r k:AS} (h:(r ^^^ k) &&& d.lhs = 0) (h2:(r ^^^ k) &&& d.rhs = 0):fdP d r k = none:=by unfold fdP;rw [if_pos h,if_pos h2]
theorem asz {d:Fd} {r k:AS} (h:(r ^^^ k) &&& d.lhs = 0) (h2:¬ (r ^^^ k) &&& d.rhs = 0):fdP d r k = some ((r ^^^ k) &&& d.rhs):=by unfold fdP;rw [if_pos h,if_neg h2]
theorem s5 {T:List AS} (h:T.Nodup):T.length ≤ 4294967296:=by
 have h1:(T.map BitVec.toNat).Nodup:=List.Pairwise.map _ (fun a b hab e=>hab (BitVec.eq_of_toNat_eq e)) h
 have h2:∀ x ∈ T.map BitVec.toNat,x < 4294967296:=by
  intro x hx
  obtain ⟨a,_,rfl⟩:=List.mem_map.1 hx
  exact a.isLt
 have hlen:(T.map BitVec.toNat).length = T.length:=List.length_map _
 rw [← hlen]
 have key:∀ (N:Nat) (l:List Nat),l.Nodup → (∀ x ∈ l,x < N) → l.length ≤ N:=by
  intro N
  induction N with
  | zero =>
   intro l _ hl
   cases l with
   | nil=>exact Nat.le_refl _
   | cons a l=>exact absurd (hl a (by simp)) (Nat.not_lt_zero _)
  | succ N ih =>
   intro l hn hl
   have h3:=ih (l.filter fun x=>!decide (x = N)) (hn.filter _) fun x hx=>by
    rw [List.mem_filter] at hx
    have:=hl x hx.1
    have hx2:¬ x = N:=by simpa using hx.2
    omega
   have h4:l.length ≤ (l.filter fun x=>!decide (x = N)).length + 1:=by
    have h5:∀ l:List Nat,l.length = (l.filter fun x=>!decide (x = N)).length + l.countP fun x=>decide (x = N):=by
     intro l
     induction l with
     | nil=>rfl
     | cons a l ih =>
      by_cases e:a = N
      · simp [List.filter_cons,List.countP_cons,e,ih];omega
      · simp [List.filter_cons,List.countP_cons,e,ih];omega
    have h6:=h5 l
    have h7:(l.countP fun x=>decide (x = N)) ≤ 1:=by
     have:=hn.count (a:=N)
     have e:(l.countP fun x=>decide (x = N)) = l.count N:=by
      unfold List.count
      congr 1
     rw [e]
     first | exact List.nodup_iff_count.1 hn N | (rw [this];split <;> omega)
    omega
   omega
 exact key _ _ h1 h2
theorem lq {T:List AS} {i:Nat} (hi:i < 32):(orL T).getLsbD i = T.any fun r=>r.getLsbD i:=by
 unfold orL
 have:∀ (T:List AS) (o:AS),(T.foldl (· ||| ·) o).getLsbD i = (o.getLsbD i || T.any fun r=>r.getLsbD i):=by
  intro T
  induction T with
  | nil=>intro o;simp
  | cons a T ih=>intro o;rw [List.foldl_cons,ih,BitVec.getLsbD_or,List.any_cons,Bool.or_assoc]
 rw [this]
 simp
theorem av8 {T:List AS} {s:AS}:orL (ir T s) = orL T &&& ~~~s:=by
 apply gt
 intro i hi
 rw [lq hi,bw hi,lq hi]
 cases hs:s.getLsbD i with
 | true =>
  simp only [Bool.not_true,Bool.and_false]
  rw [List.any_eq_false]
  intro z hz
  obtain ⟨r,hr,rfl⟩:=ny.1 hz
  rw [bw hi,hs]
  simp
 | false =>
  simp only [Bool.not_false,Bool.and_true]
  rw [Bool.eq_iff_iff,List.any_eq_true,List.any_eq_true]
  constructor
  · rintro ⟨z,hz,hb⟩
    obtain ⟨r,hr,rfl⟩:=ny.1 hz
    rw [bw hi,Bool.and_eq_true] at hb
    exact ⟨r,hr,hb.1⟩
  · rintro ⟨r,hr,hb⟩
    exact ⟨r &&& ~~~s,ny.2 ⟨r,hr,rfl⟩,by rw [bw hi,hb,hs];rfl⟩
theorem a87 {d:Fd} {T:List AS} {s:AS} (h:fdT d T = some s):(orL (ir T s)).toNat < (orL T).toNat:=by
 obtain ⟨r,hr,k,hk,_,rfl,hz⟩:=abu h
 rw [av8]
 refine a5w o8 fun e=>?_
 obtain ⟨i,hi,hb⟩:=ad6 hz
 have h1:=congrArg (fun z:AS=>z.getLsbD i) e
 simp only [bw hi,hb,Bool.not_true,Bool.and_false] at h1
 have h1:(orL T).getLsbD i = false:=h1.symm
 rw [lq hi,List.any_eq_false] at h1
 rw [BitVec.getLsbD_and,BitVec.getLsbD_xor,Bool.and_eq_true] at hb
 have h2:r.getLsbD i = false:=by simpa using h1 r hr
 have h3:k.getLsbD i = false:=by simpa using h1 k hk
 rw [h2,h3] at hb
 simp at hb
def ne (d:Fd):Nat → List AS → List AS
 | 0,T=>T
 | f + 1,T=>match fdT d T with
  | none=>T
  | some s=>ne d f (ir T s)
def mvS (d:Fd) (T:List AS) (i k:Nat):List AS:=if agB d (T.getD i default) (T.getD k default) = true then f8 T (j3 d (T.getD i default) (T.getD k default)) else T
def mvI (d:Fd):Nat → List AS → Nat → Nat → List AS
 | 0,T,_,_=>T
 | f + 1,T,i,k=>if k < T.length then mvI d f (mvS d T i k) i (k + 1) else T
def mvO (d:Fd):Nat → List AS → Nat → List AS
 | 0,T,_=>T
 | f + 1,T,i=>if i < T.length then mvO d f (mvI d 8589934592 T i 0) (i + 1) else T
theorem y5 (d:Fd) (T:List AS) (i k:Nat):T <+: mvS d T i k:=by
 unfold mvS f8
 split
 · split
   · exact List.prefix_refl _
   · exact List.prefix_append _ _
 · exact List.prefix_refl _
theorem tf (d:Fd):∀ (f:Nat) (T:List AS) (i k:Nat),T <+: mvI d f T i k
 | 0,T,_,_=>List.prefix_refl _
 | f + 1,T,i,k=>by
  unfold mvI
  split
  · exact (y5 d T i k).trans (tf d f _ i (k + 1))
  · exact List.prefix_refl _
theorem xx (d:Fd):∀ (f:Nat) (T:List AS) (i:Nat),T <+: mvO d f T i
 | 0,T,_=>List.prefix_refl _
 | f + 1,T,i=>by
  unfold mvO
  split
  · exact (tf d _ T i 0).trans (xx d f _ (i + 1))
  · exact List.prefix_refl _
theorem amr {A B:List AS} (h:A <+: B) (hl:B.length = A.length):B = A:=by
 obtain ⟨C,rfl⟩:=h
 rw [List.length_append] at hl
 rw [List.length_eq_zero_iff.1 (show C.length = 0 by omega),List.append_nil]
theorem a35 {A B C:List AS} (h:A <+: B) (k:B <+: C) (hl:C.length = A.length):B = A:=by
 have h1:=h.length_le
 have h2:=k.length_le
 exact amr h (by omega)
theorem ad7 {d:Fd}:∀ {f:Nat} {T:List AS} {i k:Nat},T.length < f + k → (mvI d f T i k).length = T.length → ∀ j,k ≤ j → j < T.length → agB d (T.getD i default) (T.getD j default) = true → j3 d (T.getD i default) (T.getD j default) ∈ T
 | 0,T,i,k,hf,_,j,hj,hjl,_=>by omega
 | f + 1,T,i,k,hf,hl,j,hj,hjl,ha=>by
  unfold mvI at hl
  rw [if_pos (by omega)] at hl
  have e:=a35 (y5 d T i k) (tf d f _ i (k + 1)) hl
  by_cases hjk:j = k
  · subst hjk
    unfold mvS f8 at e
    rw [if_pos ha] at e
    split at e
    · assumption
    · have:=congrArg List.length e
      simp at this
  · rw [e] at hl
    exact ad7 (by omega) hl j (by omega) hjl ha
theorem abv {d:Fd}:∀ {f:Nat} {T:List AS} {i:Nat},T.length ≤ 4294967296 → T.length < f + i → (mvO d f T i).length = T.length → ∀ a,i ≤ a → a < T.length → ∀ j,j < T.length → agB d (T.getD a default) (T.getD j default) = true → j3 d (T.getD a default) (T.getD j default) ∈ T
 | 0,T,i,_,hf,_,a,ha,hal,_,_,_=>by omega
 | f + 1,T,i,hT,hf,hl,a,ha,hal,j,hj,hag=>by
  unfold mvO at hl
  rw [if_pos (by omega)] at hl
  have e:=a35 (tf d 8589934592 T i 0) (xx d f _ (i + 1)) hl
  by_cases hai:a = i
  · subst hai
    exact ad7 (by omega) (congrArg List.length e) j (Nat.zero_le _) hj hag
  · rw [e] at hl
    exact abv hT (by omega) hl a (by omega) hal j hj hag
theorem alg {d:Fd} {T:List AS} {i k:Nat} (h:T.Nodup):(mvS d T i k).Nodup:=by
 unfold mvS
 split
 · exact sn h
 · exact h
theorem ae2 {d:Fd}:∀ {f:Nat} {T:List AS} {i k:Nat},T.Nodup → (mvI d f T i k).Nodup
 | 0,T,_,_,h=>h
 | f + 1,T,i,k,h=>by
  unfold mvI
  split
  · exact ae2 (alg h)
  · exact h
theorem adk {d:Fd}:∀ {f:Nat} {T:List AS} {i:Nat},T.Nodup → (mvO d f T i).Nodup
 | 0,T,_,h=>h
 | f + 1,T,i,h=>by
  unfold mvO
  split
  · exact adk (ae2 h)
  · exact h
abbrev TC:=List AS × Bool
def FU2:Nat:=8589934592
def fdR (x:TC) (d:Fd):TC:=(ne d FU2 x.1,x.2 || (fdT d x.1).isSome)
def mvR (x:TC) (d:Fd):TC:=(mvO d FU2 x.1 0,x.2 || decide (x.1.length < (mvO d FU2 x.1 0).length))
def ku (fs ms:List Fd) (T:List AS):TC:=ms.foldl mvR (fs.foldl fdR (T,false))
def chF (fs ms:List Fd):Nat → List AS → List AS
 | 0,T=>T
 | f + 1,T=>if (ku fs ms T).2 = true then chF fs ms f (ku fs ms T).1 else (ku fs ms T).1
def muT (T:List AS):Nat:=(orL T).toNat * FU2 + (4294967296 - T.length)
theorem vc {d:Fd} {f:Nat} {T:List AS} {s:AS} (h:fdT d T = some s):ne d (f + 1) T = ne d f (ir T s):=by
 show (match fdT d T with | none=>T | some s=>ne d f (ir T s)) = _
 rw [h]
theorem v8 {d:Fd} {f:Nat} {T:List AS} (h:fdT d T = none):ne d f T = T:=by
 cases f with
 | zero=>rfl
 | succ f =>
  show (match fdT d T with | none=>T | some s=>ne d f (ir T s)) = _
  rw [h]
theorem abl {d:Fd} {P:List AS → Prop} (hP:∀ T s,P T → fdT d T = some s → P (ir T s)):∀ (f:Nat) (T:List AS),P T → P (ne d f T)
 | 0,T,h=>h
 | f + 1,T,h=>by
  cases hq:fdT d T with
  | none=>rw [v8 hq];exact h
  | some s=>rw [vc hq];exact abl hP f _ (hP T s h hq)
theorem ah7 {d:Fd} {P:List AS → Prop} (hP:∀ T r k,P T → r ∈ T → k ∈ T → agB d r k = true → P (f8 T (j3 d r k))):∀ (f:Nat) (T:List AS) (i k:Nat),i < T.length → P T → P (mvI d f T i k)
 | 0,T,_,_,_,h=>h
 | f + 1,T,i,k,hi,h=>by
  unfold mvI
  split
  · rename_i hk
    refine ah7 hP f _ i (k + 1) (Nat.lt_of_lt_of_le hi (y5 d T i k).length_le) ?_
    unfold mvS
    split
    · rename_i ha
      exact hP T _ _ h (gv hi) (gv hk) ha
    · exact h
  · exact h
theorem a7o {d:Fd} {P:List AS → Prop} (hP:∀ T r k,P T → r ∈ T → k ∈ T → agB d r k = true → P (f8 T (j3 d r k))):∀ (f:Nat) (T:List AS) (i:Nat),P T → P (mvO d f T i)
 | 0,T,_,h=>h
 | f + 1,T,i,h=>by
  unfold mvO
  split
  · rename_i hi
    exact a7o hP f _ (i + 1) (ah7 hP _ T i 0 hi h)
  · exact h
theorem a1z {P:List AS → Prop} {fs:List Fd} (hP:∀ d ∈ fs,∀ T s,P T → fdT d T = some s → P (ir T s)):∀ (ds:List Fd) (x:TC),(∀ d ∈ ds,d ∈ fs) → P x.1 → P (ds.foldl fdR x).1
 | [],x,_,h=>h
 | d :: ds,x,hd,h=>a1z hP ds (fdR x d) (fun e he=>hd e (by simp [he])) (abl (hP d (hd d (by simp))) _ _ h)
theorem a71 {P:List AS → Prop} {ms:List Fd} (hP:∀ d ∈ ms,∀ T r k,P T → r ∈ T → k ∈ T → agB d r k = true → P (f8 T (j3 d r k))):∀ (ds:List Fd) (x:TC),(∀ d ∈ ds,d ∈ ms) → P x.1 → P (ds.foldl mvR x).1
 | [],x,_,h=>h
 | d :: ds,x,hd,h=>a71 hP ds (mvR x d) (fun e he=>hd e (by simp [he])) (a7o (hP d (hd d (by simp))) _ _ _ h)
theorem a1q {P:List AS → Prop} {fs ms:List Fd} (h1:∀ d ∈ fs,∀ T s,P T → fdT d T = some s → P (ir T s)) (h2:∀ d ∈ ms,∀ T r k,P T → r ∈ T → k ∈ T → agB d r k = true → P (f8 T (j3 d r k))) {T:List AS} (h:P T):P (ku fs ms T).1 :=
 a71 h2 ms _ (fun _ h=>h) (a1z h1 fs (T,false) (fun _ h=>h) h)
theorem an2 {P:List AS → Prop} {fs ms:List Fd} (h1:∀ d ∈ fs,∀ T s,P T → fdT d T = some s → P (ir T s)) (h2:∀ d ∈ ms,∀ T r k,P T → r ∈ T → k ∈ T → agB d r k = true → P (f8 T (j3 d r k))):∀ (f:Nat) (T:List AS),P T → P (chF fs ms f T)
 | 0,T,h=>h
 | f + 1,T,h=>by
  unfold chF
  split
  · exact an2 h1 h2 f _ (a1q h1 h2 h)
  · exact a1q h1 h2 h
theorem aau {fs:List Fd}:∀ d ∈ fs,∀ (T:List AS) (s:AS),T.Nodup → fdT d T = some s → (ir T s).Nodup:=fun _ _ T s _ _=>a5j T s
theorem ajo {ms:List Fd}:∀ d ∈ ms,∀ (T:List AS) (r k:AS),T.Nodup → r ∈ T → k ∈ T → agB d r k = true → (f8 T (j3 d r k)).Nodup:=fun _ _ _ _ _ h _ _ _=>sn h
theorem af0:∀ (ds:List Fd) (x:TC),x.2 = true → (ds.foldl fdR x).2 = true
 | [],x,h=>h
 | d :: ds,x,h=>af0 ds (fdR x d) (by unfold fdR;simp [h])
theorem a4s:∀ (ds:List Fd) (x:TC),x.2 = true → (ds.foldl mvR x).2 = true
 | [],x,h=>h
 | d :: ds,x,h=>a4s ds (mvR x d) (by unfold mvR;simp [h])
theorem ael:∀ {ds:List Fd} {x:TC},(ds.foldl fdR x).2 = false → ds.foldl fdR x = x ∧ ∀ d ∈ ds,fdT d x.1 = none
 | [],x,h=>⟨rfl,fun _ h=>by cases h⟩
 | d :: ds,x,h=>by
  have hx2:(fdR x d).2 = false:=by
   cases hq:(fdR x d).2 with
   | false=>rfl
   | true=>rw [List.foldl_cons,af0 ds _ hq] at h;cases h
  have hd:x.2 = false ∧ fdT d x.1 = none:=by
   unfold fdR at hx2
   rw [Bool.or_eq_false_iff] at hx2
   exact ⟨hx2.1,by cases hq:fdT d x.1 with | none=>rfl | some s=>rw [hq] at hx2;cases hx2.2⟩
  have e:fdR x d = x:=by
   unfold fdR
   rw [v8 hd.2,hd.2]
   simp
  rw [List.foldl_cons,e] at h
  obtain ⟨q1,q2⟩:=ael h
  refine ⟨by rw [List.foldl_cons,e];exact q1,fun k hk=>?_⟩
  rcases List.mem_cons.1 hk with rfl | hk
  · exact hd.2
  · exact q2 k hk
theorem adn:∀ {ds:List Fd} {x:TC},x.1.Nodup → (ds.foldl mvR x).2 = false → ds.foldl mvR x = x ∧ ∀ d ∈ ds,∀ r ∈ x.1,∀ k ∈ x.1,agB d r k = true → j3 d r k ∈ x.1
 | [],x,_,h=>⟨rfl,fun _ h=>by cases h⟩
 | d :: ds,x,hn,h=>by
  have hx2:(mvR x d).2 = false:=by
   cases hq:(mvR x d).2 with
   | false=>rfl
   | true=>rw [List.foldl_cons,a4s ds _ hq] at h;cases h
  have hfew:=s5 hn
  have hd:x.2 = false ∧ (mvO d FU2 x.1 0).length = x.1.length:=by
   unfold mvR at hx2
   rw [Bool.or_eq_false_iff] at hx2
   refine ⟨hx2.1, ?_⟩
   have h1:=of_decide_eq_false hx2.2
   have h2:=(xx d FU2 x.1 0).length_le
   omega
  have e0:mvO d FU2 x.1 0 = x.1:=amr (xx d FU2 x.1 0) hd.2
  have e:mvR x d = x:=by
   unfold mvR
   rw [e0]
   simp
  rw [List.foldl_cons,e] at h
  obtain ⟨q1,q2⟩:=adn hn h
  refine ⟨by rw [List.foldl_cons,e];exact q1,fun k hk=>?_⟩
  rcases List.mem_cons.1 hk with rfl | hk
  · intro r hr q hq ha
    obtain ⟨i,hi,rfl⟩:=List.mem_iff_getElem.1 hr
    obtain ⟨j,hj,rfl⟩:=List.mem_iff_getElem.1 hq
    have g:=abv (d:=k) (f:=FU2) (T:=x.1) (i:=0) hfew (by show _ < 8589934592 + 0;omega) hd.2 i (Nat.zero_le _) hi j hj
    have ei:x.1.getD i default = x.1[i]:=by rw [List.getD_eq_getElem?_getD,List.getElem?_eq_getElem hi];rfl
    have ej:x.1.getD j default = x.1[j]:=by rw [List.getD_eq_getElem?_getD,List.getElem?_eq_getElem hj];rfl
    rw [ei,ej] at g
    exact g ha
  · exact q2 k hk
theorem apc {fs ms:List Fd} {T:List AS} (hn:T.Nodup) (h:(ku fs ms T).2 = false):(ku fs ms T).1 = T ∧ aaj fs ms T:=by
 unfold ku at h ⊢
 have h0:(fs.foldl fdR (T,false)).2 = false:=by
  cases hq:(fs.foldl fdR (T,false)).2 with
  | false=>rfl
  | true=>rw [a4s ms _ hq] at h;cases h
 obtain ⟨e1,c1⟩:=ael h0
 rw [e1] at h ⊢
 obtain ⟨e2,c2⟩:=adn (x:=(T,false)) hn h
 rw [e2]
 exact ⟨rfl,fun d hd=>ap0 (c1 d hd),fun d hd r hr k hk ha=>c2 d hd r hr k hk ha⟩
theorem aka {A B:List AS} (h:(orL B).toNat < (orL A).toNat):muT B < muT A:=by
 unfold muT
 have h1:((orL B).toNat + 1) * FU2 ≤ (orL A).toNat * FU2:=Nat.mul_le_mul_right _ h
 rw [Nat.add_mul] at h1
 have:FU2 = 8589934592:=rfl
 omega
theorem avu {A B:List AS} (hp:A <+: B) (ho:(orL B).toNat = (orL A).toNat) (hB:B.length ≤ 4294967296):muT B ≤ muT A ∧ (A.length < B.length → muT B < muT A):=by
 unfold muT
 rw [ho]
 have:=hp.length_le
 omega
theorem aw7 {T:List AS} {d:Fd} {r k:AS} (hr:r ∈ T) (hk:k ∈ T):orL (f8 T (j3 d r k)) = orL T:=by
 apply gt
 intro i hi
 rw [lq hi,lq hi,Bool.eq_iff_iff,List.any_eq_true,List.any_eq_true]
 constructor
 · rintro ⟨z,hz,hb⟩
   rcases m8.1 hz with hz | rfl
   · exact ⟨z,hz,hb⟩
   · rw [qd hi] at hb
     split at hb
     · exact ⟨r,hr,hb⟩
     · exact ⟨k,hk,hb⟩
 · rintro ⟨z,hz,hb⟩
   exact ⟨z,m8.2 (.inl hz),hb⟩
theorem av2 {d:Fd} {f:Nat} {T:List AS} {i:Nat}:orL (mvO d f T i) = orL T :=
 a7o (P:=fun X=>orL X = orL T) (fun X r k h hr hk _=>(aw7 hr hk).trans h) f T i rfl
theorem ah5 {d:Fd} {T0:List AS} (f:Nat):∀ (T:List AS),muT T ≤ muT T0 → muT (ne d f T) ≤ muT T0:=by
 induction f with
 | zero=>intro T h;exact h
 | succ f ih =>
  intro T h
  cases hq:fdT d T with
  | none=>rw [v8 hq];exact h
  | some s =>
   rw [vc hq]
   have h1:=aka (a87 hq)
   exact ih _ (by omega)
theorem b05 (x:TC) (d:Fd):muT (fdR x d).1 ≤ muT x.1 ∧ (x.2 = false → (fdR x d).2 = true → muT (fdR x d).1 < muT x.1):=by
 refine ⟨ah5 _ _ (Nat.le_refl _),fun h1 h2=>?_⟩
 unfold fdR at h2 ⊢
 rw [h1,Bool.false_or,Option.isSome_iff_exists] at h2
 obtain ⟨s,hs⟩:=h2
 show muT (ne d FU2 x.1) < _
 rw [show FU2 = 8589934591 + 1 from rfl,vc hs]
 exact Nat.lt_of_le_of_lt (ah5 _ _ (Nat.le_refl _)) (aka (a87 hs))
theorem b0o {x:TC} (hn:x.1.Nodup) (d:Fd):muT (mvR x d).1 ≤ muT x.1 ∧ (x.2 = false → (mvR x d).2 = true → muT (mvR x d).1 < muT x.1):=by
 have h:=avu (xx d FU2 x.1 0) (congrArg BitVec.toNat av2) (s5 (adk hn))
 refine ⟨h.1,fun h1 h2=>h.2 ?_⟩
 unfold mvR at h2
 rw [h1,Bool.false_or] at h2
 exact of_decide_eq_true h2
theorem ags:∀ (ds:List Fd) (x:TC),muT (ds.foldl fdR x).1 ≤ muT x.1 ∧ (x.2 = false → (ds.foldl fdR x).2 = true → muT (ds.foldl fdR x).1 < muT x.1)
 | [],x=>⟨Nat.le_refl _,fun h k=>by simp only [List.foldl_nil] at k;rw [h] at k;cases k⟩
 | d :: ds,x=>by
  obtain ⟨a1,a2⟩:=b05 x d
  obtain ⟨b1,b2⟩:=ags ds (fdR x d)
  refine ⟨Nat.le_trans b1 a1,fun h k=>?_⟩
  cases hq:(fdR x d).2 with
  | true=>exact Nat.lt_of_le_of_lt b1 (a2 h hq)
  | false=>exact Nat.lt_of_lt_of_le (b2 hq k) a1
theorem ahc:∀ (ds:List Fd) (x:TC),x.1.Nodup → muT (ds.foldl mvR x).1 ≤ muT x.1 ∧ (x.2 = false → (ds.foldl mvR x).2 = true → muT (ds.foldl mvR x).1 < muT x.1)
 | [],x,_=>⟨Nat.le_refl _,fun h k=>by simp only [List.foldl_nil] at k;rw [h] at k;cases k⟩
 | d :: ds,x,hn=>by
  obtain ⟨a1,a2⟩:=b0o hn d
  obtain ⟨b1,b2⟩:=ahc ds (mvR x d) (adk hn)
  refine ⟨Nat.le_trans b1 a1,fun h k=>?_⟩
  cases hq:(mvR x d).2 with
  | true=>exact Nat.lt_of_le_of_lt b1 (a2 h hq)
  | false=>exact Nat.lt_of_lt_of_le (b2 hq k) a1
theorem aol {fs ms:List Fd} {T:List AS} (hn:T.Nodup) (h:(ku fs ms T).2 = true):muT (ku fs ms T).1 < muT T:=by
 unfold ku at h ⊢
 obtain ⟨a1,a2⟩:=ags fs (T,false)
 have hn2:(fs.foldl fdR (T,false)).1.Nodup:=a1z aau fs (T,false) (fun _ h=>h) hn
 obtain ⟨b1,b2⟩:=ahc ms (fs.foldl fdR (T,false)) hn2
 cases hq:(fs.foldl fdR (T,false)).2 with
 | true=>exact Nat.lt_of_le_of_lt b1 (a2 rfl hq)
 | false=>exact Nat.lt_of_lt_of_le (b2 hq h) a1
theorem auz {fs ms:List Fd} (f:Nat):∀ {T:List AS},T.Nodup → muT T < f → aaj fs ms (chF fs ms f T):=by
 induction f with
 | zero=>intro T _ h;omega
 | succ f ih =>
  intro T hn h
  unfold chF
  split
  · rename_i hc
    have h1:=aol hn hc
    exact ih (a1q aau ajo hn) (by omega)
  · rename_i hc
    rw [Bool.not_eq_true] at hc
    obtain ⟨e,c⟩:=apc hn hc
    rw [e]
    exact c
def MU:Nat:=73786976294838206464
theorem alq (T:List AS):muT T < MU:=by
 unfold muT
 have h:=(orL T).isLt
 have h1:((orL T).toNat + 1) * FU2 ≤ 4294967296 * FU2:=Nat.mul_le_mul_right _ h
 rw [Nat.add_mul] at h1
 have e:FU2 = 8589934592:=rfl
 have e2:MU = 73786976294838206464:=rfl
 omega
def a4v (rest:AS):List AS:=f8 [0] rest
def chT (fs ms:List Fd) (rest:AS):List AS:=chF fs ms MU (a4v rest)
theorem at9 (rest:AS):(a4v rest).Nodup:=sn (by simp)
theorem acg {fs ms:List Fd} {rest:AS}:aql fs ms (blks (fq fs ms) rest) rest (chT fs ms rest):=by
 obtain ⟨hb,hs⟩:=x6 (fq fs ms) rest
 refine ⟨an2 (P:=JT fs (blks (fq fs ms) rest) rest) (fun d hd T s hT hq=>?_) (fun d hd T r k hT hr hk ha=>?_) MU (a4v rest) ?_,auz MU (at9 rest) (alq _)⟩
 · obtain ⟨r,hr,k,hk,ha,rfl,_⟩:=abu hq
   exact hT.equ hb hs hd hr hk ha
 · exact hT.mix (hs d (va.2 (.inl hd))) hr hk ha
 · have hm:∀ z,z ∈ a4v rest ↔ z = 0 ∨ z = rest:=fun z=>by unfold a4v;rw [m8];simp
   refine ⟨(hm 0).2 (.inl rfl),fun r hr=>?_,rest,(hm rest).2 (.inr rfl),fun r hr=>?_,fun a ha h1 h2=>by rw [h1] at h2;cases h2⟩
   · rcases (hm r).1 hr with rfl | rfl
     · exact ⟨b5.2 fun i hi h=>by simp at h,fun b hb'=>.inl (by simp)⟩
     · exact ⟨gn _,fun b hb'=>.inr (hb.sub hb')⟩
   · rcases (hm r).1 hr with rfl | rfl
     · exact b5.2 fun i hi h=>by simp at h
     · exact gn _
theorem ac7 {fs ms:List Fd} {rest:AS}:orL (chT fs ms rest) ∈ chT fs ms rest ∧ ∀ r ∈ chT fs ms rest,sub r (orL (chT fs ms rest)):=by
 have h:=(acg (fs:=fs) (ms:=ms) (rest:=rest)).j
 obtain ⟨L,h1,h2,h3⟩:=h.top
 have e:orL (chT fs ms rest) = L:=fh (aev h2) (qu h1)
 rw [e]
 exact ⟨h1,h2⟩
end Go.Hx
end
section
namespace Go.Hx
open Go.Proofs
set_option maxRecDepth 100000
def sT:List Rw:=[[0,1,5],[0,7,2]]
def fdX:List Fd:=[⟨1,2⟩]
theorem a6l {x:Fd} {cl:Bool} {f:Nat → Nat → PV} (h0:CoP (f 0 0) (x.c 0)) (h1:CoP (f 0 1) (x.c 1)):CoP (.sl 1 2 cl f) (fdl [x]) :=
 CoP.sl rfl (.inl rfl) (fun h=>by cases h) fun i j hi hj=>by
  obtain rfl:i = 0:=by omega
  rcases (by omega:j = 0 ∨ j = 1) with rfl | rfl
  · exact h0
  · exact h1
theorem a5p {s:Nat} {f:Nat → Nat → PV}:CoP (.sl 0 s true f) (fdl []):=CoP.sl rfl (.inr rfl) (fun h=>by cases h) fun i j hi _=>absurd hi (Nat.not_lt_zero i)
end Go.Hx
end
section
namespace Go.Hx
open Go.Proofs
set_option maxRecDepth 100000
set_option maxHeartbeats 1000000
theorem ad1:goodFn Tryz.prog 16:=⟨Tryz.f16,Tryz.func16,by kernel_rfl,by kernel_rfl⟩
theorem aq1 (a b:List AS):ai Tryz.prog 16 [pP (asl a),pP (asl b)] (ao [pB (decide (a = b))]):=by
 refine ah (nt:=26) ae Tryz.func16 rfl rfl l9 ?_;refine sx7 ?_;refine qy ?_;refine a6 ?_;(iterate 2 refine a7 ?_)
 refine d9 0 rfl fun hn0=>?_
 refine d9 1 rfl fun hn1=>?_
 refine gy ?_;(iterate 5 refine qy ?_);refine a6 ?_;refine a8 _ rfl (fun r0=>?_) (fun r0=>?_)
 ·
  have h0:=r0
  have h0:=of_decide_eq_false (av h0)
  try simp only [ty] at h0
  refine sx7 ?_;refine qy ?_;refine a6 ?_
  exact hx8 rfl rfl rfl (⟨ccb (decide_eq_false fun e=>by subst e;omega).symm,trivial⟩)
 ·
  have h0:=r0
  have h0:=of_decide_eq_true (aw h0)
  try simp only [ty] at h0
  refine aa ?_;refine a7 ?_;refine sx7 ?_;(iterate 3 refine qy ?_);refine a6 ?_;refine ab ?_
  refine aj (ι:=Nat) ⟨[(0,some _),(1,some _),(12,some _)],[]⟩ ⟨⟨c9,c9,c9,trivial⟩,trivial⟩ (fun i=>⟨[(13,some (vI i))],[]⟩) (fun i=>i ≤ a.length ∧ ∀ j,j < i → a.getD j default = b.getD j default) (fun i=>a.length - i) (0) (⟨Nat.zero_le _,fun j hj=>absurd hj (Nat.not_lt_zero j)⟩) ⟨⟨⟨_,rfl,(CoR.refl _)⟩,trivial⟩,trivial⟩ ?_
  rintro i ⟨hi,hI⟩
  refine sx7 ?_;refine qy ?_;refine a6 ?_;refine a7 ?_;refine a8 _ rfl (fun r1=>?_) (fun r1=>?_)
  ·
   have h1:=of_decide_eq_true r1
   try simp only [ty] at h1
   refine aa ?_;refine a7 ?_;refine ab ?_;refine sx7 ?_;(iterate 2 refine qy ?_);refine a6 ?_;refine a7 ?_;refine ax (E:=bf) ae ar [0,1,2,3,4,5,6,7,8] ?_
   (iterate 9 refine qy ?_);refine a6 ?_;refine ⟨by kernel_rfl, ?_⟩;refine a8 _ rfl (fun r2=>?_) (fun r2=>?_)
   ·
    have h2:=r2
    have h2:=of_decide_eq_false (av h2)
    try simp only [ty] at h2
    refine sx7 ?_;refine qy ?_;refine a6 ?_
    exact hx8 rfl rfl rfl (⟨ccb (decide_eq_false fun e=>by subst e;exact absurd rfl (by assumption:¬ asI _ = asI _)).symm,trivial⟩)
   ·
    have h2:=r2
    have h2:=of_decide_eq_true (aw h2)
    try simp only [ty] at h2
    refine aa ?_;refine gy ?_;(iterate 2 refine qy ?_);refine a6 ?_;refine ⟨i + 1, ?_, ?_, ?_⟩
    · refine ⟨by omega,fun j hj=>?_⟩
      by_cases e:j = i
      · subst e;exact ep.1 (by assumption)
      · exact hI j (by omega)
    · first | omega | (dsimp only;omega)
    · exact ⟨⟨⟨_,rfl,(CoR.refl _)⟩,c9,c9,c9,trivial⟩,trivial⟩
  ·
   have h1:=of_decide_eq_false r1
   try simp only [ty] at h1
   obtain rfl:i = a.length:=by omega
   refine ak ?_;refine sx7 ?_;refine qy ?_;refine a6 ?_
   exact hx8 rfl rfl rfl (⟨ccb (decide_eq_true (b09 (by omega) hI)).symm,trivial⟩)
theorem az0:goodFn Tryz.prog 44:=⟨Tryz.f44,Tryz.func44,by kernel_rfl,by kernel_rfl⟩
theorem aw5 (n:Int) (l:List Dp) (hl:l.length ≤ 16777216):ai Tryz.prog 44 [pI n,pP (dpl l)] (ao [pP (fdl (l.map (Dp.fd n)))]):=by
 refine ah (nt:=32) ae Tryz.func44 rfl rfl l9 ?_;refine sx7 ?_;refine qy ?_;refine a6 ?_;refine sx7 ?_;refine qy ?_;refine a6 ?_;refine sx7 ?_;(iterate 2 refine qy ?_)
 refine rc rfl rfl rfl rfl rfl rfl ala (atj n l hl) (CoL.refl _) rfl rfl ?_;refine qy ?_;refine a6 ?_;refine a7 ?_;refine sx7 ?_;refine qy ?_;refine a6 ?_;refine ab ?_
 refine db 5 900 true 2 42 (lf Fd.c []) (by decide) rfl (CoP.sl rfl (.inr rfl) (fun h=>h) (fun i j hi _=>absurd hi (Nat.not_lt_zero i))) (.inr rfl) rfl ?_
 have hll:(l.map (Dp.fd n)).length ≤ 16777216:=by rw [List.length_map];exact hl
 refine aj (ι:=Nat) ⟨[(6,some _)],[]⟩ ⟨⟨c9,trivial⟩,trivial⟩ (fun i=>⟨[(5,some (.v (.one (.ref 900 ((l.map (Dp.fd n)).take i).length)))),(7,some (vI i))],[(900,some (.arr true 2 42 ((l.map (Dp.fd n)).take i).length (lf Fd.c ((l.map (Dp.fd n)).take i))))]⟩) (fun i=>i ≤ (l.map (Dp.fd n)).length) (fun i=>(l.map (Dp.fd n)).length - i) (0) (Nat.zero_le _) ⟨⟨⟨_,rfl,(CoR.refl _)⟩,⟨_,rfl,(CoR.refl _)⟩,trivial⟩,⟨u9,trivial⟩⟩ ?_
 rintro i hi
 have hlen:((l.map (Dp.fd n)).take i).length ≤ i:=by rw [List.length_take];omega
 refine a7 ?_;refine sx7 ?_;(iterate 4 refine qy ?_);refine a6 ?_;refine a8 _ rfl (fun r0=>?_) (fun r0=>?_)
 ·
  have h0:=of_decide_eq_true r0
  try simp only [ty] at h0
  refine aa ?_;refine a7 ?_;refine ab ?_;refine ax (E:=bf) ae ar [0,1,2,3,4,5,6,7,8,9,10,11,12,13,14] ?_;(iterate 12 refine qy ?_);refine m9 0 ?_
  refine ra 1 true rfl rfl rfl rfl rfl rfl ?_;refine qy ?_;refine a6 ?_;refine ⟨by kernel_rfl, ?_⟩;refine gy ?_;(iterate 3 refine qy ?_);refine a6 ?_;refine ⟨i + 1, ?_, ?_, ?_⟩
  · show i + 1 ≤ _;omega
  · first | omega | (dsimp only;omega)
  · exact ⟨⟨⟨_,rfl,(d7 (be (by omega)))⟩,⟨_,rfl,(CoR.refl _)⟩,c9,trivial⟩,⟨⟨_,rfl,(zn (be (by omega)) (CoP.refl _) (CoP.refl _))⟩,trivial⟩⟩
 ·
  have h0:=of_decide_eq_false r0
  try simp only [ty] at h0
  obtain rfl:i = (l.map (Dp.fd n)).length:=by omega
  refine ak ?_;refine sx7 ?_;(iterate 2 refine qy ?_);refine a6 ?_;refine bn 4 rfl rfl rfl ?_
  exact hx8 rfl rfl rfl (⟨CoC.one (CoP.of_eq (by rw [List.take_length];rfl)),trivial⟩)
theorem ane:goodFn Tryz.prog 11:=⟨Tryz.f11,Tryz.func11,by kernel_rfl,by kernel_rfl⟩
theorem at2 (x:Mx) (hl:x.d.l.length ≤ 16777216) (hm:x.m.length ≤ 16777216):ai Tryz.prog 11 [x.pc] (ao [pI x.d.num,pP (fdl x.d.fds),pP (fdl x.mv),pB x.ok]):=by
 refine ah (nt:=29) ae Tryz.func11 rfl rfl l9 ?_;refine sx7 ?_;refine m9 0 ?_;(iterate 4 refine qy ?_);refine a6 ?_;refine sx7 ?_;(iterate 2 refine qy ?_)
 refine rc rfl rfl rfl rfl rfl rfl ay0 (cOf x.d hl) (CoL.refl _) rfl rfl ?_;(iterate 7 refine qy ?_);refine a6 ?_;refine a7 ?_
 refine ax (E:=bf) ae ar [0,1,2,3,4,5,6,7,8,9,10,11,12,13,14,15,16] ?_;(iterate 5 refine qy ?_);refine rc rfl rfl rfl rfl rfl rfl az0 (aw5 x.d.num x.m hm) (CoL.refl _) rfl rfl ?_
 (iterate 2 refine qy ?_);refine b4 rfl rfl (fun r0=>?_) (fun r0=>?_)
 ·
  have h0:=r0
  (iterate 4 refine qy ?_ (hg:=(gtt r0)));(iterate 5 refine qy ?_);refine a6 ?_;refine ⟨by kernel_rfl, ?_⟩
  exact hx8 rfl rfl rfl (⟨CoC.refl _,CoC.refl _,CoC.refl _,ccb (by unfold Mx.ok;try first | rfl | (rw [(by assumption:decide (x.d.l.length ≤ 6) = false),Bool.false_and]) | (rw [(by assumption:decide (x.d.l.length ≤ 6) = true),Bool.true_and];exact decide_eq_decide.2 (by omega))),trivial⟩)
 ·
  have h0:=r0
  (iterate 4 refine k9 (gft r0) ?_);refine rq rfl rfl rfl rfl rfl ?_ (hp:=r0);(iterate 4 refine qy ?_);refine a6 ?_;refine ⟨by kernel_rfl, ?_⟩
  exact hx8 rfl rfl rfl (⟨CoC.refl _,CoC.refl _,CoC.refl _,ccb (by unfold Mx.ok;try first | rfl | (rw [(by assumption:decide (x.d.l.length ≤ 6) = false),Bool.false_and]) | (rw [(by assumption:decide (x.d.l.length ≤ 6) = true),Bool.true_and];exact decide_eq_decide.2 (by omega))),trivial⟩)
theorem azj:goodFn Tryz.prog 52:=⟨Tryz.f52,Tryz.func52,by kernel_rfl,by kernel_rfl⟩
theorem b04 (n:Int) (l m:List Fd) (a b:AS):ai Tryz.prog 52 [pI n,pP (fdl l),pP (fdl m),pA a,pA b] (ao [pI (ckB n l m (a ||| b))]):=by
 refine ah (nt:=29) ae Tryz.func52 rfl rfl l9 ?_;refine sx7 ?_;refine qy ?_;refine a6 ?_;refine a7 ?_;refine sx7 ?_;(iterate 3 refine qy ?_)
 refine rc rfl rfl rfl rfl rfl rfl x8 (uc n l m) (CoL.refl _) rfl rfl ?_;refine qy ?_;refine a6 ?_;refine sx7 ?_;(iterate 2 refine qy ?_);refine a6 ?_;refine a8 _ rfl (fun r0=>?_) (fun r0=>?_)
 ·
  have h0:=r0
  have h0:=of_decide_eq_false (av h0)
  try simp only [ty] at h0
  refine sx7 ?_;(iterate 2 refine qy ?_);refine a6 ?_
  exact hx8 rfl rfl rfl (⟨cci (ajc (by assumption)).symm,trivial⟩)
 ·
  have h0:=r0
  have h0:=of_decide_eq_true (aw h0)
  try simp only [ty] at h0
  have hb:c8 n l m = 0:=h0
  refine aa ?_;refine a7 ?_;refine sx7 ?_;(iterate 2 refine qy ?_);refine rc rfl rfl rfl rfl rfl rfl a1r (a1p n a) (CoL.refl _) rfl rfl ?_;(iterate 2 refine qy ?_)
  refine b4 rfl rfl (fun r1=>?_) (fun r1=>?_)
  ·
   have h1:=r1
   have h1:=av h1
   (iterate 4 refine k9 (gtf r1) ?_);refine rq rfl rfl rfl rfl rfl ?_ (hp:=r1);refine a6 ?_;refine a8 _ rfl (fun _=>?_) (fun e=>by cases e);refine sx7 ?_;refine qy ?_;refine a6 ?_
   exact hx8 rfl rfl rfl (⟨cci (akt hb (by simp_all)).symm,trivial⟩)
  ·
   have h1:=r1
   have h1:=aw h1
   (iterate 2 refine qy ?_ (hg:=(gff r1)));refine rc rfl rfl rfl rfl rfl rfl a1r (a1p n b) (CoL.refl _) rfl (gff r1) ?_;refine qy ?_ (hg:=(gff r1));refine qy ?_;refine a6 ?_
   refine a8 _ rfl (fun r2=>?_) (fun r2=>?_)
   ·
    have h2:=r2
    have h2:=bg r1 h2
    have h2:=av h2
    refine sx7 ?_;refine qy ?_;refine a6 ?_
    exact hx8 rfl rfl rfl (⟨cci (akt hb (by simp_all)).symm,trivial⟩)
   ·
    have h2:=r2
    have h2:=bg r1 h2
    have h2:=aw h2
    refine aa ?_;refine sx7 ?_;refine qy ?_;refine a6 ?_
    exact hx8 rfl rfl rfl (⟨cci (ayj hb (by simp_all) (by simp_all)).symm,trivial⟩)
theorem ayl:goodFn Tryz.prog 24:=⟨Tryz.f24,Tryz.func24,by kernel_rfl,by kernel_rfl⟩
theorem b16 (n:Int) (l m:List Fd) (a b:AS):ai Tryz.prog 24 [pI n,pP (fdl l),pP (fdl m),pA a,pA b] (ao [pI (ck4 n l m (a ||| b))]):=by
 refine ah (nt:=23) ae Tryz.func24 rfl rfl l9 ?_;refine sx7 ?_;refine qy ?_;refine a6 ?_;refine a7 ?_;refine sx7 ?_;(iterate 3 refine qy ?_);refine b4 rfl rfl (fun r0=>?_) (fun r0=>?_)
 ·
  have h0:=of_decide_eq_true r0
  try simp only [ty] at h0
  (iterate 2 refine k9 (gtf r0) ?_);refine rq rfl rfl rfl rfl rfl ?_ (hp:=r0);refine a6 ?_;refine a8 _ rfl (fun _=>?_) (fun e=>by cases e);refine sx7 ?_;refine qy ?_;refine a6 ?_
  exact hx8 rfl rfl rfl (⟨cci (aah (by omega)).symm,trivial⟩)
 ·
  have h0:=of_decide_eq_false r0
  try simp only [ty] at h0
  (iterate 2 refine qy ?_ (hg:=(gff r0)));refine qy ?_;refine a6 ?_;refine a8 _ rfl (fun r1=>?_) (fun r1=>?_)
  ·
   have h1:=r1
   have h1:=bg r0 h1
   have h1:=of_decide_eq_true h1
   try simp only [ty] at h1
   refine sx7 ?_;refine qy ?_;refine a6 ?_
   exact hx8 rfl rfl rfl (⟨cci (aah (by omega)).symm,trivial⟩)
  ·
   have h1:=r1
   have h1:=bg r0 h1
   have h1:=of_decide_eq_false h1
   try simp only [ty] at h1
   refine aa ?_;refine sx7 ?_;(iterate 5 refine qy ?_);refine rc rfl rfl rfl rfl rfl rfl azj (b04 n l m a b) (CoL.refl _) rfl rfl ?_;refine qy ?_;refine a6 ?_
   exact hx8 rfl rfl rfl (⟨cci (vn (by omega)).symm,trivial⟩)
theorem ak6:goodFn Tryz.prog 19:=⟨Tryz.f19,Tryz.func19,by kernel_rfl,by kernel_rfl⟩
theorem ab9 (n:Int) (l m:List Fd) (ps:List AS):ai Tryz.prog 19 [pI n,pP (fdl l),pP (fdl m),pP (asl ps)] (ao [pB (pz n l m ps),pI (wg n l m ps)]):=by
 refine ah (nt:=61) ae Tryz.func19 rfl rfl l9 ?_;refine sx7 ?_;(iterate 2 refine qy ?_);refine a6 ?_;refine a7 ?_;refine sx7 ?_;(iterate 3 refine qy ?_)
 refine rc rfl rfl rfl rfl rfl rfl a5z (a2u n l m 0) (CoL.refl _) rfl rfl ?_;refine qy ?_;refine a6 ?_;refine sx7 ?_;(iterate 2 refine qy ?_);refine a6 ?_;refine a8 _ rfl (fun r0=>?_) (fun r0=>?_)
 ·
  have h0:=r0
  have h0:=of_decide_eq_false (av h0)
  try simp only [ty] at h0
  refine sx7 ?_;(iterate 3 refine qy ?_);refine a6 ?_;refine ap ?_;refine ⟨.inr rfl, ?_⟩
  obtain ⟨e1,e2⟩:=ati (ps:=ps) (by assumption:¬ ck4 n l m 0 = 0)
  exact f9 rfl rfl (⟨ccb e2.symm,cci e1.symm,trivial⟩)
 ·
  have h0:=r0
  have h0:=of_decide_eq_true (aw h0)
  try simp only [ty] at h0
  have hz:ck4 n l m 0 = 0:=h0
  refine aa ?_;refine sx7 ?_;(iterate 4 refine qy ?_);refine rc rfl rfl rfl rfl rfl rfl azi (b3x n ps l m) (CoL.refl _) rfl rfl ?_;(iterate 5 refine qy ?_);refine a6 ?_;refine a7 ?_;refine sx7 ?_
  (iterate 2 refine qy ?_);refine a6 ?_;refine a8 _ rfl (fun r1=>?_) (fun r1=>?_)
  ·
   have h1:=r1
   have h1:=of_decide_eq_false (av h1)
   try simp only [ty] at h1
   refine sx7 ?_;(iterate 3 refine qy ?_);refine a6 ?_;refine ap ?_;refine ⟨.inr rfl, ?_⟩
   obtain ⟨e1,e2⟩:=b2c hz (by assumption:¬ lsC n ps l m = 0)
   exact f9 rfl rfl (⟨ccb e2.symm,cci e1.symm,trivial⟩)
  ·
   have h1:=r1
   have h1:=of_decide_eq_true (aw h1)
   try simp only [ty] at h1
   have hc:lsC n ps l m = 0:=h1
   have hps:=(l8 (uq hc).1).2.2.1
   refine aa ?_;refine a7 ?_;refine sx7 ?_;(iterate 3 refine qy ?_);refine a6 ?_;refine ab ?_
   refine aj (ι:=Nat) ⟨[(0,some _),(1,some _),(2,some _),(36,some _),(37,some _)],[]⟩ ⟨⟨c9,c9,c9,c9,c9,trivial⟩,trivial⟩ (fun i=>⟨[(11,some (vB (lsB n ps l m && (ps.take i).all (fun p=>!vBo (bc n l m) p)))),(38,some (vI i))],[]⟩) (fun i=>i ≤ ps.length) (fun i=>ps.length - i) (0) (Nat.zero_le _) ⟨⟨⟨_,rfl,(cob (by simp))⟩,⟨_,rfl,(CoR.refl _)⟩,trivial⟩,trivial⟩ ?_
   rintro i hi
   refine sx7 ?_;refine qy ?_;refine a6 ?_;refine a7 ?_;refine a8 _ rfl (fun r2=>?_) (fun r2=>?_)
   ·
    have h2:=of_decide_eq_true r2
    try simp only [ty] at h2
    have hil:i < ps.length:=by omega
    have hp:ck4 n l m (ps.getD i default) = 0:=atx hz hc (gv hil)
    refine aa ?_;refine a7 ?_;refine ab ?_;refine sx7 ?_;(iterate 3 refine qy ?_);refine a6 ?_;refine sx7 ?_;(iterate 4 refine qy ?_)
    refine rc rfl rfl rfl rfl rfl rfl a6c (am7 (p:=(ps.getD i default)) hp) (CoL.refl _) rfl rfl ?_;(iterate 4 refine qy ?_);refine m9 0 ?_;refine s9 ?_;(iterate 2 refine qy ?_);refine a6 ?_;refine a7 ?_
    refine sx7 ?_;(iterate 2 refine qy ?_);refine a6 ?_;refine a8 _ rfl (fun e=>by cases e) (fun _=>?_);refine aa ?_;refine gy ?_;(iterate 2 refine qy ?_)
    refine b4 rfl rfl (fun r3=>?_) (fun r3=>?_)
    ·
     have h3:=r3
     (iterate 2 refine qy ?_ (hg:=(gtt r3)));(iterate 2 refine qy ?_);refine a6 ?_;refine gy ?_;(iterate 2 refine qy ?_);refine a6 ?_;refine ⟨i + 1, ?_, ?_, ?_⟩
     · show i + 1 ≤ _;omega
     · first | omega | (dsimp only;omega)
     · exact ⟨⟨⟨_,rfl,(by first | exact cob (agr hil) | exact cob (amv hil (by assumption)))⟩,⟨_,rfl,(CoR.refl _)⟩,c9,c9,c9,c9,c9,trivial⟩,trivial⟩
    ·
     have h3:=r3
     (iterate 2 refine k9 (gft r3) ?_);refine rq rfl rfl rfl rfl rfl ?_ (hp:=r3);refine qy ?_;refine a6 ?_;refine gy ?_;(iterate 2 refine qy ?_);refine a6 ?_;refine ⟨i + 1, ?_, ?_, ?_⟩
     · show i + 1 ≤ _;omega
     · first | omega | (dsimp only;omega)
     · exact ⟨⟨⟨_,rfl,(by first | exact cob (agr hil) | exact cob (amv hil (by assumption)))⟩,⟨_,rfl,(CoR.refl _)⟩,c9,c9,c9,c9,c9,trivial⟩,trivial⟩
   ·
    have h2:=of_decide_eq_false r2
    try simp only [ty] at h2
    obtain rfl:i = ps.length:=by omega
    refine ak ?_;refine sx7 ?_;(iterate 3 refine qy ?_);refine a6 ?_;refine ap ?_;refine ⟨.inr rfl, ?_⟩
    obtain ⟨e1,e2⟩:=b2b hz hc
    exact f9 rfl rfl (⟨ccb (by rw [e2,List.take_length]),cci e1.symm,trivial⟩)
theorem b1g:ai Tryz.prog 26 [pI 3,pP (fdl []),pP (fdl [⟨1,2⟩]),pA 7] (ao [Fd.pc ⟨1,2⟩,pB true,pI 0]):=by
 have h:=aiu 3 [] [⟨1,2⟩] 7
 rw [b0i.1,b0i.2] at h
 exact h
theorem b1p:ai Tryz.prog 13 [pI 3,pP (fdl []),pP (fdl [⟨1,2⟩])] (ao [pP (asl [3,5]),pI 0]):=by
 have h:=ajv 3 [] [⟨1,2⟩]
 rw [ayr.1,ayr.2] at h
 exact h
theorem ay9:ai Tryz.prog 26 [pI 3,pP (fdl [⟨2,4⟩]),pP (fdl []),pA 7] (ao [Fd.pc ⟨2,1⟩,pB true,pI 0]):=by
 have h:=aiu 3 [⟨2,4⟩] [] 7
 rw [b0v.1,b0v.2] at h
 exact h
theorem azs:ai Tryz.prog 13 [pI 3,pP (fdl [⟨2,4⟩]),pP (fdl [])] (ao [pP (asl [3,6]),pI 0]):=by
 have h:=ajv 3 [⟨2,4⟩] []
 rw [azg.1,azg.2] at h
 exact h
theorem b40:ai Tryz.prog 16 [pP (asl [3,5]),pP (asl [3,5])] (ao [pB true]):=by
 have h:=aq1 [3,5] [3,5]
 rw [decide_eq_true rfl] at h
 exact h
theorem b2s:ai Tryz.prog 16 [pP (asl [3,6]),pP (asl [3,6])] (ao [pB true]):=by
 have h:=aq1 [3,6] [3,6]
 rw [decide_eq_true rfl] at h
 exact h
theorem tv:goodFn Tryz.prog 12:=⟨Tryz.f12,Tryz.func12,by kernel_rfl,by kernel_rfl⟩
theorem o6  : ai Tryz.prog 12 [] (ao [pB true]):=by
 refine ah (nt:=80) ae Tryz.func12 rfl rfl l9 ?_;refine sx7 ?_;refine qy ?_;refine a6 ?_;refine sx7 ?_;refine qy ?_;refine m9 0 ?_;refine qy ?_;refine a6 ?_;refine bn 1 rfl rfl rfl ?_
 refine sx7 ?_;refine qy ?_;refine rc rfl rfl rfl rfl rfl rfl a6c (b1g) (⟨CoC.refl _,CoC.one a5p,CoC.one (a6l (CoP.refl _) (CoP.refl _)),CoC.refl _,trivial⟩) rfl rfl ?_;(iterate 4 refine qy ?_);refine m9 1 ?_
 refine s9 ?_;(iterate 2 refine qy ?_);refine a6 ?_;refine sx7 ?_;refine qy ?_;refine rc rfl rfl rfl rfl rfl rfl abc (b1p) (⟨CoC.refl _,CoC.one a5p,CoC.one (a6l (CoP.refl _) (CoP.refl _)),trivial⟩) rfl rfl ?_
 (iterate 5 refine qy ?_);refine a6 ?_;refine a7 ?_;refine yy [0,1] [2,3,4,5,6,7,8,9,10] rfl ?_;refine xj (E:=bf) ae ?_;refine qy ?_;refine m9 2 ?_;refine a6 ?_;refine aiw ?_
 refine a0o 27 rfl rfl rfl ?_;refine a7s ?_;refine xj (E:=bf) (L1:=[2,3,4,5,6,7,8,9,10]) (L2:=[]) ae ?_
 refine rc rfl rfl rfl rfl rfl rfl a6c (ay9) (⟨CoC.refl _,CoC.one (a6l (CoP.refl _) (CoP.refl _)),CoC.one a5p,CoC.refl _,trivial⟩) rfl rfl ?_;(iterate 4 refine qy ?_);refine m9 3 ?_;refine s9 ?_
 (iterate 2 refine qy ?_);refine a6 ?_;refine abp ?_;refine a7 ?_;refine yy [0,1] [2,3,4,5,6,7] rfl ?_;refine xj (E:=bf) ae ?_;refine qy ?_;refine m9 4 ?_;refine a6 ?_
 refine aiw ?_;refine a0o 34 rfl rfl rfl ?_;refine a7s ?_;refine xj (E:=bf) (L1:=[2,3,4,5,6,7]) (L2:=[]) ae ?_
 refine rc rfl rfl rfl rfl rfl rfl abc (azs) (⟨CoC.refl _,CoC.one (a6l (CoP.refl _) (CoP.refl _)),CoC.one a5p,trivial⟩) rfl rfl ?_;(iterate 5 refine qy ?_);refine a6 ?_;refine abp ?_;refine a7 ?_
 refine ax (E:=bf) ae ar [0,1,2,3,4,5,6,7,8,9,10,11,12,13,14,15,16,17,18,19,20,21,22,23,24,25,26,27,28,29,30,31,32,33,34,35,36,37,38,39,40,41,42] ?_
 (iterate 18 refine qy ?_);refine m9 5 ?_
 refine cn rfl rfl rfl rfl rfl rfl ad1 (ai.eat (hcs:=[.one (.p (asl [3,5])), .one (.ref 5 2)]) (o1:=[(5, .arr true 1 38 2 (lf sC [3,5]))]) (b40) rfl (by (repeat' apply And.intro) <;> first | trivial | rfl) (CoL.refl _)) (fe.refl _) ⟨⟨_,rfl,(acs (CoP.refl _) (CoP.refl _))⟩,trivial⟩ rfl rfl ?_
 (iterate 19 refine qy ?_);refine m9 6 ?_
 refine cn rfl rfl rfl rfl rfl rfl ad1 (ai.eat (hcs:=[.one (.p (asl [3,6])), .one (.ref 6 2)]) (o1:=[(6, .arr true 1 38 2 (lf sC [3,6]))]) (b2s) rfl (by (repeat' apply And.intro) <;> first | trivial | rfl) (CoL.refl _)) (fe.refl _) ⟨⟨_,rfl,(acs (CoP.refl _) (CoP.refl _))⟩,trivial⟩ rfl rfl ?_
 (iterate 2 refine qy ?_);refine a6 ?_;refine ⟨by kernel_rfl, ?_⟩
 exact hx8 rfl rfl rfl (CoL.refl _)
end Go.Hx
end
section
namespace Go.Hx
open Go.Proofs
set_option maxRecDepth 100000
theorem acy {T:List AS} {r:AS} (h:¬ r ∈ T):(f8 T r).length = T.length + 1:=by unfold f8;rw [if_neg h,List.length_append];rfl
theorem awc {T:List AS} {r:AS}:(f8 T r).length ≤ T.length + 1:=by
 unfold f8
 split
 · omega
 · rw [List.length_append];exact Nat.le_refl _
theorem acu {s:AS}:∀ {T o:List AS},(jx s o T).length ≤ o.length + T.length
 | [],o=>by simp [jx]
 | r :: T,o=>by
  have h1:=acu (s:=s) (T:=T) (o:=f8 o (r &&& ~~~s))
  have h2:=awc (T:=o) (r:=r &&& ~~~s)
  show (jx s (f8 o (r &&& ~~~s)) T).length ≤ _
  simp only [List.length_cons]
  omega
theorem a6k {s:AS} {T:List AS} {i:Nat} (h:i < T.length):jx s [] (T.take (i + 1)) = f8 (jx s [] (T.take i)) (T.getD i default &&& ~~~s):=by
 unfold jx
 rw [be h,List.foldl_append]
 rfl
theorem a79:goodFn Tryz.prog 186:=⟨Tryz.f186,Tryz.func186,by kernel_rfl,by kernel_rfl⟩
theorem aq6 (T:List AS) (r:AS) (hT:T.length ≤ 8589934592):dg Tryz.prog 186 [.one (.ptr 1000 0), .one (.p (asC r))] [(1000, .box [.ref 1001 T.length]),(1001, .arr true 1 38 T.length (lf sC T))] (.v (.one (.p (.raw (.bool (!decide (r ∈ T))))))) [(1000, .box [.ref 1001 (f8 T r).length]),(1001, .arr true 1 38 (f8 T r).length (lf sC (f8 T r)))] [1000,1001]:=by
 refine eq (nt:=21) ae Tryz.func186 rfl rfl l9 rfl ?_;refine sx7 ?_;refine qy ?_;refine a6 ?_;refine a7 ?_;refine sx7 ?_;(iterate 5 refine qy ?_)
 refine rc rfl rfl rfl rfl rfl rfl a7y (cIn T r) (CoL.refl _) rfl rfl ?_;refine a6 ?_;refine a8 _ rfl (fun r0=>?_) (fun r0=>?_)
 ·
  have h0:=r0
  have hin:r ∈ T:=of_decide_eq_true r0
  refine sx7 ?_;refine qy ?_;refine a6 ?_;refine ap ?_;refine ⟨.inr rfl, ?_⟩
  rw [show f8 T r = T from if_pos hin,decide_eq_true hin]
  exact ⟨_,_,rfl,(by (repeat' apply And.intro) <;> first | trivial | exact Nat.le_of_ble_eq_true rfl),CoR.refl _,⟨u9,u9,trivial⟩⟩
 ·
  have h0:=r0
  have hin:¬ r ∈ T:=of_decide_eq_false r0
  refine aa ?_;refine sx7 ?_;(iterate 6 refine qy ?_);refine m9 0 ?_;refine ra 1 true rfl rfl rfl rfl rfl rfl ?_;(iterate 2 refine qy ?_);refine s9 ?_;refine a6 ?_;refine sx7 ?_;refine qy ?_;refine a6 ?_
  refine ap ?_;refine ⟨.inr rfl, ?_⟩
  exact ⟨_,_,rfl,(by (repeat' apply And.intro) <;> first | trivial | exact Nat.le_of_ble_eq_true rfl),CoR.of_eq (congrArg (fun z=>HR.v (.one (.p (.raw (.bool (!z)))))) (decide_eq_false hin).symm),⟨⟨_,rfl,⟨congrArg (HV.ref 1001) (acy hin).symm,trivial⟩⟩,⟨_,rfl,cw (if_neg hin) (CoP.refl _)⟩,trivial⟩⟩
theorem awm:goodFn Tryz.prog 220:=⟨Tryz.f220,Tryz.func220,by kernel_rfl,by kernel_rfl⟩
theorem b3d (T:List AS) (s:AS) (hT:T.length ≤ 8589934592):dg Tryz.prog 220 [.one (.ptr 1000 0), .one (.p (asC s))] [(1000, .box [.ref 901 T.length]),(901, .arr true 1 38 T.length (lf sC T))] (.tup []) [(1000, .box [.ref 901 (ir T s).length]),(901, .arr true 1 38 (ir T s).length (lf sC (ir T s)))] [1000]:=by
 refine eq (nt:=27) ae Tryz.func220 rfl rfl l9 rfl ?_;refine sx7 ?_;(iterate 5 refine qy ?_);refine a6 ?_;refine sx7 ?_;(iterate 3 refine qy ?_);refine s9 ?_;refine a6 ?_;refine bn 4 rfl rfl rfl ?_
 refine uy ⟨[(0,some _),(1,some _),(4,some _)],[(1000,some _)]⟩ (by exact ⟨⟨c9,c9,c9,trivial⟩,⟨u9,trivial⟩⟩) ?_
 refine np 1000 0 901 true 1 38 (lf sC []) (by decide) rfl rfl (CoP.sl rfl (.inr rfl) (fun h=>h) (fun i j hi _=>absurd hi (Nat.not_lt_zero i))) (.inr rfl) rfl rfl ?_;refine sx7 ?_;refine qy ?_;refine a6 ?_
 refine ab ?_
 refine aj (ι:=Nat) ⟨[(0,some _),(1,some _),(4,some _)],[]⟩ ⟨⟨c9,c9,c9,trivial⟩,trivial⟩ (fun i=>⟨[(5,some (vI i))],[(1000,some (.box [.ref 901 (jx s [] (T.take i)).length])),(901,some (.arr true 1 38 (jx s [] (T.take i)).length (lf sC (jx s [] (T.take i)))))]⟩) (fun i=>i ≤ T.length) (fun i=>T.length - i) (0) (Nat.zero_le _) ⟨⟨⟨_,rfl,(CoR.refl _)⟩,trivial⟩,⟨u9,u9,trivial⟩⟩ ?_
 rintro i hi
 have hel:(jx s [] (T.take i)).length ≤ i:=Nat.le_trans acu (by rw [List.length_take,List.length_nil];omega)
 refine a7 ?_;refine sx7 ?_;(iterate 4 refine qy ?_);refine a6 ?_;refine a8 _ rfl (fun r0=>?_) (fun r0=>?_)
 ·
  have h0:=of_decide_eq_true r0
  try simp only [ty] at h0
  refine aa ?_;refine a7 ?_;refine ab ?_;refine gy ?_;(iterate 7 refine qy ?_)
  refine cn rfl rfl rfl rfl rfl rfl a79 ((aq6 (jx s [] (T.take i)) (T.getD i default &&& ~~~s) (by omega)).swap 1001 901) (⟨sh.refl _,(CoP.of_eq (congrArg (fun z=>PV.raw (.int .u32 z)) (i7 _ _))),trivial⟩) ⟨u9,u9,trivial⟩ rfl rfl ?_
  refine a6 ?_;refine gy ?_;(iterate 3 refine qy ?_);refine a6 ?_;refine ⟨i + 1, ?_, ?_, ?_⟩
  · show i + 1 ≤ _;omega
  · first | omega | (dsimp only;omega)
  · exact ⟨⟨⟨_,rfl,(CoR.refl _)⟩,c9,c9,c9,trivial⟩,⟨⟨_,rfl,(by rw [a6k (by omega)];exact CoO.refl _)⟩,⟨_,rfl,(by rw [a6k (by omega)];exact CoO.refl _)⟩,trivial⟩⟩
 ·
  have h0:=of_decide_eq_false r0
  try simp only [ty] at h0
  obtain rfl:i = T.length:=by omega
  rw [show T.take T.length = T from List.take_length]
  refine ak ?_;refine ⟨.inl rfl, ?_⟩
  exact ⟨_,_,rfl,(by (repeat' apply And.intro) <;> first | trivial | exact Nat.le_of_ble_eq_true rfl),CoR.refl _,⟨u9,u9,trivial⟩⟩
end Go.Hx
end
