/- A part of the proof: Bz6 Ch15 Y4 Y6 Y7 Bz7 Y8 Bz8. -/
import Derived.Test.YtkkenjdfbojdlaaGreatDoorGx17
import Derived.Test.YtkkenjdfbojdlaaGreatDoorGx21
import Derived.Test.YtkkenjdfbojdlaaGreatDoorGx25
import Derived.Test.YtkkenjdfbojdlaaGreatDoorGx28
import Derived.Test.YtkkenjdfbojdlaaGreatDoorGx30
import Derived.Test.YtkkenjdfbojdlaaGreatDoorGx31
import Derived.Test.YtkkenjdfbojdlaaGreatDoorGx32
import Derived.Test.YtkkenjdfbojdlaaGreatDoorGx34
set_option linter.all false
set_option maxRecDepth 100000
set_option maxHeartbeats 1000000
namespace Go.Hx
section
def fdP (d:Fd) (r k:AS):Option AS:=if (r ^^^ k) &&& d.lhs = 0 then (if (r ^^^ k) &&& d.rhs = 0 then none else some ((r ^^^ k) &&& d.rhs)) else none
def fdQ (d:Fd) (T:List AS) (r:AS):Option AS:=T.findSome? (fdP d r)
def fdT (d:Fd) (T:List AS):Option AS:=T.findSome? (fdQ d T)
section
variable {T:List AS} {d:Fd}
theorem akt {s:AS} (h:fdT d T = some s):∃ r ∈ T,∃ k ∈ T,agB d r k = true /\ s = (r ^^^ k) &&& d.rhs /\ s ≠ 0:=by
 unfold fdT at h;obtain ⟨r,hr,h⟩:=bnm h;unfold fdQ at h;obtain ⟨k,hk,h⟩:=bnm h;unfold fdP at h;split at h
 · rename_i h1
   split at h
   · cases h
   rename_i h2;cases h;exact ⟨r,hr,k,hk,decide_eq_true h1,rfl,h2⟩
 cases h
theorem ayk (h:fdT d T = none):∀ r ∈ T,∀ k ∈ T,agB d r k = true -> (r ^^^ k) &&& d.rhs = 0:=by
 intro r hr k hk ha;unfold fdT at h;rw [bmx] at h;have h:=h r hr;unfold fdQ at h;rw [bmx] at h;have h:=h k hk;unfold fdP at h;rw [if_pos (of_decide_eq_true ha)] at h;split at h
 · assumption
 cases h
theorem ah7 {r k:AS} (h:¬ (r ^^^ k) &&& d.lhs = 0):fdP d r k = none:=if_neg h
theorem ah3 {r k:AS} (h:(r ^^^ k) &&& d.lhs = 0) (h2:(r ^^^ k) &&& d.rhs = 0):fdP d r k = none:=by unfold fdP;rw [if_pos h,if_pos h2]
theorem b38 {r k:AS} (h:(r ^^^ k) &&& d.lhs = 0) (h2:¬ (r ^^^ k) &&& d.rhs = 0):fdP d r k = some ((r ^^^ k) &&& d.rhs):=by unfold fdP;rw [if_pos h,if_neg h2]
theorem ww (h:T.Nodup):T.length <= 4294967296:=by
 have h1:(T.map BitVec.toNat).Nodup:=List.Pairwise.map _ (fun a b hab e=>hab (bln e)) h
 have h2:∀ x ∈ T.map BitVec.toNat,x < 4294967296:=by
  intro x hx;obtain ⟨a,_,rfl⟩:=blm.1 hx;exact a.isLt
 have hlen:(T.map BitVec.toNat).length = T.length:=bl7 _;rw [<- hlen]
 have key:∀ (N:Nat) (l:List Nat),l.Nodup -> (∀ x ∈ l,x < N) -> l.length <= N:=by
  intro N
  induction N with
  | zero =>
   intro l _ hl
   cases l with
   | nil=>exact bko _
   | cons a l=>exact absurd (hl a bow) (bkp _)
  | succ N ih =>
   intro l hn hl
   have h3:=ih (l.filter fun x=>!decide (x = N)) (hn.filter _) fun x hx=>by
    rw [bmo] at hx;have:=hl x hx.1;have hx2:¬ x = N:=by simpa using hx.2
    omega
   have h4:l.length <= (l.filter fun x=>!decide (x = N)).length + 1:=by
    have h5:∀ l:List Nat,l.length = (l.filter fun x=>!decide (x = N)).length + l.countP fun x=>decide (x = N):=by
     intro l
     induction l with
     | nil=>rfl
     | cons a l ih =>
      by_cases e:a = N
      · simp [blx,bn8,e,ih];omega
      simp [blx,bn8,e,ih];omega
    have h6:=h5 l
    have h7:(l.countP fun x=>decide (x = N)) <= 1:=by
     have:=hn.count (a:=N)
     have e:(l.countP fun x=>decide (x = N)) = l.count N:=by
      unfold List.count;congr 1
     rw [e]
     first | exact List.nodup_iff_count.1 hn N | (rw [this];split <;> omega)
    omega
   omega
 exact key _ _ h1 h2
theorem yi {i:Nat} (hi:i < 32):(orL T).getLsbD i = T.any fun r=>r.getLsbD i:=by
 unfold orL
 have:∀ (T:List AS) (o:AS),(T.foldl (· ||| ·) o).getLsbD i = (o.getLsbD i || T.any fun r=>r.getLsbD i):=by
  intro T
  induction T with
  | nil=>intro o;simp
  | cons a T ih=>intro o;rw [bmr,ih,bm9,List.any_cons,Bool.or_assoc]
 rw [this];simp
theorem b5x {s:AS}:orL (jx T s) = orL T &&& ~~~s:=by
 apply jh;intro i hi;rw [yi hi,bg hi,yi hi]
 cases hs:s.getLsbD i with
 | true =>
  simp only [bnt,boq];rw [bmh];intro z hz;obtain ⟨r,hr,rfl⟩:=s8.1 hz;rw [bg hi,hs];simp
 | false =>
  simp only [boo,Bool.and_true];rw [bme,bll,bll];constructor
  · rintro ⟨z,hz,hb⟩
    obtain ⟨r,hr,rfl⟩:=s8.1 hz;rw [bg hi,bkt] at hb;exact ⟨r,hr,hb.1⟩
  rintro ⟨r,hr,hb⟩;exact ⟨r &&& ~~~s,s8.2 ⟨r,hr,rfl⟩,by rw [bg hi,hb,hs];rfl⟩
theorem aeb {s:AS} (h:fdT d T = some s):(orL (jx T s)).toNat < (orL T).toNat:=by
 obtain ⟨r,hr,k,hk,_,rfl,hz⟩:=akt h;rw [b5x];refine ze sq fun e=>?_;obtain ⟨i,hi,hb⟩:=a57 hz;have h1:=congrArg (fun z:AS=>z.getLsbD i) e;simp only [bg hi,hb,bnt,boq] at h1;have h1:(orL T).getLsbD i = false:=h1.symm;rw [yi hi,bmh] at h1;rw [bkz,boi,bkt] at hb;have h2:r.getLsbD i = false:=by simpa using h1 r hr
 have h3:k.getLsbD i = false:=by simpa using h1 k hk
 rw [h2,h3] at hb;simp at hb
def qd (d:Fd):Nat -> List AS -> List AS
 | 0,T=>T
 | f + 1,T=>match fdT d T with
  | none=>T
  | some s=>qd d f (jx T s)
def mvS (d:Fd) (T:List AS) (i k:Nat):List AS:=if agB d (T.getD i default) (T.getD k default) = true then ge T (kg d (T.getD i default) (T.getD k default)) else T
def mvI (d:Fd):Nat -> List AS -> Nat -> Nat -> List AS
 | 0,T,_,_=>T
 | f + 1,T,i,k=>if k < T.length then mvI d f (mvS d T i k) i (k + 1) else T
def mvO (d:Fd):Nat -> List AS -> Nat -> List AS
 | 0,T,_=>T
 | f + 1,T,i=>if i < T.length then mvO d f (mvI d 8589934592 T i 0) (i + 1) else T
theorem a1r (d:Fd) (T:List AS) (i k:Nat):T <+: mvS d T i k:=by
 unfold mvS ge;split
 · split
   · exact bnn _
   exact List.prefix_append _ _
 exact bnn _
theorem xz (d:Fd):∀ (f:Nat) (T:List AS) (i k:Nat),T <+: mvI d f T i k
 | 0,T,_,_=>bnn _
 | f + 1,T,i,k=>by
  unfold mvI;split
  · exact (a1r d T i k).trans (xz d f _ i (k + 1))
  exact bnn _
theorem a2g (d:Fd):∀ (f:Nat) (T:List AS) (i:Nat),T <+: mvO d f T i
 | 0,T,_=>bnn _
 | f + 1,T,i=>by
  unfold mvO;split
  · exact (xz d _ T i 0).trans (a2g d f _ (i + 1))
  exact bnn _
variable {A B:List AS}
theorem awn (h:A <+: B) (hl:B.length = A.length):B = A:=by
 obtain ⟨C,rfl⟩:=h;rw [bkq] at hl;rw [List.length_eq_zero_iff.1 (show C.length = 0 by omega),blq]
theorem a8s {C:List AS} (h:A <+: B) (k:B <+: C) (hl:C.length = A.length):B = A:=by
 have h1:=h.length_le;have h2:=k.length_le;exact awn h bos
theorem akw:∀ {f:Nat} {T:List AS} {i k:Nat},T.length < f + k -> (mvI d f T i k).length = T.length -> ∀ j,k <= j -> j < T.length -> agB d (T.getD i default) (T.getD j default) = true -> kg d (T.getD i default) (T.getD j default) ∈ T
 | 0,T,i,k,hf,_,j,hj,hjl,_=>by omega
 | f + 1,T,i,k,hf,hl,j,hj,hjl,ha=>by
  unfold mvI at hl;rw [if_pos bos] at hl;have e:=a8s (a1r d T i k) (xz d f _ i (k + 1)) hl;by_cases hjk:j = k
  · subst hjk
    unfold mvS ge at e;rw [if_pos ha] at e;split at e
    · assumption
    have:=congrArg List.length e;simp at this
  rw [e] at hl;exact akw bos hl j bos hjl ha
theorem ait:∀ {f:Nat} {T:List AS} {i:Nat},T.length <= 4294967296 -> T.length < f + i -> (mvO d f T i).length = T.length -> ∀ a,i <= a -> a < T.length -> ∀ j,j < T.length -> agB d (T.getD a default) (T.getD j default) = true -> kg d (T.getD a default) (T.getD j default) ∈ T
 | 0,T,i,_,hf,_,a,ha,hal,_,_,_=>by omega
 | f + 1,T,i,hT,hf,hl,a,ha,hal,j,hj,hag=>by
  unfold mvO at hl;rw [if_pos bos] at hl;have e:=a8s (xz d 8589934592 T i 0) (a2g d f _ (i + 1)) hl;by_cases hai:a = i
  · subst hai
    exact akw bos (congrArg List.length e) j (bkl _) hj hag
  rw [e] at hl;exact ait hT bos hl a bos hal j hj hag
theorem asw {i k:Nat} (h:T.Nodup):(mvS d T i k).Nodup:=by
 unfold mvS;split
 · exact xm h
 exact h
theorem alo:∀ {f:Nat} {T:List AS} {i k:Nat},T.Nodup -> (mvI d f T i k).Nodup
 | 0,T,_,_,h=>h
 | f + 1,T,i,k,h=>by
  unfold mvI;split
  · exact alo (asw h)
  exact h
theorem aky:∀ {f:Nat} {T:List AS} {i:Nat},T.Nodup -> (mvO d f T i).Nodup
 | 0,T,_,h=>h
 | f + 1,T,i,h=>by
  unfold mvO;split
  · exact aky (alo h)
  exact h
abbrev TC:=List AS × Bool
def FU2:Nat:=8589934592
def fdR (x:TC) (d:Fd):TC:=(qd d FU2 x.1,x.2 || (fdT d x.1).isSome)
def mvR (x:TC) (d:Fd):TC:=(mvO d FU2 x.1 0,x.2 || decide (x.1.length < (mvO d FU2 x.1 0).length))
def nk (fs ms:List Fd) (T:List AS):TC:=ms.foldl mvR (fs.foldl fdR (T,false))
def chF (fs ms:List Fd):Nat -> List AS -> List AS
 | 0,T=>T
 | f + 1,T=>if (nk fs ms T).2 = true then chF fs ms f (nk fs ms T).1 else (nk fs ms T).1
def muT (T:List AS):Nat:=(orL T).toNat * FU2 + (4294967296 - T.length)
theorem a02 {f:Nat} {s:AS} (h:fdT d T = some s):qd d (f + 1) T = qd d f (jx T s):=by
 show (match fdT d T with | none=>T | some s=>qd d f (jx T s)) = _;rw [h]
theorem a0h {f:Nat} (h:fdT d T = none):qd d f T = T:=by
 cases f with
 | zero=>rfl
 | succ f =>
  show (match fdT d T with | none=>T | some s=>qd d f (jx T s)) = _;rw [h]
variable {P:List AS -> Prop}
theorem akm (hP:∀ T s,P T -> fdT d T = some s -> P (jx T s)):∀ (f:Nat) (T:List AS),P T -> P (qd d f T)
 | 0,T,h=>h
 | f + 1,T,h=>by
  cases hq:fdT d T with
  | none=>rw [a0h hq];exact h
  | some s=>rw [a02 hq];exact akm hP f _ (hP T s h hq)
theorem ao2 (hP:∀ T r k,P T -> r ∈ T -> k ∈ T -> agB d r k = true -> P (ge T (kg d r k))):∀ (f:Nat) (T:List AS) (i k:Nat),i < T.length -> P T -> P (mvI d f T i k)
 | 0,T,_,_,_,h=>h
 | f + 1,T,i,k,hi,h=>by
  unfold mvI;split
  · rename_i hk
    refine ao2 hP f _ i (k + 1) (bmu hi (a1r d T i k).length_le) ?_;unfold mvS;split
    · rename_i ha
      exact hP T _ _ h (a08 hi) (a08 hk) ha
    exact h
  exact h
theorem aec (hP:∀ T r k,P T -> r ∈ T -> k ∈ T -> agB d r k = true -> P (ge T (kg d r k))):∀ (f:Nat) (T:List AS) (i:Nat),P T -> P (mvO d f T i)
 | 0,T,_,h=>h
 | f + 1,T,i,h=>by
  unfold mvO;split
  · rename_i hi
    exact aec hP f _ (i + 1) (ao2 hP _ T i 0 hi h)
  exact h
variable {fs:List Fd}
theorem a7r (hP:∀ d ∈ fs,∀ T s,P T -> fdT d T = some s -> P (jx T s)):∀ (ds:List Fd) (x:TC),(∀ d ∈ ds,d ∈ fs) -> P x.1 -> P (ds.foldl fdR x).1
 | [],x,_,h=>h
 | d :: ds,x,hd,h=>a7r hP ds (fdR x d) (fun e he=>hd e (by simp [he])) (akm (hP d (hd d bow)) _ _ h)
variable {ms:List Fd}
theorem ad8 (hP:∀ d ∈ ms,∀ T r k,P T -> r ∈ T -> k ∈ T -> agB d r k = true -> P (ge T (kg d r k))):∀ (ds:List Fd) (x:TC),(∀ d ∈ ds,d ∈ ms) -> P x.1 -> P (ds.foldl mvR x).1
 | [],x,_,h=>h
 | d :: ds,x,hd,h=>ad8 hP ds (mvR x d) (fun e he=>hd e (by simp [he])) (aec (hP d (hd d bow)) _ _ _ h)
theorem a7f (h1:∀ d ∈ fs,∀ T s,P T -> fdT d T = some s -> P (jx T s)) (h2:∀ d ∈ ms,∀ T r k,P T -> r ∈ T -> k ∈ T -> agB d r k = true -> P (ge T (kg d r k))) (h:P T):P (nk fs ms T).1 :=
 ad8 h2 ms _ (fun _ h=>h) (a7r h1 fs (T,false) (fun _ h=>h) h)
theorem axp (h1:∀ d ∈ fs,∀ T s,P T -> fdT d T = some s -> P (jx T s)) (h2:∀ d ∈ ms,∀ T r k,P T -> r ∈ T -> k ∈ T -> agB d r k = true -> P (ge T (kg d r k))):∀ (f:Nat) (T:List AS),P T -> P (chF fs ms f T)
 | 0,T,h=>h
 | f + 1,T,h=>by
  unfold chF;split
  · exact axp h1 h2 f _ (a7f h1 h2 h)
  exact a7f h1 h2 h
theorem aha:∀ d ∈ fs,∀ (T:List AS) (s:AS),T.Nodup -> fdT d T = some s -> (jx T s).Nodup:=fun _ _ T s _ _=>ac0 T s
theorem as5:∀ d ∈ ms,∀ (T:List AS) (r k:AS),T.Nodup -> r ∈ T -> k ∈ T -> agB d r k = true -> (ge T (kg d r k)).Nodup:=fun _ _ _ _ _ h _ _ _=>xm h
theorem am2:∀ (ds:List Fd) (x:TC),x.2 = true -> (ds.foldl fdR x).2 = true
 | [],x,h=>h
 | d :: ds,x,h=>am2 ds (fdR x d) (by unfold fdR;simp [h])
theorem aa3:∀ (ds:List Fd) (x:TC),x.2 = true -> (ds.foldl mvR x).2 = true
 | [],x,h=>h
 | d :: ds,x,h=>aa3 ds (mvR x d) (by unfold mvR;simp [h])
theorem akb:∀ {ds:List Fd} {x:TC},(ds.foldl fdR x).2 = false -> ds.foldl fdR x = x /\ ∀ d ∈ ds,fdT d x.1 = none
 | [],x,h=>⟨rfl,fun _ h=>by cases h⟩
 | d :: ds,x,h=>by
  have hx2:(fdR x d).2 = false:=by
   cases hq:(fdR x d).2 with
   | false=>rfl
   | true=>rw [bmr,am2 ds _ hq] at h;cases h
  have hd:x.2 = false /\ fdT d x.1 = none:=by
   unfold fdR at hx2;rw [bnq] at hx2;exact ⟨hx2.1,by cases hq:fdT d x.1 with | none=>rfl | some s=>rw [hq] at hx2;cases hx2.2⟩
  have e:fdR x d = x:=by
   unfold fdR;rw [a0h hd.2,hd.2];simp
  rw [bmr,e] at h;obtain ⟨q1,q2⟩:=akb h;refine ⟨by rw [bmr,e];exact q1,fun k hk=>?_⟩
  rcases bkx.1 hk with rfl | hk
  · exact hd.2
  exact q2 k hk
theorem aje:∀ {ds:List Fd} {x:TC},x.1.Nodup -> (ds.foldl mvR x).2 = false -> ds.foldl mvR x = x /\ ∀ d ∈ ds,∀ r ∈ x.1,∀ k ∈ x.1,agB d r k = true -> kg d r k ∈ x.1
 | [],x,_,h=>⟨rfl,fun _ h=>by cases h⟩
 | d :: ds,x,hn,h=>by
  have hx2:(mvR x d).2 = false:=by
   cases hq:(mvR x d).2 with
   | false=>rfl
   | true=>rw [bmr,aa3 ds _ hq] at h;cases h
  have hfew:=ww hn
  have hd:x.2 = false /\ (mvO d FU2 x.1 0).length = x.1.length:=by
   unfold mvR at hx2;rw [bnq] at hx2;refine ⟨hx2.1, ?_⟩;have h1:=of_decide_eq_false hx2.2;have h2:=(a2g d FU2 x.1 0).length_le;omega
  have e0:mvO d FU2 x.1 0 = x.1:=awn (a2g d FU2 x.1 0) hd.2
  have e:mvR x d = x:=by
   unfold mvR;rw [e0];simp
  rw [bmr,e] at h;obtain ⟨q1,q2⟩:=aje hn h;refine ⟨by rw [bmr,e];exact q1,fun k hk=>?_⟩
  rcases bkx.1 hk with rfl | hk
  · intro r hr q hq ha
    obtain ⟨i,hi,rfl⟩:=bo3.1 hr;obtain ⟨j,hj,rfl⟩:=bo3.1 hq;have g:=ait (d:=k) (f:=FU2) (T:=x.1) (i:=0) hfew (by show _ < 8589934592 + 0;omega) hd.2 i (bkl _) hi j hj;have ei:x.1.getD i default = x.1[i]:=by rw [bkk,bkj hi];rfl
    have ej:x.1.getD j default = x.1[j]:=by rw [bkk,bkj hj];rfl
    rw [ei,ej] at g;exact g ha
  exact q2 k hk
theorem b1w (hn:T.Nodup) (h:(nk fs ms T).2 = false):(nk fs ms T).1 = T /\ ah9 fs ms T:=by
 unfold nk at h ⊢
 have h0:(fs.foldl fdR (T,false)).2 = false:=by
  cases hq:(fs.foldl fdR (T,false)).2 with
  | false=>rfl
  | true=>rw [aa3 ms _ hq] at h;cases h
 obtain ⟨e1,c1⟩:=akb h0;rw [e1] at h ⊢;obtain ⟨e2,c2⟩:=aje (x:=(T,false)) hn h;rw [e2];exact ⟨rfl,fun d hd=>ayk (c1 d hd),fun d hd r hr k hk ha=>c2 d hd r hr k hk ha⟩
theorem asx (h:(orL B).toNat < (orL A).toNat):muT B < muT A:=by
 unfold muT;have h1:((orL B).toNat + 1) * FU2 <= (orL A).toNat * FU2:=bl1 _ h;rw [blu] at h1;have:FU2 = 8589934592:=rfl;omega
theorem b5v (hp:A <+: B) (ho:(orL B).toNat = (orL A).toNat) (hB:B.length <= 4294967296):muT B <= muT A /\ (A.length < B.length -> muT B < muT A):=by
 unfold muT;rw [ho];have:=hp.length_le;omega
theorem b4x {r k:AS} (hr:r ∈ T) (hk:k ∈ T):orL (ge T (kg d r k)) = orL T:=by
 apply jh;intro i hi;rw [yi hi,yi hi,bme,bll,bll];constructor
 · rintro ⟨z,hz,hb⟩
   rcases og.1 hz with hz | rfl
   · exact ⟨z,hz,hb⟩
   rw [um hi] at hb;split at hb
   · exact ⟨r,hr,hb⟩
   exact ⟨k,hk,hb⟩
 rintro ⟨z,hz,hb⟩;exact ⟨z,og.2 (.inl hz),hb⟩
theorem ba1 {f:Nat} {i:Nat}:orL (mvO d f T i) = orL T :=
 aec (P:=fun X=>orL X = orL T) (fun X r k h hr hk _=>(b4x hr hk).trans h) f T i rfl
theorem aod {T0:List AS} (f:Nat):∀ (T:List AS),muT T <= muT T0 -> muT (qd d f T) <= muT T0:=by
 induction f with
 | zero=>intro T h;exact h
 | succ f ih =>
  intro T h
  cases hq:fdT d T with
  | none=>rw [a0h hq];exact h
  | some s =>
   rw [a02 hq];have h1:=asx (aeb hq);exact ih _ bos
theorem be3 (x:TC) (d:Fd):muT (fdR x d).1 <= muT x.1 /\ (x.2 = false -> (fdR x d).2 = true -> muT (fdR x d).1 < muT x.1):=by
 refine ⟨aod _ _ (bko _),fun h1 h2=>?_⟩;unfold fdR at h2 ⊢;rw [h1,Bool.false_or,Option.isSome_iff_exists] at h2;obtain ⟨s,hs⟩:=h2;show muT (qd d FU2 x.1) < _;rw [show FU2 = 8589934591 + 1 from rfl,a02 hs];exact bny (aod _ _ (bko _)) (asx (aeb hs))
theorem ben {x:TC} (hn:x.1.Nodup) (d:Fd):muT (mvR x d).1 <= muT x.1 /\ (x.2 = false -> (mvR x d).2 = true -> muT (mvR x d).1 < muT x.1):=by
 have h:=b5v (a2g d FU2 x.1 0) (congrArg BitVec.toNat ba1) (ww (aky hn));refine ⟨h.1,fun h1 h2=>h.2 ?_⟩;unfold mvR at h2;rw [h1,Bool.false_or] at h2;exact of_decide_eq_true h2
theorem anz:∀ (ds:List Fd) (x:TC),muT (ds.foldl fdR x).1 <= muT x.1 /\ (x.2 = false -> (ds.foldl fdR x).2 = true -> muT (ds.foldl fdR x).1 < muT x.1)
 | [],x=>⟨bko _,fun h k=>by simp only [List.foldl_nil] at k;rw [h] at k;cases k⟩
 | d :: ds,x=>by
  obtain ⟨a1,a2⟩:=be3 x d;obtain ⟨b1,b2⟩:=anz ds (fdR x d);refine ⟨bky b1 a1,fun h k=>?_⟩
  cases hq:(fdR x d).2 with
  | true=>exact bny b1 (a2 h hq)
  | false=>exact bmu (b2 hq k) a1
theorem ao7:∀ (ds:List Fd) (x:TC),x.1.Nodup -> muT (ds.foldl mvR x).1 <= muT x.1 /\ (x.2 = false -> (ds.foldl mvR x).2 = true -> muT (ds.foldl mvR x).1 < muT x.1)
 | [],x,_=>⟨bko _,fun h k=>by simp only [List.foldl_nil] at k;rw [h] at k;cases k⟩
 | d :: ds,x,hn=>by
  obtain ⟨a1,a2⟩:=ben hn d;obtain ⟨b1,b2⟩:=ao7 ds (mvR x d) (aky hn);refine ⟨bky b1 a1,fun h k=>?_⟩
  cases hq:(mvR x d).2 with
  | true=>exact bny b1 (a2 h hq)
  | false=>exact bmu (b2 hq k) a1
theorem avh (hn:T.Nodup) (h:(nk fs ms T).2 = true):muT (nk fs ms T).1 < muT T:=by
 unfold nk at h ⊢;obtain ⟨a1,a2⟩:=anz fs (T,false);have hn2:(fs.foldl fdR (T,false)).1.Nodup:=a7r aha fs (T,false) (fun _ h=>h) hn;obtain ⟨b1,b2⟩:=ao7 ms (fs.foldl fdR (T,false)) hn2
 cases hq:(fs.foldl fdR (T,false)).2 with
 | true=>exact bny b1 (a2 rfl hq)
 | false=>exact bmu (b2 hq h) a1
theorem b8y (f:Nat):∀ {T:List AS},T.Nodup -> muT T < f -> ah9 fs ms (chF fs ms f T):=by
 induction f with
 | zero=>intro T _ h;omega
 | succ f ih =>
  intro T hn h;unfold chF;split
  · rename_i hc
    have h1:=avh hn hc;exact ih (a7f aha as5 hn) bos
  rename_i hc;rw [bo6] at hc;obtain ⟨e,c⟩:=b1w hn hc;rw [e];exact c
def MU:Nat:=73786976294838206464
theorem avc (T:List AS):muT T < MU:=by
 unfold muT;have h:=(orL T).isLt;have h1:((orL T).toNat + 1) * FU2 <= 4294967296 * FU2:=bl1 _ h;rw [blu] at h1;have e:FU2 = 8589934592:=rfl;have e2:MU = 73786976294838206464:=rfl;omega
def aai (rest:AS):List AS:=ge [0] rest
def chT (fs ms:List Fd) (rest:AS):List AS:=chF fs ms MU (aai rest)
theorem b2j (rest:AS):(aai rest).Nodup:=xm bow
theorem aik {rest:AS}:aze fs ms (blks (fm fs ms) rest) rest (chT fs ms rest):=by
 obtain ⟨hb,hs⟩:=xv (fm fs ms) rest;refine ⟨axp (P:=JT fs (blks (fm fs ms) rest) rest) (fun d hd T s hT hq=>?_) (fun d hd T r k hT hr hk ha=>?_) MU (aai rest) ?_,b8y MU (b2j rest) (avc _)⟩
 · obtain ⟨r,hr,k,hk,ha,rfl,_⟩:=akt hq
   exact hT.equ hb hs hd hr hk ha
 · exact hT.mix (hs d (a0f.2 (.inl hd))) hr hk ha
 have hm:∀ z,z ∈ aai rest <-> z = 0 \/ z = rest:=fun z=>by unfold aai;rw [og];simp
 refine ⟨(hm 0).2 (.inl rfl),fun r hr=>?_,rest,(hm rest).2 (.inr rfl),fun r hr=>?_,fun a ha h1 h2=>by rw [h1] at h2;cases h2⟩
 · rcases (hm r).1 hr with rfl | rfl
   · exact ⟨ai.2 fun i hi h=>by simp at h,fun b hb'=>.inl bow⟩
   exact ⟨io _,fun b hb'=>.inr (hb.sub hb')⟩
 rcases (hm r).1 hr with rfl | rfl
 · exact ai.2 fun i hi h=>by simp at h
 exact io _
theorem akh {rest:AS}:orL (chT fs ms rest) ∈ chT fs ms rest /\ ∀ r ∈ chT fs ms rest,sub r (orL (chT fs ms rest)):=by
 have h:=(aik (fs:=fs) (ms:=ms) (rest:=rest)).j;obtain ⟨L,h1,h2,h3⟩:=h.top;have e:orL (chT fs ms rest) = L:=ec (bbm h2) (anj h1);rw [e];exact ⟨h1,h2⟩
end
end
section
open Go.Proofs
def sT:List Rw:=[[0,1,5],[0,7,2]]
def fdX:List Fd:=[⟨1,2⟩]
end
section
open Go.Proofs
theorem atr:goodFn Tryz.prog 30:=wgx Tryz.func30
theorem bi8 (a b:List AS):a7 Tryz.prog 30 [pP (asl a),pP (asl b)] (ae [pB (decide (a = b))]):=by
 refine hpx (nt:=26) Tryz.func30 ?_;refine w_6 ?_;refine cb 0 rfl fun hn0=>?_;refine cb 1 rfl fun hn1=>?_;refine w_7 ?_;refine hcn (fun h0=>?_) (fun h0=>?_)
 · refine w_4 ?_;exact hx8 rfl rfl rfl (⟨ccb (decide_eq_false fun e=>by subst e;omega).symm,trivial⟩)
 refine w_9 ?_;refine a6 (ι:=Nat) ⟨[(0,some _),(1,some _),(12,some _)],[]⟩ ⟨⟨c9,c9,c9,trivial⟩,trivial⟩ (fun i=>⟨[(13,some (vI i))],[]⟩) (fun i=>i <= a.length /\ ∀ j,j < i -> a.getD j default = b.getD j default) (fun i=>a.length - i) (0) (⟨bkl _,fun j hj=>absurd hj (bkp j)⟩) ⟨⟨⟨_,rfl,(CoR.refl _)⟩,trivial⟩,trivial⟩ ?_;rintro i ⟨hi,hI⟩;refine w_5 ?_;refine hcd (fun h1=>?_) (fun h1=>?_)
 ·
  refine a69 ?_;refine hcn (fun h2=>?_) (fun h2=>?_)
  · refine w_4 ?_;exact hx8 rfl rfl rfl (⟨ccb (decide_eq_false fun e=>by subst e;exact absurd rfl (by assumption:¬ asI _ = asI _)).symm,trivial⟩)
  refine w_5 ?_;refine lpz (i + 1) ⟨⟨⟨_,rfl,(CoR.refl _)⟩,c9,c9,c9,trivial⟩,trivial⟩ ?_;refine ⟨by omega,fun j hj=>?_⟩;by_cases e:j = i
  · subst e;exact cg.1 bot
  exact hI j bos
 obtain rfl:i = a.length:=by omega
 refine w_5 ?_;exact hx8 rfl rfl rfl (⟨ccb (decide_eq_true (bd5 bos hI)).symm,trivial⟩)
end
section
open Go.Proofs
theorem aj9 {T:List AS} {r:AS} (h:¬ r ∈ T):(ge T r).length = T.length + 1:=by unfold ge;rw [if_neg h,bkq];rfl
theorem b74 {T:List AS} {r:AS}:(ge T r).length <= T.length + 1:=by
 unfold ge;split
 · omega
 rw [bkq];exact bko _
theorem ais {s:AS}:∀ {T o:List AS},(mi s o T).length <= o.length + T.length
 | [],o=>by simp [mi]
 | r :: T,o=>by
  have h1:=ais (s:=s) (T:=T) (o:=ge o (r &&& ~~~s));have h2:=b74 (T:=o) (r:=r &&& ~~~s);show (mi s (ge o (r &&& ~~~s)) T).length <= _;simp only [blf];omega
theorem aca {s:AS} {T:List AS} {i:Nat} (h:i < T.length):mi s [] (T.take (i + 1)) = ge (mi s [] (T.take i)) (T.getD i default &&& ~~~s):=by
 unfold mi;rw [ay h,bm0];rfl
theorem adr:goodFn Tryz.prog 239:=wgx Tryz.func239
theorem azs (T:List AS) (r:AS) (hT:T.length <= 8589934592):da Tryz.prog 239 [.one (.ptr 1000 0), .one (.p (asC r))] [(1000, .box [.ref 1001 T.length]),(1001, .arr true 1 46 T.length (lf sC T))] (.v (.one (.p (.raw (.bool (!decide (r ∈ T))))))) [(1000, .box [.ref 1001 (ge T r).length]),(1001, .arr true 1 46 (ge T r).length (lf sC (ge T r)))] [1000,1001]:=by
 refine hfx (nt:=21) Tryz.func239 ?_;refine ef ?_;refine qcx ae2 (cIn T r) ?_;refine aq ?_;refine a8 _ rfl (fun r0=>?_) (fun r0=>?_)
 · have h0:=r0;have hin:r ∈ T:=a1b r0;refine w_5 ?_;refine ⟨.inr rfl, ?_⟩;rw [show ge T r = T from if_pos hin,decide_eq_true hin];exact ⟨_,_,rfl,bou,CoR.refl _,⟨u9,u9,trivial⟩⟩
 have h0:=r0;have hin:¬ r ∈ T:=a3w r0;refine w_9 ?_;refine m9 0 ?_;refine r9 1 true ?_;refine w_9 ?_;refine ⟨.inr rfl, ?_⟩;exact ⟨_,_,rfl,bou,CoR.of_eq (congrArg (fun z=>HR.v (.one (.p (.raw (.bool (!z)))))) (decide_eq_false hin).symm),⟨⟨_,rfl,⟨congrArg (HV.ref 1001) (aj9 hin).symm,trivial⟩⟩,⟨_,rfl,bz (if_neg hin) (CoP.refl _)⟩,trivial⟩⟩
theorem b7m:goodFn Tryz.prog 255:=wgx Tryz.func255
theorem bhy (T:List AS) (s:AS) (hT:T.length <= 8589934592):da Tryz.prog 255 [.one (.ptr 1000 0), .one (.p (asC s))] [(1000, .box [.ref 901 T.length]),(901, .arr true 1 46 T.length (lf sC T))] (.tup []) [(1000, .box [.ref 901 (jx T s).length]),(901, .arr true 1 46 (jx T s).length (lf sC (jx T s)))] [1000]:=by
 refine hfx (nt:=27) Tryz.func255 ?_;refine ku ?_;refine av 4 rfl rfl rfl ?_;refine yg ⟨[(0,some _),(1,some _),(4,some _)],[(1000,some _)]⟩ (by exact ⟨⟨c9,c9,c9,trivial⟩,⟨u9,trivial⟩⟩) ?_;refine qw 1000 0 901 true 1 46 (lf sC []) boz rfl rfl (CoP.sl rfl (.inr rfl) (fun h=>h) (fun i j hi _=>absurd hi (bkp i))) (.inr rfl) rfl rfl ?_;refine w_5 ?_;refine a6 (ι:=Nat) ⟨[(0,some _),(1,some _),(4,some _)],[]⟩ ⟨⟨c9,c9,c9,trivial⟩,trivial⟩ (fun i=>⟨[(5,some (vI i))],[(1000,some (.box [.ref 901 (mi s [] (T.take i)).length])),(901,some (.arr true 1 46 (mi s [] (T.take i)).length (lf sC (mi s [] (T.take i)))))]⟩) (fun i=>i <= T.length) (fun i=>T.length - i) (0) (bkl _) ⟨⟨⟨_,rfl,(CoR.refl _)⟩,trivial⟩,⟨u9,u9,trivial⟩⟩ ?_;rintro i hi;have hel:(mi s [] (T.take i)).length <= i:=bky ais (by rw [bku,bms];omega);refine w_8 ?_;refine hcd (fun h0=>?_) (fun h0=>?_)
 · refine cu ?_;refine gi rfl rfl rfl rfl rfl rfl adr ((azs (mi s [] (T.take i)) (T.getD i default &&& ~~~s) bos).swap 1001 901) (⟨uk.refl _,(CoP.of_eq (congrArg (fun z=>PV.raw (.int .u32 z)) (go _ _))),trivial⟩) ⟨u9,u9,trivial⟩ rfl rfl ?_;refine w_6 ?_;exact lpx (i + 1) ⟨⟨⟨_,rfl,(CoR.refl _)⟩,c9,c9,c9,trivial⟩,⟨⟨_,rfl,(by rw [aca bos];exact CoO.refl _)⟩,⟨_,rfl,(by rw [aca bos];exact CoO.refl _)⟩,trivial⟩⟩
 obtain rfl:i = T.length:=by omega
 rw [show T.take T.length = T from bks];refine dp ?_;refine ⟨.inl rfl, ?_⟩;exact ⟨_,_,rfl,bou,CoR.refl _,⟨u9,u9,trivial⟩⟩
end
section
open Go.Proofs
theorem ann:goodFn Tryz.prog 240:=wgx Tryz.func240
theorem bi6 (T:List AS) (d:Fd) (s:AS) (hq:fdT d T = some s) (hT:T.length <= 8589934592):da Tryz.prog 240 [.one (.ptr 1000 0),d.pc.toH] [(1000, .box [.ref 901 T.length]),(901, .arr true 1 46 T.length (lf sC T))] (.v (.one (.p (.raw (.bool true))))) [(1000, .box [.ref 901 (jx T s).length]),(901, .arr true 1 46 (jx T s).length (lf sC (jx T s)))] [1000]:=by
 refine hfx (nt:=59) Tryz.func240 ?_;refine sx7 ?_;refine m9 0 ?_;refine w_8 ?_;refine a6 (ι:=Nat) ⟨[(0,some _),(3,some _)],[(1000,some _),(901,some _),(0,some _)]⟩ ⟨⟨c9,c9,trivial⟩,⟨u9,u9,u9,trivial⟩⟩ (fun i=>⟨[(5,some (vI i))],[]⟩) (fun i=>i <= T.length /\ (T.take i).findSome? (fdQ d T) = none) (fun i=>T.length - i) (0) (⟨bkl _,rfl⟩) ⟨⟨⟨_,rfl,(CoR.refl _)⟩,trivial⟩,trivial⟩ ?_;rintro i ⟨hi,hI⟩;refine cu ?_;refine hcd (fun h0=>?_) (fun h0=>?_)
 ·
  have hil:i < T.length:=by omega
  refine w_8 ?_;refine a6 (ι:=Nat) ⟨[(0,some _),(3,some _),(5,some _)],[(1000,some _),(901,some _),(0,some _)]⟩ ⟨⟨c9,c9,c9,trivial⟩,⟨u9,u9,u9,trivial⟩⟩ (fun k=>⟨[(6,some (vI k))],[]⟩) (fun k=>k <= T.length /\ (T.take k).findSome? (fdP d (T.getD i default)) = none) (fun k=>T.length - k) (0) (⟨bkl _,rfl⟩) ⟨⟨⟨_,rfl,(CoR.refl _)⟩,trivial⟩,trivial⟩ ?_;rintro k ⟨hk,hK⟩;refine cu ?_;refine hcd (fun h1=>?_) (fun h1=>?_)
  ·
   have hkl:k < T.length:=by omega
   refine a42 ?_;refine rq (out:=⟨_, .v (.one (.p (asC ((T.getD i default) ^^^ (T.getD k default)))))⟩) rfl rfl rfl (congrArg (fun z=>some (Out.mk _ (HR.v (HC.one (HV.p (.raw (.int .u32 z))))))) (aqs _ _)) rfl ?_;refine cu ?_;refine am rfl rfl (fun r2=>?_) (fun r2=>?_)
   ·
    have h2:=tz1 r2;have g1:((T.getD i default) ^^^ (T.getD k default)) &&& d.lhs = 0:=u7 h2;(iterate 5 refine qy ?_ (hg:=(gtt r2)));refine w_2 ?_;refine a8 _ rfl (fun r3=>?_) (fun r3=>?_)
    · have h3:=tz2 (d6 (bp r2 r3));have g2:¬ ((T.getD i default) ^^^ (T.getD k default)) &&& d.rhs = 0:=ou h3;have hq2:fdT d T = some (((T.getD i default) ^^^ (T.getD k default)) &&& d.rhs):=tc hil hI (show fdQ d T (T.getD i default) = _ from tc hkl hK (b38 g1 g2));rw [hq] at hq2;obtain rfl:=Option.some.inj hq2;refine cq ?_;refine yg ⟨[(0,some _),(3,some _),(7,some _)],[(1000,some _),(901,some _),(0,some _)]⟩ (by exact ⟨⟨c9,c9,c9,trivial⟩,⟨u9,u9,u9,trivial⟩⟩) ?_;refine w_6 ?_;refine gi rfl rfl rfl rfl rfl rfl b7m (bhy T (((T.getD i default) ^^^ (T.getD k default)) &&& d.rhs) hT) (⟨uk.refl _,(CoP.of_eq (congrArg (fun z=>PV.raw (.int .u32 z)) (fj _ _))),trivial⟩) ⟨u9,u9,trivial⟩ rfl rfl ?_;refine w_6 ?_;refine ⟨.inr rfl, ?_⟩;exact ⟨_,_,rfl,bou,CoR.refl _,⟨u9,u9,trivial⟩⟩
    have h3:=tz1 (d5 (bp r2 r3));have g2:((T.getD i default) ^^^ (T.getD k default)) &&& d.rhs = 0:=u7 h3;refine w_6 ?_;refine lpz (k + 1) ⟨⟨⟨_,rfl,(CoR.refl _)⟩,c9,c9,c9,trivial⟩,⟨u9,u9,u9,trivial⟩⟩ ?_;exact ⟨by omega,(jl hkl hK).trans (by first | exact ah7 g1 | exact ah3 g1 g2)⟩
   have h2:=tz2 r2;have g1:¬ ((T.getD i default) ^^^ (T.getD k default)) &&& d.lhs = 0:=ou h2;(iterate 5 refine k9 (gft r2) ?_);refine rq rfl rfl rfl rfl rfl ?_ (hp:=r2);refine aq ?_;refine a8 _ rfl (fun e=>by cases e) (fun _=>?_);refine w_6 ?_
   refine lpz (k + 1) ⟨⟨⟨_,rfl,(CoR.refl _)⟩,c9,c9,c9,trivial⟩,⟨u9,u9,u9,trivial⟩⟩ ?_;exact ⟨by omega,(jl hkl hK).trans (by first | exact ah7 g1 | exact ah3 g1 g2)⟩
  obtain rfl:k = T.length:=by omega
  rw [show T.take T.length = T from bks] at hK;refine w_6 ?_;refine lpz (i + 1) ⟨⟨⟨_,rfl,(CoR.refl _)⟩,c9,c9,trivial⟩,⟨u9,u9,u9,trivial⟩⟩ ?_;exact ⟨by omega,(jl hil hI).trans hK⟩
 obtain rfl:i = T.length:=by omega
 rw [show T.take T.length = T from bks] at hI;refine w_6 ?_;refine ⟨.inr rfl, ?_⟩;exact absurd (hq.symm.trans (show fdT d T = none from hI)) (fun e=>by cases e)
theorem bi5 (T:List AS) (d:Fd) (hq:fdT d T = none) (hT:T.length <= 8589934592):da Tryz.prog 240 [.one (.ptr 1000 0),d.pc.toH] [(1000, .box [.ref 901 T.length]),(901, .arr true 1 46 T.length (lf sC T))] (.v (.one (.p (.raw (.bool false))))) [(1000, .box [.ref 901 T.length]),(901, .arr true 1 46 T.length (lf sC T))] [1000]:=by
 refine hfx (nt:=59) Tryz.func240 ?_;refine sx7 ?_;refine m9 0 ?_;refine w_8 ?_;refine a6 (ι:=Nat) ⟨[(0,some _),(3,some _)],[(1000,some _),(901,some _),(0,some _)]⟩ ⟨⟨c9,c9,trivial⟩,⟨u9,u9,u9,trivial⟩⟩ (fun i=>⟨[(5,some (vI i))],[]⟩) (fun i=>i <= T.length /\ (T.take i).findSome? (fdQ d T) = none) (fun i=>T.length - i) (0) (⟨bkl _,rfl⟩) ⟨⟨⟨_,rfl,(CoR.refl _)⟩,trivial⟩,trivial⟩ ?_;rintro i ⟨hi,hI⟩;refine cu ?_;refine hcd (fun h0=>?_) (fun h0=>?_)
 ·
  have hil:i < T.length:=by omega
  refine w_8 ?_;refine a6 (ι:=Nat) ⟨[(0,some _),(3,some _),(5,some _)],[(1000,some _),(901,some _),(0,some _)]⟩ ⟨⟨c9,c9,c9,trivial⟩,⟨u9,u9,u9,trivial⟩⟩ (fun k=>⟨[(6,some (vI k))],[]⟩) (fun k=>k <= T.length /\ (T.take k).findSome? (fdP d (T.getD i default)) = none) (fun k=>T.length - k) (0) (⟨bkl _,rfl⟩) ⟨⟨⟨_,rfl,(CoR.refl _)⟩,trivial⟩,trivial⟩ ?_;rintro k ⟨hk,hK⟩;refine cu ?_;refine hcd (fun h1=>?_) (fun h1=>?_)
  ·
   have hkl:k < T.length:=by omega
   refine a42 ?_;refine rq (out:=⟨_, .v (.one (.p (asC ((T.getD i default) ^^^ (T.getD k default)))))⟩) rfl rfl rfl (congrArg (fun z=>some (Out.mk _ (HR.v (HC.one (HV.p (.raw (.int .u32 z))))))) (aqs _ _)) rfl ?_;refine cu ?_;refine am rfl rfl (fun r2=>?_) (fun r2=>?_)
   ·
    have h2:=tz1 r2;have g1:((T.getD i default) ^^^ (T.getD k default)) &&& d.lhs = 0:=u7 h2;(iterate 5 refine qy ?_ (hg:=(gtt r2)));refine w_2 ?_;refine a8 _ rfl (fun r3=>?_) (fun r3=>?_)
    · have h3:=tz2 (d6 (bp r2 r3));have g2:¬ ((T.getD i default) ^^^ (T.getD k default)) &&& d.rhs = 0:=ou h3;have hq2:fdT d T = some (((T.getD i default) ^^^ (T.getD k default)) &&& d.rhs):=tc hil hI (show fdQ d T (T.getD i default) = _ from tc hkl hK (b38 g1 g2));exact absurd (hq.symm.trans hq2) (fun e=>by cases e)
    have h3:=tz1 (d5 (bp r2 r3));have g2:((T.getD i default) ^^^ (T.getD k default)) &&& d.rhs = 0:=u7 h3;refine w_6 ?_;refine lpz (k + 1) ⟨⟨⟨_,rfl,(CoR.refl _)⟩,c9,c9,c9,trivial⟩,⟨u9,u9,u9,trivial⟩⟩ ?_;exact ⟨by omega,(jl hkl hK).trans (by first | exact ah7 g1 | exact ah3 g1 g2)⟩
   have h2:=tz2 r2;have g1:¬ ((T.getD i default) ^^^ (T.getD k default)) &&& d.lhs = 0:=ou h2;(iterate 5 refine k9 (gft r2) ?_);refine rq rfl rfl rfl rfl rfl ?_ (hp:=r2);refine aq ?_;refine a8 _ rfl (fun e=>by cases e) (fun _=>?_);refine w_6 ?_
   refine lpz (k + 1) ⟨⟨⟨_,rfl,(CoR.refl _)⟩,c9,c9,c9,trivial⟩,⟨u9,u9,u9,trivial⟩⟩ ?_;exact ⟨by omega,(jl hkl hK).trans (by first | exact ah7 g1 | exact ah3 g1 g2)⟩
  obtain rfl:k = T.length:=by omega
  rw [show T.take T.length = T from bks] at hK;refine w_6 ?_;refine lpz (i + 1) ⟨⟨⟨_,rfl,(CoR.refl _)⟩,c9,c9,trivial⟩,⟨u9,u9,u9,trivial⟩⟩ ?_;exact ⟨by omega,(jl hil hI).trans hK⟩
 obtain rfl:i = T.length:=by omega
 rw [show T.take T.length = T from bks] at hI;refine w_6 ?_;refine ⟨.inr rfl, ?_⟩;exact ⟨_,_,rfl,bou,CoR.refl _,⟨u9,u9,trivial⟩⟩
end
section
structure MvO (d:Fd) (T0:List AS) (x:Nat × List AS × Nat):Prop where
 nd:x.2.1.Nodup
 pre:T0 <+: x.2.1
 res:mvO d x.1 x.2.1 x.2.2 = mvO d FU2 T0 0
 le:x.2.2 <= x.2.1.length
 fuel:4294967296 < x.1 + x.2.2
structure MvI (d:Fd) (T:List AS) (i:Nat) (x:Nat × List AS × Nat):Prop where
 nd:x.2.1.Nodup
 pre:T <+: x.2.1
 res:mvI d x.1 x.2.1 i x.2.2 = mvI d 8589934592 T i 0
 le:x.2.2 <= x.2.1.length
 fuel:4294967296 < x.1 + x.2.2
section
variable {d:Fd} {T0 T:List AS} {i f k:Nat}
theorem MvO.start (h:T.Nodup):MvO d T (FU2,T,0):=⟨h,bnn _,rfl,bkl _,by show 4294967296 < 8589934592 + 0;omega⟩
theorem MvI.start (h:T.Nodup):MvI d T i (8589934592,T,0):=⟨h,bnn _,rfl,bkl _,by show 4294967296 < 8589934592 + 0;omega⟩
theorem MvO.pos (h:MvO d T0 (f,T,i)):0 < f /\ T.length <= 4294967296:=by
 have h1:=ww h.nd;have h2:=h.le;have h3:=h.fuel;dsimp only at h1 h2 h3;omega
section
variable {U:List AS}
theorem MvI.pos (h:MvI d T i (f,U,k)):0 < f /\ U.length <= 4294967296:=by
 have h1:=ww h.nd;have h2:=h.le;have h3:=h.fuel;dsimp only at h1 h2 h3;omega
theorem MvO.done (h:MvO d T0 (f,T,i)) (hi:¬ i < T.length):T = mvO d FU2 T0 0:=by
 have hp:=h.pos.1;have hr:mvO d f T i = mvO d FU2 T0 0:=h.res;obtain ⟨g,rfl⟩:∃ g,f = g + 1:=⟨f - 1,by omega⟩;unfold mvO at hr;rw [if_neg hi] at hr;exact hr
theorem MvI.done (h:MvI d T i (f,U,k)) (hk:¬ k < U.length):U = mvI d 8589934592 T i 0:=by
 have hp:=h.pos.1;have hr:mvI d f U i k = mvI d 8589934592 T i 0:=h.res;obtain ⟨g,rfl⟩:∃ g,f = g + 1:=⟨f - 1,by omega⟩;unfold mvI at hr;rw [if_neg hk] at hr;exact hr
theorem MvI.next (h:MvI d T i (f,U,k)) (hk:k < U.length):MvI d T i (f - 1,mvS d U i k,k + 1):=by
 have hp:=h.pos.1;have hr:mvI d f U i k = mvI d 8589934592 T i 0:=h.res;obtain ⟨g,rfl⟩:∃ g,f = g + 1:=⟨f - 1,by omega⟩;unfold mvI at hr;rw [if_pos hk] at hr;have hf:4294967296 < g + 1 + k:=h.fuel;exact ⟨asw h.nd,h.pre.trans (a1r d U i k),hr,bky hk (a1r d U i k).length_le,by show 4294967296 < g + (k + 1);omega⟩
theorem MvO.next (h:MvO d T0 (f,T,i)) (hi:i < T.length) (hU:U = mvI d 8589934592 T i 0):MvO d T0 (f - 1,U,i + 1):=by
 subst hU;have hp:=h.pos.1;have hr:mvO d f T i = mvO d FU2 T0 0:=h.res;obtain ⟨g,rfl⟩:∃ g,f = g + 1:=⟨f - 1,by omega⟩;unfold mvO at hr;rw [if_pos hi] at hr;have hf:4294967296 < g + 1 + i:=h.fuel;exact ⟨alo h.nd,h.pre.trans (xz d _ T i 0),hr,bky hi (xz d _ T i 0).length_le,by show 4294967296 < g + (i + 1);omega⟩
theorem ue (h:agB d (U.getD i default) (U.getD k default) = false):mvS d U i k = U:=by unfold mvS;rw [if_neg (by rw [h];decide)]
theorem li (h:agB d (U.getD i default) (U.getD k default) = true):mvS d U i k = ge U (kg d (U.getD i default) (U.getD k default)):=by unfold mvS;rw [if_pos h]
theorem air {T:List AS} {q:AS} (hp:T <+: U) (h:¬ q ∈ U):true = decide (T.length < (ge U q).length):=by
 have h1:=hp.length_le;rw [aj9 h];exact (decide_eq_true bos).symm
theorem akn {T:List AS} {q:AS} (h:q ∈ U):decide (T.length < U.length) = decide (T.length < (ge U q).length):=by rw [show ge U q = U from if_pos h]
theorem bfy (r k l h:AS):aw .or .u32 (aw .and .u32 (asI r) (aw .or .u32 (asI l) (asI h))) (aw .andNot .u32 (asI k) (aw .or .u32 (asI l) (asI h))) = asI (kg ⟨l,h⟩ r k):=by
 rw [bOr,fj,go,bOr];rfl
theorem bi4 {r k:AS} (h:aw .and .u32 (aw .xor .u32 (asI r) (asI k)) (asI d.lhs) = 0):agB d r k = true:=by
 rw [aqs,fj] at h;exact decide_eq_true (cg.1 h)
theorem bim {r k:AS} (h:¬ aw .and .u32 (aw .xor .u32 (asI r) (asI k)) (asI d.lhs) = 0):agB d r k = false:=by
 rw [aqs,fj] at h;exact decide_eq_false fun e=>h (congrArg asI e)
end
end
end
section
open Go.Proofs
theorem ba3:goodFn Tryz.prog 241:=wgx Tryz.func241
theorem biz (T:List AS) (d:Fd) (hn:T.Nodup):da Tryz.prog 241 [.one (.ptr 1000 0),d.pc.toH] [(1000, .box [.ref 1001 T.length]),(1001, .arr true 1 46 T.length (lf sC T))] (.v (.one (.p (.raw (.bool (decide (T.length < (mvO d FU2 T 0).length))))))) [(1000, .box [.ref 1001 (mvO d FU2 T 0).length]),(1001, .arr true 1 46 (mvO d FU2 T 0).length (lf sC (mvO d FU2 T 0)))] [1000,1001]:=by
 refine hfx (nt:=77) Tryz.func241 ?_;refine sx7 ?_;refine m9 0 ?_;refine ef ?_;refine a6 (ι:=(Nat × List AS × Nat)) ⟨[(0,some _),(3,some _)],[(0,some _)]⟩ ⟨⟨c9,c9,trivial⟩,⟨u9,trivial⟩⟩ (fun x=>⟨[(5,some (vB (decide (T.length < x.2.1.length)))),(6,some (vI x.2.2))],[(1000,some (.box [.ref 1001 x.2.1.length])),(1001,some (.arr true 1 46 x.2.1.length (lf sC x.2.1)))]⟩) (fun x=>MvO d T x) (fun x=>x.1) ((FU2,T,0)) (MvO.start hn) ⟨⟨⟨_,rfl,(cob bow)⟩,⟨_,rfl,(CoR.refl _)⟩,trivial⟩,⟨u9,u9,trivial⟩⟩ ?_;rintro ⟨f,T1,i⟩ hO;have hOl:=hO.pos.2;refine cu ?_;refine hcd (fun h0=>?_) (fun h0=>?_)
 ·
  have hil:i < T1.length:=by omega
  have hfI:=hO.pos.1;refine w_8 ?_;refine a6 (ι:=(Nat × List AS × Nat)) ⟨[(0,some _),(3,some _),(6,some _)],[(0,some _)]⟩ ⟨⟨c9,c9,c9,trivial⟩,⟨u9,trivial⟩⟩ (fun y=>⟨[(5,some (vB (decide (T.length < y.2.1.length)))),(7,some (vI y.2.2))],[(1000,some (.box [.ref 1001 y.2.1.length])),(1001,some (.arr true 1 46 y.2.1.length (lf sC y.2.1)))]⟩) (fun y=>MvI d T1 i y) (fun y=>y.1) ((8589934592,T1,0)) (MvI.start hO.nd) ⟨⟨⟨_,rfl,(CoR.refl _)⟩,⟨_,rfl,(CoR.refl _)⟩,trivial⟩,⟨u9,u9,trivial⟩⟩ ?_;rintro ⟨g,U,k⟩ hI;have hIl:=hI.pos.2;refine cu ?_;refine hcd (fun h1=>?_) (fun h1=>?_)
  ·
   have hkl:k < U.length:=by omega
   have hil2:i < U.length:=bmu hil hI.pre.length_le;have hUl:=hI.pos.2;have hpre:T <+: U:=hO.pre.trans hI.pre;have hg0:=hI.pos.1;refine bei ?_;refine am rfl rfl (fun r2=>?_) (fun r2=>?_)
   ·
    have h2:=tz1 r2;have ha:agB d (U.getD i default) (U.getD k default) = true:=bi4 h2;(iterate 28 refine qy ?_ (hg:=(gtt r2)));refine gi rfl rfl rfl rfl rfl rfl adr (azs U (kg d (U.getD i default) (U.getD k default)) bos) (⟨uk.refl _,(CoP.of_eq (congrArg (fun z=>PV.raw (.int .u32 z)) (bfy _ _ _ _))),trivial⟩) ⟨u9,u9,trivial⟩ rfl (gtt r2) ?_;refine w_3 ?_;refine a8 _ rfl (fun r3=>?_) (fun r3=>?_)
    ·
     have h3:=bp r2 r3;have hin:¬ (kg d (U.getD i default) (U.getD k default)) ∈ U:=a3w (by simpa using h3);refine w_8 ?_;refine ⟨(g - 1,mvS d U i k,k + 1), ?_, ?_, ?_⟩
     · exact hI.next hkl
     · dsimp only;omega
     exact ⟨⟨⟨_,rfl,(by first | (rw [ue ha];exact CoR.refl _) | (rw [li ha];exact cob (air hpre hin)) | (rw [li ha];exact cob (akn hin)))⟩,⟨_,rfl,(CoR.refl _)⟩,c9,c9,c9,trivial⟩,⟨⟨_,rfl,(by first | (rw [ue ha];exact CoO.refl _) | (rw [li ha];exact CoO.refl _))⟩,⟨_,rfl,(by first | (rw [ue ha];exact CoO.refl _) | (rw [li ha];exact CoO.refl _))⟩,u9,trivial⟩⟩
    have h3:=bp r2 r3;have hin:(kg d (U.getD i default) (U.getD k default)) ∈ U:=a1b (by simpa using h3);refine w_6 ?_;refine ⟨(g - 1,mvS d U i k,k + 1), ?_, ?_, ?_⟩
    · exact hI.next hkl
    · dsimp only;omega
    exact ⟨⟨⟨_,rfl,(by first | (rw [ue ha];exact CoR.refl _) | (rw [li ha];exact cob (air hpre hin)) | (rw [li ha];exact cob (akn hin)))⟩,⟨_,rfl,(CoR.refl _)⟩,c9,c9,c9,trivial⟩,⟨⟨_,rfl,(by first | (rw [ue ha];exact CoO.refl _) | (rw [li ha];exact CoO.refl _))⟩,⟨_,rfl,(by first | (rw [ue ha];exact CoO.refl _) | (rw [li ha];exact CoO.refl _))⟩,u9,trivial⟩⟩
   have h2:=tz2 r2;have ha:agB d (U.getD i default) (U.getD k default) = false:=bim h2;(iterate 29 refine k9 (gft r2) ?_);refine rq rfl rfl rfl rfl rfl ?_ (hp:=r2);refine w_2 ?_;refine a8 _ rfl (fun e=>by cases e) (fun _=>?_);refine w_6 ?_;refine ⟨(g - 1,mvS d U i k,k + 1), ?_, ?_, ?_⟩
   · exact hI.next hkl
   · dsimp only;omega
   exact ⟨⟨⟨_,rfl,(by first | (rw [ue ha];exact CoR.refl _) | (rw [li ha];exact cob (air hpre hin)) | (rw [li ha];exact cob (akn hin)))⟩,⟨_,rfl,(CoR.refl _)⟩,c9,c9,c9,trivial⟩,⟨⟨_,rfl,(by first | (rw [ue ha];exact CoO.refl _) | (rw [li ha];exact CoO.refl _))⟩,⟨_,rfl,(by first | (rw [ue ha];exact CoO.refl _) | (rw [li ha];exact CoO.refl _))⟩,u9,trivial⟩⟩
  have hU:=hI.done bos;have hT1l:=hO.pos.2;refine w_6 ?_;refine ⟨(f - 1,U,i + 1), ?_, ?_, ?_⟩
  · exact hO.next hil hU
  · dsimp only;omega
  exact ⟨⟨⟨_,rfl,(CoR.refl _)⟩,⟨_,rfl,(CoR.refl _)⟩,c9,c9,trivial⟩,⟨u9,u9,u9,trivial⟩⟩
 have hT:T1 = mvO d FU2 T 0:=hO.done bos;subst hT;refine w_7 ?_;refine ⟨.inr rfl, ?_⟩;exact ⟨_,_,rfl,bou,CoR.refl _,⟨u9,u9,trivial⟩⟩
end
section
structure ChI (l m:List Fd) (R:List AS) (x:Nat × List AS × Bool):Prop where
 nd:x.2.1.Nodup
 t:x.2.2 = true -> chF l m x.1 x.2.1 = R /\ muT x.2.1 < x.1
 f:x.2.2 = false -> x.2.1 = R
def aqc (x:Nat × List AS × Bool):Nat:=x.1 + (bif x.2.2 then 1 else 0)
theorem b9n {f:Nat} {T U:List AS} {c:Bool} (h:0 < f):aqc (f - 1,U,c) < aqc (f,T,true):=by
 cases c <;> simp only [aqc,cond_true,cond_false] <;> omega
theorem ChI.start (l m:List Fd) (rest:AS):ChI l m (chT l m rest) (MU,aai rest,true):=⟨b2j rest,fun _=>⟨rfl,avc _⟩,fun h=>by cases h⟩
theorem ChI.next {l m:List Fd} {R T:List AS} {f:Nat} (h:ChI l m R (f,T,true)):ChI l m R (f - 1,(nk l m T).1,(nk l m T).2) /\ 0 < f:=by
 obtain ⟨h1,h2⟩:=h.t rfl;have h2:muT T < f:=h2;have h1:chF l m f T = R:=h1;have hn:T.Nodup:=h.nd;obtain ⟨g,rfl⟩:∃ g,f = g + 1:=⟨f - 1,by omega⟩;unfold chF at h1;refine ⟨⟨a7f aha as5 hn,fun hc=>?_,fun hc=>?_⟩,by omega⟩
 · have hc:(nk l m T).2 = true:=hc
   rw [if_pos hc] at h1;have:=avh hn hc;exact ⟨h1,by show muT (nk l m T).1 < g;omega⟩
 have hc:(nk l m T).2 = false:=hc;rw [if_neg (by rw [hc];decide)] at h1;exact h1
def lg (l:List Fd) (T:List AS) (i:Nat):TC:=(l.take i).foldl fdR (T,false)
theorem afd {l:List Fd} {T:List AS} {i:Nat} (h:i < l.length):lg l T (i + 1) = fdR (lg l T i) (l.getD i default):=by
 unfold lg;rw [ay h,bm0];rfl
theorem ang {l:List Fd} {T:List AS} {i:Nat} (h:T.Nodup):(lg l T i).1.Nodup:=a7r (fs:=l) aha (l.take i) (T,false) (fun _ h=>bne h) h
def mvX (m:List Fd) (x:TC) (i:Nat):TC:=(m.take i).foldl mvR x
theorem uv {m:List Fd} {x:TC} {i:Nat} (h:i < m.length):mvX m x (i + 1) = mvR (mvX m x i) (m.getD i default):=by
 unfold mvX;rw [ay h,bm0];rfl
theorem bab {m:List Fd} {x:TC} {i:Nat} (h:x.1.Nodup):(mvX m x i).1.Nodup:=ad8 (ms:=m) as5 (m.take i) x (fun _ h=>bne h) h
theorem bfb (l m:List Fd) (T:List AS):mvX m (lg l T l.length) m.length = nk l m T:=by
 unfold mvX lg nk;rw [bks,bks]
structure FdI (d:Fd) (U0:List AS) (x:Nat × List AS × Bool):Prop where
 nd:x.2.1.Nodup
 res:qd d x.1 x.2.1 = qd d FU2 U0
 fuel:(orL x.2.1).toNat < x.1
 f:x.2.2 = false -> x.2.1 = U0
 t:x.2.2 = true -> (fdT d U0).isSome = true
section
variable {d:Fd} {U0 U:List AS} {g:Nat} {b c:Bool} {s:AS}
theorem FdI.start (h:U0.Nodup):FdI d U0 (FU2,U0,false):=⟨h,rfl,bmu (orL U0).isLt (show 2 ^ 32 <= FU2 by decide),fun _=>rfl,fun h=>by cases h⟩
theorem FdI.len (h:FdI d U0 (g,U,b)):U.length <= 8589934592:=bky (ww (show U.Nodup from h.nd)) boz
theorem FdI.next (h:FdI d U0 (g,U,b)) (hq:fdT d U = some s):FdI d U0 (g - 1,jx U s,true) /\ 0 < g:=by
 have h3:(orL U).toNat < g:=h.fuel;have h2:qd d g U = qd d FU2 U0:=h.res;obtain ⟨k,rfl⟩:∃ k,g = k + 1:=⟨g - 1,by omega⟩;rw [a02 hq] at h2;have h4:=aeb hq;refine ⟨⟨ac0 U s,h2,(by show (orL (jx U s)).toNat < k;omega),(fun hc=>by cases hc),fun _=>?_⟩,by omega⟩
 cases hb:b with
 | true=>exact h.t hb
 | false =>
  have e:U = U0:=h.f hb;rw [<- e,hq];rfl
theorem FdI.done (h:FdI d U0 (g,U,b)) (hq:fdT d U = none):(U,c || b) = fdR (U0,c) d:=by
 have h2:qd d g U = qd d FU2 U0:=h.res;rw [a0h hq] at h2;unfold fdR;rw [<- h2]
 cases hb:b with
 | true=>rw [h.t hb]
 | false =>
  have e:U = U0:=h.f hb;rw [<- e,hq];rfl
end
theorem a7v {x:TC} {d:Fd}:mvR x d = (mvO d FU2 x.1 0,x.2 || decide (x.1.length < (mvO d FU2 x.1 0).length)):=rfl
end
end Go.Hx
