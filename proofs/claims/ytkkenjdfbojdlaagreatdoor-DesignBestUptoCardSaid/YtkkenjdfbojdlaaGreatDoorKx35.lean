/- A part of the proof: Bz6 Ch15 Y4 Y6 Y7 Bz7 Y8 Bz8 Y9. -/
import Derived.Test.YtkkenjdfbojdlaaGreatDoorKx34
set_option linter.all false
set_option maxRecDepth 100000
set_option maxHeartbeats 1000000
namespace Go.Hx
section
def fdP (d:Fd) (r k:AS):Option AS:=if (r ^^^ k) &&& d.lhs = 0 then (if (r ^^^ k) &&& d.rhs = 0 then none else some ((r ^^^ k) &&& d.rhs)) else none
def fdQ (d:Fd) (T:List AS) (r:AS):Option AS:=T.findSome? (fdP d r)
def fdT (d:Fd) (T:List AS):Option AS:=T.findSome? (fdQ d T)
section
variable {T:List AS} {d:Fd}
def ajh {s:AS} (h:fdT d T = some s):∃ r ∈ T,∃ k ∈ T,agB d r k = true /\ s = (r ^^^ k) &&& d.rhs /\ s ≠ 0:=by
 unfold fdT at h;obtain ⟨r,hr,h⟩:=bq1 h;unfold fdQ at h;obtain ⟨k,hk,h⟩:=bq1 h;unfold fdP at h;split at h
 · rename_i h1
   split at h
   · cases h
   rename_i h2;cases h;exact ⟨r,hr,k,hk,decide_eq_true h1,rfl,h2⟩
 cases h
def b1m (h:fdT d T = none):∀ r ∈ T,∀ k ∈ T,agB d r k = true -> (r ^^^ k) &&& d.rhs = 0:=by
 intro r hr k hk ha;unfold fdT at h;rw [boz] at h;have h:=h r hr;unfold fdQ at h;rw [boz] at h;have h:=h k hk;unfold fdP at h;rw [if_pos (of_decide_eq_true ha)] at h;split at h
 · assumption
 cases h
def aiy {r k:AS} (h:¬ (r ^^^ k) &&& d.lhs = 0):fdP d r k = none:=if_neg h
def ajb {r k:AS} (h:(r ^^^ k) &&& d.lhs = 0) (h2:(r ^^^ k) &&& d.rhs = 0):fdP d r k = none:=by unfold fdP;rw [if_pos h,if_pos h2]
def b4c {r k:AS} (h:(r ^^^ k) &&& d.lhs = 0) (h2:¬ (r ^^^ k) &&& d.rhs = 0):fdP d r k = some ((r ^^^ k) &&& d.rhs):=by unfold fdP;rw [if_pos h,if_neg h2]
def xm (h:T.Nodup):T.length <= 4294967296:=by
 have h1:(T.map BitVec.toNat).Nodup:=List.Pairwise.map _ (fun a b hab e=>hab (bng e)) h
 have h2:∀ x ∈ T.map BitVec.toNat,x < 4294967296:=by
  intro x hx;obtain ⟨a,_,rfl⟩:=bn2.1 hx;exact a.isLt
 have hlen:(T.map BitVec.toNat).length = T.length:=bms _;rw [<- hlen]
 have key:∀ (N:Nat) (l:List Nat),l.Nodup -> (∀ x ∈ l,x < N) -> l.length <= N:=by
  intro N
  induction N with
  | zero =>
   intro l _ hl
   cases l with
   | nil=>exact bmd _
   | cons a l=>exact absurd (hl a bqm) (bmf _)
  | succ N ih =>
   intro l hn hl
   have h3:=ih (l.filter fun x=>!decide (x = N)) (hn.filter _) fun x hx=>by
    rw [bog] at hx;have:=hl x hx.1;have hx2:¬ x = N:=by simpa using hx.2
    omega
   have h4:l.length <= (l.filter fun x=>!decide (x = N)).length + 1:=by
    have h5:∀ l:List Nat,l.length = (l.filter fun x=>!decide (x = N)).length + l.countP fun x=>decide (x = N):=by
     intro l
     induction l with
     | nil=>rfl
     | cons a l ih =>
      by_cases e:a = N
      · simp [bnf,boy,e,ih];omega
      simp [bnf,boy,e,ih];omega
    have h6:=h5 l
    have h7:(l.countP fun x=>decide (x = N)) <= 1:=by
     have:=hn.count (a:=N)
     have e:(l.countP fun x=>decide (x = N)) = l.count N:=by
      unfold List.count;congr 1
     rw [e]
     first | exact List.nodup_iff_count.1 hn N | (rw [this];split <;> omega)
    omega
   omega
 exact key _ _ h1 h2
def zp {i:Nat} (hi:i < 32):(orL T).getLsbD i = T.any fun r=>r.getLsbD i:=by
 unfold orL
 have:∀ (T:List AS) (o:AS),(T.foldl (· ||| ·) o).getLsbD i = (o.getLsbD i || T.any fun r=>r.getLsbD i):=by
  intro T
  induction T with
  | nil=>intro o;simp
  | cons a T ih=>intro o;rw [bo9,ih,bo4,List.any_cons,Bool.or_assoc]
 rw [this];simp
def bbo {s:AS}:orL (kj T s) = orL T &&& ~~~s:=by
 apply ln;intro i hi;rw [zp hi,d5 hi,zp hi]
 cases hs:s.getLsbD i with
 | true =>
  simp only [bpj,bqg];rw [bo7];intro z hz;obtain ⟨r,hr,rfl⟩:=tc.1 hz;rw [d5 hi,hs];simp
 | false =>
  simp only [bqe,Bool.and_true];rw [bo8,bne,bne];constructor
  · rintro ⟨z,hz,hb⟩
    obtain ⟨r,hr,rfl⟩:=tc.1 hz;rw [d5 hi,bml] at hb;exact ⟨r,hr,hb.1⟩
  rintro ⟨r,hr,hb⟩;exact ⟨r &&& ~~~s,tc.2 ⟨r,hr,rfl⟩,by rw [d5 hi,hb,hs];rfl⟩
def aft {s:AS} (h:fdT d T = some s):(orL (kj T s)).toNat < (orL T).toNat:=by
 obtain ⟨r,hr,k,hk,_,rfl,hz⟩:=ajh h;rw [bbo];refine xq nv fun e=>?_;obtain ⟨i,hi,hb⟩:=amj hz;have h1:=congrArg (fun z:AS=>z.getLsbD i) e;simp only [d5 hi,hb,bpj,bqg] at h1;have h1:(orL T).getLsbD i = false:=h1.symm;rw [zp hi,bo7] at h1;rw [bmr,bq9,bml] at hb;have h2:r.getLsbD i = false:=by simpa using h1 r hr
 have h3:k.getLsbD i = false:=by simpa using h1 k hk
 rw [h2,h3] at hb;simp at hb
def s6 (d:Fd):Nat -> List AS -> List AS
 | 0,T=>T
 | f + 1,T=>match fdT d T with
  | none=>T
  | some s=>s6 d f (kj T s)
def mvS (d:Fd) (T:List AS) (i k:Nat):List AS:=if agB d (T.getD i default) (T.getD k default) = true then gt T (lc d (T.getD i default) (T.getD k default)) else T
def mvI (d:Fd):Nat -> List AS -> Nat -> Nat -> List AS
 | 0,T,_,_=>T
 | f + 1,T,i,k=>if k < T.length then mvI d f (mvS d T i k) i (k + 1) else T
def mvO (d:Fd):Nat -> List AS -> Nat -> List AS
 | 0,T,_=>T
 | f + 1,T,i=>if i < T.length then mvO d f (mvI d 8589934592 T i 0) (i + 1) else T
def a3q (d:Fd) (T:List AS) (i k:Nat):T <+: mvS d T i k:=by
 unfold mvS gt;split
 · split
   · exact bpa _
   exact List.prefix_append _ _
 exact bpa _
def z8 (d:Fd):∀ (f:Nat) (T:List AS) (i k:Nat),T <+: mvI d f T i k
 | 0,T,_,_=>bpa _
 | f + 1,T,i,k=>by
  unfold mvI;split
  · exact (a3q d T i k).trans (z8 d f _ i (k + 1))
  exact bpa _
def a3l (d:Fd):∀ (f:Nat) (T:List AS) (i:Nat),T <+: mvO d f T i
 | 0,T,_=>bpa _
 | f + 1,T,i=>by
  unfold mvO;split
  · exact (z8 d _ T i 0).trans (a3l d f _ (i + 1))
  exact bpa _
variable {A B:List AS}
def azb (h:A <+: B) (hl:B.length = A.length):B = A:=by
 obtain ⟨C,rfl⟩:=h;rw [bmg] at hl;rw [List.length_eq_zero_iff.1 (show C.length = 0 by omega),bn9]
def aa9 {C:List AS} (h:A <+: B) (k:B <+: C) (hl:C.length = A.length):B = A:=by
 have h1:=h.length_le;have h2:=k.length_le;exact azb h bqi
def alc:∀ {f:Nat} {T:List AS} {i k:Nat},T.length < f + k -> (mvI d f T i k).length = T.length -> ∀ j,k <= j -> j < T.length -> agB d (T.getD i default) (T.getD j default) = true -> lc d (T.getD i default) (T.getD j default) ∈ T
 | 0,T,i,k,hf,_,j,hj,hjl,_=>by omega
 | f + 1,T,i,k,hf,hl,j,hj,hjl,ha=>by
  unfold mvI at hl;rw [if_pos bqi] at hl;have e:=aa9 (a3q d T i k) (z8 d f _ i (k + 1)) hl;by_cases hjk:j = k
  · subst hjk
    unfold mvS gt at e;rw [if_pos ha] at e;split at e
    · assumption
    have:=congrArg List.length e;simp at this
  rw [e] at hl;exact alc bqi hl j bqi hjl ha
def anp:∀ {f:Nat} {T:List AS} {i:Nat},T.length <= 4294967296 -> T.length < f + i -> (mvO d f T i).length = T.length -> ∀ a,i <= a -> a < T.length -> ∀ j,j < T.length -> agB d (T.getD a default) (T.getD j default) = true -> lc d (T.getD a default) (T.getD j default) ∈ T
 | 0,T,i,_,hf,_,a,ha,hal,_,_,_=>by omega
 | f + 1,T,i,hT,hf,hl,a,ha,hal,j,hj,hag=>by
  unfold mvO at hl;rw [if_pos bqi] at hl;have e:=aa9 (z8 d 8589934592 T i 0) (a3l d f _ (i + 1)) hl;by_cases hai:a = i
  · subst hai
    exact alc bqi (congrArg List.length e) j (bmh _) hj hag
  rw [e] at hl;exact anp hT bqi hl a bqi hal j hj hag
def av0 {i k:Nat} (h:T.Nodup):(mvS d T i k).Nodup:=by
 unfold mvS;split
 · exact yu h
 exact h
def akg:∀ {f:Nat} {T:List AS} {i k:Nat},T.Nodup -> (mvI d f T i k).Nodup
 | 0,T,_,_,h=>h
 | f + 1,T,i,k,h=>by
  unfold mvI;split
  · exact akg (av0 h)
  exact h
def ao4:∀ {f:Nat} {T:List AS} {i:Nat},T.Nodup -> (mvO d f T i).Nodup
 | 0,T,_,h=>h
 | f + 1,T,i,h=>by
  unfold mvO;split
  · exact ao4 (akg h)
  exact h
abbrev TC:=List AS × Bool
def FU2:Nat:=8589934592
def fdR (x:TC) (d:Fd):TC:=(s6 d FU2 x.1,x.2 || (fdT d x.1).isSome)
def mvR (x:TC) (d:Fd):TC:=(mvO d FU2 x.1 0,x.2 || decide (x.1.length < (mvO d FU2 x.1 0).length))
def o9 (fs ms:List Fd) (T:List AS):TC:=ms.foldl mvR (fs.foldl fdR (T,false))
def chF (fs ms:List Fd):Nat -> List AS -> List AS
 | 0,T=>T
 | f + 1,T=>if (o9 fs ms T).2 = true then chF fs ms f (o9 fs ms T).1 else (o9 fs ms T).1
def muT (T:List AS):Nat:=(orL T).toNat * FU2 + (4294967296 - T.length)
def a1g {f:Nat} {s:AS} (h:fdT d T = some s):s6 d (f + 1) T = s6 d f (kj T s):=by
 show (match fdT d T with | none=>T | some s=>s6 d f (kj T s)) = _;rw [h]
def a0w {f:Nat} (h:fdT d T = none):s6 d f T = T:=by
 cases f with
 | zero=>rfl
 | succ f =>
  show (match fdT d T with | none=>T | some s=>s6 d f (kj T s)) = _;rw [h]
variable {P:List AS -> Prop}
def al7 (hP:∀ T s,P T -> fdT d T = some s -> P (kj T s)):∀ (f:Nat) (T:List AS),P T -> P (s6 d f T)
 | 0,T,h=>h
 | f + 1,T,h=>by
  cases hq:fdT d T with
  | none=>rw [a0w hq];exact h
  | some s=>rw [a1g hq];exact al7 hP f _ (hP T s h hq)
def aqf (hP:∀ T r k,P T -> r ∈ T -> k ∈ T -> agB d r k = true -> P (gt T (lc d r k))):∀ (f:Nat) (T:List AS) (i k:Nat),i < T.length -> P T -> P (mvI d f T i k)
 | 0,T,_,_,_,h=>h
 | f + 1,T,i,k,hi,h=>by
  unfold mvI;split
  · rename_i hk
    refine aqf hP f _ i (k + 1) (bok hi (a3q d T i k).length_le) ?_;unfold mvS;split
    · rename_i ha
      exact hP T _ _ h (a14 hi) (a14 hk) ha
    exact h
  exact h
def aet (hP:∀ T r k,P T -> r ∈ T -> k ∈ T -> agB d r k = true -> P (gt T (lc d r k))):∀ (f:Nat) (T:List AS) (i:Nat),P T -> P (mvO d f T i)
 | 0,T,_,h=>h
 | f + 1,T,i,h=>by
  unfold mvO;split
  · rename_i hi
    exact aet hP f _ (i + 1) (aqf hP _ T i 0 hi h)
  exact h
variable {fs:List Fd}
def a93 (hP:∀ d ∈ fs,∀ T s,P T -> fdT d T = some s -> P (kj T s)):∀ (ds:List Fd) (x:TC),(∀ d ∈ ds,d ∈ fs) -> P x.1 -> P (ds.foldl fdR x).1
 | [],x,_,h=>h
 | d :: ds,x,hd,h=>a93 hP ds (fdR x d) (fun e he=>hd e (by simp [he])) (al7 (hP d (hd d bqm)) _ _ h)
variable {ms:List Fd}
def afl (hP:∀ d ∈ ms,∀ T r k,P T -> r ∈ T -> k ∈ T -> agB d r k = true -> P (gt T (lc d r k))):∀ (ds:List Fd) (x:TC),(∀ d ∈ ds,d ∈ ms) -> P x.1 -> P (ds.foldl mvR x).1
 | [],x,_,h=>h
 | d :: ds,x,hd,h=>afl hP ds (mvR x d) (fun e he=>hd e (by simp [he])) (aet (hP d (hd d bqm)) _ _ _ h)
def a9g (h1:∀ d ∈ fs,∀ T s,P T -> fdT d T = some s -> P (kj T s)) (h2:∀ d ∈ ms,∀ T r k,P T -> r ∈ T -> k ∈ T -> agB d r k = true -> P (gt T (lc d r k))) (h:P T):P (o9 fs ms T).1 :=
 afl h2 ms _ (fun _ h=>h) (a93 h1 fs (T,false) (fun _ h=>h) h)
def awn (h1:∀ d ∈ fs,∀ T s,P T -> fdT d T = some s -> P (kj T s)) (h2:∀ d ∈ ms,∀ T r k,P T -> r ∈ T -> k ∈ T -> agB d r k = true -> P (gt T (lc d r k))):∀ (f:Nat) (T:List AS),P T -> P (chF fs ms f T)
 | 0,T,h=>h
 | f + 1,T,h=>by
  unfold chF;split
  · exact awn h1 h2 f _ (a9g h1 h2 h)
  exact a9g h1 h2 h
def aj4:∀ d ∈ fs,∀ (T:List AS) (s:AS),T.Nodup -> fdT d T = some s -> (kj T s).Nodup:=fun _ _ T s _ _=>ae0 T s
def aul:∀ d ∈ ms,∀ (T:List AS) (r k:AS),T.Nodup -> r ∈ T -> k ∈ T -> agB d r k = true -> (gt T (lc d r k)).Nodup:=fun _ _ _ _ _ h _ _ _=>yu h
def akj:∀ (ds:List Fd) (x:TC),x.2 = true -> (ds.foldl fdR x).2 = true
 | [],x,h=>h
 | d :: ds,x,h=>akj ds (fdR x d) (by unfold fdR;simp [h])
def abo:∀ (ds:List Fd) (x:TC),x.2 = true -> (ds.foldl mvR x).2 = true
 | [],x,h=>h
 | d :: ds,x,h=>abo ds (mvR x d) (by unfold mvR;simp [h])
def akb:∀ {ds:List Fd} {x:TC},(ds.foldl fdR x).2 = false -> ds.foldl fdR x = x /\ ∀ d ∈ ds,fdT d x.1 = none
 | [],x,h=>⟨rfl,fun _ h=>by cases h⟩
 | d :: ds,x,h=>by
  have hx2:(fdR x d).2 = false:=by
   cases hq:(fdR x d).2 with
   | false=>rfl
   | true=>rw [bo9,akj ds _ hq] at h;cases h
  have hd:x.2 = false /\ fdT d x.1 = none:=by
   unfold fdR at hx2;rw [bpe] at hx2;exact ⟨hx2.1,by cases hq:fdT d x.1 with | none=>rfl | some s=>rw [hq] at hx2;cases hx2.2⟩
  have e:fdR x d = x:=by
   unfold fdR;rw [a0w hd.2,hd.2];simp
  rw [bo9,e] at h;obtain ⟨q1,q2⟩:=akb h;refine ⟨by rw [bo9,e];exact q1,fun k hk=>?_⟩
  rcases bmp.1 hk with rfl | hk
  · exact hd.2
  exact q2 k hk
def amd:∀ {ds:List Fd} {x:TC},x.1.Nodup -> (ds.foldl mvR x).2 = false -> ds.foldl mvR x = x /\ ∀ d ∈ ds,∀ r ∈ x.1,∀ k ∈ x.1,agB d r k = true -> lc d r k ∈ x.1
 | [],x,_,h=>⟨rfl,fun _ h=>by cases h⟩
 | d :: ds,x,hn,h=>by
  have hx2:(mvR x d).2 = false:=by
   cases hq:(mvR x d).2 with
   | false=>rfl
   | true=>rw [bo9,abo ds _ hq] at h;cases h
  have hfew:=xm hn
  have hd:x.2 = false /\ (mvO d FU2 x.1 0).length = x.1.length:=by
   unfold mvR at hx2;rw [bpe] at hx2;refine ⟨hx2.1, ?_⟩;have h1:=of_decide_eq_false hx2.2;have h2:=(a3l d FU2 x.1 0).length_le;omega
  have e0:mvO d FU2 x.1 0 = x.1:=azb (a3l d FU2 x.1 0) hd.2
  have e:mvR x d = x:=by
   unfold mvR;rw [e0];simp
  rw [bo9,e] at h;obtain ⟨q1,q2⟩:=amd hn h;refine ⟨by rw [bo9,e];exact q1,fun k hk=>?_⟩
  rcases bmp.1 hk with rfl | hk
  · intro r hr q hq ha
    obtain ⟨i,hi,rfl⟩:=bpu.1 hr;obtain ⟨j,hj,rfl⟩:=bpu.1 hq;have g:=anp (d:=k) (f:=FU2) (T:=x.1) (i:=0) hfew (by show _ < 8589934592 + 0;omega) hd.2 i (bmh _) hi j hj;have ei:x.1.getD i default = x.1[i]:=by rw [bmb,bma hi];rfl
    have ej:x.1.getD j default = x.1[j]:=by rw [bmb,bma hj];rfl
    rw [ei,ej] at g;exact g ha
  exact q2 k hk
def b09 (hn:T.Nodup) (h:(o9 fs ms T).2 = false):(o9 fs ms T).1 = T /\ aj3 fs ms T:=by
 unfold o9 at h ⊢
 have h0:(fs.foldl fdR (T,false)).2 = false:=by
  cases hq:(fs.foldl fdR (T,false)).2 with
  | false=>rfl
  | true=>rw [abo ms _ hq] at h;cases h
 obtain ⟨e1,c1⟩:=akb h0;rw [e1] at h ⊢;obtain ⟨e2,c2⟩:=amd (x:=(T,false)) hn h;rw [e2];exact ⟨rfl,fun d hd=>b1m (c1 d hd),fun d hd r hr k hk ha=>c2 d hd r hr k hk ha⟩
def ayd (h:(orL B).toNat < (orL A).toNat):muT B < muT A:=by
 unfold muT;have h1:((orL B).toNat + 1) * FU2 <= (orL A).toNat * FU2:=bmt _ h;rw [bno] at h1;have:FU2 = 8589934592:=rfl;omega
def b5b (hp:A <+: B) (ho:(orL B).toNat = (orL A).toNat) (hB:B.length <= 4294967296):muT B <= muT A /\ (A.length < B.length -> muT B < muT A):=by
 unfold muT;rw [ho];have:=hp.length_le;omega
def b85 {r k:AS} (hr:r ∈ T) (hk:k ∈ T):orL (gt T (lc d r k)) = orL T:=by
 apply ln;intro i hi;rw [zp hi,zp hi,bo8,bne,bne];constructor
 · rintro ⟨z,hz,hb⟩
   rcases pz.1 hz with hz | rfl
   · exact ⟨z,hz,hb⟩
   rw [vv hi] at hb;split at hb
   · exact ⟨r,hr,hb⟩
   exact ⟨k,hk,hb⟩
 rintro ⟨z,hz,hb⟩;exact ⟨z,pz.2 (.inl hz),hb⟩
def b8n {f:Nat} {i:Nat}:orL (mvO d f T i) = orL T :=
 aet (P:=fun X=>orL X = orL T) (fun X r k h hr hk _=>(b85 hr hk).trans h) f T i rfl
def as3 {T0:List AS} (f:Nat):∀ (T:List AS),muT T <= muT T0 -> muT (s6 d f T) <= muT T0:=by
 induction f with
 | zero=>intro T h;exact h
 | succ f ih =>
  intro T h
  cases hq:fdT d T with
  | none=>rw [a0w hq];exact h
  | some s =>
   rw [a1g hq];have h1:=ayd (aft hq);exact ih _ bqi
def bby (x:TC) (d:Fd):muT (fdR x d).1 <= muT x.1 /\ (x.2 = false -> (fdR x d).2 = true -> muT (fdR x d).1 < muT x.1):=by
 refine ⟨as3 _ _ (bmd _),fun h1 h2=>?_⟩;unfold fdR at h2 ⊢;rw [h1,Bool.false_or,Option.isSome_iff_exists] at h2;obtain ⟨s,hs⟩:=h2;show muT (s6 d FU2 x.1) < _;rw [show FU2 = 8589934591 + 1 from rfl,a1g hs];exact bpp (as3 _ _ (bmd _)) (ayd (aft hs))
def bgk {x:TC} (hn:x.1.Nodup) (d:Fd):muT (mvR x d).1 <= muT x.1 /\ (x.2 = false -> (mvR x d).2 = true -> muT (mvR x d).1 < muT x.1):=by
 have h:=b5b (a3l d FU2 x.1 0) (congrArg BitVec.toNat b8n) (xm (ao4 hn));refine ⟨h.1,fun h1 h2=>h.2 ?_⟩;unfold mvR at h2;rw [h1,Bool.false_or] at h2;exact of_decide_eq_true h2
def ari:∀ (ds:List Fd) (x:TC),muT (ds.foldl fdR x).1 <= muT x.1 /\ (x.2 = false -> (ds.foldl fdR x).2 = true -> muT (ds.foldl fdR x).1 < muT x.1)
 | [],x=>⟨bmd _,fun h k=>by simp only [List.foldl_nil] at k;rw [h] at k;cases k⟩
 | d :: ds,x=>by
  obtain ⟨a1,a2⟩:=bby x d;obtain ⟨b1,b2⟩:=ari ds (fdR x d);refine ⟨bmo b1 a1,fun h k=>?_⟩
  cases hq:(fdR x d).2 with
  | true=>exact bpp b1 (a2 h hq)
  | false=>exact bok (b2 hq k) a1
def arp:∀ (ds:List Fd) (x:TC),x.1.Nodup -> muT (ds.foldl mvR x).1 <= muT x.1 /\ (x.2 = false -> (ds.foldl mvR x).2 = true -> muT (ds.foldl mvR x).1 < muT x.1)
 | [],x,_=>⟨bmd _,fun h k=>by simp only [List.foldl_nil] at k;rw [h] at k;cases k⟩
 | d :: ds,x,hn=>by
  obtain ⟨a1,a2⟩:=bgk hn d;obtain ⟨b1,b2⟩:=arp ds (mvR x d) (ao4 hn);refine ⟨bmo b1 a1,fun h k=>?_⟩
  cases hq:(mvR x d).2 with
  | true=>exact bpp b1 (a2 h hq)
  | false=>exact bok (b2 hq k) a1
def awv (hn:T.Nodup) (h:(o9 fs ms T).2 = true):muT (o9 fs ms T).1 < muT T:=by
 unfold o9 at h ⊢;obtain ⟨a1,a2⟩:=ari fs (T,false);have hn2:(fs.foldl fdR (T,false)).1.Nodup:=a93 aj4 fs (T,false) (fun _ h=>h) hn;obtain ⟨b1,b2⟩:=arp ms (fs.foldl fdR (T,false)) hn2
 cases hq:(fs.foldl fdR (T,false)).2 with
 | true=>exact bpp b1 (a2 rfl hq)
 | false=>exact bok (b2 hq h) a1
def bbr (f:Nat):∀ {T:List AS},T.Nodup -> muT T < f -> aj3 fs ms (chF fs ms f T):=by
 induction f with
 | zero=>intro T _ h;omega
 | succ f ih =>
  intro T hn h;unfold chF;split
  · rename_i hc
    have h1:=awv hn hc;exact ih (a9g aj4 aul hn) bqi
  rename_i hc;rw [bpy] at hc;obtain ⟨e,c⟩:=b09 hn hc;rw [e];exact c
def MU:Nat:=73786976294838206464
def axi (T:List AS):muT T < MU:=by
 unfold muT;have h:=(orL T).isLt;have h1:((orL T).toNat + 1) * FU2 <= 4294967296 * FU2:=bmt _ h;rw [bno] at h1;have e:FU2 = 8589934592:=rfl;have e2:MU = 73786976294838206464:=rfl;omega
def ab8 (rest:AS):List AS:=gt [0] rest
def chT (fs ms:List Fd) (rest:AS):List AS:=chF fs ms MU (ab8 rest)
def b4e (rest:AS):(ab8 rest).Nodup:=yu bqm
def ald {rest:AS}:b2o fs ms (blks (kr fs ms) rest) rest (chT fs ms rest):=by
 obtain ⟨hb,hs⟩:=ag7 (kr fs ms) rest;refine ⟨awn (P:=JT fs (blks (kr fs ms) rest) rest) (fun d hd T s hT hq=>?_) (fun d hd T r k hT hr hk ha=>?_) MU (ab8 rest) ?_,bbr MU (b4e rest) (axi _)⟩
 · obtain ⟨r,hr,k,hk,ha,rfl,_⟩:=ajh hq
   exact hT.equ hb hs hd hr hk ha
 · exact hT.mix (hs d (a6o.2 (.inl hd))) hr hk ha
 have hm:∀ z,z ∈ ab8 rest <-> z = 0 \/ z = rest:=fun z=>by unfold ab8;rw [pz];simp
 refine ⟨(hm 0).2 (.inl rfl),fun r hr=>?_,rest,(hm rest).2 (.inr rfl),fun r hr=>?_,fun a ha h1 h2=>by rw [h1] at h2;cases h2⟩
 · rcases (hm r).1 hr with rfl | rfl
   · exact ⟨ar.2 fun i hi h=>by simp at h,fun b hb'=>.inl bqm⟩
   exact ⟨fh _,fun b hb'=>.inr (hb.sub hb')⟩
 rcases (hm r).1 hr with rfl | rfl
 · exact ar.2 fun i hi h=>by simp at h
 exact fh _
def ame {rest:AS}:orL (chT fs ms rest) ∈ chT fs ms rest /\ ∀ r ∈ chT fs ms rest,sub r (orL (chT fs ms rest)):=by
 have h:=(ald (fs:=fs) (ms:=ms) (rest:=rest)).j;obtain ⟨L,h1,h2,h3⟩:=h.top;have e:orL (chT fs ms rest) = L:=dt (beu h2) (aqi h1);rw [e];exact ⟨h1,h2⟩
end
end
section
open Go.Proofs
def sT:List Rw:=[[0,1,5],[0,7,2]]
def fdX:List Fd:=[⟨1,2⟩]
end
section
open Go.Proofs
def bk9 (a b:List AS):a6 br6 30 [pP (asl a),pP (asl b)] (a8 [pB (decide (a = b))]):=by
 refine hpx (nt:=26) Tryz.func30 ?_;refine w_6 ?_;refine c8 0 rfl fun hn0=>?_;refine c8 1 rfl fun hn1=>?_;refine w_7 ?_;refine hcn (fun h0=>?_) (fun h0=>?_)
 · refine v_4 ?_;exact ⟨ccb (decide_eq_false fun e=>by subst e;omega).symm,trivial⟩
 refine w_9 ?_;refine ae (ι:=Nat) (ka 0 (ka 1 (ka 12 kn))) km (fun i=>⟨[(13,some (vI i))],[]⟩) (fun i=>i <= a.length /\ ∀ j,j < i -> a.getD j default = b.getD j default) (fun i=>a.length - i) (0) (⟨bmh _,fun j hj=>absurd hj (bmf j)⟩) ⟨⟨⟨_,rfl,(CoR.refl _)⟩,trivial⟩,trivial⟩ ?_;rintro i ⟨hi,hI⟩;refine w_5 ?_;refine hcd (fun h1=>?_) (fun h1=>?_)
 ·
  refine abs ?_;refine hcn (fun h2=>?_) (fun h2=>?_)
  · refine v_4 ?_;exact ⟨ccb (decide_eq_false fun e=>by subst e;exact absurd rfl (by assumption:¬ asI _ = asI _)).symm,trivial⟩
  refine w_5 ?_;refine lpz (i + 1) ⟨⟨⟨_,rfl,(CoR.refl _)⟩,tt⟩,trivial⟩ ?_;refine ⟨by omega,fun j hj=>?_⟩;by_cases e:j = i
  · subst e;exact c6.1 bqj
  exact hI j bqi
 obtain rfl:i = a.length:=by omega
 refine v_5 ?_;exact ⟨ccb (decide_eq_true (beo bqi hI)).symm,trivial⟩
end
section
open Go.Proofs
def aln {T:List AS} {r:AS} (h:¬ r ∈ T):(gt T r).length = T.length + 1:=by unfold gt;rw [if_neg h,bmg];rfl
def bb0 {T:List AS} {r:AS}:(gt T r).length <= T.length + 1:=by
 unfold gt;split
 · omega
 rw [bmg];exact bmd _
def amt {s:AS}:∀ {T o:List AS},(n3 s o T).length <= o.length + T.length
 | [],o=>by simp [n3]
 | r :: T,o=>by
  have h1:=amt (s:=s) (T:=T) (o:=gt o (r &&& ~~~s));have h2:=bb0 (T:=o) (r:=r &&& ~~~s);show (n3 s (gt o (r &&& ~~~s)) T).length <= _;simp only [bn7];omega
def ads {s:AS} {T:List AS} {i:Nat} (h:i < T.length):n3 s [] (T.take (i + 1)) = gt (n3 s [] (T.take i)) (T.getD i default &&& ~~~s):=by
 unfold n3;rw [am h,bnn];rfl
def afm:goodFn br6 239:=wgx Tryz.func239
def azk (T:List AS) (r:AS) (hT:T.length <= 8589934592):d4 br6 239 [.one (.ptr 1000 0), .one (.p (asC r))] [(1000, .box [.ref 1001 T.length]),(1001, .arr true 1 46 T.length (lf sC T))] (.v (.one (.p (.raw (.bool (!decide (r ∈ T))))))) [(1000, .box [.ref 1001 (gt T r).length]),(1001, .arr true 1 46 (gt T r).length (lf sC (gt T r)))] [1000,1001]:=by
 refine hfx (nt:=21) Tryz.func239 ?_;refine dy ?_;refine qcx aek (cIn T r) ?_;refine bz ?_;refine ak _ rfl (fun r0=>?_) (fun r0=>?_)
 · have h0:=r0;have hin:r ∈ T:=a0i r0;refine w_4 ?_;refine hrr ?_;rw [show gt T r = T from if_pos hin,decide_eq_true hin];exact ⟨_,_,rfl,bqk,CoR.refl _,uu⟩
 have h0:=r0;have hin:¬ r ∈ T:=a1w r0;refine w_9 ?_;refine m9 0 ?_;refine r9 1 true ?_;refine w_8 ?_;refine hrr ?_;exact ⟨_,_,rfl,bqk,CoR.of_eq (congrArg (fun z=>HR.v (.one (.p (.raw (.bool (!z)))))) (decide_eq_false hin).symm),⟨⟨_,rfl,⟨congrArg (HV.ref 1001) (aln hin).symm,trivial⟩⟩,⟨_,rfl,bh (if_neg hin) (CoP.refl _)⟩,trivial⟩⟩
def bjg (T:List AS) (s:AS) (hT:T.length <= 8589934592):d4 br6 255 [.one (.ptr 1000 0), .one (.p (asC s))] [(1000, .box [.ref 901 T.length]),(901, .arr true 1 46 T.length (lf sC T))] (.tup []) [(1000, .box [.ref 901 (kj T s).length]),(901, .arr true 1 46 (kj T s).length (lf sC (kj T s)))] [1000]:=by
 refine hfx (nt:=27) Tryz.func255 ?_;refine ml ?_;refine al 4 rfl rfl rfl ?_;refine aas ⟨[(0,some _),(1,some _),(4,some _)],[(1000,some _)]⟩ (by exact kk) ?_;refine ss 1000 0 901 true 1 46 (lf sC []) bqo rfl rfl (CoP.sl rfl (.inr rfl) (fun h=>h) (fun i j hi _=>absurd hi (bmf i))) (.inr rfl) rfl rfl ?_;refine w_5 ?_;refine b5 (ka 0 (ka 1 (ka 4 kn))) km (fun i=>⟨[(5,some (vI i))],[(1000,some (.box [.ref 901 (n3 s [] (T.take i)).length])),(901,some (.arr true 1 46 (n3 s [] (T.take i)).length (lf sC (n3 s [] (T.take i)))))]⟩) T.length ⟨⟨⟨_,rfl,(CoR.refl _)⟩,trivial⟩,uu⟩ ?_;rintro i hi;have hel:(n3 s [] (T.take i)).length <= i:=bmo amt (by rw [bmk,bof];omega);refine w_8 ?_;refine hcd (fun h0=>?_) (fun h0=>?_)
 · refine cq ?_;refine gj rfl rfl rfl rfl rfl rfl afm ((azk (n3 s [] (T.take i)) (T.getD i default &&& ~~~s) bqi).swap 1001 901) (⟨wk.refl _,(CoP.of_eq (congrArg (fun z=>PV.raw (.int .u32 z)) (i7 _ _))),trivial⟩) uu rfl rfl ?_;refine w_6 ?_;exact lpx (i + 1) ⟨⟨⟨_,rfl,(CoR.refl _)⟩,tt⟩,⟨⟨_,rfl,(by rw [ads bqi];exact CoO.refl _)⟩,⟨_,rfl,(by rw [ads bqi];exact CoO.refl _)⟩,trivial⟩⟩
 obtain rfl:i = T.length:=by omega
 rw [show T.take T.length = T from bmi];refine da ?_;refine ⟨.inl rfl, ?_⟩;exact ⟨_,_,rfl,bqk,CoR.refl _,uu⟩
end
section
open Go.Proofs
def bkd (T:List AS) (d:Fd) (s:AS) (hq:fdT d T = some s) (hT:T.length <= 8589934592):d4 br6 240 [.one (.ptr 1000 0),d.pc.toH] [(1000, .box [.ref 901 T.length]),(901, .arr true 1 46 T.length (lf sC T))] (.v (.one (.p (.raw (.bool true))))) [(1000, .box [.ref 901 (kj T s).length]),(901, .arr true 1 46 (kj T s).length (lf sC (kj T s)))] [1000]:=by
 refine hfx (nt:=59) Tryz.func240 ?_;refine sx7 ?_;refine m9 0 ?_;refine w_8 ?_;refine ae (ι:=Nat) (ka 0 (ka 3 kn)) (kb 1000 (kb 901 (kb 0 km))) (fun i=>⟨[(5,some (vI i))],[]⟩) (fun i=>i <= T.length /\ (T.take i).findSome? (fdQ d T) = none) (fun i=>T.length - i) (0) (⟨bmh _,rfl⟩) ⟨⟨⟨_,rfl,(CoR.refl _)⟩,trivial⟩,trivial⟩ ?_;rintro i ⟨hi,hI⟩;refine cq ?_;refine hcd (fun h0=>?_) (fun h0=>?_)
 ·
  have hil:i < T.length:=by omega
  refine w_8 ?_;refine ae (ι:=Nat) (ka 0 (ka 3 (ka 5 kn))) (kb 1000 (kb 901 (kb 0 km))) (fun k=>⟨[(6,some (vI k))],[]⟩) (fun k=>k <= T.length /\ (T.take k).findSome? (fdP d (T.getD i default)) = none) (fun k=>T.length - k) (0) (⟨bmh _,rfl⟩) ⟨⟨⟨_,rfl,(CoR.refl _)⟩,trivial⟩,trivial⟩ ?_;rintro k ⟨hk,hK⟩;refine cq ?_;refine hcd (fun h1=>?_) (fun h1=>?_)
  ·
   have hkl:k < T.length:=by omega
   refine a2a ?_;refine rq (out:=⟨_, .v (.one (.p (asC ((T.getD i default) ^^^ (T.getD k default)))))⟩) rfl rfl rfl (congrArg (fun z=>some (Out.mk _ (HR.v (HC.one (HV.p (.raw (.int .u32 z))))))) (auv _ _)) rfl ?_;refine cq ?_;refine ah rfl rfl (fun r2=>?_) (fun r2=>?_)
   ·
    have h2:=tz1 r2;have g1:((T.getD i default) ^^^ (T.getD k default)) &&& d.lhs = 0:=ve h2;(iterate 5 refine qy ?_ (hg:=(gtt r2)));refine w_2 ?_;refine ak _ rfl (fun r3=>?_) (fun r3=>?_)
    · have h3:=tz2 (cu (br r2 r3));have g2:¬ ((T.getD i default) ^^^ (T.getD k default)) &&& d.rhs = 0:=qb h3;have hq2:fdT d T = some (((T.getD i default) ^^^ (T.getD k default)) &&& d.rhs):=tx hil hI (show fdQ d T (T.getD i default) = _ from tx hkl hK (b4c g1 g2));rw [hq] at hq2;obtain rfl:=Option.some.inj hq2;refine cb ?_;refine aas ⟨[(0,some _),(3,some _),(7,some _)],[(1000,some _),(901,some _),(0,some _)]⟩ (by exact kk) ?_;refine w_6 ?_;refine gj rfl rfl rfl rfl rfl rfl (wgx Tryz.func255) (bjg T (((T.getD i default) ^^^ (T.getD k default)) &&& d.rhs) hT) (⟨wk.refl _,(CoP.of_eq (congrArg (fun z=>PV.raw (.int .u32 z)) (fj _ _))),trivial⟩) uu rfl rfl ?_;refine w_5 ?_;refine hrr ?_;exact ⟨_,_,rfl,bqk,CoR.refl _,uu⟩
    have h3:=tz1 (ct (br r2 r3));have g2:((T.getD i default) ^^^ (T.getD k default)) &&& d.rhs = 0:=ve h3;refine w_6 ?_;refine lpz (k + 1) ⟨⟨⟨_,rfl,(CoR.refl _)⟩,tt⟩,uu⟩ ?_;exact ⟨by omega,(jr hkl hK).trans (by first | exact aiy g1 | exact ajb g1 g2)⟩
   have h2:=tz2 r2;have g1:¬ ((T.getD i default) ^^^ (T.getD k default)) &&& d.lhs = 0:=qb h2;(iterate 5 refine k9 (gft r2) ?_);refine rq rfl rfl rfl rfl rfl ?_ (hp:=r2);refine w_8 ?_;refine lpz (k + 1) ⟨⟨⟨_,rfl,(CoR.refl _)⟩,tt⟩,uu⟩ ?_
   exact ⟨by omega,(jr hkl hK).trans (by first | exact aiy g1 | exact ajb g1 g2)⟩
  obtain rfl:k = T.length:=by omega
  rw [show T.take T.length = T from bmi] at hK;refine w_6 ?_;refine lpz (i + 1) ⟨⟨⟨_,rfl,(CoR.refl _)⟩,tt⟩,uu⟩ ?_;exact ⟨by omega,(jr hil hI).trans hK⟩
 obtain rfl:i = T.length:=by omega
 rw [show T.take T.length = T from bmi] at hI;refine w_5 ?_;refine hrr ?_;exact absurd (hq.symm.trans (show fdT d T = none from hI)) (fun e=>by cases e)
def bl1 (T:List AS) (d:Fd) (hq:fdT d T = none) (hT:T.length <= 8589934592):d4 br6 240 [.one (.ptr 1000 0),d.pc.toH] [(1000, .box [.ref 901 T.length]),(901, .arr true 1 46 T.length (lf sC T))] (.v (.one (.p (.raw (.bool false))))) [(1000, .box [.ref 901 T.length]),(901, .arr true 1 46 T.length (lf sC T))] [1000]:=by
 refine hfx (nt:=59) Tryz.func240 ?_;refine sx7 ?_;refine m9 0 ?_;refine w_8 ?_;refine ae (ι:=Nat) (ka 0 (ka 3 kn)) (kb 1000 (kb 901 (kb 0 km))) (fun i=>⟨[(5,some (vI i))],[]⟩) (fun i=>i <= T.length /\ (T.take i).findSome? (fdQ d T) = none) (fun i=>T.length - i) (0) (⟨bmh _,rfl⟩) ⟨⟨⟨_,rfl,(CoR.refl _)⟩,trivial⟩,trivial⟩ ?_;rintro i ⟨hi,hI⟩;refine cq ?_;refine hcd (fun h0=>?_) (fun h0=>?_)
 ·
  have hil:i < T.length:=by omega
  refine w_8 ?_;refine ae (ι:=Nat) (ka 0 (ka 3 (ka 5 kn))) (kb 1000 (kb 901 (kb 0 km))) (fun k=>⟨[(6,some (vI k))],[]⟩) (fun k=>k <= T.length /\ (T.take k).findSome? (fdP d (T.getD i default)) = none) (fun k=>T.length - k) (0) (⟨bmh _,rfl⟩) ⟨⟨⟨_,rfl,(CoR.refl _)⟩,trivial⟩,trivial⟩ ?_;rintro k ⟨hk,hK⟩;refine cq ?_;refine hcd (fun h1=>?_) (fun h1=>?_)
  ·
   have hkl:k < T.length:=by omega
   refine a2a ?_;refine rq (out:=⟨_, .v (.one (.p (asC ((T.getD i default) ^^^ (T.getD k default)))))⟩) rfl rfl rfl (congrArg (fun z=>some (Out.mk _ (HR.v (HC.one (HV.p (.raw (.int .u32 z))))))) (auv _ _)) rfl ?_;refine cq ?_;refine ah rfl rfl (fun r2=>?_) (fun r2=>?_)
   ·
    have h2:=tz1 r2;have g1:((T.getD i default) ^^^ (T.getD k default)) &&& d.lhs = 0:=ve h2;(iterate 5 refine qy ?_ (hg:=(gtt r2)));refine w_2 ?_;refine ak _ rfl (fun r3=>?_) (fun r3=>?_)
    · have h3:=tz2 (cu (br r2 r3));have g2:¬ ((T.getD i default) ^^^ (T.getD k default)) &&& d.rhs = 0:=qb h3;have hq2:fdT d T = some (((T.getD i default) ^^^ (T.getD k default)) &&& d.rhs):=tx hil hI (show fdQ d T (T.getD i default) = _ from tx hkl hK (b4c g1 g2));exact absurd (hq.symm.trans hq2) (fun e=>by cases e)
    have h3:=tz1 (ct (br r2 r3));have g2:((T.getD i default) ^^^ (T.getD k default)) &&& d.rhs = 0:=ve h3;refine w_6 ?_;refine lpz (k + 1) ⟨⟨⟨_,rfl,(CoR.refl _)⟩,tt⟩,uu⟩ ?_;exact ⟨by omega,(jr hkl hK).trans (by first | exact aiy g1 | exact ajb g1 g2)⟩
   have h2:=tz2 r2;have g1:¬ ((T.getD i default) ^^^ (T.getD k default)) &&& d.lhs = 0:=qb h2;(iterate 5 refine k9 (gft r2) ?_);refine rq rfl rfl rfl rfl rfl ?_ (hp:=r2);refine w_8 ?_;refine lpz (k + 1) ⟨⟨⟨_,rfl,(CoR.refl _)⟩,tt⟩,uu⟩ ?_
   exact ⟨by omega,(jr hkl hK).trans (by first | exact aiy g1 | exact ajb g1 g2)⟩
  obtain rfl:k = T.length:=by omega
  rw [show T.take T.length = T from bmi] at hK;refine w_6 ?_;refine lpz (i + 1) ⟨⟨⟨_,rfl,(CoR.refl _)⟩,tt⟩,uu⟩ ?_;exact ⟨by omega,(jr hil hI).trans hK⟩
 obtain rfl:i = T.length:=by omega
 rw [show T.take T.length = T from bmi] at hI;refine w_5 ?_;refine hrr ?_;exact ⟨_,_,rfl,bqk,CoR.refl _,uu⟩
end
section
structure MvO (d:Fd) (T0:List AS) (x:Nat × List AS × Nat):Prop where
 nd:x.2.1.Nodup
 pre:T0 <+: x.2.1
 res:mvO d x.1 x.2.1 x.2.2 = mvO d FU2 T0 0
 le:x.2.2 <= x.2.1.length
 fuel:4294967296 < x.1 + x.2.2
structure MvI (d:Fd) (T:List AS) (i:Nat) (x:Nat × List AS × Nat):Prop where
 nd:x.2.1.Nodup
 pre:T <+: x.2.1
 res:mvI d x.1 x.2.1 i x.2.2 = mvI d 8589934592 T i 0
 le:x.2.2 <= x.2.1.length
 fuel:4294967296 < x.1 + x.2.2
section
variable {d:Fd} {T0 T:List AS} {i f k:Nat}
theorem MvO.start (h:T.Nodup):MvO d T (FU2,T,0):=⟨h,bpa _,rfl,bmh _,by show 4294967296 < 8589934592 + 0;omega⟩
theorem MvI.start (h:T.Nodup):MvI d T i (8589934592,T,0):=⟨h,bpa _,rfl,bmh _,by show 4294967296 < 8589934592 + 0;omega⟩
theorem MvO.pos (h:MvO d T0 (f,T,i)):0 < f /\ T.length <= 4294967296:=by
 have h1:=xm h.nd;have h2:=h.le;have h3:=h.fuel;dsimp only at h1 h2 h3;omega
section
variable {U:List AS}
theorem MvI.pos (h:MvI d T i (f,U,k)):0 < f /\ U.length <= 4294967296:=by
 have h1:=xm h.nd;have h2:=h.le;have h3:=h.fuel;dsimp only at h1 h2 h3;omega
theorem MvO.done (h:MvO d T0 (f,T,i)) (hi:¬ i < T.length):T = mvO d FU2 T0 0:=by
 have hp:=h.pos.1;have hr:mvO d f T i = mvO d FU2 T0 0:=h.res;obtain ⟨g,rfl⟩:∃ g,f = g + 1:=⟨f - 1,by omega⟩;unfold mvO at hr;rw [if_neg hi] at hr;exact hr
theorem MvI.done (h:MvI d T i (f,U,k)) (hk:¬ k < U.length):U = mvI d 8589934592 T i 0:=by
 have hp:=h.pos.1;have hr:mvI d f U i k = mvI d 8589934592 T i 0:=h.res;obtain ⟨g,rfl⟩:∃ g,f = g + 1:=⟨f - 1,by omega⟩;unfold mvI at hr;rw [if_neg hk] at hr;exact hr
theorem MvI.next (h:MvI d T i (f,U,k)) (hk:k < U.length):MvI d T i (f - 1,mvS d U i k,k + 1):=by
 have hp:=h.pos.1;have hr:mvI d f U i k = mvI d 8589934592 T i 0:=h.res;obtain ⟨g,rfl⟩:∃ g,f = g + 1:=⟨f - 1,by omega⟩;unfold mvI at hr;rw [if_pos hk] at hr;have hf:4294967296 < g + 1 + k:=h.fuel;exact ⟨av0 h.nd,h.pre.trans (a3q d U i k),hr,bmo hk (a3q d U i k).length_le,by show 4294967296 < g + (k + 1);omega⟩
theorem MvO.next (h:MvO d T0 (f,T,i)) (hi:i < T.length) (hU:U = mvI d 8589934592 T i 0):MvO d T0 (f - 1,U,i + 1):=by
 subst hU;have hp:=h.pos.1;have hr:mvO d f T i = mvO d FU2 T0 0:=h.res;obtain ⟨g,rfl⟩:∃ g,f = g + 1:=⟨f - 1,by omega⟩;unfold mvO at hr;rw [if_pos hi] at hr;have hf:4294967296 < g + 1 + i:=h.fuel;exact ⟨akg h.nd,h.pre.trans (z8 d _ T i 0),hr,bmo hi (z8 d _ T i 0).length_le,by show 4294967296 < g + (i + 1);omega⟩
def uw (h:agB d (U.getD i default) (U.getD k default) = false):mvS d U i k = U:=by unfold mvS;rw [if_neg (by rw [h];decide)]
def mc (h:agB d (U.getD i default) (U.getD k default) = true):mvS d U i k = gt U (lc d (U.getD i default) (U.getD k default)):=by unfold mvS;rw [if_pos h]
def ao1 {T:List AS} {q:AS} (hp:T <+: U) (h:¬ q ∈ U):true = decide (T.length < (gt U q).length):=by
 have h1:=hp.length_le;rw [aln h];exact (decide_eq_true bqi).symm
def an4 {T:List AS} {q:AS} (h:q ∈ U):decide (T.length < U.length) = decide (T.length < (gt U q).length):=by rw [show gt U q = U from if_pos h]
def bih (r k l h:AS):ay .or .u32 (ay .and .u32 (asI r) (ay .or .u32 (asI l) (asI h))) (ay .andNot .u32 (asI k) (ay .or .u32 (asI l) (asI h))) = asI (lc ⟨l,h⟩ r k):=by
 rw [bOr,fj,i7,bOr];rfl
def bku {r k:AS} (h:ay .and .u32 (ay .xor .u32 (asI r) (asI k)) (asI d.lhs) = 0):agB d r k = true:=by
 rw [auv,fj] at h;exact decide_eq_true (c6.1 h)
def bkq {r k:AS} (h:¬ ay .and .u32 (ay .xor .u32 (asI r) (asI k)) (asI d.lhs) = 0):agB d r k = false:=by
 rw [auv,fj] at h;exact decide_eq_false fun e=>h (congrArg asI e)
end
end
end
section
open Go.Proofs
def bkl (T:List AS) (d:Fd) (hn:T.Nodup):d4 br6 241 [.one (.ptr 1000 0),d.pc.toH] [(1000, .box [.ref 1001 T.length]),(1001, .arr true 1 46 T.length (lf sC T))] (.v (.one (.p (.raw (.bool (decide (T.length < (mvO d FU2 T 0).length))))))) [(1000, .box [.ref 1001 (mvO d FU2 T 0).length]),(1001, .arr true 1 46 (mvO d FU2 T 0).length (lf sC (mvO d FU2 T 0)))] [1000,1001]:=by
 refine hfx (nt:=77) Tryz.func241 ?_;refine sx7 ?_;refine m9 0 ?_;refine dy ?_;refine ae (ι:=(Nat × List AS × Nat)) (ka 0 (ka 3 kn)) (kb 0 km) (fun x=>⟨[(5,some (vB (decide (T.length < x.2.1.length)))),(6,some (vI x.2.2))],[(1000,some (.box [.ref 1001 x.2.1.length])),(1001,some (.arr true 1 46 x.2.1.length (lf sC x.2.1)))]⟩) (fun x=>MvO d T x) (fun x=>x.1) ((FU2,T,0)) (MvO.start hn) ⟨⟨⟨_,rfl,(cob bqm)⟩,⟨_,rfl,(CoR.refl _)⟩,trivial⟩,uu⟩ ?_;rintro ⟨f,T1,i⟩ hO;have hOl:=hO.pos.2;refine cq ?_;refine hcd (fun h0=>?_) (fun h0=>?_)
 ·
  have hil:i < T1.length:=by omega
  have hfI:=hO.pos.1;refine w_8 ?_;refine ae (ι:=(Nat × List AS × Nat)) (ka 0 (ka 3 (ka 6 kn))) (kb 0 km) (fun y=>⟨[(5,some (vB (decide (T.length < y.2.1.length)))),(7,some (vI y.2.2))],[(1000,some (.box [.ref 1001 y.2.1.length])),(1001,some (.arr true 1 46 y.2.1.length (lf sC y.2.1)))]⟩) (fun y=>MvI d T1 i y) (fun y=>y.1) ((8589934592,T1,0)) (MvI.start hO.nd) ⟨⟨⟨_,rfl,(CoR.refl _)⟩,⟨_,rfl,(CoR.refl _)⟩,trivial⟩,uu⟩ ?_;rintro ⟨g,U,k⟩ hI;have hIl:=hI.pos.2;refine cq ?_;refine hcd (fun h1=>?_) (fun h1=>?_)
  ·
   have hkl:k < U.length:=by omega
   have hil2:i < U.length:=bok hil hI.pre.length_le;have hUl:=hI.pos.2;have hpre:T <+: U:=hO.pre.trans hI.pre;have hg0:=hI.pos.1;refine bfp ?_;refine ah rfl rfl (fun r2=>?_) (fun r2=>?_)
   ·
    have h2:=tz1 r2;have ha:agB d (U.getD i default) (U.getD k default) = true:=bku h2;(iterate 28 refine qy ?_ (hg:=(gtt r2)));refine gj rfl rfl rfl rfl rfl rfl afm (azk U (lc d (U.getD i default) (U.getD k default)) bqi) (⟨wk.refl _,(CoP.of_eq (congrArg (fun z=>PV.raw (.int .u32 z)) (bih _ _ _ _))),trivial⟩) uu rfl (gtt r2) ?_;refine w_3 ?_;refine ak _ rfl (fun r3=>?_) (fun r3=>?_)
    ·
     have h3:=br r2 r3;have hin:¬ (lc d (U.getD i default) (U.getD k default)) ∈ U:=a1w (by simpa using h3);refine w_8 ?_;refine ⟨(g - 1,mvS d U i k,k + 1), ?_, ?_, ?_⟩
     · exact hI.next hkl
     · dsimp only;omega
     exact ⟨⟨⟨_,rfl,(by first | (rw [uw ha];exact CoR.refl _) | (rw [mc ha];exact cob (ao1 hpre hin)) | (rw [mc ha];exact cob (an4 hin)))⟩,⟨_,rfl,(CoR.refl _)⟩,tt⟩,⟨⟨_,rfl,(by first | (rw [uw ha];exact CoO.refl _) | (rw [mc ha];exact CoO.refl _))⟩,⟨_,rfl,(by first | (rw [uw ha];exact CoO.refl _) | (rw [mc ha];exact CoO.refl _))⟩,uu⟩⟩
    have h3:=br r2 r3;have hin:(lc d (U.getD i default) (U.getD k default)) ∈ U:=a0i (by simpa using h3);refine w_6 ?_;refine ⟨(g - 1,mvS d U i k,k + 1), ?_, ?_, ?_⟩
    · exact hI.next hkl
    · dsimp only;omega
    exact ⟨⟨⟨_,rfl,(by first | (rw [uw ha];exact CoR.refl _) | (rw [mc ha];exact cob (ao1 hpre hin)) | (rw [mc ha];exact cob (an4 hin)))⟩,⟨_,rfl,(CoR.refl _)⟩,tt⟩,⟨⟨_,rfl,(by first | (rw [uw ha];exact CoO.refl _) | (rw [mc ha];exact CoO.refl _))⟩,⟨_,rfl,(by first | (rw [uw ha];exact CoO.refl _) | (rw [mc ha];exact CoO.refl _))⟩,uu⟩⟩
   have h2:=tz2 r2;have ha:agB d (U.getD i default) (U.getD k default) = false:=bkq h2;(iterate 29 refine k9 (gft r2) ?_);refine rq rfl rfl rfl rfl rfl ?_ (hp:=r2);refine w_9 ?_;refine ⟨(g - 1,mvS d U i k,k + 1), ?_, ?_, ?_⟩
   · exact hI.next hkl
   · dsimp only;omega
   exact ⟨⟨⟨_,rfl,(by first | (rw [uw ha];exact CoR.refl _) | (rw [mc ha];exact cob (ao1 hpre hin)) | (rw [mc ha];exact cob (an4 hin)))⟩,⟨_,rfl,(CoR.refl _)⟩,tt⟩,⟨⟨_,rfl,(by first | (rw [uw ha];exact CoO.refl _) | (rw [mc ha];exact CoO.refl _))⟩,⟨_,rfl,(by first | (rw [uw ha];exact CoO.refl _) | (rw [mc ha];exact CoO.refl _))⟩,uu⟩⟩
  have hU:=hI.done bqi;have hT1l:=hO.pos.2;refine w_6 ?_;refine ⟨(f - 1,U,i + 1), ?_, ?_, ?_⟩
  · exact hO.next hil hU
  · dsimp only;omega
  exact ⟨⟨⟨_,rfl,(CoR.refl _)⟩,⟨_,rfl,(CoR.refl _)⟩,tt⟩,uu⟩
 have hT:T1 = mvO d FU2 T 0:=hO.done bqi;subst hT;refine w_6 ?_;refine hrr ?_;exact ⟨_,_,rfl,bqk,CoR.refl _,uu⟩
end
section
structure ChI (l m:List Fd) (R:List AS) (x:Nat × List AS × Bool):Prop where
 nd:x.2.1.Nodup
 t:x.2.2 = true -> chF l m x.1 x.2.1 = R /\ muT x.2.1 < x.1
 f:x.2.2 = false -> x.2.1 = R
def au3 (x:Nat × List AS × Bool):Nat:=x.1 + (bif x.2.2 then 1 else 0)
def b7l {f:Nat} {T U:List AS} {c:Bool} (h:0 < f):au3 (f - 1,U,c) < au3 (f,T,true):=by
 cases c <;> simp only [au3,cond_true,cond_false] <;> omega
theorem ChI.start (l m:List Fd) (rest:AS):ChI l m (chT l m rest) (MU,ab8 rest,true):=⟨b4e rest,fun _=>⟨rfl,axi _⟩,fun h=>by cases h⟩
theorem ChI.next {l m:List Fd} {R T:List AS} {f:Nat} (h:ChI l m R (f,T,true)):ChI l m R (f - 1,(o9 l m T).1,(o9 l m T).2) /\ 0 < f:=by
 obtain ⟨h1,h2⟩:=h.t rfl;have h2:muT T < f:=h2;have h1:chF l m f T = R:=h1;have hn:T.Nodup:=h.nd;obtain ⟨g,rfl⟩:∃ g,f = g + 1:=⟨f - 1,by omega⟩;unfold chF at h1;refine ⟨⟨a9g aj4 aul hn,fun hc=>?_,fun hc=>?_⟩,by omega⟩
 · have hc:(o9 l m T).2 = true:=hc
   rw [if_pos hc] at h1;have:=awv hn hc;exact ⟨h1,by show muT (o9 l m T).1 < g;omega⟩
 have hc:(o9 l m T).2 = false:=hc;rw [if_neg (by rw [hc];decide)] at h1;exact h1
def lz (l:List Fd) (T:List AS) (i:Nat):TC:=(l.take i).foldl fdR (T,false)
def aht {l:List Fd} {T:List AS} {i:Nat} (h:i < l.length):lz l T (i + 1) = fdR (lz l T i) (l.getD i default):=by
 unfold lz;rw [am h,bnn];rfl
def ase {l:List Fd} {T:List AS} {i:Nat} (h:T.Nodup):(lz l T i).1.Nodup:=a93 (fs:=l) aj4 (l.take i) (T,false) (fun _ h=>bov h) h
def mvX (m:List Fd) (x:TC) (i:Nat):TC:=(m.take i).foldl mvR x
def wa {m:List Fd} {x:TC} {i:Nat} (h:i < m.length):mvX m x (i + 1) = mvR (mvX m x i) (m.getD i default):=by
 unfold mvX;rw [am h,bnn];rfl
def bel {m:List Fd} {x:TC} {i:Nat} (h:x.1.Nodup):(mvX m x i).1.Nodup:=afl (ms:=m) aul (m.take i) x (fun _ h=>bov h) h
def bj3 (l m:List Fd) (T:List AS):mvX m (lz l T l.length) m.length = o9 l m T:=by
 unfold mvX lz o9;rw [bmi,bmi]
structure FdI (d:Fd) (U0:List AS) (x:Nat × List AS × Bool):Prop where
 nd:x.2.1.Nodup
 res:s6 d x.1 x.2.1 = s6 d FU2 U0
 fuel:(orL x.2.1).toNat < x.1
 f:x.2.2 = false -> x.2.1 = U0
 t:x.2.2 = true -> (fdT d U0).isSome = true
section
variable {d:Fd} {U0 U:List AS} {g:Nat} {b c:Bool} {s:AS}
theorem FdI.start (h:U0.Nodup):FdI d U0 (FU2,U0,false):=⟨h,rfl,bok (orL U0).isLt (show 2 ^ 32 <= FU2 by decide),fun _=>rfl,fun h=>by cases h⟩
theorem FdI.len (h:FdI d U0 (g,U,b)):U.length <= 8589934592:=bmo (xm (show U.Nodup from h.nd)) bqo
theorem FdI.next (h:FdI d U0 (g,U,b)) (hq:fdT d U = some s):FdI d U0 (g - 1,kj U s,true) /\ 0 < g:=by
 have h3:(orL U).toNat < g:=h.fuel;have h2:s6 d g U = s6 d FU2 U0:=h.res;obtain ⟨k,rfl⟩:∃ k,g = k + 1:=⟨g - 1,by omega⟩;rw [a1g hq] at h2;have h4:=aft hq;refine ⟨⟨ae0 U s,h2,(by show (orL (kj U s)).toNat < k;omega),(fun hc=>by cases hc),fun _=>?_⟩,by omega⟩
 cases hb:b with
 | true=>exact h.t hb
 | false =>
  have e:U = U0:=h.f hb;rw [<- e,hq];rfl
theorem FdI.done (h:FdI d U0 (g,U,b)) (hq:fdT d U = none):(U,c || b) = fdR (U0,c) d:=by
 have h2:s6 d g U = s6 d FU2 U0:=h.res;rw [a0w hq] at h2;unfold fdR;rw [<- h2]
 cases hb:b with
 | true=>rw [h.t hb]
 | false =>
  have e:U = U0:=h.f hb;rw [<- e,hq];rfl
end
def a7y {x:TC} {d:Fd}:mvR x d = (mvO d FU2 x.1 0,x.2 || decide (x.1.length < (mvO d FU2 x.1 0).length)):=rfl
end
section
open Go.Proofs
def awm (n:Int) (l m:List Fd) (x:AS):a6 br6 206 [pI n,pP (fdl l),pP (fdl m),pA x] (a8 [.agg [asl (chT l m (a7 n &&& ~~~x))]]):=by
 refine hpx (nt:=44) Tryz.func206 ?_;refine c8 1 rfl fun hbl=>?_;refine c8 2 rfl fun hbm=>?_;refine sx7 ?_;refine m9 900 ?_;refine w_3 ?_;refine m9 901 ?_;refine qy ?_;refine m9 902 ?_;refine w_5 ?_;refine qcx lg (li n) ?_;refine w_2 ?_;refine gj rfl rfl rfl rfl rfl rfl afm (((azk [0] (a7 n &&& ~~~x) bqo).swap 1000 902).swap 1001 901) (⟨wk.refl _,(CoP.of_eq (congrArg (fun z=>PV.raw (.int .u32 z)) (i7 _ _))),trivial⟩) ⟨u9,⟨_,rfl,(a0c (CoP.refl _))⟩,trivial⟩ rfl rfl ?_;refine w_7 ?_;refine ae (ι:=(Nat × List AS × Bool)) (ka 1 (ka 2 (ka 8 (ka 9 kn)))) (kb 900 km) (fun y=>⟨[(10,some (vB y.2.2))],[(902,some (.box [.ref 901 y.2.1.length])),(901,some (.arr true 1 46 y.2.1.length (lf sC y.2.1)))]⟩) (fun y=>ChI l m (chT l m (a7 n &&& ~~~x)) y) (fun y=>au3 y) ((MU,ab8 (a7 n &&& ~~~x),true)) (ChI.start l m (a7 n &&& ~~~x)) ⟨⟨⟨_,rfl,(CoR.refl _)⟩,trivial⟩,uu⟩ ?_;rintro ⟨f,T,ag⟩ hC;refine w_5 ?_;refine ak _ rfl (fun r0=>?_) (fun r0=>?_)
 ·
  have h0:=r0;obtain rfl:ag = true:=r0;obtain ⟨hC2,hf⟩:=hC.next
  have hT:T.Nodup:=hC.nd;refine dy ?_;refine b5 (ka 1 (ka 2 (ka 8 (ka 9 kn)))) (kb 900 km) (fun i=>⟨[(10,some (vB (lz l T i).2)),(11,some (vI i))],[(902,some (.box [.ref 901 (lz l T i).1.length])),(901,some (.arr true 1 46 (lz l T i).1.length (lf sC (lz l T i).1)))]⟩) l.length ⟨⟨⟨_,rfl,(CoR.refl _)⟩,⟨_,rfl,(CoR.refl _)⟩,trivial⟩,uu⟩ ?_;rintro i hi;refine w_8 ?_;refine hcd (fun h1=>?_) (fun h1=>?_)
  ·
   have hil:i < l.length:=by omega
   refine w_4 ?_;refine ae (ι:=(Nat × List AS × Bool)) (ka 1 (ka 2 (ka 8 (ka 9 (ka 11 kn))))) (kb 900 km) (fun y=>⟨[(10,some (vB ((lz l T i).2 || y.2.2)))],[(902,some (.box [.ref 901 y.2.1.length])),(901,some (.arr true 1 46 y.2.1.length (lf sC y.2.1)))]⟩) (fun y=>FdI (l.getD i default) (lz l T i).1 y) (fun y=>y.1) ((FU2,(lz l T i).1,false)) (FdI.start (ase hT)) ⟨⟨⟨_,rfl,(cob bqm)⟩,trivial⟩,uu⟩ ?_;rintro ⟨g,U,b⟩ hF;refine w_2 ?_
   rcases hq:fdT (l.getD i default) U with _ | s
   ·
    refine w_5 ?_;refine fc9 (wgx Tryz.func240) ((bl1 U (l.getD i default) hq hF.len).swap 1000 902) uu ?_;refine bz ?_;refine ak _ rfl (fun r2=>?_) (fun r2=>?_)
    · have h2:=r2;cases r2
    have h2:=r2;have hd:=hF.done (c:=(lz l T i).2) hq;have hd1:U = (lz l T (i + 1)).1:=by rw [aht hil];exact congrArg Prod.fst hd
    have hd2:((lz l T i).2 || b) = (lz l T (i + 1)).2:=by rw [aht hil];exact congrArg Prod.snd hd
    refine w_6 ?_;exact lpx (i + 1) ⟨⟨⟨_,rfl,(by rw [<- hd2];exact CoR.refl _)⟩,⟨_,rfl,(CoR.refl _)⟩,tt⟩,⟨⟨_,rfl,(by rw [<- hd1];exact CoO.refl _)⟩,⟨_,rfl,(by rw [<- hd1];exact CoO.refl _)⟩,uu⟩⟩
   refine w_5 ?_;refine fc9 (wgx Tryz.func240) ((bkd U (l.getD i default) s hq hF.len).swap 1000 902) uu ?_;refine bz ?_;refine ak _ rfl (fun r3=>?_) (fun r3=>?_)
   ·
    have h3:=r3;obtain ⟨hF2,hg0⟩:=hF.next hq
    refine w_5 ?_;refine ⟨(g - 1,kj U s,true), ?_, ?_, ?_⟩
    · exact hF2
    · dsimp only;omega
    exact ⟨⟨⟨_,rfl,(cob bqm)⟩,tt⟩,uu⟩
   have h3:=r3;cases r3
  obtain rfl:i = l.length:=by omega
  refine w_6 ?_;refine b5 (ka 1 (ka 2 (ka 8 (ka 9 kn)))) (kb 900 km) (fun i=>⟨[(10,some (vB (mvX m (lz l T l.length) i).2)),(12,some (vI i))],[(902,some (.box [.ref 901 (mvX m (lz l T l.length) i).1.length])),(901,some (.arr true 1 46 (mvX m (lz l T l.length) i).1.length (lf sC (mvX m (lz l T l.length) i).1)))]⟩) m.length ⟨⟨⟨_,rfl,(CoR.refl _)⟩,⟨_,rfl,(CoR.refl _)⟩,trivial⟩,uu⟩ ?_;rintro i hi;refine w_8 ?_;refine hcd (fun h4=>?_) (fun h4=>?_)
  ·
   have hil:i < m.length:=by omega
   refine w_9 ?_;refine fc9 (wgx Tryz.func241) (((bkl (mvX m (lz l T l.length) i).1 (m.getD i default) (bel (ase hT))).swap 1000 902).swap 1001 901) uu ?_;refine bz ?_;refine ak _ rfl (fun r5=>?_) (fun r5=>?_)
   · have h5:=r5;have hch:=a0i r5;refine w_8 ?_;exact lpx (i + 1) ⟨⟨⟨_,rfl,(by rw [wa hil,a7y];first | exact cob (by rw [decide_eq_true hch];simp) | exact cob (by rw [decide_eq_false hch];simp))⟩,⟨_,rfl,(CoR.refl _)⟩,tt⟩,⟨⟨_,rfl,(by rw [wa hil,a7y];exact CoO.refl _)⟩,⟨_,rfl,(by rw [wa hil,a7y];exact CoO.refl _)⟩,uu⟩⟩
   have h5:=r5;have hch:=a1w r5;refine w_6 ?_;exact lpx (i + 1) ⟨⟨⟨_,rfl,(by rw [wa hil,a7y];first | exact cob (by rw [decide_eq_true hch];simp) | exact cob (by rw [decide_eq_false hch];simp))⟩,⟨_,rfl,(CoR.refl _)⟩,tt⟩,⟨⟨_,rfl,(by rw [wa hil,a7y];exact CoO.refl _)⟩,⟨_,rfl,(by rw [wa hil,a7y];exact CoO.refl _)⟩,uu⟩⟩
  obtain rfl:i = m.length:=by omega
  have hron:=bj3 l m T;refine da ?_;refine ⟨(f - 1,(o9 l m T).1,(o9 l m T).2), ?_, ?_, ?_⟩
  · exact hC2
  · exact b7l hf
  exact ⟨⟨⟨_,rfl,(by rw [<- hron];exact CoR.refl _)⟩,tt⟩,⟨⟨_,rfl,(by rw [<- hron];exact CoO.refl _)⟩,⟨_,rfl,(by rw [<- hron];exact CoO.refl _)⟩,uu⟩⟩
 have h0:=r0;obtain rfl:ag = false:=r0;have hl:T = (chT l m (a7 n &&& ~~~x)):=hC.f rfl;subst hl;refine w_6 ?_;refine aeo 900 0 rfl rfl rfl rfl rfl ?_;exact hx8 rfl rfl rfl (⟨CoC.refl _,trivial⟩)
def b4a (T:List AS):a6 br6 207 [.agg [asl T]] (a8 [pA (orL T)]):=by
 refine hpx (nt:=20) Tryz.func207 ?_;refine sx7 ?_;refine m9 0 ?_;refine w_8 ?_;refine b54 0 0 rfl rfl fun hb=>?_;refine w_4 ?_;refine b5 (ka 1 kn) (kb 0 km) (fun i=>⟨[(3,some (vA (orL (T.take i)))),(4,some (vI i))],[]⟩) T.length ⟨⟨⟨_,rfl,(CoR.refl _)⟩,⟨_,rfl,(CoR.refl _)⟩,trivial⟩,trivial⟩ ?_;rintro i hi;refine w_9 ?_;refine hcd (fun h0=>?_) (fun h0=>?_)
 · refine aad ?_;exact lpx (i + 1) ⟨⟨⟨_,rfl,(bj ((bOr _ _).trans (congrArg asI (wt bqi).symm)))⟩,⟨_,rfl,(CoR.refl _)⟩,tt⟩,uu⟩
 obtain rfl:i = T.length:=by omega
 rw [show T.take T.length = T from bmi];refine v_6 ?_;exact CoL.refl _
def av7 (n:Int) (l m:List Fd) (x:AS):a6 br6 159 [pI n,pP (fdl l),pP (fdl m),pA x] (a8 [pA (a7 n &&& ~~~(orL (chT l m (a7 n &&& ~~~x))))]):=by
 refine hpx (nt:=18) Tryz.func159 ?_;refine w_7 ?_;refine qcx lg (li n) ?_;refine w_4 ?_;refine qcx (wgx Tryz.func206) (awm n l m x) ?_;refine qcx (wgx Tryz.func207) (b4a (chT l m (a7 n &&& ~~~x))) ?_;refine v_3 ?_;exact ⟨cci (i7 _ _),trivial⟩
end
end Go.Hx
