/- A part of the proof: Bz6 Bz7 Bz8 Bz9 Y12 Jp4 Jw5 Jw6 Jw7 Jw8 Jrw4. -/
import Derived.Test.YteklilhbjjofbaaGreatDoorLc33
set_option linter.all false
set_option maxRecDepth 100000
set_option maxHeartbeats 1000000
namespace Go.Hx
section
def fdP (d:Fd) (r k:AS):Option AS:=if (r ^^^ k) &&& d.lhs = 0 then (if (r ^^^ k) &&& d.rhs = 0 then none else some ((r ^^^ k) &&& d.rhs)) else none
def fdQ (d:Fd) (T:List AS) (r:AS):Option AS:=T.findSome? (fdP d r)
def fdT (d:Fd) (T:List AS):Option AS:=T.findSome? (fdQ d T)
section
variable {T:List AS} {d:Fd}
def anw {s:AS} (h:fdT d T = some s):∃ r ∈ T,∃ k ∈ T,agB d r k = true /\ s = (r ^^^ k) &&& d.rhs /\ s ≠ 0:=by
 unfold fdT at h;obtain ⟨r,hr,h⟩:=b5g h;unfold fdQ at h;obtain ⟨k,hk,h⟩:=b5g h;unfold fdP at h;split at h
 · rename_i h1
   split at h
   · cases h
   rename_i h2;cases h;exact ⟨r,hr,k,hk,decide_eq_true h1,rfl,h2⟩
 cases h
def uk (h:T.Nodup):T.length <= 4294967296:=by
 have h1:(T.map BitVec.toNat).Nodup:=List.Pairwise.map _ (fun a b hab e=>hab (b59 e)) h
 have h2:∀ x ∈ T.map BitVec.toNat,x < 4294967296:=by
  intro x hx;obtain ⟨a,_,rfl⟩:=b3a.1 hx;exact a.isLt
 have hlen:(T.map BitVec.toNat).length = T.length:=b3g _;rw [<- hlen]
 have key:∀ (N:Nat) (l:List Nat),l.Nodup -> (∀ x ∈ l,x < N) -> l.length <= N:=by
  intro N
  induction N with
  | zero =>
   intro l _ hl
   cases l with
   | nil=>exact b2v _
   | cons a l=>exact absurd (hl a b5v) (b2y _)
  | succ N ih =>
   intro l hn hl
   have h3:=ih (l.filter fun x=>!decide (x = N)) (hn.filter _) fun x hx=>by
    rw [b4x] at hx;have:=hl x hx.1;have hx2:¬ x = N:=by simpa using hx.2
    omega
   have h4:l.length <= (l.filter fun x=>!decide (x = N)).length + 1:=by
    have h5:∀ l:List Nat,l.length = (l.filter fun x=>!decide (x = N)).length + l.countP fun x=>decide (x = N):=by
     intro l
     induction l with
     | nil=>rfl
     | cons a l ih =>
      by_cases e:a = N
      · simp [b4p,b4z,e,ih];omega
      simp [b4p,b4z,e,ih];omega
    have h6:=h5 l
    have h7:(l.countP fun x=>decide (x = N)) <= 1:=by
     have:=hn.count (a:=N)
     have e:(l.countP fun x=>decide (x = N)) = l.count N:=by
      unfold List.count;congr 1
     rw [e]
     first | exact List.nodup_iff_count.1 hn N | (rw [this];split <;> omega)
    omega
   omega
 exact key _ _ h1 h2
def tc {i:Nat} (hi:i < 32):(orL T).getLsbD i = T.any fun r=>r.getLsbD i:=by
 unfold orL
 have:∀ (T:List AS) (o:AS),(T.foldl (· ||| ·) o).getLsbD i = (o.getLsbD i || T.any fun r=>r.getLsbD i):=by
  intro T
  induction T with
  | nil=>intro o;simp
  | cons a T ih=>intro o;rw [List.foldl_cons,ih,b4l,List.any_cons,Bool.or_assoc]
 rw [this];simp
def aqu {s:AS}:orL (n9 T s) = orL T &&& ~~~s:=by
 apply abd;intro i hi;rw [tc hi,mz hi,tc hi]
 cases hs:s.getLsbD i with
 | true =>
  simp only [Bool.not_true,Bool.and_false];rw [b4a];intro z hz;obtain ⟨r,hr,rfl⟩:=a33.1 hz;rw [mz hi,hs];simp
 | false =>
  simp only [Bool.not_false,Bool.and_true];rw [b5h,b3l,b3l];constructor
  · rintro ⟨z,hz,hb⟩
    obtain ⟨r,hr,rfl⟩:=a33.1 hz;rw [mz hi,b2x] at hb;exact ⟨r,hr,hb.1⟩
  rintro ⟨r,hr,hb⟩;exact ⟨r &&& ~~~s,a33.2 ⟨r,hr,rfl⟩,by rw [mz hi,hb,hs];rfl⟩
def a64 {s:AS} (h:fdT d T = some s):(orL (n9 T s)).toNat < (orL T).toNat:=by
 obtain ⟨r,hr,k,hk,_,rfl,hz⟩:=anw h;rw [aqu];refine aan ahv fun e=>?_;obtain ⟨i,hi,hb⟩:=aut hz;have h1:=congrArg (fun z:AS=>z.getLsbD i) e;simp only [mz hi,hb,Bool.not_true,Bool.and_false] at h1;have h1:(orL T).getLsbD i = false:=h1.symm;rw [tc hi,b4a] at h1;rw [b3w,BitVec.getLsbD_xor,b2x] at hb;have h2:r.getLsbD i = false:=by simpa using h1 r hr
 have h3:k.getLsbD i = false:=by simpa using h1 k hk
 rw [h2,h3] at hb;simp at hb
def lw (d:Fd):Nat -> List AS -> List AS
 | 0,T=>T
 | f + 1,T=>match fdT d T with
  | none=>T
  | some s=>lw d f (n9 T s)
def mvS (d:Fd) (T:List AS) (i k:Nat):List AS:=if agB d (T.getD i default) (T.getD k default) = true then m8 T (vd d (T.getD i default) (T.getD k default)) else T
def mvI (d:Fd):Nat -> List AS -> Nat -> Nat -> List AS
 | 0,T,_,_=>T
 | f + 1,T,i,k=>if k < T.length then mvI d f (mvS d T i k) i (k + 1) else T
def mvO (d:Fd):Nat -> List AS -> Nat -> List AS
 | 0,T,_=>T
 | f + 1,T,i=>if i < T.length then mvO d f (mvI d 8589934592 T i 0) (i + 1) else T
def a0b (d:Fd) (T:List AS) (i k:Nat):T <+: mvS d T i k:=by
 unfold mvS m8;split
 · split
   · exact b50 _
   exact List.prefix_append _ _
 exact b50 _
def a0o (d:Fd):∀ (f:Nat) (T:List AS) (i k:Nat),T <+: mvI d f T i k
 | 0,T,_,_=>b50 _
 | f + 1,T,i,k=>by
  unfold mvI;split
  · exact (a0b d T i k).trans (a0o d f _ i (k + 1))
  exact b50 _
def ae5 (d:Fd):∀ (f:Nat) (T:List AS) (i:Nat),T <+: mvO d f T i
 | 0,T,_=>b50 _
 | f + 1,T,i=>by
  unfold mvO;split
  · exact (a0o d _ T i 0).trans (ae5 d f _ (i + 1))
  exact b50 _
def ahw {i k:Nat} (h:T.Nodup):(mvS d T i k).Nodup:=by
 unfold mvS;split
 · exact rj h
 exact h
def a93:∀ {f:Nat} {T:List AS} {i k:Nat},T.Nodup -> (mvI d f T i k).Nodup
 | 0,T,_,_,h=>h
 | f + 1,T,i,k,h=>by
  unfold mvI;split
  · exact a93 (ahw h)
  exact h
def a92:∀ {f:Nat} {T:List AS} {i:Nat},T.Nodup -> (mvO d f T i).Nodup
 | 0,T,_,h=>h
 | f + 1,T,i,h=>by
  unfold mvO;split
  · exact a92 (a93 h)
  exact h
abbrev TC:=List AS × Bool
def FU2:Nat:=8589934592
def fdR (x:TC) (d:Fd):TC:=(lw d FU2 x.1,x.2 || (fdT d x.1).isSome)
def mvR (x:TC) (d:Fd):TC:=(mvO d FU2 x.1 0,x.2 || decide (x.1.length < (mvO d FU2 x.1 0).length))
def qo (fs ms:List Fd) (T:List AS):TC:=ms.foldl mvR (fs.foldl fdR (T,false))
def chF (fs ms:List Fd):Nat -> List AS -> List AS
 | 0,T=>T
 | f + 1,T=>if (qo fs ms T).2 = true then chF fs ms f (qo fs ms T).1 else (qo fs ms T).1
def muT (T:List AS):Nat:=(orL T).toNat * FU2 + (4294967296 - T.length)
def ub {f:Nat} {s:AS} (h:fdT d T = some s):lw d (f + 1) T = lw d f (n9 T s):=by
 show (match fdT d T with | none=>T | some s=>lw d f (n9 T s)) = _;rw [h]
def yt {f:Nat} (h:fdT d T = none):lw d f T = T:=by
 cases f with
 | zero=>rfl
 | succ f =>
  show (match fdT d T with | none=>T | some s=>lw d f (n9 T s)) = _;rw [h]
variable {P:List AS -> Prop}
def aa8 (hP:∀ T s,P T -> fdT d T = some s -> P (n9 T s)):∀ (f:Nat) (T:List AS),P T -> P (lw d f T)
 | 0,T,h=>h
 | f + 1,T,h=>by
  cases hq:fdT d T with
  | none=>rw [yt hq];exact h
  | some s=>rw [ub hq];exact aa8 hP f _ (hP T s h hq)
def ae6 (hP:∀ T r k,P T -> r ∈ T -> k ∈ T -> agB d r k = true -> P (m8 T (vd d r k))):∀ (f:Nat) (T:List AS) (i k:Nat),i < T.length -> P T -> P (mvI d f T i k)
 | 0,T,_,_,_,h=>h
 | f + 1,T,i,k,hi,h=>by
  unfold mvI;split
  · rename_i hk
    refine ae6 hP f _ i (k + 1) (b4n hi (a0b d T i k).length_le) ?_;unfold mvS;split
    · rename_i ha
      exact hP T _ _ h (a7z hi) (a7z hk) ha
    exact h
  exact h
def a5p (hP:∀ T r k,P T -> r ∈ T -> k ∈ T -> agB d r k = true -> P (m8 T (vd d r k))):∀ (f:Nat) (T:List AS) (i:Nat),P T -> P (mvO d f T i)
 | 0,T,_,h=>h
 | f + 1,T,i,h=>by
  unfold mvO;split
  · rename_i hi
    exact a5p hP f _ (i + 1) (ae6 hP _ T i 0 hi h)
  exact h
variable {fs:List Fd}
def a6p (hP:∀ d ∈ fs,∀ T s,P T -> fdT d T = some s -> P (n9 T s)):∀ (ds:List Fd) (x:TC),(∀ d ∈ ds,d ∈ fs) -> P x.1 -> P (ds.foldl fdR x).1
 | [],x,_,h=>h
 | d :: ds,x,hd,h=>a6p hP ds (fdR x d) (fun e he=>hd e (by simp [he])) (aa8 (hP d (hd d b5v)) _ _ h)
variable {ms:List Fd}
def adt (hP:∀ d ∈ ms,∀ T r k,P T -> r ∈ T -> k ∈ T -> agB d r k = true -> P (m8 T (vd d r k))):∀ (ds:List Fd) (x:TC),(∀ d ∈ ds,d ∈ ms) -> P x.1 -> P (ds.foldl mvR x).1
 | [],x,_,h=>h
 | d :: ds,x,hd,h=>adt hP ds (mvR x d) (fun e he=>hd e (by simp [he])) (a5p (hP d (hd d b5v)) _ _ _ h)
def ara (h1:∀ d ∈ fs,∀ T s,P T -> fdT d T = some s -> P (n9 T s)) (h2:∀ d ∈ ms,∀ T r k,P T -> r ∈ T -> k ∈ T -> agB d r k = true -> P (m8 T (vd d r k))) (h:P T):P (qo fs ms T).1 :=
 adt h2 ms _ (fun _ h=>h) (a6p h1 fs (T,false) (fun _ h=>h) h)
def ao8:∀ d ∈ fs,∀ (T:List AS) (s:AS),T.Nodup -> fdT d T = some s -> (n9 T s).Nodup:=fun _ _ T s _ _=>a3i T s
def axy:∀ d ∈ ms,∀ (T:List AS) (r k:AS),T.Nodup -> r ∈ T -> k ∈ T -> agB d r k = true -> (m8 T (vd d r k)).Nodup:=fun _ _ _ _ _ h _ _ _=>rj h
def akf {A B:List AS} (h:(orL B).toNat < (orL A).toNat):muT B < muT A:=by
 unfold muT;have h1:((orL B).toNat + 1) * FU2 <= (orL A).toNat * FU2:=b30 _ h;rw [b3n] at h1;have:FU2 = 8589934592:=rfl;omega
def as8 {A B:List AS} (hp:A <+: B) (ho:(orL B).toNat = (orL A).toNat) (hB:B.length <= 4294967296):muT B <= muT A /\ (A.length < B.length -> muT B < muT A):=by
 unfold muT;rw [ho];have:=hp.length_le;omega
def ar9 {r k:AS} (hr:r ∈ T) (hk:k ∈ T):orL (m8 T (vd d r k)) = orL T:=by
 apply abd;intro i hi;rw [tc hi,tc hi,b5h,b3l,b3l];constructor
 · rintro ⟨z,hz,hb⟩
   rcases a2y.1 hz with hz | rfl
   · exact ⟨z,hz,hb⟩
   rw [anp hi] at hb;split at hb
   · exact ⟨r,hr,hb⟩
   exact ⟨k,hk,hb⟩
 rintro ⟨z,hz,hb⟩;exact ⟨z,a2y.2 (.inl hz),hb⟩
def arl {f:Nat} {i:Nat}:orL (mvO d f T i) = orL T :=
 a5p (P:=fun X=>orL X = orL T) (fun X r k h hr hk _=>(ar9 hr hk).trans h) f T i rfl
def ae4 {T0:List AS} (f:Nat):∀ (T:List AS),muT T <= muT T0 -> muT (lw d f T) <= muT T0:=by
 induction f with
 | zero=>intro T h;exact h
 | succ f ih =>
  intro T h
  cases hq:fdT d T with
  | none=>rw [yt hq];exact h
  | some s =>
   rw [ub hq];have h1:=akf (a64 hq);exact ih _ b5s
def atw (x:TC) (d:Fd):muT (fdR x d).1 <= muT x.1 /\ (x.2 = false -> (fdR x d).2 = true -> muT (fdR x d).1 < muT x.1):=by
 refine ⟨ae4 _ _ (b2v _),fun h1 h2=>?_⟩;unfold fdR at h2 ⊢;rw [h1,Bool.false_or,Option.isSome_iff_exists] at h2;obtain ⟨s,hs⟩:=h2;show muT (lw d FU2 x.1) < _;rw [show FU2 = 8589934591 + 1 from rfl,ub hs];exact Nat.lt_of_le_of_lt (ae4 _ _ (b2v _)) (akf (a64 hs))
def awp {x:TC} (hn:x.1.Nodup) (d:Fd):muT (mvR x d).1 <= muT x.1 /\ (x.2 = false -> (mvR x d).2 = true -> muT (mvR x d).1 < muT x.1):=by
 have h:=as8 (ae5 d FU2 x.1 0) (congrArg BitVec.toNat arl) (uk (a92 hn));refine ⟨h.1,fun h1 h2=>h.2 ?_⟩;unfold mvR at h2;rw [h1,Bool.false_or] at h2;exact of_decide_eq_true h2
def aeo:∀ (ds:List Fd) (x:TC),muT (ds.foldl fdR x).1 <= muT x.1 /\ (x.2 = false -> (ds.foldl fdR x).2 = true -> muT (ds.foldl fdR x).1 < muT x.1)
 | [],x=>⟨b2v _,fun h k=>by simp only [List.foldl_nil] at k;rw [h] at k;cases k⟩
 | d :: ds,x=>by
  obtain ⟨a1,a2⟩:=atw x d;obtain ⟨b1,b2⟩:=aeo ds (fdR x d);refine ⟨b3v b1 a1,fun h k=>?_⟩
  cases hq:(fdR x d).2 with
  | true=>exact Nat.lt_of_le_of_lt b1 (a2 h hq)
  | false=>exact b4n (b2 hq k) a1
def aeu:∀ (ds:List Fd) (x:TC),x.1.Nodup -> muT (ds.foldl mvR x).1 <= muT x.1 /\ (x.2 = false -> (ds.foldl mvR x).2 = true -> muT (ds.foldl mvR x).1 < muT x.1)
 | [],x,_=>⟨b2v _,fun h k=>by simp only [List.foldl_nil] at k;rw [h] at k;cases k⟩
 | d :: ds,x,hn=>by
  obtain ⟨a1,a2⟩:=awp hn d;obtain ⟨b1,b2⟩:=aeu ds (mvR x d) (a92 hn);refine ⟨b3v b1 a1,fun h k=>?_⟩
  cases hq:(mvR x d).2 with
  | true=>exact Nat.lt_of_le_of_lt b1 (a2 h hq)
  | false=>exact b4n (b2 hq k) a1
def avd (hn:T.Nodup) (h:(qo fs ms T).2 = true):muT (qo fs ms T).1 < muT T:=by
 unfold qo at h ⊢;obtain ⟨a1,a2⟩:=aeo fs (T,false);have hn2:(fs.foldl fdR (T,false)).1.Nodup:=a6p ao8 fs (T,false) (fun _ h=>h) hn;obtain ⟨b1,b2⟩:=aeu ms (fs.foldl fdR (T,false)) hn2
 cases hq:(fs.foldl fdR (T,false)).2 with
 | true=>exact Nat.lt_of_le_of_lt b1 (a2 rfl hq)
 | false=>exact b4n (b2 hq h) a1
def MU:Nat:=73786976294838206464
def atc (T:List AS):muT T < MU:=by
 unfold muT;have h:=(orL T).isLt;have h1:((orL T).toNat + 1) * FU2 <= 4294967296 * FU2:=b30 _ h;rw [b3n] at h1;have e:FU2 = 8589934592:=rfl;have e2:MU = 73786976294838206464:=rfl;omega
def anr (rest:AS):List AS:=m8 [0] rest
def chT (fs ms:List Fd) (rest:AS):List AS:=chF fs ms MU (anr rest)
def axg (rest:AS):(anr rest).Nodup:=rj b5v
end
end
section
structure MvO (d:Fd) (T0:List AS) (x:Nat × List AS × Nat):Prop where
 nd:x.2.1.Nodup
 pre:T0 <+: x.2.1
 res:mvO d x.1 x.2.1 x.2.2 = mvO d FU2 T0 0
 le:x.2.2 <= x.2.1.length
 fuel:4294967296 < x.1 + x.2.2
structure MvI (d:Fd) (T:List AS) (i:Nat) (x:Nat × List AS × Nat):Prop where
 nd:x.2.1.Nodup
 pre:T <+: x.2.1
 res:mvI d x.1 x.2.1 i x.2.2 = mvI d 8589934592 T i 0
 le:x.2.2 <= x.2.1.length
 fuel:4294967296 < x.1 + x.2.2
section
variable {d:Fd} {T0 T:List AS} {i f k:Nat}
theorem MvO.start (h:T.Nodup):MvO d T (FU2,T,0):=⟨h,b50 _,rfl,b2w _,by show 4294967296 < 8589934592 + 0;omega⟩
theorem MvI.start (h:T.Nodup):MvI d T i (8589934592,T,0):=⟨h,b50 _,rfl,b2w _,by show 4294967296 < 8589934592 + 0;omega⟩
theorem MvO.pos (h:MvO d T0 (f,T,i)):0 < f /\ T.length <= 4294967296:=by
 have h1:=uk h.nd;have h2:=h.le;have h3:=h.fuel;dsimp only at h1 h2 h3;omega
section
variable {U:List AS}
theorem MvI.pos (h:MvI d T i (f,U,k)):0 < f /\ U.length <= 4294967296:=by
 have h1:=uk h.nd;have h2:=h.le;have h3:=h.fuel;dsimp only at h1 h2 h3;omega
theorem MvO.done (h:MvO d T0 (f,T,i)) (hi:¬ i < T.length):T = mvO d FU2 T0 0:=by
 have hp:=h.pos.1;have hr:mvO d f T i = mvO d FU2 T0 0:=h.res;obtain ⟨g,rfl⟩:∃ g,f = g + 1:=⟨f - 1,by omega⟩;unfold mvO at hr;rw [if_neg hi] at hr;exact hr
theorem MvI.done (h:MvI d T i (f,U,k)) (hk:¬ k < U.length):U = mvI d 8589934592 T i 0:=by
 have hp:=h.pos.1;have hr:mvI d f U i k = mvI d 8589934592 T i 0:=h.res;obtain ⟨g,rfl⟩:∃ g,f = g + 1:=⟨f - 1,by omega⟩;unfold mvI at hr;rw [if_neg hk] at hr;exact hr
theorem MvI.next (h:MvI d T i (f,U,k)) (hk:k < U.length):MvI d T i (f - 1,mvS d U i k,k + 1):=by
 have hp:=h.pos.1;have hr:mvI d f U i k = mvI d 8589934592 T i 0:=h.res;obtain ⟨g,rfl⟩:∃ g,f = g + 1:=⟨f - 1,by omega⟩;unfold mvI at hr;rw [if_pos hk] at hr;have hf:4294967296 < g + 1 + k:=h.fuel;exact ⟨ahw h.nd,h.pre.trans (a0b d U i k),hr,b3v hk (a0b d U i k).length_le,by show 4294967296 < g + (k + 1);omega⟩
theorem MvO.next (h:MvO d T0 (f,T,i)) (hi:i < T.length) (hU:U = mvI d 8589934592 T i 0):MvO d T0 (f - 1,U,i + 1):=by
 subst hU;have hp:=h.pos.1;have hr:mvO d f T i = mvO d FU2 T0 0:=h.res;obtain ⟨g,rfl⟩:∃ g,f = g + 1:=⟨f - 1,by omega⟩;unfold mvO at hr;rw [if_pos hi] at hr;have hf:4294967296 < g + 1 + i:=h.fuel;exact ⟨a93 h.nd,h.pre.trans (a0o d _ T i 0),hr,b3v hi (a0o d _ T i 0).length_le,by show 4294967296 < g + (i + 1);omega⟩
end
end
end
section
structure ChI (l m:List Fd) (R:List AS) (x:Nat × List AS × Bool):Prop where
 nd:x.2.1.Nodup
 t:x.2.2 = true -> chF l m x.1 x.2.1 = R /\ muT x.2.1 < x.1
 f:x.2.2 = false -> x.2.1 = R
def b26 (x:Nat × List AS × Bool):Nat:=x.1 + (bif x.2.2 then 1 else 0)
theorem ChI.start (l m:List Fd) (rest:AS):ChI l m (chT l m rest) (MU,anr rest,true):=⟨axg rest,fun _=>⟨rfl,atc _⟩,fun h=>by cases h⟩
theorem ChI.next {l m:List Fd} {R T:List AS} {f:Nat} (h:ChI l m R (f,T,true)):ChI l m R (f - 1,(qo l m T).1,(qo l m T).2) /\ 0 < f:=by
 obtain ⟨h1,h2⟩:=h.t rfl;have h2:muT T < f:=h2;have h1:chF l m f T = R:=h1;have hn:T.Nodup:=h.nd;obtain ⟨g,rfl⟩:∃ g,f = g + 1:=⟨f - 1,by omega⟩;unfold chF at h1;refine ⟨⟨ara ao8 axy hn,fun hc=>?_,fun hc=>?_⟩,by omega⟩
 · have hc:(qo l m T).2 = true:=hc
   rw [if_pos hc] at h1;have:=avd hn hc;exact ⟨h1,by show muT (qo l m T).1 < g;omega⟩
 have hc:(qo l m T).2 = false:=hc;rw [if_neg (by rw [hc];decide)] at h1;exact h1
def b28 (l:List Fd) (T:List AS) (i:Nat):TC:=(l.take i).foldl fdR (T,false)
def mvX (m:List Fd) (x:TC) (i:Nat):TC:=(m.take i).foldl mvR x
structure FdI (d:Fd) (U0:List AS) (x:Nat × List AS × Bool):Prop where
 nd:x.2.1.Nodup
 res:lw d x.1 x.2.1 = lw d FU2 U0
 fuel:(orL x.2.1).toNat < x.1
 f:x.2.2 = false -> x.2.1 = U0
 t:x.2.2 = true -> (fdT d U0).isSome = true
section
variable {d:Fd} {U0 U:List AS} {g:Nat} {b c:Bool} {s:AS}
theorem FdI.start (h:U0.Nodup):FdI d U0 (FU2,U0,false):=⟨h,rfl,b4n (orL U0).isLt (show 2 ^ 32 <= FU2 by decide),fun _=>rfl,fun h=>by cases h⟩
theorem FdI.len (h:FdI d U0 (g,U,b)):U.length <= 8589934592:=b3v (uk (show U.Nodup from h.nd)) b5x
theorem FdI.next (h:FdI d U0 (g,U,b)) (hq:fdT d U = some s):FdI d U0 (g - 1,n9 U s,true) /\ 0 < g:=by
 have h3:(orL U).toNat < g:=h.fuel;have h2:lw d g U = lw d FU2 U0:=h.res;obtain ⟨k,rfl⟩:∃ k,g = k + 1:=⟨g - 1,by omega⟩;rw [ub hq] at h2;have h4:=a64 hq;refine ⟨⟨a3i U s,h2,(by show (orL (n9 U s)).toNat < k;omega),(fun hc=>by cases hc),fun _=>?_⟩,by omega⟩
 cases hb:b with
 | true=>exact h.t hb
 | false =>
  have e:U = U0:=h.f hb;rw [<- e,hq];rfl
theorem FdI.done (h:FdI d U0 (g,U,b)) (hq:fdT d U = none):(U,c || b) = fdR (U0,c) d:=by
 have h2:lw d g U = lw d FU2 U0:=h.res;rw [yt hq] at h2;unfold fdR;rw [<- h2]
 cases hb:b with
 | true=>rw [h.t hb]
 | false =>
  have e:U = U0:=h.f hb;rw [<- e,hq];rfl
end
end
section
def avm (a b:AS):Bool:=abk b a
def b1r (l:List AS):List AS:=aok avm l
def okM (l:List AS) (i k:Nat):Bool:=(List.range k).all fun j=>decide (j = i) || !abk (l.getD j default) (l.getD i default)
def b16 (l:List AS) (i:Nat):List AS:=((ord l).take i).filter fun x=>!abh avm (ord l) x
def yq (rest L x:AS) (T:List AS) (y:AS):Bool:=!decide (y = 0) && (decide (y &&& ~~~rest = 0) && decide ((L &&& ~~~(x ||| y)) ∈ T))
def yL (rest L x:AS) (T:List AS) (k:Nat):List AS:=((List.range k).map (BitVec.ofNat 32)).filter (yq rest L x T)
section
variable {rest L x:AS} {T:List AS} {k:Nat}
end
end
section
open Go.Proofs
def j5 (n:Int) (ps:List AS):List AS:=if ps.length = 0 then [ai n] else ps.set (ps.length - 1) (ps.getD (ps.length - 1) default ||| (ai n &&& ~~~(orL ps)))
section
variable {ps:List AS}
def a74 {n:Int} (h:ps.length = 0):j5 n ps = [ai n]:=if_pos h
def a5d {n:Int} (h:¬ ps.length = 0):j5 n ps = ps.set (ps.length - 1) (ps.getD (ps.length - 1) default ||| (ai n &&& ~~~(orL ps))):=if_neg h
def apo {e:TypeId} {l:List AS} {f:Nat -> Nat -> PV} {m:Nat} (hm:m = l.length):CoO (.arr true 1 e (0 + m) (dm 0 f (lf sC l))) (.arr true 1 e l.length (lf sC l)):=by
 subst hm;exact ⟨fun h=>h,rfl,rfl,(b3d _).symm,fun i j _ _=>CoP.of_eq (by simp [dm])⟩
def ayg {n:Int} {j k:Nat} (h:k = j):gt .or .u32 (asI (ps.getD k default)) (gt .andNot .u32 (asI (ai n)) (asI (orL ps))) = asI (ps.getD j default ||| (ai n &&& ~~~(orL ps))):=by
 subst h;rw [avb,bOr]
def as1 {x:AS} {cl:Bool} {f:Nat -> Nat -> PV} (h:CoP (f 0 0) (asC x)):CoP (.sl 1 1 cl f) (asl [x]):=CoP.sl rfl (.inl rfl) (fun h=>by cases h) fun i j hi hj=>by
 obtain rfl:i = 0:=by omega
 obtain rfl:j = 0:=by omega
 exact h
def awg (n:Int) (ps:List AS) (hps:ps.length <= 8589934592):a8 b6g 16 [pI n,pP (asl ps)] (ab [pP (asl (j5 n ps))]):=by
 refine hpx (nt:=42) Tryz.func16 ?_;refine ci 1 rfl fun hb=>?_;refine up ?_;refine cj (ka 0 (ka 1 kn)) km (fun i=>⟨[(5,some (vA (orL (ps.take i)))),(6,some (vI i))],[]⟩) ps.length ⟨⟨⟨_,rfl,(CoR.refl _)⟩,⟨_,rfl,(CoR.refl _)⟩,trivial⟩,trivial⟩ ?_;rintro i hi;refine w_8 ?_;refine hcd (fun h0=>?_) (fun h0=>?_)
 · refine uw ?_;exact lpx (i + 1) ⟨⟨⟨_,rfl,(a8u ((bOr _ _).trans (congrArg asI (aaw b5s).symm)))⟩,⟨_,rfl,(CoR.refl _)⟩,tt⟩,trivial⟩
 obtain rfl:i = ps.length:=by omega
 rw [show ps.take ps.length = ps from b3k];refine w_3 ?_;refine m9 900 ?_;refine qy ?_;refine r9 901 true ?_;refine w_2 ?_;refine a9z ⟨[(0,some _),(5,some _),(7,some (.v (.one (.ref 900 ps.length))))],[(900,some (.arr true 1 28 ps.length (lf sC ps)))]⟩ (by exact ⟨⟨c9,c9,⟨_,rfl,CoR.of_eq (congrArg (fun z=>HR.v (.one (.ref 900 z))) (b3d _))⟩,trivial⟩,⟨⟨_,rfl,apo rfl⟩,trivial⟩⟩) ?_;refine w_7 ?_;refine hcd (fun h1=>?_) (fun h1=>?_)
 ·
  have h0:ps.length = 0:=by omega
  refine w_3 ?_;refine qcx w5 (w4 n) ?_;refine m9 902 ?_;refine w_2 ?_;refine c3 4 rfl rfl rfl ?_;exact hx8 rfl rfl rfl (⟨CoC.one (by rw [a74 h0];exact as1 (CoP.refl _)),trivial⟩)
 have h0:¬ ps.length = 0:=by omega
 refine dq ?_;refine qcx w5 (w4 n) ?_;refine w_7 ?_;refine a9z ⟨[(7,some _)],[(900,some (.arr true 1 28 ps.length (lf sC (ps.set (ps.length - 1) (ps.getD (ps.length - 1) default ||| (ai n &&& ~~~(orL ps)))))))]⟩ (by exact ⟨tt,⟨⟨_,rfl,(a6b (fun h=>h) rfl b5s b5s (congrArg (fun z=>PV.raw (.int .u32 z)) (ayg b5s)))⟩,trivial⟩⟩) ?_;refine w_5 ?_;refine c3 4 rfl rfl rfl ?_;exact hx8 rfl rfl rfl (⟨CoC.one (CoP.of_eq (by rw [a5d h0];exact (congrArg (fun z=>PV.sl z 1 false (lf sC (ps.set (ps.length - 1) (ps.getD (ps.length - 1) default ||| (ai n &&& ~~~(orL ps)))))) List.length_set.symm))),trivial⟩)
end
end
section
def als:∀ k,k < 9 -> um (ec.take k) = true:=by decide
def ae2 (c:UInt8):j0 (ofV c):=by
 unfold ofV;have h:∀ k:Fin 12,be (ofI (k.val:Int)) = true /\ -1 <= (ofI (k.val:Int)).num /\ (ofI (k.val:Int)).num <= 7:=by decide
 have:=h ⟨c.toNat % 12,by omega⟩;rw [show ((c.toNat % 12:Nat):Int) = (c.toNat:Int) % 12 by omega] at this;exact ⟨this.1,by omega,by omega⟩
def a2i {x:fq} {n:Nat} (hn:n <= 8):(aq x n).attrs.length = n:=by
 show (ec.take n).length = n;rw [b33];have:ec.length = 8:=rfl;omega
def arx {x:fq} {n:Nat} (hn:n <= 8) (hx:x.rows.length <= 8):TOk (aq x n) where
 nm:=by show fv ⟨#[114]⟩ = true;decide
 na:=by rw [a2i hn];omega
 nr:=by show (iq x n).length <= 1000;rw [aik];omega
 nms:=als n b5s
 rs:=by
  rw [a2i hn];refine od (fun w hw=>?_) ?_
  · obtain ⟨i,hi,e⟩:=b3a.1 hw
    subst e;refine ⟨?_,ahe, ?_⟩
    · show (0:Int) < 1 + (i:Int) * (1 + (x.gap.toNat:Int) % 3)
      have:(0:Int) <= (i:Int) * (1 + (x.gap.toNat:Int) % 3):=Int.mul_nonneg b5s b5s;omega
    rw [b3j];intro v hv;obtain ⟨k,_,e⟩:=b3a.1 hv;rw [<- e];exact (ae2 _).1
  show og (iq x n);unfold iq;refine List.pairwise_map.2 ((List.pairwise_lt_range (n:=x.rows.length)).imp fun {i j} hij=>?_);show 1 + (i:Int) * (1 + (x.gap.toNat:Int) % 3) < 1 + (j:Int) * (1 + (x.gap.toNat:Int) % 3);have:(i:Int) * (1 + (x.gap.toNat:Int) % 3) < (j:Int) * (1 + (x.gap.toNat:Int) % 3):=Int.mul_lt_mul_of_pos_right b5s b5s;omega
def amm {x:fq} {n:Nat}:∀ r ∈ (aq x n).rows,∀ v ∈ r.vals,j0 v:=fun r hr v hv=>by
 obtain ⟨i,hi,rfl⟩:=b3a.1 hr;obtain ⟨k,_,rfl⟩:=b3a.1 hv;exact ae2 _
def iw (n:Int) (d:Fd):Fd:=⟨d.lhs &&& ai n,d.rhs &&& ai n⟩
def abs {n:Int} {d:Fd}:sub ((iw n d).lhs ||| (iw n d).rhs) (ai n):=by
 refine bu.2 fun i hi h=>?_;unfold iw at h;simp only [b4l,b3w,b43,b2x] at h
 rcases h with h | h <;> exact h.2
def ek (q:Fd -> Bool) (n:Int) (l:List Fd) (i:Nat):List Fd:=((l.take i).map (iw n)).filter q
section
variable {q:Fd -> Bool} {n:Int} {l:List Fd} {i:Nat}
def qi (hi:i < l.length) (h:q (iw n (l.getD i default)) = true):ek q n l (i + 1) = ek q n l i ++ [iw n (l.getD i default)]:=by
 unfold ek;rw [bi hi,b5m,b55,b4c,List.map_nil,b4p,h];simp
def qd (hi:i < l.length) (h:q (iw n (l.getD i default)) = false):ek q n l (i + 1) = ek q n l i:=by
 unfold ek;rw [bi hi,b5m,b55,b4c,List.map_nil,b4p,h];simp
def wq:(ek q n l i).length <= i:=by
 unfold ek;refine b3v (List.length_filter_le _ _) ?_;rw [b3g,b33];omega
def xr {d:Fd} (h:d ∈ ek q n l i):q d = true /\ sub (d.lhs ||| d.rhs) (ai n):=by
 unfold ek at h;obtain ⟨h1,h2⟩:=b4x.1 h;obtain ⟨x,_,rfl⟩:=b3a.1 h1;exact ⟨h2,abs⟩
end
def k7 (s:AS) (l:List AS) (i:Nat):List AS:=(l.take i).map (· &&& s) ++ l.drop i
section
variable {s:AS} {l:List AS} {i:Nat}
def ana:(k7 s l i).length = l.length:=by
 unfold k7;rw [b36,b3g,b33,b4v];omega
def ajk:k7 s l 0 = l:=by simp [k7]
def ald:k7 s l l.length = l.map (· &&& s):=by simp [k7]
def an4 (hi:i < l.length):(k7 s l i).getD i default = l.getD i default:=by
 unfold k7;have hl:((l.take i).map (· &&& s)).length = i:=by rw [b3g,b33];omega
 simp only [List.getD];rw [b4q b5s,hl,b5p,b5j,b4f]
def ak1 (hi:i < l.length):k7 s l (i + 1) = (k7 s l i).set i (l.getD i default &&& s):=by
 have hl:((l.take i).map (· &&& s)).length = i:=by rw [b3g,b33];omega
 unfold k7;rw [bi hi,b5m,List.set_append_right _ _ b5s,hl,b5p,b4k hi,List.set_cons_zero];simp only [b4c,List.map_nil,b3x,List.singleton_append,ca _ _ hi]
def ash {e:TypeId} {n k:Nat} {x:PV} (hi:i < l.length) (hn:n = l.length) (hk:k = i) (hx:x = .raw (.int .u32 (asI (l.getD i default &&& s)))) :
 CoO (.arr true 1 e n (ej (lf sC (k7 s l i)) k 0 [x])) (.arr true 1 e n (lf sC (k7 s l (i + 1)))):=by
 subst hn hk hx;refine ⟨fun h=>h,rfl,rfl,rfl,fun a j ha hj=>CoP.of_eq ?_⟩;obtain rfl:j = 0:=by omega
 rw [ak1 hi];unfold ej;by_cases h:a = k
 · subst h
   rw [if_pos ⟨rfl,by omega,by simp⟩];show _ = sC (((k7 s l a).set a (l.getD a default &&& s)).getD a default) 0;rw [ge (by rw [ana];exact hi)];rfl
 rw [if_neg b5s];show _ = sC (((k7 s l k).set k (l.getD k default &&& s)).getD a default) 0;rw [getD_set_ne' h];rfl
end
def asr {s:AS} {l:List AS} {n:Nat} {cl:Bool} (hn:n = l.length):CoP (.sl n 1 cl (lf sC (k7 s l l.length))) (asl (l.map (· &&& s))):=by
 subst hn;rw [ald];exact CoP.sl (b3g _) (.inl rfl) (fun h=>by cases h) fun i j _ _=>CoP.refl _
def ar2 {s:AS} {l:List AS}:sub (orL (l.map (· &&& s))) s:=avw fun x hx=>by
 obtain ⟨y,_,rfl⟩:=b3a.1 hx;refine bu.2 fun i hi h=>?_;rw [b3w,b2x] at h;exact h.2
section
variable {ps:List AS}
def ag0 {n:Int} (h:sub (orL ps) (ai n)):orL (j5 n ps) = ai n:=by
 by_cases h0:ps.length = 0
 · rw [a74 h0]
   show (0:AS) ||| ai n = ai n
   simp
 rw [a5d h0];obtain ⟨q,x,rfl⟩:∃ q x,ps = q ++ [x]:=⟨ps.dropLast,ps.getLast (by intro e;subst e;exact h0 rfl),(List.dropLast_concat_getLast _).symm⟩;have e1:(q ++ [x]).length - 1 = q.length:=by simp
 have e2:(q ++ [x]).getD q.length default = x:=by simp [List.getD]
 rw [e1,e2,List.set_append_right _ _ (b2v _),b5p];show orL (q ++ [x ||| (ai n &&& ~~~orL (q ++ [x]))]) = _;rw [adr,adr] at *;apply b48;intro i hi;have hs:=bu.1 h i hi;simp only [b4l,b3w,b54,hi,decide_true,b4r] at hs ⊢;revert hs;cases (orL q).getLsbD i <;> cases x.getLsbD i <;> cases (ai n).getLsbD i <;> simp
def aml {n:Int} {k:Nat} (h:ps.length <= k) (hk:1 <= k):(j5 n ps).length <= k /\ 0 < (j5 n ps).length:=by
 by_cases h0:ps.length = 0
 · rw [a74 h0]
   exact ⟨hk,Nat.succ_pos _⟩
 rw [a5d h0,b57];omega
def awy {n:Nat} {p m:List Fd} (hn:n <= 8) (hps:ps.length <= 64) (h0:0 < ps.length) (hf:orL ps = ai (n:Int)) (hp:p.length <= 64) (hm:m.length <= 64) (hpu:∀ d ∈ p,sub (d.lhs ||| d.rhs) (ai (n:Int))) (hmu:∀ d ∈ m,sub (d.lhs ||| d.rhs) (ai (n:Int))):
 lsC n ps p m = 0 \/ lsC n ps p m = 3:=by
 have hv:lvE n ps = 0:=aos b5s b5s (by rintro (h | h);omega;exact h hf)
 have hin:∀ {d:Fd},sub (d.lhs ||| d.rhs) (ai (n:Int)) -> inU n d = true:=fun {d} h=>by
  refine (aem b5s b5s).2 ⟨bu.2 fun i hi hb=>bu.1 h i hi (by rw [b4l,hb,Bool.true_or]),bu.2 fun i hi hb=>bu.1 h i hi (by rw [b4l,hb,Bool.or_true])⟩
 have hve:d6 n p = 0:=by
  unfold d6;rw [if_neg b5s,if_neg b5s,if_pos (b3j.2 fun d hd=>hin (hpu d hd))]
 have hb:cg n p m = 0:=(ak2 hve b5s fun j hj=>by
  rw [ca _ _ hj]
  exact hin (hmu _ (b31 hj))).symm
 rcases za (m:=m) hps hb with ⟨e,_⟩ | ⟨sts',lend,e,_⟩
 · right
   rw [a8g hv hb];unfold lsT;rw [e]
 left;rw [a8g hv hb];unfold lsT;rw [e]
end
end
section
open Go.Proofs
def aus (n:Int) (ps:List AS) (p m:List Fd):a8 b6g 21 [pI n,pP (asl ps),pP (fdl p),pP (fdl m)] (ab [pP (stl (prS n ps p m)),pI (prC n ps p m)]):=by
 refine hpx (nt:=55) Tryz.func21 ?_;refine fl ?_;refine qcx abe (a6k n ps p m) ?_;refine w_5 ?_;refine m9 0 ?_;refine m9 1 ?_;refine fl ?_;refine hcn (fun h0=>?_) (fun h0=>?_)
 · refine w_6 ?_;refine hrr ?_;obtain ⟨e1,e2⟩:=atp (p:=p) (m:=m) (n:=n) (ps:=ps) (by rw [<- gl];assumption);exact f9 rfl rfl (⟨(by rw [e1];exact CoC.one (CoP.sl rfl (.inr rfl) (fun _=>rfl) (fun i j hi _=>absurd hi (b2y i)))),cci (gl.trans e2.symm),trivial⟩)
 have hls:lsC n ps p m = 0:=gl.symm.trans b5t;obtain ⟨hv,hb,hc,hR⟩:=ajs hls;have hz:=afj hv;have htr:=awk hv hb hc;have hfew:(lsT n ps p m).1.length <= 1300000:=apx (p:=p) (m:=m) hv hb;refine w_6 ?_;refine ah (ι:=Nat) (ka 0 (ka 2 (ka 3 (ka 10 kn)))) km (fun i=>⟨[(14,some (vI i)),(11,some (vP (stl (lsT n ps p m).1)))],[(0,some (.box [.p (.raw (.int .i64 n)), .p (rl ((trL n p m (aw (au n ps)) (lsT n ps p m).1).getD i default))]))]⟩) (fun i=>i <= (lsT n ps p m).1.length /\ (∀ j,j < i -> l5 n ((trL n p m (aw (au n ps)) (lsT n ps p m).1).getD j default) = false)) (fun i=>(lsT n ps p m).1.length - i) (0) (⟨b2w _,fun j hj=>absurd hj (b2y j)⟩) ⟨⟨zy,⟨_,rfl,(by rw [hR];exact CoR.refl _)⟩,trivial⟩,⟨⟨_,rfl,(by rw [hR,aqh];exact CoO.refl _)⟩,trivial⟩⟩ ?_;rintro i ⟨hi,hI⟩;refine w_7 ?_;refine qcx a4d (a12 n hz.1 b5s) ?_;refine qcx zq (a4y n ((trL n p m (aw (au n ps)) (lsT n ps p m).1).getD i default) (c7 n)) ?_;refine w_2 ?_;refine am _ rfl (fun r1=>?_) (fun r1=>?_)
 · have h1:=r1;obtain ⟨e1,e2⟩:=avv hls hi hI r1;refine v_8 ?_;exact by rw [e1,e2];exact ⟨CoC.one (akm (by rw [b33];dsimp only [fm,bh];omega) (fun a j=>by first | rfl | (simp;rfl))),CoC.refl _,trivial⟩
 have h1:=r1;have hno:l5 n ((trL n p m (aw (au n ps)) (lsT n ps p m).1).getD i default) = false:=r1;refine w_9 ?_;refine hcd (fun h2=>?_) (fun h2=>?_)
 ·
  obtain ⟨e1,e2⟩:=aq2 hls fun j hj=>by
   by_cases e:j = i
   · rw [e];exact hno
   exact hI j b5s
  refine v_5 ?_;exact by rw [e1,e2];exact ⟨CoC.one (CoP.sl rfl (.inr rfl) (fun _=>rfl) (fun i j hi _=>absurd hi (b2y i))),CoC.refl _,trivial⟩
 obtain ⟨hx1,hx2,hx3⟩:=awu b5s (ao0 htr (i:=i) b5s);refine dq ?_;refine qcx (wgx Tryz.func48) (ahy n ((trL n p m (aw (au n ps)) (lsT n ps p m).1).getD i default) p m ((lsT n ps p m).1.getD i default) hx1 hb hx2 hx3) ?_;refine yp ?_;refine lpz (i + 1) ⟨tt,⟨⟨_,rfl,(by rw [aej b5s];exact CoO.refl _)⟩,trivial⟩⟩ ?_;refine ⟨by omega,fun j hj=>?_⟩;by_cases e:j = i
 · rw [e];exact hno
 exact hI j b5s
def ar7 (n:Int) (ps:List AS) (p m:List Fd) (sts:List RSt):a8 b6g 24 [pI n,pP (asl ps),pP (fdl p),pP (fdl m),pP (ank sts)] (ab [pB (ur n ps p m sts)]):=by
 refine hpx (nt:=57) Tryz.func24 ?_;refine w_9 ?_;refine qcx a94 (a63 n ps) ?_;refine w_2 ?_;refine ae rfl rfl (fun r0=>?_) (fun r0=>?_)
 ·
  have h0:=tz2 (ez r0);(iterate 5 refine k9 (gtf r0) ?_);refine w_7 ?_
  exact hx8 rfl rfl rfl (⟨ccb (by first | exact (ahf b5t).symm | exact (ahc b5t).symm | (symm;simp_all [ur])),trivial⟩)
 have h0:=tz1 (f0 r0);(iterate 3 refine qy ?_ (hg:=(gff r0)));refine qcx abp (a65 n p m) ?_ (hg:=(gff r0));refine qy ?_ (hg:=(gff r0));refine w_2 ?_;refine am _ rfl (fun r1=>?_) (fun r1=>?_)
 · have h1:=tz2 (ez (ar r0 r1));refine v_4 ?_;exact ⟨ccb (by first | exact (ahf b5t).symm | exact (ahc b5t).symm | (symm;simp_all [ur])),trivial⟩
 have h1:=tz1 (f0 (ar r0 r1));have hv:lvE n ps = 0:=by simp_all
 have hb:cg n p m = 0:=by simp_all
 have hz:=afj hv;refine w_5 ?_;refine qcx (wgx Tryz.func53) (aeg n ps hv) ?_;refine w_3 ?_;refine m9 0 ?_;refine fl ?_;refine ah (ι:=Nat × Int × List Rw × Int) (ka 0 (ka 2 (ka 3 (ka 11 (ka 32 (ka 33 kn)))))) km (fun x=>⟨[(12,some (vI x.2.2.2)),(34,some (vI x.1))],[(0,some (.box [.p (.raw (.int .i64 x.2.1)), .p (rl x.2.2.1)]))]⟩) (fun x=>xd n ps p m sts x) (fun x=>sts.length - x.1) ((0,n,(aw (au n ps)),0)) (xd.start) kk ?_;rintro x hC;have hle:=hC.le;refine dc ?_;refine ci 32 rfl fun hsn=>?_;refine w_4 ?_;refine hcd (fun h2=>?_) (fun h2=>?_)
 ·
  refine w_7 ?_;refine m9 1 ?_;refine w_8 ?_;refine hcn (fun h3=>?_) (fun h3=>?_)
  · refine v_4 ?_;exact ⟨ccb (by rw [a9u hv hb];exact (hC.no b5t).symm),trivial⟩
  refine w_6 ?_;refine qcx (wgx Tryz.func48) (aer x.2.1 x.2.2.1 p m (sts.getD x.1 default).1 (sts.getD x.1 default).2.1 (sts.getD x.1 default).2.2.1 (sts.getD x.1 default).2.2.2) ?_;refine dq ?_;refine lpz (x.1 + 1,(wz x.2.1 x.2.2.1 p m (sts.getD x.1 default)).1,(wz x.2.1 x.2.2.1 p m (sts.getD x.1 default)).2.1,(wz x.2.1 x.2.2.1 p m (sts.getD x.1 default)).2.2) ⟨⟨⟨_,rfl,(CoR.refl _)⟩,⟨_,rfl,(coi b60)⟩,tt⟩,uu⟩ ?_;exact hC.step b5s b5t
 have hend:¬ x.1 < sts.length:=by omega
 refine w_6 ?_;refine ae rfl rfl (fun r4=>?_) (fun r4=>?_)
 ·
  have h4:=tz1 r4;(iterate 2 refine qy ?_ (hg:=(gtt r4)));refine qcx a4d (a12 n hz.1 b5s) ?_ (hg:=(gtt r4));refine qcx zq (a4y x.2.1 x.2.2.1 (c7 n)) ?_ (hg:=(gtt r4));refine w_4 ?_
  exact hx8 rfl rfl rfl (⟨ccb (by rw [a9u hv hb];first | exact (hC.no b5t).symm | (refine Eq.trans ?_ (hC.no b5t).symm;simp_all;done) | (refine Eq.trans ?_ (hC.fin hend b5t).symm;first | rfl | (simp_all;done) | (simp_all;rfl))),trivial⟩)
 have h4:=tz2 r4;(iterate 4 refine k9 (gft r4) ?_);refine w_4 ?_
 exact hx8 rfl rfl rfl (⟨ccb (by rw [a9u hv hb];first | exact (hC.no b5t).symm | (refine Eq.trans ?_ (hC.no b5t).symm;simp_all;done) | (refine Eq.trans ?_ (hC.fin hend b5t).symm;first | rfl | (simp_all;done) | (simp_all;rfl))),trivial⟩)
def ayp (n:Int) (ps:List AS) (p m:List Fd):a8 b6g 27 [pI n,pP (asl ps),pP (fdl p),pP (fdl m)] (ab [(aau n ps p m).pc,pI (t6 n ps p m)]):=by
 refine hpx (nt:=88) Tryz.func27 ?_;refine sx7 ?_;refine m9 0 ?_;refine w_8 ?_;refine qcx abe (a6k n ps p m) ?_;refine w_5 ?_;refine m9 1 ?_;refine m9 2 ?_;refine fl ?_;refine hcn (fun h0=>?_) (fun h0=>?_)
 · refine w_7 ?_;refine hrr ?_;obtain ⟨e1,e2⟩:=ava (p:=p) (m:=m) (n:=n) (ps:=ps) (by rw [<- gl];assumption);exact f9 rfl rfl (⟨(by rw [e2];exact CoC.agg ⟨CoP.refl _,l6,l6,trivial⟩),cci (gl.trans e1.symm),trivial⟩)
 have hls:lsC n ps p m = 0:=gl.symm.trans b5t;obtain ⟨hv,hb,hc,hR⟩:=ajs hls;have hz:=afj hv;obtain ⟨sts0,lend,he0,_,htk,_⟩:=aim hv hb hc;have htok:tok n (lsT n ps p m).2.1.2 = true:=by rw [he0];exact htk
 obtain ⟨_,_,hl256,hlen⟩:=j4 htok;refine w_6 ?_;refine qcx a4d (a12 n hz.1 b5s) ?_;refine qcx zq (a4y (lcR n ps p m).2.2.1.1 (lcR n ps p m).2.2.1.2 (c7 n)) ?_;refine w_2 ?_;refine am _ rfl (fun r1=>?_) (fun r1=>?_)
 ·
  have h1:=r1;have hf:l5 n (lsT n ps p m).2.1.2 = true:=by have hq:=r1;rw [hR] at hq;exact hq
  refine w_6 ?_;refine hrr ?_;obtain ⟨e1,e2⟩:=awh hls hf;exact f9 rfl rfl (⟨(by rw [e2];exact CoC.agg ⟨CoP.refl _,l6,l6,trivial⟩),cci e1.symm,trivial⟩)
 have h1:=r1;have hf:l5 n (lsT n ps p m).2.1.2 = false:=by have hq:=r1;rw [hR] at hq;exact hq
 refine w_4 ?_;refine m9 3 ?_;refine w_9 ?_;refine dg 3 1 30 true 1 9 (lf a1z ec) b5x rfl rfl (CoP.sl rfl (.inr rfl) (fun h=>h) (fun i j hi _=>absurd hi (b2y i))) (.inr rfl) rfl rfl ?_;refine cj (ka 8 (ka 12 (ka 14 (ka 41 kn)))) (kb 0 (kb 2 km)) (fun a=>⟨[(42,some (vI a))],[(3,some (.box [.p (.raw (.string ⟨#[116]⟩)), .ref 30 a, .p (jm (.slice none 0 0))])),(30,some (.arr true 1 9 a (lf a1z ec)))]⟩) n.toNat kk ?_;rintro a ha;refine w_5 ?_;refine hcd (fun h2=>?_) (fun h2=>?_)
 · refine qk ?_;refine m9 4 ?_;refine r9 5 true ?_;refine w_7 ?_;exact lpx (a + 1) ⟨tt,⟨u9,⟨_,rfl,(jz (fun h=>h) (lt1 (CoP.of_eq (congrArg (fun s=>PV.raw (.string s)) (ahg b5s)))))⟩,uu⟩⟩
 obtain rfl:a = n.toNat:=by omega
 refine w_3 ?_;refine dl 3 1 rfl rfl rfl rfl rfl ?_;refine w_7 ?_;refine dg 3 2 31 true 2 112 (lf Row.c (x2 (lsT n ps p m).2.1.2)) b5x rfl rfl (CoP.sl rfl (.inr rfl) (fun h=>h) (fun i j hi _=>absurd hi (b2y i))) (.inr rfl) rfl rfl ?_;refine cj (ka 8 (ka 14 kn)) (kb 0 km) (fun i=>⟨[(58,some (vI i)),(56,some (vP (rl (lsT n ps p m).2.1.2))),(57,some (vI (lsT n ps p m).2.1.2.length))],[(3,some (.box [.p (.raw (.string ⟨#[116]⟩)), .p (.sl n.toNat 1 false (lf a1z ec)), .ref 31 i])),(31,some (.arr true 2 112 i (lf Row.c (x2 (lsT n ps p m).2.1.2))))]⟩) ((lsT n ps p m).2.1.2.length) ⟨⟨zy,⟨_,rfl,(by rw [hR];exact CoR.refl _)⟩,⟨_,rfl,(by rw [hR];exact CoR.refl _)⟩,trivial⟩,uu⟩ ?_;rintro i hi;refine w_5 ?_;refine hcd (fun h3=>?_) (fun h3=>?_)
 ·
  refine tk ?_;refine m9 6 ?_;refine dq ?_;refine dg 6 1 32 true 3 114 (lf Val.c (a07 ((lsT n ps p m).2.1.2.getD i default))) b5x rfl rfl (CoP.sl rfl (.inr rfl) (fun h=>h) (fun i j hi _=>absurd hi (b2y i))) (.inr rfl) rfl rfl ?_;refine cj (ka 8 (ka 14 (ka 18 (ka 56 (ka 57 (ka 58 (ka 66 (ka 67 kn)))))))) (kb 3 (kb 31 (kb 0 km))) (fun k=>⟨[(68,some (vI k))],[(6,some (.box [.p (.raw (.int .i64 ((i:Int) + 1))), .ref 32 k])),(32,some (.arr true 3 114 k (lf Val.c (a07 ((lsT n ps p m).2.1.2.getD i default)))))]⟩) (((lsT n ps p m).2.1.2.getD i default).length) kk ?_;rintro k hk;have hrl:=hlen i b5s;refine w_5 ?_;refine hcd (fun h4=>?_) (fun h4=>?_)
  ·
   refine ke ?_;refine qcx (wgx Tryz.func58) (az7 _) ?_;refine m9 7 ?_;refine r9 8 true ?_;refine w_8 ?_;refine ⟨k + 1, ?_, ?_, ?_⟩
   · show k + 1 <= _;omega
   · first | omega | (dsimp only;omega)
   exact ⟨tt,⟨u9,⟨_,rfl,(jz (fun h=>h) fun j hj=>by
   show CoP _ (Val.c ((a07 _).getD k default) j);rw [an6 b5s];revert j
   exact a2r (CoP.refl _) (CoP.refl _) (CoP.refl _))⟩,uu⟩⟩
  obtain rfl:k = ((lsT n ps p m).2.1.2.getD i default).length:=by omega
  refine c4 ?_;refine dl 6 1 rfl rfl rfl rfl rfl ?_;refine w_4 ?_;refine m9 9 ?_;refine r9 10 true ?_;refine w_7 ?_;refine ⟨i + 1, ?_, ?_, ?_⟩
  · show i + 1 <= _;omega
  · first | omega | (dsimp only;omega)
  exact ⟨tt,⟨u9,⟨_,rfl,(jz (fun h=>h) fun j hj=>by
  show CoP _ (Row.c ((x2 (lsT n ps p m).2.1.2).getD i default) j);rw [ant b5s];revert j
  exact lt2 (CoP.refl _) (CoP.sl anu (.inl rfl) (fun h=>h) fun _ _ _ _=>CoP.refl _))⟩,uu⟩⟩
 obtain rfl:i = (lsT n ps p m).2.1.2.length:=by omega
 refine w_2 ?_;refine dl 3 2 rfl rfl rfl rfl rfl ?_;refine w_5 ?_;refine hrr ?_;obtain ⟨e1,e2⟩:=aw9 hls hf;exact f9 rfl rfl (⟨(by rw [e2];exact CoC.agg ⟨CoP.refl _,a0k (by show n.toNat <= 8;omega),CoP.sl amj (.inl rfl) (fun h=>h) (fun _ _ _ _=>CoP.refl _),trivial⟩),cci e1.symm,trivial⟩)
end
section
open Go.Proofs
def axb:a8 b6g 17 [pI 3,pP (asl [3,6]),pP (fdl [⟨2,4⟩]),pP (fdl [])] (ab [pB true,pI 0]):=by
 have h:=ate 3 [3,6] [⟨2,4⟩] [];rw [aow.1,aow.2] at h;exact h
def axh:a8 b6g 21 [pI 3,pP (asl [3,6]),pP (fdl [⟨2,4⟩]),pP (fdl [])] (ab [pP (stl [(false,0,0,1)]),pI 0]):=by
 have h:=aus 3 [3,6] [⟨2,4⟩] [];rw [aoh.1,aoh.2] at h;exact h
def axx:a8 b6g 24 [pI 3,pP (asl [3,6]),pP (fdl [⟨2,4⟩]),pP (fdl []),pP (ank [(false,0,0,1)])] (ab [pB true]):=by
 have h:=ar7 3 [3,6] [⟨2,4⟩] [] [(false,0,0,1)];rw [ax9] at h;exact h
def axw:a8 b6g 27 [pI 3,pP (asl [3,6]),pP (fdl []),pP (fdl [])] (ab [awT.pc,pI 0]):=by
 have h:=ayp 3 [3,6] [] [];rw [aog.1,aog.2] at h;exact h
def ayy:a8 b6g 30 [awT.pc,pP (asl [3,6])] (ab [(qs awT [3,6]).pc,pI 0]):=by
 have h:=af2 awT [3,6];rw [aoi] at h;exact h
def a6u {cl:Bool} {x:Fd} {f:Nat -> Nat -> PV} (h0:CoP (f 0 0) (Fd.c x 0)) (h1:CoP (f 0 1) (Fd.c x 1)):CoP (.sl 1 2 cl f) (fdl [x]):=as3 (lt2 h0 h1)
def yg:goodFn b6g 11:=wgx Tryz.func11
def aqp (J:Tbl) (hJ:J.rows.length = 4) (hc:a8 b6g 30 [awT.pc,pP (asl [3,6])] (ab [J.pc,pI 0])):a8 b6g 11 [] (ab [pB true]):=by
 refine hpx (nt:=77) Tryz.func11 ?_;refine w_6 ?_;refine m9 0 ?_;refine qy ?_;refine m9 1 ?_;refine w_4 ?_;refine c3 1 rfl rfl rfl ?_;refine c3 2 rfl rfl rfl ?_;refine w_3 ?_;refine rc rfl rfl rfl rfl rfl rfl (wgx Tryz.func17) (axb) (⟨CoC.refl _,CoC.one (wk (CoP.refl _) (CoP.refl _)),CoC.one (a6u (CoP.refl _) (CoP.refl _)),a0g,trivial⟩) rfl rfl ?_;refine dq ?_;refine rc rfl rfl rfl rfl rfl rfl (wgx Tryz.func21) (axh) (⟨CoC.refl _,CoC.one (wk (CoP.refl _) (CoP.refl _)),CoC.one (a6u (CoP.refl _) (CoP.refl _)),a0g,trivial⟩) rfl rfl ?_;refine w_9 ?_;refine rc rfl rfl rfl rfl rfl rfl (wgx Tryz.func27) (axw) (⟨CoC.refl _,CoC.one (wk (CoP.refl _) (CoP.refl _)),a0g,a0g,trivial⟩) rfl rfl ?_;refine w_3 ?_;refine m9 2 ?_;refine w_7 ?_;refine rc rfl rfl rfl rfl rfl rfl (wgx Tryz.func30) (hc) (⟨CoC.refl _,CoC.one (wk (CoP.refl _) (CoP.refl _)),trivial⟩) rfl rfl ?_;refine w_3 ?_;refine m9 3 ?_;refine afp ?_;refine rc rfl rfl rfl rfl rfl rfl (wgx Tryz.func24) (axx) (⟨CoC.refl _,CoC.one (wk (CoP.refl _) (CoP.refl _)),CoC.one (a6u (CoP.refl _) (CoP.refl _)),a0g,CoC.one arq,trivial⟩) rfl rfl ?_;refine afp ?_;exact hx8 rfl rfl rfl (⟨ccb (by first | rfl | (show decide ((J.rows.length:Int) = 4) = true;rw [hJ];rfl)),trivial⟩)
def tj:a8 b6g 11 [] (ab [pB true]):=aqp (qs awT [3,6]) axv ayy
end
section
open Go.Proofs
def b1j (n:Int) (ps:List AS) (p m:List Fd):Int:=if lvE n ps = 0 then cg n p m else lvE n ps
section
variable {n:Int} {ps:List AS} {p m:List Fd}
end
end
section
open Go.Proofs
def b2n (n:Int) (a b:BitVec 8):AS:=if (b.toNat:Int) < 128 then u8S n b ||| (ai n &&& ~~~u8S n a) else u8S n b
end
section
open Go.Proofs
def ao7 (d:Rcp) (hf:d.f.length <= 16777216) (hm:d.m.length <= 16777216) (hp:d.p.length <= 16777216):cw b6g 15 [d.pc.toH, .one (.p (.raw (.int .i64 4)))] [] (.tup [.one (.p (.raw (.int .i64 (d.num 4)))), .one (.p (fdl (d.fs 4))), .one (.p (fdl (d.ms 4))), .one (.ref 902 (d.ps 4).length), .one (.p (.raw (.bool (decide (d.f.length <= 4 /\ d.m.length <= 4 /\ d.p.length <= 3)))))]) [(902, .arr true 1 28 (d.ps 4).length (lf sC (d.ps 4)))] []:=by
 refine hfx (nt:=118) Tryz.func15 ?_;refine sx7 ?_;refine m9 0 ?_;refine yp ?_;refine qcx w5 (w4 (d.num 4)) ?_;refine sv ?_;refine gm 11 900 true 2 43 (lf Fd.c []) b5x rfl (CoP.sl rfl (.inr rfl) (fun h=>h) (fun i j hi _=>absurd hi (b2y i))) (.inr rfl) rfl ?_;refine cj (ka 2 (ka 9 (ka 10 kn))) (kb 0 km) (fun i=>⟨[(11,some (.v (.one (.ref 900 ((d.f.take i).map (Dp.fd (d.num 4))).length)))),(12,some (vI i))],[(900,some (.arr true 2 43 ((d.f.take i).map (Dp.fd (d.num 4))).length (lf Fd.c ((d.f.take i).map (Dp.fd (d.num 4))))))]⟩) d.f.length kk ?_;rintro i hi;have hlen:((d.f.take i).map (Dp.fd (d.num 4))).length <= i:=by rw [b3g,b33];omega
 refine w_9 ?_;refine hcd (fun h0=>?_) (fun h0=>?_)
 · refine avj ?_;refine m9 1 ?_;refine r9 2 true ?_;refine w_8 ?_;exact lpx (i + 1) ⟨⟨⟨_,rfl,(fk (a5n b5s))⟩,tt⟩,⟨⟨_,rfl,(oo (a5n b5s) (CoP.of_eq (congrArg (fun z=>PV.raw (.int .u32 z)) (yy _ _))) (CoP.of_eq (congrArg (fun z=>PV.raw (.int .u32 z)) (yy _ _))))⟩,uu⟩⟩
 obtain rfl:i = d.f.length:=by omega
 refine w_2 ?_;refine c3 11 rfl rfl rfl ?_;refine w_9 ?_;refine gm 13 901 true 2 45 (lf Fd.c []) b5x rfl (CoP.sl rfl (.inr rfl) (fun h=>h) (fun i j hi _=>absurd hi (b2y i))) (.inr rfl) rfl ?_;refine cj (ka 2 (ka 9 (ka 10 (ka 11 kn)))) (kb 0 km) (fun i=>⟨[(13,some (.v (.one (.ref 901 ((d.m.take i).map (Dp.fd (d.num 4))).length)))),(14,some (vI i))],[(901,some (.arr true 2 45 ((d.m.take i).map (Dp.fd (d.num 4))).length (lf Fd.c ((d.m.take i).map (Dp.fd (d.num 4))))))]⟩) d.m.length kk ?_;rintro i hi;have hlen:((d.m.take i).map (Dp.fd (d.num 4))).length <= i:=by rw [b3g,b33];omega
 refine w_9 ?_;refine hcd (fun h1=>?_) (fun h1=>?_)
 · refine avj ?_;refine m9 3 ?_;refine r9 4 true ?_;refine w_8 ?_;exact lpx (i + 1) ⟨⟨⟨_,rfl,(fk (a5n b5s))⟩,tt⟩,⟨⟨_,rfl,(oo (a5n b5s) (CoP.of_eq (congrArg (fun z=>PV.raw (.int .u32 z)) (yy _ _))) (CoP.of_eq (congrArg (fun z=>PV.raw (.int .u32 z)) (yy _ _))))⟩,uu⟩⟩
 obtain rfl:i = d.m.length:=by omega
 refine w_2 ?_;refine c3 13 rfl rfl rfl ?_;refine w_9 ?_;refine gm 15 902 true 1 28 (lf sC []) b5x rfl (CoP.sl rfl (.inr rfl) (fun h=>h) (fun i j hi _=>absurd hi (b2y i))) (.inr rfl) rfl ?_;refine cj (ka 2 (ka 9 (ka 10 (ka 11 (ka 13 kn))))) (kb 0 km) (fun i=>⟨[(15,some (.v (.one (.ref 902 ((d.p.take i).map (u8S (d.num 4))).length)))),(16,some (vI i))],[(902,some (.arr true 1 28 ((d.p.take i).map (u8S (d.num 4))).length (lf sC ((d.p.take i).map (u8S (d.num 4))))))]⟩) d.p.length kk ?_;rintro i hi;have hlen:((d.p.take i).map (u8S (d.num 4))).length <= i:=by rw [b3g,b33];omega
 refine w_9 ?_;refine hcd (fun h2=>?_) (fun h2=>?_)
 · refine ke ?_;refine m9 5 ?_;refine r9 6 true ?_;refine w_7 ?_;exact lpx (i + 1) ⟨⟨⟨_,rfl,(fk (a5n b5s))⟩,tt⟩,⟨⟨_,rfl,(mw (a5n b5s) (CoP.of_eq (congrArg (fun z=>PV.raw (.int .u32 z)) (yy _ _))))⟩,uu⟩⟩
 obtain rfl:i = d.p.length:=by omega
 refine fl ?_;refine ae rfl rfl (fun r3=>?_) (fun r3=>?_)
 ·
  have h3:=tz1 r3;(iterate 3 refine qy ?_ (hg:=(gtt r3)));refine w_2 ?_;refine ae rfl rfl (fun r4=>?_) (fun r4=>?_)
  ·
   have h4:=tz1 (bp r3 r4);(iterate 3 refine qy ?_ (hg:=(gtt r4)));refine w_7 ?_;refine hrr ?_
   exact ⟨_,_,rfl,b61,⟨jd.refl _,(by rw [b3k];exact jd.refl _),(by rw [b3k];exact jd.refl _),(by rw [b3k];exact jd.refl _),(by show CoP (.raw (.bool _)) (.raw (.bool _));exact CoP.of_eq (congrArg (fun z=>PV.raw (.bool z)) (by first | (simp only [b3g,b3k];exact afd) | exact (decide_eq_false b5s).symm))),trivial⟩,⟨⟨_,rfl,(by rw [b3k];exact CoO.refl _)⟩,trivial⟩⟩
  have h4:=tz2 (bp r3 r4);(iterate 3 refine k9 (gft r4) ?_);refine w_7 ?_;refine hrr ?_
  exact ⟨_,_,rfl,b61,⟨jd.refl _,(by rw [b3k];exact jd.refl _),(by rw [b3k];exact jd.refl _),(by rw [b3k];exact jd.refl _),(by show CoP (.raw (.bool _)) (.raw (.bool _));exact CoP.of_eq (congrArg (fun z=>PV.raw (.bool z)) (by first | (simp only [b3g,b3k];exact afd) | exact (decide_eq_false b5s).symm))),trivial⟩,⟨⟨_,rfl,(by rw [b3k];exact CoO.refl _)⟩,trivial⟩⟩
 have h3:=tz2 r3;(iterate 3 refine k9 (gft r3) ?_);refine w_2 ?_;(iterate 3 refine k9 rfl ?_);refine w_7 ?_;refine hrr ?_
 exact ⟨_,_,rfl,b61,⟨jd.refl _,(by rw [b3k];exact jd.refl _),(by rw [b3k];exact jd.refl _),(by rw [b3k];exact jd.refl _),(by show CoP (.raw (.bool _)) (.raw (.bool _));exact CoP.of_eq (congrArg (fun z=>PV.raw (.bool z)) (by first | (simp only [b3g,b3k];exact afd) | exact (decide_eq_false b5s).symm))),trivial⟩,⟨⟨_,rfl,(by rw [b3k];exact CoO.refl _)⟩,trivial⟩⟩
end
end Go.Hx
