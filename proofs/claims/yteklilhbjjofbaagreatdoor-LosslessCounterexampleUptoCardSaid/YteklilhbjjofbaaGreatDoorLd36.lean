/- A part of the proof: Jp2 Jb1 Jp3 Bz6 Bz7 Bz8 Bz9 Y12 Jp4 Jp5 Jw7 Jw8. -/
import Derived.Test.YteklilhbjjofbaaGreatDoorLd35
set_option linter.all false
set_option maxRecDepth 100000
set_option maxHeartbeats 1000000
namespace Go.Hx
section
section
variable {R:List Row} {ps:List AS} {cols:List (List Val)} {s:AS} {n:Nat}
def adt:∀ {l m:List Val} {a:Nat},l.length = m.length -> (gi s a l = gi s a m <-> ∀ i,i < l.length -> bi s ((a + i:Nat):Int) = true -> l.getD i default = m.getD i default)
 | [],[],a,_=>⟨fun _ i hi _=>absurd hi (b5i i),fun _=>rfl⟩
 | [],_ :: _,_,h=>by simp at h
 | _ :: _,[],_,h=>by simp at h
 | v :: l,w :: m,a,hl=>by
  have hl2:l.length = m.length:=by simpa using hl
  have ih:=adt (l:=l) (m:=m) (a:=a + 1) hl2;unfold gi;by_cases hs:bi s (a:Int) = true
  · rw [if_pos hs,if_pos hs,b7l,ih]
    constructor
    · rintro ⟨h1,h2⟩ i hi hh
      cases i with
      | zero=>exact h1
      | succ i=>exact h2 i (by simpa using hi) (by rw [show a + 1 + i = a + (i + 1) by omega];exact hh)
    intro h;refine ⟨h 0 b8l hs,fun i hi hh=>?_⟩;exact h (i + 1) (by simpa using hi) (by rw [show a + (i + 1) = a + 1 + i by omega];exact hh)
  rw [if_neg hs,if_neg hs,ih];constructor
  · intro h i hi hh
    cases i with
    | zero=>exact absurd hh hs
    | succ i=>exact h i (by simpa using hi) (by rw [show a + 1 + i = a + (i + 1) by omega];exact hh)
  intro h i hi hh;exact h (i + 1) (by simpa using hi) (by rw [show a + (i + 1) = a + 1 + i by omega];exact hh)
def a1s {l m:List Val} (hl:l.length = m.length):sel l s = sel m s <-> ∀ i:Nat,i < l.length -> bi s (i:Int) = true -> l.getD i default = m.getD i default:=by
 unfold sel;rw [adt hl];constructor <;> intro h i hi hh
 · exact h i hi (by rw [b5q];exact hh)
 exact h i hi (by rw [b5q] at hh;exact hh)
def okJ (R:List Row) (ps:List AS) (vs:List Val):Bool:=ps.all fun s=>ky R s vs.length (fp vs s)
def o0 (R:List Row) (ps:List AS) (cols:List (List Val)):Nat -> List Val -> List (List Val)
 | 0,vs=>if okJ R ps vs = true then [vs] else []
 | d + 1,vs=>if okJ R ps vs = true then (cols.getD vs.length default).flatMap fun v=>o0 R ps cols d (vs ++ [v]) else []
def al6 (hp:0 < ps.length) {vs:List Val} {m:Nat} (h:1000 < m):j7 R ps vs m = true:=by
 unfold j7;rw [b6c];exact ⟨_,b5l hp,by simp [lj,h]⟩
def anv {vs:List Val} {m:Nat} (h:m <= 1000):j7 R ps vs m = !okJ R ps vs:=by
 unfold j7 okJ lj;rw [decide_eq_false b8i];simp only [b86];rw [List.not_all_eq_any_not]
def aaj {α:Type} {a b:List α} {k:Nat}:(a.take k ++ b).take k = (a ++ b).take k:=by
 rw [List.take_append,List.take_append,List.take_take,Nat.min_self,b5p];by_cases h:a.length <= k
 · rw [Nat.min_eq_right h]
 rw [b6p b8i,Nat.sub_self,show k - a.length = 0 by omega]
def aa1 {α β:Type} {f:List α -> β -> List α} {g:β -> List α} {k:Nat} (h:∀ acc b,acc.length <= k -> f acc b = (acc ++ g b).take k):∀ {l:List β} {acc:List α},acc.length <= k -> l.foldl f acc = (acc ++ l.flatMap g).take k
 | [],acc,ha=>by simp [b6z ha]
 | b :: l,acc,ha=>by
  rw [List.foldl_cons,h acc b ha,aa1 h (l:=l) (by rw [b5p];omega),aaj,b7y,b6l]
def aew (hp:0 < ps.length):∀ {d:Nat} {vs:List Val} {acc:List (List Val)},acc.length <= 1001 -> f0 R ps cols d vs acc = (acc ++ o0 R ps cols d vs).take 1001
 | d,vs,acc,h=>by
  by_cases hm:acc.length <= 1000
  · have hs:=anv (R:=R) (ps:=ps) (vs:=vs) hm
    cases hk:okJ R ps vs with
    | false =>
     rw [hk] at hs;have e:o0 R ps cols d vs = []:=by cases d <;> (unfold o0;rw [if_neg (by simp [hk])])
     rw [oq hs,e,b6h,b6z h]
    | true =>
     rw [hk] at hs
     cases d with
     | zero =>
      unfold f0 o0;rw [if_neg (by rw [hs];decide),if_pos hk,b6z (by rw [b5x,b6w];omega)]
     | succ d =>
      unfold f0 o0;rw [if_neg (by rw [hs];decide),if_pos hk];exact aa1 (f:=fun acc v=>f0 R ps cols d (vs ++ [v]) acc) (g:=fun v=>o0 R ps cols d (vs ++ [v])) (fun acc b ha=>aew hp ha) h
  have hs:=al6 (R:=R) hp (vs:=vs) (m:=acc.length) b8i;rw [oq hs,List.take_append,b6z h,show 1001 - acc.length = 0 by omega,List.take_zero,b6h]
def ald (hp:0 < ps.length):ir R ps n = (o0 R ps (be R n) n []).take 1001:=by
 unfold ir;rw [aew hp (b5h _),b6u]
def nj:∀ {d:Nat} {vs w:List Val},w ∈ o0 R ps cols d vs <-> ∃ u,w = vs ++ u /\ u.length = d /\ (∀ j,j < d -> u.getD j default ∈ cols.getD (vs.length + j) default) /\ ∀ j,j <= d -> okJ R ps (vs ++ u.take j) = true
 | 0,vs,w=>by
  unfold o0;constructor
  · intro h
    split at h
    · rename_i hk
      have h:w = vs:=by simpa using h
      subst h;exact ⟨[],by simp,rfl,fun j hj=>absurd hj (b5i j),fun j _=>by simpa using hk⟩
    cases h
  rintro ⟨u,rfl,hl,_,hk⟩;obtain rfl:u = []:=b6s hl;have:=hk 0 (b5g _);rw [List.take_nil,b6h] at this;rw [if_pos this];simp
 | d + 1,vs,w=>by
  unfold o0;constructor
  · intro h
    split at h
    · rename_i hk
      obtain ⟨v,hv,hw⟩:=b8h.1 h;obtain ⟨u,rfl,hl,h1,h2⟩:=nj.1 hw;refine ⟨v :: u,by simp,by simp [hl],fun j hj=>?_,fun j hj=>?_⟩
      · cases j with
        | zero=>exact hv
        | succ j =>
         have:=h1 j b8i;rw [b5x,b6w,show vs.length + 1 + j = vs.length + (j + 1) by omega] at this;exact this
      cases j with
      | zero=>simpa using hk
      | succ j =>
       have:=h2 j b8i;rw [b6l] at this;exact this
    cases h
  rintro ⟨u,rfl,hl,h1,h2⟩;have h0:=h2 0 (b5h _);rw [List.take_zero,b6h] at h0;rw [if_pos h0]
  cases u with
  | nil=>simp at hl
  | cons v u =>
   refine b8h.2 ⟨v,h1 0 b8i,nj.2 ⟨u,by simp,by simpa using hl,fun j hj=>?_,fun j hj=>?_⟩⟩
   · have:=h1 (j + 1) b8i
     rw [b5x,b6w,show vs.length + 1 + j = vs.length + (j + 1) by omega];exact this
   have:=h2 (j + 1) b8i;rw [b6l];exact this
def amh {p x y:List Val}:cr (p ++ x) (p ++ y) = cr x y:=by
 induction p with
 | nil=>rfl
 | cons v p ih =>
  rw [b6x,b6x,cr,if_neg (by rw [l7.self];simp),ih]
def adh (hc:∀ a,Asc f5 (cols.getD a default)):∀ {d:Nat} {vs:List Val},Asc cr (o0 R ps cols d vs)
 | 0,vs=>by
  unfold o0;split
  · exact List.pairwise_singleton _ _
  exact List.Pairwise.nil
 | d + 1,vs=>by
  unfold o0;split
  · refine List.pairwise_flatMap.2 ⟨fun v _=>adh hc,(hc vs.length).imp fun {v w} hvw x hx y hy=>?_⟩
    obtain ⟨u,rfl,_⟩:=nj.1 hx;obtain ⟨u',rfl,_⟩:=nj.1 hy;rw [b6l,b6l,amh];exact a04.2 (.inl hvw)
  exact List.Pairwise.nil
def aly (a:Nat):Asc f5 ((be R n).getD a default):=by
 by_cases h:a < n
 · rw [ol h]
   exact abj
 rw [show (be R n).getD a default = [] by simp [be,List.getD,h];rfl];exact List.Pairwise.nil
def l4 (R:List Row) (ps:List AS) (n:Nat):List (List Val):=o0 R ps (be R n) n []
def ans:Asc cr (l4 R ps n):=adh aly
def ap7 (hp:0 < ps.length):ir R ps n = (l4 R ps n).take 1001:=ald hp
def ac1 {r:Row} (hr:r ∈ R) (he:∀ r ∈ R,∀ v ∈ r.vals,li v) {k:Nat}:∀ v ∈ r.vals.take k,li v:=fun v hv=>he r hr v (b7z hv)
def agp (he:∀ r ∈ R,∀ v ∈ r.vals,li v) (hw:∀ r ∈ R,r.vals.length = n) {w:List Val} (hl:w.length <= n) (hn:n <= 16) (hv:∀ v ∈ w,li v) :
 okJ R ps w = true <-> ∀ s ∈ ps,∃ r ∈ R,sel (r.vals.take w.length) s = sel w s:=by
 unfold okJ ky;rw [b5u];constructor
 · intro h s hs
   have:=h s hs;obtain ⟨r,hr,e⟩:=b6c.1 this;refine ⟨r,hr, ?_⟩;have hlen:(r.vals.take w.length).length = w.length:=by rw [b5p,hw r hr];omega
   exact (acs hlen b8i (ac1 hr he) hv).1 (of_decide_eq_true e)
 intro h s hs;obtain ⟨r,hr,e⟩:=h s hs;refine b6c.2 ⟨r,hr,decide_eq_true ?_⟩;have hlen:(r.vals.take w.length).length = w.length:=by rw [b5p,hw r hr];omega
 exact (acs hlen b8i (ac1 hr he) hv).2 e
def apn (he:∀ r ∈ R,∀ v ∈ r.vals,li v) (hw:∀ r ∈ R,r.vals.length = n) (hn:n <= 16) (hf:orL ps = b6 n) {w:List Val} :
 w ∈ l4 R ps n <-> w.length = n /\ ∀ s ∈ ps,∃ r ∈ R,sel r.vals s = sel w s:=by
 unfold l4;rw [nj];constructor
 · rintro ⟨u,e0,hl,h1,h2⟩
   rw [b6u] at e0;subst e0;refine ⟨hl, ?_⟩;have h3:=h2 n (b5g _);rw [b6u,b6z b8i] at h3
   have hu:∀ v ∈ w,li v:=fun v hv=>by
    obtain ⟨j,hj,e⟩:=b5z hv;have:=h1 j b8i;rw [b7n,b5q,ol b8i,yj] at this;obtain ⟨r,hr,e2⟩:=this;have hjr:j < r.vals.length:=by rw [hw r hr];omega
    have e3:v = r.vals.getD j default:=by rw [e2,ca _ _ hj,e]
    rw [e3,ca _ _ hjr];exact he r hr _ (b5l hjr)
   have h4:=(agp he hw b8i hn hu).1 h3;intro s hs;obtain ⟨r,hr,e⟩:=h4 s hs;rw [b6z (by rw [hw r hr];omega)] at e;exact ⟨r,hr,e⟩
 rintro ⟨hl,h⟩
 have hcol:∀ j,j < n -> ∃ r ∈ R,r.vals.getD j default = w.getD j default:=fun j hj=>by
  have hb:bi (orL ps) (j:Int) = true:=by
   rw [hf,ef b8i];unfold b6;rw [b6p b8i,oh _ _ b8i];simpa using hj
  have:∃ s ∈ ps,bi s (j:Int) = true:=by
   rw [ef b8i] at hb;unfold orL at hb;rw [a86,b6r] at hb
   rcases hb with hb | hb
   · simp at hb
   obtain ⟨s,hs,hh⟩:=b6c.1 hb;exact ⟨s,hs,by rw [ef b8i];exact hh⟩
  obtain ⟨s,hs,hh⟩:=this;obtain ⟨r,hr,e⟩:=h s hs;exact ⟨r,hr,(a1s ((hw r hr).trans hl.symm)).1 e j (by rw [hw r hr];exact hj) hh⟩
 have hu:∀ v ∈ w,li v:=fun v hv=>by
  obtain ⟨j,hj,e⟩:=b5z hv;obtain ⟨r,hr,e2⟩:=hcol j b8i;have hjr:j < r.vals.length:=by rw [hw r hr];omega
  have e3:v = r.vals.getD j default:=by rw [e2,ca _ _ hj,e]
  rw [e3,ca _ _ hjr];exact he r hr _ (b5l hjr)
 refine ⟨w,rfl,hl,fun j hj=>?_,fun j hj=>?_⟩
 · rw [b7n,b5q,ol hj,yj]
   exact hcol j hj
 rw [b6u];have hjl:(w.take j).length = j:=by rw [b5p];omega
 rw [agp he hw b8i hn fun v hv=>hu v (b7z hv)];intro s hs;obtain ⟨r,hr,e⟩:=h s hs;refine ⟨r,hr, ?_⟩;rw [hjl];have hrl:=hw r hr;rw [a1s (by rw [b5p,b5p];omega)];intro i hi hh;rw [b5p] at hi;have h5:=(a1s (hrl.trans hl.symm)).1 e i b8i hh;simpa [List.getD,b69,show i < j by omega] using h5
end
end
section
section
variable {n:Int} {ps:List AS} {p m:List Fd}
end
def sgB (n:Int) (c:AS) (z:Int):Int:=if bi c (z % n) = true then z % n else z
section
variable {n:Int} {P Q:AS} {p:List Fd}
def al4 {a b:AS} {i:Int}:bi (a &&& b) i = (bi a i && bi b i):=by
 unfold bi;rw [b6o];cases decide (0 <= i /\ i < 32) <;> simp
end
end
section
section
variable {t:Tbl} {d:Fd}
def at4 {R:List Row} {a:Row} (h:a ∈ R):∃ i,i < R.length /\ R.getD i default = a:=by
 obtain ⟨i,hi,e⟩:=b5z h;exact ⟨i,hi,by rw [ca _ _ hi,e]⟩
end
section
variable {n:Int} {ps:List AS} {p m:List Fd}
end
def sgT (n:Nat) (w:List Val) (f:Nat -> Row) (z:Int):Val:=if z < (n:Int) then w.getD z.toNat default else (f (z / n - 1).toNat).vals.getD (z % n).toNat default
end
section
def fdP (d:Fd) (r k:AS):Option AS:=if (r ^^^ k) &&& d.lhs = 0 then (if (r ^^^ k) &&& d.rhs = 0 then none else some ((r ^^^ k) &&& d.rhs)) else none
def fdQ (d:Fd) (T:List AS) (r:AS):Option AS:=T.findSome? (fdP d r)
def fdT (d:Fd) (T:List AS):Option AS:=T.findSome? (fdQ d T)
section
variable {T:List AS} {d:Fd}
def apu {s:AS} (h:fdT d T = some s):∃ r ∈ T,∃ k ∈ T,agB d r k = true /\ s = (r ^^^ k) &&& d.rhs /\ s ≠ 0:=by
 unfold fdT at h;obtain ⟨r,hr,h⟩:=b85 h;unfold fdQ at h;obtain ⟨k,hk,h⟩:=b85 h;unfold fdP at h;split at h
 · rename_i h1
   split at h
   · cases h
   rename_i h2;cases h;exact ⟨r,hr,k,hk,decide_eq_true h1,rfl,h2⟩
 cases h
def vz (h:T.Nodup):T.length <= 4294967296:=by
 have h1:(T.map BitVec.toNat).Nodup:=List.Pairwise.map _ (fun a b hab e=>hab (b7v e)) h
 have h2:∀ x ∈ T.map BitVec.toNat,x < 4294967296:=by
  intro x hx;obtain ⟨a,_,rfl⟩:=b5w.1 hx;exact a.isLt
 have hlen:(T.map BitVec.toNat).length = T.length:=b64 _;rw [<- hlen]
 have key:∀ (N:Nat) (l:List Nat),l.Nodup -> (∀ x ∈ l,x < N) -> l.length <= N:=by
  intro N
  induction N with
  | zero =>
   intro l _ hl
   cases l with
   | nil=>exact b5g _
   | cons a l=>exact absurd (hl a b8l) (b5i _)
  | succ N ih =>
   intro l hn hl
   have h3:=ih (l.filter fun x=>!decide (x = N)) (hn.filter _) fun x hx=>by
    rw [b7o] at hx;have:=hl x hx.1;have hx2:¬ x = N:=by simpa using hx.2
    omega
   have h4:l.length <= (l.filter fun x=>!decide (x = N)).length + 1:=by
    have h5:∀ l:List Nat,l.length = (l.filter fun x=>!decide (x = N)).length + l.countP fun x=>decide (x = N):=by
     intro l
     induction l with
     | nil=>rfl
     | cons a l ih =>
      by_cases e:a = N
      · simp [b7i,b7j,e,ih];omega
      simp [b7i,b7j,e,ih];omega
    have h6:=h5 l
    have h7:(l.countP fun x=>decide (x = N)) <= 1:=by
     have:=hn.count (a:=N)
     have e:(l.countP fun x=>decide (x = N)) = l.count N:=by
      unfold List.count;congr 1
     rw [e]
     first | exact List.nodup_iff_count.1 hn N | (rw [this];split <;> omega)
    omega
   omega
 exact key _ _ h1 h2
def v1 {i:Nat} (hi:i < 32):(orL T).getLsbD i = T.any fun r=>r.getLsbD i:=by
 unfold orL
 have:∀ (T:List AS) (o:AS),(T.foldl (· ||| ·) o).getLsbD i = (o.getLsbD i || T.any fun r=>r.getLsbD i):=by
  intro T
  induction T with
  | nil=>intro o;simp
  | cons a T ih=>intro o;rw [List.foldl_cons,ih,b7g,List.any_cons,Bool.or_assoc]
 rw [this];simp
def at8 {s:AS}:orL (ns T s) = orL T &&& ~~~s:=by
 apply aei;intro i hi;rw [v1 hi,ni hi,v1 hi]
 cases hs:s.getLsbD i with
 | true =>
  simp only [Bool.not_true,Bool.and_false];rw [b6v];intro z hz;obtain ⟨r,hr,rfl⟩:=a41.1 hz;rw [ni hi,hs];simp
 | false =>
  simp only [Bool.not_false,Bool.and_true];rw [b87,b6c,b6c];constructor
  · rintro ⟨z,hz,hb⟩
    obtain ⟨r,hr,rfl⟩:=a41.1 hz;rw [ni hi,b5j] at hb;exact ⟨r,hr,hb.1⟩
  rintro ⟨r,hr,hb⟩;exact ⟨r &&& ~~~s,a41.2 ⟨r,hr,rfl⟩,by rw [ni hi,hb,hs];rfl⟩
def a8v {s:AS} (h:fdT d T = some s):(orL (ns T s)).toNat < (orL T).toNat:=by
 obtain ⟨r,hr,k,hk,_,rfl,hz⟩:=apu h;rw [at8];refine ac3 amy fun e=>?_;obtain ⟨i,hi,hb⟩:=avf hz;have h1:=congrArg (fun z:AS=>z.getLsbD i) e;simp only [ni hi,hb,Bool.not_true,Bool.and_false] at h1;have h1:(orL T).getLsbD i = false:=h1.symm;rw [v1 hi,b6v] at h1;rw [b6o,BitVec.getLsbD_xor,b5j] at hb;have h2:r.getLsbD i = false:=by simpa using h1 r hr
 have h3:k.getLsbD i = false:=by simpa using h1 k hk
 rw [h2,h3] at hb;simp at hb
def mn (d:Fd):Nat -> List AS -> List AS
 | 0,T=>T
 | f + 1,T=>match fdT d T with
  | none=>T
  | some s=>mn d f (ns T s)
def mvS (d:Fd) (T:List AS) (i k:Nat):List AS:=if agB d (T.getD i default) (T.getD k default) = true then mr T (xc d (T.getD i default) (T.getD k default)) else T
def mvI (d:Fd):Nat -> List AS -> Nat -> Nat -> List AS
 | 0,T,_,_=>T
 | f + 1,T,i,k=>if k < T.length then mvI d f (mvS d T i k) i (k + 1) else T
def mvO (d:Fd):Nat -> List AS -> Nat -> List AS
 | 0,T,_=>T
 | f + 1,T,i=>if i < T.length then mvO d f (mvI d 8589934592 T i 0) (i + 1) else T
def a2l (d:Fd) (T:List AS) (i k:Nat):T <+: mvS d T i k:=by
 unfold mvS mr;split
 · split
   · exact b7k _
   exact List.prefix_append _ _
 exact b7k _
def a1o (d:Fd):∀ (f:Nat) (T:List AS) (i k:Nat),T <+: mvI d f T i k
 | 0,T,_,_=>b7k _
 | f + 1,T,i,k=>by
  unfold mvI;split
  · exact (a2l d T i k).trans (a1o d f _ i (k + 1))
  exact b7k _
def ahg (d:Fd):∀ (f:Nat) (T:List AS) (i:Nat),T <+: mvO d f T i
 | 0,T,_=>b7k _
 | f + 1,T,i=>by
  unfold mvO;split
  · exact (a1o d _ T i 0).trans (ahg d f _ (i + 1))
  exact b7k _
def alv {i k:Nat} (h:T.Nodup):(mvS d T i k).Nodup:=by
 unfold mvS;split
 · exact sy h
 exact h
def acz:∀ {f:Nat} {T:List AS} {i k:Nat},T.Nodup -> (mvI d f T i k).Nodup
 | 0,T,_,_,h=>h
 | f + 1,T,i,k,h=>by
  unfold mvI;split
  · exact acz (alv h)
  exact h
def ac9:∀ {f:Nat} {T:List AS} {i:Nat},T.Nodup -> (mvO d f T i).Nodup
 | 0,T,_,h=>h
 | f + 1,T,i,h=>by
  unfold mvO;split
  · exact ac9 (acz h)
  exact h
abbrev TC:=List AS × Bool
def FU2:Nat:=8589934592
def fdR (x:TC) (d:Fd):TC:=(mn d FU2 x.1,x.2 || (fdT d x.1).isSome)
def mvR (x:TC) (d:Fd):TC:=(mvO d FU2 x.1 0,x.2 || decide (x.1.length < (mvO d FU2 x.1 0).length))
def sq (fs ms:List Fd) (T:List AS):TC:=ms.foldl mvR (fs.foldl fdR (T,false))
def chF (fs ms:List Fd):Nat -> List AS -> List AS
 | 0,T=>T
 | f + 1,T=>if (sq fs ms T).2 = true then chF fs ms f (sq fs ms T).1 else (sq fs ms T).1
def muT (T:List AS):Nat:=(orL T).toNat * FU2 + (4294967296 - T.length)
def w3 {f:Nat} {s:AS} (h:fdT d T = some s):mn d (f + 1) T = mn d f (ns T s):=by
 show (match fdT d T with | none=>T | some s=>mn d f (ns T s)) = _;rw [h]
def a16 {f:Nat} (h:fdT d T = none):mn d f T = T:=by
 cases f with
 | zero=>rfl
 | succ f =>
  show (match fdT d T with | none=>T | some s=>mn d f (ns T s)) = _;rw [h]
variable {P:List AS -> Prop}
def abp (hP:∀ T s,P T -> fdT d T = some s -> P (ns T s)):∀ (f:Nat) (T:List AS),P T -> P (mn d f T)
 | 0,T,h=>h
 | f + 1,T,h=>by
  cases hq:fdT d T with
  | none=>rw [a16 hq];exact h
  | some s=>rw [w3 hq];exact abp hP f _ (hP T s h hq)
def agt (hP:∀ T r k,P T -> r ∈ T -> k ∈ T -> agB d r k = true -> P (mr T (xc d r k))):∀ (f:Nat) (T:List AS) (i k:Nat),i < T.length -> P T -> P (mvI d f T i k)
 | 0,T,_,_,_,h=>h
 | f + 1,T,i,k,hi,h=>by
  unfold mvI;split
  · rename_i hk
    refine agt hP f _ i (k + 1) (b78 hi (a2l d T i k).length_le) ?_;unfold mvS;split
    · rename_i ha
      exact hP T _ _ h (a98 hi) (a98 hk) ha
    exact h
  exact h
def a89 (hP:∀ T r k,P T -> r ∈ T -> k ∈ T -> agB d r k = true -> P (mr T (xc d r k))):∀ (f:Nat) (T:List AS) (i:Nat),P T -> P (mvO d f T i)
 | 0,T,_,h=>h
 | f + 1,T,i,h=>by
  unfold mvO;split
  · rename_i hi
    exact a89 hP f _ (i + 1) (agt hP _ T i 0 hi h)
  exact h
variable {fs:List Fd}
def a75 (hP:∀ d ∈ fs,∀ T s,P T -> fdT d T = some s -> P (ns T s)):∀ (ds:List Fd) (x:TC),(∀ d ∈ ds,d ∈ fs) -> P x.1 -> P (ds.foldl fdR x).1
 | [],x,_,h=>h
 | d :: ds,x,hd,h=>a75 hP ds (fdR x d) (fun e he=>hd e (by simp [he])) (abp (hP d (hd d b8l)) _ _ h)
variable {ms:List Fd}
def ago (hP:∀ d ∈ ms,∀ T r k,P T -> r ∈ T -> k ∈ T -> agB d r k = true -> P (mr T (xc d r k))):∀ (ds:List Fd) (x:TC),(∀ d ∈ ds,d ∈ ms) -> P x.1 -> P (ds.foldl mvR x).1
 | [],x,_,h=>h
 | d :: ds,x,hd,h=>ago hP ds (mvR x d) (fun e he=>hd e (by simp [he])) (a89 (hP d (hd d b8l)) _ _ _ h)
def as9 (h1:∀ d ∈ fs,∀ T s,P T -> fdT d T = some s -> P (ns T s)) (h2:∀ d ∈ ms,∀ T r k,P T -> r ∈ T -> k ∈ T -> agB d r k = true -> P (mr T (xc d r k))) (h:P T):P (sq fs ms T).1 :=
 ago h2 ms _ (fun _ h=>h) (a75 h1 fs (T,false) (fun _ h=>h) h)
def ar7:∀ d ∈ fs,∀ (T:List AS) (s:AS),T.Nodup -> fdT d T = some s -> (ns T s).Nodup:=fun _ _ T s _ _=>a5x T s
def b0d:∀ d ∈ ms,∀ (T:List AS) (r k:AS),T.Nodup -> r ∈ T -> k ∈ T -> agB d r k = true -> (mr T (xc d r k)).Nodup:=fun _ _ _ _ _ h _ _ _=>sy h
def alq {A B:List AS} (h:(orL B).toNat < (orL A).toNat):muT B < muT A:=by
 unfold muT;have h1:((orL B).toNat + 1) * FU2 <= (orL A).toNat * FU2:=b5n _ h;rw [b6b] at h1;have:FU2 = 8589934592:=rfl;omega
def as7 {A B:List AS} (hp:A <+: B) (ho:(orL B).toNat = (orL A).toNat) (hB:B.length <= 4294967296):muT B <= muT A /\ (A.length < B.length -> muT B < muT A):=by
 unfold muT;rw [ho];have:=hp.length_le;omega
def ark {r k:AS} (hr:r ∈ T) (hk:k ∈ T):orL (mr T (xc d r k)) = orL T:=by
 apply aei;intro i hi;rw [v1 hi,v1 hi,b87,b6c,b6c];constructor
 · rintro ⟨z,hz,hb⟩
   rcases a4y.1 hz with hz | rfl
   · exact ⟨z,hz,hb⟩
   rw [aoe hi] at hb;split at hb
   · exact ⟨r,hr,hb⟩
   exact ⟨k,hk,hb⟩
 rintro ⟨z,hz,hb⟩;exact ⟨z,a4y.2 (.inl hz),hb⟩
def auk {f:Nat} {i:Nat}:orL (mvO d f T i) = orL T :=
 a89 (P:=fun X=>orL X = orL T) (fun X r k h hr hk _=>(ark hr hk).trans h) f T i rfl
def afz {T0:List AS} (f:Nat):∀ (T:List AS),muT T <= muT T0 -> muT (mn d f T) <= muT T0:=by
 induction f with
 | zero=>intro T h;exact h
 | succ f ih =>
  intro T h
  cases hq:fdT d T with
  | none=>rw [a16 hq];exact h
  | some s =>
   rw [w3 hq];have h1:=alq (a8v hq);exact ih _ b8i
def aw5 (x:TC) (d:Fd):muT (fdR x d).1 <= muT x.1 /\ (x.2 = false -> (fdR x d).2 = true -> muT (fdR x d).1 < muT x.1):=by
 refine ⟨afz _ _ (b5g _),fun h1 h2=>?_⟩;unfold fdR at h2 ⊢;rw [h1,b86,Option.isSome_iff_exists] at h2;obtain ⟨s,hs⟩:=h2;show muT (mn d FU2 x.1) < _;rw [show FU2 = 8589934591 + 1 from rfl,w3 hs];exact Nat.lt_of_le_of_lt (afz _ _ (b5g _)) (alq (a8v hs))
def ax2 {x:TC} (hn:x.1.Nodup) (d:Fd):muT (mvR x d).1 <= muT x.1 /\ (x.2 = false -> (mvR x d).2 = true -> muT (mvR x d).1 < muT x.1):=by
 have h:=as7 (ahg d FU2 x.1 0) (congrArg BitVec.toNat auk) (vz (ac9 hn));refine ⟨h.1,fun h1 h2=>h.2 ?_⟩;unfold mvR at h2;rw [h1,b86] at h2;exact of_decide_eq_true h2
def ah0:∀ (ds:List Fd) (x:TC),muT (ds.foldl fdR x).1 <= muT x.1 /\ (x.2 = false -> (ds.foldl fdR x).2 = true -> muT (ds.foldl fdR x).1 < muT x.1)
 | [],x=>⟨b5g _,fun h k=>by simp only [List.foldl_nil] at k;rw [h] at k;cases k⟩
 | d :: ds,x=>by
  obtain ⟨a1,a2⟩:=aw5 x d;obtain ⟨b1,b2⟩:=ah0 ds (fdR x d);refine ⟨b6i b1 a1,fun h k=>?_⟩
  cases hq:(fdR x d).2 with
  | true=>exact Nat.lt_of_le_of_lt b1 (a2 h hq)
  | false=>exact b78 (b2 hq k) a1
def ahf:∀ (ds:List Fd) (x:TC),x.1.Nodup -> muT (ds.foldl mvR x).1 <= muT x.1 /\ (x.2 = false -> (ds.foldl mvR x).2 = true -> muT (ds.foldl mvR x).1 < muT x.1)
 | [],x,_=>⟨b5g _,fun h k=>by simp only [List.foldl_nil] at k;rw [h] at k;cases k⟩
 | d :: ds,x,hn=>by
  obtain ⟨a1,a2⟩:=ax2 hn d;obtain ⟨b1,b2⟩:=ahf ds (mvR x d) (ac9 hn);refine ⟨b6i b1 a1,fun h k=>?_⟩
  cases hq:(mvR x d).2 with
  | true=>exact Nat.lt_of_le_of_lt b1 (a2 h hq)
  | false=>exact b78 (b2 hq k) a1
def awz (hn:T.Nodup) (h:(sq fs ms T).2 = true):muT (sq fs ms T).1 < muT T:=by
 unfold sq at h ⊢;obtain ⟨a1,a2⟩:=ah0 fs (T,false);have hn2:(fs.foldl fdR (T,false)).1.Nodup:=a75 ar7 fs (T,false) (fun _ h=>h) hn;obtain ⟨b1,b2⟩:=ahf ms (fs.foldl fdR (T,false)) hn2
 cases hq:(fs.foldl fdR (T,false)).2 with
 | true=>exact Nat.lt_of_le_of_lt b1 (a2 rfl hq)
 | false=>exact b78 (b2 hq h) a1
def MU:Nat:=73786976294838206464
def ax4 (T:List AS):muT T < MU:=by
 unfold muT;have h:=(orL T).isLt;have h1:((orL T).toNat + 1) * FU2 <= 4294967296 * FU2:=b5n _ h;rw [b6b] at h1;have e:FU2 = 8589934592:=rfl;have e2:MU = 73786976294838206464:=rfl;omega
def aq6 (rest:AS):List AS:=mr [0] rest
def chT (fs ms:List Fd) (rest:AS):List AS:=chF fs ms MU (aq6 rest)
def azk (rest:AS):(aq6 rest).Nodup:=sy b8l
end
end
section
structure MvO (d:Fd) (T0:List AS) (x:Nat × List AS × Nat):Prop where
 nd:x.2.1.Nodup
 pre:T0 <+: x.2.1
 res:mvO d x.1 x.2.1 x.2.2 = mvO d FU2 T0 0
 le:x.2.2 <= x.2.1.length
 fuel:4294967296 < x.1 + x.2.2
structure MvI (d:Fd) (T:List AS) (i:Nat) (x:Nat × List AS × Nat):Prop where
 nd:x.2.1.Nodup
 pre:T <+: x.2.1
 res:mvI d x.1 x.2.1 i x.2.2 = mvI d 8589934592 T i 0
 le:x.2.2 <= x.2.1.length
 fuel:4294967296 < x.1 + x.2.2
section
variable {d:Fd} {T0 T:List AS} {i f k:Nat}
theorem MvO.start (h:T.Nodup):MvO d T (FU2,T,0):=⟨h,b7k _,rfl,b5h _,by show 4294967296 < 8589934592 + 0;omega⟩
theorem MvI.start (h:T.Nodup):MvI d T i (8589934592,T,0):=⟨h,b7k _,rfl,b5h _,by show 4294967296 < 8589934592 + 0;omega⟩
theorem MvO.pos (h:MvO d T0 (f,T,i)):0 < f /\ T.length <= 4294967296:=by
 have h1:=vz h.nd;have h2:=h.le;have h3:=h.fuel;dsimp only at h1 h2 h3;omega
section
variable {U:List AS}
theorem MvI.pos (h:MvI d T i (f,U,k)):0 < f /\ U.length <= 4294967296:=by
 have h1:=vz h.nd;have h2:=h.le;have h3:=h.fuel;dsimp only at h1 h2 h3;omega
theorem MvO.done (h:MvO d T0 (f,T,i)) (hi:¬ i < T.length):T = mvO d FU2 T0 0:=by
 have hp:=h.pos.1;have hr:mvO d f T i = mvO d FU2 T0 0:=h.res;obtain ⟨g,rfl⟩:∃ g,f = g + 1:=⟨f - 1,by omega⟩;unfold mvO at hr;rw [if_neg hi] at hr;exact hr
theorem MvI.done (h:MvI d T i (f,U,k)) (hk:¬ k < U.length):U = mvI d 8589934592 T i 0:=by
 have hp:=h.pos.1;have hr:mvI d f U i k = mvI d 8589934592 T i 0:=h.res;obtain ⟨g,rfl⟩:∃ g,f = g + 1:=⟨f - 1,by omega⟩;unfold mvI at hr;rw [if_neg hk] at hr;exact hr
theorem MvI.next (h:MvI d T i (f,U,k)) (hk:k < U.length):MvI d T i (f - 1,mvS d U i k,k + 1):=by
 have hp:=h.pos.1;have hr:mvI d f U i k = mvI d 8589934592 T i 0:=h.res;obtain ⟨g,rfl⟩:∃ g,f = g + 1:=⟨f - 1,by omega⟩;unfold mvI at hr;rw [if_pos hk] at hr;have hf:4294967296 < g + 1 + k:=h.fuel;exact ⟨alv h.nd,h.pre.trans (a2l d U i k),hr,b6i hk (a2l d U i k).length_le,by show 4294967296 < g + (k + 1);omega⟩
theorem MvO.next (h:MvO d T0 (f,T,i)) (hi:i < T.length) (hU:U = mvI d 8589934592 T i 0):MvO d T0 (f - 1,U,i + 1):=by
 subst hU;have hp:=h.pos.1;have hr:mvO d f T i = mvO d FU2 T0 0:=h.res;obtain ⟨g,rfl⟩:∃ g,f = g + 1:=⟨f - 1,by omega⟩;unfold mvO at hr;rw [if_pos hi] at hr;have hf:4294967296 < g + 1 + i:=h.fuel;exact ⟨acz h.nd,h.pre.trans (a1o d _ T i 0),hr,b6i hi (a1o d _ T i 0).length_le,by show 4294967296 < g + (i + 1);omega⟩
end
end
end
section
structure ChI (l m:List Fd) (R:List AS) (x:Nat × List AS × Bool):Prop where
 nd:x.2.1.Nodup
 t:x.2.2 = true -> chF l m x.1 x.2.1 = R /\ muT x.2.1 < x.1
 f:x.2.2 = false -> x.2.1 = R
def b4e (x:Nat × List AS × Bool):Nat:=x.1 + (bif x.2.2 then 1 else 0)
theorem ChI.start (l m:List Fd) (rest:AS):ChI l m (chT l m rest) (MU,aq6 rest,true):=⟨azk rest,fun _=>⟨rfl,ax4 _⟩,fun h=>by cases h⟩
theorem ChI.next {l m:List Fd} {R T:List AS} {f:Nat} (h:ChI l m R (f,T,true)):ChI l m R (f - 1,(sq l m T).1,(sq l m T).2) /\ 0 < f:=by
 obtain ⟨h1,h2⟩:=h.t rfl;have h2:muT T < f:=h2;have h1:chF l m f T = R:=h1;have hn:T.Nodup:=h.nd;obtain ⟨g,rfl⟩:∃ g,f = g + 1:=⟨f - 1,by omega⟩;unfold chF at h1;refine ⟨⟨as9 ar7 b0d hn,fun hc=>?_,fun hc=>?_⟩,by omega⟩
 · have hc:(sq l m T).2 = true:=hc
   rw [if_pos hc] at h1;have:=awz hn hc;exact ⟨h1,by show muT (sq l m T).1 < g;omega⟩
 have hc:(sq l m T).2 = false:=hc;rw [if_neg (by rw [hc];decide)] at h1;exact h1
def b4u (l:List Fd) (T:List AS) (i:Nat):TC:=(l.take i).foldl fdR (T,false)
def mvX (m:List Fd) (x:TC) (i:Nat):TC:=(m.take i).foldl mvR x
structure FdI (d:Fd) (U0:List AS) (x:Nat × List AS × Bool):Prop where
 nd:x.2.1.Nodup
 res:mn d x.1 x.2.1 = mn d FU2 U0
 fuel:(orL x.2.1).toNat < x.1
 f:x.2.2 = false -> x.2.1 = U0
 t:x.2.2 = true -> (fdT d U0).isSome = true
section
variable {d:Fd} {U0 U:List AS} {g:Nat} {b c:Bool} {s:AS}
theorem FdI.start (h:U0.Nodup):FdI d U0 (FU2,U0,false):=⟨h,rfl,b78 (orL U0).isLt (show 2 ^ 32 <= FU2 by decide),fun _=>rfl,fun h=>by cases h⟩
theorem FdI.len (h:FdI d U0 (g,U,b)):U.length <= 8589934592:=b6i (vz (show U.Nodup from h.nd)) b8n
theorem FdI.next (h:FdI d U0 (g,U,b)) (hq:fdT d U = some s):FdI d U0 (g - 1,ns U s,true) /\ 0 < g:=by
 have h3:(orL U).toNat < g:=h.fuel;have h2:mn d g U = mn d FU2 U0:=h.res;obtain ⟨k,rfl⟩:∃ k,g = k + 1:=⟨g - 1,by omega⟩;rw [w3 hq] at h2;have h4:=a8v hq;refine ⟨⟨a5x U s,h2,(by show (orL (ns U s)).toNat < k;omega),(fun hc=>by cases hc),fun _=>?_⟩,by omega⟩
 cases hb:b with
 | true=>exact h.t hb
 | false =>
  have e:U = U0:=h.f hb;rw [<- e,hq];rfl
theorem FdI.done (h:FdI d U0 (g,U,b)) (hq:fdT d U = none):(U,c || b) = fdR (U0,c) d:=by
 have h2:mn d g U = mn d FU2 U0:=h.res;rw [a16 hq] at h2;unfold fdR;rw [<- h2]
 cases hb:b with
 | true=>rw [h.t hb]
 | false =>
  have e:U = U0:=h.f hb;rw [<- e,hq];rfl
end
end
section
def awt (a b:AS):Bool:=abt b a
def b40 (l:List AS):List AS:=aqp awt l
def okM (l:List AS) (i k:Nat):Bool:=(List.range k).all fun j=>decide (j = i) || !abt (l.getD j default) (l.getD i default)
def b3n (l:List AS) (i:Nat):List AS:=((ord l).take i).filter fun x=>!ac4 awt (ord l) x
def yq (rest L x:AS) (T:List AS) (y:AS):Bool:=!decide (y = 0) && (decide (y &&& ~~~rest = 0) && decide ((L &&& ~~~(x ||| y)) ∈ T))
def yL (rest L x:AS) (T:List AS) (k:Nat):List AS:=((List.range k).map (BitVec.ofNat 32)).filter (yq rest L x T)
section
variable {rest L x:AS} {T:List AS} {k:Nat}
end
end
section
open Go.Proofs
def fm (n:Int) (ps:List AS):List AS:=if ps.length = 0 then [b6 n] else ps.set (ps.length - 1) (ps.getD (ps.length - 1) default ||| (b6 n &&& ~~~(orL ps)))
section
variable {ps:List AS}
def ag8 {n:Int} (h:ps.length = 0):fm n ps = [b6 n]:=if_pos h
def ahn {n:Int} (h:¬ ps.length = 0):fm n ps = ps.set (ps.length - 1) (ps.getD (ps.length - 1) default ||| (b6 n &&& ~~~(orL ps))):=if_neg h
def au4 {e:TypeId} {l:List AS} {f:Nat -> Nat -> PV} {m:Nat} (hm:m = l.length):CoO (.arr true 1 e (0 + m) (d8 0 f (lf sC l))) (.arr true 1 e l.length (lf sC l)):=by
 subst hm;exact ⟨fun h=>h,rfl,rfl,(b5q _).symm,fun i j _ _=>CoP.of_eq (by simp [d8])⟩
def b2c {n:Int} {j k:Nat} (h:k = j):it .or .u32 (asI (ps.getD k default)) (it .andNot .u32 (asI (b6 n)) (asI (orL ps))) = asI (ps.getD j default ||| (b6 n &&& ~~~(orL ps))):=by
 subst h;rw [awk,bOr]
def arf {x:AS} {cl:Bool} {f:Nat -> Nat -> PV} (h:CoP (f 0 0) (asC x)):CoP (.sl 1 1 cl f) (asl [x]):=CoP.sl rfl (.inl rfl) (fun h=>by cases h) fun i j hi hj=>by
 obtain rfl:i = 0:=by omega
 obtain rfl:j = 0:=by omega
 exact h
def az0 (n:Int) (ps:List AS) (hps:ps.length <= 8589934592):a8 b98 16 [pI n,pP (asl ps)] (ae [pP (asl (fm n ps))]):=by
 refine hpx (nt:=42) Tryz.func16 ?_;refine bv 1 rfl fun hb=>?_;refine v6 ?_;refine cj (ka 0 (ka 1 kn)) km (fun i=>⟨[(5,some (vA (orL (ps.take i)))),(6,some (vI i))],[]⟩) ps.length ⟨⟨⟨_,rfl,(CoR.refl _)⟩,⟨_,rfl,(CoR.refl _)⟩,trivial⟩,trivial⟩ ?_;rintro i hi;refine w_8 ?_;refine hcd (fun h0=>?_) (fun h0=>?_)
 · refine v7 ?_;exact lpx (i + 1) ⟨⟨⟨_,rfl,(ta ((bOr _ _).trans (congrArg asI (a4h b8i).symm)))⟩,⟨_,rfl,(CoR.refl _)⟩,tt⟩,trivial⟩
 obtain rfl:i = ps.length:=by omega
 rw [show ps.take ps.length = ps from b67];refine w_3 ?_;refine m9 900 ?_;refine qy ?_;refine r9 901 true ?_;refine w_2 ?_;refine aby ⟨[(0,some _),(5,some _),(7,some (.v (.one (.ref 900 ps.length))))],[(900,some (.arr true 1 28 ps.length (lf sC ps)))]⟩ (by exact ⟨⟨c9,c9,⟨_,rfl,CoR.of_eq (congrArg (fun z=>HR.v (.one (.ref 900 z))) (b5q _))⟩,trivial⟩,⟨⟨_,rfl,au4 rfl⟩,trivial⟩⟩) ?_;refine w_7 ?_;refine hcd (fun h1=>?_) (fun h1=>?_)
 ·
  have h0:ps.length = 0:=by omega
  refine w_3 ?_;refine qcx sa (sj n) ?_;refine m9 902 ?_;refine w_2 ?_;refine bm 4 rfl rfl rfl ?_;exact hx8 rfl rfl rfl (⟨CoC.one (by rw [ag8 h0];exact arf (CoP.refl _)),trivial⟩)
 have h0:¬ ps.length = 0:=by omega
 refine df ?_;refine qcx sa (sj n) ?_;refine w_7 ?_;refine aby ⟨[(7,some _)],[(900,some (.arr true 1 28 ps.length (lf sC (ps.set (ps.length - 1) (ps.getD (ps.length - 1) default ||| (b6 n &&& ~~~(orL ps)))))))]⟩ (by exact ⟨tt,⟨⟨_,rfl,(a83 (fun h=>h) rfl b8i b8i (congrArg (fun z=>PV.raw (.int .u32 z)) (b2c b8i)))⟩,trivial⟩⟩) ?_;refine w_5 ?_;refine bm 4 rfl rfl rfl ?_;exact hx8 rfl rfl rfl (⟨CoC.one (CoP.of_eq (by rw [ahn h0];exact (congrArg (fun z=>PV.sl z 1 false (lf sC (ps.set (ps.length - 1) (ps.getD (ps.length - 1) default ||| (b6 n &&& ~~~(orL ps)))))) List.length_set.symm))),trivial⟩)
end
end
section
def aom:∀ k,k < 9 -> wa (ff.take k) = true:=by decide
def b0g (n:Int) (d:Fd):Fd:=⟨d.lhs &&& b6 n,d.rhs &&& b6 n⟩
def b47 (q:Fd -> Bool) (n:Int) (l:List Fd) (i:Nat):List Fd:=((l.take i).map (b0g n)).filter q
section
variable {q:Fd -> Bool} {n:Int} {l:List Fd} {i:Nat}
end
def b4f (s:AS) (l:List AS) (i:Nat):List AS:=(l.take i).map (· &&& s) ++ l.drop i
section
variable {s:AS} {l:List AS} {i:Nat}
end
def ape {n:Int} {ps:List AS} {k:Nat} (h:ps.length <= k) (hk:1 <= k):(fm n ps).length <= k /\ 0 < (fm n ps).length:=by
 by_cases h0:ps.length = 0
 · rw [ag8 h0]
   exact ⟨hk,Nat.succ_pos _⟩
 rw [ahn h0,b7m];omega
end
section
def xv {r:Rw} {k:Nat} (hk:k < r.length):(dl r).getD k default = ⟨1,r.getD k default,emp⟩:=a58 hk
def zn:∀ {a b:Rw},dl a = dl b -> a = b
 | [],[],_=>rfl
 | [],_ :: _,h=>by simp [dl] at h
 | _ :: _,[],h=>by simp [dl] at h
 | x :: a,y :: b,h=>by
  simp only [dl,b71,b7l,Val.mk.injEq,true_and,and_true] at h;rw [h.1,zn (a:=a) (b:=b) h.2]
def u5 {s:AS} {a b:Rw} (h:a.length = b.length):sel (dl a) s = sel (dl b) s <-> AgE (fun x y=>x = y) a b s:=by
 rw [a1s (by rw [jl,jl,h]),jl];constructor
 · intro h1 i hi hh
   have:=h1 i hi hh;rw [xv hi,xv b8i] at this;exact (Val.mk.injEq _ _ _ _ _ _ ▸ this).2.1
 intro h1 i hi hh;rw [xv hi,xv b8i,h1 i hi hh]
def yd {l:List Rw} {r:Row} (h:r ∈ l5 l):∃ z ∈ l,r.vals = dl z:=by
 unfold l5 at h;obtain ⟨i,hi,rfl⟩:=b5w.1 h;have hi:=b5r.1 hi;exact ⟨l.getD i default,by rw [ca _ _ hi];exact b5l hi,rfl⟩
def a7s {l:List Rw} {z:Rw} (h:z ∈ l):∃ r ∈ l5 l,r.vals = dl z:=by
 obtain ⟨i,hi,e⟩:=b5z h;refine ⟨_,b5w.2 ⟨i,b5r.2 hi,rfl⟩, ?_⟩;show dl (l.getD i default) = _;rw [ca _ _ hi,e]
section
variable {N:Nat} {ps:List AS} {p m:List Fd} {l:List Rw}
def awv {t:Tbl} (hr:t.rows = l5 l) (hm:Mdl N p m (fun x y=>x = y) (fun r=>r.length = N /\ r ∈ l)) (hl:∀ z ∈ l,z.length = N) {d:Fd} (hd:d ∈ p):fdB t d = true:=by
 unfold fdB;refine b5u.2 fun i hi=>b5u.2 fun k hk=>?_;have hi:=b5r.1 hi;have hk:=b5r.1 hk;rw [hr,qn] at hi;unfold x3 o3;rw [hr,qz hi,qz b8i];have hzi:l.getD i default ∈ l:=by rw [ca _ _ hi];exact b5l hi
 have hzk:l.getD k default ∈ l:=by rw [ca _ _ (by omega:k < l.length)];exact b5l b8i
 have hlen:(l.getD i default).length = (l.getD k default).length:=(hl _ hzi).trans (hl _ hzk).symm;show (!decide (sel (dl (l.getD i default)) d.lhs = sel (dl (l.getD k default)) d.lhs) || decide (sel (dl (l.getD i default)) d.rhs = sel (dl (l.getD k default)) d.rhs)) = true;by_cases h:sel (dl (l.getD i default)) d.lhs = sel (dl (l.getD k default)) d.lhs
 · have h1:=hm.fd hd ⟨hl _ hzi,hzi⟩ ⟨hl _ hzk,hzk⟩ ((u5 hlen).1 h)
   rw [decide_eq_true ((u5 hlen).2 h1)];simp
 rw [decide_eq_false h];rfl
def ax0 {t:Tbl} (hr:t.rows = l5 l) (ha:t.attrs.length = N) (hN:N <= 16) (hm:Mdl N p m (fun x y=>x = y) (fun r=>r.length = N /\ r ∈ l)) (hl:∀ z ∈ l,z.length = N) {d:Fd} (hd:d ∈ m):mvB t d = true:=by
 unfold mvB;refine b5u.2 fun i hi=>b5u.2 fun k hk=>?_;have hi:=b5r.1 hi;have hk:=b5r.1 hk;rw [hr,qn] at hi hk;unfold wj ajl o3;rw [hr,qz hi,qz hk,ha];have hzi:l.getD i default ∈ l:=by rw [ca _ _ hi];exact b5l hi
 have hzk:l.getD k default ∈ l:=by rw [ca _ _ hk];exact b5l hk
 have hli:=hl _ hzi;have hlk:=hl _ hzk;show (!decide (sel (dl (l.getD i default)) d.lhs = sel (dl (l.getD k default)) d.lhs) || _) = true;by_cases h:sel (dl (l.getD i default)) d.lhs = sel (dl (l.getD k default)) d.lhs
 · obtain ⟨h1,h2⟩:=hm.mv hd ⟨hli,hzi⟩ ⟨hlk,hzk⟩ ((u5 (hli.trans hlk.symm)).1 h)
   obtain ⟨x,hx,e⟩:=a7s h2;rw [decide_eq_true h];show (false || _) = true;rw [b86];refine b6c.2 ⟨x,hx, ?_⟩;rw [e,b5j];constructor
   · refine decide_eq_true ((u5 (h1.trans hli.symm)).2 fun j hj hh=>?_)
     rw [a2q b8i,if_pos hh]
   refine decide_eq_true ((u5 (h1.trans hlk.symm)).2 fun j hj hh=>?_)
   have hno:¬ bi (d.lhs ||| d.rhs) (j:Int) = true:=fun h3=>by
    rw [al4,b5j] at hh;have h4:=hh.2;rw [ef b8i] at h3 h4;rw [b8a,h3] at h4;simp at h4
   rw [a2q b8i,if_neg hno]
 rw [decide_eq_false h];rfl
def auf (hN:N <= 8) (hps:ps.length <= 64) {c:Nat} {z:Int} (h:z ∈ stC (N:Int) ps c):a4e z:=by
 unfold stC at h;split at h
 · rename_i hc
   obtain ⟨i,hi,rfl⟩:=b5w.1 h;have hi:=b5r.1 hi;unfold stV;have h1:0 <= (i:Int) * (N:Int):=Int.mul_nonneg b8i b8i;have h2:(i:Int) * (N:Int) <= 64 * 8:=Int.mul_le_mul b8i b8i b8i b8i;have hc:c < N:=by simpa using hc
   unfold a4e;split <;> omega
 cases h
def aty (hN:N <= 4) (hps:ps.length <= 3) (hls:lsC (N:Int) ps p m = 0) (hf:ig (N:Int) (lsT (N:Int) ps p m).2.1.2 = false) :
 TOk (fz (N:Int) ps p m) /\ (∀ d ∈ p,fdB (fz (N:Int) ps p m) d = true) /\ (∀ d ∈ m,mvB (fz (N:Int) ps p m) d = true) /\ jo (fz (N:Int) ps p m) ps = 0 /\
  (fz (N:Int) ps p m).rows.length < (jp (fz (N:Int) ps p m) ps).rows.length /\ vj (jp (fz (N:Int) ps p m) ps) (fz (N:Int) ps p m) = false /\ (jp (fz (N:Int) ps p m) ps).ok /\ (fz (N:Int) ps p m).attrs.length = N:=by
 obtain ⟨hv,hb⟩:=a0x hls;obtain ⟨h0,h8,h64,hp0,hor⟩:=vb hv;obtain ⟨_,h16,_,hpu,_⟩:=oj hb;have hT0:=z7 (ps:=ps) h0 h16 h64;have hl0:∀ r,r ∈ ai (ak (N:Int) ps) -> r.length = (N:Int).toNat:=fun r hr=>(kf hT0 r hr).1
 obtain ⟨lend,σ,hL,hCh,hT,hnx⟩:∃ lend σ,(lsT (N:Int) ps p m).2.1.2 = lend /\ Ch (N:Int).toNat p m (ai (ak (N:Int) ps)) lend σ /\ tok (N:Int) lend = true /\ dc lend p m = none:=by
  rcases a93 hT0 hb with ⟨e,_⟩ | ⟨sts,lend,σ,e,h1,h2,h3,_⟩
  · exfalso
    rw [ab0 hv hb] at hls;unfold lsT at hls;rw [e] at hls;cases hls
  exact ⟨lend,σ,by unfold lsT;rw [e],h1,h2,h3⟩
 obtain ⟨_,et⟩:=abr hls hf;rw [hL] at hf et;generalize fz (N:Int) ps p m = t at *;have hrows:t.rows = l5 lend:=by rw [et]
 have hattrs:t.attrs = ff.take N:=by rw [et];rfl
 have hal:t.attrs.length = N:=by
  rw [hattrs,b5p];have:ff.length = 8:=rfl;omega
 obtain ⟨_,_,hl256,_⟩:=eu hT;have hlz:∀ z ∈ lend,z.length = N:=fun z hz=>by have:=(kf hT z hz).1;simpa using this
 have hmd:Mdl N p m (fun x y=>x = y) (fun r=>r.length = N /\ r ∈ lend):=by
  have:=Ch.mdl hT hnx id;simp only [List.map_id,id] at this;exact this
 have hcol:∀ z ∈ lend,∀ i,i < N -> z.getD i default ∈ stC (N:Int) ps i:=fun z hz i hi =>
  (hCh.rows z hz _ _ (abx (stC (N:Int) ps) (age h0)) fun r hr=>zp (ec.1 hr)).2 i (by simpa using hi)
 have hTok:TOk t:=by
  refine ⟨by rw [et];show go ⟨#[116]⟩ = true;decide,by omega,by rw [hrows,qn];omega,by rw [hattrs];exact aom N b8i, ?_⟩;rw [hal,hrows];refine pk (fun w hw=>?_) ?_
  · obtain ⟨i,hi,rfl⟩:=b5w.1 hw
    have hi:=b5r.1 hi;have hzi:lend.getD i default ∈ lend:=by rw [ca _ _ hi];exact b5l hi
    refine ⟨?_, ?_, ?_⟩
    · show (0:Int) < (i:Int) + 1
      omega
    · show (dl _).length = N
      rw [jl,hlz _ hzi]
    rw [b5u];intro v hv;obtain ⟨z,_,rfl⟩:=b5w.1 hv;rfl
  unfold l5;refine List.pairwise_map.2 ((List.pairwise_lt_range (n:=lend.length)).imp fun {i j} hij=>?_);show (i:Int) + 1 < (j:Int) + 1;omega
 have hw:∀ r ∈ t.rows,r.vals.length = t.attrs.length:=fun r hr=>by
  rw [hrows] at hr;obtain ⟨z,hz,e⟩:=yd hr;rw [e,jl,hlz z hz,hal]
 have he:∀ r ∈ t.rows,∀ v ∈ r.vals,li v:=fun r hr v hv=>by
  rw [hrows] at hr;obtain ⟨z,hz,e⟩:=yd hr;rw [e] at hv;obtain ⟨y,hy,rfl⟩:=b5w.1 hv;obtain ⟨i,hi,e2⟩:=b5z hy;have h1:=hcol z hz i (by rw [<- hlz z hz];exact hi);rw [ca _ _ hi,e2] at h1;exact ⟨rfl,auf b8i h64 h1⟩
 have horN:orL ps = b6 (t.attrs.length:Int):=by rw [hal];exact hor
 have hmem:∀ w,w ∈ l4 t.rows ps t.attrs.length <-> w.length = t.attrs.length /\ ∀ s ∈ ps,∃ r ∈ t.rows,sel r.vals s = sel w s:=fun w=>apn he hw b8i horN;have hnod:=anw.nodup (ans (R:=t.rows) (ps:=ps) (n:=t.attrs.length))
 have hlen:(l4 t.rows ps t.attrs.length).length <= 81:=by
  have h1:=hnod.length_le_of_subset (l₂:=(yr ((List.range N).map (stC (N:Int) ps))).map dl) fun w hw=>by
   unfold l4 at hw;obtain ⟨u,e0,hl,h1,_⟩:=nj.1 hw;rw [b6u] at e0;subst e0;rw [hal] at hl
   have h2:∀ j,j < N -> ∃ z ∈ lend,w.getD j default = ⟨1,z.getD j default,emp⟩:=fun j hj=>by
    have h3:=h1 j b8i;rw [b7n,b5q,ol b8i,yj] at h3;obtain ⟨r,hr,e⟩:=h3;rw [hrows] at hr;obtain ⟨z,hz,e2⟩:=yd hr;rw [e2,xv (by rw [hlz z hz];exact hj)] at e;exact ⟨z,hz,e.symm⟩
   have hwm:dl (w.map Val.num) = w:=by
    refine List.ext_getElem (by rw [jl,b64]) fun i h3 h4=>?_;obtain ⟨z,_,e⟩:=h2 i b8i;rw [ca _ _ h4] at e;simp only [dl,List.getElem_map];rw [e]
   refine b5w.2 ⟨w.map Val.num,a9t (by simp [hl]) fun i hi=>?_,hwm⟩;have hi:i < N:=by simpa using hi
   obtain ⟨z,hz,e⟩:=h2 i hi
   have e3:(w.map Val.num).getD i default = z.getD i default:=by
    have hiw:i < w.length:=by omega
    have e5:(w.map Val.num).getD i default = (w.getD i default).num:=by simp [List.getD,hiw]
    rw [e5,e]
   have e4:((List.range N).map (stC (N:Int) ps)).getD i default = stC (N:Int) ps i:=by
    rw [b5c,b5s,b6d hi];rfl
   rw [e3,e4];exact hcol z hz i hi
  rw [b64] at h1
  have h2:=a9q (k:=3) (cs:=(List.range N).map (stC (N:Int) ps)) fun c hc=>by
   obtain ⟨i,_,rfl⟩:=b5w.1 hc;exact b6i (ast i) hps
  rw [b64,b8e] at h2;have h3:(3:Nat) ^ N <= 3 ^ 4:=Nat.pow_le_pow_right b8i hN;omega
 have hj:ir t.rows ps t.attrs.length = l4 t.rows ps t.attrs.length:=by
  rw [ap7 hp0,b6z b8i]
 have hvt:lvE (t.attrs.length:Int) ps = 0:=by rw [hal];exact hv
 have hj0:jo t ps = 0:=a7n (mh.2 hTok) hvt (by rw [hj];omega);have hjT:=a8k hj0;rw [hj] at hjT
 have hid:∀ {L:List (List Val)} {w:List Val},w ∈ L <-> ∃ r ∈ f7 L,r.vals = w:=fun {L w}=>by
  unfold f7;constructor
  · intro h
    obtain ⟨i,hi,e⟩:=b5z h;exact ⟨_,b5w.2 ⟨i,b5r.2 hi,rfl⟩,by show L.getD i default = w;rw [ca _ _ hi,e]⟩
  rintro ⟨r,hr,rfl⟩;obtain ⟨i,hi,rfl⟩:=b5w.1 hr;have hi:=b5r.1 hi;show L.getD i default ∈ L;rw [ca _ _ hi];exact b5l hi
 have hfix:∀ j,j < N -> σ (j:Int) = (j:Int):=fun j hj=>by
  have h1:=hCh.first h0
  have h2:((bh (N:Int)).map σ).getD j default = (bh (N:Int)).getD j default:=congrArg (fun l:Rw=>l.getD j default) h1;rw [gh (by rw [t6];simpa using hj),ael (by simpa using hj)] at h2;exact h2
 have hfno:¬ bh (N:Int) ∈ lend:=fun h=>by
  unfold ig at hf;rw [akj,decide_eq_false_iff_not] at hf;exact hf h
 have hflen:(bh (N:Int)).length = N:=by rw [t6];simp
 have hfin:dl (bh (N:Int)) ∈ l4 t.rows ps t.attrs.length:=by
  rw [hmem];refine ⟨by rw [jl,hflen,hal],fun s hs=>?_⟩;obtain ⟨k,hk,e⟩:=b5z hs;have hsk:ps.getD k default = s:=by rw [ca _ _ hk,e]
  have hin:stR (N:Int) k s ∈ ak (N:Int) ps:=b5w.2 ⟨k,b5r.2 hk,by rw [hsk]⟩;have him:=hCh.img _ (ec.2 hin);obtain ⟨r,hr,e2⟩:=a7s him;refine ⟨r,by rw [hrows];exact hr, ?_⟩;have hsl:(stR (N:Int) k s).length = N:=by rw [a2c];simp
  rw [e2,u5 (by rw [b64,hsl,hflen])];intro i hi hh;rw [b64,hsl] at hi;show ((stR (N:Int) k s).map σ).getD i default = (bh (N:Int)).getD i default;rw [gh b8i,a5v (by simpa using hi),ael (by simpa using hi)];unfold stV;rw [if_pos hh];exact hfix i hi
 have hlin:∀ z ∈ lend,dl z ∈ l4 t.rows ps t.attrs.length:=fun z hz=>by
  rw [hmem];obtain ⟨r,hr,e⟩:=a7s hz;exact ⟨by rw [jl,hlz z hz,hal],fun s _=>⟨r,by rw [hrows];exact hr,by rw [e]⟩⟩
 refine ⟨hTok,fun d hd=>awv hrows hmd hlz hd,fun d hd=>ax0 hrows hal b8i hmd hlz hd,hj0, ?_, ?_, ?_,hal⟩
 · have hlr:t.rows.length = lend.length:=by rw [hrows,qn]
   rw [hjT,hlr];show lend.length < (f7 (l4 t.rows ps t.attrs.length)).length;rw [te]
   have hnd:(dl (bh (N:Int)) :: lend.map dl).Nodup:=by
    refine List.nodup_cons.2 ⟨fun h=>?_, ?_⟩
    · obtain ⟨z,hz,e⟩:=b5w.1 h
      rw [<- zn e] at hfno;exact hfno hz
    refine List.Pairwise.map dl (fun a b hab e=>?_) (aih (ag1 hT));exact hab (zn e)
   have:=hnd.length_le_of_subset (l₂:=l4 t.rows ps t.attrs.length) fun w hw=>by
    rcases b5k.1 hw with rfl | hw
    · exact hfin
    obtain ⟨z,hz,rfl⟩:=b5w.1 hw;exact hlin z hz
   rw [b6k,b64] at this;omega
 · rw [b5m]
   intro h;unfold vj aid a1p at h;rw [b5j,b5j,hjT] at h;obtain ⟨r,hr,e⟩:=hid.1 hfin;have h1:=b5u.1 h.2.1 r hr;obtain ⟨x,hx,e2⟩:=b6c.1 h1;have e2:=of_decide_eq_true e2;rw [hrows] at hx;obtain ⟨z,hz,e3⟩:=yd hx;rw [e3,e] at e2;rw [<- zn e2] at hfno;exact hfno hz
 rw [hjT];refine ⟨hTok.ok.1, ?_,fun j hj=>?_⟩
 · show (f7 (l4 t.rows ps t.attrs.length)).length <= 68719476736
   rw [te];omega
 have hj:j < (f7 (l4 t.rows ps t.attrs.length)).length:=hj;show ((f7 (l4 t.rows ps t.attrs.length)).getD j default).ok;have hjm:((f7 (l4 t.rows ps t.attrs.length)).getD j default) ∈ f7 (l4 t.rows ps t.attrs.length):=by rw [ca _ _ hj];exact b5l hj
 have hin:=hid.2 ⟨_,hjm,rfl⟩;generalize (f7 (l4 t.rows ps t.attrs.length)).getD j default = r at *;have h2:=(hmem r.vals).1 hin;refine ⟨by rw [h2.1];omega,ye.2 fun v hv=>?_⟩;unfold l4 at hin;obtain ⟨u,e0,hl,h1,_⟩:=nj.1 hin;rw [b6u] at e0;rw [e0] at hv;obtain ⟨i,hi,e⟩:=b5z hv;have h3:=h1 i b8i;rw [b7n,b5q,ol b8i,yj] at h3;obtain ⟨r',hr',e5⟩:=h3;rw [ca _ _ hi,e] at e5;obtain ⟨k,hk,e6⟩:=at4 hr';have hok:=(hTok.ok.2.2 k hk).2;rw [e6] at hok;have hir:i < r'.vals.length:=by rw [hw r' hr'];omega
 rw [<- e5];exact hok i hir
end
end
section
open Go.Proofs
def atl (n:Nat) (c:Bool) (f:Nat -> Nat -> PV) (hn:n <= 17592186044416) :
 cq b98 18 [.one (.p (.sl n 2 c f))] [] (.v (.one (.ref 0 n))) [(0, .arr true 2 43 n f)] []:=by
 refine hfx (nt:=8) Tryz.func18 ?_;refine sx7 ?_;refine ax true rfl rfl rfl rfl rfl trivial ?_;refine bq ?_;refine qb (ι:=Bool) (fun c=>⟨[(0,some (b4 (.sl n 2 c f)))],[]⟩) (fun _=>True) ?_ fun c _=>?_
 · rcases b6m n with hz | h0
   · subst hz
     refine hw_exact' 0 rfl fun ad cap hcap=>?_;refine sx7 ?_;(iterate 2 refine ax true rfl rfl rfl rfl rfl trivial ?_);refine bq ?_;refine ag ad.isNone rfl (fun hc=>?_) (fun hc=>?_)
     · refine sx7 ?_
       refine ax true rfl rfl rfl rfl rfl trivial ?_;refine bq ?_;refine eo 2 0 true 2 43 f b8n rfl (CoP.sl rfl (.inr rfl) (fun h=>h) fun i j hi _=>absurd hi (b5i i)) (.inr rfl) rfl ?_;refine hrr ?_;exact ⟨_,_,rfl,trivial,CoR.refl _,uu⟩
     refine cz ?_;exact ⟨false,trivial,⟨⟨_,rfl,CoP.raw_sl hcap⟩,trivial⟩,trivial⟩
   refine sx7 ?_;refine ax true rfl rfl rfl rfl rfl trivial ?_;refine ax true rfl rfl rfl rfl rfl h0 ?_;refine bq ?_;refine ag false rfl (fun hc=>by cases hc) (fun hc=>?_);refine cz ?_;exact ⟨c,trivial,tt,trivial⟩
 refine sx7 ?_;refine ou 0 rfl rfl rfl rfl rfl rfl trivial ?_;refine ax true rfl rfl rfl rfl rfl trivial ?_;refine se 0 true rfl rfl rfl rfl rfl rfl ⟨trivial,rfl,rfl,rfl, .inl rfl,by show 0 + n <= 9223372036854775807;omega,by show (0 + n) * 8 <= 140737488355328;omega,fun _=>.inl rfl⟩ ?_;refine ax true rfl rfl rfl rfl rfl trivial ?_;refine bq ?_;refine hrr ?_;refine ⟨_,_,rfl,trivial,CoR.of_eq (by show HR.v (.one (.ref 0 (0 + n))) = _;rw [b5q]),⟨⟨_,rfl, ?_⟩,trivial⟩⟩;exact ⟨fun h=>h,rfl,rfl,(b5q n).symm,fun i j _ _=>CoP.of_eq (by simp [d8])⟩
def aq3 (n:Nat) (c:Bool) (f:Nat -> Nat -> PV) (hn:n <= 17592186044416):a8 b98 18 [.one (.sl n 2 c f)] (.v (.one (.sl n 2 false f))) :=
 cq.pure (args:=[.one (.sl n 2 c f)]) (l:=[.one (.ref 0 n)]) (atl n c f hn) rfl ⟨rfl,trivial⟩
def b4m (n:Int) (ps:List AS) (p m:List Fd):Int:=if lvE n ps = 0 then bw n p m else lvE n ps
section
variable {n:Int} {ps:List AS} {p m:List Fd}
end
end
section
open Go.Proofs
def b4i (n:Int) (a b:BitVec 8):AS:=if (b.toNat:Int) < 128 then u8S n b ||| (b6 n &&& ~~~u8S n a) else u8S n b
end
end Go.Hx
