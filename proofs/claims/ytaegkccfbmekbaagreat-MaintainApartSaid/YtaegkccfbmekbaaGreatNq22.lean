/- A part of the proof: Ma2 Ma3 Ma4 Ma5 Sp5. -/
import Derived.Test.YtaegkccfbmekbaaGreatNq21
set_option linter.all false
section
namespace Go.Hx
def ge (a b:Fd):Bool:=bef a.lhs b.lhs || (decide (a.lhs = b.lhs) && decide (a.rhs.toNat < b.rhs.toNat))
theorem uf {a b:Fd}:ge a b = true ↔ bef a.lhs b.lhs = true ∨ (a.lhs = b.lhs ∧ a.rhs.toNat < b.rhs.toNat):=by simp [ge]
theorem a2i (a:Fd):ge a a = false:=by simp [ge,kx]
theorem s6 {a b c:Fd} (h:ge a b = true) (k:ge b c = true):ge a c = true:=by
 rw [uf] at *
 rcases h with h | ⟨h1,h2⟩ <;> rcases k with k | ⟨k1,k2⟩
 · exact .inl (lm h k)
 · exact .inl (k1 ▸ h)
 · exact .inl (h1.symm ▸ k)
 · exact .inr ⟨h1.trans k1,by omega⟩
theorem a9e {a b:Fd} (h:a ≠ b):ge a b = true ∨ ge b a = true:=by
 rw [uf,uf]
 by_cases e:a.lhs = b.lhs
 · have hn:a.rhs.toNat ≠ b.rhs.toNat:=fun e2=>h (Fd.eq_iff.2 ⟨e,BitVec.eq_of_toNat_eq e2⟩)
   rcases Nat.lt_or_gt_of_ne hn with h1 | h1
   · exact .inl (.inr ⟨e,h1⟩)
   · exact .inr (.inr ⟨e.symm,h1⟩)
 · rcases py e with h1 | h1
   · exact .inl (.inl h1)
   · exact .inr (.inl h1)
theorem ag0 {a b:Fd} (h:ge a b = true):ge b a = false:=by
 rw [Bool.eq_false_iff]
 intro k
 have:=s6 h k
 rw [a2i] at this
 cases this
def ph (l:List Fd):Prop:=l.Pairwise fun a b=>ge a b = true
theorem vq:∀ {l k:List Fd},ph l → ph k → (∀ x,x ∈ l ↔ x ∈ k) → l = k
 | [],[],_,_,_=>rfl
 | [],y :: k,_,_,h=>absurd ((h y).2 (List.mem_cons_self ..)) (by simp)
 | x :: l,[],_,_,h=>absurd ((h x).1 (List.mem_cons_self ..)) (by simp)
 | x :: l,y :: k,hl,hk,h=>by
  obtain ⟨h1,h2⟩:=List.pairwise_cons.1 hl
  obtain ⟨k1,k2⟩:=List.pairwise_cons.1 hk
  have e:x = y:=by
   rcases List.mem_cons.1 ((h x).1 (List.mem_cons_self ..)) with e | hx
   · exact e
   · rcases List.mem_cons.1 ((h y).2 (List.mem_cons_self ..)) with e | hy
     · exact e.symm
     · have:=ag0 (k1 x hx)
       rw [h1 y hy] at this
       cases this
  subst e
  congr 1
  refine vq h2 k2 fun z=>?_
  constructor
  · intro hz
    rcases List.mem_cons.1 ((h z).1 (List.mem_cons_of_mem _ hz)) with e | hz'
    · subst e
      have:=h1 z hz
      rw [a2i] at this
      cases this
    · exact hz'
  · intro hz
    rcases List.mem_cons.1 ((h z).2 (List.mem_cons_of_mem _ hz)) with e | hz'
    · subst e
      have:=k1 z hz
      rw [a2i] at this
      cases this
    · exact hz'
def ic (x:Fd):List Fd → List Fd
 | []=>[x]
 | y :: l=>if x = y then y :: l else if ge x y = true then x :: y :: l else y :: ic x l
theorem v7 {x z:Fd}:∀ {l:List Fd},z ∈ ic x l ↔ z = x ∨ z ∈ l
 | []=>by simp [ic]
 | y :: l=>by
  unfold ic
  split
  · rename_i e
    subst e
    simp
  · split
    · simp
    · rw [List.mem_cons,v7,List.mem_cons]
      constructor
      · rintro (h | h | h) <;> simp [h]
      · rintro (h | h | h) <;> simp [h]
theorem yf {x:Fd}:∀ {l:List Fd},ph l → ph (ic x l)
 | [],_=>by simp [ic,ph]
 | y :: l,h=>by
  obtain ⟨h1,h2⟩:=List.pairwise_cons.1 h
  unfold ic
  split
  · exact h
  · split
    · rename_i hxy
      refine List.pairwise_cons.2 ⟨fun z hz=>?_,h⟩
      rcases List.mem_cons.1 hz with rfl | hz
      · exact hxy
      · exact s6 hxy (h1 z hz)
    · rename_i hne hxy
      refine List.pairwise_cons.2 ⟨fun z hz=>?_,yf h2⟩
      rcases v7.1 hz with rfl | hz
      · exact (a9e hne).resolve_left hxy
      · exact h1 z hz
def fj (l:List Fd):List Fd:=l.foldl (fun o x=>ic x o) []
theorem a3f:∀ {l o:List Fd},ph o → ph (l.foldl (fun o x=>ic x o) o) ∧ ∀ z,z ∈ l.foldl (fun o x=>ic x o) o ↔ z ∈ o ∨ z ∈ l
 | [],o,h=>⟨h,fun z=>by simp⟩
 | x :: l,o,h=>by
  obtain ⟨h1,h2⟩:=a3f (l:=l) (yf (x:=x) h)
  refine ⟨h1,fun z=>?_⟩
  show z ∈ l.foldl (fun o x=>ic x o) (ic x o) ↔ _
  rw [h2 z,v7,List.mem_cons]
  constructor
  · rintro ((h | h) | h) <;> simp [h]
  · rintro (h | h | h) <;> simp [h]
theorem a7s (l:List Fd):ph (fj l):=(a3f (o:=[]) List.Pairwise.nil).1
theorem a34 {l:List Fd} {z:Fd}:z ∈ fj l ↔ z ∈ l:=by
 show z ∈ l.foldl (fun o x=>ic x o) [] ↔ _
 rw [(a3f (l:=l) (o:=[]) List.Pairwise.nil).2 z]
 simp
theorem ane {l k:List Fd} (hk:ph k) (h:∀ z,z ∈ k ↔ z ∈ l):k = fj l:=vq hk (a7s l) fun z=>by rw [h z,a34]
def kc (l:List Fd) (k:Nat) (r:Fd):List Fd:=l.take k ++ r :: l.drop k
theorem o3 {l:List Fd} {k:Nat} {r:Fd} (h:k ≤ l.length):(kc l k r).length = l.length + 1:=by simp [kc];omega
theorem aik {l:List Fd} {r:Fd}:kc l l.length r = l ++ [r]:=by simp [kc]
theorem ul {l:List Fd} {k i:Nat} {r:Fd} (h:k ≤ l.length):(kc l k r)[i]? = if i < k then l[i]? else if i = k then some r else l[i - 1]?:=by
 simp only [kc]
 by_cases h1:i < k
 · rw [if_pos h1,List.getElem?_append_left (by simp;omega),List.getElem?_take,if_pos h1]
 · rw [if_neg h1,List.getElem?_append_right (by simp;omega),List.length_take,Nat.min_eq_left h]
   by_cases h2:i = k
   · subst h2;simp
   · rw [if_neg h2]
     obtain ⟨d,rfl⟩:∃ d,i = k + 1 + d:=⟨i - k - 1,by omega⟩
     rw [show k + 1 + d - k = d + 1 by omega,List.getElem?_cons_succ,List.getElem?_drop]
     congr 1
     omega
theorem ap6 {l:List Fd} {k:Nat} {r:Fd} (h:k ≤ l.length):(kc l k r).getD k default = r:=by
 rw [List.getD_eq_getElem?_getD,ul h,if_neg (by omega),if_pos rfl];rfl
theorem af4 {l:List Fd} {k:Nat} {r:Fd} (h0:0 < k) (h:k ≤ l.length):(kc l k r).getD (k - 1) default = l.getD (k - 1) default:=by
 rw [List.getD_eq_getElem?_getD,ul h,if_pos (by omega),List.getD_eq_getElem?_getD]
theorem afd {l:List Fd} {k:Nat} {r:Fd} (h0:0 < k) (h:k ≤ l.length):((kc l k r).set k (l.getD (k - 1) default)).set (k - 1) r = kc l (k - 1) r:=by
 apply List.ext_getElem?
 intro i
 rw [ul (by omega),List.getElem?_set,List.getElem?_set,List.length_set,o3 h,ul h]
 by_cases h1:k - 1 = i
 · subst h1
   rw [if_pos rfl,if_pos (by omega),if_neg (by omega),if_pos rfl]
 · rw [if_neg h1]
   by_cases h2:k = i
   · subst h2
     rw [if_pos rfl,if_pos (by omega),if_neg (by omega),if_neg (by omega),List.getD,List.getElem?_eq_getElem (by omega)]
     rfl
   · rw [if_neg h2]
     by_cases h3:i < k
     · rw [if_pos h3,if_pos (by omega)]
     · rw [if_neg h3,if_neg (by omega),if_neg (by omega),if_neg (by omega)]
theorem aie {l:List Fd} {j:Nat} (h:j < l.length):l.getD j default ∈ l:=by
 rw [List.getD_eq_getElem?_getD,List.getElem?_eq_getElem h]
 exact List.getElem_mem h
theorem acr {l:List Fd} {k:Nat} {r:Fd} (hs:ph l) (hr:r ∉ l) (hk:k ≤ l.length) (h1:∀ j,k ≤ j → j < l.length → ge r (l.getD j default) = true) (h2:k = 0 ∨ ¬ ge r (l.getD (k - 1) default) = true):kc l k r = ic r l:=by
 refine vq ?_ (yf hs) fun z=>?_
 · unfold ph kc
   rw [List.pairwise_append]
   refine ⟨hs.sublist (List.take_sublist _ _),List.pairwise_cons.2 ⟨fun z hz=>?_,hs.sublist (List.drop_sublist _ _)⟩,fun y hy z hz=>?_⟩
   · obtain ⟨j,hj,rfl⟩:=List.getElem_of_mem hz
     rw [List.length_drop] at hj
     have:=h1 (k + j) (by omega) (by omega)
     rwa [List.getD_eq_getElem?_getD,List.getElem?_eq_getElem (by omega),Option.getD_some,← List.getElem_drop] at this
   · have hyr:ge y r = true:=by
      obtain ⟨j,hj,rfl⟩:=List.getElem_of_mem hy
      rw [List.length_take] at hj
      rcases h2 with h2 | h2
      · omega
      · have hk1:k - 1 < l.length:=by omega
        have hlast:ge (l.getD (k - 1) default) r = true:=by
         rcases a9e (a:=r) (b:=l.getD (k - 1) default) (fun e=>hr (e ▸ aie hk1)) with h | h
         · exact absurd h h2
         · exact h
        rw [List.getElem_take]
        by_cases hjk:j = k - 1
        · subst hjk
          rwa [List.getD_eq_getElem?_getD,List.getElem?_eq_getElem hk1,Option.getD_some] at hlast
        · refine s6 ?_ hlast
          rw [List.getD_eq_getElem?_getD,List.getElem?_eq_getElem hk1,Option.getD_some]
          exact List.pairwise_iff_getElem.1 hs j (k - 1) (by omega) hk1 (by omega)
     rcases List.mem_cons.1 hz with rfl | hz
     · exact hyr
     · have h3:ge r z = true:=by
        obtain ⟨j,hj,rfl⟩:=List.getElem_of_mem hz
        rw [List.length_drop] at hj
        have:=h1 (k + j) (by omega) (by omega)
        rwa [List.getD_eq_getElem?_getD,List.getElem?_eq_getElem (by omega),Option.getD_some,← List.getElem_drop] at this
       exact s6 hyr h3
 · rw [v7]
   unfold kc
   rw [List.mem_append,List.mem_cons]
   constructor
   · rintro (h | h | h)
     · exact .inr (List.mem_of_mem_take h)
     · exact .inl h
     · exact .inr (List.mem_of_mem_drop h)
   · rintro (h | h)
     · exact .inr (.inl h)
     · rw [← List.take_append_drop k l,List.mem_append] at h
       rcases h with h | h
       · exact .inl h
       · exact .inr (.inr h)
theorem ahn {l:List Fd} {i:Nat} (hi:i < l.length):fj (l.take (i + 1)) = ic (l.getD i default) (fj (l.take i)):=by
 unfold fj
 rw [c8 hi,List.foldl_append]
 rfl
end Go.Hx
end
section
namespace Go.Hx
set_option maxRecDepth 100000
def m7 (K:List AS) (all x:AS):AS:=K.foldl (fun c k=>if sub x k then c &&& k else c) all
theorem xz:∀ {K:List AS} {all x:AS} {a:Nat},(m7 K all x).getLsbD a = true ↔ all.getLsbD a = true ∧ ∀ k ∈ K,sub x k → k.getLsbD a = true
 | [],all,x,a=>by simp [m7]
 | k :: K,all,x,a=>by
  show (m7 K (if sub x k then all &&& k else all) x).getLsbD a = true ↔ _
  rw [xz]
  by_cases h:sub x k
  · rw [if_pos h,BitVec.getLsbD_and,Bool.and_eq_true]
    constructor
    · rintro ⟨⟨h1,h2⟩,h3⟩
      refine ⟨h1,fun y hy hs=>?_⟩
      rcases List.mem_cons.1 hy with rfl | hy
      · exact h2
      · exact h3 y hy hs
    · rintro ⟨h1,h2⟩
      exact ⟨⟨h1,h2 k (by simp) h⟩,fun y hy hs=>h2 y (by simp [hy]) hs⟩
  · rw [if_neg h]
    constructor
    · rintro ⟨h1,h3⟩
      refine ⟨h1,fun y hy hs=>?_⟩
      rcases List.mem_cons.1 hy with rfl | hy
      · exact absurd hs h
      · exact h3 y hy hs
    · rintro ⟨h1,h2⟩
      exact ⟨h1,fun y hy hs=>h2 y (by simp [hy]) hs⟩
theorem al5 {a b:AS} (h:∀ i,a.getLsbD i = true ↔ b.getLsbD i = true):a = b:=by
 apply BitVec.eq_of_getLsbD_eq
 intro i hi
 rw [Bool.eq_iff_iff];exact h i
theorem ak9 {K K':List AS} (h:∀ k,k ∈ K ↔ k ∈ K') (all x:AS):m7 K all x = m7 K' all x:=al5 fun i=>by
 rw [xz,xz]
 exact and_congr Iff.rfl ⟨fun q k hk=>q k ((h k).2 hk),fun q k hk=>q k ((h k).1 hk)⟩
theorem a85 (K:List AS) (all x k:AS):m7 (K ++ [k]) all x = if sub x k then m7 K all x &&& k else m7 K all x:=by
 unfold m7;rw [List.foldl_append];rfl
theorem acn {L:List AS} (ho:ir L) (hc:∀ x ∈ L,∀ y,sub y x → y ∈ L) (k:Nat):∀ x ∈ L.take k,∀ y,sub y x → y ∈ L.take k:=fun x hx y hy=>by
 by_cases e:y = x
 · subst e;exact hx
 · obtain ⟨i,hi,rfl⟩:=List.getElem_of_mem hx
   rw [List.length_take] at hi
   rw [List.getElem_take] at hy e
   have hy2:=hc _ (List.getElem_mem (by omega)) y hy
   obtain ⟨j,hj,rfl⟩:=List.getElem_of_mem hy2
   have hb:=aec hy e
   have hji:j < i:=by
    apply Nat.lt_of_not_le
    intro hle
    rcases Nat.lt_or_eq_of_le hle with h | h
    · have:=List.pairwise_iff_getElem.1 ho i j (by omega) hj h
      rw [a3o this] at hb;cases hb
    · subst h;exact e rfl
   rw [List.mem_iff_getElem]
   exact ⟨j,by rw [List.length_take];omega,by rw [List.getElem_take]⟩
theorem a8p {p:AS → Bool} {L:List AS} (ho:ir L) (hc:∀ x ∈ L,∀ y,sub y x → y ∈ L) {i:Nat} (hi:i < L.length) :
 (p (L.getD i default) && !((gv p (L.take i)).any fun y=>decide (sub y (L.getD i default)))) = true ↔ L.getD i default ∈ gv p L:=by
 have hx:L.getD i default ∈ L:=ac8 hi
 have hxt:L.getD i default ∈ L.take (i + 1):=by rw [c8 hi];simp
 have h1:L.getD i default ∈ gv p (L.take (i + 1)) ↔ L.getD i default ∈ gv p L:=by
  rw [a0q p _ (ho.sublist (List.take_sublist _ _)) (acn ho hc _),a0q p L ho hc]
  exact and_congr ⟨fun _=>hx,fun _=>hxt⟩ Iff.rfl
 rw [← h1,c8 hi,lj]
 have hno:L.getD i default ∉ gv p (L.take i):=fun h=>by
  have h2:=(t8 p (L.take i)).subset h
  obtain ⟨j,hj,e⟩:=List.getElem_of_mem h2
  rw [List.length_take] at hj
  rw [List.getElem_take] at e
  have:=List.pairwise_iff_getElem.1 ho j i (by omega) hi (by omega)
  rw [e,List.getD_eq_getElem?_getD,List.getElem?_eq_getElem hi,Option.getD_some,kx] at this
  cases this
 unfold mc
 constructor
 · intro h;rw [if_pos h];simp
 · intro h
   apply Classical.byContradiction
   intro hn
   rw [if_neg hn] at h
   exact hno h
theorem aa1 {n:Nat} (h:n ≤ 8):bsz (b6 n) ≤ 8:=by
 rcases (by omega:n = 0 ∨ n = 1 ∨ n = 2 ∨ n = 3 ∨ n = 4 ∨ n = 5 ∨ n = 6 ∨ n = 7 ∨ n = 8) with rfl | rfl | rfl | rfl | rfl | rfl | rfl | rfl | rfl <;> decide +kernel
abbrev d6 (n:Nat):List AS:=ck (b6 n)
theorem xp {n:Nat} (h:n ≤ 8):d6 n = ou (b6 n):=a1d (by have:=aa1 h;omega)
theorem a7j {n:Nat} (h:n ≤ 8):ir (d6 n):=by rw [xp h];exact f7 _
theorem afq {n:Nat} (h:n ≤ 8):∀ x ∈ d6 n,∀ y,sub y x → y ∈ d6 n:=by
 rw [xp h]
 exact fun x hx y hy=>lx.2 (rh hy (lx.1 hx))
def atA (ps:List AS) (n a:Nat) (x:AS):Bool:=(m7 ps (b6 n) x).getLsbD a && !x.getLsbD a
def dj (ps:List AS) (n a k:Nat):List AS:=gv (atA ps n a) ((d6 n).take k)
def nwB (ps:List AS) (n i a:Nat):Bool:=atA ps n a ((d6 n).getD i default) && !((dj ps n a i).any fun y=>decide (sub y ((d6 n).getD i default)))
theorem a3y {ps:List AS} {n i a:Nat} (hi:i < (d6 n).length) (h:nwB ps n i a = true):dj ps n a (i + 1) = dj ps n a i ++ [(d6 n).getD i default]:=by
 unfold dj
 rw [c8 hi,lj]
 unfold mc
 exact if_pos h
theorem a4m {ps:List AS} {n i a:Nat} (hi:i < (d6 n).length) (h:nwB ps n i a = false):dj ps n a (i + 1) = dj ps n a i:=by
 unfold dj
 rw [c8 hi,lj]
 unfold mc
 exact if_neg (by intro h2;rw [nwB,dj,h2] at h;cases h)
theorem alu (ps:List AS) (n a k:Nat):(dj ps n a k).length ≤ k:=Nat.le_trans (t8 _ _).length_le (by rw [List.length_take];omega)
def oe (ps:List AS) (n i a:Nat):List Fd:=((List.range a).filter (nwB ps n i)).map fun a=>⟨(d6 n).getD i default,(1:AS) <<< a⟩
def jh (ps:List AS) (n i a:Nat):List Fd:=((List.range i).map fun j=>oe ps n j n).flatten ++ oe ps n i a
theorem qu {ps:List AS} {n i a:Nat} (h:nwB ps n i a = true):jh ps n i (a + 1) = jh ps n i a ++ [⟨(d6 n).getD i default,(1:AS) <<< a⟩]:=by
 unfold jh oe
 rw [List.range_succ,List.filter_append,List.append_assoc]
 simp only [List.filter_cons,h,if_true,List.filter_nil,List.map_append,List.map_cons,List.map_nil]
theorem qv {ps:List AS} {n i a:Nat} (h:nwB ps n i a = false):jh ps n i (a + 1) = jh ps n i a:=by
 unfold jh oe
 rw [List.range_succ,List.filter_append]
 simp only [List.filter_cons,h,Bool.false_eq_true,if_false,List.filter_nil,List.append_nil]
theorem a7m (ps:List AS) (n i:Nat):jh ps n i n = jh ps n (i + 1) 0:=by
 unfold jh
 rw [List.range_succ (n:=i),List.map_append,List.flatten_append]
 simp [oe]
theorem aai (ps:List AS) (n i a:Nat):(oe ps n i a).length ≤ a:=by
 unfold oe
 rw [List.length_map]
 exact Nat.le_trans (List.length_filter_le _ _) (by simp)
theorem a9r (ps:List AS) (n i a:Nat):(jh ps n i a).length ≤ i * n + a:=by
 unfold jh
 rw [List.length_append]
 have h:(((List.range i).map fun j=>oe ps n j n).flatten).length ≤ i * n:=by
  induction i with
  | zero=>simp
  | succ i ih =>
   rw [List.range_succ,List.map_append,List.flatten_append,List.length_append]
   have:=aai ps n i n
   simp only [List.map_cons,List.map_nil,List.flatten_cons,List.flatten_nil,List.append_nil]
   rw [Nat.add_mul];omega
 have:=aai ps n i a
 omega
def a3r (ps:List AS) (n:Nat):List Fd:=jh ps n (d6 n).length 0
theorem adp {ps:List AS} {n i a:Nat} (h8:n ≤ 8) (hi:i < (d6 n).length):nwB ps n i a = true ↔ (d6 n).getD i default ∈ gv (atA ps n a) (d6 n):=a8p (a7j h8) (afq h8) hi
theorem ak7 {ps:List AS} {n:Nat} (h8:n ≤ 8) {z:Fd}:z ∈ a3r ps n ↔ ∃ a,a < n ∧ z.rhs = (1:AS) <<< a ∧ z.lhs ∈ gv (atA ps n a) (d6 n):=by
 unfold a3r jh
 rw [List.mem_append,List.mem_flatten]
 have e0:oe ps n (d6 n).length 0 = []:=rfl
 rw [e0]
 simp only [List.mem_map,List.mem_range,List.not_mem_nil,or_false]
 constructor
 · rintro ⟨_,⟨i,hi,rfl⟩,hz⟩
   unfold oe at hz
   obtain ⟨a,ha,rfl⟩:=List.mem_map.1 hz
   obtain ⟨h1,h2⟩:=List.mem_filter.1 ha
   exact ⟨a,List.mem_range.1 h1,rfl,(adp h8 hi).1 h2⟩
 · rintro ⟨a,ha,h1,h2⟩
   obtain ⟨i,hi,e⟩:=List.getElem_of_mem ((t8 _ _).subset h2)
   have e2:(d6 n).getD i default = z.lhs:=by rw [List.getD_eq_getElem?_getD,List.getElem?_eq_getElem hi,Option.getD_some,e]
   refine ⟨_,⟨i,hi,rfl⟩, ?_⟩
   unfold oe
   refine List.mem_map.2 ⟨a,List.mem_filter.2 ⟨List.mem_range.2 ha,(adp h8 hi).2 (by rw [e2];exact h2)⟩, ?_⟩
   rw [e2,← h1]
theorem ai7 {a b:Nat} (h:a < b) (hb:b < 32):((1:AS) <<< a).toNat < ((1:AS) <<< b).toNat:=by
 rw [BitVec.toNat_shiftLeft,BitVec.toNat_shiftLeft,Nat.shiftLeft_eq,Nat.shiftLeft_eq]
 have e:(1:AS).toNat = 1:=rfl
 rw [e,Nat.one_mul,Nat.one_mul]
 have h1:2 ^ a < 2 ^ b:=Nat.pow_lt_pow_right (by omega) h
 have h2:2 ^ b < 2 ^ 32:=Nat.pow_lt_pow_right (by omega) hb
 rw [Nat.mod_eq_of_lt h2,Nat.mod_eq_of_lt (Nat.lt_trans h1 h2)]
 exact h1
theorem ali {ps:List AS} {n:Nat} (h8:n ≤ 8):ph (a3r ps n):=by
 unfold a3r jh
 have e0:oe ps n (d6 n).length 0 = []:=rfl
 rw [e0,List.append_nil]
 unfold ph
 rw [List.pairwise_flatten]
 refine ⟨fun l hl=>?_, ?_⟩
 · obtain ⟨i,hi,rfl⟩:=List.mem_map.1 hl
   unfold oe
   rw [List.pairwise_map]
   refine ((List.pairwise_lt_range (n:=n)).sublist (List.filter_sublist)).imp_of_mem fun {a b} ha hb h=>?_
   have hb2:=List.mem_range.1 (List.mem_filter.1 hb).1
   exact uf.2 (.inr ⟨rfl,ai7 h (by omega)⟩)
 · rw [List.pairwise_map]
   refine (List.pairwise_lt_range (n:=(d6 n).length)).imp_of_mem fun {i j} hi hj h x hx y hy=>?_
   have hi:=List.mem_range.1 hi
   have hj:=List.mem_range.1 hj
   unfold oe at hx hy
   obtain ⟨a,_,rfl⟩:=List.mem_map.1 hx
   obtain ⟨b,_,rfl⟩:=List.mem_map.1 hy
   refine uf.2 (.inl ?_)
   have:=List.pairwise_iff_getElem.1 (a7j h8) i j hi hj h
   simpa [List.getD,hi,hj] using this
def pK (ps:List AS) (x:AS):Bool:=ps.all fun k=>!decide (sub x k)
def o8 (ps:List AS) (n:Nat):List AS:=gv (pK ps) (d6 n)
theorem aau {ps:List AS} {x:AS}:pK ps x = true ↔ ∀ k ∈ ps,¬ sub x k:=by
 unfold pK
 rw [List.all_eq_true]
 exact forall_congr' fun k=>by simp
theorem aht {K K':List AS} (h:∀ k,k ∈ K ↔ k ∈ K') (x:AS):pK K x = pK K' x:=by
 rw [Bool.eq_iff_iff,aau,aau]
 exact ⟨fun q k hk=>q k ((h k).2 hk),fun q k hk=>q k ((h k).1 hk)⟩
def a2x (l:List Val) (s:AS):List Val:=((List.range l.length).filter fun (i:Nat)=>pr s i).map fun i=>l.getD i default
def ta (a b:Row) (s:AS):Bool:=decide (a2x a.vals s = a2x b.vals s)
theorem ow {a b:Row} {s:AS} {n:Nat} (ha:a.vals.length = n) (hb:b.vals.length = n) (hn:n ≤ 16) (hs:sub s (b6 n)):ta a b s = true ↔ sub s (agR a b):=by
 unfold ta a2x
 rw [decide_eq_true_iff,ha,hb,List.map_inj_left,ew]
 have hf:b6 n = kn n:=by unfold b6;rw [Int.toNat_natCast,Nat.min_eq_left (by omega)]
 rw [hf] at hs
 constructor
 · intro h k hk hb2
   have hkn:=ew.1 hs k hk hb2
   rw [np n k hk,decide_eq_true_iff] at hkn
   rw [a15 hk,ha,decide_eq_true hkn,Bool.true_and,decide_eq_true_iff]
   exact h k (List.mem_filter.2 ⟨List.mem_range.2 hkn,by rw [tx hk];exact hb2⟩)
 · intro h k hk
   obtain ⟨h1,h2⟩:=List.mem_filter.1 hk
   have h1:=List.mem_range.1 h1
   rw [tx (by omega)] at h2
   have:=h k (by omega) h2
   rw [a15 (by omega),Bool.and_eq_true] at this
   exact of_decide_eq_true this.2
def ot (l:List Row) (x r:AS):Bool:=(List.range l.length).all fun i=>(List.range i).all fun k=>!(ta (l.getD i default) (l.getD k default) x && !ta (l.getD i default) (l.getD k default) r)
def xm (l:List Row) (x:AS):Bool:=(List.range l.length).all fun i=>(List.range i).all fun k=>!ta (l.getD i default) (l.getD k default) x
theorem qx {n:Nat} {l:List Row} (h:Wid n l) {i:Nat} (hi:i < l.length):(l.getD i default).vals.length = n:=by
 rw [List.getD_eq_getElem?_getD,List.getElem?_eq_getElem hi,Option.getD_some]
 exact h _ (List.getElem_mem hi)
theorem abt {n a:Nat} (ha:a < n) (hn:n ≤ 16):sub ((1:AS) <<< a) (b6 n):=by
 have hf:b6 n = kn n:=by unfold b6;rw [Int.toNat_natCast,Nat.min_eq_left (by omega)]
 rw [hf,ew]
 intro k hk h
 rw [l3 a k hk,decide_eq_true_iff] at h
 rw [np n k hk,decide_eq_true_iff];omega
theorem a6c {a:Nat} {p:AS} (ha:a < 32):sub ((1:AS) <<< a) p ↔ p.getLsbD a = true:=by
 rw [ew]
 constructor
 · intro h;exact h a ha (by rw [l3 a a ha];simp)
 · intro h k hk hb
   rw [l3 a k hk,decide_eq_true_iff] at hb
   subst hb;exact h
theorem aar {l:List Row} {n a:Nat} {x:AS} (hw:Wid n l) (hn:n ≤ 16) (hx:sub x (b6 n)) (ha:a < n):ot l x ((1:AS) <<< a) = true ↔ ∀ p ∈ prs l,sub x p → p.getLsbD a = true:=by
 unfold ot
 rw [List.all_eq_true]
 constructor
 · intro h p hp hs
   obtain ⟨i,k,hik,hk,rfl⟩:=xe.1 hp
   have h1:=List.all_eq_true.1 (h k (List.mem_range.2 hk)) i (List.mem_range.2 hik)
   have wi:=qx hw (show i < l.length by omega)
   have wk:=qx hw hk
   rw [pw (by rw [wi,wk])] at hs ⊢
   rw [(ow wk wi hn hx).2 hs,Bool.true_and,Bool.not_not,ow wk wi hn (abt ha hn)] at h1
   exact (a6c (by omega)).1 h1
 · intro h k hk
   rw [List.all_eq_true]
   intro i hi
   have hk:=List.mem_range.1 hk
   have hi:=List.mem_range.1 hi
   have wi:=qx hw (show i < l.length by omega)
   have wk:=qx hw hk
   cases h1:ta (l.getD k default) (l.getD i default) x with
   | false=>rfl
   | true =>
    have h2:=(ow wk wi hn hx).1 h1
    rw [pw (by rw [wi,wk])] at h2
    have h3:=h _ (xe.2 ⟨i,k,hi,hk,rfl⟩) h2
    rw [pw (by rw [wi,wk])] at h3
    rw [(ow wk wi hn (abt ha hn)).2 ((a6c (by omega)).2 h3)]
    rfl
theorem aac {l:List Row} {n:Nat} {x:AS} (hw:Wid n l) (hn:n ≤ 16) (hx:sub x (b6 n)):xm l x = true ↔ ∀ p ∈ prs l,¬ sub x p:=by
 unfold xm
 rw [List.all_eq_true]
 constructor
 · intro h p hp hs
   obtain ⟨i,k,hik,hk,rfl⟩:=xe.1 hp
   have h1:=List.all_eq_true.1 (h k (List.mem_range.2 hk)) i (List.mem_range.2 hik)
   have wi:=qx hw (show i < l.length by omega)
   have wk:=qx hw hk
   rw [pw (by rw [wi,wk])] at hs
   rw [(ow wk wi hn hx).2 hs] at h1
   cases h1
 · intro h k hk
   rw [List.all_eq_true]
   intro i hi
   have hk:=List.mem_range.1 hk
   have hi:=List.mem_range.1 hi
   have wi:=qx hw (show i < l.length by omega)
   have wk:=qx hw hk
   cases h1:ta (l.getD k default) (l.getD i default) x with
   | false=>rfl
   | true =>
    have h2:=(ow wk wi hn hx).1 h1
    rw [pw (by rw [wi,wk])] at h2
    exact absurd h2 (h _ (xe.2 ⟨i,k,hi,hk,rfl⟩))
def oc (l:List Row) (n a:Nat):List AS:=tq ((ck (b6 n &&& ~~~((1:AS) <<< a))).filter fun x=>ot l x ((1:AS) <<< a))
def abc (l:List Row) (n:Nat):List Fd:=fj (((List.range n).map fun a=>(oc l n a).map fun x=>(⟨x,(1:AS) <<< a⟩:Fd)).flatten)
theorem aag {n a:Nat} {z:AS} (ha:a < 32):sub z (b6 n &&& ~~~((1:AS) <<< a)) ↔ sub z (b6 n) ∧ z.getLsbD a = false:=by
 rw [ew,ew]
 constructor
 · intro h
   refine ⟨fun k hk hz=>?_, ?_⟩
   · have:=h k hk hz
     rw [BitVec.getLsbD_and,Bool.and_eq_true] at this
     exact this.1
   · rw [Bool.eq_false_iff]
     intro hz
     have:=h a ha hz
     rw [BitVec.getLsbD_and,BitVec.getLsbD_not,l3 a a ha] at this
     simp at this
 · rintro ⟨h1,h2⟩ k hk hz
   rw [BitVec.getLsbD_and,h1 k hk hz,BitVec.getLsbD_not,l3 a k hk]
   by_cases e:k = a
   · subst e;rw [h2] at hz;cases hz
   · simp [hk,e]
theorem akh {n a:Nat} (ha:a < n) (hn:n ≤ 16):(b6 n).getLsbD a = true:=(a6c (by omega)).1 (abt ha hn)
theorem adv {l:List Row} {n a:Nat} (hw:Wid n l) (hn:n ≤ 8) (ha:a < n):oc l n a = gv (atA (prs l) n a) (d6 n):=by
 unfold oc
 rw [xp hn]
 symm
 refine a8g fun z=>?_
 rw [List.mem_filter]
 have hm:z ∈ ck (b6 n &&& ~~~((1:AS) <<< a)) ↔ sub z (b6 n &&& ~~~((1:AS) <<< a)):=by
  rw [a1d (by
   have h1:=aa1 hn
   have h2:=a6j (z:=b6 n &&& ~~~((1:AS) <<< a)) (s:=b6 n) ((aag (n:=n) (a:=a) (by omega)).1 (yc _)).1
   omega)]
  exact lx
 rw [hm,aag (by omega)]
 unfold atA
 rw [Bool.and_eq_true,Bool.not_eq_true',xz]
 constructor
 · rintro ⟨⟨h1,h2⟩,h3⟩
   exact ⟨h1,⟨akh ha (by omega),(aar hw (by omega) h1 ha).1 h3⟩,h2⟩
 · rintro ⟨h1,⟨_,h3⟩,h2⟩
   exact ⟨⟨h1,h2⟩,(aar hw (by omega) h1 ha).2 h3⟩
theorem ahf {l:List Row} {n:Nat} (hw:Wid n l) (hn:n ≤ 8):a3r (prs l) n = abc l n:=by
 refine ane (ali hn) fun z=>?_
 rw [ak7 hn,List.mem_flatten]
 simp only [List.mem_map,List.mem_range]
 constructor
 · rintro ⟨a,ha,h1,h2⟩
   rw [← adv hw hn ha] at h2
   exact ⟨_,⟨a,ha,rfl⟩,List.mem_map.2 ⟨z.lhs,h2,Fd.eq_iff.2 ⟨rfl,h1.symm⟩⟩⟩
 · rintro ⟨_,⟨a,ha,rfl⟩,hz⟩
   obtain ⟨x,hx,rfl⟩:=List.mem_map.1 hz
   rw [adv hw hn ha] at hx
   exact ⟨a,ha,rfl,hx⟩
def upS (n:Nat):List AS:=(List.range ((b6 n).toNat + 1)).map (BitVec.ofNat 32)
def a6g (l:List Row) (n:Nat):List AS:=tq ((upS n).filter (xm l))
theorem acf {n:Nat} (h:n ≤ 16):(b6 n).toNat + 1 = 2 ^ n:=by
 rcases (by omega:n = 0 ∨ n = 1 ∨ n = 2 ∨ n = 3 ∨ n = 4 ∨ n = 5 ∨ n = 6 ∨ n = 7 ∨ n = 8 ∨ n = 9 ∨ n = 10 ∨ n = 11 ∨ n = 12 ∨ n = 13 ∨ n = 14 ∨ n = 15 ∨ n = 16) with rfl | rfl | rfl | rfl | rfl | rfl | rfl | rfl | rfl | rfl | rfl | rfl | rfl | rfl | rfl | rfl | rfl <;> decide +kernel
theorem anh {n:Nat} (h:n ≤ 16) {z:AS}:z ∈ upS n ↔ sub z (b6 n):=by
 have hf:b6 n = kn n:=by unfold b6;rw [Int.toNat_natCast,Nat.min_eq_left (by omega)]
 unfold upS
 rw [List.mem_map,acf h]
 constructor
 · rintro ⟨k,hk,rfl⟩
   have hk:=List.mem_range.1 hk
   rw [hf,a4u (by omega)]
   apply BitVec.eq_of_toNat_eq
   rw [BitVec.toNat_ushiftRight,BitVec.toNat_ofNat,Nat.shiftRight_eq_div_pow]
   have:k % 2 ^ 32 ≤ k:=Nat.mod_le _ _
   exact Nat.div_eq_of_lt (by omega)
 · intro hz
   refine ⟨z.toNat,List.mem_range.2 ?_,by simp⟩
   rw [hf,a4u (by omega)] at hz
   have:=congrArg BitVec.toNat hz
   rw [BitVec.toNat_ushiftRight,Nat.shiftRight_eq_div_pow] at this
   have h0:(0:AS).toNat = 0:=rfl
   rw [h0] at this
   exact Nat.lt_of_div_eq_zero (Nat.two_pow_pos n) this
theorem aij {l:List Row} {n:Nat} (hw:Wid n l) (hn:n ≤ 8):o8 (prs l) n = a6g l n:=by
 unfold o8 a6g
 rw [xp hn]
 refine a8g fun z=>?_
 rw [List.mem_filter,anh (by omega),aau]
 constructor
 · rintro ⟨h1,h2⟩;exact ⟨h1,(aac hw (by omega) h1).1 h2⟩
 · rintro ⟨h1,h2⟩;exact ⟨h1,(aac hw (by omega) h1).2 h2⟩
end Go.Hx
end
section
namespace Go.Hx
structure Cnt where
 set:AS
 num:Int
instance:Inhabited Cnt:=⟨⟨0,0⟩⟩
theorem Cnt.eq_iff {a b:Cnt}:a = b ↔ a.set = b.set ∧ a.num = b.num:=by cases a;cases b;simp
instance:DecidableEq Cnt:=fun a b=>decidable_of_iff _ (Cnt.eq_iff (a:=a) (b:=b)).symm
def Cnt.c (x:Cnt):Nat → PV
 | 0=>asC x.set
 | 1=>.raw (.int .i64 x.num)
 | _=>.any
abbrev a9a (l:List Cnt):PV:=psl 2 Cnt.c l
abbrev Cnt.pc (x:Cnt):PC:=.agg [x.c 0,x.c 1]
def qe (t:Tbl):Int:=if c6 t ≠ 0 then c6 t else if 200 < t.rows.length then 3 else 0
def n4 (t:Tbl):Int:=if c6 t ≠ 0 then c6 t else if 10 < t.attrs.length ∨ 200 < t.rows.length then 3 else 0
theorem ak6 {t:Tbl} (h:qe t = 0):TOk t ∧ t.rows.length ≤ 200:=by
 unfold qe at h
 split at h
 · rename_i h1;exact absurd h h1
 · rename_i h1
   split at h
   · cases h
   · exact ⟨ek.1 (by simpa using h1),by omega⟩
theorem aap {t:Tbl} (h:n4 t = 0):TOk t ∧ t.rows.length ≤ 200 ∧ t.attrs.length ≤ 10:=by
 unfold n4 at h
 split at h
 · rename_i h1;exact absurd h h1
 · rename_i h1
   split at h
   · cases h
   · exact ⟨ek.1 (by simpa using h1),by omega,by omega⟩
theorem TOk.wid {t:Tbl} (h:TOk t):Wid t.attrs.length t.rows:=fun x hx=>(gm h.rs x hx).2.1
theorem TOk.rows {t:Tbl} (h:TOk t):js t.rows:=h.ok.2.2
theorem yh {a b:Row} {i:Nat} (h:kj (a.vals.getD i default) (b.vals.getD i default) = 0):fc .or .u32 (asI (agT a b i)) (IntKind.wrap .u32 (1 * 2 ^ (min i 32))) = asI (agT a b (i + 1)):=by
 rw [au2 h,show IntKind.wrap .u32 (1 * 2 ^ (min i 32)) = asI ((1:AS) <<< i) from vf 1 i,bOr]
def tz (ps:List AS) (s:AS) (k:Nat):Nat:=(ps.take k).count s
theorem asy {ps:List AS} {s:AS} {k:Nat} (hk:k < ps.length) (h:ps.getD k default = s):tz ps s (k + 1) = tz ps s k + 1:=by
 unfold tz
 rw [c8 hk,List.count_append,h]
 simp
theorem at6 {ps:List AS} {s:AS} {k:Nat} (hk:k < ps.length) (h:¬ ps.getD k default = s):tz ps s (k + 1) = tz ps s k:=by
 unfold tz
 rw [c8 hk,List.count_append,List.count_cons]
 have:(ps.getD k default == s) = false:=by rw [Bool.eq_false_iff];intro e;exact h (beq_iff_eq.1 e)
 rw [this]
 simp
theorem aph (ps:List AS) (s:AS) (k:Nat):tz ps s k ≤ k:=by
 unfold tz
 have h1:=List.count_le_length (a:=s) (l:=ps.take k)
 rw [List.length_take] at h1
 omega
theorem al3 {l:List Row} (s:AS):(tz (prs l) s (prs l).length:Int) = cw l s:=by unfold tz cw;rw [List.take_length]
def afg (l:List Row) (s:AS):Cnt:=⟨s,cw l s⟩
def gr (l:List Row):List Cnt:=(ord (prs l)).map (afg l)
def a59 (t:Tbl):List Cnt:=if qe t = 0 then gr t.rows else []
def qc (l:List Row) (i:Nat):List Cnt:=((ord (prs l)).take i).map (afg l)
theorem a4g {l:List Row} {i:Nat} (hi:i < (ord (prs l)).length):qc l (i + 1) = qc l i ++ [afg l ((ord (prs l)).getD i default)]:=by
 unfold qc;rw [c8 hi,List.map_append];rfl
theorem ah1 (l:List Row) (i:Nat):(qc l i).length ≤ i:=by unfold qc;rw [List.length_map,List.length_take];omega
theorem ajn {l:List Row} {i:Nat} (hi:(ord (prs l)).length ≤ i):qc l i = gr l:=by unfold qc gr;rw [List.take_of_length_le hi]
def tv (l:List Val) (s:AS) (i:Nat):List Val:=((List.range i).filter fun (k:Nat)=>pr s k).map fun k=>l.getD k default
theorem a4o {l:List Val} {s:AS} {i:Nat} (h:pr s i = true):tv l s (i + 1) = tv l s i ++ [l.getD i default]:=by
 unfold tv
 rw [List.range_succ,List.filter_append]
 simp only [List.filter_cons,h,if_true,List.filter_nil,List.map_append,List.map_cons,List.map_nil]
theorem a5t {l:List Val} {s:AS} {i:Nat} (h:pr s i = false):tv l s (i + 1) = tv l s i:=by
 unfold tv
 rw [List.range_succ,List.filter_append]
 simp only [List.filter_cons,h,Bool.false_eq_true,if_false,List.filter_nil,List.append_nil]
theorem akt (l:List Val) (s:AS) (i:Nat):(tv l s i).length ≤ i:=by
 unfold tv
 rw [List.length_map]
 exact Nat.le_trans (List.length_filter_le _ _) (by simp)
theorem agt {l:List Val} {s:AS} (h:rl l):rl (a2x l s):=fun j hj=>by
 have hm:(a2x l s).getD j default ∈ a2x l s:=by
  rw [List.getD_eq_getElem?_getD,List.getElem?_eq_getElem hj,Option.getD_some];exact List.getElem_mem hj
 obtain ⟨k,hk,e⟩:=List.mem_map.1 hm
 rw [← e]
 exact h k (List.mem_range.1 (List.mem_filter.1 hk).1)
def rz (p:AS → Bool) (l:List AS) (i:Nat):List AS:=(l.take i).filter p
theorem a5o {p:AS → Bool} {l:List AS} {i:Nat} (hi:i < l.length) (h:p (l.getD i default) = true):rz p l (i + 1) = rz p l i ++ [l.getD i default]:=by
 unfold rz
 rw [c8 hi,List.filter_append]
 simp only [List.filter_cons,h,if_true,List.filter_nil]
theorem a3z {p:AS → Bool} {l:List AS} {i:Nat} (hi:i < l.length) (h:p (l.getD i default) = false):rz p l (i + 1) = rz p l i:=by
 unfold rz
 rw [c8 hi,List.filter_append]
 simp only [List.filter_cons,h,Bool.false_eq_true,if_false,List.filter_nil,List.append_nil]
theorem al1 (p:AS → Bool) (l:List AS) (i:Nat):(rz p l i).length ≤ i:=Nat.le_trans (List.length_filter_le _ _) (by rw [List.length_take];omega)
theorem ako {p:AS → Bool} {l:List AS} {i:Nat} (hi:l.length ≤ i):rz p l i = l.filter p:=by unfold rz;rw [List.take_of_length_le hi]
def a7d (l:List Row) (n a:Nat):List Fd:=(oc l n a).map fun x=>(⟨x,(1:AS) <<< a⟩:Fd)
def kf (l:List Row) (n a k:Nat):List Fd:=((List.range a).map (a7d l n)).flatten ++ (a7d l n a).take k
theorem a2q (l:List Row) (n a:Nat):(a7d l n a).length = (oc l n a).length:=List.length_map _
theorem a87 {l:List Row} {n a k:Nat} (hk:k < (oc l n a).length):kf l n a (k + 1) = kf l n a k ++ [⟨(oc l n a).getD k default,(1:AS) <<< a⟩]:=by
 unfold kf
 rw [List.append_assoc,List.take_add_one]
 congr 2
 unfold a7d
 rw [List.getElem?_map,List.getElem?_eq_getElem hk,List.getD_eq_getElem?_getD,List.getElem?_eq_getElem hk]
 rfl
theorem a8e {l:List Row} {n a k:Nat} (hk:(oc l n a).length ≤ k):kf l n a k = kf l n (a + 1) 0:=by
 unfold kf
 rw [List.take_of_length_le (by rw [a2q];exact hk),List.range_succ,List.map_append,List.flatten_append]
 simp
theorem akf (l:List Row) (n:Nat):fj (kf l n n 0) = abc l n:=by
 unfold kf abc
 rw [List.take_zero,List.append_nil]
 rfl
theorem a3g (l:List Row) (n a:Nat) (hn:n ≤ 10):(oc l n a).length ≤ 4294967296:=by
 unfold oc
 have h1:=ajt ((ck (b6 n &&& ~~~((1:AS) <<< a))).filter fun x=>ot l x ((1:AS) <<< a))
 have h2:=List.length_filter_le (fun x=>ot l x ((1:AS) <<< a)) (ck (b6 n &&& ~~~((1:AS) <<< a)))
 have h3:=ny (b6 n &&& ~~~((1:AS) <<< a))
 omega
theorem a37 (l:List Row) (n a k:Nat) (hn:n ≤ 10) (ha:a ≤ n):(kf l n a k).length ≤ 4294967296 * a + 4294967296:=by
 unfold kf
 rw [List.length_append,List.length_take,a2q]
 have h:=a3g l n a hn
 have h2:∀ a,a ≤ n → (((List.range a).map (a7d l n)).flatten).length ≤ 4294967296 * a:=by
  intro a
  induction a with
  | zero=>intro _;simp
  | succ a ih =>
   intro ha
   rw [List.range_succ,List.map_append,List.flatten_append,List.length_append]
   have:=ih (by omega)
   have h3:=a3g l n a hn
   have h4:=a2q l n a
   simp only [List.map_cons,List.map_nil,List.flatten_cons,List.flatten_nil,List.append_nil]
   omega
 have:=h2 a ha
 omega
theorem agx (l:List Row) (n:Nat) (hn:n ≤ 32):(kf l n n 0).Nodup:=by
 unfold kf
 rw [List.take_zero,List.append_nil]
 unfold List.Nodup
 rw [List.pairwise_flatten]
 refine ⟨fun m hm=>?_, ?_⟩
 · obtain ⟨a,_,rfl⟩:=List.mem_map.1 hm
   unfold a7d
   rw [List.pairwise_map]
   exact ((ach _).imp fun {x y} h e=>by
    have:x = y:=congrArg Fd.lhs e
    subst this
    rw [kx] at h;cases h)
 · rw [List.pairwise_map]
   refine (List.pairwise_lt_range (n:=n)).imp_of_mem fun {i j} hi hj h x hx y hy e=>?_
   have hj:=List.mem_range.1 hj
   obtain ⟨_,_,rfl⟩:=List.mem_map.1 hx
   obtain ⟨_,_,rfl⟩:=List.mem_map.1 hy
   have:=ai7 h (by omega)
   have e2:=congrArg (fun z:Fd=>z.rhs.toNat) e
   dsimp only at e2
   omega
def a3i (t:Tbl):List Fd:=if n4 t = 0 then abc t.rows t.attrs.length else []
def upT (l:List Row) (k:Nat):List AS:=((List.range k).map (BitVec.ofNat 32)).filter (xm l)
theorem a8y {l:List Row} {k:Nat} (h:xm l (BitVec.ofNat 32 k) = true):upT l (k + 1) = upT l k ++ [BitVec.ofNat 32 k]:=by
 unfold upT
 rw [List.range_succ,List.map_append,List.filter_append]
 simp only [List.map_cons,List.map_nil,List.filter_cons,h,if_true,List.filter_nil]
theorem a97 {l:List Row} {k:Nat} (h:xm l (BitVec.ofNat 32 k) = false):upT l (k + 1) = upT l k:=by
 unfold upT
 rw [List.range_succ,List.map_append,List.filter_append]
 simp only [List.map_cons,List.map_nil,List.filter_cons,h,Bool.false_eq_true,if_false,List.filter_nil,List.append_nil]
theorem aef (l:List Row) (k:Nat):(upT l k).length ≤ k:=Nat.le_trans (List.length_filter_le _ _) (by simp)
theorem aom {l:List Row} {n:Nat}:tq (upT l ((b6 n).toNat + 1)) = a6g l n:=rfl
end Go.Hx
end
section
namespace Go.Hx
def a6a (l:List Row) (x r:AS) (i k:Nat):Bool:=!(ta (l.getD i default) (l.getD k default) x && !ta (l.getD i default) (l.getD k default) r)
def aq1 (l:List Row) (x r:AS) (i:Nat):Bool:=(List.range i).all (a6a l x r i)
theorem ar7 {l:List Row} {x r:AS} (h:∀ i,i < l.length → aq1 l x r i = true):ot l x r = true:=jf h
theorem ath {l:List Row} {x r:AS} {i k:Nat} (hi:i < l.length) (hk:k < i) (h:a6a l x r i k = false):ot l x r = false:=go hi (go hk h)
def a35 (l:List Row) (x:AS) (i k:Nat):Bool:=!ta (l.getD i default) (l.getD k default) x
def atk (l:List Row) (x:AS) (i:Nat):Bool:=(List.range i).all (a35 l x i)
theorem as9 {l:List Row} {x:AS} (h:∀ i,i < l.length → atk l x i = true):xm l x = true:=jf h
theorem aq5 {l:List Row} {x:AS} {i k:Nat} (hi:i < l.length) (hk:k < i) (h:a35 l x i k = false):xm l x = false:=go hi (go hk h)
theorem ao4 {a b:Fd} (h:¬ asI a.lhs = asI b.lhs):bef a.lhs b.lhs = ge a b:=by
 have h2:¬ a.lhs = b.lhs:=fun e=>h (by rw [e])
 unfold ge
 rw [decide_eq_false h2];simp
theorem air {a b:Fd} (h:asI a.lhs = asI b.lhs):decide (asI a.rhs < asI b.rhs) = ge a b:=by
 have h2:a.lhs = b.lhs:=im.1 h
 have h3:(asI a.rhs < asI b.rhs) ↔ a.rhs.toNat < b.rhs.toNat:=by unfold asI;omega
 unfold ge
 rw [decide_eq_true h2,h2,kx,Bool.false_or,Bool.true_and];exact decide_eq_decide.2 h3
theorem ala {α:Type} [Inhabited α] {s:Nat} {e:TypeId} {c:α → Nat → PV} {l:List α} {f:Nat → Nat → PV}:CoO (.arr true s e (0 + l.length) (eo 0 f (lf c l))) (.arr true s e l.length (lf c l)) :=
 ⟨fun h=>h,rfl,rfl,(Nat.zero_add _).symm,fun i j _ _=>CoP.of_eq (by unfold eo;rw [if_neg (Nat.not_lt_zero i)];rfl)⟩
theorem a7k:∀ {l:List Fd},l.Nodup → (fj l).length = l.length:=by
 have h:∀ n (l:List Fd),l.length = n → l.Nodup → (fj l).length = l.length:=by
  intro n
  induction n with
  | zero=>intro l hl _;obtain rfl:=List.eq_nil_of_length_eq_zero hl;rfl
  | succ n ih =>
   intro l hl hn
   obtain ⟨l',x,rfl⟩:∃ l' x,l = l' ++ [x]:=by
    have hne:l ≠ []:=fun e=>by subst e;cases hl
    exact ⟨l.dropLast,l.getLast hne,(List.dropLast_concat_getLast hne).symm⟩
   obtain ⟨h1,_,h2⟩:=List.nodup_append.1 hn
   have e:fj (l' ++ [x]) = ic x (fj l'):=by unfold fj;rw [List.foldl_append];rfl
   have hx:x ∉ fj l':=fun hm=>h2 x (a34.1 hm) x (by simp) rfl
   have hlen:∀ o:List Fd,x ∉ o → (ic x o).length = o.length + 1:=by
    intro o
    induction o with
    | nil=>intro _;rfl
    | cons y o iho =>
     intro ho
     unfold ic
     rw [if_neg (fun e=>ho (by rw [e];simp))]
     split
     · rfl
     · rw [List.length_cons,iho (fun h=>ho (by simp [h])),List.length_cons]
   rw [e,hlen _ hx,ih l' (by simpa using hl) h1]
   simp
 intro l hn
 exact h l.length l rfl hn
def y8 (l:List Fd) (i:Nat):List Fd:=fj (l.take i) ++ l.drop i
def gp (l:List Fd) (i k:Nat):List Fd:=kc (fj (l.take i)) k (l.getD i default) ++ l.drop (i + 1)
theorem ajs (l:List Fd):y8 l 1 = l:=by
 cases l with
 | nil=>rfl
 | cons x l=>unfold y8;simp [fj,ic]
theorem aki {l:List Fd} {i:Nat} (h:l.length ≤ i):y8 l i = fj l:=by unfold y8;rw [List.take_of_length_le h,List.drop_eq_nil_of_le h,List.append_nil]
section
variable {l:List Fd} {i k:Nat}
theorem ng (hn:l.Nodup) (hi:i ≤ l.length):(fj (l.take i)).length = i:=by rw [a7k (hn.sublist (List.take_sublist _ _)),List.length_take];omega
theorem alo (hn:l.Nodup) (hi:i < l.length) (hk:k ≤ i):(gp l i k).length = l.length:=by
 unfold gp
 rw [List.length_append,o3 (by rw [ng hn (by omega)];exact hk),ng hn (by omega),List.length_drop];omega
theorem aer (hn:l.Nodup) (hi:i < l.length):gp l i i = y8 l i:=by
 have e:kc (fj (l.take i)) i (l.getD i default) = fj (l.take i) ++ [l.getD i default]:=by
  have:=aik (l:=fj (l.take i)) (r:=l.getD i default)
  rwa [ng hn (by omega)] at this
 unfold gp y8
 rw [e,List.append_assoc,List.getD_eq_getElem?_getD,List.getElem?_eq_getElem hi,Option.getD_some,List.drop_eq_getElem_cons hi]
 rfl
theorem ah4 (hn:l.Nodup) (hi:i < l.length) (hk:k ≤ i):(gp l i k).getD k default = l.getD i default:=by
 have ho:=ng hn (show i ≤ l.length by omega)
 unfold gp
 rw [List.getD_eq_getElem?_getD,List.getElem?_append_left (by rw [o3 (by omega)];omega),← List.getD_eq_getElem?_getD,ap6 (by omega)]
theorem a7u (hn:l.Nodup) (hi:i < l.length) (h0:0 < k) (hk:k ≤ i):(gp l i k).getD (k - 1) default = (fj (l.take i)).getD (k - 1) default:=by
 have ho:=ng hn (show i ≤ l.length by omega)
 unfold gp
 rw [List.getD_eq_getElem?_getD,List.getElem?_append_left (by rw [o3 (by omega)];omega),← List.getD_eq_getElem?_getD,af4 h0 (by omega)]
theorem ai0 (hn:l.Nodup) (hi:i < l.length) (h0:0 < k) (hk:k ≤ i):((gp l i k).set k ((fj (l.take i)).getD (k - 1) default)).set (k - 1) (l.getD i default) = gp l i (k - 1):=by
 have ho:=ng hn (show i ≤ l.length by omega)
 unfold gp
 rw [List.set_append_left _ _ (by rw [o3 (by omega)];omega),List.set_append_left _ _ (by rw [List.length_set,o3 (by omega)];omega),afd h0 (by omega)]
theorem ak4 (hn:l.Nodup) (hi:i < l.length) (h0:0 < k) (hk:k ≤ i) {k' m' n:Nat} (hk':k' = k) (hm':m' = k - 1) (hl:n = l.length) {e:TypeId} :
 CoO (.arr true 2 e n (fz (fz (lf Fd.c (gp l i k)) k' 0 [lf Fd.c (gp l i k) m' 0,lf Fd.c (gp l i k) m' 1]) m' 0 [lf Fd.c (gp l i k) k' 0,lf Fd.c (gp l i k) k' 1])) (.arr true 2 e n (lf Fd.c (gp l i (k - 1)))):=by
 subst hk' hm' hl
 rw [← ai0 hn hi h0 hk]
 have e1:=alo hn hi hk
 have hp:∀ j,CoP (lf Fd.c (gp l i k') (k' - 1) j) (Fd.c ((fj (l.take i)).getD (k' - 1) default) j):=fun j=>CoP.of_eq (by show Fd.c ((gp l i k').getD (k' - 1) default) j = _;rw [a7u hn hi h0 hk])
 have hq:∀ j,CoP (lf Fd.c (gp l i k') k' j) (Fd.c (l.getD i default) j):=fun j=>CoP.of_eq (by show Fd.c ((gp l i k').getD k' default) j = _;rw [ah4 hn hi hk])
 refine a6p (fun h=>h) e1.symm (by omega) (by omega) rfl rfl (fun j hj=>?_) (fun j hj=>?_)
 · rcases (by omega:j = 0 ∨ j = 1) with rfl | rfl
   · exact hp 0
   · exact hp 1
 · rcases (by omega:j = 0 ∨ j = 1) with rfl | rfl
   · exact hq 0
   · exact hq 1
theorem ain (hn:l.Nodup) (hi:i < l.length) (h0:0 < k) (hk:k ≤ i) {k' m':Nat} {b:Bool} (h:ge ((gp l i k).getD k' default) ((gp l i k).getD m' default) = b) (hk':k' = k) (hm':m' = k - 1):ge (l.getD i default) ((fj (l.take i)).getD (k - 1) default) = b:=by
 subst hk' hm'
 rwa [ah4 hn hi hk,a7u hn hi h0 hk] at h
theorem a9z (hn:l.Nodup) (hi:i < l.length) (hk:k ≤ i) (h1:∀ j,k ≤ j → j < i → ge (l.getD i default) ((fj (l.take i)).getD j default) = true) (h2:k = 0 ∨ ge (l.getD i default) ((fj (l.take i)).getD (k - 1) default) = false):gp l i k = y8 l (i + 1):=by
 have ho:=ng hn (show i ≤ l.length by omega)
 have hx:l.getD i default ∉ fj (l.take i):=fun hm=>by
  have hm:=a34.1 hm
  obtain ⟨j,hj,e⟩:=List.getElem_of_mem hm
  rw [List.length_take] at hj
  rw [List.getElem_take,List.getD_eq_getElem?_getD,List.getElem?_eq_getElem hi,Option.getD_some] at e
  have:=(List.getElem_inj hn).1 e
  omega
 unfold gp y8
 rw [acr (a7s _) hx (by omega) (fun j q1 q2=>h1 j q1 (by omega)) (h2.imp (fun z=>z) fun z=>by rw [z];decide),ahn hi]
end
end Go.Hx
end
section
namespace Go.Hx
theorem a3a {r x:Row}:∀ {l:List Row},x ∈ jt r l ↔ x = r ∨ x ∈ l
 | []=>by simp [jt]
 | y :: l=>by
  simp only [jt]
  split
  · simp
  · simp only [List.mem_cons,a3a (l:=l)]
    constructor
    · rintro (h | h | h) <;> simp [h]
    · rintro (h | h | h) <;> simp [h]
theorem a1w {r:Row}:∀ {l:List Row},gc l → (∀ x ∈ l,x.id ≠ r.id) → gc (jt r l)
 | [],_,_=>by simp [jt,gc]
 | y :: l,hs,hn=>by
  have hs':=hs
  unfold gc at hs'
  rw [List.pairwise_cons] at hs'
  simp only [jt]
  split
  · rename_i h
    refine List.Pairwise.cons (fun x hx=>?_) hs
    rcases List.mem_cons.1 hx with rfl | hx
    · exact h
    · have:=hs'.1 x hx;omega
  · rename_i h
    refine List.Pairwise.cons (fun x hx=>?_) (a1w hs'.2 fun x hx=>hn x (by simp [hx]))
    rcases a3a.1 hx with rfl | hx
    · have:=hn y (by simp);omega
    · exact hs'.1 x hx
theorem yg {l:List Row} {id:Int} (h:az l id < 0):∀ x ∈ l,x.id ≠ id:=by
 intro x hx e
 have h2:=adt (p:=fun r:Row=>decide (r.id = id)) (l:=l)
 have h3:(l.any fun r=>decide (r.id = id)) = true:=by rw [List.any_eq_true];exact ⟨x,hx,by simp [e]⟩
 rw [h3] at h2
 simp only [decide_eq_true_eq] at h2
 unfold az at h
 omega
theorem a4y {t:Tbl} {r:Row} (h:c4 t r = 0):TOk (gj t r):=by
 obtain ⟨h1,h2,h3,h4,h5,h6⟩:=a2r h
 have hT:=ek.1 h1
 rw [l6 h]
 refine ⟨hT.nm,hT.na,by show (jt r t.rows).length ≤ 1000;rw [xv];omega,hT.nms, ?_⟩;refine sd (fun x hx=>?_) (a1w (fu hT.rs) (yg h5))
 rcases a3a.1 hx with rfl | hx
 · exact ⟨h3,h2,h4⟩
 · exact gm hT.rs x hx
theorem a38 {t:Tbl} {i:Int} (h:dq t i = 0):c6 t = 0 ∧ 0 ≤ az t.rows i:=by
 unfold dq at h
 split at h
 · omega
 · split at h
   · exact ⟨by omega,by assumption⟩
   · omega
theorem aaw {t:Tbl} {i:Int} (h:dq t i = 0):TOk (ml t i):=by
 have hT:=ek.1 (a38 h).1
 rw [nu h]
 have hsub:=List.eraseIdx_sublist t.rows (az t.rows i).toNat
 refine ⟨hT.nm,hT.na,by have:=hsub.length_le;have:=hT.nr;show (t.rows.eraseIdx _).length ≤ 1000;omega,hT.nms, ?_⟩
 exact sd (fun x hx=>gm hT.rs x (hsub.subset hx)) (List.Pairwise.sublist hsub (fu hT.rs))
theorem a1o {t:Tbl} {i a:Int} {v:Val} (h:cz t i a v = 0):c6 t = 0 ∧ 0 ≤ az t.rows i ∧ 0 ≤ a ∧ a < t.attrs.length ∧ dg v = true:=by
 unfold cz at h
 split at h
 · omega
 · split at h
   · omega
   · split at h
     · omega
     · split at h
       · omega
       · rename_i h1 h2 h3 h4
         exact ⟨by omega,by omega,by omega,by omega,by simpa using h4⟩
theorem alf {l:List Row} {i k:Nat} {v:Val} (hi:i < l.length):(ll l i k v).map Row.id = l.map Row.id:=by
 unfold ll
 apply List.ext_getElem?
 intro j
 rw [List.getElem?_map,List.getElem?_map,List.getElem?_set]
 split
 · rename_i h
   subst h
   rw [List.getElem?_eq_getElem hi]
   simp [List.getD,List.getElem?_eq_getElem hi]
 · rfl
theorem a5d {l:List Row}:gc l ↔ (l.map Row.id).Pairwise (· < ·):=by
 rw [List.pairwise_map]
theorem a90 {t:Tbl} {i a:Int} {v:Val} (h:cz t i a v = 0):TOk (chT t i a v):=by
 obtain ⟨h1,h2,h3,h4,h5⟩:=a1o h
 have hT:=ek.1 h1
 have hix:(az t.rows i).toNat < t.rows.length:=by have:=zf h2;rwa [show max (az t.rows i) 0 = az t.rows i from by omega] at this
 rw [qt h]
 refine ⟨hT.nm,hT.na,by show (ll _ _ _ _).length ≤ 1000;rw [ye];exact hT.nr,hT.nms, ?_⟩;refine sd (fun x hx=>?_) (by rw [a5d,alf hix,← a5d];exact fu hT.rs)
 have hold:=gm hT.rs _ (List.getElem_mem hix)
 have hgd:=l4 _ _ hix
 unfold ll at hx
 rcases List.mem_or_eq_of_mem_set hx with hx | rfl
 · exact gm hT.rs x hx
 · refine ⟨by show 0 < (t.rows.getD _ default).id;rw [hgd];exact hold.1,by show (List.set _ _ _).length = _;rw [List.length_set,hgd];exact hold.2.1, ?_⟩
   rw [List.all_eq_true]
   intro y hy
   rcases List.mem_or_eq_of_mem_set hy with hy | rfl
   · rw [hgd] at hy
     exact List.all_eq_true.1 hold.2.2 y hy
   · exact h5
theorem aqh {t:Tbl} {c:Chg} (h:a5s t c = 0):TOk (a32 t c):=by
 unfold a5s at h
 unfold a32
 split at h
 · rename_i h2;rw [if_pos h2];exact a4y h
 · rename_i h2
   rw [if_neg h2]
   split at h
   · omega
   · split at h
     · omega
     · split at h
       · rename_i h3;rw [if_pos h3];exact aaw h
       · rename_i h3;rw [if_neg h3];exact a90 h
theorem auu {d:DB} {c:Chg} (hd:dbV d):dbV (y6 d c):=by
 by_cases he:it d c = 0
 · unfold it at he
   split at he
   · rename_i h1
     split at he
     · omega
     · obtain ⟨g1,g2,g3⟩:=apo he
       have he':it d c = 0:=by rw [aE2 h1 (by simp_all)];exact he
       rw [aD1 he' h1]
       refine ⟨by simp;omega,fun j hj=>?_⟩
       by_cases h:j < d.length
       · rw [show (d ++ [c.table]).getD j default = d.getD j default from by simp [List.getD,List.getElem?_append_left h]]
         exact hd.2 j h
       · obtain rfl:j = d.length:=by simp at hj;omega
         rw [show (d ++ [c.table]).getD d.length default = c.table from by simp [List.getD]]
         exact g1
   · rename_i h1
     split at he
     · omega
     · split at he
       · omega
       · rename_i h2 h3
         have he':it d c = 0:=by rw [aE5 (by omega) h3];exact he
         rw [aD2 he' h1 rfl]
         refine ⟨by rw [List.length_set];exact hd.1,fun j hj=>?_⟩
         rw [List.length_set] at hj
         by_cases h:j = (j9 d c.name).toNat
         · subst h
           rw [show (d.set (j9 d c.name).toNat (a32 (qa d c.name) c)).getD (j9 d c.name).toNat default = a32 (qa d c.name) c from by simp [List.getD,hj]]
           exact ek.2 (aqh he)
         · rw [show (d.set (j9 d c.name).toNat (a32 (qa d c.name) c)).getD j default = d.getD j default from by simp only [List.getD,List.getElem?_set_ne (Ne.symm h)]]
           exact hd.2 j hj
 · rw [aru rfl he];exact hd
theorem dbV.ok {d:DB} (h:dbV d):avz d:=⟨by have:=h.1;omega,fun j hj=>aid (h.2 j hj)⟩
theorem aeb:dbV []:=⟨by simp,fun j hj=>by simp at hj⟩
theorem ais:∀ {l:List Chg} {d:DB},dbV d → dbV (a8z d l)
 | [],d,h=>h
 | c :: l,d,h=>by
  simp only [a8z]
  split
  · exact aeb
  · exact ais (auu h)
theorem avx {n:Nat} (hn:n ≤ 8) {f:Nat → Nat → PV}:CoP (.sl (0 + n) 1 false (eo 0 f (fun i j=>[PV.raw (.string ⟨#[97]⟩), .raw (.string ⟨#[98]⟩), .raw (.string ⟨#[99]⟩), .raw (.string ⟨#[100]⟩), .raw (.string ⟨#[101]⟩), .raw (.string ⟨#[102]⟩), .raw (.string ⟨#[103]⟩), .raw (.string ⟨#[104]⟩)].getD (i * 1 + j) .any))) (i7 (ni.take n)):=by
 refine CoP.sl (by simp [ni];omega) (.inl rfl) (fun h=>h) fun i j hi hj=>CoP.of_eq ?_
 obtain rfl:j = 0:=by omega
 have hi8:i < n:=by omega
 simp only [eo,Nat.not_lt_zero,if_false,Nat.sub_zero,Nat.mul_one,Nat.add_zero,lf,List.getD,List.getElem?_take,hi8,if_true]
 have:i < 8:=by omega
 match i,this with
 | 0,_=>rfl
 | 1,_=>rfl
 | 2,_=>rfl
 | 3,_=>rfl
 | 4,_=>rfl
 | 5,_=>rfl
 | 6,_=>rfl
 | 7,_=>rfl
theorem ae1 {α:Type} [Inhabited α] {l:List α} {k:Nat} (h:l.length ≤ k):l.getD k default = default:=by simp [List.getD,h]
theorem a4z {l:List UInt8} {n:Nat}:(gl l n).length = n:=by simp [gl]
theorem a4d {l:List UInt8} {n k j:Nat} (h:k < n):lf Val.c (gl l n) k j = Val.c (ofV (l.getD k default)) j:=by
 unfold lf gl
 rw [agr _ _ _ h]
def jr (s:Stt):List Chg:=s.done.flatten ++ s.now
def a7g (s:Stt):DB:=a8z [] (jr s)
def aws (s:Stt) (x:Opn):Chg :=
 let k:=x.kind.toNat % 9
 if k = 0 then { (default:Chg) with kind:=1,name:=a5z x,table:=amj x }
 else if j9 (a7g s) (a5z x) < 0 then default
 else
  let t:=qa (a7g s) (a5z x)
  if k = 1 then { (default:Chg) with kind:=2,name:=t.name,row:=amk x }
  else if ¬ 0 ≤ az t.rows x.id then default
  else if k = 2 then { (default:Chg) with kind:=3,name:=t.name,row:=t.rows.getD (max (az t.rows x.id) 0).toNat default }
  else { (default:Chg) with kind:=4,name:=t.name,row:=t.rows.getD (max (az t.rows x.id) 0).toNat default,attr:=x.attr,value:=ofV x.value }
def awe (s:Stt) (x:Opn):Int :=
 let k:=x.kind.toNat % 9
 if k = 0 then a3t (a7g s) (amj x)
 else if j9 (a7g s) (a5z x) < 0 then 4
 else
  let t:=qa (a7g s) (a5z x)
  if k = 1 then c4 t (amk x)
  else if ¬ 0 ≤ az t.rows x.id then 4
  else if k = 2 then 0
  else cz t x.id x.attr (ofV x.value)
structure aqg (s:Stt):Prop where
 ld:s.done.flatten.length ≤ 68719476736
 ln:s.now.length ≤ 68719476736
 lt:s.done.length ≤ 68719476736
 lu:s.undone.length ≤ 68719476736
 ok:ars (jr s)
structure ax3 (x:Opn):Prop where
 lv:x.vals.length ≤ 68719476736
 lr:x.t.rows.length ≤ 68719476736
theorem aqg.V {s:Stt} (_:aqg s):dbV (a7g s):=ais aeb
end Go.Hx
end
