/- A part of the proof: Ma2 Ma3 Ma4 Ma5. -/
import Derived.Test.YtaegkccfbmekbaaGreatPx21
set_option linter.all false
section
namespace Go.Hx
def gl (a b:Fd):Bool:=bef a.lhs b.lhs || (decide (a.lhs = b.lhs) && decide (a.rhs.toNat < b.rhs.toNat))
theorem uc {a b:Fd}:gl a b = true ↔ bef a.lhs b.lhs = true ∨ (a.lhs = b.lhs ∧ a.rhs.toNat < b.rhs.toNat):=by simp [gl]
theorem a2r (a:Fd):gl a a = false:=by simp [gl,l6]
theorem se {a b c:Fd} (h:gl a b = true) (k:gl b c = true):gl a c = true:=by
 rw [uc] at *
 rcases h with h | ⟨h1,h2⟩ <;> rcases k with k | ⟨k1,k2⟩
 · exact .inl (lz h k)
 · exact .inl (k1 ▸ h)
 · exact .inl (h1.symm ▸ k)
 · exact .inr ⟨h1.trans k1,by omega⟩
theorem aax {a b:Fd} (h:a ≠ b):gl a b = true ∨ gl b a = true:=by
 rw [uc,uc]
 by_cases e:a.lhs = b.lhs
 · have hn:a.rhs.toNat ≠ b.rhs.toNat:=fun e2=>h (Fd.eq_iff.2 ⟨e,BitVec.eq_of_toNat_eq e2⟩)
   rcases Nat.lt_or_gt_of_ne hn with h1 | h1
   · exact .inl (.inr ⟨e,h1⟩)
   · exact .inr (.inr ⟨e.symm,h1⟩)
 · rcases p9 e with h1 | h1
   · exact .inl (.inl h1)
   · exact .inr (.inl h1)
theorem aio {a b:Fd} (h:gl a b = true):gl b a = false:=by
 rw [Bool.eq_false_iff]
 intro k
 have:=se h k
 rw [a2r] at this
 cases this
def qc (l:List Fd):Prop:=l.Pairwise fun a b=>gl a b = true
theorem vq:∀ {l k:List Fd},qc l → qc k → (∀ x,x ∈ l ↔ x ∈ k) → l = k
 | [],[],_,_,_=>rfl
 | [],y :: k,_,_,h=>absurd ((h y).2 (List.mem_cons_self ..)) (by simp)
 | x :: l,[],_,_,h=>absurd ((h x).1 (List.mem_cons_self ..)) (by simp)
 | x :: l,y :: k,hl,hk,h=>by
  obtain ⟨h1,h2⟩:=List.pairwise_cons.1 hl
  obtain ⟨k1,k2⟩:=List.pairwise_cons.1 hk
  have e:x = y:=by
   rcases List.mem_cons.1 ((h x).1 (List.mem_cons_self ..)) with e | hx
   · exact e
   · rcases List.mem_cons.1 ((h y).2 (List.mem_cons_self ..)) with e | hy
     · exact e.symm
     · have:=aio (k1 x hx)
       rw [h1 y hy] at this
       cases this
  subst e
  congr 1
  refine vq h2 k2 fun z=>?_
  constructor
  · intro hz
    rcases List.mem_cons.1 ((h z).1 (List.mem_cons_of_mem _ hz)) with e | hz'
    · subst e
      have:=h1 z hz
      rw [a2r] at this
      cases this
    · exact hz'
  · intro hz
    rcases List.mem_cons.1 ((h z).2 (List.mem_cons_of_mem _ hz)) with e | hz'
    · subst e
      have:=k1 z hz
      rw [a2r] at this
      cases this
    · exact hz'
def im (x:Fd):List Fd → List Fd
 | []=>[x]
 | y :: l=>if x = y then y :: l else if gl x y = true then x :: y :: l else y :: im x l
theorem v7 {x z:Fd}:∀ {l:List Fd},z ∈ im x l ↔ z = x ∨ z ∈ l
 | []=>by simp [im]
 | y :: l=>by
  unfold im
  split
  · rename_i e
    subst e
    simp
  · split
    · simp
    · rw [List.mem_cons,v7,List.mem_cons]
      constructor
      · rintro (h | h | h) <;> simp [h]
      · rintro (h | h | h) <;> simp [h]
theorem y4 {x:Fd}:∀ {l:List Fd},qc l → qc (im x l)
 | [],_=>by simp [im,qc]
 | y :: l,h=>by
  obtain ⟨h1,h2⟩:=List.pairwise_cons.1 h
  unfold im
  split
  · exact h
  · split
    · rename_i hxy
      refine List.pairwise_cons.2 ⟨fun z hz=>?_,h⟩
      rcases List.mem_cons.1 hz with rfl | hz
      · exact hxy
      · exact se hxy (h1 z hz)
    · rename_i hne hxy
      refine List.pairwise_cons.2 ⟨fun z hz=>?_,y4 h2⟩
      rcases v7.1 hz with rfl | hz
      · exact (aax hne).resolve_left hxy
      · exact h1 z hz
def fy (l:List Fd):List Fd:=l.foldl (fun o x=>im x o) []
theorem a34:∀ {l o:List Fd},qc o → qc (l.foldl (fun o x=>im x o) o) ∧ ∀ z,z ∈ l.foldl (fun o x=>im x o) o ↔ z ∈ o ∨ z ∈ l
 | [],o,h=>⟨h,fun z=>by simp⟩
 | x :: l,o,h=>by
  obtain ⟨h1,h2⟩:=a34 (l:=l) (y4 (x:=x) h)
  refine ⟨h1,fun z=>?_⟩
  show z ∈ l.foldl (fun o x=>im x o) (im x o) ↔ _
  rw [h2 z,v7,List.mem_cons]
  constructor
  · rintro ((h | h) | h) <;> simp [h]
  · rintro (h | h | h) <;> simp [h]
theorem a8b (l:List Fd):qc (fy l):=(a34 (o:=[]) List.Pairwise.nil).1
theorem a33 {l:List Fd} {z:Fd}:z ∈ fy l ↔ z ∈ l:=by
 show z ∈ l.foldl (fun o x=>im x o) [] ↔ _
 rw [(a34 (l:=l) (o:=[]) List.Pairwise.nil).2 z]
 simp
theorem amt {l k:List Fd} (hk:qc k) (h:∀ z,z ∈ k ↔ z ∈ l):k = fy l:=vq hk (a8b l) fun z=>by rw [h z,a33]
def kx (l:List Fd) (k:Nat) (r:Fd):List Fd:=l.take k ++ r :: l.drop k
theorem o6 {l:List Fd} {k:Nat} {r:Fd} (h:k ≤ l.length):(kx l k r).length = l.length + 1:=by simp [kx];omega
theorem ai2 {l:List Fd} {r:Fd}:kx l l.length r = l ++ [r]:=by simp [kx]
theorem v2 {l:List Fd} {k i:Nat} {r:Fd} (h:k ≤ l.length):(kx l k r)[i]? = if i < k then l[i]? else if i = k then some r else l[i - 1]?:=by
 simp only [kx]
 by_cases h1:i < k
 · rw [if_pos h1,List.getElem?_append_left (by simp;omega),List.getElem?_take,if_pos h1]
 · rw [if_neg h1,List.getElem?_append_right (by simp;omega),List.length_take,Nat.min_eq_left h]
   by_cases h2:i = k
   · subst h2;simp
   · rw [if_neg h2]
     obtain ⟨d,rfl⟩:∃ d,i = k + 1 + d:=⟨i - k - 1,by omega⟩
     rw [show k + 1 + d - k = d + 1 by omega,List.getElem?_cons_succ,List.getElem?_drop]
     congr 1
     omega
theorem aoj {l:List Fd} {k:Nat} {r:Fd} (h:k ≤ l.length):(kx l k r).getD k default = r:=by
 rw [List.getD_eq_getElem?_getD,v2 h,if_neg (by omega),if_pos rfl];rfl
theorem aeu {l:List Fd} {k:Nat} {r:Fd} (h0:0 < k) (h:k ≤ l.length):(kx l k r).getD (k - 1) default = l.getD (k - 1) default:=by
 rw [List.getD_eq_getElem?_getD,v2 h,if_pos (by omega),List.getD_eq_getElem?_getD]
theorem aft {l:List Fd} {k:Nat} {r:Fd} (h0:0 < k) (h:k ≤ l.length):((kx l k r).set k (l.getD (k - 1) default)).set (k - 1) r = kx l (k - 1) r:=by
 apply List.ext_getElem?
 intro i
 rw [v2 (by omega),List.getElem?_set,List.getElem?_set,List.length_set,o6 h,v2 h]
 by_cases h1:k - 1 = i
 · subst h1
   rw [if_pos rfl,if_pos (by omega),if_neg (by omega),if_pos rfl]
 · rw [if_neg h1]
   by_cases h2:k = i
   · subst h2
     rw [if_pos rfl,if_pos (by omega),if_neg (by omega),if_neg (by omega),List.getD,List.getElem?_eq_getElem (by omega)]
     rfl
   · rw [if_neg h2]
     by_cases h3:i < k
     · rw [if_pos h3,if_pos (by omega)]
     · rw [if_neg h3,if_neg (by omega),if_neg (by omega),if_neg (by omega)]
theorem ahk {l:List Fd} {j:Nat} (h:j < l.length):l.getD j default ∈ l:=by
 rw [List.getD_eq_getElem?_getD,List.getElem?_eq_getElem h]
 exact List.getElem_mem h
theorem acy {l:List Fd} {k:Nat} {r:Fd} (hs:qc l) (hr:r ∉ l) (hk:k ≤ l.length) (h1:∀ j,k ≤ j → j < l.length → gl r (l.getD j default) = true) (h2:k = 0 ∨ ¬ gl r (l.getD (k - 1) default) = true):kx l k r = im r l:=by
 refine vq ?_ (y4 hs) fun z=>?_
 · unfold qc kx
   rw [List.pairwise_append]
   refine ⟨hs.sublist (List.take_sublist _ _),List.pairwise_cons.2 ⟨fun z hz=>?_,hs.sublist (List.drop_sublist _ _)⟩,fun y hy z hz=>?_⟩
   · obtain ⟨j,hj,rfl⟩:=List.getElem_of_mem hz
     rw [List.length_drop] at hj
     have:=h1 (k + j) (by omega) (by omega)
     rwa [List.getD_eq_getElem?_getD,List.getElem?_eq_getElem (by omega),Option.getD_some,← List.getElem_drop] at this
   · have hyr:gl y r = true:=by
      obtain ⟨j,hj,rfl⟩:=List.getElem_of_mem hy
      rw [List.length_take] at hj
      rcases h2 with h2 | h2
      · omega
      · have hk1:k - 1 < l.length:=by omega
        have hlast:gl (l.getD (k - 1) default) r = true:=by
         rcases aax (a:=r) (b:=l.getD (k - 1) default) (fun e=>hr (e ▸ ahk hk1)) with h | h
         · exact absurd h h2
         · exact h
        rw [List.getElem_take]
        by_cases hjk:j = k - 1
        · subst hjk
          rwa [List.getD_eq_getElem?_getD,List.getElem?_eq_getElem hk1,Option.getD_some] at hlast
        · refine se ?_ hlast
          rw [List.getD_eq_getElem?_getD,List.getElem?_eq_getElem hk1,Option.getD_some]
          exact List.pairwise_iff_getElem.1 hs j (k - 1) (by omega) hk1 (by omega)
     rcases List.mem_cons.1 hz with rfl | hz
     · exact hyr
     · have h3:gl r z = true:=by
        obtain ⟨j,hj,rfl⟩:=List.getElem_of_mem hz
        rw [List.length_drop] at hj
        have:=h1 (k + j) (by omega) (by omega)
        rwa [List.getD_eq_getElem?_getD,List.getElem?_eq_getElem (by omega),Option.getD_some,← List.getElem_drop] at this
       exact se hyr h3
 · rw [v7]
   unfold kx
   rw [List.mem_append,List.mem_cons]
   constructor
   · rintro (h | h | h)
     · exact .inr (List.mem_of_mem_take h)
     · exact .inl h
     · exact .inr (List.mem_of_mem_drop h)
   · rintro (h | h)
     · exact .inr (.inl h)
     · rw [← List.take_append_drop k l,List.mem_append] at h
       rcases h with h | h
       · exact .inl h
       · exact .inr (.inr h)
theorem aik {l:List Fd} {i:Nat} (hi:i < l.length):fy (l.take (i + 1)) = im (l.getD i default) (fy (l.take i)):=by
 unfold fy
 rw [ce hi,List.foldl_append]
 rfl
end Go.Hx
end
section
namespace Go.Hx
set_option maxRecDepth 100000
def mc (K:List AS) (all x:AS):AS:=K.foldl (fun c k=>if sub x k then c &&& k else c) all
theorem xw:∀ {K:List AS} {all x:AS} {a:Nat},(mc K all x).getLsbD a = true ↔ all.getLsbD a = true ∧ ∀ k ∈ K,sub x k → k.getLsbD a = true
 | [],all,x,a=>by simp [mc]
 | k :: K,all,x,a=>by
  show (mc K (if sub x k then all &&& k else all) x).getLsbD a = true ↔ _
  rw [xw]
  by_cases h:sub x k
  · rw [if_pos h,BitVec.getLsbD_and,Bool.and_eq_true]
    constructor
    · rintro ⟨⟨h1,h2⟩,h3⟩
      refine ⟨h1,fun y hy hs=>?_⟩
      rcases List.mem_cons.1 hy with rfl | hy
      · exact h2
      · exact h3 y hy hs
    · rintro ⟨h1,h2⟩
      exact ⟨⟨h1,h2 k (by simp) h⟩,fun y hy hs=>h2 y (by simp [hy]) hs⟩
  · rw [if_neg h]
    constructor
    · rintro ⟨h1,h3⟩
      refine ⟨h1,fun y hy hs=>?_⟩
      rcases List.mem_cons.1 hy with rfl | hy
      · exact absurd hs h
      · exact h3 y hy hs
    · rintro ⟨h1,h2⟩
      exact ⟨h1,fun y hy hs=>h2 y (by simp [hy]) hs⟩
theorem ala {a b:AS} (h:∀ i,a.getLsbD i = true ↔ b.getLsbD i = true):a = b:=by
 apply BitVec.eq_of_getLsbD_eq
 intro i hi
 rw [Bool.eq_iff_iff];exact h i
theorem ak1 {K K':List AS} (h:∀ k,k ∈ K ↔ k ∈ K') (all x:AS):mc K all x = mc K' all x:=ala fun i=>by
 rw [xw,xw]
 exact and_congr Iff.rfl ⟨fun q k hk=>q k ((h k).2 hk),fun q k hk=>q k ((h k).1 hk)⟩
theorem a7o (K:List AS) (all x k:AS):mc (K ++ [k]) all x = if sub x k then mc K all x &&& k else mc K all x:=by
 unfold mc;rw [List.foldl_append];rfl
theorem ad4 {L:List AS} (ho:iz L) (hc:∀ x ∈ L,∀ y,sub y x → y ∈ L) (k:Nat):∀ x ∈ L.take k,∀ y,sub y x → y ∈ L.take k:=fun x hx y hy=>by
 by_cases e:y = x
 · subst e;exact hx
 · obtain ⟨i,hi,rfl⟩:=List.getElem_of_mem hx
   rw [List.length_take] at hi
   rw [List.getElem_take] at hy e
   have hy2:=hc _ (List.getElem_mem (by omega)) y hy
   obtain ⟨j,hj,rfl⟩:=List.getElem_of_mem hy2
   have hb:=aeb hy e
   have hji:j < i:=by
    apply Nat.lt_of_not_le
    intro hle
    rcases Nat.lt_or_eq_of_le hle with h | h
    · have:=List.pairwise_iff_getElem.1 ho i j (by omega) hj h
      rw [a3a this] at hb;cases hb
    · subst h;exact e rfl
   rw [List.mem_iff_getElem]
   exact ⟨j,by rw [List.length_take];omega,by rw [List.getElem_take]⟩
theorem a8v {p:AS → Bool} {L:List AS} (ho:iz L) (hc:∀ x ∈ L,∀ y,sub y x → y ∈ L) {i:Nat} (hi:i < L.length) :
 (p (L.getD i default) && !((i5 p (L.take i)).any fun y=>decide (sub y (L.getD i default)))) = true ↔ L.getD i default ∈ i5 p L:=by
 have hx:L.getD i default ∈ L:=abp hi
 have hxt:L.getD i default ∈ L.take (i + 1):=by rw [ce hi];simp
 have h1:L.getD i default ∈ i5 p (L.take (i + 1)) ↔ L.getD i default ∈ i5 p L:=by
  rw [zr p _ (ho.sublist (List.take_sublist _ _)) (ad4 ho hc _),zr p L ho hc]
  exact and_congr ⟨fun _=>hx,fun _=>hxt⟩ Iff.rfl
 rw [← h1,ce hi,lq]
 have hno:L.getD i default ∉ i5 p (L.take i):=fun h=>by
  have h2:=(tq p (L.take i)).subset h
  obtain ⟨j,hj,e⟩:=List.getElem_of_mem h2
  rw [List.length_take] at hj
  rw [List.getElem_take] at e
  have:=List.pairwise_iff_getElem.1 ho j i (by omega) hi (by omega)
  rw [e,List.getD_eq_getElem?_getD,List.getElem?_eq_getElem hi,Option.getD_some,l6] at this
  cases this
 unfold mr
 constructor
 · intro h;rw [if_pos h];simp
 · intro h
   apply Classical.byContradiction
   intro hn
   rw [if_neg hn] at h
   exact hno h
theorem a9o {n:Nat} (h:n ≤ 8):bsz (b7 n) ≤ 8:=by
 rcases (by omega:n = 0 ∨ n = 1 ∨ n = 2 ∨ n = 3 ∨ n = 4 ∨ n = 5 ∨ n = 6 ∨ n = 7 ∨ n = 8) with rfl | rfl | rfl | rfl | rfl | rfl | rfl | rfl | rfl <;> decide +kernel
abbrev d5 (n:Nat):List AS:=da (b7 n)
theorem yr {n:Nat} (h:n ≤ 8):d5 n = p8 (b7 n):=a1x (by have:=a9o h;omega)
theorem a7s {n:Nat} (h:n ≤ 8):iz (d5 n):=by rw [yr h];exact fe _
theorem afl {n:Nat} (h:n ≤ 8):∀ x ∈ d5 n,∀ y,sub y x → y ∈ d5 n:=by
 rw [yr h]
 exact fun x hx y hy=>ly.2 (ru hy (ly.1 hx))
def atA (ps:List AS) (n a:Nat) (x:AS):Bool:=(mc ps (b7 n) x).getLsbD a && !x.getLsbD a
def dn (ps:List AS) (n a k:Nat):List AS:=i5 (atA ps n a) ((d5 n).take k)
def nwB (ps:List AS) (n i a:Nat):Bool:=atA ps n a ((d5 n).getD i default) && !((dn ps n a i).any fun y=>decide (sub y ((d5 n).getD i default)))
theorem a56 {ps:List AS} {n i a:Nat} (hi:i < (d5 n).length) (h:nwB ps n i a = true):dn ps n a (i + 1) = dn ps n a i ++ [(d5 n).getD i default]:=by
 unfold dn
 rw [ce hi,lq]
 unfold mr
 exact if_pos h
theorem a5h {ps:List AS} {n i a:Nat} (hi:i < (d5 n).length) (h:nwB ps n i a = false):dn ps n a (i + 1) = dn ps n a i:=by
 unfold dn
 rw [ce hi,lq]
 unfold mr
 exact if_neg (by intro h2;rw [nwB,dn,h2] at h;cases h)
theorem aku (ps:List AS) (n a k:Nat):(dn ps n a k).length ≤ k:=Nat.le_trans (tq _ _).length_le (by rw [List.length_take];omega)
def oj (ps:List AS) (n i a:Nat):List Fd:=((List.range a).filter (nwB ps n i)).map fun a=>⟨(d5 n).getD i default,(1:AS) <<< a⟩
def jq (ps:List AS) (n i a:Nat):List Fd:=((List.range i).map fun j=>oj ps n j n).flatten ++ oj ps n i a
theorem rt {ps:List AS} {n i a:Nat} (h:nwB ps n i a = true):jq ps n i (a + 1) = jq ps n i a ++ [⟨(d5 n).getD i default,(1:AS) <<< a⟩]:=by
 unfold jq oj
 rw [List.range_succ,List.filter_append,List.append_assoc]
 simp only [List.filter_cons,h,if_true,List.filter_nil,List.map_append,List.map_cons,List.map_nil]
theorem qu {ps:List AS} {n i a:Nat} (h:nwB ps n i a = false):jq ps n i (a + 1) = jq ps n i a:=by
 unfold jq oj
 rw [List.range_succ,List.filter_append]
 simp only [List.filter_cons,h,Bool.false_eq_true,if_false,List.filter_nil,List.append_nil]
theorem a86 (ps:List AS) (n i:Nat):jq ps n i n = jq ps n (i + 1) 0:=by
 unfold jq
 rw [List.range_succ (n:=i),List.map_append,List.flatten_append]
 simp [oj]
theorem a9m (ps:List AS) (n i a:Nat):(oj ps n i a).length ≤ a:=by
 unfold oj
 rw [List.length_map]
 exact Nat.le_trans (List.length_filter_le _ _) (by simp)
theorem a9h (ps:List AS) (n i a:Nat):(jq ps n i a).length ≤ i * n + a:=by
 unfold jq
 rw [List.length_append]
 have h:(((List.range i).map fun j=>oj ps n j n).flatten).length ≤ i * n:=by
  induction i with
  | zero=>simp
  | succ i ih =>
   rw [List.range_succ,List.map_append,List.flatten_append,List.length_append]
   have:=a9m ps n i n
   simp only [List.map_cons,List.map_nil,List.flatten_cons,List.flatten_nil,List.append_nil]
   rw [Nat.add_mul];omega
 have:=a9m ps n i a
 omega
def a42 (ps:List AS) (n:Nat):List Fd:=jq ps n (d5 n).length 0
theorem aeh {ps:List AS} {n i a:Nat} (h8:n ≤ 8) (hi:i < (d5 n).length):nwB ps n i a = true ↔ (d5 n).getD i default ∈ i5 (atA ps n a) (d5 n):=a8v (a7s h8) (afl h8) hi
theorem al0 {ps:List AS} {n:Nat} (h8:n ≤ 8) {z:Fd}:z ∈ a42 ps n ↔ ∃ a,a < n ∧ z.rhs = (1:AS) <<< a ∧ z.lhs ∈ i5 (atA ps n a) (d5 n):=by
 unfold a42 jq
 rw [List.mem_append,List.mem_flatten]
 have e0:oj ps n (d5 n).length 0 = []:=rfl
 rw [e0]
 simp only [List.mem_map,List.mem_range,List.not_mem_nil,or_false]
 constructor
 · rintro ⟨_,⟨i,hi,rfl⟩,hz⟩
   unfold oj at hz
   obtain ⟨a,ha,rfl⟩:=List.mem_map.1 hz
   obtain ⟨h1,h2⟩:=List.mem_filter.1 ha
   exact ⟨a,List.mem_range.1 h1,rfl,(aeh h8 hi).1 h2⟩
 · rintro ⟨a,ha,h1,h2⟩
   obtain ⟨i,hi,e⟩:=List.getElem_of_mem ((tq _ _).subset h2)
   have e2:(d5 n).getD i default = z.lhs:=by rw [List.getD_eq_getElem?_getD,List.getElem?_eq_getElem hi,Option.getD_some,e]
   refine ⟨_,⟨i,hi,rfl⟩, ?_⟩
   unfold oj
   refine List.mem_map.2 ⟨a,List.mem_filter.2 ⟨List.mem_range.2 ha,(aeh h8 hi).2 (by rw [e2];exact h2)⟩, ?_⟩
   rw [e2,← h1]
theorem ah9 {a b:Nat} (h:a < b) (hb:b < 32):((1:AS) <<< a).toNat < ((1:AS) <<< b).toNat:=by
 rw [BitVec.toNat_shiftLeft,BitVec.toNat_shiftLeft,Nat.shiftLeft_eq,Nat.shiftLeft_eq]
 have e:(1:AS).toNat = 1:=rfl
 rw [e,Nat.one_mul,Nat.one_mul]
 have h1:2 ^ a < 2 ^ b:=Nat.pow_lt_pow_right (by omega) h
 have h2:2 ^ b < 2 ^ 32:=Nat.pow_lt_pow_right (by omega) hb
 rw [Nat.mod_eq_of_lt h2,Nat.mod_eq_of_lt (Nat.lt_trans h1 h2)]
 exact h1
theorem ak2 {ps:List AS} {n:Nat} (h8:n ≤ 8):qc (a42 ps n):=by
 unfold a42 jq
 have e0:oj ps n (d5 n).length 0 = []:=rfl
 rw [e0,List.append_nil]
 unfold qc
 rw [List.pairwise_flatten]
 refine ⟨fun l hl=>?_, ?_⟩
 · obtain ⟨i,hi,rfl⟩:=List.mem_map.1 hl
   unfold oj
   rw [List.pairwise_map]
   refine ((List.pairwise_lt_range (n:=n)).sublist (List.filter_sublist)).imp_of_mem fun {a b} ha hb h=>?_
   have hb2:=List.mem_range.1 (List.mem_filter.1 hb).1
   exact uc.2 (.inr ⟨rfl,ah9 h (by omega)⟩)
 · rw [List.pairwise_map]
   refine (List.pairwise_lt_range (n:=(d5 n).length)).imp_of_mem fun {i j} hi hj h x hx y hy=>?_
   have hi:=List.mem_range.1 hi
   have hj:=List.mem_range.1 hj
   unfold oj at hx hy
   obtain ⟨a,_,rfl⟩:=List.mem_map.1 hx
   obtain ⟨b,_,rfl⟩:=List.mem_map.1 hy
   refine uc.2 (.inl ?_)
   have:=List.pairwise_iff_getElem.1 (a7s h8) i j hi hj h
   simpa [List.getD,hi,hj] using this
def pK (ps:List AS) (x:AS):Bool:=ps.all fun k=>!decide (sub x k)
def tv (ps:List AS) (n:Nat):List AS:=i5 (pK ps) (d5 n)
theorem a9b {ps:List AS} {x:AS}:pK ps x = true ↔ ∀ k ∈ ps,¬ sub x k:=by
 unfold pK
 rw [List.all_eq_true]
 exact forall_congr' fun k=>by simp
theorem atp {K K':List AS} (h:∀ k,k ∈ K ↔ k ∈ K') (x:AS):pK K x = pK K' x:=by
 rw [Bool.eq_iff_iff,a9b,a9b]
 exact ⟨fun q k hk=>q k ((h k).2 hk),fun q k hk=>q k ((h k).1 hk)⟩
def a3c (l:List Val) (s:AS):List Val:=((List.range l.length).filter fun (i:Nat)=>pz s i).map fun i=>l.getD i default
def ue (a b:Row) (s:AS):Bool:=decide (a3c a.vals s = a3c b.vals s)
theorem pt {a b:Row} {s:AS} {n:Nat} (ha:a.vals.length = n) (hb:b.vals.length = n) (hn:n ≤ 16) (hs:sub s (b7 n)):ue a b s = true ↔ sub s (agR a b):=by
 unfold ue a3c
 rw [decide_eq_true_iff,ha,hb,List.map_inj_left,eu]
 have hf:b7 n = ko n:=by unfold b7;rw [Int.toNat_natCast,Nat.min_eq_left (by omega)]
 rw [hf] at hs
 constructor
 · intro h k hk hb2
   have hkn:=eu.1 hs k hk hb2
   rw [nz n k hk,decide_eq_true_iff] at hkn
   rw [a16 hk,ha,decide_eq_true hkn,Bool.true_and,decide_eq_true_iff]
   exact h k (List.mem_filter.2 ⟨List.mem_range.2 hkn,by rw [tj hk];exact hb2⟩)
 · intro h k hk
   obtain ⟨h1,h2⟩:=List.mem_filter.1 hk
   have h1:=List.mem_range.1 h1
   rw [tj (by omega)] at h2
   have:=h k (by omega) h2
   rw [a16 (by omega),Bool.and_eq_true] at this
   exact of_decide_eq_true this.2
def ol (l:List Row) (x r:AS):Bool:=(List.range l.length).all fun i=>(List.range i).all fun k=>!(ue (l.getD i default) (l.getD k default) x && !ue (l.getD i default) (l.getD k default) r)
def yp (l:List Row) (x:AS):Bool:=(List.range l.length).all fun i=>(List.range i).all fun k=>!ue (l.getD i default) (l.getD k default) x
theorem qv {n:Nat} {l:List Row} (h:Wid n l) {i:Nat} (hi:i < l.length):(l.getD i default).vals.length = n:=by
 rw [List.getD_eq_getElem?_getD,List.getElem?_eq_getElem hi,Option.getD_some]
 exact h _ (List.getElem_mem hi)
theorem a9g {n a:Nat} (ha:a < n) (hn:n ≤ 16):sub ((1:AS) <<< a) (b7 n):=by
 have hf:b7 n = ko n:=by unfold b7;rw [Int.toNat_natCast,Nat.min_eq_left (by omega)]
 rw [hf,eu]
 intro k hk h
 rw [lc a k hk,decide_eq_true_iff] at h
 rw [nz n k hk,decide_eq_true_iff];omega
theorem a74 {a:Nat} {p:AS} (ha:a < 32):sub ((1:AS) <<< a) p ↔ p.getLsbD a = true:=by
 rw [eu]
 constructor
 · intro h;exact h a ha (by rw [lc a a ha];simp)
 · intro h k hk hb
   rw [lc a k hk,decide_eq_true_iff] at hb
   subst hb;exact h
theorem ab3 {l:List Row} {n a:Nat} {x:AS} (hw:Wid n l) (hn:n ≤ 16) (hx:sub x (b7 n)) (ha:a < n):ol l x ((1:AS) <<< a) = true ↔ ∀ p ∈ prs l,sub x p → p.getLsbD a = true:=by
 unfold ol
 rw [List.all_eq_true]
 constructor
 · intro h p hp hs
   obtain ⟨i,k,hik,hk,rfl⟩:=wh.1 hp
   have h1:=List.all_eq_true.1 (h k (List.mem_range.2 hk)) i (List.mem_range.2 hik)
   have wi:=qv hw (show i < l.length by omega)
   have wk:=qv hw hk
   rw [pa (by rw [wi,wk])] at hs ⊢
   rw [(pt wk wi hn hx).2 hs,Bool.true_and,Bool.not_not,pt wk wi hn (a9g ha hn)] at h1
   exact (a74 (by omega)).1 h1
 · intro h k hk
   rw [List.all_eq_true]
   intro i hi
   have hk:=List.mem_range.1 hk
   have hi:=List.mem_range.1 hi
   have wi:=qv hw (show i < l.length by omega)
   have wk:=qv hw hk
   cases h1:ue (l.getD k default) (l.getD i default) x with
   | false=>rfl
   | true =>
    have h2:=(pt wk wi hn hx).1 h1
    rw [pa (by rw [wi,wk])] at h2
    have h3:=h _ (wh.2 ⟨i,k,hi,hk,rfl⟩) h2
    rw [pa (by rw [wi,wk])] at h3
    rw [(pt wk wi hn (a9g ha hn)).2 ((a74 (by omega)).2 h3)]
    rfl
theorem a9a {l:List Row} {n:Nat} {x:AS} (hw:Wid n l) (hn:n ≤ 16) (hx:sub x (b7 n)):yp l x = true ↔ ∀ p ∈ prs l,¬ sub x p:=by
 unfold yp
 rw [List.all_eq_true]
 constructor
 · intro h p hp hs
   obtain ⟨i,k,hik,hk,rfl⟩:=wh.1 hp
   have h1:=List.all_eq_true.1 (h k (List.mem_range.2 hk)) i (List.mem_range.2 hik)
   have wi:=qv hw (show i < l.length by omega)
   have wk:=qv hw hk
   rw [pa (by rw [wi,wk])] at hs
   rw [(pt wk wi hn hx).2 hs] at h1
   cases h1
 · intro h k hk
   rw [List.all_eq_true]
   intro i hi
   have hk:=List.mem_range.1 hk
   have hi:=List.mem_range.1 hi
   have wi:=qv hw (show i < l.length by omega)
   have wk:=qv hw hk
   cases h1:ue (l.getD k default) (l.getD i default) x with
   | false=>rfl
   | true =>
    have h2:=(pt wk wi hn hx).1 h1
    rw [pa (by rw [wi,wk])] at h2
    exact absurd h2 (h _ (wh.2 ⟨i,k,hi,hk,rfl⟩))
def om (l:List Row) (n a:Nat):List AS:=tw ((da (b7 n &&& ~~~((1:AS) <<< a))).filter fun x=>ol l x ((1:AS) <<< a))
def aa4 (l:List Row) (n:Nat):List Fd:=fy (((List.range n).map fun a=>(om l n a).map fun x=>(⟨x,(1:AS) <<< a⟩:Fd)).flatten)
theorem abn {n a:Nat} {z:AS} (ha:a < 32):sub z (b7 n &&& ~~~((1:AS) <<< a)) ↔ sub z (b7 n) ∧ z.getLsbD a = false:=by
 rw [eu,eu]
 constructor
 · intro h
   refine ⟨fun k hk hz=>?_, ?_⟩
   · have:=h k hk hz
     rw [BitVec.getLsbD_and,Bool.and_eq_true] at this
     exact this.1
   · rw [Bool.eq_false_iff]
     intro hz
     have:=h a ha hz
     rw [BitVec.getLsbD_and,BitVec.getLsbD_not,lc a a ha] at this
     simp at this
 · rintro ⟨h1,h2⟩ k hk hz
   rw [BitVec.getLsbD_and,h1 k hk hz,BitVec.getLsbD_not,lc a k hk]
   by_cases e:k = a
   · subst e;rw [h2] at hz;cases hz
   · simp [hk,e]
theorem alc {n a:Nat} (ha:a < n) (hn:n ≤ 16):(b7 n).getLsbD a = true:=(a74 (by omega)).1 (a9g ha hn)
theorem ae8 {l:List Row} {n a:Nat} (hw:Wid n l) (hn:n ≤ 8) (ha:a < n):om l n a = i5 (atA (prs l) n a) (d5 n):=by
 unfold om
 rw [yr hn]
 symm
 refine a8k fun z=>?_
 rw [List.mem_filter]
 have hm:z ∈ da (b7 n &&& ~~~((1:AS) <<< a)) ↔ sub z (b7 n &&& ~~~((1:AS) <<< a)):=by
  rw [a1x (by
   have h1:=a9o hn
   have h2:=a5x (z:=b7 n &&& ~~~((1:AS) <<< a)) (s:=b7 n) ((abn (n:=n) (a:=a) (by omega)).1 (yx _)).1
   omega)]
  exact ly
 rw [hm,abn (by omega)]
 unfold atA
 rw [Bool.and_eq_true,Bool.not_eq_true',xw]
 constructor
 · rintro ⟨⟨h1,h2⟩,h3⟩
   exact ⟨h1,⟨alc ha (by omega),(ab3 hw (by omega) h1 ha).1 h3⟩,h2⟩
 · rintro ⟨h1,⟨_,h3⟩,h2⟩
   exact ⟨⟨h1,h2⟩,(ab3 hw (by omega) h1 ha).2 h3⟩
theorem aiy {l:List Row} {n:Nat} (hw:Wid n l) (hn:n ≤ 8):a42 (prs l) n = aa4 l n:=by
 refine amt (ak2 hn) fun z=>?_
 rw [al0 hn,List.mem_flatten]
 simp only [List.mem_map,List.mem_range]
 constructor
 · rintro ⟨a,ha,h1,h2⟩
   rw [← ae8 hw hn ha] at h2
   exact ⟨_,⟨a,ha,rfl⟩,List.mem_map.2 ⟨z.lhs,h2,Fd.eq_iff.2 ⟨rfl,h1.symm⟩⟩⟩
 · rintro ⟨_,⟨a,ha,rfl⟩,hz⟩
   obtain ⟨x,hx,rfl⟩:=List.mem_map.1 hz
   rw [ae8 hw hn ha] at hx
   exact ⟨a,ha,rfl,hx⟩
def upS (n:Nat):List AS:=(List.range ((b7 n).toNat + 1)).map (BitVec.ofNat 32)
def a60 (l:List Row) (n:Nat):List AS:=tw ((upS n).filter (yp l))
theorem ac2 {n:Nat} (h:n ≤ 16):(b7 n).toNat + 1 = 2 ^ n:=by
 rcases (by omega:n = 0 ∨ n = 1 ∨ n = 2 ∨ n = 3 ∨ n = 4 ∨ n = 5 ∨ n = 6 ∨ n = 7 ∨ n = 8 ∨ n = 9 ∨ n = 10 ∨ n = 11 ∨ n = 12 ∨ n = 13 ∨ n = 14 ∨ n = 15 ∨ n = 16) with rfl | rfl | rfl | rfl | rfl | rfl | rfl | rfl | rfl | rfl | rfl | rfl | rfl | rfl | rfl | rfl | rfl <;> decide +kernel
theorem apc {n:Nat} (h:n ≤ 16) {z:AS}:z ∈ upS n ↔ sub z (b7 n):=by
 have hf:b7 n = ko n:=by unfold b7;rw [Int.toNat_natCast,Nat.min_eq_left (by omega)]
 unfold upS
 rw [List.mem_map,ac2 h]
 constructor
 · rintro ⟨k,hk,rfl⟩
   have hk:=List.mem_range.1 hk
   rw [hf,a4p (by omega)]
   apply BitVec.eq_of_toNat_eq
   rw [BitVec.toNat_ushiftRight,BitVec.toNat_ofNat,Nat.shiftRight_eq_div_pow]
   have:k % 2 ^ 32 ≤ k:=Nat.mod_le _ _
   exact Nat.div_eq_of_lt (by omega)
 · intro hz
   refine ⟨z.toNat,List.mem_range.2 ?_,by simp⟩
   rw [hf,a4p (by omega)] at hz
   have:=congrArg BitVec.toNat hz
   rw [BitVec.toNat_ushiftRight,Nat.shiftRight_eq_div_pow] at this
   have h0:(0:AS).toNat = 0:=rfl
   rw [h0] at this
   exact Nat.lt_of_div_eq_zero (Nat.two_pow_pos n) this
theorem agy {l:List Row} {n:Nat} (hw:Wid n l) (hn:n ≤ 8):tv (prs l) n = a60 l n:=by
 unfold tv a60
 rw [yr hn]
 refine a8k fun z=>?_
 rw [List.mem_filter,apc (by omega),a9b]
 constructor
 · rintro ⟨h1,h2⟩;exact ⟨h1,(a9a hw (by omega) h1).1 h2⟩
 · rintro ⟨h1,h2⟩;exact ⟨h1,(a9a hw (by omega) h1).2 h2⟩
end Go.Hx
end
section
namespace Go.Hx
structure Cnt where
 set:AS
 num:Int
instance:Inhabited Cnt:=⟨⟨0,0⟩⟩
theorem Cnt.eq_iff {a b:Cnt}:a = b ↔ a.set = b.set ∧ a.num = b.num:=by cases a;cases b;simp
instance:DecidableEq Cnt:=fun a b=>decidable_of_iff _ (Cnt.eq_iff (a:=a) (b:=b)).symm
def Cnt.c (x:Cnt):Nat → PV
 | 0=>asC x.set
 | 1=>.raw (.int .i64 x.num)
 | _=>.any
abbrev a9w (l:List Cnt):PV:=psl 2 Cnt.c l
abbrev Cnt.pc (x:Cnt):PC:=.agg [x.c 0,x.c 1]
def qo (t:Tbl):Int:=if c6 t ≠ 0 then c6 t else if 200 < t.rows.length then 3 else 0
def nc (t:Tbl):Int:=if c6 t ≠ 0 then c6 t else if 10 < t.attrs.length ∨ 200 < t.rows.length then 3 else 0
theorem akv {t:Tbl} (h:qo t = 0):TOk t ∧ t.rows.length ≤ 200:=by
 unfold qo at h
 split at h
 · rename_i h1;exact absurd h h1
 · rename_i h1
   split at h
   · cases h
   · exact ⟨dj.1 (by simpa using h1),by omega⟩
theorem a9s {t:Tbl} (h:nc t = 0):TOk t ∧ t.rows.length ≤ 200 ∧ t.attrs.length ≤ 10:=by
 unfold nc at h
 split at h
 · rename_i h1;exact absurd h h1
 · rename_i h1
   split at h
   · cases h
   · exact ⟨dj.1 (by simpa using h1),by omega,by omega⟩
theorem TOk.wid {t:Tbl} (h:TOk t):Wid t.attrs.length t.rows:=fun x hx=>(fp h.rs x hx).2.1
theorem TOk.rows {t:Tbl} (h:TOk t):jx t.rows:=h.ok.2.2
theorem ye {a b:Row} {i:Nat} (h:kp (a.vals.getD i default) (b.vals.getD i default) = 0):fl .or .u32 (asI (agT a b i)) (IntKind.wrap .u32 (1 * 2 ^ (min i 32))) = asI (agT a b (i + 1)):=by
 rw [auy h,show IntKind.wrap .u32 (1 * 2 ^ (min i 32)) = asI ((1:AS) <<< i) from vv 1 i,bOr]
def uj (ps:List AS) (s:AS) (k:Nat):Nat:=(ps.take k).count s
theorem asy {ps:List AS} {s:AS} {k:Nat} (hk:k < ps.length) (h:ps.getD k default = s):uj ps s (k + 1) = uj ps s k + 1:=by
 unfold uj
 rw [ce hk,List.count_append,h]
 simp
theorem atk {ps:List AS} {s:AS} {k:Nat} (hk:k < ps.length) (h:¬ ps.getD k default = s):uj ps s (k + 1) = uj ps s k:=by
 unfold uj
 rw [ce hk,List.count_append,List.count_cons]
 have:(ps.getD k default == s) = false:=by rw [Bool.eq_false_iff];intro e;exact h (beq_iff_eq.1 e)
 rw [this]
 simp
theorem apm (ps:List AS) (s:AS) (k:Nat):uj ps s k ≤ k:=by
 unfold uj
 have h1:=List.count_le_length (a:=s) (l:=ps.take k)
 rw [List.length_take] at h1
 omega
theorem akt {l:List Row} (s:AS):(uj (prs l) s (prs l).length:Int) = db l s:=by unfold uj db;rw [List.take_length]
def af8 (l:List Row) (s:AS):Cnt:=⟨s,db l s⟩
def mi (l:List Row):List Cnt:=(ord (prs l)).map (af8 l)
def a5l (t:Tbl):List Cnt:=if qo t = 0 then mi t.rows else []
def qq (l:List Row) (i:Nat):List Cnt:=((ord (prs l)).take i).map (af8 l)
theorem a5j {l:List Row} {i:Nat} (hi:i < (ord (prs l)).length):qq l (i + 1) = qq l i ++ [af8 l ((ord (prs l)).getD i default)]:=by
 unfold qq;rw [ce hi,List.map_append];rfl
theorem ai5 (l:List Row) (i:Nat):(qq l i).length ≤ i:=by unfold qq;rw [List.length_map,List.length_take];omega
theorem aih {l:List Row} {i:Nat} (hi:(ord (prs l)).length ≤ i):qq l i = mi l:=by unfold qq mi;rw [List.take_of_length_le hi]
def tn (l:List Val) (s:AS) (i:Nat):List Val:=((List.range i).filter fun (k:Nat)=>pz s k).map fun k=>l.getD k default
theorem a5b {l:List Val} {s:AS} {i:Nat} (h:pz s i = true):tn l s (i + 1) = tn l s i ++ [l.getD i default]:=by
 unfold tn
 rw [List.range_succ,List.filter_append]
 simp only [List.filter_cons,h,if_true,List.filter_nil,List.map_append,List.map_cons,List.map_nil]
theorem a5d {l:List Val} {s:AS} {i:Nat} (h:pz s i = false):tn l s (i + 1) = tn l s i:=by
 unfold tn
 rw [List.range_succ,List.filter_append]
 simp only [List.filter_cons,h,Bool.false_eq_true,if_false,List.filter_nil,List.append_nil]
theorem akj (l:List Val) (s:AS) (i:Nat):(tn l s i).length ≤ i:=by
 unfold tn
 rw [List.length_map]
 exact Nat.le_trans (List.length_filter_le _ _) (by simp)
theorem aib {l:List Val} {s:AS} (h:rh l):rh (a3c l s):=fun j hj=>by
 have hm:(a3c l s).getD j default ∈ a3c l s:=by
  rw [List.getD_eq_getElem?_getD,List.getElem?_eq_getElem hj,Option.getD_some];exact List.getElem_mem hj
 obtain ⟨k,hk,e⟩:=List.mem_map.1 hm
 rw [← e]
 exact h k (List.mem_range.1 (List.mem_filter.1 hk).1)
def s4 (p:AS → Bool) (l:List AS) (i:Nat):List AS:=(l.take i).filter p
theorem a4u {p:AS → Bool} {l:List AS} {i:Nat} (hi:i < l.length) (h:p (l.getD i default) = true):s4 p l (i + 1) = s4 p l i ++ [l.getD i default]:=by
 unfold s4
 rw [ce hi,List.filter_append]
 simp only [List.filter_cons,h,if_true,List.filter_nil]
theorem a5r {p:AS → Bool} {l:List AS} {i:Nat} (hi:i < l.length) (h:p (l.getD i default) = false):s4 p l (i + 1) = s4 p l i:=by
 unfold s4
 rw [ce hi,List.filter_append]
 simp only [List.filter_cons,h,Bool.false_eq_true,if_false,List.filter_nil,List.append_nil]
theorem ajo (p:AS → Bool) (l:List AS) (i:Nat):(s4 p l i).length ≤ i:=Nat.le_trans (List.length_filter_le _ _) (by rw [List.length_take];omega)
theorem ajk {p:AS → Bool} {l:List AS} {i:Nat} (hi:l.length ≤ i):s4 p l i = l.filter p:=by unfold s4;rw [List.take_of_length_le hi]
def a6k (l:List Row) (n a:Nat):List Fd:=(om l n a).map fun x=>(⟨x,(1:AS) <<< a⟩:Fd)
def kg (l:List Row) (n a k:Nat):List Fd:=((List.range a).map (a6k l n)).flatten ++ (a6k l n a).take k
theorem a41 (l:List Row) (n a:Nat):(a6k l n a).length = (om l n a).length:=List.length_map _
theorem a7t {l:List Row} {n a k:Nat} (hk:k < (om l n a).length):kg l n a (k + 1) = kg l n a k ++ [⟨(om l n a).getD k default,(1:AS) <<< a⟩]:=by
 unfold kg
 rw [List.append_assoc,List.take_add_one]
 congr 2
 unfold a6k
 rw [List.getElem?_map,List.getElem?_eq_getElem hk,List.getD_eq_getElem?_getD,List.getElem?_eq_getElem hk]
 rfl
theorem a8m {l:List Row} {n a k:Nat} (hk:(om l n a).length ≤ k):kg l n a k = kg l n (a + 1) 0:=by
 unfold kg
 rw [List.take_of_length_le (by rw [a41];exact hk),List.range_succ,List.map_append,List.flatten_append]
 simp
theorem akd (l:List Row) (n:Nat):fy (kg l n n 0) = aa4 l n:=by
 unfold kg aa4
 rw [List.take_zero,List.append_nil]
 rfl
theorem a3z (l:List Row) (n a:Nat) (hn:n ≤ 10):(om l n a).length ≤ 4294967296:=by
 unfold om
 have h1:=alf ((da (b7 n &&& ~~~((1:AS) <<< a))).filter fun x=>ol l x ((1:AS) <<< a))
 have h2:=List.length_filter_le (fun x=>ol l x ((1:AS) <<< a)) (da (b7 n &&& ~~~((1:AS) <<< a)))
 have h3:=rj (b7 n &&& ~~~((1:AS) <<< a))
 omega
theorem a3w (l:List Row) (n a k:Nat) (hn:n ≤ 10) (ha:a ≤ n):(kg l n a k).length ≤ 4294967296 * a + 4294967296:=by
 unfold kg
 rw [List.length_append,List.length_take,a41]
 have h:=a3z l n a hn
 have h2:∀ a,a ≤ n → (((List.range a).map (a6k l n)).flatten).length ≤ 4294967296 * a:=by
  intro a
  induction a with
  | zero=>intro _;simp
  | succ a ih =>
   intro ha
   rw [List.range_succ,List.map_append,List.flatten_append,List.length_append]
   have:=ih (by omega)
   have h3:=a3z l n a hn
   have h4:=a41 l n a
   simp only [List.map_cons,List.map_nil,List.flatten_cons,List.flatten_nil,List.append_nil]
   omega
 have:=h2 a ha
 omega
theorem ah2 (l:List Row) (n:Nat) (hn:n ≤ 32):(kg l n n 0).Nodup:=by
 unfold kg
 rw [List.take_zero,List.append_nil]
 unfold List.Nodup
 rw [List.pairwise_flatten]
 refine ⟨fun m hm=>?_, ?_⟩
 · obtain ⟨a,_,rfl⟩:=List.mem_map.1 hm
   unfold a6k
   rw [List.pairwise_map]
   exact ((ac6 _).imp fun {x y} h e=>by
    have:x = y:=congrArg Fd.lhs e
    subst this
    rw [l6] at h;cases h)
 · rw [List.pairwise_map]
   refine (List.pairwise_lt_range (n:=n)).imp_of_mem fun {i j} hi hj h x hx y hy e=>?_
   have hj:=List.mem_range.1 hj
   obtain ⟨_,_,rfl⟩:=List.mem_map.1 hx
   obtain ⟨_,_,rfl⟩:=List.mem_map.1 hy
   have:=ah9 h (by omega)
   have e2:=congrArg (fun z:Fd=>z.rhs.toNat) e
   dsimp only at e2
   omega
def a40 (t:Tbl):List Fd:=if nc t = 0 then aa4 t.rows t.attrs.length else []
def upT (l:List Row) (k:Nat):List AS:=((List.range k).map (BitVec.ofNat 32)).filter (yp l)
theorem a8w {l:List Row} {k:Nat} (h:yp l (BitVec.ofNat 32 k) = true):upT l (k + 1) = upT l k ++ [BitVec.ofNat 32 k]:=by
 unfold upT
 rw [List.range_succ,List.map_append,List.filter_append]
 simp only [List.map_cons,List.map_nil,List.filter_cons,h,if_true,List.filter_nil]
theorem a94 {l:List Row} {k:Nat} (h:yp l (BitVec.ofNat 32 k) = false):upT l (k + 1) = upT l k:=by
 unfold upT
 rw [List.range_succ,List.map_append,List.filter_append]
 simp only [List.map_cons,List.map_nil,List.filter_cons,h,Bool.false_eq_true,if_false,List.filter_nil,List.append_nil]
theorem adj (l:List Row) (k:Nat):(upT l k).length ≤ k:=Nat.le_trans (List.length_filter_le _ _) (by simp)
theorem apk {l:List Row} {n:Nat}:tw (upT l ((b7 n).toNat + 1)) = a60 l n:=rfl
end Go.Hx
end
section
namespace Go.Hx
def a6y (l:List Row) (x r:AS) (i k:Nat):Bool:=!(ue (l.getD i default) (l.getD k default) x && !ue (l.getD i default) (l.getD k default) r)
def as1 (l:List Row) (x r:AS) (i:Nat):Bool:=(List.range i).all (a6y l x r i)
theorem as2 {l:List Row} {x r:AS} (h:∀ i,i < l.length → as1 l x r i = true):ol l x r = true:=jn h
theorem atu {l:List Row} {x r:AS} {i k:Nat} (hi:i < l.length) (hk:k < i) (h:a6y l x r i k = false):ol l x r = false:=gt hi (gt hk h)
def a3t (l:List Row) (x:AS) (i k:Nat):Bool:=!ue (l.getD i default) (l.getD k default) x
def asw (l:List Row) (x:AS) (i:Nat):Bool:=(List.range i).all (a3t l x i)
theorem aq2 {l:List Row} {x:AS} (h:∀ i,i < l.length → asw l x i = true):yp l x = true:=jn h
theorem aro {l:List Row} {x:AS} {i k:Nat} (hi:i < l.length) (hk:k < i) (h:a3t l x i k = false):yp l x = false:=gt hi (gt hk h)
theorem amu {a b:Fd} (h:¬ asI a.lhs = asI b.lhs):bef a.lhs b.lhs = gl a b:=by
 have h2:¬ a.lhs = b.lhs:=fun e=>h (by rw [e])
 unfold gl
 rw [decide_eq_false h2];simp
theorem ai8 {a b:Fd} (h:asI a.lhs = asI b.lhs):decide (asI a.rhs < asI b.rhs) = gl a b:=by
 have h2:a.lhs = b.lhs:=it.1 h
 have h3:(asI a.rhs < asI b.rhs) ↔ a.rhs.toNat < b.rhs.toNat:=by unfold asI;omega
 unfold gl
 rw [decide_eq_true h2,h2,l6,Bool.false_or,Bool.true_and];exact decide_eq_decide.2 h3
theorem akl {α:Type} [Inhabited α] {s:Nat} {e:TypeId} {c:α → Nat → PV} {l:List α} {f:Nat → Nat → PV}:CoO (.arr true s e (0 + l.length) (en 0 f (lf c l))) (.arr true s e l.length (lf c l)) :=
 ⟨fun h=>h,rfl,rfl,(Nat.zero_add _).symm,fun i j _ _=>CoP.of_eq (by unfold en;rw [if_neg (Nat.not_lt_zero i)];rfl)⟩
theorem a87:∀ {l:List Fd},l.Nodup → (fy l).length = l.length:=by
 have h:∀ n (l:List Fd),l.length = n → l.Nodup → (fy l).length = l.length:=by
  intro n
  induction n with
  | zero=>intro l hl _;obtain rfl:=List.eq_nil_of_length_eq_zero hl;rfl
  | succ n ih =>
   intro l hl hn
   obtain ⟨l',x,rfl⟩:∃ l' x,l = l' ++ [x]:=by
    have hne:l ≠ []:=fun e=>by subst e;cases hl
    exact ⟨l.dropLast,l.getLast hne,(List.dropLast_concat_getLast hne).symm⟩
   obtain ⟨h1,_,h2⟩:=List.nodup_append.1 hn
   have e:fy (l' ++ [x]) = im x (fy l'):=by unfold fy;rw [List.foldl_append];rfl
   have hx:x ∉ fy l':=fun hm=>h2 x (a33.1 hm) x (by simp) rfl
   have hlen:∀ o:List Fd,x ∉ o → (im x o).length = o.length + 1:=by
    intro o
    induction o with
    | nil=>intro _;rfl
    | cons y o iho =>
     intro ho
     unfold im
     rw [if_neg (fun e=>ho (by rw [e];simp))]
     split
     · rfl
     · rw [List.length_cons,iho (fun h=>ho (by simp [h])),List.length_cons]
   rw [e,hlen _ hx,ih l' (by simpa using hl) h1]
   simp
 intro l hn
 exact h l.length l rfl hn
def yg (l:List Fd) (i:Nat):List Fd:=fy (l.take i) ++ l.drop i
def gw (l:List Fd) (i k:Nat):List Fd:=kx (fy (l.take i)) k (l.getD i default) ++ l.drop (i + 1)
theorem ake (l:List Fd):yg l 1 = l:=by
 cases l with
 | nil=>rfl
 | cons x l=>unfold yg;simp [fy,im]
theorem aji {l:List Fd} {i:Nat} (h:l.length ≤ i):yg l i = fy l:=by unfold yg;rw [List.take_of_length_le h,List.drop_eq_nil_of_le h,List.append_nil]
section
variable {l:List Fd} {i k:Nat}
theorem ny (hn:l.Nodup) (hi:i ≤ l.length):(fy (l.take i)).length = i:=by rw [a87 (hn.sublist (List.take_sublist _ _)),List.length_take];omega
theorem aky (hn:l.Nodup) (hi:i < l.length) (hk:k ≤ i):(gw l i k).length = l.length:=by
 unfold gw
 rw [List.length_append,o6 (by rw [ny hn (by omega)];exact hk),ny hn (by omega),List.length_drop];omega
theorem aey (hn:l.Nodup) (hi:i < l.length):gw l i i = yg l i:=by
 have e:kx (fy (l.take i)) i (l.getD i default) = fy (l.take i) ++ [l.getD i default]:=by
  have:=ai2 (l:=fy (l.take i)) (r:=l.getD i default)
  rwa [ny hn (by omega)] at this
 unfold gw yg
 rw [e,List.append_assoc,List.getD_eq_getElem?_getD,List.getElem?_eq_getElem hi,Option.getD_some,List.drop_eq_getElem_cons hi]
 rfl
theorem ag4 (hn:l.Nodup) (hi:i < l.length) (hk:k ≤ i):(gw l i k).getD k default = l.getD i default:=by
 have ho:=ny hn (show i ≤ l.length by omega)
 unfold gw
 rw [List.getD_eq_getElem?_getD,List.getElem?_append_left (by rw [o6 (by omega)];omega),← List.getD_eq_getElem?_getD,aoj (by omega)]
theorem a7v (hn:l.Nodup) (hi:i < l.length) (h0:0 < k) (hk:k ≤ i):(gw l i k).getD (k - 1) default = (fy (l.take i)).getD (k - 1) default:=by
 have ho:=ny hn (show i ≤ l.length by omega)
 unfold gw
 rw [List.getD_eq_getElem?_getD,List.getElem?_append_left (by rw [o6 (by omega)];omega),← List.getD_eq_getElem?_getD,aeu h0 (by omega)]
theorem ai4 (hn:l.Nodup) (hi:i < l.length) (h0:0 < k) (hk:k ≤ i):((gw l i k).set k ((fy (l.take i)).getD (k - 1) default)).set (k - 1) (l.getD i default) = gw l i (k - 1):=by
 have ho:=ny hn (show i ≤ l.length by omega)
 unfold gw
 rw [List.set_append_left _ _ (by rw [o6 (by omega)];omega),List.set_append_left _ _ (by rw [List.length_set,o6 (by omega)];omega),aft h0 (by omega)]
theorem alb (hn:l.Nodup) (hi:i < l.length) (h0:0 < k) (hk:k ≤ i) {k' m' n:Nat} (hk':k' = k) (hm':m' = k - 1) (hl:n = l.length) {e:TypeId} :
 CoO (.arr true 2 e n (gr (gr (lf Fd.c (gw l i k)) k' 0 [lf Fd.c (gw l i k) m' 0,lf Fd.c (gw l i k) m' 1]) m' 0 [lf Fd.c (gw l i k) k' 0,lf Fd.c (gw l i k) k' 1])) (.arr true 2 e n (lf Fd.c (gw l i (k - 1)))):=by
 subst hk' hm' hl
 rw [← ai4 hn hi h0 hk]
 have e1:=aky hn hi hk
 have hp:∀ j,CoP (lf Fd.c (gw l i k') (k' - 1) j) (Fd.c ((fy (l.take i)).getD (k' - 1) default) j):=fun j=>CoP.of_eq (by show Fd.c ((gw l i k').getD (k' - 1) default) j = _;rw [a7v hn hi h0 hk])
 have hq:∀ j,CoP (lf Fd.c (gw l i k') k' j) (Fd.c (l.getD i default) j):=fun j=>CoP.of_eq (by show Fd.c ((gw l i k').getD k' default) j = _;rw [ag4 hn hi hk])
 refine a5y (fun h=>h) e1.symm (by omega) (by omega) rfl rfl (fun j hj=>?_) (fun j hj=>?_)
 · rcases (by omega:j = 0 ∨ j = 1) with rfl | rfl
   · exact hp 0
   · exact hp 1
 · rcases (by omega:j = 0 ∨ j = 1) with rfl | rfl
   · exact hq 0
   · exact hq 1
theorem ahc (hn:l.Nodup) (hi:i < l.length) (h0:0 < k) (hk:k ≤ i) {k' m':Nat} {b:Bool} (h:gl ((gw l i k).getD k' default) ((gw l i k).getD m' default) = b) (hk':k' = k) (hm':m' = k - 1):gl (l.getD i default) ((fy (l.take i)).getD (k - 1) default) = b:=by
 subst hk' hm'
 rwa [ag4 hn hi hk,a7v hn hi h0 hk] at h
theorem aaq (hn:l.Nodup) (hi:i < l.length) (hk:k ≤ i) (h1:∀ j,k ≤ j → j < i → gl (l.getD i default) ((fy (l.take i)).getD j default) = true) (h2:k = 0 ∨ gl (l.getD i default) ((fy (l.take i)).getD (k - 1) default) = false):gw l i k = yg l (i + 1):=by
 have ho:=ny hn (show i ≤ l.length by omega)
 have hx:l.getD i default ∉ fy (l.take i):=fun hm=>by
  have hm:=a33.1 hm
  obtain ⟨j,hj,e⟩:=List.getElem_of_mem hm
  rw [List.length_take] at hj
  rw [List.getElem_take,List.getD_eq_getElem?_getD,List.getElem?_eq_getElem hi,Option.getD_some] at e
  have:=(List.getElem_inj hn).1 e
  omega
 unfold gw yg
 rw [acy (a8b _) hx (by omega) (fun j q1 q2=>h1 j q1 (by omega)) (h2.imp (fun z=>z) fun z=>by rw [z];decide),aik hi]
end
end Go.Hx
end
