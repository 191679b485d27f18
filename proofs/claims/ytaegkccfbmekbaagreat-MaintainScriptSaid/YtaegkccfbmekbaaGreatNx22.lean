/- A part of the proof: Ma2 Ma3 Ma4 Ma5. -/
import Derived.Test.YtaegkccfbmekbaaGreatNx21
set_option linter.all false
section
namespace Go.Hx
def gn (a b:Fd):Bool:=bef a.lhs b.lhs || (decide (a.lhs = b.lhs) && decide (a.rhs.toNat < b.rhs.toNat))
theorem um {a b:Fd}:gn a b = true ↔ bef a.lhs b.lhs = true ∨ (a.lhs = b.lhs ∧ a.rhs.toNat < b.rhs.toNat):=by simp [gn]
theorem a3l (a:Fd):gn a a = false:=by simp [gn,l6]
theorem sn {a b c:Fd} (h:gn a b = true) (k:gn b c = true):gn a c = true:=by
 rw [um] at *
 rcases h with h | ⟨h1,h2⟩ <;> rcases k with k | ⟨k1,k2⟩
 · exact .inl (lp h k)
 · exact .inl (k1 ▸ h)
 · exact .inl (h1.symm ▸ k)
 · exact .inr ⟨h1.trans k1,by omega⟩
theorem aaf {a b:Fd} (h:a ≠ b):gn a b = true ∨ gn b a = true:=by
 rw [um,um]
 by_cases e:a.lhs = b.lhs
 · have hn:a.rhs.toNat ≠ b.rhs.toNat:=fun e2=>h (Fd.eq_iff.2 ⟨e,BitVec.eq_of_toNat_eq e2⟩)
   rcases Nat.lt_or_gt_of_ne hn with h1 | h1
   · exact .inl (.inr ⟨e,h1⟩)
   · exact .inr (.inr ⟨e.symm,h1⟩)
 · rcases pf e with h1 | h1
   · exact .inl (.inl h1)
   · exact .inr (.inl h1)
theorem agp {a b:Fd} (h:gn a b = true):gn b a = false:=by
 rw [Bool.eq_false_iff]
 intro k
 have:=sn h k
 rw [a3l] at this
 cases this
def pk (l:List Fd):Prop:=l.Pairwise fun a b=>gn a b = true
theorem vu:∀ {l k:List Fd},pk l → pk k → (∀ x,x ∈ l ↔ x ∈ k) → l = k
 | [],[],_,_,_=>rfl
 | [],y :: k,_,_,h=>absurd ((h y).2 (List.mem_cons_self ..)) (by simp)
 | x :: l,[],_,_,h=>absurd ((h x).1 (List.mem_cons_self ..)) (by simp)
 | x :: l,y :: k,hl,hk,h=>by
  obtain ⟨h1,h2⟩:=List.pairwise_cons.1 hl
  obtain ⟨k1,k2⟩:=List.pairwise_cons.1 hk
  have e:x = y:=by
   rcases List.mem_cons.1 ((h x).1 (List.mem_cons_self ..)) with e | hx
   · exact e
   · rcases List.mem_cons.1 ((h y).2 (List.mem_cons_self ..)) with e | hy
     · exact e.symm
     · have:=agp (k1 x hx)
       rw [h1 y hy] at this
       cases this
  subst e
  congr 1
  refine vu h2 k2 fun z=>?_
  constructor
  · intro hz
    rcases List.mem_cons.1 ((h z).1 (List.mem_cons_of_mem _ hz)) with e | hz'
    · subst e
      have:=h1 z hz
      rw [a3l] at this
      cases this
    · exact hz'
  · intro hz
    rcases List.mem_cons.1 ((h z).2 (List.mem_cons_of_mem _ hz)) with e | hz'
    · subst e
      have:=k1 z hz
      rw [a3l] at this
      cases this
    · exact hz'
def ig (x:Fd):List Fd → List Fd
 | []=>[x]
 | y :: l=>if x = y then y :: l else if gn x y = true then x :: y :: l else y :: ig x l
theorem uy {x z:Fd}:∀ {l:List Fd},z ∈ ig x l ↔ z = x ∨ z ∈ l
 | []=>by simp [ig]
 | y :: l=>by
  unfold ig
  split
  · rename_i e
    subst e
    simp
  · split
    · simp
    · rw [List.mem_cons,uy,List.mem_cons]
      constructor
      · rintro (h | h | h) <;> simp [h]
      · rintro (h | h | h) <;> simp [h]
theorem xu {x:Fd}:∀ {l:List Fd},pk l → pk (ig x l)
 | [],_=>by simp [ig,pk]
 | y :: l,h=>by
  obtain ⟨h1,h2⟩:=List.pairwise_cons.1 h
  unfold ig
  split
  · exact h
  · split
    · rename_i hxy
      refine List.pairwise_cons.2 ⟨fun z hz=>?_,h⟩
      rcases List.mem_cons.1 hz with rfl | hz
      · exact hxy
      · exact sn hxy (h1 z hz)
    · rename_i hne hxy
      refine List.pairwise_cons.2 ⟨fun z hz=>?_,xu h2⟩
      rcases uy.1 hz with rfl | hz
      · exact (aaf hne).resolve_left hxy
      · exact h1 z hz
def fv (l:List Fd):List Fd:=l.foldl (fun o x=>ig x o) []
theorem a3h:∀ {l o:List Fd},pk o → pk (l.foldl (fun o x=>ig x o) o) ∧ ∀ z,z ∈ l.foldl (fun o x=>ig x o) o ↔ z ∈ o ∨ z ∈ l
 | [],o,h=>⟨h,fun z=>by simp⟩
 | x :: l,o,h=>by
  obtain ⟨h1,h2⟩:=a3h (l:=l) (xu (x:=x) h)
  refine ⟨h1,fun z=>?_⟩
  show z ∈ l.foldl (fun o x=>ig x o) (ig x o) ↔ _
  rw [h2 z,uy,List.mem_cons]
  constructor
  · rintro ((h | h) | h) <;> simp [h]
  · rintro (h | h | h) <;> simp [h]
theorem a8b (l:List Fd):pk (fv l):=(a3h (o:=[]) List.Pairwise.nil).1
theorem a37 {l:List Fd} {z:Fd}:z ∈ fv l ↔ z ∈ l:=by
 show z ∈ l.foldl (fun o x=>ig x o) [] ↔ _
 rw [(a3h (l:=l) (o:=[]) List.Pairwise.nil).2 z]
 simp
theorem aoz {l k:List Fd} (hk:pk k) (h:∀ z,z ∈ k ↔ z ∈ l):k = fv l:=vu hk (a8b l) fun z=>by rw [h z,a37]
def kf (l:List Fd) (k:Nat) (r:Fd):List Fd:=l.take k ++ r :: l.drop k
theorem o9 {l:List Fd} {k:Nat} {r:Fd} (h:k ≤ l.length):(kf l k r).length = l.length + 1:=by simp [kf];omega
theorem agj {l:List Fd} {r:Fd}:kf l l.length r = l ++ [r]:=by simp [kf]
theorem v7 {l:List Fd} {k i:Nat} {r:Fd} (h:k ≤ l.length):(kf l k r)[i]? = if i < k then l[i]? else if i = k then some r else l[i - 1]?:=by
 simp only [kf]
 by_cases h1:i < k
 · rw [if_pos h1,List.getElem?_append_left (by simp;omega),List.getElem?_take,if_pos h1]
 · rw [if_neg h1,List.getElem?_append_right (by simp;omega),List.length_take,Nat.min_eq_left h]
   by_cases h2:i = k
   · subst h2;simp
   · rw [if_neg h2]
     obtain ⟨d,rfl⟩:∃ d,i = k + 1 + d:=⟨i - k - 1,by omega⟩
     rw [show k + 1 + d - k = d + 1 by omega,List.getElem?_cons_succ,List.getElem?_drop]
     congr 1
     omega
theorem an4 {l:List Fd} {k:Nat} {r:Fd} (h:k ≤ l.length):(kf l k r).getD k default = r:=by
 rw [List.getD_eq_getElem?_getD,v7 h,if_neg (by omega),if_pos rfl];rfl
theorem afc {l:List Fd} {k:Nat} {r:Fd} (h0:0 < k) (h:k ≤ l.length):(kf l k r).getD (k - 1) default = l.getD (k - 1) default:=by
 rw [List.getD_eq_getElem?_getD,v7 h,if_pos (by omega),List.getD_eq_getElem?_getD]
theorem ag1 {l:List Fd} {k:Nat} {r:Fd} (h0:0 < k) (h:k ≤ l.length):((kf l k r).set k (l.getD (k - 1) default)).set (k - 1) r = kf l (k - 1) r:=by
 apply List.ext_getElem?
 intro i
 rw [v7 (by omega),List.getElem?_set,List.getElem?_set,List.length_set,o9 h,v7 h]
 by_cases h1:k - 1 = i
 · subst h1
   rw [if_pos rfl,if_pos (by omega),if_neg (by omega),if_pos rfl]
 · rw [if_neg h1]
   by_cases h2:k = i
   · subst h2
     rw [if_pos rfl,if_pos (by omega),if_neg (by omega),if_neg (by omega),List.getD,List.getElem?_eq_getElem (by omega)]
     rfl
   · rw [if_neg h2]
     by_cases h3:i < k
     · rw [if_pos h3,if_pos (by omega)]
     · rw [if_neg h3,if_neg (by omega),if_neg (by omega),if_neg (by omega)]
theorem aho {l:List Fd} {j:Nat} (h:j < l.length):l.getD j default ∈ l:=by
 rw [List.getD_eq_getElem?_getD,List.getElem?_eq_getElem h]
 exact List.getElem_mem h
theorem ad9 {l:List Fd} {k:Nat} {r:Fd} (hs:pk l) (hr:r ∉ l) (hk:k ≤ l.length) (h1:∀ j,k ≤ j → j < l.length → gn r (l.getD j default) = true) (h2:k = 0 ∨ ¬ gn r (l.getD (k - 1) default) = true):kf l k r = ig r l:=by
 refine vu ?_ (xu hs) fun z=>?_
 · unfold pk kf
   rw [List.pairwise_append]
   refine ⟨hs.sublist (List.take_sublist _ _),List.pairwise_cons.2 ⟨fun z hz=>?_,hs.sublist (List.drop_sublist _ _)⟩,fun y hy z hz=>?_⟩
   · obtain ⟨j,hj,rfl⟩:=List.getElem_of_mem hz
     rw [List.length_drop] at hj
     have:=h1 (k + j) (by omega) (by omega)
     rwa [List.getD_eq_getElem?_getD,List.getElem?_eq_getElem (by omega),Option.getD_some,← List.getElem_drop] at this
   · have hyr:gn y r = true:=by
      obtain ⟨j,hj,rfl⟩:=List.getElem_of_mem hy
      rw [List.length_take] at hj
      rcases h2 with h2 | h2
      · omega
      · have hk1:k - 1 < l.length:=by omega
        have hlast:gn (l.getD (k - 1) default) r = true:=by
         rcases aaf (a:=r) (b:=l.getD (k - 1) default) (fun e=>hr (e ▸ aho hk1)) with h | h
         · exact absurd h h2
         · exact h
        rw [List.getElem_take]
        by_cases hjk:j = k - 1
        · subst hjk
          rwa [List.getD_eq_getElem?_getD,List.getElem?_eq_getElem hk1,Option.getD_some] at hlast
        · refine sn ?_ hlast
          rw [List.getD_eq_getElem?_getD,List.getElem?_eq_getElem hk1,Option.getD_some]
          exact List.pairwise_iff_getElem.1 hs j (k - 1) (by omega) hk1 (by omega)
     rcases List.mem_cons.1 hz with rfl | hz
     · exact hyr
     · have h3:gn r z = true:=by
        obtain ⟨j,hj,rfl⟩:=List.getElem_of_mem hz
        rw [List.length_drop] at hj
        have:=h1 (k + j) (by omega) (by omega)
        rwa [List.getD_eq_getElem?_getD,List.getElem?_eq_getElem (by omega),Option.getD_some,← List.getElem_drop] at this
       exact sn hyr h3
 · rw [uy]
   unfold kf
   rw [List.mem_append,List.mem_cons]
   constructor
   · rintro (h | h | h)
     · exact .inr (List.mem_of_mem_take h)
     · exact .inl h
     · exact .inr (List.mem_of_mem_drop h)
   · rintro (h | h)
     · exact .inr (.inl h)
     · rw [← List.take_append_drop k l,List.mem_append] at h
       rcases h with h | h
       · exact .inl h
       · exact .inr (.inr h)
theorem air {l:List Fd} {i:Nat} (hi:i < l.length):fv (l.take (i + 1)) = ig (l.getD i default) (fv (l.take i)):=by
 unfold fv
 rw [c7 hi,List.foldl_append]
 rfl
end Go.Hx
end
section
namespace Go.Hx
set_option maxRecDepth 100000
def mb (K:List AS) (all x:AS):AS:=K.foldl (fun c k=>if sub x k then c &&& k else c) all
theorem te:∀ {K:List AS} {all x:AS} {a:Nat},(mb K all x).getLsbD a = true ↔ all.getLsbD a = true ∧ ∀ k ∈ K,sub x k → k.getLsbD a = true
 | [],all,x,a=>by simp [mb]
 | k :: K,all,x,a=>by
  show (mb K (if sub x k then all &&& k else all) x).getLsbD a = true ↔ _
  rw [te]
  by_cases h:sub x k
  · rw [if_pos h,BitVec.getLsbD_and,Bool.and_eq_true]
    constructor
    · rintro ⟨⟨h1,h2⟩,h3⟩
      refine ⟨h1,fun y hy hs=>?_⟩
      rcases List.mem_cons.1 hy with rfl | hy
      · exact h2
      · exact h3 y hy hs
    · rintro ⟨h1,h2⟩
      exact ⟨⟨h1,h2 k (by simp) h⟩,fun y hy hs=>h2 y (by simp [hy]) hs⟩
  · rw [if_neg h]
    constructor
    · rintro ⟨h1,h3⟩
      refine ⟨h1,fun y hy hs=>?_⟩
      rcases List.mem_cons.1 hy with rfl | hy
      · exact absurd hs h
      · exact h3 y hy hs
    · rintro ⟨h1,h2⟩
      exact ⟨h1,fun y hy hs=>h2 y (by simp [hy]) hs⟩
theorem ajx {a b:AS} (h:∀ i,a.getLsbD i = true ↔ b.getLsbD i = true):a = b:=by
 apply BitVec.eq_of_getLsbD_eq
 intro i hi
 rw [Bool.eq_iff_iff];exact h i
theorem aly {K K':List AS} (h:∀ k,k ∈ K ↔ k ∈ K') (all x:AS):mb K all x = mb K' all x:=ajx fun i=>by
 rw [te,te]
 exact and_congr Iff.rfl ⟨fun q k hk=>q k ((h k).2 hk),fun q k hk=>q k ((h k).1 hk)⟩
theorem a7o (K:List AS) (all x k:AS):mb (K ++ [k]) all x = if sub x k then mb K all x &&& k else mb K all x:=by
 unfold mb;rw [List.foldl_append];rfl
theorem acr {L:List AS} (ho:j1 L) (hc:∀ x ∈ L,∀ y,sub y x → y ∈ L) (k:Nat):∀ x ∈ L.take k,∀ y,sub y x → y ∈ L.take k:=fun x hx y hy=>by
 by_cases e:y = x
 · subst e;exact hx
 · obtain ⟨i,hi,rfl⟩:=List.getElem_of_mem hx
   rw [List.length_take] at hi
   rw [List.getElem_take] at hy e
   have hy2:=hc _ (List.getElem_mem (by omega)) y hy
   obtain ⟨j,hj,rfl⟩:=List.getElem_of_mem hy2
   have hb:=adz hy e
   have hji:j < i:=by
    apply Nat.lt_of_not_le
    intro hle
    rcases Nat.lt_or_eq_of_le hle with h | h
    · have:=List.pairwise_iff_getElem.1 ho i j (by omega) hj h
      rw [a3j this] at hb;cases hb
    · subst h;exact e rfl
   rw [List.mem_iff_getElem]
   exact ⟨j,by rw [List.length_take];omega,by rw [List.getElem_take]⟩
theorem a8u {p:AS → Bool} {L:List AS} (ho:j1 L) (hc:∀ x ∈ L,∀ y,sub y x → y ∈ L) {i:Nat} (hi:i < L.length) :
 (p (L.getD i default) && !((gi p (L.take i)).any fun y=>decide (sub y (L.getD i default)))) = true ↔ L.getD i default ∈ gi p L:=by
 have hx:L.getD i default ∈ L:=abh hi
 have hxt:L.getD i default ∈ L.take (i + 1):=by rw [c7 hi];simp
 have h1:L.getD i default ∈ gi p (L.take (i + 1)) ↔ L.getD i default ∈ gi p L:=by
  rw [oh p _ (ho.sublist (List.take_sublist _ _)) (acr ho hc _),oh p L ho hc]
  exact and_congr ⟨fun _=>hx,fun _=>hxt⟩ Iff.rfl
 rw [← h1,c7 hi,md]
 have hno:L.getD i default ∉ gi p (L.take i):=fun h=>by
  have h2:=(mh p (L.take i)).subset h
  obtain ⟨j,hj,e⟩:=List.getElem_of_mem h2
  rw [List.length_take] at hj
  rw [List.getElem_take] at e
  have:=List.pairwise_iff_getElem.1 ho j i (by omega) hi (by omega)
  rw [e,List.getD_eq_getElem?_getD,List.getElem?_eq_getElem hi,Option.getD_some,l6] at this
  cases this
 unfold mr
 constructor
 · intro h;rw [if_pos h];simp
 · intro h
   apply Classical.byContradiction
   intro hn
   rw [if_neg hn] at h
   exact hno h
theorem a43 {p:AS → Bool} {s x:AS} (hx:sub x s) (hp:p x = true):∃ y,sub y x ∧ y ∈ gi p (ll s):=by
 have:∀ k (x:AS),x.toNat ≤ k → sub x s → p x = true → ∃ y,sub y x ∧ y ∈ gi p (ll s):=by
  have hsp:=oh p (ll s) (ey _) (fun x hx y hy=>fy.2 (ka hy (fy.1 hx)))
  intro k
  induction k with
  | zero =>
   intro x hk hx hp
   refine ⟨x,pt x,(hsp x).2 ⟨fy.2 hx,hp,fun w hw _=>?_⟩⟩
   apply Classical.byContradiction
   intro hne
   have h2:=zj hw hne
   omega
  | succ k ihk =>
   intro y hk hy hp
   by_cases hm:∀ w,sub w y → p w = true → w = y
   · exact ⟨y,pt y,(hsp y).2 ⟨fy.2 hy,hp,hm⟩⟩
   · obtain ⟨w,hw⟩:=Classical.not_forall.1 hm
     obtain ⟨hw1,hw⟩:=Classical.not_imp.1 hw
     obtain ⟨hw2,hw3⟩:=Classical.not_imp.1 hw
     have h2:=zj hw1 hw3
     obtain ⟨y',h1,h3⟩:=ihk w (by omega) (ka hw1 hy) hw2
     exact ⟨y',ka h1 hw1,h3⟩
 exact this x.toNat x (Nat.le_refl _) hx hp
theorem aa8 {n:Nat} (h:n ≤ 8):bsz (b9 n) ≤ 8:=by
 rcases (by omega:n = 0 ∨ n = 1 ∨ n = 2 ∨ n = 3 ∨ n = 4 ∨ n = 5 ∨ n = 6 ∨ n = 7 ∨ n = 8) with rfl | rfl | rfl | rfl | rfl | rfl | rfl | rfl | rfl <;> decide +kernel
abbrev cu (n:Nat):List AS:=d9 (b9 n)
theorem mg {n:Nat} (h:n ≤ 8):cu n = ll (b9 n):=a13 (by have:=aa8 h;omega)
theorem va {n:Nat} (h:n ≤ 8):j1 (cu n):=by rw [mg h];exact ey _
theorem yt {n:Nat} (h:n ≤ 8):∀ x ∈ cu n,∀ y,sub y x → y ∈ cu n:=by
 rw [mg h]
 exact fun x hx y hy=>fy.2 (ka hy (fy.1 hx))
def atA (ps:List AS) (n a:Nat) (x:AS):Bool:=(mb ps (b9 n) x).getLsbD a && !x.getLsbD a
def dl (ps:List AS) (n a k:Nat):List AS:=gi (atA ps n a) ((cu n).take k)
def nwB (ps:List AS) (n i a:Nat):Bool:=atA ps n a ((cu n).getD i default) && !((dl ps n a i).any fun y=>decide (sub y ((cu n).getD i default)))
theorem a4w {ps:List AS} {n i a:Nat} (hi:i < (cu n).length) (h:nwB ps n i a = true):dl ps n a (i + 1) = dl ps n a i ++ [(cu n).getD i default]:=by
 unfold dl
 rw [c7 hi,md]
 unfold mr
 exact if_pos h
theorem a4r {ps:List AS} {n i a:Nat} (hi:i < (cu n).length) (h:nwB ps n i a = false):dl ps n a (i + 1) = dl ps n a i:=by
 unfold dl
 rw [c7 hi,md]
 unfold mr
 exact if_neg (by intro h2;rw [nwB,dl,h2] at h;cases h)
theorem ajo (ps:List AS) (n a k:Nat):(dl ps n a k).length ≤ k:=Nat.le_trans (mh _ _).length_le (by rw [List.length_take];omega)
def om (ps:List AS) (n i a:Nat):List Fd:=((List.range a).filter (nwB ps n i)).map fun a=>⟨(cu n).getD i default,(1:AS) <<< a⟩
def jl (ps:List AS) (n i a:Nat):List Fd:=((List.range i).map fun j=>om ps n j n).flatten ++ om ps n i a
theorem qr {ps:List AS} {n i a:Nat} (h:nwB ps n i a = true):jl ps n i (a + 1) = jl ps n i a ++ [⟨(cu n).getD i default,(1:AS) <<< a⟩]:=by
 unfold jl om
 rw [List.range_succ,List.filter_append,List.append_assoc]
 simp only [List.filter_cons,h,if_true,List.filter_nil,List.map_append,List.map_cons,List.map_nil]
theorem qt {ps:List AS} {n i a:Nat} (h:nwB ps n i a = false):jl ps n i (a + 1) = jl ps n i a:=by
 unfold jl om
 rw [List.range_succ,List.filter_append]
 simp only [List.filter_cons,h,Bool.false_eq_true,if_false,List.filter_nil,List.append_nil]
theorem a85 (ps:List AS) (n i:Nat):jl ps n i n = jl ps n (i + 1) 0:=by
 unfold jl
 rw [List.range_succ (n:=i),List.map_append,List.flatten_append]
 simp [om]
theorem ac6 (ps:List AS) (n i a:Nat):(om ps n i a).length ≤ a:=by
 unfold om
 rw [List.length_map]
 exact Nat.le_trans (List.length_filter_le _ _) (by simp)
theorem acd (ps:List AS) (n i a:Nat):(jl ps n i a).length ≤ i * n + a:=by
 unfold jl
 rw [List.length_append]
 have h:(((List.range i).map fun j=>om ps n j n).flatten).length ≤ i * n:=by
  induction i with
  | zero=>simp
  | succ i ih =>
   rw [List.range_succ,List.map_append,List.flatten_append,List.length_append]
   have:=ac6 ps n i n
   simp only [List.map_cons,List.map_nil,List.flatten_cons,List.flatten_nil,List.append_nil]
   rw [Nat.add_mul];omega
 have:=ac6 ps n i a
 omega
def a3c (ps:List AS) (n:Nat):List Fd:=jl ps n (cu n).length 0
theorem aet {ps:List AS} {n i a:Nat} (h8:n ≤ 8) (hi:i < (cu n).length):nwB ps n i a = true ↔ (cu n).getD i default ∈ gi (atA ps n a) (cu n):=a8u (va h8) (yt h8) hi
theorem a3e {ps:List AS} {n:Nat} (h8:n ≤ 8) {z:Fd}:z ∈ a3c ps n ↔ ∃ a,a < n ∧ z.rhs = (1:AS) <<< a ∧ z.lhs ∈ gi (atA ps n a) (cu n):=by
 unfold a3c jl
 rw [List.mem_append,List.mem_flatten]
 have e0:om ps n (cu n).length 0 = []:=rfl
 rw [e0]
 simp only [List.mem_map,List.mem_range,List.not_mem_nil,or_false]
 constructor
 · rintro ⟨_,⟨i,hi,rfl⟩,hz⟩
   unfold om at hz
   obtain ⟨a,ha,rfl⟩:=List.mem_map.1 hz
   obtain ⟨h1,h2⟩:=List.mem_filter.1 ha
   exact ⟨a,List.mem_range.1 h1,rfl,(aet h8 hi).1 h2⟩
 · rintro ⟨a,ha,h1,h2⟩
   obtain ⟨i,hi,e⟩:=List.getElem_of_mem ((mh _ _).subset h2)
   have e2:(cu n).getD i default = z.lhs:=by rw [List.getD_eq_getElem?_getD,List.getElem?_eq_getElem hi,Option.getD_some,e]
   refine ⟨_,⟨i,hi,rfl⟩, ?_⟩
   unfold om
   refine List.mem_map.2 ⟨a,List.mem_filter.2 ⟨List.mem_range.2 ha,(aet h8 hi).2 (by rw [e2];exact h2)⟩, ?_⟩
   rw [e2,← h1]
theorem ahv {a b:Nat} (h:a < b) (hb:b < 32):((1:AS) <<< a).toNat < ((1:AS) <<< b).toNat:=by
 rw [BitVec.toNat_shiftLeft,BitVec.toNat_shiftLeft,Nat.shiftLeft_eq,Nat.shiftLeft_eq]
 have e:(1:AS).toNat = 1:=rfl
 rw [e,Nat.one_mul,Nat.one_mul]
 have h1:2 ^ a < 2 ^ b:=Nat.pow_lt_pow_right (by omega) h
 have h2:2 ^ b < 2 ^ 32:=Nat.pow_lt_pow_right (by omega) hb
 rw [Nat.mod_eq_of_lt h2,Nat.mod_eq_of_lt (Nat.lt_trans h1 h2)]
 exact h1
theorem ajq {ps:List AS} {n:Nat} (h8:n ≤ 8):pk (a3c ps n):=by
 unfold a3c jl
 have e0:om ps n (cu n).length 0 = []:=rfl
 rw [e0,List.append_nil]
 unfold pk
 rw [List.pairwise_flatten]
 refine ⟨fun l hl=>?_, ?_⟩
 · obtain ⟨i,hi,rfl⟩:=List.mem_map.1 hl
   unfold om
   rw [List.pairwise_map]
   refine ((List.pairwise_lt_range (n:=n)).sublist (List.filter_sublist)).imp_of_mem fun {a b} ha hb h=>?_
   have hb2:=List.mem_range.1 (List.mem_filter.1 hb).1
   exact um.2 (.inr ⟨rfl,ahv h (by omega)⟩)
 · rw [List.pairwise_map]
   refine (List.pairwise_lt_range (n:=(cu n).length)).imp_of_mem fun {i j} hi hj h x hx y hy=>?_
   have hi:=List.mem_range.1 hi
   have hj:=List.mem_range.1 hj
   unfold om at hx hy
   obtain ⟨a,_,rfl⟩:=List.mem_map.1 hx
   obtain ⟨b,_,rfl⟩:=List.mem_map.1 hy
   refine um.2 (.inl ?_)
   have:=List.pairwise_iff_getElem.1 (va h8) i j hi hj h
   simpa [List.getD,hi,hj] using this
def pK (ps:List AS) (x:AS):Bool:=ps.all fun k=>!decide (sub x k)
def jk (ps:List AS) (n:Nat):List AS:=gi (pK ps) (cu n)
theorem a5c {ps:List AS} {x:AS}:pK ps x = true ↔ ∀ k ∈ ps,¬ sub x k:=by
 unfold pK
 rw [List.all_eq_true]
 exact forall_congr' fun k=>by simp
theorem aqq {K K':List AS} (h:∀ k,k ∈ K ↔ k ∈ K') (x:AS):pK K x = pK K' x:=by
 rw [Bool.eq_iff_iff,a5c,a5c]
 exact ⟨fun q k hk=>q k ((h k).2 hk),fun q k hk=>q k ((h k).1 hk)⟩
def a3d (l:List Val) (s:AS):List Val:=((List.range l.length).filter fun (i:Nat)=>qe s i).map fun i=>l.getD i default
def tw (a b:Row) (s:AS):Bool:=decide (a3d a.vals s = a3d b.vals s)
theorem pe {a b:Row} {s:AS} {n:Nat} (ha:a.vals.length = n) (hb:b.vals.length = n) (hn:n ≤ 16) (hs:sub s (b9 n)):tw a b s = true ↔ sub s (agR a b):=by
 unfold tw a3d
 rw [decide_eq_true_iff,ha,hb,List.map_inj_left,er]
 have hf:b9 n = kn n:=by unfold b9;rw [Int.toNat_natCast,Nat.min_eq_left (by omega)]
 rw [hf] at hs
 constructor
 · intro h k hk hb2
   have hkn:=er.1 hs k hk hb2
   rw [oe n k hk,decide_eq_true_iff] at hkn
   rw [a1o hk,ha,decide_eq_true hkn,Bool.true_and,decide_eq_true_iff]
   exact h k (List.mem_filter.2 ⟨List.mem_range.2 hkn,by rw [uj hk];exact hb2⟩)
 · intro h k hk
   obtain ⟨h1,h2⟩:=List.mem_filter.1 hk
   have h1:=List.mem_range.1 h1
   rw [uj (by omega)] at h2
   have:=h k (by omega) h2
   rw [a1o (by omega),Bool.and_eq_true] at this
   exact of_decide_eq_true this.2
def ol (l:List Row) (x r:AS):Bool:=(List.range l.length).all fun i=>(List.range i).all fun k=>!(tw (l.getD i default) (l.getD k default) x && !tw (l.getD i default) (l.getD k default) r)
def y4 (l:List Row) (x:AS):Bool:=(List.range l.length).all fun i=>(List.range i).all fun k=>!tw (l.getD i default) (l.getD k default) x
theorem rh {n:Nat} {l:List Row} (h:Wid n l) {i:Nat} (hi:i < l.length):(l.getD i default).vals.length = n:=by
 rw [List.getD_eq_getElem?_getD,List.getElem?_eq_getElem hi,Option.getD_some]
 exact h _ (List.getElem_mem hi)
theorem aaz {n a:Nat} (ha:a < n) (hn:n ≤ 16):sub ((1:AS) <<< a) (b9 n):=by
 have hf:b9 n = kn n:=by unfold b9;rw [Int.toNat_natCast,Nat.min_eq_left (by omega)]
 rw [hf,er]
 intro k hk h
 rw [l3 a k hk,decide_eq_true_iff] at h
 rw [oe n k hk,decide_eq_true_iff];omega
theorem a6v {a:Nat} {p:AS} (ha:a < 32):sub ((1:AS) <<< a) p ↔ p.getLsbD a = true:=by
 rw [er]
 constructor
 · intro h;exact h a ha (by rw [l3 a a ha];simp)
 · intro h k hk hb
   rw [l3 a k hk,decide_eq_true_iff] at hb
   subst hb;exact h
theorem aai {l:List Row} {n a:Nat} {x:AS} (hw:Wid n l) (hn:n ≤ 16) (hx:sub x (b9 n)) (ha:a < n):ol l x ((1:AS) <<< a) = true ↔ ∀ p ∈ prs l,sub x p → p.getLsbD a = true:=by
 unfold ol
 rw [List.all_eq_true]
 constructor
 · intro h p hp hs
   obtain ⟨i,k,hik,hk,rfl⟩:=wz.1 hp
   have h1:=List.all_eq_true.1 (h k (List.mem_range.2 hk)) i (List.mem_range.2 hik)
   have wi:=rh hw (show i < l.length by omega)
   have wk:=rh hw hk
   rw [pa (by rw [wi,wk])] at hs ⊢
   rw [(pe wk wi hn hx).2 hs,Bool.true_and,Bool.not_not,pe wk wi hn (aaz ha hn)] at h1
   exact (a6v (by omega)).1 h1
 · intro h k hk
   rw [List.all_eq_true]
   intro i hi
   have hk:=List.mem_range.1 hk
   have hi:=List.mem_range.1 hi
   have wi:=rh hw (show i < l.length by omega)
   have wk:=rh hw hk
   cases h1:tw (l.getD k default) (l.getD i default) x with
   | false=>rfl
   | true =>
    have h2:=(pe wk wi hn hx).1 h1
    rw [pa (by rw [wi,wk])] at h2
    have h3:=h _ (wz.2 ⟨i,k,hi,hk,rfl⟩) h2
    rw [pa (by rw [wi,wk])] at h3
    rw [(pe wk wi hn (aaz ha hn)).2 ((a6v (by omega)).2 h3)]
    rfl
theorem a9l {l:List Row} {n:Nat} {x:AS} (hw:Wid n l) (hn:n ≤ 16) (hx:sub x (b9 n)):y4 l x = true ↔ ∀ p ∈ prs l,¬ sub x p:=by
 unfold y4
 rw [List.all_eq_true]
 constructor
 · intro h p hp hs
   obtain ⟨i,k,hik,hk,rfl⟩:=wz.1 hp
   have h1:=List.all_eq_true.1 (h k (List.mem_range.2 hk)) i (List.mem_range.2 hik)
   have wi:=rh hw (show i < l.length by omega)
   have wk:=rh hw hk
   rw [pa (by rw [wi,wk])] at hs
   rw [(pe wk wi hn hx).2 hs] at h1
   cases h1
 · intro h k hk
   rw [List.all_eq_true]
   intro i hi
   have hk:=List.mem_range.1 hk
   have hi:=List.mem_range.1 hi
   have wi:=rh hw (show i < l.length by omega)
   have wk:=rh hw hk
   cases h1:tw (l.getD k default) (l.getD i default) x with
   | false=>rfl
   | true =>
    have h2:=(pe wk wi hn hx).1 h1
    rw [pa (by rw [wi,wk])] at h2
    exact absurd h2 (h _ (wz.2 ⟨i,k,hi,hk,rfl⟩))
def p8 (l:List Row) (n a:Nat):List AS:=ug ((d9 (b9 n &&& ~~~((1:AS) <<< a))).filter fun x=>ol l x ((1:AS) <<< a))
def a9m (l:List Row) (n:Nat):List Fd:=fv (((List.range n).map fun a=>(p8 l n a).map fun x=>(⟨x,(1:AS) <<< a⟩:Fd)).flatten)
theorem aax {n a:Nat} {z:AS} (ha:a < 32):sub z (b9 n &&& ~~~((1:AS) <<< a)) ↔ sub z (b9 n) ∧ z.getLsbD a = false:=by
 rw [er,er]
 constructor
 · intro h
   refine ⟨fun k hk hz=>?_, ?_⟩
   · have:=h k hk hz
     rw [BitVec.getLsbD_and,Bool.and_eq_true] at this
     exact this.1
   · rw [Bool.eq_false_iff]
     intro hz
     have:=h a ha hz
     rw [BitVec.getLsbD_and,BitVec.getLsbD_not,l3 a a ha] at this
     simp at this
 · rintro ⟨h1,h2⟩ k hk hz
   rw [BitVec.getLsbD_and,h1 k hk hz,BitVec.getLsbD_not,l3 a k hk]
   by_cases e:k = a
   · subst e;rw [h2] at hz;cases hz
   · simp [hk,e]
theorem al3 {n a:Nat} (ha:a < n) (hn:n ≤ 16):(b9 n).getLsbD a = true:=(a6v (by omega)).1 (aaz ha hn)
theorem aes {l:List Row} {n a:Nat} (hw:Wid n l) (hn:n ≤ 8) (ha:a < n):p8 l n a = gi (atA (prs l) n a) (cu n):=by
 unfold p8
 rw [mg hn]
 symm
 refine a8c fun z=>?_
 rw [List.mem_filter]
 have hm:z ∈ d9 (b9 n &&& ~~~((1:AS) <<< a)) ↔ sub z (b9 n &&& ~~~((1:AS) <<< a)):=by
  rw [a13 (by
   have h1:=aa8 hn
   have h2:=a6s (z:=b9 n &&& ~~~((1:AS) <<< a)) (s:=b9 n) ((aax (n:=n) (a:=a) (by omega)).1 (pt _)).1
   omega)]
  exact fy
 rw [hm,aax (by omega)]
 unfold atA
 rw [Bool.and_eq_true,Bool.not_eq_true',te]
 constructor
 · rintro ⟨⟨h1,h2⟩,h3⟩
   exact ⟨h1,⟨al3 ha (by omega),(aai hw (by omega) h1 ha).1 h3⟩,h2⟩
 · rintro ⟨h1,⟨_,h3⟩,h2⟩
   exact ⟨⟨h1,h2⟩,(aai hw (by omega) h1 ha).2 h3⟩
theorem ail {l:List Row} {n:Nat} (hw:Wid n l) (hn:n ≤ 8):a3c (prs l) n = a9m l n:=by
 refine aoz (ajq hn) fun z=>?_
 rw [a3e hn,List.mem_flatten]
 simp only [List.mem_map,List.mem_range]
 constructor
 · rintro ⟨a,ha,h1,h2⟩
   rw [← aes hw hn ha] at h2
   exact ⟨_,⟨a,ha,rfl⟩,List.mem_map.2 ⟨z.lhs,h2,Fd.eq_iff.2 ⟨rfl,h1.symm⟩⟩⟩
 · rintro ⟨_,⟨a,ha,rfl⟩,hz⟩
   obtain ⟨x,hx,rfl⟩:=List.mem_map.1 hz
   rw [aes hw hn ha] at hx
   exact ⟨a,ha,rfl,hx⟩
def upS (n:Nat):List AS:=(List.range ((b9 n).toNat + 1)).map (BitVec.ofNat 32)
def a7k (l:List Row) (n:Nat):List AS:=ug ((upS n).filter (y4 l))
theorem ab1 {n:Nat} (h:n ≤ 16):(b9 n).toNat + 1 = 2 ^ n:=by
 rcases (by omega:n = 0 ∨ n = 1 ∨ n = 2 ∨ n = 3 ∨ n = 4 ∨ n = 5 ∨ n = 6 ∨ n = 7 ∨ n = 8 ∨ n = 9 ∨ n = 10 ∨ n = 11 ∨ n = 12 ∨ n = 13 ∨ n = 14 ∨ n = 15 ∨ n = 16) with rfl | rfl | rfl | rfl | rfl | rfl | rfl | rfl | rfl | rfl | rfl | rfl | rfl | rfl | rfl | rfl | rfl <;> decide +kernel
theorem ank {n:Nat} (h:n ≤ 16) {z:AS}:z ∈ upS n ↔ sub z (b9 n):=by
 have hf:b9 n = kn n:=by unfold b9;rw [Int.toNat_natCast,Nat.min_eq_left (by omega)]
 unfold upS
 rw [List.mem_map,ab1 h]
 constructor
 · rintro ⟨k,hk,rfl⟩
   have hk:=List.mem_range.1 hk
   rw [hf,a57 (by omega)]
   apply BitVec.eq_of_toNat_eq
   rw [BitVec.toNat_ushiftRight,BitVec.toNat_ofNat,Nat.shiftRight_eq_div_pow]
   have:k % 2 ^ 32 ≤ k:=Nat.mod_le _ _
   exact Nat.div_eq_of_lt (by omega)
 · intro hz
   refine ⟨z.toNat,List.mem_range.2 ?_,by simp⟩
   rw [hf,a57 (by omega)] at hz
   have:=congrArg BitVec.toNat hz
   rw [BitVec.toNat_ushiftRight,Nat.shiftRight_eq_div_pow] at this
   have h0:(0:AS).toNat = 0:=rfl
   rw [h0] at this
   exact Nat.lt_of_div_eq_zero (Nat.two_pow_pos n) this
theorem ahs {l:List Row} {n:Nat} (hw:Wid n l) (hn:n ≤ 8):jk (prs l) n = a7k l n:=by
 unfold jk a7k
 rw [mg hn]
 refine a8c fun z=>?_
 rw [List.mem_filter,ank (by omega),a5c]
 constructor
 · rintro ⟨h1,h2⟩;exact ⟨h1,(a9l hw (by omega) h1).1 h2⟩
 · rintro ⟨h1,h2⟩;exact ⟨h1,(a9l hw (by omega) h1).2 h2⟩
end Go.Hx
end
section
namespace Go.Hx
structure Cnt where
 set:AS
 num:Int
instance:Inhabited Cnt:=⟨⟨0,0⟩⟩
theorem Cnt.eq_iff {a b:Cnt}:a = b ↔ a.set = b.set ∧ a.num = b.num:=by cases a;cases b;simp
instance:DecidableEq Cnt:=fun a b=>decidable_of_iff _ (Cnt.eq_iff (a:=a) (b:=b)).symm
def Cnt.c (x:Cnt):Nat → PV
 | 0=>asC x.set
 | 1=>.raw (.int .i64 x.num)
 | _=>.any
abbrev aa9 (l:List Cnt):PV:=psl 2 Cnt.c l
abbrev Cnt.pc (x:Cnt):PC:=.agg [x.c 0,x.c 1]
def qp (t:Tbl):Int:=if c5 t ≠ 0 then c5 t else if 200 < t.rows.length then 3 else 0
def nj (t:Tbl):Int:=if c5 t ≠ 0 then c5 t else if 10 < t.attrs.length ∨ 200 < t.rows.length then 3 else 0
theorem akd {t:Tbl} (h:qp t = 0):TOk t ∧ t.rows.length ≤ 200:=by
 unfold qp at h
 split at h
 · rename_i h1;exact absurd h h1
 · rename_i h1
   split at h
   · cases h
   · exact ⟨dv.1 (by simpa using h1),by omega⟩
theorem abw {t:Tbl} (h:nj t = 0):TOk t ∧ t.rows.length ≤ 200 ∧ t.attrs.length ≤ 10:=by
 unfold nj at h
 split at h
 · rename_i h1;exact absurd h h1
 · rename_i h1
   split at h
   · cases h
   · exact ⟨dv.1 (by simpa using h1),by omega,by omega⟩
theorem TOk.wid {t:Tbl} (h:TOk t):Wid t.attrs.length t.rows:=fun x hx=>(gv h.rs x hx).2.1
theorem TOk.rows {t:Tbl} (h:TOk t):jx t.rows:=h.ok.2.2
theorem xo {a b:Row} {i:Nat} (h:kj (a.vals.getD i default) (b.vals.getD i default) = 0):fl .or .u32 (asI (agT a b i)) (IntKind.wrap .u32 (1 * 2 ^ (min i 32))) = asI (agT a b (i + 1)):=by
 rw [aug h,show IntKind.wrap .u32 (1 * 2 ^ (min i 32)) = asI ((1:AS) <<< i) from vk 1 i,bOr]
def tv (ps:List AS) (s:AS) (k:Nat):Nat:=(ps.take k).count s
theorem arx {ps:List AS} {s:AS} {k:Nat} (hk:k < ps.length) (h:ps.getD k default = s):tv ps s (k + 1) = tv ps s k + 1:=by
 unfold tv
 rw [c7 hk,List.count_append,h]
 simp
theorem aq8 {ps:List AS} {s:AS} {k:Nat} (hk:k < ps.length) (h:¬ ps.getD k default = s):tv ps s (k + 1) = tv ps s k:=by
 unfold tv
 rw [c7 hk,List.count_append,List.count_cons]
 have:(ps.getD k default == s) = false:=by rw [Bool.eq_false_iff];intro e;exact h (beq_iff_eq.1 e)
 rw [this]
 simp
theorem aps (ps:List AS) (s:AS) (k:Nat):tv ps s k ≤ k:=by
 unfold tv
 have h1:=List.count_le_length (a:=s) (l:=ps.take k)
 rw [List.length_take] at h1
 omega
theorem akp {l:List Row} (s:AS):(tv (prs l) s (prs l).length:Int) = d8 l s:=by unfold tv d8;rw [List.take_length]
def afs (l:List Row) (s:AS):Cnt:=⟨s,d8 l s⟩
def mn (l:List Row):List Cnt:=(ord (prs l)).map (afs l)
def a4k (t:Tbl):List Cnt:=if qp t = 0 then mn t.rows else []
def qk (l:List Row) (i:Nat):List Cnt:=((ord (prs l)).take i).map (afs l)
theorem a4i {l:List Row} {i:Nat} (hi:i < (ord (prs l)).length):qk l (i + 1) = qk l i ++ [afs l ((ord (prs l)).getD i default)]:=by
 unfold qk;rw [c7 hi,List.map_append];rfl
theorem ah8 (l:List Row) (i:Nat):(qk l i).length ≤ i:=by unfold qk;rw [List.length_map,List.length_take];omega
theorem aic {l:List Row} {i:Nat} (hi:(ord (prs l)).length ≤ i):qk l i = mn l:=by unfold qk mn;rw [List.take_of_length_le hi]
def tq (l:List Val) (s:AS) (i:Nat):List Val:=((List.range i).filter fun (k:Nat)=>qe s k).map fun k=>l.getD k default
theorem a5x {l:List Val} {s:AS} {i:Nat} (h:qe s i = true):tq l s (i + 1) = tq l s i ++ [l.getD i default]:=by
 unfold tq
 rw [List.range_succ,List.filter_append]
 simp only [List.filter_cons,h,if_true,List.filter_nil,List.map_append,List.map_cons,List.map_nil]
theorem a4b {l:List Val} {s:AS} {i:Nat} (h:qe s i = false):tq l s (i + 1) = tq l s i:=by
 unfold tq
 rw [List.range_succ,List.filter_append]
 simp only [List.filter_cons,h,Bool.false_eq_true,if_false,List.filter_nil,List.append_nil]
theorem akq (l:List Val) (s:AS) (i:Nat):(tq l s i).length ≤ i:=by
 unfold tq
 rw [List.length_map]
 exact Nat.le_trans (List.length_filter_le _ _) (by simp)
theorem aih {l:List Val} {s:AS} (h:qz l):qz (a3d l s):=fun j hj=>by
 have hm:(a3d l s).getD j default ∈ a3d l s:=by
  rw [List.getD_eq_getElem?_getD,List.getElem?_eq_getElem hj,Option.getD_some];exact List.getElem_mem hj
 obtain ⟨k,hk,e⟩:=List.mem_map.1 hm
 rw [← e]
 exact h k (List.mem_range.1 (List.mem_filter.1 hk).1)
def s5 (p:AS → Bool) (l:List AS) (i:Nat):List AS:=(l.take i).filter p
theorem a5w {p:AS → Bool} {l:List AS} {i:Nat} (hi:i < l.length) (h:p (l.getD i default) = true):s5 p l (i + 1) = s5 p l i ++ [l.getD i default]:=by
 unfold s5
 rw [c7 hi,List.filter_append]
 simp only [List.filter_cons,h,if_true,List.filter_nil]
theorem a4d {p:AS → Bool} {l:List AS} {i:Nat} (hi:i < l.length) (h:p (l.getD i default) = false):s5 p l (i + 1) = s5 p l i:=by
 unfold s5
 rw [c7 hi,List.filter_append]
 simp only [List.filter_cons,h,Bool.false_eq_true,if_false,List.filter_nil,List.append_nil]
theorem ajs (p:AS → Bool) (l:List AS) (i:Nat):(s5 p l i).length ≤ i:=Nat.le_trans (List.length_filter_le _ _) (by rw [List.length_take];omega)
theorem ajv {p:AS → Bool} {l:List AS} {i:Nat} (hi:l.length ≤ i):s5 p l i = l.filter p:=by unfold s5;rw [List.take_of_length_le hi]
def a7e (l:List Row) (n a:Nat):List Fd:=(p8 l n a).map fun x=>(⟨x,(1:AS) <<< a⟩:Fd)
def kd (l:List Row) (n a k:Nat):List Fd:=((List.range a).map (a7e l n)).flatten ++ (a7e l n a).take k
theorem a30 (l:List Row) (n a:Nat):(a7e l n a).length = (p8 l n a).length:=List.length_map _
theorem a8n {l:List Row} {n a k:Nat} (hk:k < (p8 l n a).length):kd l n a (k + 1) = kd l n a k ++ [⟨(p8 l n a).getD k default,(1:AS) <<< a⟩]:=by
 unfold kd
 rw [List.append_assoc,List.take_add_one]
 congr 2
 unfold a7e
 rw [List.getElem?_map,List.getElem?_eq_getElem hk,List.getD_eq_getElem?_getD,List.getElem?_eq_getElem hk]
 rfl
theorem a8a {l:List Row} {n a k:Nat} (hk:(p8 l n a).length ≤ k):kd l n a k = kd l n (a + 1) 0:=by
 unfold kd
 rw [List.take_of_length_le (by rw [a30];exact hk),List.range_succ,List.map_append,List.flatten_append]
 simp
theorem ajt (l:List Row) (n:Nat):fv (kd l n n 0) = a9m l n:=by
 unfold kd a9m
 rw [List.take_zero,List.append_nil]
 rfl
theorem a2q (l:List Row) (n a:Nat) (hn:n ≤ 10):(p8 l n a).length ≤ 4294967296:=by
 unfold p8
 have h1:=ali ((d9 (b9 n &&& ~~~((1:AS) <<< a))).filter fun x=>ol l x ((1:AS) <<< a))
 have h2:=List.length_filter_le (fun x=>ol l x ((1:AS) <<< a)) (d9 (b9 n &&& ~~~((1:AS) <<< a)))
 have h3:=ny (b9 n &&& ~~~((1:AS) <<< a))
 omega
theorem a2m (l:List Row) (n a k:Nat) (hn:n ≤ 10) (ha:a ≤ n):(kd l n a k).length ≤ 4294967296 * a + 4294967296:=by
 unfold kd
 rw [List.length_append,List.length_take,a30]
 have h:=a2q l n a hn
 have h2:∀ a,a ≤ n → (((List.range a).map (a7e l n)).flatten).length ≤ 4294967296 * a:=by
  intro a
  induction a with
  | zero=>intro _;simp
  | succ a ih =>
   intro ha
   rw [List.range_succ,List.map_append,List.flatten_append,List.length_append]
   have:=ih (by omega)
   have h3:=a2q l n a hn
   have h4:=a30 l n a
   simp only [List.map_cons,List.map_nil,List.flatten_cons,List.flatten_nil,List.append_nil]
   omega
 have:=h2 a ha
 omega
theorem ai2 (l:List Row) (n:Nat) (hn:n ≤ 32):(kd l n n 0).Nodup:=by
 unfold kd
 rw [List.take_zero,List.append_nil]
 unfold List.Nodup
 rw [List.pairwise_flatten]
 refine ⟨fun m hm=>?_, ?_⟩
 · obtain ⟨a,_,rfl⟩:=List.mem_map.1 hm
   unfold a7e
   rw [List.pairwise_map]
   exact ((aah _).imp fun {x y} h e=>by
    have:x = y:=congrArg Fd.lhs e
    subst this
    rw [l6] at h;cases h)
 · rw [List.pairwise_map]
   refine (List.pairwise_lt_range (n:=n)).imp_of_mem fun {i j} hi hj h x hx y hy e=>?_
   have hj:=List.mem_range.1 hj
   obtain ⟨_,_,rfl⟩:=List.mem_map.1 hx
   obtain ⟨_,_,rfl⟩:=List.mem_map.1 hy
   have:=ahv h (by omega)
   have e2:=congrArg (fun z:Fd=>z.rhs.toNat) e
   dsimp only at e2
   omega
def a2o (t:Tbl):List Fd:=if nj t = 0 then a9m t.rows t.attrs.length else []
def upT (l:List Row) (k:Nat):List AS:=((List.range k).map (BitVec.ofNat 32)).filter (y4 l)
theorem a92 {l:List Row} {k:Nat} (h:y4 l (BitVec.ofNat 32 k) = true):upT l (k + 1) = upT l k ++ [BitVec.ofNat 32 k]:=by
 unfold upT
 rw [List.range_succ,List.map_append,List.filter_append]
 simp only [List.map_cons,List.map_nil,List.filter_cons,h,if_true,List.filter_nil]
theorem a99 {l:List Row} {k:Nat} (h:y4 l (BitVec.ofNat 32 k) = false):upT l (k + 1) = upT l k:=by
 unfold upT
 rw [List.range_succ,List.map_append,List.filter_append]
 simp only [List.map_cons,List.map_nil,List.filter_cons,h,Bool.false_eq_true,if_false,List.filter_nil,List.append_nil]
theorem aej (l:List Row) (k:Nat):(upT l k).length ≤ k:=Nat.le_trans (List.length_filter_le _ _) (by simp)
theorem anp {l:List Row} {n:Nat}:ug (upT l ((b9 n).toNat + 1)) = a7k l n:=rfl
end Go.Hx
end
section
namespace Go.Hx
def a6p (l:List Row) (x r:AS) (i k:Nat):Bool:=!(tw (l.getD i default) (l.getD k default) x && !tw (l.getD i default) (l.getD k default) r)
def aqx (l:List Row) (x r:AS) (i:Nat):Bool:=(List.range i).all (a6p l x r i)
theorem ar7 {l:List Row} {x r:AS} (h:∀ i,i < l.length → aqx l x r i = true):ol l x r = true:=jj h
theorem aqp {l:List Row} {x r:AS} {i k:Nat} (hi:i < l.length) (hk:k < i) (h:a6p l x r i k = false):ol l x r = false:=gu hi (gu hk h)
def a3f (l:List Row) (x:AS) (i k:Nat):Bool:=!tw (l.getD i default) (l.getD k default) x
def aro (l:List Row) (x:AS) (i:Nat):Bool:=(List.range i).all (a3f l x i)
theorem ar1 {l:List Row} {x:AS} (h:∀ i,i < l.length → aro l x i = true):y4 l x = true:=jj h
theorem asg {l:List Row} {x:AS} {i k:Nat} (hi:i < l.length) (hk:k < i) (h:a3f l x i k = false):y4 l x = false:=gu hi (gu hk h)
theorem anv {a b:Fd} (h:¬ asI a.lhs = asI b.lhs):bef a.lhs b.lhs = gn a b:=by
 have h2:¬ a.lhs = b.lhs:=fun e=>h (by rw [e])
 unfold gn
 rw [decide_eq_false h2];simp
theorem agh {a b:Fd} (h:asI a.lhs = asI b.lhs):decide (asI a.rhs < asI b.rhs) = gn a b:=by
 have h2:a.lhs = b.lhs:=fc.1 h
 have h3:(asI a.rhs < asI b.rhs) ↔ a.rhs.toNat < b.rhs.toNat:=by unfold asI;omega
 unfold gn
 rw [decide_eq_true h2,h2,l6,Bool.false_or,Bool.true_and];exact decide_eq_decide.2 h3
theorem akn {α:Type} [Inhabited α] {s:Nat} {e:TypeId} {c:α → Nat → PV} {l:List α} {f:Nat → Nat → PV}:CoO (.arr true s e (0 + l.length) (ek 0 f (lf c l))) (.arr true s e l.length (lf c l)) :=
 ⟨fun h=>h,rfl,rfl,(Nat.zero_add _).symm,fun i j _ _=>CoP.of_eq (by unfold ek;rw [if_neg (Nat.not_lt_zero i)];rfl)⟩
theorem a7r:∀ {l:List Fd},l.Nodup → (fv l).length = l.length:=by
 have h:∀ n (l:List Fd),l.length = n → l.Nodup → (fv l).length = l.length:=by
  intro n
  induction n with
  | zero=>intro l hl _;obtain rfl:=List.eq_nil_of_length_eq_zero hl;rfl
  | succ n ih =>
   intro l hl hn
   obtain ⟨l',x,rfl⟩:∃ l' x,l = l' ++ [x]:=by
    have hne:l ≠ []:=fun e=>by subst e;cases hl
    exact ⟨l.dropLast,l.getLast hne,(List.dropLast_concat_getLast hne).symm⟩
   obtain ⟨h1,_,h2⟩:=List.nodup_append.1 hn
   have e:fv (l' ++ [x]) = ig x (fv l'):=by unfold fv;rw [List.foldl_append];rfl
   have hx:x ∉ fv l':=fun hm=>h2 x (a37.1 hm) x (by simp) rfl
   have hlen:∀ o:List Fd,x ∉ o → (ig x o).length = o.length + 1:=by
    intro o
    induction o with
    | nil=>intro _;rfl
    | cons y o iho =>
     intro ho
     unfold ig
     rw [if_neg (fun e=>ho (by rw [e];simp))]
     split
     · rfl
     · rw [List.length_cons,iho (fun h=>ho (by simp [h])),List.length_cons]
   rw [e,hlen _ hx,ih l' (by simpa using hl) h1]
   simp
 intro l hn
 exact h l.length l rfl hn
def yq (l:List Fd) (i:Nat):List Fd:=fv (l.take i) ++ l.drop i
def i4 (l:List Fd) (i k:Nat):List Fd:=kf (fv (l.take i)) k (l.getD i default) ++ l.drop (i + 1)
theorem aki (l:List Fd):yq l 1 = l:=by
 cases l with
 | nil=>rfl
 | cons x l=>unfold yq;simp [fv,ig]
theorem alm {l:List Fd} {i:Nat} (h:l.length ≤ i):yq l i = fv l:=by unfold yq;rw [List.take_of_length_le h,List.drop_eq_nil_of_le h,List.append_nil]
section
variable {l:List Fd} {i k:Nat}
theorem nn (hn:l.Nodup) (hi:i ≤ l.length):(fv (l.take i)).length = i:=by rw [a7r (hn.sublist (List.take_sublist _ _)),List.length_take];omega
theorem akz (hn:l.Nodup) (hi:i < l.length) (hk:k ≤ i):(i4 l i k).length = l.length:=by
 unfold i4
 rw [List.length_append,o9 (by rw [nn hn (by omega)];exact hk),nn hn (by omega),List.length_drop];omega
theorem afy (hn:l.Nodup) (hi:i < l.length):i4 l i i = yq l i:=by
 have e:kf (fv (l.take i)) i (l.getD i default) = fv (l.take i) ++ [l.getD i default]:=by
  have:=agj (l:=fv (l.take i)) (r:=l.getD i default)
  rwa [nn hn (by omega)] at this
 unfold i4 yq
 rw [e,List.append_assoc,List.getD_eq_getElem?_getD,List.getElem?_eq_getElem hi,Option.getD_some,List.drop_eq_getElem_cons hi]
 rfl
theorem aik (hn:l.Nodup) (hi:i < l.length) (hk:k ≤ i):(i4 l i k).getD k default = l.getD i default:=by
 have ho:=nn hn (show i ≤ l.length by omega)
 unfold i4
 rw [List.getD_eq_getElem?_getD,List.getElem?_append_left (by rw [o9 (by omega)];omega),← List.getD_eq_getElem?_getD,an4 (by omega)]
theorem a89 (hn:l.Nodup) (hi:i < l.length) (h0:0 < k) (hk:k ≤ i):(i4 l i k).getD (k - 1) default = (fv (l.take i)).getD (k - 1) default:=by
 have ho:=nn hn (show i ≤ l.length by omega)
 unfold i4
 rw [List.getD_eq_getElem?_getD,List.getElem?_append_left (by rw [o9 (by omega)];omega),← List.getD_eq_getElem?_getD,afc h0 (by omega)]
theorem agv (hn:l.Nodup) (hi:i < l.length) (h0:0 < k) (hk:k ≤ i):((i4 l i k).set k ((fv (l.take i)).getD (k - 1) default)).set (k - 1) (l.getD i default) = i4 l i (k - 1):=by
 have ho:=nn hn (show i ≤ l.length by omega)
 unfold i4
 rw [List.set_append_left _ _ (by rw [o9 (by omega)];omega),List.set_append_left _ _ (by rw [List.length_set,o9 (by omega)];omega),ag1 h0 (by omega)]
theorem al9 (hn:l.Nodup) (hi:i < l.length) (h0:0 < k) (hk:k ≤ i) {k' m' n:Nat} (hk':k' = k) (hm':m' = k - 1) (hl:n = l.length) {e:TypeId} :
 CoO (.arr true 2 e n (gz (gz (lf Fd.c (i4 l i k)) k' 0 [lf Fd.c (i4 l i k) m' 0,lf Fd.c (i4 l i k) m' 1]) m' 0 [lf Fd.c (i4 l i k) k' 0,lf Fd.c (i4 l i k) k' 1])) (.arr true 2 e n (lf Fd.c (i4 l i (k - 1)))):=by
 subst hk' hm' hl
 rw [← agv hn hi h0 hk]
 have e1:=akz hn hi hk
 have hp:∀ j,CoP (lf Fd.c (i4 l i k') (k' - 1) j) (Fd.c ((fv (l.take i)).getD (k' - 1) default) j):=fun j=>CoP.of_eq (by show Fd.c ((i4 l i k').getD (k' - 1) default) j = _;rw [a89 hn hi h0 hk])
 have hq:∀ j,CoP (lf Fd.c (i4 l i k') k' j) (Fd.c (l.getD i default) j):=fun j=>CoP.of_eq (by show Fd.c ((i4 l i k').getD k' default) j = _;rw [aik hn hi hk])
 refine a6u (fun h=>h) e1.symm (by omega) (by omega) rfl rfl (fun j hj=>?_) (fun j hj=>?_)
 · rcases (by omega:j = 0 ∨ j = 1) with rfl | rfl
   · exact hp 0
   · exact hp 1
 · rcases (by omega:j = 0 ∨ j = 1) with rfl | rfl
   · exact hq 0
   · exact hq 1
theorem agr (hn:l.Nodup) (hi:i < l.length) (h0:0 < k) (hk:k ≤ i) {k' m':Nat} {b:Bool} (h:gn ((i4 l i k).getD k' default) ((i4 l i k).getD m' default) = b) (hk':k' = k) (hm':m' = k - 1):gn (l.getD i default) ((fv (l.take i)).getD (k - 1) default) = b:=by
 subst hk' hm'
 rwa [aik hn hi hk,a89 hn hi h0 hk] at h
theorem a9p (hn:l.Nodup) (hi:i < l.length) (hk:k ≤ i) (h1:∀ j,k ≤ j → j < i → gn (l.getD i default) ((fv (l.take i)).getD j default) = true) (h2:k = 0 ∨ gn (l.getD i default) ((fv (l.take i)).getD (k - 1) default) = false):i4 l i k = yq l (i + 1):=by
 have ho:=nn hn (show i ≤ l.length by omega)
 have hx:l.getD i default ∉ fv (l.take i):=fun hm=>by
  have hm:=a37.1 hm
  obtain ⟨j,hj,e⟩:=List.getElem_of_mem hm
  rw [List.length_take] at hj
  rw [List.getElem_take,List.getD_eq_getElem?_getD,List.getElem?_eq_getElem hi,Option.getD_some] at e
  have:=(List.getElem_inj hn).1 e
  omega
 unfold i4 yq
 rw [ad9 (a8b _) hx (by omega) (fun j q1 q2=>h1 j q1 (by omega)) (h2.imp (fun z=>z) fun z=>by rw [z];decide),air hi]
end
end Go.Hx
end
