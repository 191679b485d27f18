/- A part of the proof: Cl1 V3 Cl2 V4 Cs5 V5 Cs2 Cs6. -/
import Derived.Lib.TrailingZeros
import Derived.Test.YtidophngianjiaaDoorDx14
set_option linter.all false
section
namespace Go.Hx
variable {α:Type}
theorem b8 [Inhabited α] {l:List α} {q:Nat} (hq:q < l.length):l.take (q + 1) = l.take q ++ [l.getD q default]:=by
 rw [List.take_add_one,List.getElem?_eq_getElem hq]
 simp [List.getD,hq]
theorem acs [Inhabited α] {l:List α} {q:Nat} (h0:0 < q) (hq:q ≤ l.length):(l.take q).getLast? = some (l.getD (q - 1) default):=by
 obtain ⟨k,rfl⟩:∃ k,q = k + 1:=⟨q - 1,by omega⟩
 rw [b8 (by omega),List.getLast?_append]
 simp
section
variable [DecidableEq α]
def j4:Option α → List α → List α
 | _,[]=>[]
 | p,x :: l=>if p = some x then j4 p l else x :: j4 (some x) l
def ml (l:List α):List α:=j4 none l
def so (p:Option α) (l:List α):Option α:=match l.getLast? with | some y=>some y | none=>p
theorem a8k (p:Option α) (y:α) (l:List α):so p (y :: l) = so (some y) l:=by
 unfold so
 cases l with
 | nil=>rfl
 | cons z l=>simp [List.getLast?_cons]
theorem x6 (x:α):∀ (l:List α) (p:Option α),j4 p (l ++ [x]) = j4 p l ++ (if so p l = some x then [] else [x])
 | [],p=>by
  unfold so
  simp only [List.nil_append,j4,List.getLast?_nil]
  by_cases h:p = some x <;> simp [h]
 | y :: l,p=>by
  rw [a8k]
  simp only [List.cons_append,j4]
  split
  · rename_i h
    rw [x6 x l p,h]
  · rw [x6 x l (some y)];rfl
theorem jo [Inhabited α] {l:List α} {q:Nat} (h0:0 < q) (hq:q < l.length):ml (l.take (q + 1)) = ml (l.take q) ++ (if l.getD (q - 1) default = l.getD q default then [] else [l.getD q default]):=by
 unfold ml
 rw [b8 hq,x6]
 unfold so
 rw [acs h0 (by omega)]
 simp
theorem uo [Inhabited α] {l:List α}:∀ {k:Nat},k ≤ l.length → (∀ j,0 < j → j < k → ¬ l.getD j default = l.getD (j - 1) default) → ml (l.take k) = l.take k
 | 0,_,_=>rfl
 | 1,hk,_=>by
  rw [b8 (by omega)]
  simp [ml,j4]
 | k + 2,hk,h=>by
  rw [jo (by omega) (by omega),uo (by omega) (fun j h1 h2=>h j h1 (by omega)),if_neg (fun e=>h (k + 1) (by omega) (by omega) e.symm),← b8 (by omega)]
theorem a09:∀ (l:List α) (p:Option α),∀ x ∈ j4 p l,x ∈ l
 | [],_,x,h=>by simp [j4] at h
 | y :: l,p,x,h=>by
  simp only [j4] at h
  split at h
  · exact List.mem_cons_of_mem _ (a09 l p x h)
  · rcases List.mem_cons.1 h with rfl | h
    · exact List.mem_cons_self
    · exact List.mem_cons_of_mem _ (a09 l _ x h)
theorem a0e:∀ (l:List α) (p:Option α),∀ x ∈ l,p = some x ∨ x ∈ j4 p l
 | y :: l,p,x,h=>by
  simp only [j4]
  split
  · rename_i hp
    rcases List.mem_cons.1 h with rfl | h
    · exact .inl hp
    · exact a0e l p x h
  · rcases List.mem_cons.1 h with rfl | h
    · exact .inr List.mem_cons_self
    · rcases a0e l (some y) x h with h | h
      · simp only [Option.some.injEq] at h
        subst h
        exact .inr List.mem_cons_self
      · exact .inr (List.mem_cons_of_mem _ h)
theorem ajz {l:List α} {x:α}:x ∈ ml l ↔ x ∈ l:=⟨a09 l none x,fun h=>by
 rcases a0e l none x h with h | h
 · cases h
 · exact h⟩
end
section
variable [Inhabited α]
theorem jz {l:List α} {p:Nat} {v:α} (hp:p < l.length):(l.set p v).getD p default = v:=by simp [List.getD,hp]
theorem getD_set_ne' {l:List α} {p j:Nat} {v:α} (h:j ≠ p):(l.set p v).getD j default = l.getD j default:=by
 simp only [List.getD,List.getElem?_set_ne (Ne.symm h)]
theorem alz {wr wr':Bool} {n p k:Nat} {e:TypeId} {c:α → Nat → PV} {l:List α} {v:α} {x:PV} (hw:wr' = true → wr = true) (hn:n = l.length) (hp:k = p) (hk:p < l.length) (hx:x = c v 0) :
 CoO (.arr wr 1 e n (f0 (lf c l) k 0 [x])) (.arr wr' 1 e n (lf c (l.set p v))):=by
 subst hp hx hn
 refine ⟨hw,rfl,rfl,rfl,fun i j hi hj=>CoP.of_eq ?_⟩
 obtain rfl:j = 0:=by omega
 unfold f0 lf
 by_cases h:i = k
 · subst h
   rw [if_pos ⟨rfl,by omega,by simp⟩,jz hk]
   rfl
 · rw [if_neg (by omega),getD_set_ne' h]
theorem xm {wr wr':Bool} {n p k q d:Nat} {e:TypeId} {c:α → Nat → PV} {l l':List α} (hw:wr' = true → wr = true) (hn:n = l.length) (hp:k = p) (hk:p < l.length) (hd:d = q) :
 CoO (.arr wr 1 e n (f0 (lf c l) k 0 [lf c l' d 0])) (.arr wr' 1 e n (lf c (l.set p (l'.getD q default)))):=alz hw hn hp hk (by rw [hd];rfl)
theorem a9t {n m a:Nat} {cl:Bool} {c:α → Nat → PV} {l l':List α} {z:List Value} {p:Option Int} {h:Option Int} (hn:eo (bt n h) p = l'.length) (hp:p = none) (ha:l'.length ≤ a) (hl:l' = l.take l'.length) :
 CoP (.sl (eo (bt n h) p) 1 cl (o3 (qf (lf c l) a m z) p)) (psl 1 c l'):=by
 subst hp
 refine CoP.sl hn.symm (.inl rfl) (fun h=>by cases h) fun i j hi hj=>CoP.of_eq ?_
 rw [hn] at hi
 show qf (lf c l) a m z i j = lf c l' i j
 unfold qf
 rw [if_neg (by omega)]
 simp only [lf,List.getD]
 have e:l'[i]? = l[i]?:=by rw [hl,List.getElem?_take,if_pos hi]
 rw [e]
end
abbrev sC:AS → Nat → PV:=fun s _=>asC s
structure CpI (l:List AS) (k p q:Nat) (m:List AS):Prop where
 len:m.length = l.length
 kq:k < q
 pq:p < q
 ql:q ≤ l.length
 pre:m.take p = ml (l.take q)
 high:∀ j,q - 1 ≤ j → m.getD j default = l.getD j default
theorem CpI.start {l:List AS} {k:Nat} (h1:1 ≤ k) (hk:k < l.length) (h:∀ j,0 < j → j < k → ¬ l.getD j default = l.getD (j - 1) default) (hd:l.getD k default = l.getD (k - 1) default):CpI l k k (k + 1) l :=
 ⟨rfl,by omega,by omega,by omega,by rw [jo (by omega) hk,if_pos hd.symm,List.append_nil,uo (by omega) h],fun _ _=>rfl⟩
theorem CpI.skip {l:List AS} {k p q:Nat} {m:List AS} (h:CpI l k p q m) (hq:q < l.length) (he:m.getD q default = m.getD (q - 1) default):CpI l k p (q + 1) m:=by
 have hk:=h.kq
 refine ⟨h.len,by omega,by have:=h.pq;omega,hq, ?_,fun j hj=>h.high j (by omega)⟩
 rw [h.high q (by omega),h.high (q - 1) (by omega)] at he
 rw [jo (by omega) hq,if_pos he.symm,List.append_nil,h.pre]
theorem CpI.keep {l:List AS} {k p q:Nat} {m:List AS} (h:CpI l k p q m) (hq:q < l.length) (he:¬ m.getD q default = m.getD (q - 1) default):CpI l k (p + 1) (q + 1) (m.set p (m.getD q default)):=by
 have hk:=h.kq
 have hp:=h.pq
 have hl:=h.len
 refine ⟨by simp [hl],by omega,by omega,hq, ?_,fun j hj=>by rw [getD_set_ne' (by omega)];exact h.high j (by omega)⟩
 have e:=h.high q (by omega)
 rw [e,h.high (q - 1) (by omega)] at he
 rw [jo (by omega) hq,if_neg (fun e=>he e.symm),← h.pre,b8 (by simp [hl];omega),jz (by omega),e]
 congr 1
 rw [List.take_set,List.set_eq_of_length_le (by simp;omega)]
theorem a3l {l:List AS} {a b a' b':Nat} (h:asI (l.getD a' default) = asI (l.getD b' default)) (ha:a' = a) (hb:b' = b):l.getD a default = l.getD b default:=by subst ha hb;exact dt.1 h
theorem a2x {l:List AS} {a b a' b':Nat} (h:¬ asI (l.getD a' default) = asI (l.getD b' default)) (ha:a' = a) (hb:b' = b):¬ l.getD a default = l.getD b default:=by subst ha hb;exact fun e=>h (congrArg asI e)
theorem a98 {l:List AS} {k:Nat} (hk:l.length ≤ k) (h:∀ j,0 < j → j < k → ¬ l.getD j default = l.getD (j - 1) default):CoP (.sl l.length 1 false (lf sC l)) (asl (ml l)):=by
 have:=uo (Nat.le_refl l.length) fun j h1 h2=>h j h1 (by omega)
 rw [List.take_length] at this
 rw [this]
 exact CoP.refl _
theorem alw {l m:List AS} {k p q n a d:Nat} {cl:Bool} {z:List Value} (hC:CpI l k p q m) (hq:¬ q < l.length) (ha:p ≤ a):CoP (.sl (eo (bt n (some (p:Int))) none) 1 cl (o3 (qf (lf sC m) a d z) none)) (asl (ml l)):=by
 have e:=hC.pre
 have h1:=hC.ql
 have h2:=hC.len
 have h3:=hC.pq
 rw [show q = l.length by omega,List.take_length] at e
 have el:(ml l).length = p:=by rw [← e];simp;omega
 exact a9t (by rw [el];rfl) rfl (by omega) (by rw [el,e])
end Go.Hx
end
section
namespace Go.Hx
open Go.Proofs
set_option maxRecDepth 100000
theorem api:al Tryd.prog 40:=⟨Tryd.f40,Tryd.func40,by kernel_rfl,by kernel_rfl⟩
theorem ajm (l:List AS):eq Tryd.prog 40 [.one (.ref 900 l.length)] [(900, .arr true 1 34 l.length (lf sC l))] (.v (.one (.p (asl (ml l))))) [] []:=by
 refine j2 (nt:=61) ai Tryd.func40 rfl rfl l9 rfl ?_;refine a7 ?_
 refine alo 900 rfl fun hlen=>?_
 refine gy ?_;refine qy ?_;refine a6 ?_;refine a7 ?_;refine sx7 ?_;(iterate 3 refine qy ?_);refine a6 ?_;refine a8 _ rfl (fun r0=>?_) (fun r0=>?_)
 ·
  have h0:=of_decide_eq_true r0
  try simp only [ty] at h0
  refine sx7 ?_;(iterate 2 refine qy ?_);refine a6 ?_;refine c8 2 rfl rfl rfl ?_;refine dc ?_;refine ⟨.inr rfl, ?_⟩
  exact ⟨_,_,rfl,(by (repeat' apply And.intro) <;> first | trivial | exact Nat.le_of_ble_eq_true rfl),a98 (k:=l.length) (Nat.le_refl _) (fun j h1 h2=>by omega),trivial⟩
 ·
  have h0:=of_decide_eq_false r0
  try simp only [ty] at h0
  refine aa ?_;refine a7 ?_;refine sx7 ?_;refine qy ?_;refine a6 ?_;refine af ?_
  refine av (ι:=Nat) ⟨[(0,some _)],[(900,some _)]⟩ ⟨⟨c9,trivial⟩,⟨u9,trivial⟩⟩ (fun k=>⟨[(3,some (vI k))],[]⟩) (fun k=>1 ≤ k ∧ k ≤ l.length ∧ ∀ j,0 < j → j < k → ¬ l.getD j default = l.getD (j - 1) default) (fun k=>l.length - k) (1) (⟨Nat.le_refl _,by omega,fun j h1 h2=>by omega⟩) ⟨⟨zy,trivial⟩,trivial⟩ ?_
  rintro k ⟨hk1,hk,hI⟩
  refine a7 ?_;refine sx7 ?_;(iterate 4 refine qy ?_);refine a6 ?_;refine a8 _ rfl (fun r1=>?_) (fun r1=>?_)
  ·
   have h1:=of_decide_eq_true r1
   try simp only [ty] at h1
   refine aa ?_;refine a7 ?_;refine af ?_;refine a7 ?_;refine d8 (E:=dg) ai c7 [0,1,2,3,4,5,6,7,8,9] ?_;(iterate 10 refine qy ?_);refine a6 ?_;refine ⟨by kernel_rfl, ?_⟩
   refine a8 _ rfl (fun r2=>?_) (fun r2=>?_)
   ·
    have h2:=of_decide_eq_true r2
    try simp only [ty] at h2
    refine sx7 ?_;(iterate 4 refine qy ?_);refine a6 ?_;refine a7 ?_;refine sx7 ?_;refine qy ?_;refine a6 ?_;refine af ?_
    refine av (ι:=Nat × Nat × List AS) ⟨[(0,some _),(4,some _)],[]⟩ ⟨⟨c9,c9,trivial⟩,trivial⟩ (fun x=>⟨[(3,some (vI x.1)),(5,some (vI ((x.2.1:Int) - k)))],[(900,some (.arr true 1 34 l.length (lf sC x.2.2)))]⟩) (fun x=>CpI l k x.1 x.2.1 x.2.2) (fun x=>l.length - x.2.1) ((k,k + 1,l)) (CpI.start hk1 (by omega) hI (a3l (by assumption) rfl (by omega))) ⟨⟨zy,⟨_,rfl,(coi (by first | rfl | (dsimp only;omega)))⟩,trivial⟩,⟨u9,trivial⟩⟩ ?_
    rintro ⟨p,q,m⟩ hC
    have hC0:=hC
    obtain ⟨hml,hkq,hpq,hql,_,_⟩:=hC0
    dsimp only at hC hml hkq hpq hql
    refine a7 ?_;refine sx7 ?_;(iterate 4 refine qy ?_);refine a6 ?_;refine a8 _ rfl (fun r3=>?_) (fun r3=>?_)
    ·
     have h3:=of_decide_eq_true r3
     try simp only [ty] at h3
     simp only [eo,bt,Int.toNat_natCast] at h3
     refine aa ?_;refine a7 ?_;refine af ?_;refine a7 ?_;refine d8 (E:=dg) ai c7 [0,1,2,3,4,5,6,7,8,9] ?_;(iterate 10 refine qy ?_);refine a6 ?_
     refine ⟨by kernel_rfl, ?_⟩;refine a8 _ rfl (fun r4=>?_) (fun r4=>?_)
     ·
      have h4:=r4
      have h4:=of_decide_eq_false (cb h4)
      try simp only [ty] at h4
      refine sx7 ?_;(iterate 7 refine qy ?_);refine s9 ?_;refine a6 ?_;refine gy ?_;(iterate 3 refine qy ?_);refine a6 ?_;refine gy ?_;(iterate 3 refine qy ?_);refine a6 ?_
      first | (refine ⟨(p + 1, q + 1, m.set p (m.getD q default)), ?_, ?_, ?_⟩
               · exact hC.keep (by omega) (a2x (by assumption) (by simp only [bt];omega) (by simp only [bt];omega))
               · first | omega | (dsimp only;omega)
               · exact ⟨⟨⟨_,rfl,(coi (by first | rfl | (dsimp only;omega)))⟩,⟨_,rfl,(coi (by first | rfl | (dsimp only;omega)))⟩,c9,c9,trivial⟩,⟨⟨_,rfl,(xm id hml.symm (by omega) (by dsimp only;omega) (by simp only [bt];omega))⟩,trivial⟩⟩)
            | (refine ⟨(p,q + 1,m), ?_, ?_, ?_⟩
               · exact hC.skip (by omega) (a3l (by assumption) (by simp only [bt];omega) (by simp only [bt];omega))
               · first | omega | (dsimp only;omega)
               · exact ⟨⟨⟨_,rfl,(coi (by first | rfl | (dsimp only;omega)))⟩,⟨_,rfl,(coi (by first | rfl | (dsimp only;omega)))⟩,c9,c9,trivial⟩,⟨u9,trivial⟩⟩)
     ·
      have h4:=r4
      have h4:=of_decide_eq_true (ce h4)
      try simp only [ty] at h4
      refine aa ?_;refine gy ?_;(iterate 3 refine qy ?_);refine a6 ?_
      first | (refine ⟨(p + 1, q + 1, m.set p (m.getD q default)), ?_, ?_, ?_⟩
               · exact hC.keep (by omega) (a2x (by assumption) (by simp only [bt];omega) (by simp only [bt];omega))
               · first | omega | (dsimp only;omega)
               · exact ⟨⟨⟨_,rfl,(coi (by first | rfl | (dsimp only;omega)))⟩,⟨_,rfl,(coi (by first | rfl | (dsimp only;omega)))⟩,c9,c9,trivial⟩,⟨⟨_,rfl,(xm id hml.symm (by omega) (by dsimp only;omega) (by simp only [bt];omega))⟩,trivial⟩⟩)
            | (refine ⟨(p,q + 1,m), ?_, ?_, ?_⟩
               · exact hC.skip (by omega) (a3l (by assumption) (by simp only [bt];omega) (by simp only [bt];omega))
               · first | omega | (dsimp only;omega)
               · exact ⟨⟨⟨_,rfl,(coi (by first | rfl | (dsimp only;omega)))⟩,⟨_,rfl,(coi (by first | rfl | (dsimp only;omega)))⟩,c9,c9,trivial⟩,⟨u9,trivial⟩⟩)
    ·
     have h3:=of_decide_eq_false r3
     try simp only [ty] at h3
     simp only [eo,bt,Int.toNat_natCast] at h3
     refine au ?_;refine sx7 ?_;(iterate 3 refine qy ?_);refine ra 0 true rfl rfl rfl rfl rfl rfl ?_;refine a6 ?_;refine sx7 ?_;(iterate 2 refine qy ?_);refine aq2 rfl rfl rfl rfl rfl ?_;refine qy ?_
     refine a6 ?_;refine dc ?_;refine ⟨.inr rfl, ?_⟩
     exact ⟨_,_,rfl,(by (repeat' apply And.intro) <;> first | trivial | exact Nat.le_of_ble_eq_true rfl),alw hC (by omega) (by simp [bt]),trivial⟩
   ·
    have h2:=of_decide_eq_false r2
    try simp only [ty] at h2
    refine aa ?_;refine gy ?_;(iterate 3 refine qy ?_);refine a6 ?_;refine ⟨k + 1, ?_, ?_, ?_⟩
    · refine ⟨by omega,by show k + 1 ≤ _;omega,fun j h1 h2=>?_⟩
      rcases Nat.lt_or_eq_of_le (Nat.le_of_lt_succ h2) with h | h
      · exact hI j h1 h
      · subst h
        exact a2x (by assumption) rfl (by omega)
    · first | omega | (dsimp only;omega)
    · exact ⟨⟨zy,c9,trivial⟩,⟨u9,trivial⟩⟩
  ·
   have h1:=of_decide_eq_false r1
   try simp only [ty] at h1
   refine au ?_;refine sx7 ?_;(iterate 2 refine qy ?_);refine a6 ?_;refine c8 2 rfl rfl rfl ?_;refine dc ?_;refine ⟨.inr rfl, ?_⟩
   exact ⟨_,_,rfl,(by (repeat' apply And.intro) <;> first | trivial | exact Nat.le_of_ble_eq_true rfl),a98 (k:=k) (by omega) hI,trivial⟩
end Go.Hx
end
section
namespace Go.Hx
section
variable {α:Type} [Inhabited α] {p:α → Bool} {l:List α}
theorem agv (h:idx p l = -1):∀ j,j < l.length → p (l.getD j default) = false:=fun j hj=>by
 cases hc:p (l.getD j default) with
 | false=>rfl
 | true =>
  exfalso
  have hx:∃ x ∈ l,p x = true:=⟨l[j],List.getElem_mem hj,by simpa [List.getD,hj] using hc⟩
  unfold idx at h
  cases hf:l.findIdx? p with
  | none =>
   rw [List.findIdx?_eq_none_iff] at hf
   obtain ⟨x,hx,hp⟩:=hx
   rw [hf x hx] at hp
   cases hp
  | some i=>rw [hf] at h;simp only at h;omega
theorem ai6 (h:¬ idx p l = -1):∃ i:Nat,idx p l = i ∧ i < l.length ∧ p (l.getD i default) = true ∧ ∀ j,j < i → p (l.getD j default) = false:=by
 unfold idx at h ⊢
 cases hf:l.findIdx? p with
 | none=>rw [hf] at h;exact absurd rfl h
 | some i =>
  obtain ⟨h1,h2,h3⟩:=List.findIdx?_eq_some_iff_getElem.1 hf
  refine ⟨i,rfl,h1,by simpa [List.getD,h1] using h2,fun j hj=>?_⟩
  have:=h3 j hj
  simp only [List.getD,List.getElem?_eq_getElem (Nat.lt_trans hj h1),Option.getD_some]
  simpa using this
theorem acw:(decide (0 ≤ idx p l)) = l.any p:=by
 unfold idx
 cases hf:l.findIdx? p with
 | none =>
  rw [List.findIdx?_eq_none_iff] at hf
  have:l.any p = false:=by
   rw [List.any_eq_false]
   intro x hx
   rw [hf x hx]
   exact Bool.false_ne_true
  rw [this];rfl
 | some i =>
  obtain ⟨h1,h2,_⟩:=List.findIdx?_eq_some_iff_getElem.1 hf
  have:l.any p = true:=List.any_eq_true.2 ⟨l[i],List.getElem_mem h1,h2⟩
  rw [this]
  exact decide_eq_true (Int.natCast_nonneg i)
theorem ug:∀ {k:Nat},k ≤ l.length → (∀ j,j < k → p (l.getD j default) = false) → (l.take k).filter (fun x=>!p x) = l.take k
 | 0,_,_=>by simp
 | k + 1,hk,h=>by rw [b8 (by omega),List.filter_append,ug (by omega) fun j hj=>h j (by omega)];simp only [List.filter_cons,h k (by omega),Bool.not_false,if_true,List.filter_nil]
structure DfI (p:α → Bool) (l:List α) (k q:Nat) (m:List α):Prop where
 len:m.length = l.length
 kq:k < q
 ql:q ≤ l.length
 pre:m.take k = (l.take q).filter fun x=>!p x
 high:∀ j,q ≤ j → m.getD j default = l.getD j default
theorem DfI.start {k:Nat} (hk:k < l.length) (h1:p (l.getD k default) = true) (h:∀ j,j < k → p (l.getD j default) = false):DfI p l k (k + 1) l :=
 ⟨rfl,by omega,hk,by rw [b8 hk,List.filter_append,ug (by omega) h];simp only [List.filter_cons,h1,Bool.not_true,List.filter_nil,Bool.false_eq_true,if_false,List.append_nil],fun _ _=>rfl⟩
theorem DfI.skip {k q:Nat} {m:List α} (h:DfI p l k q m) (hq:q < l.length) (hp:p (m.getD q default) = true):DfI p l k (q + 1) m:=by
 rw [h.high q (Nat.le_refl _)] at hp
 exact ⟨h.len,by have:=h.kq;omega,hq,by rw [b8 hq,List.filter_append,← h.pre];simp only [List.filter_cons,hp,Bool.not_true,List.filter_nil,Bool.false_eq_true,if_false,List.append_nil],fun j hj=>h.high j (by omega)⟩
theorem DfI.keep {k q:Nat} {m:List α} (h:DfI p l k q m) (hq:q < l.length) (hp:p (m.getD q default) = false):DfI p l (k + 1) (q + 1) (m.set k (m.getD q default)):=by
 have e:=h.high q (Nat.le_refl _)
 rw [e] at hp ⊢
 have hk:=h.kq
 have hl:=h.len
 refine ⟨by simp [hl],by omega,hq, ?_,fun j hj=>by rw [getD_set_ne' (by omega)];exact h.high j (by omega)⟩
 rw [b8 (by simp [hl];omega),jz (by omega),b8 hq,List.filter_append,← h.pre]
 simp only [List.filter_cons,hp,Bool.not_false,if_true,List.filter_nil]
 congr 1
 rw [List.take_set,List.set_eq_of_length_le (by simp;omega)]
end
section
variable {p:AS → Bool} {l:List AS}
theorem ams (h:∀ j,j < l.length → p (l.getD j default) = false):CoP (.sl l.length 1 false (lf sC l)) (asl (l.filter fun x=>!p x)):=by
 have:=ug (Nat.le_refl l.length) h
 rw [List.take_length] at this
 rw [this]
 exact CoP.refl _
theorem amz {m:List AS} {k q n a d:Nat} {cl:Bool} {z:List Value} (hC:DfI p l k q m) (hq:¬ q < l.length) (ha:k ≤ a):CoP (.sl (eo (bt n (some (k:Int))) none) 1 cl (o3 (qf (lf sC m) a d z) none)) (asl (l.filter fun x=>!p x)):=by
 have e:=hC.pre
 have h1:=hC.ql
 have h2:=hC.len
 have h3:=hC.kq
 rw [show q = l.length by omega,List.take_length] at e
 have el:(l.filter fun x=>!p x).length = k:=by rw [← e];simp;omega
 exact a9t (by rw [el];rfl) rfl (by omega) (by rw [el,e])
end
instance:DecidableEq Fd:=fun a b=>decidable_of_iff (a.lhs = b.lhs ∧ a.rhs = b.rhs) Fd.eq_iff.symm
end Go.Hx
end
section
namespace Go.Hx
open Go.Proofs
set_option maxRecDepth 100000
theorem abq:al Tryd.prog 9:=⟨Tryd.f9,Tryd.func9,by kernel_rfl,by kernel_rfl⟩
theorem an9 (n:Nat) (c:Bool) (f:Nat → Nat → PV) (hn:n ≤ 17592186044416) :
 eq Tryd.prog 9 [.one (.p (.sl n 2 c f))] [] (.v (.one (.ref 0 n))) [(0, .arr true 2 42 n f)] []:=by
 refine j2 (nt:=8) ai Tryd.func9 rfl rfl l9 rfl ?_;refine sx7 ?_;refine bv true rfl rfl rfl rfl rfl trivial ?_;refine a6 ?_
 refine xi (ι:=Bool) (fun c=>⟨[(0,some (bd (.sl n 2 c f)))],[]⟩) (fun _=>True) ?_ fun c _=>?_
 · rcases Nat.eq_zero_or_pos n with hz | h0
   · subst hz
     refine hw_exact' 0 rfl fun ad cap hcap=>?_
     refine sx7 ?_;(iterate 2 refine bv true rfl rfl rfl rfl rfl trivial ?_);refine a6 ?_;refine a8 ad.isNone rfl (fun hc=>?_) (fun hc=>?_)
     · refine sx7 ?_
       refine bv true rfl rfl rfl rfl rfl trivial ?_;refine a6 ?_;refine dm 2 0 true 2 42 f (by decide) rfl (CoP.sl rfl (.inr rfl) (fun h=>h) fun i j hi _=>absurd hi (Nat.not_lt_zero i)) (.inr rfl) rfl ?_
       refine dc ?_;refine ⟨.inr rfl, ?_⟩
       exact ⟨_,_,rfl,trivial,CoR.refl _,⟨u9,trivial⟩⟩
     · refine aa ?_
       exact ⟨false,trivial,⟨⟨_,rfl,CoP.raw_sl hcap⟩,trivial⟩,trivial⟩
   · refine sx7 ?_
     refine bv true rfl rfl rfl rfl rfl trivial ?_;refine bv true rfl rfl rfl rfl rfl h0 ?_;refine a6 ?_;refine a8 false rfl (fun hc=>by cases hc) (fun hc=>?_);refine aa ?_
     exact ⟨c,trivial,⟨c9,trivial⟩,trivial⟩
 · refine sx7 ?_
   refine sr 0 rfl rfl rfl rfl rfl rfl trivial ?_;refine bv true rfl rfl rfl rfl rfl trivial ?_
   refine a1x 0 true rfl rfl rfl rfl rfl rfl ⟨trivial,rfl,rfl,rfl, .inl rfl,by show 0 + n ≤ 9223372036854775807;omega,by show (0 + n) * 8 ≤ 140737488355328;omega,fun _=>.inl rfl⟩ ?_
   refine bv true rfl rfl rfl rfl rfl trivial ?_;refine a6 ?_;refine dc ?_;refine ⟨.inr rfl, ?_⟩
   refine ⟨_,_,rfl,trivial,CoR.of_eq (by show HR.v (.one (.ref 0 (0 + n))) = _;rw [Nat.zero_add]),⟨⟨_,rfl, ?_⟩,trivial⟩⟩
   exact ⟨fun h=>h,rfl,rfl,(Nat.zero_add n).symm,fun i j _ _=>CoP.of_eq (by simp [er])⟩
theorem a01 (n:Nat) (c:Bool) (f:Nat → Nat → PV) (hn:n ≤ 17592186044416):ao Tryd.prog 9 [.one (.sl n 2 c f)] (.v (.one (.sl n 2 false f))) :=
 eq.pure (args:=[.one (.sl n 2 c f)]) (l:=[.one (.ref 0 n)]) (an9 n c f hn) rfl ⟨rfl,trivial⟩
theorem aeu:al Tryd.prog 37:=⟨Tryd.f37,Tryd.func37,by kernel_rfl,by kernel_rfl⟩
theorem a9r (n:Nat) (c:Bool) (f:Nat → Nat → PV) (hn:n ≤ 35184372088832) :
 eq Tryd.prog 37 [.one (.p (.sl n 1 c f))] [] (.v (.one (.ref 0 n))) [(0, .arr true 1 34 n f)] []:=by
 refine j2 (nt:=8) ai Tryd.func37 rfl rfl l9 rfl ?_;refine sx7 ?_;refine bv true rfl rfl rfl rfl rfl trivial ?_;refine a6 ?_
 refine xi (ι:=Bool) (fun c=>⟨[(0,some (bd (.sl n 1 c f)))],[]⟩) (fun _=>True) ?_ fun c _=>?_
 · rcases Nat.eq_zero_or_pos n with hz | h0
   · subst hz
     refine hw_exact' 0 rfl fun ad cap hcap=>?_
     refine sx7 ?_;(iterate 2 refine bv true rfl rfl rfl rfl rfl trivial ?_);refine a6 ?_;refine a8 ad.isNone rfl (fun hc=>?_) (fun hc=>?_)
     · refine sx7 ?_
       refine bv true rfl rfl rfl rfl rfl trivial ?_;refine a6 ?_;refine dm 2 0 true 1 34 f (by decide) rfl (CoP.sl rfl (.inr rfl) (fun h=>h) fun i j hi _=>absurd hi (Nat.not_lt_zero i)) (.inr rfl) rfl ?_
       refine dc ?_;refine ⟨.inr rfl, ?_⟩
       exact ⟨_,_,rfl,trivial,CoR.refl _,⟨u9,trivial⟩⟩
     · refine aa ?_
       exact ⟨false,trivial,⟨⟨_,rfl,CoP.raw_sl hcap⟩,trivial⟩,trivial⟩
   · refine sx7 ?_
     refine bv true rfl rfl rfl rfl rfl trivial ?_;refine bv true rfl rfl rfl rfl rfl h0 ?_;refine a6 ?_;refine a8 false rfl (fun hc=>by cases hc) (fun hc=>?_);refine aa ?_
     exact ⟨c,trivial,⟨c9,trivial⟩,trivial⟩
 · refine sx7 ?_
   refine sr 0 rfl rfl rfl rfl rfl rfl trivial ?_;refine bv true rfl rfl rfl rfl rfl trivial ?_
   refine a1x 0 true rfl rfl rfl rfl rfl rfl ⟨trivial,rfl,rfl,rfl, .inl rfl,by show 0 + n ≤ 9223372036854775807;omega,by show (0 + n) * 4 ≤ 140737488355328;omega,fun _=>.inl rfl⟩ ?_
   refine bv true rfl rfl rfl rfl rfl trivial ?_;refine a6 ?_;refine dc ?_;refine ⟨.inr rfl, ?_⟩
   refine ⟨_,_,rfl,trivial,CoR.of_eq (by show HR.v (.one (.ref 0 (0 + n))) = _;rw [Nat.zero_add]),⟨⟨_,rfl, ?_⟩,trivial⟩⟩
   exact ⟨fun h=>h,rfl,rfl,(Nat.zero_add n).symm,fun i j _ _=>CoP.of_eq (by simp [er])⟩
theorem aql:al Tryd.prog 64:=⟨Tryd.f64,Tryd.func64,by kernel_rfl,by kernel_rfl⟩
theorem aqw (l:List Fd) (g k:Nat) (caps:Nat → PV) (V:Fd → Bool) (hg:al Tryd.prog g) (hV:∀ x,ao Tryd.prog g (x.pc :: i9 caps k 0) (ay [pB (V x)])):ao Tryd.prog 64 [pP (fdl l),pP (.fn g k caps)] (ay [pI (idx V l)]):=by
 refine am (nt:=19) ai Tryd.func64 rfl rfl l9 ?_;refine a7 ?_
 refine kr 0 rfl fun hn=>?_
 refine gy ?_;refine qy ?_;refine a6 ?_;refine ji (ι:=Unit) ⟨[],[]⟩ ⟨trivial,trivial⟩ (fun _i=>⟨[],[]⟩) (fun _i=>idx V l = -1) ?_ ?_
 ·
  refine sx7 ?_;(iterate 3 refine qy ?_);refine a6 ?_;refine af ?_
  refine av (ι:=Nat) ⟨[(0,some _),(1,some _),(7,some _)],[]⟩ ⟨⟨c9,c9,c9,trivial⟩,trivial⟩ (fun i=>⟨[(8,some (vI i))],[]⟩) (fun i=>i ≤ l.length ∧ (∀ j,j < i → V (l.getD j default) = false)) (fun i=>l.length - i) (0) (⟨Nat.zero_le _,qc⟩) ⟨⟨zy,trivial⟩,trivial⟩ ?_
  rintro i ⟨hi,hI⟩
  refine sx7 ?_;refine qy ?_;refine a6 ?_;refine a7 ?_;refine a8 _ rfl (fun r0=>?_) (fun r0=>?_)
  ·
   have h0:=of_decide_eq_true r0
   try simp only [ty] at h0
   refine aa ?_;refine a7 ?_;refine af ?_;refine sx7 ?_;(iterate 2 refine qy ?_);refine a6 ?_;refine sx7 ?_;(iterate 5 refine qy ?_)
   refine rc rfl rfl rfl rfl rfl rfl hg (hV (l.getD i default)) (CoL.refl _) rfl rfl ?_;refine a6 ?_;refine a8 _ rfl (fun r1=>?_) (fun r1=>?_)
   ·
    have h1:=r1
    refine sx7 ?_;(iterate 2 refine qy ?_);refine a6 ?_
    exact hx8 rfl rfl rfl (⟨cci (aln (i:=i) (by omega) hI h1).symm,trivial⟩)
   ·
    have h1:=r1
    refine aa ?_;refine gy ?_;(iterate 2 refine qy ?_);refine a6 ?_;refine ⟨i + 1, ?_, ?_, ?_⟩
    · exact ⟨by show i + 1 ≤ _;omega,p7 hI (h1)⟩
    · first | omega | (dsimp only;omega)
    · exact ⟨⟨zy,c9,c9,c9,trivial⟩,trivial⟩
  ·
   have h0:=of_decide_eq_false r0
   try simp only [ty] at h0
   refine au ?_;refine ⟨(), ?_, ?_⟩
   · exact akn fun j hj=>hI j (by omega)
   · exact ⟨trivial,trivial⟩
 · rintro _ hj
   refine sx7 ?_;refine qy ?_;refine a6 ?_
   exact hx8 rfl rfl rfl (⟨cci hj.symm,trivial⟩)
theorem aff:al Tryd.prog 83:=⟨Tryd.f83,Tryd.func83,by kernel_rfl,by kernel_rfl⟩
theorem al3 (l:List AS) (g k:Nat) (caps:Nat → PV) (V:AS → Bool) (hg:al Tryd.prog g) (hV:∀ x,ao Tryd.prog g (pA x :: i9 caps k 0) (ay [pB (V x)])):ao Tryd.prog 83 [pP (asl l),pP (.fn g k caps)] (ay [pI (idx V l)]):=by
 refine am (nt:=19) ai Tryd.func83 rfl rfl l9 ?_;refine a7 ?_
 refine kr 0 rfl fun hn=>?_
 refine gy ?_;refine qy ?_;refine a6 ?_;refine ji (ι:=Unit) ⟨[],[]⟩ ⟨trivial,trivial⟩ (fun _i=>⟨[],[]⟩) (fun _i=>idx V l = -1) ?_ ?_
 ·
  refine sx7 ?_;(iterate 3 refine qy ?_);refine a6 ?_;refine af ?_
  refine av (ι:=Nat) ⟨[(0,some _),(1,some _),(7,some _)],[]⟩ ⟨⟨c9,c9,c9,trivial⟩,trivial⟩ (fun i=>⟨[(8,some (vI i))],[]⟩) (fun i=>i ≤ l.length ∧ (∀ j,j < i → V (l.getD j default) = false)) (fun i=>l.length - i) (0) (⟨Nat.zero_le _,qc⟩) ⟨⟨zy,trivial⟩,trivial⟩ ?_
  rintro i ⟨hi,hI⟩
  refine sx7 ?_;refine qy ?_;refine a6 ?_;refine a7 ?_;refine a8 _ rfl (fun r0=>?_) (fun r0=>?_)
  ·
   have h0:=of_decide_eq_true r0
   try simp only [ty] at h0
   refine aa ?_;refine a7 ?_;refine af ?_;refine sx7 ?_;(iterate 2 refine qy ?_);refine a6 ?_;refine sx7 ?_;(iterate 5 refine qy ?_)
   refine rc rfl rfl rfl rfl rfl rfl hg (hV (l.getD i default)) (CoL.refl _) rfl rfl ?_;refine a6 ?_;refine a8 _ rfl (fun r1=>?_) (fun r1=>?_)
   ·
    have h1:=r1
    refine sx7 ?_;(iterate 2 refine qy ?_);refine a6 ?_
    exact hx8 rfl rfl rfl (⟨cci (aln (i:=i) (by omega) hI h1).symm,trivial⟩)
   ·
    have h1:=r1
    refine aa ?_;refine gy ?_;(iterate 2 refine qy ?_);refine a6 ?_;refine ⟨i + 1, ?_, ?_, ?_⟩
    · exact ⟨by show i + 1 ≤ _;omega,p7 hI (h1)⟩
    · first | omega | (dsimp only;omega)
    · exact ⟨⟨zy,c9,c9,c9,trivial⟩,trivial⟩
  ·
   have h0:=of_decide_eq_false r0
   try simp only [ty] at h0
   refine au ?_;refine ⟨(), ?_, ?_⟩
   · exact akn fun j hj=>hI j (by omega)
   · exact ⟨trivial,trivial⟩
 · rintro _ hj
   refine sx7 ?_;refine qy ?_;refine a6 ?_
   exact hx8 rfl rfl rfl (⟨cci hj.symm,trivial⟩)
theorem aor:al Tryd.prog 47:=⟨Tryd.f47,Tryd.func47,by kernel_rfl,by kernel_rfl⟩
theorem arx (l:List Fd) (g k:Nat) (caps:Nat → PV) (V:Fd → Bool) (hg:al Tryd.prog g) (hV:∀ x,ao Tryd.prog g (x.pc :: i9 caps k 0) (ay [pB (V x)])):ao Tryd.prog 47 [pP (fdl l),pP (.fn g k caps)] (ay [pB (l.any V)]):=by
 refine am (nt:=9) ai Tryd.func47 rfl rfl l9 ?_;refine sx7 ?_;refine qy ?_;refine a6 ?_;refine sx7 ?_;(iterate 2 refine qy ?_)
 refine rc rfl rfl rfl rfl rfl rfl aql (aqw l g k caps V hg hV) (CoL.refl _) rfl rfl ?_;(iterate 2 refine qy ?_);refine a6 ?_
 exact hx8 rfl rfl rfl (⟨ccb acw,trivial⟩)
theorem ap3:al Tryd.prog 67:=⟨Tryd.f67,Tryd.func67,by kernel_rfl,by kernel_rfl⟩
theorem aqo (l:List AS) (g k:Nat) (caps:Nat → PV) (V:AS → Bool) (hg:al Tryd.prog g) (hV:∀ x,ao Tryd.prog g (pA x :: i9 caps k 0) (ay [pB (V x)])):ao Tryd.prog 67 [pP (asl l),pP (.fn g k caps)] (ay [pB (l.any V)]):=by
 refine am (nt:=9) ai Tryd.func67 rfl rfl l9 ?_;refine sx7 ?_;refine qy ?_;refine a6 ?_;refine sx7 ?_;(iterate 2 refine qy ?_)
 refine rc rfl rfl rfl rfl rfl rfl aff (al3 l g k caps V hg hV) (CoL.refl _) rfl rfl ?_;(iterate 2 refine qy ?_);refine a6 ?_
 exact hx8 rfl rfl rfl (⟨ccb acw,trivial⟩)
theorem aqb:al Tryd.prog 65:=⟨Tryd.f65,Tryd.func65,by kernel_rfl,by kernel_rfl⟩
theorem arn (l:List AS) (g k:Nat) (caps:Nat → PV) (V:AS → Bool) (hg:al Tryd.prog g) (hV:∀ x,ao Tryd.prog g (pA x :: i9 caps k 0) (ay [pB (V x)])):eq Tryd.prog 65 [.one (.ref 900 l.length), .one (.p (.fn g k caps))] [(900, .arr true 1 34 l.length (lf sC l))] (.v (.one (.p (asl (l.filter fun x=>!V x))))) [] []:=by
 refine j2 (nt:=42) ai Tryd.func65 rfl rfl l9 rfl ?_;refine a7 ?_
 refine alo 900 rfl fun hlen=>?_
 refine gy ?_;refine qy ?_;refine a6 ?_;refine sx7 ?_;(iterate 2 refine qy ?_);refine rc rfl rfl rfl rfl rfl rfl aff (al3 l g k caps V hg hV) (CoL.refl _) rfl rfl ?_;refine qy ?_;refine a6 ?_;refine a7 ?_
 refine sx7 ?_;(iterate 2 refine qy ?_);refine a6 ?_;refine a8 _ rfl (fun r0=>?_) (fun r0=>?_)
 ·
  have h0:=of_decide_eq_true r0
  try simp only [ty] at h0
  refine sx7 ?_;(iterate 2 refine qy ?_);refine a6 ?_;refine c8 4 rfl rfl rfl ?_;refine dc ?_;refine ⟨.inr rfl, ?_⟩
  exact ⟨_,_,rfl,(by (repeat' apply And.intro) <;> first | trivial | exact Nat.le_of_ble_eq_true rfl),ams (agv (by assumption)),trivial⟩
 ·
  have h0:=of_decide_eq_false r0
  try simp only [ty] at h0
  obtain ⟨i0,hi0,hi1,hi2,hi3⟩:=ai6 h0
  refine aa ?_;refine a7 ?_;refine sx7 ?_;(iterate 3 refine qy ?_);refine a6 ?_;refine af ?_
  refine av (ι:=Nat × Nat × List AS) ⟨[(0,some _),(1,some _)],[]⟩ ⟨⟨c9,c9,trivial⟩,trivial⟩ (fun x=>⟨[(5,some (vI x.1)),(6,some (vI x.2.1))],[(900,some (.arr true 1 34 l.length (lf sC x.2.2)))]⟩) (fun x=>DfI V l x.1 x.2.1 x.2.2) (fun x=>l.length - x.2.1) ((i0,i0 + 1,l)) (DfI.start hi1 hi2 hi3) ⟨⟨⟨_,rfl,(coi hi0)⟩,⟨_,rfl,(coi (by dsimp only;omega))⟩,trivial⟩,⟨u9,trivial⟩⟩ ?_
  rintro x hC
  have hC0:=hC
  obtain ⟨hml,hkq,hql,_,_⟩:=hC0
  refine a7 ?_;refine sx7 ?_;(iterate 4 refine qy ?_);refine a6 ?_;refine a8 _ rfl (fun r1=>?_) (fun r1=>?_)
  ·
   have h1:=of_decide_eq_true r1
   try simp only [ty] at h1
   refine aa ?_;refine a7 ?_;refine af ?_;refine sx7 ?_;(iterate 5 refine qy ?_);refine a6 ?_;refine sx7 ?_;(iterate 2 refine qy ?_)
   refine rc rfl rfl rfl rfl rfl rfl hg (hV (x.2.2.getD (x.2.1:Int).toNat default)) (CoL.refl _) rfl rfl ?_;refine qy ?_;refine a6 ?_;refine a8 _ rfl (fun r2=>?_) (fun r2=>?_)
   ·
    have h2:=r2
    have h2:=cb h2
    have hv:=h2
    refine sx7 ?_;(iterate 4 refine qy ?_);refine s9 ?_;refine a6 ?_;refine gy ?_;(iterate 3 refine qy ?_);refine a6 ?_;refine gy ?_;(iterate 3 refine qy ?_);refine a6 ?_
    first | (refine ⟨(x.1 + 1, x.2.1 + 1, x.2.2.set x.1 (x.2.2.getD x.2.1 default)), ?_, ?_, ?_⟩
             · exact hC.keep (by omega) (by simpa using hv)
             · first | omega | (dsimp only;omega)
             · exact ⟨⟨⟨_,rfl,(coi (by first | rfl | (dsimp only;omega)))⟩,⟨_,rfl,(coi (by first | rfl | (dsimp only;omega)))⟩,c9,c9,trivial⟩,⟨⟨_,rfl,(xm id hml.symm (by omega) (by omega) (by omega))⟩,trivial⟩⟩)
          | (refine ⟨(x.1,x.2.1 + 1,x.2.2), ?_, ?_, ?_⟩
             · exact hC.skip (by omega) (by simpa using hv)
             · first | omega | (dsimp only;omega)
             · exact ⟨⟨⟨_,rfl,(coi (by first | rfl | (dsimp only;omega)))⟩,⟨_,rfl,(coi (by first | rfl | (dsimp only;omega)))⟩,c9,c9,trivial⟩,⟨u9,trivial⟩⟩)
   ·
    have h2:=r2
    have h2:=ce h2
    have hv:=h2
    refine aa ?_;refine gy ?_;(iterate 3 refine qy ?_);refine a6 ?_
    first | (refine ⟨(x.1 + 1, x.2.1 + 1, x.2.2.set x.1 (x.2.2.getD x.2.1 default)), ?_, ?_, ?_⟩
             · exact hC.keep (by omega) (by simpa using hv)
             · first | omega | (dsimp only;omega)
             · exact ⟨⟨⟨_,rfl,(coi (by first | rfl | (dsimp only;omega)))⟩,⟨_,rfl,(coi (by first | rfl | (dsimp only;omega)))⟩,c9,c9,trivial⟩,⟨⟨_,rfl,(xm id hml.symm (by omega) (by omega) (by omega))⟩,trivial⟩⟩)
          | (refine ⟨(x.1,x.2.1 + 1,x.2.2), ?_, ?_, ?_⟩
             · exact hC.skip (by omega) (by simpa using hv)
             · first | omega | (dsimp only;omega)
             · exact ⟨⟨⟨_,rfl,(coi (by first | rfl | (dsimp only;omega)))⟩,⟨_,rfl,(coi (by first | rfl | (dsimp only;omega)))⟩,c9,c9,trivial⟩,⟨u9,trivial⟩⟩)
  ·
   have h1:=of_decide_eq_false r1
   try simp only [ty] at h1
   have hq:=h1
   refine au ?_;refine sx7 ?_;(iterate 3 refine qy ?_);refine ra 0 true rfl rfl rfl rfl rfl rfl ?_;refine a6 ?_;refine sx7 ?_;(iterate 2 refine qy ?_);refine aq2 rfl rfl rfl rfl rfl ?_;refine qy ?_
   refine a6 ?_;refine dc ?_;refine ⟨.inr rfl, ?_⟩
   exact ⟨_,_,rfl,(by (repeat' apply And.intro) <;> first | trivial | exact Nat.le_of_ble_eq_true rfl),amz hC (by omega) (by simp [bt]),trivial⟩
end Go.Hx
end
section
namespace Go.Hx
def i7 (s:AS) (i:Int):Bool:=decide (0 ≤ i ∧ i < 32) && s.getLsbD i.toNat
theorem p9 {s:AS} {i:Nat} (h:i < 32):i7 s i = s.getLsbD i:=by
 unfold i7
 rw [decide_eq_true (by omega)]
 simp
theorem ab0 {s:AS} {i:Int} (h0:0 ≤ i) (h1:i < 32):decide (bz .and .u32 ((asI s).fdiv (2 ^ (min i.toNat 32))) 1 = 1) = i7 s i:=by
 unfold i7
 rw [un,show (1:Int) = asI 1 from rfl,fc,decide_eq_true (show 0 ≤ i ∧ i < 32 from ⟨h0,h1⟩),Bool.true_and]
 have e:asI (s >>> i.toNat &&& 1) = asI 1 ↔ s.getLsbD i.toNat = true:=by
  rw [dt]
  constructor
  · intro h
    have:=congrArg (fun x:AS=>x.getLsbD 0) h
    simpa using this
  · intro h
    apply BitVec.eq_of_getLsbD_eq
    intro k hk
    have h1:(1:AS).getLsbD k = decide (k = 0):=by have:=yf 0 k hk;simpa using this
    rw [BitVec.getLsbD_and,BitVec.getLsbD_ushiftRight,h1]
    by_cases hk0:k = 0
    · subst hk0;simp [h]
    · simp [hk0]
 cases hb:s.getLsbD i.toNat with
 | true=>exact decide_eq_true (e.2 hb)
 | false=>exact decide_eq_false fun h=>by rw [e.1 h] at hb;cases hb
theorem a17 {s:AS} {i:Int} (h:¬ (0 ≤ i ∧ i < 32)):i7 s i = false:=by
 unfold i7
 rw [decide_eq_false h]
 rfl
theorem a8f {n:Nat} (h:n ≤ 32):ja n = BitVec.ofNat 32 (2 ^ n - 1):=by
 apply BitVec.eq_of_getLsbD_eq
 intro k hk
 rw [n8 n k hk,BitVec.getLsbD_ofNat,Nat.testBit_two_pow_sub_one]
 simp [hk]
theorem a8a {n:Nat} (h:n ≤ 32):(ja n).toNat = 2 ^ n - 1:=by
 have h2:2 ^ n ≤ 2 ^ 32:=Nat.pow_le_pow_right (by omega) h
 have h3:0 < 2 ^ n:=Nat.two_pow_pos n
 rw [a8f h,BitVec.toNat_ofNat,Nat.mod_eq_of_lt (by omega)]
theorem aa7 {n:Int} {l:List Fd} (h:cu n l = 0):0 ≤ n ∧ n ≤ 16 ∧ l.length ≤ 64 ∧ l.all (inU n) = true:=by
 unfold cu at h
 split at h
 · cases h
 · split at h
   · cases h
   · split at h
     · rename_i h1 h2 h3
       exact ⟨by omega,by omega,by omega,h3⟩
     · cases h
theorem xb {n:Int} (h0:0 ≤ n) (h1:n ≤ 16):IntKind.wrap .u32 (1 * 2 ^ (min n.toNat 32)) - 1 = asI (ah n):=by
 have h2:2 ^ n.toNat ≤ 2 ^ 16:=Nat.pow_le_pow_right (by omega) (by omega)
 have h3:0 < 2 ^ n.toNat:=Nat.two_pow_pos _
 rw [show IntKind.wrap .u32 (1 * 2 ^ (min n.toNat 32)) = asI ((1:AS) <<< n.toNat) from ahr 1 n.toNat]
 unfold ah asI
 rw [Nat.min_eq_left (by omega),a8a (by omega),BitVec.toNat_shiftLeft,Nat.shiftLeft_eq]
 rw [show (1:AS).toNat = 1 from rfl,Nat.one_mul,Nat.mod_eq_of_lt (by omega)]
 omega
theorem a0j {n:Int} (h0:0 ≤ n) (h1:n ≤ 16):0 ≤ IntKind.wrap .u32 (1 * 2 ^ (min n.toNat 32)) - 1:=by rw [xb h0 h1];exact a1g _
theorem wa {n:Int} (h0:0 ≤ n) (h1:n ≤ 16):IntKind.wrap .u32 (1 * 2 ^ (min n.toNat 32)) - 1 ≤ 4294967295:=by rw [xb h0 h1];have:=a63 (ah n);omega
def a38 (n:Int) (l:List Fd) (s:AS):Bool:=decide (cu n l = 0 ∧ sub s (ah n) ∧ clo l s = ah n)
section
variable {n:Int} {l:List Fd} {s:AS}
end
def zq (n:Int) (l:List Fd) (m:Int):Int:=if cu n l = 0 then (if m < n then 3 else 0) else cu n l
structure Dp where
 l:BitVec 8
 r:BitVec 8
deriving Inhabited
def Dp.c (d:Dp):Nat → PV
 | 0=>.raw (.int .u8 (d.l.toNat:Int))
 | 1=>.raw (.int .u8 (d.r.toNat:Int))
 | _=>.any
abbrev dpl (l:List Dp):PV:=psl 2 Dp.c l
def Dp.fd (n:Int) (d:Dp):Fd:=⟨d.l.setWidth 32 &&& ah n,d.r.setWidth 32 &&& ah n⟩
theorem ll (b:BitVec 8) (t:AS):bz .and .u32 (b.toNat:Int) (asI t) = asI (b.setWidth 32 &&& t):=by
 have h:=b.isLt
 have e:asI (b.setWidth 32) = (b.toNat:Int):=by
  unfold asI
  rw [BitVec.toNat_setWidth,Nat.mod_eq_of_lt (by omega)]
 rw [← fc,e]
end Go.Hx
end
section
namespace Go.Hx
open Go.Proofs
set_option maxRecDepth 100000
theorem ao6:al Tryd.prog 50:=⟨Tryd.f50,Tryd.func50,by kernel_rfl,by kernel_rfl⟩
theorem as1 (s:AS) (i:Int):ao Tryd.prog 50 [pA s,pI i] (ay [pB (i7 s i)]):=by
 refine am (nt:=18) ai Tryd.func50 rfl rfl l9 ?_;refine sx7 ?_;refine qy ?_;refine a6 ?_;refine sx7 ?_;(iterate 3 refine qy ?_);refine ct rfl rfl (fun r0=>?_) (fun r0=>?_)
 ·
  have h0:=of_decide_eq_true r0
  try simp only [ty] at h0
  (iterate 2 refine qy ?_ (hg:=(gtt r0)));(iterate 2 refine qy ?_);refine ct rfl rfl (fun r1=>?_) (fun r1=>?_)
  ·
   have h1:=r1
   have h1:=ef r0 h1
   have h1:=of_decide_eq_true h1
   try simp only [ty] at h1
   (iterate 5 refine qy ?_ (hg:=(gtt r1)));(iterate 2 refine qy ?_);refine a6 ?_
   exact hx8 rfl rfl rfl (⟨ccb (by first | exact a7m (by assumption) (ab0 (by omega) (by omega)) | exact (a17 (by omega)).symm),trivial⟩)
  ·
   have h1:=r1
   have h1:=ef r0 h1
   have h1:=of_decide_eq_false h1
   try simp only [ty] at h1
   (iterate 5 refine k9 (gft r1) ?_);refine rq rfl rfl rfl rfl rfl ?_ (hp:=r1);refine qy ?_;refine a6 ?_
   exact hx8 rfl rfl rfl (⟨ccb (by first | exact a7m (by assumption) (ab0 (by omega) (by omega)) | exact (a17 (by omega)).symm),trivial⟩)
 ·
  have h0:=of_decide_eq_false r0
  try simp only [ty] at h0
  (iterate 2 refine k9 (gft r0) ?_);refine rq rfl rfl rfl rfl rfl ?_ (hp:=r0);refine qy ?_;(iterate 5 refine k9 rfl ?_);(iterate 2 refine qy ?_);refine a6 ?_
  exact hx8 rfl rfl rfl (⟨ccb (by first | exact a7m (by assumption) (ab0 (by omega) (by omega)) | exact (a17 (by omega)).symm),trivial⟩)
end Go.Hx
end
section
namespace Go.Hx
def bsz (s:AS):Nat:=(List.range 32).countP fun i=>s.getLsbD i
def bef (a b:AS):Bool:=decide (bsz a < bsz b) || (decide (bsz a = bsz b) && decide (a.toNat < b.toNat))
theorem ss (a:AS):bef a a = false:=by simp [bef]
theorem ik {a b:AS}:bef a b = true ↔ bsz a < bsz b ∨ (bsz a = bsz b ∧ a.toNat < b.toNat):=by simp [bef]
theorem l6 {a b c:AS} (h:bef a b = true) (k:bef b c = true):bef a c = true:=by
 rw [ik] at *
 omega
theorem xo {a b:AS} (h:a ≠ b):bef a b = true ∨ bef b a = true:=by
 have hn:a.toNat ≠ b.toNat:=fun e=>h (BitVec.eq_of_toNat_eq e)
 rw [ik,ik]
 omega
theorem ajf {a b:AS} (h:bef a b = true):bef b a = false:=by
 rw [Bool.eq_false_iff]
 intro k
 have:=l6 h k
 rw [ss] at this
 cases this
def jv (l:List AS):Prop:=l.Pairwise fun a b=>bef a b = true
theorem kd:∀ {l k:List AS},jv l → jv k → (∀ x,x ∈ l ↔ x ∈ k) → l = k
 | [],[],_,_,_=>rfl
 | [],y :: k,_,_,h=>absurd ((h y).2 (List.mem_cons_self ..)) (by simp)
 | x :: l,[],_,_,h=>absurd ((h x).1 (List.mem_cons_self ..)) (by simp)
 | x :: l,y :: k,hl,hk,h=>by
  obtain ⟨h1,h2⟩:=List.pairwise_cons.1 hl
  obtain ⟨k1,k2⟩:=List.pairwise_cons.1 hk
  have e:x = y:=by
   rcases List.mem_cons.1 ((h x).1 (List.mem_cons_self ..)) with e | hx
   · exact e
   · rcases List.mem_cons.1 ((h y).2 (List.mem_cons_self ..)) with e | hy
     · exact e.symm
     · have:=ajf (k1 x hx)
       rw [h1 y hy] at this
       cases this
  subst e
  congr 1
  refine kd h2 k2 fun z=>?_
  constructor
  · intro hz
    rcases List.mem_cons.1 ((h z).1 (List.mem_cons_of_mem _ hz)) with e | hz'
    · subst e
      have:=h1 z hz
      rw [ss] at this
      cases this
    · exact hz'
  · intro hz
    rcases List.mem_cons.1 ((h z).2 (List.mem_cons_of_mem _ hz)) with e | hz'
    · subst e
      have:=k1 z hz
      rw [ss] at this
      cases this
    · exact hz'
def gv (x:AS):List AS → List AS
 | []=>[x]
 | y :: l=>if x = y then y :: l else if bef x y = true then x :: y :: l else y :: gv x l
theorem pg {x z:AS}:∀ {l:List AS},z ∈ gv x l ↔ z = x ∨ z ∈ l
 | []=>by simp [gv]
 | y :: l=>by
  unfold gv
  split
  · rename_i e
    subst e
    simp
  · split
    · simp
    · rw [List.mem_cons,pg,List.mem_cons]
      constructor
      · rintro (h | h | h) <;> simp [h]
      · rintro (h | h | h) <;> simp [h]
theorem qp {x:AS}:∀ {l:List AS},jv l → jv (gv x l)
 | [],_=>by simp [gv,jv]
 | y :: l,h=>by
  obtain ⟨h1,h2⟩:=List.pairwise_cons.1 h
  unfold gv
  split
  · exact h
  · split
    · rename_i hxy
      refine List.pairwise_cons.2 ⟨fun z hz=>?_,h⟩
      rcases List.mem_cons.1 hz with rfl | hz
      · exact hxy
      · exact l6 hxy (h1 z hz)
    · rename_i hne hxy
      refine List.pairwise_cons.2 ⟨fun z hz=>?_,qp h2⟩
      rcases pg.1 hz with rfl | hz
      · exact (xo hne).resolve_left hxy
      · exact h1 z hz
def ord (l:List AS):List AS:=l.foldl (fun o x=>gv x o) []
theorem a3b:∀ {l o:List AS},jv o → jv (l.foldl (fun o x=>gv x o) o) ∧ ∀ z,z ∈ l.foldl (fun o x=>gv x o) o ↔ z ∈ o ∨ z ∈ l
 | [],o,h=>⟨h,fun z=>by simp⟩
 | x :: l,o,h=>by
  obtain ⟨h1,h2⟩:=a3b (l:=l) (qp (x:=x) h)
  refine ⟨h1,fun z=>?_⟩
  show z ∈ l.foldl (fun o x=>gv x o) (gv x o) ↔ _
  rw [h2 z,pg,List.mem_cons]
  constructor
  · rintro ((h | h) | h) <;> simp [h]
  · rintro (h | h | h) <;> simp [h]
theorem en (l:List AS):jv (ord l):=(a3b (o:=[]) List.Pairwise.nil).1
theorem i6 {l:List AS} {z:AS}:z ∈ ord l ↔ z ∈ l:=by
 show z ∈ l.foldl (fun o x=>gv x o) [] ↔ _
 rw [(a3b (l:=l) (o:=[]) List.Pairwise.nil).2 z]
 simp
theorem af2 {l k:List AS} (hk:jv k) (h:∀ z,z ∈ k ↔ z ∈ l):k = ord l:=kd hk (en l) fun z=>by rw [h z,i6]
end Go.Hx
end
section
namespace Go.Hx
def bi (s:AS):List Nat:=(List.range 32).filter fun i=>s.getLsbD i
def iC:Nat → Nat → PV:=fun n _=>.raw (.int .i64 (n:Int))
abbrev il (l:List Nat):PV:=psl 1 iC l
theorem l7 (s:AS):bsz s = (bi s).length:=by unfold bsz bi;rw [List.countP_eq_length_filter]
theorem iq {s:AS} {i:Nat}:i ∈ bi s ↔ i < 32 ∧ s.getLsbD i = true:=by simp [bi,List.mem_filter,List.mem_range]
theorem xa {p:Nat → Bool} {t:Nat}:∀ {l:List Nat},l.Pairwise (· < ·) → t ∈ l → p t = true → (∀ k,k < t → p k = false) → l.filter p = t :: l.filter fun k=>decide (k ≠ t) && p k
 | [],_,h,_,_=>by cases h
 | a :: l,hp,hm,h1,h2=>by
  obtain ⟨q1,q2⟩:=List.pairwise_cons.1 hp
  by_cases ha:a = t
  · subst ha
    have e:l.filter p = l.filter fun k=>decide (k ≠ a) && p k:=by
     apply List.filter_congr
     intro k hk
     have:=q1 k hk
     rw [decide_eq_true (by omega),Bool.true_and]
    simp [List.filter_cons,h1,e]
  · have hm':t ∈ l:=by
     rcases List.mem_cons.1 hm with h | h
     · exact absurd h.symm ha
     · exact h
    have:=q1 t hm'
    have hpa:=h2 a this
    simp [List.filter_cons,hpa,xa q2 hm' h1 h2]
def jf (s:AS):Nat:=Lib.ctz 32 s.toNat
theorem ag0 {s:AS} (h:s ≠ 0):∃ m,s.toNat = 2 ^ (jf s + 1) * m + 2 ^ jf s ∧ jf s < 32:=by
 have h0:s.toNat ≠ 0:=fun e=>h (BitVec.eq_of_toNat_eq e)
 obtain ⟨m,h1,h2⟩:=Lib.ctzFrom_spec 32 s.toNat (by omega) s.isLt
 have e:jf s = Lib.ctzFrom 32 s.toNat:=by unfold jf Lib.ctz;rw [if_neg h0]
 rw [e]
 refine ⟨m, ?_,h2⟩
 rw [Nat.pow_succ]
 rw [h1] at *
 simp only [Nat.mul_add,Nat.mul_assoc,Nat.mul_one] at *
 exact h1
theorem xc {s:AS} (h:s ≠ 0):jf s < 32 ∧ s.getLsbD (jf s) = true ∧ (∀ k,k < jf s → s.getLsbD k = false) ∧ s &&& (s - 1) = s &&& ~~~((1:AS) <<< jf s):=by
 obtain ⟨m,h1,h2⟩:=ag0 h
 generalize jf s = t at *
 have hp:2 ^ t < 2 ^ (t + 1):=Nat.pow_lt_pow_right (by omega) (by omega)
 have hb:∀ k,s.getLsbD k = if k < t + 1 then (2 ^ t).testBit k else m.testBit (k - (t + 1)):=fun k=>by
  show s.toNat.testBit k = _
  rw [h1,Nat.testBit_two_pow_mul_add _ hp]
 have hq:0 < 2 ^ t:=Nat.two_pow_pos t
 have e1:(s - 1).toNat = 2 ^ (t + 1) * m + (2 ^ t - 1):=by
  have:=s.isLt
  rw [BitVec.toNat_sub]
  show (2 ^ 32 - 1 + s.toNat) % 2 ^ 32 = _
  omega
 have hd:∀ k,(s - 1).getLsbD k = if k < t + 1 then (2 ^ t - 1).testBit k else m.testBit (k - (t + 1)):=fun k=>by
  show (s - 1).toNat.testBit k = _
  rw [e1,Nat.testBit_two_pow_mul_add _ (by omega)]
 refine ⟨h2, ?_,fun k hk=>?_, ?_⟩
 · rw [hb,if_pos (by omega),Nat.testBit_two_pow_self]
 · rw [hb,if_pos (by omega),Nat.testBit_two_pow]
   simp;omega
 · apply BitVec.eq_of_getLsbD_eq
   intro k hk
   rw [BitVec.getLsbD_and,BitVec.getLsbD_and,BitVec.getLsbD_not,yf _ _ hk,hd k,hb k]
   by_cases h3:k < t + 1
   · rw [if_pos h3,if_pos h3,Nat.testBit_two_pow,Nat.testBit_two_pow_sub_one]
     by_cases h4:k = t
     · subst h4;simp
     · have:¬ t = k:=fun e=>h4 e.symm
       simp [this]
   · rw [if_neg h3,if_neg h3]
     have:¬ k = t:=by omega
     simp [hk,this]
theorem vo {s:AS} (h:s ≠ 0) (k:Nat) (hk:k < 32):(s &&& (s - 1)).getLsbD k = (decide (k ≠ jf s) && s.getLsbD k):=by
 rw [(xc h).2.2.2,BitVec.getLsbD_and,BitVec.getLsbD_not,yf _ _ hk]
 by_cases e:k = jf s <;> simp [e,hk,Bool.and_comm]
theorem aep {s:AS} (h:s ≠ 0):bi s = jf s :: bi (s &&& (s - 1)):=by
 obtain ⟨h1,h2,h3,_⟩:=xc h
 unfold bi
 rw [xa List.pairwise_lt_range (List.mem_range.2 h1) h2 h3]
 congr 1
 apply List.filter_congr
 intro k hk
 rw [vo h k (List.mem_range.1 hk)]
theorem ac1:bi 0 = []:=by
 unfold bi
 rw [List.filter_eq_nil_iff]
 intro k _
 simp
theorem ai1 {s:AS} (h:s ≠ 0):(s &&& (s - 1)).toNat < s.toNat:=by
 refine a7c (ar.2 fun i hi hb=>?_) fun e=>?_
 · rw [vo h i hi] at hb
   simp only [Bool.and_eq_true] at hb
   exact hb.2
 · have:=vo h (jf s) (xc h).1
   rw [e,(xc h).2.1] at this
   simp at this
end Go.Hx
end
