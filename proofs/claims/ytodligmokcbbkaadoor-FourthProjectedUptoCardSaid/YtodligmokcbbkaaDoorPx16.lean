/- A part of the proof: V1 Cs4 Cl1 V3 Cl2 V4 Cs5 V5 Cs2. -/
import Derived.Test.YtodligmokcbbkaaDoorPx15
set_option linter.all false
section
namespace Go.Hx
open Go.Proofs
set_option maxRecDepth 100000
theorem anl:am Tryd.prog 33:=⟨Tryd.f33,Tryd.func33,by kernel_rfl,by kernel_rfl⟩
theorem ar6 (a b:AS):ao Tryd.prog 33 [pA a,pA b] (ay [pB (decide (sub a b))]):=by
 refine ak (nt:=10) ai Tryd.func33 rfl rfl l9 ?_;refine sx7 ?_;refine qy ?_;refine a6 ?_;refine sx7 ?_;(iterate 6 refine qy ?_);refine a6 ?_
 exact hx8 rfl rfl rfl (⟨ccb (decide_eq_decide.2 (by rw [iz,fb];exact al1.symm)),trivial⟩)
theorem ao8:am Tryd.prog 49:=⟨Tryd.f49,Tryd.func49,by kernel_rfl,by kernel_rfl⟩
theorem am2 (n:Int) (l:List Fd):ao Tryd.prog 49 [pI n,pP (fdl l)] (ay [pI (d8 n l)]):=by
 refine ak (nt:=31) ai Tryd.func49 rfl rfl l9 ?_;refine a7 ?_
 refine l4 1 rfl fun hlen=>?_
 refine gy ?_;refine qy ?_;refine a6 ?_;refine a7 ?_;refine sx7 ?_;(iterate 3 refine qy ?_);refine c4 rfl rfl (fun r0=>?_) (fun r0=>?_)
 ·
  have h0:=of_decide_eq_true r0
  try simp only [ty] at h0
  (iterate 2 refine k9 (gtf r0) ?_);refine rq rfl rfl rfl rfl rfl ?_ (hp:=r0);refine a6 ?_;refine a8 _ rfl (fun _=>?_) (fun e=>by cases e);refine sx7 ?_;refine qy ?_;refine a6 ?_
  exact hx8 rfl rfl rfl (⟨cci (by rw [d8,if_pos (by omega)]),trivial⟩)
 ·
  have h0:=of_decide_eq_false r0
  try simp only [ty] at h0
  (iterate 2 refine qy ?_ (hg:=(gff r0)));refine qy ?_;refine a6 ?_;refine a8 _ rfl (fun r1=>?_) (fun r1=>?_)
  ·
   have h1:=r1
   have h1:=fk r0 h1
   have h1:=of_decide_eq_true h1
   try simp only [ty] at h1
   refine sx7 ?_;refine qy ?_;refine a6 ?_
   exact hx8 rfl rfl rfl (⟨cci (by rw [d8,if_pos (by omega)]),trivial⟩)
  ·
   have h1:=r1
   have h1:=fk r0 h1
   have h1:=of_decide_eq_false h1
   try simp only [ty] at h1
   refine aa ?_;refine a7 ?_;refine sx7 ?_;(iterate 3 refine qy ?_);refine a6 ?_;refine a8 _ rfl (fun r2=>?_) (fun r2=>?_)
   ·
    have h2:=of_decide_eq_true r2
    try simp only [ty] at h2
    refine sx7 ?_;refine qy ?_;refine a6 ?_
    exact hx8 rfl rfl rfl (⟨cci (by rw [d8,if_neg (by omega),if_pos (by omega)]),trivial⟩)
   ·
    have h2:=of_decide_eq_false r2
    try simp only [ty] at h2
    refine aa ?_;refine a7 ?_;refine sx7 ?_;(iterate 3 refine qy ?_);refine a6 ?_;refine ah ?_
    refine b4 (ι:=Nat) ⟨[(0,some _),(16,some _),(17,some _)],[]⟩ ⟨⟨c9,c9,c9,trivial⟩,trivial⟩ (fun i=>⟨[(18,some (vI i))],[]⟩) (fun i=>i ≤ l.length ∧ ∀ j,j < i → inU n (l.getD j default) = true) (fun i=>l.length - i) (0) (⟨Nat.zero_le _,fun j hj=>absurd hj (Nat.not_lt_zero j)⟩) ⟨⟨zy,trivial⟩,trivial⟩ ?_
    rintro i ⟨hi,hI⟩
    refine sx7 ?_;refine qy ?_;refine a6 ?_;refine a7 ?_;refine a8 _ rfl (fun r3=>?_) (fun r3=>?_)
    ·
     have h3:=of_decide_eq_true r3
     try simp only [ty] at h3
     refine aa ?_;refine a7 ?_;refine ah ?_;refine sx7 ?_;(iterate 2 refine qy ?_);refine m9 0 ?_;refine s9 ?_;refine a6 ?_;refine sx7 ?_;(iterate 8 refine qy ?_);refine a6 ?_
     refine a8 _ rfl (fun r4=>?_) (fun r4=>?_)
     ·
      have h4:=r4
      have h4:=of_decide_eq_false (bn h4)
      try simp only [ty] at h4
      refine sx7 ?_;refine qy ?_;refine a6 ?_
      exact hx8 rfl rfl rfl (⟨cci (by rw [d8,if_neg (by omega),if_neg (by omega),if_neg (fun e=>absurd (ac4 (l:=l) (p:=inU n) (i:=i) (by omega) (by rw [Bool.eq_false_iff];exact fun e=>absurd (zw.2 e) (by assumption))) (by rw [e];decide))]),trivial⟩)
     ·
      have h4:=r4
      have h4:=of_decide_eq_true (bm h4)
      try simp only [ty] at h4
      refine aa ?_;refine gy ?_;(iterate 2 refine qy ?_);refine a6 ?_;refine ⟨i + 1, ?_, ?_, ?_⟩
      · refine ⟨by omega,fun j hj=>?_⟩
        rcases Nat.lt_or_eq_of_le (Nat.le_of_lt_succ hj) with h | h
        · exact hI j h
        · subst h
          exact zw.1 (by assumption)
      · first | omega | (dsimp only;omega)
      · exact ⟨⟨zy,c9,c9,c9,trivial⟩,trivial⟩
    ·
     have h3:=of_decide_eq_false r3
     try simp only [ty] at h3
     obtain rfl:i = l.length:=by omega
     refine az ?_;refine sx7 ?_;refine qy ?_;refine a6 ?_
     exact hx8 rfl rfl rfl (⟨cci (by rw [d8,if_neg (by omega),if_neg (by omega),if_pos (ads fun j hj=>hI j hj)]),trivial⟩)
theorem ya:am Tryd.prog 10:=⟨Tryd.f10,Tryd.func10,by kernel_rfl,by kernel_rfl⟩
theorem xk (n:Int):ao Tryd.prog 10 [pI n] (ay [pA (aq n)]):=by
 refine ak (nt:=19) ai Tryd.func10 rfl rfl l9 ?_;refine sx7 ?_;refine qy ?_;refine a6 ?_;refine sx7 ?_;refine qy ?_;refine a6 ?_;refine a7 ?_;refine sx7 ?_;refine qy ?_;refine a6 ?_
 refine ah ?_
 refine b4 (ι:=Nat) ⟨[(0,some _)],[]⟩ ⟨⟨c9,trivial⟩,trivial⟩ (fun i=>⟨[(4,some (vI i)),(3,some (vA (jm i)))],[]⟩) (fun i=>i ≤ min n.toNat 32) (fun i=>min n.toNat 32 - i) (0) (Nat.zero_le _) ⟨⟨zy,zy,trivial⟩,trivial⟩ ?_
 rintro i hi
 refine a7 ?_;refine sx7 ?_;(iterate 4 refine qy ?_);refine c4 rfl rfl (fun r0=>?_) (fun r0=>?_)
 ·
  have h0:=of_decide_eq_true r0
  try simp only [ty] at h0
  (iterate 2 refine qy ?_ (hg:=(gtt r0)));refine qy ?_;refine a6 ?_;refine a8 _ rfl (fun r1=>?_) (fun r1=>?_)
  ·
   have h1:=r1
   have h1:=dg r0 h1
   have h1:=of_decide_eq_true h1
   try simp only [ty] at h1
   refine aa ?_;refine a7 ?_;refine ah ?_;refine gy ?_;(iterate 5 refine qy ?_);refine a6 ?_;refine gy ?_;(iterate 3 refine qy ?_);refine a6 ?_;refine ⟨i + 1, ?_, ?_, ?_⟩
   · show i + 1 ≤ _;omega
   · first | omega | (dsimp only;omega)
   · exact ⟨⟨zy,⟨_,rfl,(by simp only [Int.toNat_natCast];exact l7 (aev i))⟩,c9,trivial⟩,trivial⟩
  ·
   have h1:=r1
   have h1:=dg r0 h1
   have h1:=of_decide_eq_false h1
   try simp only [ty] at h1
   obtain rfl:i = min n.toNat 32:=by omega
   refine az ?_;refine sx7 ?_;(iterate 2 refine qy ?_);refine a6 ?_
   exact hx8 rfl rfl rfl (CoL.refl _)
 ·
  have h0:=of_decide_eq_false r0
  try simp only [ty] at h0
  obtain rfl:i = min n.toNat 32:=by omega
  (iterate 2 refine k9 (gft r0) ?_);refine rq rfl rfl rfl rfl rfl ?_ (hp:=r0);refine a6 ?_;refine a8 _ rfl (fun e=>by cases e) (fun _=>?_);refine az ?_;refine sx7 ?_;(iterate 2 refine qy ?_)
  refine a6 ?_
  exact hx8 rfl rfl rfl (CoL.refl _)
end Go.Hx
end
section
namespace Go.Hx
theorem zo (i k:Nat) (hk:k < 32):((1:AS) <<< i).getLsbD k = decide (k = i):=by
 rw [BitVec.getLsbD_shiftLeft]
 by_cases h:k < i
 · simp [h,hk];omega
 · by_cases e:k = i
   · subst e;simp [hk]
   · have:0 < k - i:=by omega
     simp [hk,h,e,BitVec.getLsbD_one]
     omega
theorem ju:∀ (n k:Nat),k < 32 → (jm n).getLsbD k = decide (k < n)
 | 0,k,hk=>by simp [jm]
 | n + 1,k,hk=>by
  rw [a40,BitVec.getLsbD_or,ju n k hk,zo n k hk]
  by_cases h:k < n
  · simp [h];omega
  · by_cases e:k = n
    · simp [e]
    · simp [h,e];omega
theorem ao2 {s:AS} {n:Nat}:s >>> n = 0 ↔ ∀ k,k < 32 → n ≤ k → s.getLsbD k = false:=by
 constructor
 · intro h k hk hn
   have:=congrArg (fun x:AS=>x.getLsbD (k - n)) h
   simp only [BitVec.getLsbD_ushiftRight] at this
   rw [show n + (k - n) = k by omega] at this
   simpa using this
 · intro h
   apply BitVec.eq_of_getLsbD_eq
   intro i hi
   rw [BitVec.getLsbD_ushiftRight]
   by_cases hk:n + i < 32
   · rw [h (n + i) hk (by omega)];simp
   · rw [BitVec.getLsbD_of_ge _ _ (by omega)];simp
theorem vq {s:AS} {n:Nat} (hn:n ≤ 32):sub s (jm n) ↔ s >>> n = 0:=by
 rw [bo,ao2]
 constructor
 · intro h k hk hle
   rw [Bool.eq_false_iff]
   intro e
   have:=h k hk e
   rw [ju n k hk,decide_eq_true_iff] at this
   omega
 · intro h k hk e
   rw [ju n k hk,decide_eq_true_iff]
   apply Nat.lt_of_not_le
   intro hle
   rw [h k hk hle] at e
   cases e
theorem aba {n:Int} (hn:0 ≤ n) (h16:n ≤ 16) {f:Fd}:inU n f = true ↔ sub f.lhs (aq n) ∧ sub f.rhs (aq n):=by
 unfold inU aq
 rw [decide_eq_true_iff,Nat.min_eq_left (by omega),← vq (by omega)]
 exact ⟨fun h=>⟨ny va h,ny a14 h⟩,fun h=>tv h.1 h.2⟩
abbrev Fd.pc (f:Fd):PC:=.agg [f.c 0,f.c 1]
def imp (l:List Fd) (f:Fd):Bool:=decide (sub f.rhs (clo l f.lhs))
end Go.Hx
end
section
namespace Go.Hx
variable {α:Type}
theorem bc [Inhabited α] {l:List α} {q:Nat} (hq:q < l.length):l.take (q + 1) = l.take q ++ [l.getD q default]:=by
 rw [List.take_add_one,List.getElem?_eq_getElem hq]
 simp [List.getD,hq]
theorem afl [Inhabited α] {l:List α} {q:Nat} (h0:0 < q) (hq:q ≤ l.length):(l.take q).getLast? = some (l.getD (q - 1) default):=by
 obtain ⟨k,rfl⟩:∃ k,q = k + 1:=⟨q - 1,by omega⟩
 rw [bc (by omega),List.getLast?_append]
 simp
section
variable [DecidableEq α]
def ji:Option α → List α → List α
 | _,[]=>[]
 | p,x :: l=>if p = some x then ji p l else x :: ji (some x) l
def lj (l:List α):List α:=ji none l
def uj (p:Option α) (l:List α):Option α:=match l.getLast? with | some y=>some y | none=>p
theorem aaf (p:Option α) (y:α) (l:List α):uj p (y :: l) = uj (some y) l:=by
 unfold uj
 cases l with
 | nil=>rfl
 | cons z l=>simp [List.getLast?_cons]
theorem xv (x:α):∀ (l:List α) (p:Option α),ji p (l ++ [x]) = ji p l ++ (if uj p l = some x then [] else [x])
 | [],p=>by
  unfold uj
  simp only [List.nil_append,ji,List.getLast?_nil]
  by_cases h:p = some x <;> simp [h]
 | y :: l,p=>by
  rw [aaf]
  simp only [List.cons_append,ji]
  split
  · rename_i h
    rw [xv x l p,h]
  · rw [xv x l (some y)];rfl
theorem fy [Inhabited α] {l:List α} {q:Nat} (h0:0 < q) (hq:q < l.length):lj (l.take (q + 1)) = lj (l.take q) ++ (if l.getD (q - 1) default = l.getD q default then [] else [l.getD q default]):=by
 unfold lj
 rw [bc hq,xv]
 unfold uj
 rw [afl h0 (by omega)]
 simp
theorem qu [Inhabited α] {l:List α}:∀ {k:Nat},k ≤ l.length → (∀ j,0 < j → j < k → ¬ l.getD j default = l.getD (j - 1) default) → lj (l.take k) = l.take k
 | 0,_,_=>rfl
 | 1,hk,_=>by
  rw [bc (by omega)]
  simp [lj,ji]
 | k + 2,hk,h=>by
  rw [fy (by omega) (by omega),qu (by omega) (fun j h1 h2=>h j h1 (by omega)),if_neg (fun e=>h (k + 1) (by omega) (by omega) e.symm),← bc (by omega)]
theorem a1g:∀ (l:List α) (p:Option α),∀ x ∈ ji p l,x ∈ l
 | [],_,x,h=>by simp [ji] at h
 | y :: l,p,x,h=>by
  simp only [ji] at h
  split at h
  · exact List.mem_cons_of_mem _ (a1g l p x h)
  · rcases List.mem_cons.1 h with rfl | h
    · exact List.mem_cons_self
    · exact List.mem_cons_of_mem _ (a1g l _ x h)
theorem a11:∀ (l:List α) (p:Option α),∀ x ∈ l,p = some x ∨ x ∈ ji p l
 | y :: l,p,x,h=>by
  simp only [ji]
  split
  · rename_i hp
    rcases List.mem_cons.1 h with rfl | h
    · exact .inl hp
    · exact a11 l p x h
  · rcases List.mem_cons.1 h with rfl | h
    · exact .inr List.mem_cons_self
    · rcases a11 l (some y) x h with h | h
      · simp only [Option.some.injEq] at h
        subst h
        exact .inr List.mem_cons_self
      · exact .inr (List.mem_cons_of_mem _ h)
theorem ah7 {l:List α} {x:α}:x ∈ lj l ↔ x ∈ l:=⟨a1g l none x,fun h=>by
 rcases a11 l none x h with h | h
 · cases h
 · exact h⟩
end
section
variable [Inhabited α]
theorem jf {l:List α} {p:Nat} {v:α} (hp:p < l.length):(l.set p v).getD p default = v:=by simp [List.getD,hp]
theorem getD_set_ne' {l:List α} {p j:Nat} {v:α} (h:j ≠ p):(l.set p v).getD j default = l.getD j default:=by
 simp only [List.getD,List.getElem?_set_ne (Ne.symm h)]
theorem alm {wr wr':Bool} {n p k:Nat} {e:TypeId} {c:α → Nat → PV} {l:List α} {v:α} {x:PV} (hw:wr' = true → wr = true) (hn:n = l.length) (hp:k = p) (hk:p < l.length) (hx:x = c v 0) :
 CoO (.arr wr 1 e n (j5 (lf c l) k 0 [x])) (.arr wr' 1 e n (lf c (l.set p v))):=by
 subst hp hx hn
 refine ⟨hw,rfl,rfl,rfl,fun i j hi hj=>CoP.of_eq ?_⟩
 obtain rfl:j = 0:=by omega
 unfold j5 lf
 by_cases h:i = k
 · subst h
   rw [if_pos ⟨rfl,by omega,by simp⟩,jf hk]
   rfl
 · rw [if_neg (by omega),getD_set_ne' h]
theorem a01 {wr wr':Bool} {n p k q d:Nat} {e:TypeId} {c:α → Nat → PV} {l l':List α} (hw:wr' = true → wr = true) (hn:n = l.length) (hp:k = p) (hk:p < l.length) (hd:d = q) :
 CoO (.arr wr 1 e n (j5 (lf c l) k 0 [lf c l' d 0])) (.arr wr' 1 e n (lf c (l.set p (l'.getD q default)))):=alm hw hn hp hk (by rw [hd];rfl)
theorem ab8 {n m a:Nat} {cl:Bool} {c:α → Nat → PV} {l l':List α} {z:List Value} {p:Option Int} {h:Option Int} (hn:f0 (bz n h) p = l'.length) (hp:p = none) (ha:l'.length ≤ a) (hl:l' = l.take l'.length) :
 CoP (.sl (f0 (bz n h) p) 1 cl (p7 (py (lf c l) a m z) p)) (psl 1 c l'):=by
 subst hp
 refine CoP.sl hn.symm (.inl rfl) (fun h=>by cases h) fun i j hi hj=>CoP.of_eq ?_
 rw [hn] at hi
 show py (lf c l) a m z i j = lf c l' i j
 unfold py
 rw [if_neg (by omega)]
 simp only [lf,List.getD]
 have e:l'[i]? = l[i]?:=by rw [hl,List.getElem?_take,if_pos hi]
 rw [e]
end
abbrev sC:AS → Nat → PV:=fun s _=>asC s
structure CpI (l:List AS) (k p q:Nat) (m:List AS):Prop where
 len:m.length = l.length
 kq:k < q
 pq:p < q
 ql:q ≤ l.length
 pre:m.take p = lj (l.take q)
 high:∀ j,q - 1 ≤ j → m.getD j default = l.getD j default
theorem CpI.start {l:List AS} {k:Nat} (h1:1 ≤ k) (hk:k < l.length) (h:∀ j,0 < j → j < k → ¬ l.getD j default = l.getD (j - 1) default) (hd:l.getD k default = l.getD (k - 1) default):CpI l k k (k + 1) l :=
 ⟨rfl,by omega,by omega,by omega,by rw [fy (by omega) hk,if_pos hd.symm,List.append_nil,qu (by omega) h],fun _ _=>rfl⟩
theorem CpI.skip {l:List AS} {k p q:Nat} {m:List AS} (h:CpI l k p q m) (hq:q < l.length) (he:m.getD q default = m.getD (q - 1) default):CpI l k p (q + 1) m:=by
 have hk:=h.kq
 refine ⟨h.len,by omega,by have:=h.pq;omega,hq, ?_,fun j hj=>h.high j (by omega)⟩
 rw [h.high q (by omega),h.high (q - 1) (by omega)] at he
 rw [fy (by omega) hq,if_pos he.symm,List.append_nil,h.pre]
theorem CpI.keep {l:List AS} {k p q:Nat} {m:List AS} (h:CpI l k p q m) (hq:q < l.length) (he:¬ m.getD q default = m.getD (q - 1) default):CpI l k (p + 1) (q + 1) (m.set p (m.getD q default)):=by
 have hk:=h.kq
 have hp:=h.pq
 have hl:=h.len
 refine ⟨by simp [hl],by omega,by omega,hq, ?_,fun j hj=>by rw [getD_set_ne' (by omega)];exact h.high j (by omega)⟩
 have e:=h.high q (by omega)
 rw [e,h.high (q - 1) (by omega)] at he
 rw [fy (by omega) hq,if_neg (fun e=>he e.symm),← h.pre,bc (by simp [hl];omega),jf (by omega),e]
 congr 1
 rw [List.take_set,List.set_eq_of_length_le (by simp;omega)]
theorem a4b {l:List AS} {a b a' b':Nat} (h:asI (l.getD a' default) = asI (l.getD b' default)) (ha:a' = a) (hb:b' = b):l.getD a default = l.getD b default:=by subst ha hb;exact fb.1 h
theorem a4i {l:List AS} {a b a' b':Nat} (h:¬ asI (l.getD a' default) = asI (l.getD b' default)) (ha:a' = a) (hb:b' = b):¬ l.getD a default = l.getD b default:=by subst ha hb;exact fun e=>h (congrArg asI e)
theorem abj {l:List AS} {k:Nat} (hk:l.length ≤ k) (h:∀ j,0 < j → j < k → ¬ l.getD j default = l.getD (j - 1) default):CoP (.sl l.length 1 false (lf sC l)) (asl (lj l)):=by
 have:=qu (Nat.le_refl l.length) fun j h1 h2=>h j h1 (by omega)
 rw [List.take_length] at this
 rw [this]
 exact CoP.refl _
theorem akj {l m:List AS} {k p q n a d:Nat} {cl:Bool} {z:List Value} (hC:CpI l k p q m) (hq:¬ q < l.length) (ha:p ≤ a):CoP (.sl (f0 (bz n (some (p:Int))) none) 1 cl (p7 (py (lf sC m) a d z) none)) (asl (lj l)):=by
 have e:=hC.pre
 have h1:=hC.ql
 have h2:=hC.len
 have h3:=hC.pq
 rw [show q = l.length by omega,List.take_length] at e
 have el:(lj l).length = p:=by rw [← e];simp;omega
 exact ab8 (by rw [el];rfl) rfl (by omega) (by rw [el,e])
end Go.Hx
end
section
namespace Go.Hx
open Go.Proofs
set_option maxRecDepth 100000
theorem apo:am Tryd.prog 54:=⟨Tryd.f54,Tryd.func54,by kernel_rfl,by kernel_rfl⟩
theorem ahe (l:List AS):j2 Tryd.prog 54 [.one (.ref 900 l.length)] [(900, .arr true 1 40 l.length (lf sC l))] (.v (.one (.p (asl (lj l))))) [] []:=by
 refine ur (nt:=61) ai Tryd.func54 rfl rfl l9 rfl ?_;refine a7 ?_
 refine abx 900 rfl fun hlen=>?_
 refine gy ?_;refine qy ?_;refine a6 ?_;refine a7 ?_;refine sx7 ?_;(iterate 3 refine qy ?_);refine a6 ?_;refine a8 _ rfl (fun r0=>?_) (fun r0=>?_)
 ·
  have h0:=of_decide_eq_true r0
  try simp only [ty] at h0
  refine sx7 ?_;(iterate 2 refine qy ?_);refine a6 ?_;refine dl 2 rfl rfl rfl ?_;refine fh ?_;refine ⟨.inr rfl, ?_⟩
  exact ⟨_,_,rfl,(by (repeat' apply And.intro) <;> first | trivial | exact Nat.le_of_ble_eq_true rfl),abj (k:=l.length) (Nat.le_refl _) (fun j h1 h2=>by omega),trivial⟩
 ·
  have h0:=of_decide_eq_false r0
  try simp only [ty] at h0
  refine aa ?_;refine a7 ?_;refine sx7 ?_;refine qy ?_;refine a6 ?_;refine ah ?_
  refine b4 (ι:=Nat) ⟨[(0,some _)],[(900,some _)]⟩ ⟨⟨c9,trivial⟩,⟨u9,trivial⟩⟩ (fun k=>⟨[(3,some (vI k))],[]⟩) (fun k=>1 ≤ k ∧ k ≤ l.length ∧ ∀ j,0 < j → j < k → ¬ l.getD j default = l.getD (j - 1) default) (fun k=>l.length - k) (1) (⟨Nat.le_refl _,by omega,fun j h1 h2=>by omega⟩) ⟨⟨zy,trivial⟩,trivial⟩ ?_
  rintro k ⟨hk1,hk,hI⟩
  refine a7 ?_;refine sx7 ?_;(iterate 4 refine qy ?_);refine a6 ?_;refine a8 _ rfl (fun r1=>?_) (fun r1=>?_)
  ·
   have h1:=of_decide_eq_true r1
   try simp only [ty] at h1
   refine aa ?_;refine a7 ?_;refine ah ?_;refine a7 ?_;refine cw (E:=d6) ai bw [0,1,2,3,4,5,6,7,8,9] ?_;(iterate 10 refine qy ?_);refine a6 ?_;refine ⟨by kernel_rfl, ?_⟩
   refine a8 _ rfl (fun r2=>?_) (fun r2=>?_)
   ·
    have h2:=of_decide_eq_true r2
    try simp only [ty] at h2
    refine sx7 ?_;(iterate 4 refine qy ?_);refine a6 ?_;refine a7 ?_;refine sx7 ?_;refine qy ?_;refine a6 ?_;refine ah ?_
    refine b4 (ι:=Nat × Nat × List AS) ⟨[(0,some _),(4,some _)],[]⟩ ⟨⟨c9,c9,trivial⟩,trivial⟩ (fun x=>⟨[(3,some (vI x.1)),(5,some (vI ((x.2.1:Int) - k)))],[(900,some (.arr true 1 40 l.length (lf sC x.2.2)))]⟩) (fun x=>CpI l k x.1 x.2.1 x.2.2) (fun x=>l.length - x.2.1) ((k,k + 1,l)) (CpI.start hk1 (by omega) hI (a4b (by assumption) rfl (by omega))) ⟨⟨zy,⟨_,rfl,(coi (by first | rfl | (dsimp only;omega)))⟩,trivial⟩,⟨u9,trivial⟩⟩ ?_
    rintro ⟨p,q,m⟩ hC
    have hC0:=hC
    obtain ⟨hml,hkq,hpq,hql,_,_⟩:=hC0
    dsimp only at hC hml hkq hpq hql
    refine a7 ?_;refine sx7 ?_;(iterate 4 refine qy ?_);refine a6 ?_;refine a8 _ rfl (fun r3=>?_) (fun r3=>?_)
    ·
     have h3:=of_decide_eq_true r3
     try simp only [ty] at h3
     simp only [f0,bz,Int.toNat_natCast] at h3
     refine aa ?_;refine a7 ?_;refine ah ?_;refine a7 ?_;refine cw (E:=d6) ai bw [0,1,2,3,4,5,6,7,8,9] ?_;(iterate 10 refine qy ?_);refine a6 ?_
     refine ⟨by kernel_rfl, ?_⟩;refine a8 _ rfl (fun r4=>?_) (fun r4=>?_)
     ·
      have h4:=r4
      have h4:=of_decide_eq_false (bn h4)
      try simp only [ty] at h4
      refine sx7 ?_;(iterate 7 refine qy ?_);refine s9 ?_;refine a6 ?_;refine gy ?_;(iterate 3 refine qy ?_);refine a6 ?_;refine gy ?_;(iterate 3 refine qy ?_);refine a6 ?_
      first | (refine ⟨(p + 1, q + 1, m.set p (m.getD q default)), ?_, ?_, ?_⟩
               · exact hC.keep (by omega) (a4i (by assumption) (by simp only [bz];omega) (by simp only [bz];omega))
               · first | omega | (dsimp only;omega)
               · exact ⟨⟨⟨_,rfl,(coi (by first | rfl | (dsimp only;omega)))⟩,⟨_,rfl,(coi (by first | rfl | (dsimp only;omega)))⟩,c9,c9,trivial⟩,⟨⟨_,rfl,(a01 id hml.symm (by omega) (by dsimp only;omega) (by simp only [bz];omega))⟩,trivial⟩⟩)
            | (refine ⟨(p,q + 1,m), ?_, ?_, ?_⟩
               · exact hC.skip (by omega) (a4b (by assumption) (by simp only [bz];omega) (by simp only [bz];omega))
               · first | omega | (dsimp only;omega)
               · exact ⟨⟨⟨_,rfl,(coi (by first | rfl | (dsimp only;omega)))⟩,⟨_,rfl,(coi (by first | rfl | (dsimp only;omega)))⟩,c9,c9,trivial⟩,⟨u9,trivial⟩⟩)
     ·
      have h4:=r4
      have h4:=of_decide_eq_true (bm h4)
      try simp only [ty] at h4
      refine aa ?_;refine gy ?_;(iterate 3 refine qy ?_);refine a6 ?_
      first | (refine ⟨(p + 1, q + 1, m.set p (m.getD q default)), ?_, ?_, ?_⟩
               · exact hC.keep (by omega) (a4i (by assumption) (by simp only [bz];omega) (by simp only [bz];omega))
               · first | omega | (dsimp only;omega)
               · exact ⟨⟨⟨_,rfl,(coi (by first | rfl | (dsimp only;omega)))⟩,⟨_,rfl,(coi (by first | rfl | (dsimp only;omega)))⟩,c9,c9,trivial⟩,⟨⟨_,rfl,(a01 id hml.symm (by omega) (by dsimp only;omega) (by simp only [bz];omega))⟩,trivial⟩⟩)
            | (refine ⟨(p,q + 1,m), ?_, ?_, ?_⟩
               · exact hC.skip (by omega) (a4b (by assumption) (by simp only [bz];omega) (by simp only [bz];omega))
               · first | omega | (dsimp only;omega)
               · exact ⟨⟨⟨_,rfl,(coi (by first | rfl | (dsimp only;omega)))⟩,⟨_,rfl,(coi (by first | rfl | (dsimp only;omega)))⟩,c9,c9,trivial⟩,⟨u9,trivial⟩⟩)
    ·
     have h3:=of_decide_eq_false r3
     try simp only [ty] at h3
     simp only [f0,bz,Int.toNat_natCast] at h3
     refine az ?_;refine sx7 ?_;(iterate 3 refine qy ?_);refine ra 0 true rfl rfl rfl rfl rfl rfl ?_;refine a6 ?_;refine sx7 ?_;(iterate 2 refine qy ?_);refine ai5 rfl rfl rfl rfl rfl ?_;refine qy ?_
     refine a6 ?_;refine fh ?_;refine ⟨.inr rfl, ?_⟩
     exact ⟨_,_,rfl,(by (repeat' apply And.intro) <;> first | trivial | exact Nat.le_of_ble_eq_true rfl),akj hC (by omega) (by simp [bz]),trivial⟩
   ·
    have h2:=of_decide_eq_false r2
    try simp only [ty] at h2
    refine aa ?_;refine gy ?_;(iterate 3 refine qy ?_);refine a6 ?_;refine ⟨k + 1, ?_, ?_, ?_⟩
    · refine ⟨by omega,by show k + 1 ≤ _;omega,fun j h1 h2=>?_⟩
      rcases Nat.lt_or_eq_of_le (Nat.le_of_lt_succ h2) with h | h
      · exact hI j h1 h
      · subst h
        exact a4i (by assumption) rfl (by omega)
    · first | omega | (dsimp only;omega)
    · exact ⟨⟨zy,c9,trivial⟩,⟨u9,trivial⟩⟩
  ·
   have h1:=of_decide_eq_false r1
   try simp only [ty] at h1
   refine az ?_;refine sx7 ?_;(iterate 2 refine qy ?_);refine a6 ?_;refine dl 2 rfl rfl rfl ?_;refine fh ?_;refine ⟨.inr rfl, ?_⟩
   exact ⟨_,_,rfl,(by (repeat' apply And.intro) <;> first | trivial | exact Nat.le_of_ble_eq_true rfl),abj (k:=k) (by omega) hI,trivial⟩
end Go.Hx
end
section
namespace Go.Hx
section
variable {α:Type} [Inhabited α] {p:α → Bool} {l:List α}
theorem aii (h:idx p l = -1):∀ j,j < l.length → p (l.getD j default) = false:=fun j hj=>by
 cases hc:p (l.getD j default) with
 | false=>rfl
 | true =>
  exfalso
  have hx:∃ x ∈ l,p x = true:=⟨l[j],List.getElem_mem hj,by simpa [List.getD,hj] using hc⟩
  unfold idx at h
  cases hf:l.findIdx? p with
  | none =>
   rw [List.findIdx?_eq_none_iff] at hf
   obtain ⟨x,hx,hp⟩:=hx
   rw [hf x hx] at hp
   cases hp
  | some i=>rw [hf] at h;simp only at h;omega
theorem ai0 (h:¬ idx p l = -1):∃ i:Nat,idx p l = i ∧ i < l.length ∧ p (l.getD i default) = true ∧ ∀ j,j < i → p (l.getD j default) = false:=by
 unfold idx at h ⊢
 cases hf:l.findIdx? p with
 | none=>rw [hf] at h;exact absurd rfl h
 | some i =>
  obtain ⟨h1,h2,h3⟩:=List.findIdx?_eq_some_iff_getElem.1 hf
  refine ⟨i,rfl,h1,by simpa [List.getD,h1] using h2,fun j hj=>?_⟩
  have:=h3 j hj
  simp only [List.getD,List.getElem?_eq_getElem (Nat.lt_trans hj h1),Option.getD_some]
  simpa using this
theorem ael:(decide (0 ≤ idx p l)) = l.any p:=by
 unfold idx
 cases hf:l.findIdx? p with
 | none =>
  rw [List.findIdx?_eq_none_iff] at hf
  have:l.any p = false:=by
   rw [List.any_eq_false]
   intro x hx
   rw [hf x hx]
   exact Bool.false_ne_true
  rw [this];rfl
 | some i =>
  obtain ⟨h1,h2,_⟩:=List.findIdx?_eq_some_iff_getElem.1 hf
  have:l.any p = true:=List.any_eq_true.2 ⟨l[i],List.getElem_mem h1,h2⟩
  rw [this]
  exact decide_eq_true (Int.natCast_nonneg i)
theorem vh:∀ {k:Nat},k ≤ l.length → (∀ j,j < k → p (l.getD j default) = false) → (l.take k).filter (fun x=>!p x) = l.take k
 | 0,_,_=>by simp
 | k + 1,hk,h=>by rw [bc (by omega),List.filter_append,vh (by omega) fun j hj=>h j (by omega)];simp only [List.filter_cons,h k (by omega),Bool.not_false,if_true,List.filter_nil]
structure DfI (p:α → Bool) (l:List α) (k q:Nat) (m:List α):Prop where
 len:m.length = l.length
 kq:k < q
 ql:q ≤ l.length
 pre:m.take k = (l.take q).filter fun x=>!p x
 high:∀ j,q ≤ j → m.getD j default = l.getD j default
theorem DfI.start {k:Nat} (hk:k < l.length) (h1:p (l.getD k default) = true) (h:∀ j,j < k → p (l.getD j default) = false):DfI p l k (k + 1) l :=
 ⟨rfl,by omega,hk,by rw [bc hk,List.filter_append,vh (by omega) h];simp only [List.filter_cons,h1,Bool.not_true,List.filter_nil,Bool.false_eq_true,if_false,List.append_nil],fun _ _=>rfl⟩
theorem DfI.skip {k q:Nat} {m:List α} (h:DfI p l k q m) (hq:q < l.length) (hp:p (m.getD q default) = true):DfI p l k (q + 1) m:=by
 rw [h.high q (Nat.le_refl _)] at hp
 exact ⟨h.len,by have:=h.kq;omega,hq,by rw [bc hq,List.filter_append,← h.pre];simp only [List.filter_cons,hp,Bool.not_true,List.filter_nil,Bool.false_eq_true,if_false,List.append_nil],fun j hj=>h.high j (by omega)⟩
theorem DfI.keep {k q:Nat} {m:List α} (h:DfI p l k q m) (hq:q < l.length) (hp:p (m.getD q default) = false):DfI p l (k + 1) (q + 1) (m.set k (m.getD q default)):=by
 have e:=h.high q (Nat.le_refl _)
 rw [e] at hp ⊢
 have hk:=h.kq
 have hl:=h.len
 refine ⟨by simp [hl],by omega,hq, ?_,fun j hj=>by rw [getD_set_ne' (by omega)];exact h.high j (by omega)⟩
 rw [bc (by simp [hl];omega),jf (by omega),bc hq,List.filter_append,← h.pre]
 simp only [List.filter_cons,hp,Bool.not_false,if_true,List.filter_nil]
 congr 1
 rw [List.take_set,List.set_eq_of_length_le (by simp;omega)]
end
section
variable {p:AS → Bool} {l:List AS}
theorem ala (h:∀ j,j < l.length → p (l.getD j default) = false):CoP (.sl l.length 1 false (lf sC l)) (asl (l.filter fun x=>!p x)):=by
 have:=vh (Nat.le_refl l.length) h
 rw [List.take_length] at this
 rw [this]
 exact CoP.refl _
theorem ak8 {m:List AS} {k q n a d:Nat} {cl:Bool} {z:List Value} (hC:DfI p l k q m) (hq:¬ q < l.length) (ha:k ≤ a):CoP (.sl (f0 (bz n (some (k:Int))) none) 1 cl (p7 (py (lf sC m) a d z) none)) (asl (l.filter fun x=>!p x)):=by
 have e:=hC.pre
 have h1:=hC.ql
 have h2:=hC.len
 have h3:=hC.kq
 rw [show q = l.length by omega,List.take_length] at e
 have el:(l.filter fun x=>!p x).length = k:=by rw [← e];simp;omega
 exact ab8 (by rw [el];rfl) rfl (by omega) (by rw [el,e])
end
instance:DecidableEq Fd:=fun a b=>decidable_of_iff (a.lhs = b.lhs ∧ a.rhs = b.rhs) Fd.eq_iff.symm
end Go.Hx
end
section
namespace Go.Hx
open Go.Proofs
set_option maxRecDepth 100000
theorem aer:am Tryd.prog 51:=⟨Tryd.f51,Tryd.func51,by kernel_rfl,by kernel_rfl⟩
theorem ab7 (n:Nat) (c:Bool) (f:Nat → Nat → PV) (hn:n ≤ 35184372088832) :
 j2 Tryd.prog 51 [.one (.p (.sl n 1 c f))] [] (.v (.one (.ref 0 n))) [(0, .arr true 1 40 n f)] []:=by
 refine ur (nt:=8) ai Tryd.func51 rfl rfl l9 rfl ?_;refine sx7 ?_;refine dj true rfl rfl rfl rfl rfl trivial ?_;refine a6 ?_
 refine a4k (ι:=Bool) (fun c=>⟨[(0,some (b9 (.sl n 1 c f)))],[]⟩) (fun _=>True) ?_ fun c _=>?_
 · rcases Nat.eq_zero_or_pos n with hz | h0
   · subst hz
     refine hw_exact' 0 rfl fun ad cap hcap=>?_
     refine sx7 ?_;(iterate 2 refine dj true rfl rfl rfl rfl rfl trivial ?_);refine a6 ?_;refine a8 ad.isNone rfl (fun hc=>?_) (fun hc=>?_)
     · refine sx7 ?_
       refine dj true rfl rfl rfl rfl rfl trivial ?_;refine a6 ?_;refine gf 2 0 true 1 40 f (by decide) rfl (CoP.sl rfl (.inr rfl) (fun h=>h) fun i j hi _=>absurd hi (Nat.not_lt_zero i)) (.inr rfl) rfl ?_
       refine fh ?_;refine ⟨.inr rfl, ?_⟩
       exact ⟨_,_,rfl,trivial,CoR.refl _,⟨u9,trivial⟩⟩
     · refine aa ?_
       exact ⟨false,trivial,⟨⟨_,rfl,CoP.raw_sl hcap⟩,trivial⟩,trivial⟩
   · refine sx7 ?_
     refine dj true rfl rfl rfl rfl rfl trivial ?_;refine dj true rfl rfl rfl rfl rfl h0 ?_;refine a6 ?_;refine a8 false rfl (fun hc=>by cases hc) (fun hc=>?_);refine aa ?_
     exact ⟨c,trivial,⟨c9,trivial⟩,trivial⟩
 · refine sx7 ?_
   refine zt 0 rfl rfl rfl rfl rfl rfl trivial ?_;refine dj true rfl rfl rfl rfl rfl trivial ?_
   refine a7w 0 true rfl rfl rfl rfl rfl rfl ⟨trivial,rfl,rfl,rfl, .inl rfl,by show 0 + n ≤ 9223372036854775807;omega,by show (0 + n) * 4 ≤ 140737488355328;omega,fun _=>.inl rfl⟩ ?_
   refine dj true rfl rfl rfl rfl rfl trivial ?_;refine a6 ?_;refine fh ?_;refine ⟨.inr rfl, ?_⟩
   refine ⟨_,_,rfl,trivial,CoR.of_eq (by show HR.v (.one (.ref 0 (0 + n))) = _;rw [Nat.zero_add]),⟨⟨_,rfl, ?_⟩,trivial⟩⟩
   exact ⟨fun h=>h,rfl,rfl,(Nat.zero_add n).symm,fun i j _ _=>CoP.of_eq (by simp [ey])⟩
theorem amy:am Tryd.prog 57:=⟨Tryd.f57,Tryd.func57,by kernel_rfl,by kernel_rfl⟩
theorem aqq (l:List Fd) (g k:Nat) (caps:Nat → PV) (V:Fd → Bool) (hg:am Tryd.prog g) (hV:∀ x,ao Tryd.prog g (x.pc :: ja caps k 0) (ay [pB (V x)])):ao Tryd.prog 57 [pP (fdl l),pP (.fn g k caps)] (ay [pI (idx V l)]):=by
 refine ak (nt:=19) ai Tryd.func57 rfl rfl l9 ?_;refine a7 ?_
 refine l4 0 rfl fun hn=>?_
 refine gy ?_;refine qy ?_;refine a6 ?_;refine dx (ι:=Unit) ⟨[],[]⟩ ⟨trivial,trivial⟩ (fun _i=>⟨[],[]⟩) (fun _i=>idx V l = -1) ?_ ?_
 ·
  refine sx7 ?_;(iterate 3 refine qy ?_);refine a6 ?_;refine ah ?_
  refine b4 (ι:=Nat) ⟨[(0,some _),(1,some _),(7,some _)],[]⟩ ⟨⟨c9,c9,c9,trivial⟩,trivial⟩ (fun i=>⟨[(8,some (vI i))],[]⟩) (fun i=>i ≤ l.length ∧ (∀ j,j < i → V (l.getD j default) = false)) (fun i=>l.length - i) (0) (⟨Nat.zero_le _,en⟩) ⟨⟨zy,trivial⟩,trivial⟩ ?_
  rintro i ⟨hi,hI⟩
  refine sx7 ?_;refine qy ?_;refine a6 ?_;refine a7 ?_;refine a8 _ rfl (fun r0=>?_) (fun r0=>?_)
  ·
   have h0:=of_decide_eq_true r0
   try simp only [ty] at h0
   refine aa ?_;refine a7 ?_;refine ah ?_;refine sx7 ?_;(iterate 2 refine qy ?_);refine a6 ?_;refine sx7 ?_;(iterate 5 refine qy ?_)
   refine rc rfl rfl rfl rfl rfl rfl hg (hV (l.getD i default)) (CoL.refl _) rfl rfl ?_;refine a6 ?_;refine a8 _ rfl (fun r1=>?_) (fun r1=>?_)
   ·
    have h1:=r1
    refine sx7 ?_;(iterate 2 refine qy ?_);refine a6 ?_
    exact hx8 rfl rfl rfl (⟨cci (abm (i:=i) (by omega) hI h1).symm,trivial⟩)
   ·
    have h1:=r1
    refine aa ?_;refine gy ?_;(iterate 2 refine qy ?_);refine a6 ?_;refine ⟨i + 1, ?_, ?_, ?_⟩
    · exact ⟨by show i + 1 ≤ _;omega,d9 hI (h1)⟩
    · first | omega | (dsimp only;omega)
    · exact ⟨⟨zy,c9,c9,c9,trivial⟩,trivial⟩
  ·
   have h0:=of_decide_eq_false r0
   try simp only [ty] at h0
   refine az ?_;refine ⟨(), ?_, ?_⟩
   · exact ado fun j hj=>hI j (by omega)
   · exact ⟨trivial,trivial⟩
 · rintro _ hj
   refine sx7 ?_;refine qy ?_;refine a6 ?_
   exact hx8 rfl rfl rfl (⟨cci hj.symm,trivial⟩)
theorem ag7:am Tryd.prog 70:=⟨Tryd.f70,Tryd.func70,by kernel_rfl,by kernel_rfl⟩
theorem aj3 (l:List AS) (g k:Nat) (caps:Nat → PV) (V:AS → Bool) (hg:am Tryd.prog g) (hV:∀ x,ao Tryd.prog g (pA x :: ja caps k 0) (ay [pB (V x)])):ao Tryd.prog 70 [pP (asl l),pP (.fn g k caps)] (ay [pI (idx V l)]):=by
 refine ak (nt:=19) ai Tryd.func70 rfl rfl l9 ?_;refine a7 ?_
 refine l4 0 rfl fun hn=>?_
 refine gy ?_;refine qy ?_;refine a6 ?_;refine dx (ι:=Unit) ⟨[],[]⟩ ⟨trivial,trivial⟩ (fun _i=>⟨[],[]⟩) (fun _i=>idx V l = -1) ?_ ?_
 ·
  refine sx7 ?_;(iterate 3 refine qy ?_);refine a6 ?_;refine ah ?_
  refine b4 (ι:=Nat) ⟨[(0,some _),(1,some _),(7,some _)],[]⟩ ⟨⟨c9,c9,c9,trivial⟩,trivial⟩ (fun i=>⟨[(8,some (vI i))],[]⟩) (fun i=>i ≤ l.length ∧ (∀ j,j < i → V (l.getD j default) = false)) (fun i=>l.length - i) (0) (⟨Nat.zero_le _,en⟩) ⟨⟨zy,trivial⟩,trivial⟩ ?_
  rintro i ⟨hi,hI⟩
  refine sx7 ?_;refine qy ?_;refine a6 ?_;refine a7 ?_;refine a8 _ rfl (fun r0=>?_) (fun r0=>?_)
  ·
   have h0:=of_decide_eq_true r0
   try simp only [ty] at h0
   refine aa ?_;refine a7 ?_;refine ah ?_;refine sx7 ?_;(iterate 2 refine qy ?_);refine a6 ?_;refine sx7 ?_;(iterate 5 refine qy ?_)
   refine rc rfl rfl rfl rfl rfl rfl hg (hV (l.getD i default)) (CoL.refl _) rfl rfl ?_;refine a6 ?_;refine a8 _ rfl (fun r1=>?_) (fun r1=>?_)
   ·
    have h1:=r1
    refine sx7 ?_;(iterate 2 refine qy ?_);refine a6 ?_
    exact hx8 rfl rfl rfl (⟨cci (abm (i:=i) (by omega) hI h1).symm,trivial⟩)
   ·
    have h1:=r1
    refine aa ?_;refine gy ?_;(iterate 2 refine qy ?_);refine a6 ?_;refine ⟨i + 1, ?_, ?_, ?_⟩
    · exact ⟨by show i + 1 ≤ _;omega,d9 hI (h1)⟩
    · first | omega | (dsimp only;omega)
    · exact ⟨⟨zy,c9,c9,c9,trivial⟩,trivial⟩
  ·
   have h0:=of_decide_eq_false r0
   try simp only [ty] at h0
   refine az ?_;refine ⟨(), ?_, ?_⟩
   · exact ado fun j hj=>hI j (by omega)
   · exact ⟨trivial,trivial⟩
 · rintro _ hj
   refine sx7 ?_;refine qy ?_;refine a6 ?_
   exact hx8 rfl rfl rfl (⟨cci hj.symm,trivial⟩)
theorem aot:am Tryd.prog 40:=⟨Tryd.f40,Tryd.func40,by kernel_rfl,by kernel_rfl⟩
theorem aq6 (l:List Fd) (g k:Nat) (caps:Nat → PV) (V:Fd → Bool) (hg:am Tryd.prog g) (hV:∀ x,ao Tryd.prog g (x.pc :: ja caps k 0) (ay [pB (V x)])):ao Tryd.prog 40 [pP (fdl l),pP (.fn g k caps)] (ay [pB (l.any V)]):=by
 refine ak (nt:=9) ai Tryd.func40 rfl rfl l9 ?_;refine sx7 ?_;refine qy ?_;refine a6 ?_;refine sx7 ?_;(iterate 2 refine qy ?_)
 refine rc rfl rfl rfl rfl rfl rfl amy (aqq l g k caps V hg hV) (CoL.refl _) rfl rfl ?_;(iterate 2 refine qy ?_);refine a6 ?_
 exact hx8 rfl rfl rfl (⟨ccb ael,trivial⟩)
theorem an8:am Tryd.prog 60:=⟨Tryd.f60,Tryd.func60,by kernel_rfl,by kernel_rfl⟩
theorem aq0 (l:List AS) (g k:Nat) (caps:Nat → PV) (V:AS → Bool) (hg:am Tryd.prog g) (hV:∀ x,ao Tryd.prog g (pA x :: ja caps k 0) (ay [pB (V x)])):ao Tryd.prog 60 [pP (asl l),pP (.fn g k caps)] (ay [pB (l.any V)]):=by
 refine ak (nt:=9) ai Tryd.func60 rfl rfl l9 ?_;refine sx7 ?_;refine qy ?_;refine a6 ?_;refine sx7 ?_;(iterate 2 refine qy ?_)
 refine rc rfl rfl rfl rfl rfl rfl ag7 (aj3 l g k caps V hg hV) (CoL.refl _) rfl rfl ?_;(iterate 2 refine qy ?_);refine a6 ?_
 exact hx8 rfl rfl rfl (⟨ccb ael,trivial⟩)
theorem aoe:am Tryd.prog 58:=⟨Tryd.f58,Tryd.func58,by kernel_rfl,by kernel_rfl⟩
theorem aqx (l:List AS) (g k:Nat) (caps:Nat → PV) (V:AS → Bool) (hg:am Tryd.prog g) (hV:∀ x,ao Tryd.prog g (pA x :: ja caps k 0) (ay [pB (V x)])):j2 Tryd.prog 58 [.one (.ref 900 l.length), .one (.p (.fn g k caps))] [(900, .arr true 1 40 l.length (lf sC l))] (.v (.one (.p (asl (l.filter fun x=>!V x))))) [] []:=by
 refine ur (nt:=42) ai Tryd.func58 rfl rfl l9 rfl ?_;refine a7 ?_
 refine abx 900 rfl fun hlen=>?_
 refine gy ?_;refine qy ?_;refine a6 ?_;refine sx7 ?_;(iterate 2 refine qy ?_);refine rc rfl rfl rfl rfl rfl rfl ag7 (aj3 l g k caps V hg hV) (CoL.refl _) rfl rfl ?_;refine qy ?_;refine a6 ?_;refine a7 ?_
 refine sx7 ?_;(iterate 2 refine qy ?_);refine a6 ?_;refine a8 _ rfl (fun r0=>?_) (fun r0=>?_)
 ·
  have h0:=of_decide_eq_true r0
  try simp only [ty] at h0
  refine sx7 ?_;(iterate 2 refine qy ?_);refine a6 ?_;refine dl 4 rfl rfl rfl ?_;refine fh ?_;refine ⟨.inr rfl, ?_⟩
  exact ⟨_,_,rfl,(by (repeat' apply And.intro) <;> first | trivial | exact Nat.le_of_ble_eq_true rfl),ala (aii (by assumption)),trivial⟩
 ·
  have h0:=of_decide_eq_false r0
  try simp only [ty] at h0
  obtain ⟨i0,hi0,hi1,hi2,hi3⟩:=ai0 h0
  refine aa ?_;refine a7 ?_;refine sx7 ?_;(iterate 3 refine qy ?_);refine a6 ?_;refine ah ?_
  refine b4 (ι:=Nat × Nat × List AS) ⟨[(0,some _),(1,some _)],[]⟩ ⟨⟨c9,c9,trivial⟩,trivial⟩ (fun x=>⟨[(5,some (vI x.1)),(6,some (vI x.2.1))],[(900,some (.arr true 1 40 l.length (lf sC x.2.2)))]⟩) (fun x=>DfI V l x.1 x.2.1 x.2.2) (fun x=>l.length - x.2.1) ((i0,i0 + 1,l)) (DfI.start hi1 hi2 hi3) ⟨⟨⟨_,rfl,(coi hi0)⟩,⟨_,rfl,(coi (by dsimp only;omega))⟩,trivial⟩,⟨u9,trivial⟩⟩ ?_
  rintro x hC
  have hC0:=hC
  obtain ⟨hml,hkq,hql,_,_⟩:=hC0
  refine a7 ?_;refine sx7 ?_;(iterate 4 refine qy ?_);refine a6 ?_;refine a8 _ rfl (fun r1=>?_) (fun r1=>?_)
  ·
   have h1:=of_decide_eq_true r1
   try simp only [ty] at h1
   refine aa ?_;refine a7 ?_;refine ah ?_;refine sx7 ?_;(iterate 5 refine qy ?_);refine a6 ?_;refine sx7 ?_;(iterate 2 refine qy ?_)
   refine rc rfl rfl rfl rfl rfl rfl hg (hV (x.2.2.getD (x.2.1:Int).toNat default)) (CoL.refl _) rfl rfl ?_;refine qy ?_;refine a6 ?_;refine a8 _ rfl (fun r2=>?_) (fun r2=>?_)
   ·
    have h2:=r2
    have h2:=bn h2
    have hv:=h2
    refine sx7 ?_;(iterate 4 refine qy ?_);refine s9 ?_;refine a6 ?_;refine gy ?_;(iterate 3 refine qy ?_);refine a6 ?_;refine gy ?_;(iterate 3 refine qy ?_);refine a6 ?_
    first | (refine ⟨(x.1 + 1, x.2.1 + 1, x.2.2.set x.1 (x.2.2.getD x.2.1 default)), ?_, ?_, ?_⟩
             · exact hC.keep (by omega) (by simpa using hv)
             · first | omega | (dsimp only;omega)
             · exact ⟨⟨⟨_,rfl,(coi (by first | rfl | (dsimp only;omega)))⟩,⟨_,rfl,(coi (by first | rfl | (dsimp only;omega)))⟩,c9,c9,trivial⟩,⟨⟨_,rfl,(a01 id hml.symm (by omega) (by omega) (by omega))⟩,trivial⟩⟩)
          | (refine ⟨(x.1,x.2.1 + 1,x.2.2), ?_, ?_, ?_⟩
             · exact hC.skip (by omega) (by simpa using hv)
             · first | omega | (dsimp only;omega)
             · exact ⟨⟨⟨_,rfl,(coi (by first | rfl | (dsimp only;omega)))⟩,⟨_,rfl,(coi (by first | rfl | (dsimp only;omega)))⟩,c9,c9,trivial⟩,⟨u9,trivial⟩⟩)
   ·
    have h2:=r2
    have h2:=bm h2
    have hv:=h2
    refine aa ?_;refine gy ?_;(iterate 3 refine qy ?_);refine a6 ?_
    first | (refine ⟨(x.1 + 1, x.2.1 + 1, x.2.2.set x.1 (x.2.2.getD x.2.1 default)), ?_, ?_, ?_⟩
             · exact hC.keep (by omega) (by simpa using hv)
             · first | omega | (dsimp only;omega)
             · exact ⟨⟨⟨_,rfl,(coi (by first | rfl | (dsimp only;omega)))⟩,⟨_,rfl,(coi (by first | rfl | (dsimp only;omega)))⟩,c9,c9,trivial⟩,⟨⟨_,rfl,(a01 id hml.symm (by omega) (by omega) (by omega))⟩,trivial⟩⟩)
          | (refine ⟨(x.1,x.2.1 + 1,x.2.2), ?_, ?_, ?_⟩
             · exact hC.skip (by omega) (by simpa using hv)
             · first | omega | (dsimp only;omega)
             · exact ⟨⟨⟨_,rfl,(coi (by first | rfl | (dsimp only;omega)))⟩,⟨_,rfl,(coi (by first | rfl | (dsimp only;omega)))⟩,c9,c9,trivial⟩,⟨u9,trivial⟩⟩)
  ·
   have h1:=of_decide_eq_false r1
   try simp only [ty] at h1
   have hq:=h1
   refine az ?_;refine sx7 ?_;(iterate 3 refine qy ?_);refine ra 0 true rfl rfl rfl rfl rfl rfl ?_;refine a6 ?_;refine sx7 ?_;(iterate 2 refine qy ?_);refine ai5 rfl rfl rfl rfl rfl ?_;refine qy ?_
   refine a6 ?_;refine fh ?_;refine ⟨.inr rfl, ?_⟩
   exact ⟨_,_,rfl,(by (repeat' apply And.intro) <;> first | trivial | exact Nat.le_of_ble_eq_true rfl),ak8 hC (by omega) (by simp [bz]),trivial⟩
end Go.Hx
end
section
namespace Go.Hx
def al (s:AS) (i:Int):Bool:=decide (0 ≤ i ∧ i < 32) && s.getLsbD i.toNat
theorem bp {s:AS} {i:Nat} (h:i < 32):al s i = s.getLsbD i:=by
 unfold al
 rw [decide_eq_true (by omega)]
 simp
theorem act {s:AS} {i:Int} (h0:0 ≤ i) (h1:i < 32):decide (ct .and .u32 ((asI s).fdiv (2 ^ (min i.toNat 32))) 1 = 1) = al s i:=by
 unfold al
 rw [v8,show (1:Int) = asI 1 from rfl,iz,decide_eq_true (show 0 ≤ i ∧ i < 32 from ⟨h0,h1⟩),Bool.true_and]
 have e:asI (s >>> i.toNat &&& 1) = asI 1 ↔ s.getLsbD i.toNat = true:=by
  rw [fb]
  constructor
  · intro h
    have:=congrArg (fun x:AS=>x.getLsbD 0) h
    simpa using this
  · intro h
    apply BitVec.eq_of_getLsbD_eq
    intro k hk
    have h1:(1:AS).getLsbD k = decide (k = 0):=by have:=zo 0 k hk;simpa using this
    rw [BitVec.getLsbD_and,BitVec.getLsbD_ushiftRight,h1]
    by_cases hk0:k = 0
    · subst hk0;simp [h]
    · simp [hk0]
 cases hb:s.getLsbD i.toNat with
 | true=>exact decide_eq_true (e.2 hb)
 | false=>exact decide_eq_false fun h=>by rw [e.1 h] at hb;cases hb
theorem mj {s:AS} {i:Int} (h:¬ (0 ≤ i ∧ i < 32)):al s i = false:=by
 unfold al
 rw [decide_eq_false h]
 rfl
theorem aa2 {n:Nat} (h:n ≤ 32):jm n = BitVec.ofNat 32 (2 ^ n - 1):=by
 apply BitVec.eq_of_getLsbD_eq
 intro k hk
 rw [ju n k hk,BitVec.getLsbD_ofNat,Nat.testBit_two_pow_sub_one]
 simp [hk]
theorem aah {n:Nat} (h:n ≤ 32):(jm n).toNat = 2 ^ n - 1:=by
 have h2:2 ^ n ≤ 2 ^ 32:=Nat.pow_le_pow_right (by omega) h
 have h3:0 < 2 ^ n:=Nat.two_pow_pos n
 rw [aa2 h,BitVec.toNat_ofNat,Nat.mod_eq_of_lt (by omega)]
theorem aar {n:Int} {l:List Fd} (h:d8 n l = 0):0 ≤ n ∧ n ≤ 16 ∧ l.length ≤ 64 ∧ l.all (inU n) = true:=by
 unfold d8 at h
 split at h
 · cases h
 · split at h
   · cases h
   · split at h
     · rename_i h1 h2 h3
       exact ⟨by omega,by omega,by omega,h3⟩
     · cases h
theorem a38 {n:Int} (h0:0 ≤ n) (h1:n ≤ 16):IntKind.wrap .u32 (1 * 2 ^ (min n.toNat 32)) - 1 = asI (aq n):=by
 have h2:2 ^ n.toNat ≤ 2 ^ 16:=Nat.pow_le_pow_right (by omega) (by omega)
 have h3:0 < 2 ^ n.toNat:=Nat.two_pow_pos _
 rw [show IntKind.wrap .u32 (1 * 2 ^ (min n.toNat 32)) = asI ((1:AS) <<< n.toNat) from ac7 1 n.toNat]
 unfold aq asI
 rw [Nat.min_eq_left (by omega),aah (by omega),BitVec.toNat_shiftLeft,Nat.shiftLeft_eq]
 rw [show (1:AS).toNat = 1 from rfl,Nat.one_mul,Nat.mod_eq_of_lt (by omega)]
 omega
theorem a9o {n:Int} (h0:0 ≤ n) (h1:n ≤ 16):0 ≤ IntKind.wrap .u32 (1 * 2 ^ (min n.toNat 32)) - 1:=by rw [a38 h0 h1];exact a3h _
theorem a61 {n:Int} (h0:0 ≤ n) (h1:n ≤ 16):IntKind.wrap .u32 (1 * 2 ^ (min n.toNat 32)) - 1 ≤ 4294967295:=by rw [a38 h0 h1];have:=a98 (aq n);omega
def a4h (n:Int) (l:List Fd) (s:AS):Bool:=decide (d8 n l = 0 ∧ sub s (aq n) ∧ clo l s = aq n)
section
variable {n:Int} {l:List Fd} {s:AS}
end
def a2b (n:Int) (l:List Fd) (m:Int):Int:=if d8 n l = 0 then (if m < n then 3 else 0) else d8 n l
structure Dp where
 l:BitVec 8
 r:BitVec 8
deriving Inhabited
def Dp.c (d:Dp):Nat → PV
 | 0=>.raw (.int .u8 (d.l.toNat:Int))
 | 1=>.raw (.int .u8 (d.r.toNat:Int))
 | _=>.any
abbrev dpl (l:List Dp):PV:=psl 2 Dp.c l
def Dp.fd (n:Int) (d:Dp):Fd:=⟨d.l.setWidth 32 &&& aq n,d.r.setWidth 32 &&& aq n⟩
theorem yn (b:BitVec 8) (t:AS):ct .and .u32 (b.toNat:Int) (asI t) = asI (b.setWidth 32 &&& t):=by
 have h:=b.isLt
 have e:asI (b.setWidth 32) = (b.toNat:Int):=by
  unfold asI
  rw [BitVec.toNat_setWidth,Nat.mod_eq_of_lt (by omega)]
 rw [← iz,e]
end Go.Hx
end
section
namespace Go.Hx
open Go.Proofs
set_option maxRecDepth 100000
theorem ux:am Tryd.prog 13:=⟨Tryd.f13,Tryd.func13,by kernel_rfl,by kernel_rfl⟩
theorem a4s (s:AS) (i:Int):ao Tryd.prog 13 [pA s,pI i] (ay [pB (al s i)]):=by
 refine ak (nt:=18) ai Tryd.func13 rfl rfl l9 ?_;refine sx7 ?_;refine qy ?_;refine a6 ?_;refine sx7 ?_;(iterate 3 refine qy ?_);refine c4 rfl rfl (fun r0=>?_) (fun r0=>?_)
 ·
  have h0:=of_decide_eq_true r0
  try simp only [ty] at h0
  (iterate 2 refine qy ?_ (hg:=(gtt r0)));(iterate 2 refine qy ?_);refine c4 rfl rfl (fun r1=>?_) (fun r1=>?_)
  ·
   have h1:=r1
   have h1:=dg r0 h1
   have h1:=of_decide_eq_true h1
   try simp only [ty] at h1
   (iterate 5 refine qy ?_ (hg:=(gtt r1)));(iterate 2 refine qy ?_);refine a6 ?_
   exact hx8 rfl rfl rfl (⟨ccb (by first | exact a43 (by assumption) (act (by omega) (by omega)) | exact (mj (by omega)).symm),trivial⟩)
  ·
   have h1:=r1
   have h1:=dg r0 h1
   have h1:=of_decide_eq_false h1
   try simp only [ty] at h1
   (iterate 5 refine k9 (gft r1) ?_);refine rq rfl rfl rfl rfl rfl ?_ (hp:=r1);refine qy ?_;refine a6 ?_
   exact hx8 rfl rfl rfl (⟨ccb (by first | exact a43 (by assumption) (act (by omega) (by omega)) | exact (mj (by omega)).symm),trivial⟩)
 ·
  have h0:=of_decide_eq_false r0
  try simp only [ty] at h0
  (iterate 2 refine k9 (gft r0) ?_);refine rq rfl rfl rfl rfl rfl ?_ (hp:=r0);refine qy ?_;(iterate 5 refine k9 rfl ?_);(iterate 2 refine qy ?_);refine a6 ?_
  exact hx8 rfl rfl rfl (⟨ccb (by first | exact a43 (by assumption) (act (by omega) (by omega)) | exact (mj (by omega)).symm),trivial⟩)
end Go.Hx
end
section
namespace Go.Hx
def bsz (s:AS):Nat:=(List.range 32).countP fun i=>s.getLsbD i
def bef (a b:AS):Bool:=decide (bsz a < bsz b) || (decide (bsz a = bsz b) && decide (a.toNat < b.toNat))
theorem tu (a:AS):bef a a = false:=by simp [bef]
theorem lq {a b:AS}:bef a b = true ↔ bsz a < bsz b ∨ (bsz a = bsz b ∧ a.toNat < b.toNat):=by simp [bef]
theorem so {a b c:AS} (h:bef a b = true) (k:bef b c = true):bef a c = true:=by
 rw [lq] at *
 omega
theorem a4v {a b:AS} (h:a ≠ b):bef a b = true ∨ bef b a = true:=by
 have hn:a.toNat ≠ b.toNat:=fun e=>h (BitVec.eq_of_toNat_eq e)
 rw [lq,lq]
 omega
theorem ahp {a b:AS} (h:bef a b = true):bef b a = false:=by
 rw [Bool.eq_false_iff]
 intro k
 have:=so h k
 rw [tu] at this
 cases this
def oe (l:List AS):Prop:=l.Pairwise fun a b=>bef a b = true
theorem sy:∀ {l k:List AS},oe l → oe k → (∀ x,x ∈ l ↔ x ∈ k) → l = k
 | [],[],_,_,_=>rfl
 | [],y :: k,_,_,h=>absurd ((h y).2 (List.mem_cons_self ..)) (by simp)
 | x :: l,[],_,_,h=>absurd ((h x).1 (List.mem_cons_self ..)) (by simp)
 | x :: l,y :: k,hl,hk,h=>by
  obtain ⟨h1,h2⟩:=List.pairwise_cons.1 hl
  obtain ⟨k1,k2⟩:=List.pairwise_cons.1 hk
  have e:x = y:=by
   rcases List.mem_cons.1 ((h x).1 (List.mem_cons_self ..)) with e | hx
   · exact e
   · rcases List.mem_cons.1 ((h y).2 (List.mem_cons_self ..)) with e | hy
     · exact e.symm
     · have:=ahp (k1 x hx)
       rw [h1 y hy] at this
       cases this
  subst e
  congr 1
  refine sy h2 k2 fun z=>?_
  constructor
  · intro hz
    rcases List.mem_cons.1 ((h z).1 (List.mem_cons_of_mem _ hz)) with e | hz'
    · subst e
      have:=h1 z hz
      rw [tu] at this
      cases this
    · exact hz'
  · intro hz
    rcases List.mem_cons.1 ((h z).2 (List.mem_cons_of_mem _ hz)) with e | hz'
    · subst e
      have:=k1 z hz
      rw [tu] at this
      cases this
    · exact hz'
def jh (x:AS):List AS → List AS
 | []=>[x]
 | y :: l=>if x = y then y :: l else if bef x y = true then x :: y :: l else y :: jh x l
theorem a1h {x z:AS}:∀ {l:List AS},z ∈ jh x l ↔ z = x ∨ z ∈ l
 | []=>by simp [jh]
 | y :: l=>by
  unfold jh
  split
  · rename_i e
    subst e
    simp
  · split
    · simp
    · rw [List.mem_cons,a1h,List.mem_cons]
      constructor
      · rintro (h | h | h) <;> simp [h]
      · rintro (h | h | h) <;> simp [h]
theorem a68 {x:AS}:∀ {l:List AS},oe l → oe (jh x l)
 | [],_=>by simp [jh,oe]
 | y :: l,h=>by
  obtain ⟨h1,h2⟩:=List.pairwise_cons.1 h
  unfold jh
  split
  · exact h
  · split
    · rename_i hxy
      refine List.pairwise_cons.2 ⟨fun z hz=>?_,h⟩
      rcases List.mem_cons.1 hz with rfl | hz
      · exact hxy
      · exact so hxy (h1 z hz)
    · rename_i hne hxy
      refine List.pairwise_cons.2 ⟨fun z hz=>?_,a68 h2⟩
      rcases a1h.1 hz with rfl | hz
      · exact (a4v hne).resolve_left hxy
      · exact h1 z hz
def ord (l:List AS):List AS:=l.foldl (fun o x=>jh x o) []
theorem a5b:∀ {l o:List AS},oe o → oe (l.foldl (fun o x=>jh x o) o) ∧ ∀ z,z ∈ l.foldl (fun o x=>jh x o) o ↔ z ∈ o ∨ z ∈ l
 | [],o,h=>⟨h,fun z=>by simp⟩
 | x :: l,o,h=>by
  obtain ⟨h1,h2⟩:=a5b (l:=l) (a68 (x:=x) h)
  refine ⟨h1,fun z=>?_⟩
  show z ∈ l.foldl (fun o x=>jh x o) (jh x o) ↔ _
  rw [h2 z,a1h,List.mem_cons]
  constructor
  · rintro ((h | h) | h) <;> simp [h]
  · rintro (h | h | h) <;> simp [h]
theorem vo (l:List AS):oe (ord l):=(a5b (o:=[]) List.Pairwise.nil).1
theorem ph {l:List AS} {z:AS}:z ∈ ord l ↔ z ∈ l:=by
 show z ∈ l.foldl (fun o x=>jh x o) [] ↔ _
 rw [(a5b (l:=l) (o:=[]) List.Pairwise.nil).2 z]
 simp
theorem aon {l k:List AS} (hk:oe k) (h:∀ z,z ∈ k ↔ z ∈ l):k = ord l:=sy hk (vo l) fun z=>by rw [h z,ph]
end Go.Hx
end
