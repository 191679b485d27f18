/- A part of the proof: Cs21 V19 Cs22 Cs23 Hx21. -/
import Derived.ChangeArms
import Derived.OpenShut
import Derived.ProofKit
import Derived.WalkKit
import Derived.WideKeyArgs
import Derived.Test.YtkkenjdfbojdlaaGreatDoorFx14
import Derived.Test.YtkkenjdfbojdlaaGreatDoorFx22
set_option linter.all false
set_option maxRecDepth 100000
namespace Go.Hx
section
theorem aqe {l:List Fd} {s:AS} (h:ik l s = true):∃ x,a9l l s = some x ∧ sub x s ∧ o0 l s x = true:=by
 unfold ik at h
 obtain ⟨x,hx⟩:=Option.isSome_iff_exists.1 h
 refine ⟨x,hx, ?_,List.find?_some hx⟩
 have hm:=List.mem_of_find?_eq_some hx
 unfold be at hm
 split at hm
 · cases hm
 exact xj.1 hm
theorem a8s {a s:AS} (h:sub a s) (hne:a ≠ s):bsz a < bsz s:=by
 rcases Nat.lt_or_eq_of_le (akc h) with h1 | h1
 · exact h1
 exfalso
 apply hne
 have hs:(ap a).Sublist (ap s):=by
  have:ap a = (ap s).filter fun i=>a.getLsbD i:=by
   unfold ap
   rw [List.filter_filter]
   apply List.filter_congr
   intro i hi
   rw [List.mem_range] at hi
   cases ha:a.getLsbD i with
   | false=>rfl
   | true=>rw [ct.1 h i hi ha];rfl
  rw [this]
  exact List.filter_sublist
 rw [tx,tx] at h1
 have he:=hs.eq_of_length h1
 refine ij h (ct.2 fun i hi hb=>?_)
 have:i ∈ ap s:=kb.2 ⟨hi,hb⟩
 rw [← he] at this
 exact (kb.1 this).2
def spA (l:List Fd) (s:AS):AS:=(k7 l s).lhs ||| (k7 l s).rhs
def spB (l:List Fd) (s:AS):AS:=s &&& ~~~(k7 l s).rhs
theorem a2m {a b:AS}:sub (a &&& b) b:=ct.2 fun i hi h=>by rw [BitVec.getLsbD_and,Bool.and_eq_true] at h;exact h.2
theorem ue {a b:AS}:sub (a &&& b) a:=ct.2 fun i hi h=>by rw [BitVec.getLsbD_and,Bool.and_eq_true] at h;exact h.1
theorem a28 {a b c:AS} (h:sub a b) (k:sub a c):sub a (b &&& c):=ct.2 fun i hi ha=>by rw [BitVec.getLsbD_and,ct.1 h i hi ha,ct.1 k i hi ha];rfl
theorem asz {l:List Fd} {s:AS} (h:ik l s = true):sub (spA l s) s ∧ spA l s ≠ s ∧ sub (spB l s) s ∧ spB l s ≠ s:=by
 obtain ⟨x,hx,hs,hv⟩:=aqe h
 unfold o0 at hv
 rw [Bool.and_eq_true,decide_eq_true_iff,decide_eq_true_iff] at hv
 have e:k7 l s = amp l s x:=by unfold k7;rw [hx]
 have hxc:sub x (clo l x &&& s):=a28 a9x hs
 have ea:spA l s = clo l x &&& s:=by
  unfold spA
  rw [e]
  apply ij
  · exact zm hxc ue
  refine ct.2 fun i hi hb=>?_
  show (x ||| ((clo l x &&& s) &&& ~~~x)).getLsbD i = true
  rw [BitVec.getLsbD_or,BitVec.getLsbD_and,BitVec.getLsbD_not,hb,decide_eq_true hi]
  cases x.getLsbD i <;> rfl
 refine ⟨ea ▸ a2m,ea ▸ hv.2,ue,fun eb=>hv.1 ?_⟩
 unfold spB at eb
 rw [e] at eb
 refine ij (ct.2 fun i hi hb=>?_) hxc
 have hsi:s.getLsbD i = true:=ct.1 a2m i hi hb
 have h2:=congrArg (fun z:AS=>z.getLsbD i) eb
 have h3:(amp l s x).rhs.getLsbD i = !x.getLsbD i:=by
  show ((clo l x &&& s) &&& ~~~x).getLsbD i = _
  rw [BitVec.getLsbD_and,hb,BitVec.getLsbD_not,decide_eq_true hi]
  rfl
 simp only [BitVec.getLsbD_and,BitVec.getLsbD_not,decide_eq_true hi,hsi,h3,Bool.true_and,Bool.not_not] at h2
 exact h2
def a6t (l:List Fd):Nat → List AS → List AS → List AS
 | 0,_,out=>out
 | n + 1,todo,out =>
  if todo.length = 0 then out
  else if ik l (todo.getD (todo.length - 1) default) = true then a6t l n (todo.take (todo.length - 1) ++ [spA l (todo.getD (todo.length - 1) default),spB l (todo.getD (todo.length - 1) default)]) out
  else a6t l n (todo.take (todo.length - 1)) (out ++ [todo.getD (todo.length - 1) default])
def amx (n:Int) (l:List Fd):List AS:=a6t l 6562 [aq n] []
def ag2 (n:Int) (l:List Fd):List AS:=if gi n l 8 = 0 then ic (amx n l) else []
theorem b52 {n:Int} {l:List Fd} (h:gi n l 8 = 0):ag2 n l = ic (amx n l):=if_pos h
theorem b70 {n:Int} {l:List Fd} (h:¬ gi n l 8 = 0):ag2 n l = []:=if_neg h
def o4 (todo:List AS):Nat:=(todo.map fun s=>3 ^ bsz s).sum
theorem a6i (a b:List AS):o4 (a ++ b) = o4 a + o4 b:=by unfold o4;rw [List.map_append,List.sum_append]
theorem ahb:∀ todo:List AS,todo.length ≤ o4 todo
 | []=>Nat.zero_le _
 | s :: t=>by
  have h1:=ahb t
  have h2:0 < 3 ^ bsz s:=Nat.pow_pos (by omega)
  have e:o4 (s :: t) = 3 ^ bsz s + o4 t:=by unfold o4;rw [List.map_cons,List.sum_cons]
  rw [List.length_cons,e]
  omega
theorem ad4 {todo:List AS} (h:0 < todo.length):todo = todo.take (todo.length - 1) ++ [todo.getD (todo.length - 1) default]:=by
 have:=b5 (l:=todo) (q:=todo.length - 1) (by omega)
 rw [show todo.length - 1 + 1 = todo.length by omega,List.take_length] at this
 exact this
def a3y (n:Int) (l:List Fd) (x:Nat × List AS × List AS):Prop:=a6t l x.1 x.2.1 x.2.2 = amx n l ∧ o4 x.2.1 < x.1 ∧ x.2.2.length + x.1 ≤ 6562
theorem ann {k:Nat} (h:k ≤ 32):bsz (jb k) ≤ k:=by
 unfold bsz
 have e:(List.range 32).countP (fun i=>(jb k).getLsbD i) = (List.range 32).countP fun i=>decide (i < k):=by
  apply List.countP_congr
  intro i hi
  rw [List.mem_range] at hi
  rw [pk k i hi]
 have h2:∀ m,(List.range m).countP (fun i=>decide (i < k)) ≤ k ∧ (List.range m).countP (fun i=>decide (i < k)) ≤ m:=by
  intro m
  induction m with
  | zero=>simp
  | succ m ih =>
   rw [List.range_succ,List.countP_append]
   simp only [List.countP_cons,List.countP_nil]
   by_cases hm:m < k
   · rw [if_pos (decide_eq_true hm)];omega
   rw [if_neg (by simpa using hm)];omega
 rw [e]
 exact (h2 32).1
theorem aup {n:Int} {m:Nat} (h:n ≤ m) (hm:m ≤ 32):bsz (aq n) ≤ m:=by
 unfold aq
 exact Nat.le_trans (ann (Nat.min_le_right _ _)) (by omega)
theorem asx {n:Int} {l:List Fd} (h:gi n l 8 = 0):a3y n l (6562,[aq n],[]):=by
 refine ⟨rfl, ?_,Nat.le_refl _⟩
 show 3 ^ bsz (aq n) + 0 < 6562
 have h1:=aup (n:=n) (m:=8) (a4o h).2 (by omega)
 have h2:3 ^ bsz (aq n) ≤ 3 ^ 8:=Nat.pow_le_pow_right (by omega) h1
 have h3:3 ^ 8 = 6561:=rfl
 omega
theorem a5e {n:Int} {l:List Fd} {x:Nat × List AS × List AS} (h:a3y n l x):x.2.1.length < 6562 ∧ x.2.2.length ≤ 6562 ∧ 0 < x.1:=by
 have:=ahb x.2.1
 obtain ⟨h1,h2,h3⟩:=h
 omega
theorem b15 {n:Int} {l:List Fd} {x:Nat × List AS × List AS} (h:a3y n l x) (h0:x.2.1.length = 0):x.2.2 = amx n l:=by
 have hp:=(a5e h).2.2
 obtain ⟨h1,h2,h3⟩:=h
 obtain ⟨m,hm⟩:∃ m,x.1 = m + 1:=⟨x.1 - 1,by omega⟩
 rw [hm] at h1
 unfold a6t at h1
 rw [if_pos h0] at h1
 exact h1
theorem axl {n:Int} {l:List Fd} {x:Nat × List AS × List AS} (h:a3y n l x) (h0:0 < x.2.1.length) (hv:ik l (x.2.1.getD (x.2.1.length - 1) default) = true) :
 a3y n l (x.1 - 1,x.2.1.take (x.2.1.length - 1) ++ [spA l (x.2.1.getD (x.2.1.length - 1) default),spB l (x.2.1.getD (x.2.1.length - 1) default)],x.2.2):=by
 have hp:=(a5e h).2.2
 obtain ⟨h1,h2,h3⟩:=h
 obtain ⟨m,hm⟩:∃ m,x.1 = m + 1:=⟨x.1 - 1,by omega⟩
 rw [hm] at h1
 unfold a6t at h1
 rw [if_neg (by omega),if_pos hv] at h1
 refine ⟨by rw [hm];exact h1, ?_,by dsimp only;omega⟩
 have e:=a6i (x.2.1.take (x.2.1.length - 1)) [x.2.1.getD (x.2.1.length - 1) default]
 rw [← ad4 h0] at e
 have e1:o4 [x.2.1.getD (x.2.1.length - 1) default] = 3 ^ bsz (x.2.1.getD (x.2.1.length - 1) default):=by simp [o4]
 generalize x.2.1.getD (x.2.1.length - 1) default = s at *
 dsimp only
 rw [a6i]
 have e2:o4 [spA l s,spB l s] = 3 ^ bsz (spA l s) + 3 ^ bsz (spB l s):=by simp [o4]
 obtain ⟨f1,f2,f3,f4⟩:=asz hv
 have g1:=a8s f1 f2
 have g2:=a8s f3 f4
 obtain ⟨b,hb⟩:∃ b,bsz s = b + 1:=⟨bsz s - 1,by omega⟩
 have p1:3 ^ bsz (spA l s) ≤ 3 ^ b:=Nat.pow_le_pow_right (by omega) (by omega)
 have p2:3 ^ bsz (spB l s) ≤ 3 ^ b:=Nat.pow_le_pow_right (by omega) (by omega)
 have p3:3 ^ bsz s = 3 ^ b * 3:=by rw [hb,Nat.pow_succ]
 have p4:0 < 3 ^ b:=Nat.pow_pos (by omega)
 omega
theorem ax3 {n:Int} {l:List Fd} {x:Nat × List AS × List AS} (h:a3y n l x) (h0:0 < x.2.1.length) (hv:ik l (x.2.1.getD (x.2.1.length - 1) default) = false) :
 a3y n l (x.1 - 1,x.2.1.take (x.2.1.length - 1),x.2.2 ++ [x.2.1.getD (x.2.1.length - 1) default]):=by
 have hp:=(a5e h).2.2
 obtain ⟨h1,h2,h3⟩:=h
 obtain ⟨m,hm⟩:∃ m,x.1 = m + 1:=⟨x.1 - 1,by omega⟩
 rw [hm] at h1
 unfold a6t at h1
 rw [if_neg (by omega),if_neg (by rw [hv];decide)] at h1
 refine ⟨by rw [hm];exact h1, ?_,by dsimp only;rw [List.length_append,List.length_singleton];omega⟩
 have e:=a6i (x.2.1.take (x.2.1.length - 1)) [x.2.1.getD (x.2.1.length - 1) default]
 rw [← ad4 h0] at e
 have e1:o4 [x.2.1.getD (x.2.1.length - 1) default] = 3 ^ bsz (x.2.1.getD (x.2.1.length - 1) default):=by simp [o4]
 have p4:0 < 3 ^ bsz (x.2.1.getD (x.2.1.length - 1) default):=Nat.pow_pos (by omega)
 dsimp only
 omega
theorem akv {α:Type} [Inhabited α] {wr wr':Bool} {n m:Nat} {e:TypeId} {c:α → Nat → PV} {l:List α} {x y:α} {f g:Nat → Nat → PV} (hn:n = l.length) (hf:∀ i,i < l.length → CoP (f i 0) (lf c l i 0)) (h0:CoP (g 0 0) (c x 0)) (h1:CoP (g 1 0) (c y 0)) (hm:m = n + 2) (hw:wr' = true → wr = true:=by exact fun h=>h) :
 CoO (.arr wr 1 e m (gk n f g)) (.arr wr' 1 e (l ++ [x,y]).length (lf c (l ++ [x,y]))):=by
 subst hn hm
 refine ⟨hw,rfl,rfl,by simp,fun i j hi hj=>?_⟩
 obtain rfl:j = 0:=by omega
 unfold gk
 by_cases h:i < l.length
 · rw [if_pos h]
   have:=hf i h
   simp only [lf,List.getD,List.getElem?_append_left h] at this ⊢
   exact this
 rw [if_neg h]
 rcases (by omega:i = l.length ∨ i = l.length + 1) with rfl | rfl
 · rw [Nat.sub_self]
   simp only [lf,List.getD]
   rw [List.getElem?_append_right (Nat.le_refl _),Nat.sub_self]
   exact h0
 rw [show l.length + 1 - l.length = 1 by omega]
 simp only [lf,List.getD]
 rw [List.getElem?_append_right (by omega),show l.length + 1 - l.length = 1 by omega]
 exact h1
theorem agl {α:Type} [Inhabited α] {wr wr':Bool} {k m:Nat} {e:TypeId} {c:α → Nat → PV} {l:List α} (hk:k ≤ l.length) (hm:m = k) (hw:wr' = true → wr = true:=by exact fun h=>h):CoO (.arr wr 1 e m (lf c l)) (.arr wr' 1 e (l.take k).length (lf c (l.take k))):=by
 subst hm
 refine ⟨hw,rfl,rfl,by rw [List.length_take,Nat.min_eq_left hk],fun i j hi hj=>CoP.of_eq ?_⟩
 simp only [lf,List.getD,List.getElem?_take,if_pos hi]
theorem axk {l:List Fd} {s:AS}:PV.raw (.int .u32 (bo .or .u32 (asI (k7 l s).lhs) (asI (k7 l s).rhs))) = sC (spA l s) 0:=congrArg (fun z=>PV.raw (.int .u32 z)) (bOr _ _)
theorem ax8 {l:List Fd} {t:List AS} {i j:Nat} (h:i = j):PV.raw (.int .u32 (bo .andNot .u32 (asI (t.getD i default)) (asI (k7 l (t.getD j default)).rhs))) = sC (spB l (t.getD j default)) 0:=by
 subst h
 exact congrArg (fun z=>PV.raw (.int .u32 z)) (jn _ _)
theorem afb {l:List AS} {k i:Nat} (hi:i < (l.take k).length):lf sC l i 0 = lf sC (l.take k) i 0:=by
 rw [List.length_take] at hi
 simp only [lf,List.getD,List.getElem?_take,if_pos (show i < k by omega)]
theorem ajz {n:Int} {l:List Fd} {ps:List AS} {s:AS} {k:Nat} (hk:idx (fun x=>decide (x = s)) ps = k) (h:t7 n l (ps.eraseIdx k) = true):ta n l ps s = ps.eraseIdx k:=by
 unfold ta
 rw [hk,Int.toNat_natCast,if_pos h]
theorem aky {n:Int} {l:List Fd} {ps:List AS} {s:AS} {k:Nat} (hk:idx (fun x=>decide (x = s)) ps = k) (h:t7 n l (ps.eraseIdx k) = false):ta n l ps s = ps:=by
 unfold ta
 rw [hk,Int.toNat_natCast,if_neg (by rw [h];decide)]
end
section
open Go.Proofs
theorem b4g:goodFn Tryz.prog 33:=wgx Tryz.func33
theorem bcm (n:Int) (l:List Fd):af Tryz.prog 33 [pI n,pP (fdl l)] (aj [pP (asl (ag2 n l)),pI (gi n l 8)]):=by
 refine a8 (nt:=60) a7 Tryz.func33 rfl rfl l9 ?_;refine dl ?_;refine qcx apt (b7i n l) ?_;refine w_7 ?_;refine a6 _ rfl (fun r0=>?_) (fun r0=>?_)
 ·
  have h0:=r0
  have h0:=aa (au h0)
  try simp only [ty] at h0
  refine w_6 ?_
  exact hx8 rfl rfl rfl (⟨CoC.one (a0z (b70 h0)),CoC.refl _,trivial⟩)
 have h0:=r0
 have h0:=ae (ar h0)
 try simp only [ty] at h0
 refine w_2 ?_
 have hv:=gp (a4o h0).1
 refine w_7 ?_;refine qcx ag8 (alc n hv.1 hv.2.1) ?_;refine m9 0 ?_;refine w_3 ?_
 refine d6 7 900 true 1 46 (lf sC []) (by decide) rfl (CoP.sl rfl (.inr rfl) (fun h=>h) (fun i j hi _=>absurd hi (Nat.not_lt_zero i))) (.inr rfl) rfl ?_;refine u6 8 901 rfl rfl rfl rfl ?_
 refine ah (ι:=Nat × List AS × List AS) ⟨[(1,some _)],[]⟩ ⟨⟨c9,trivial⟩,trivial⟩ (fun x=>⟨[(7,some (.v (.one (.ref 900 x.2.2.length)))),(8,some (.v (.one (.ref 901 x.2.1.length))))],[(900,some (.arr true 1 46 x.2.2.length (lf sC x.2.2))),(901,some (.arr true 1 46 x.2.1.length (lf sC x.2.1)))]⟩) (fun x=>a3y n l x) (fun x=>x.1) ((6562,[aq n],[])) (asx h0) ⟨⟨zy,zy,trivial⟩,⟨u9,⟨_,rfl,(a0q (CoP.refl _))⟩,trivial⟩⟩ ?_
 rintro x hx
 have hlen:=a5e hx
 refine u6 8 902 rfl rfl rfl rfl ?_;refine w_7 ?_;refine a6 _ rfl (fun r1=>?_) (fun r1=>?_)
 ·
  have h1:=ae r1
  try simp only [ty] at h1
  refine amo ?_;refine a6n ⟨[(1,some _),(7,some _),(8,some _),(9,some _)],[(900,some _),(902,some _)]⟩ (by exact ⟨⟨c9,c9,c9,c9,trivial⟩,⟨u9,u9,trivial⟩⟩) ?_
  refine ahl 8 901 rfl rfl rfl rfl (by simp only [ej,bc,Int.toNat_natCast];omega) rfl ?_;refine w_4 ?_
  refine rc rfl rfl rfl rfl rfl rfl agp (amw l (x.2.1.getD (x.2.1.length - 1) default)) (⟨CoC.refl _,CoC.one (CoP.of_eq (congrArg (fun i=>asC (x.2.1.getD i default)) (by omega))),trivial⟩) rfl rfl ?_;refine w_3 ?_
  refine m9 1 ?_;refine w_7 ?_;refine a6 _ rfl (fun r2=>?_) (fun r2=>?_)
  ·
   have h2:=r2
   refine f8 ?_;refine m9 2 ?_;refine ra 3 true rfl rfl rfl rfl rfl rfl ?_;refine w_2 ?_
   first | (refine ⟨(x.1 - 1, (x.2.1.take (x.2.1.length - 1)) ++ [spA l (x.2.1.getD (x.2.1.length - 1) default), spB l (x.2.1.getD (x.2.1.length - 1) default)], x.2.2), ?_, ?_, ?_⟩
            · exact axl hx (by omega) (by assumption)
            · dsimp only
              omega
            exact ⟨⟨zy,⟨_,rfl,(jx (by simp only [ej,bc,List.length_append,List.length_cons,List.length_nil,List.length_take];omega))⟩,c9,trivial⟩,⟨u9,⟨_,rfl,(akv (by simp only [ej,bc,List.length_append,List.length_cons,List.length_nil,List.length_take];omega) (fun i hi=>CoP.of_eq (afb hi)) (CoP.of_eq axk) (CoP.of_eq (ax8 (by omega))) rfl)⟩,trivial⟩⟩)
         | (refine ⟨(x.1 - 1,(x.2.1.take (x.2.1.length - 1)),x.2.2 ++ [(x.2.1.getD (x.2.1.length - 1) default)]), ?_, ?_, ?_⟩
            · exact ax3 hx (by omega) (by assumption)
            · dsimp only
              omega
            exact ⟨⟨⟨_,rfl,(ca rfl)⟩,⟨_,rfl,(jx (by simp only [ej,bc,List.length_append,List.length_cons,List.length_nil,List.length_take];omega))⟩,c9,trivial⟩,⟨⟨_,rfl,(c7 rfl (CoP.of_eq (congrArg (fun i=>asC (x.2.1.getD i default)) (by omega))))⟩,⟨_,rfl,(agl (by omega) (by simp only [ej,bc];omega))⟩,trivial⟩⟩)
  have h2:=r2
  refine w_3 ?_;refine m9 4 ?_;refine ra 5 true rfl rfl rfl rfl rfl rfl ?_;refine w_2 ?_
  first | (refine ⟨(x.1 - 1, (x.2.1.take (x.2.1.length - 1)) ++ [spA l (x.2.1.getD (x.2.1.length - 1) default), spB l (x.2.1.getD (x.2.1.length - 1) default)], x.2.2), ?_, ?_, ?_⟩
           · exact axl hx (by omega) (by assumption)
           · dsimp only
             omega
           exact ⟨⟨zy,⟨_,rfl,(jx (by simp only [ej,bc,List.length_append,List.length_cons,List.length_nil,List.length_take];omega))⟩,c9,trivial⟩,⟨u9,⟨_,rfl,(akv (by simp only [ej,bc,List.length_append,List.length_cons,List.length_nil,List.length_take];omega) (fun i hi=>CoP.of_eq (afb hi)) (CoP.of_eq axk) (CoP.of_eq (ax8 (by omega))) rfl)⟩,trivial⟩⟩)
        | (refine ⟨(x.1 - 1,(x.2.1.take (x.2.1.length - 1)),x.2.2 ++ [(x.2.1.getD (x.2.1.length - 1) default)]), ?_, ?_, ?_⟩
           · exact ax3 hx (by omega) (by assumption)
           · dsimp only
             omega
           exact ⟨⟨⟨_,rfl,(ca rfl)⟩,⟨_,rfl,(jx (by simp only [ej,bc,List.length_append,List.length_cons,List.length_nil,List.length_take];omega))⟩,c9,trivial⟩,⟨⟨_,rfl,(c7 rfl (CoP.of_eq (congrArg (fun i=>asC (x.2.1.getD i default)) (by omega))))⟩,⟨_,rfl,(agl (by omega) (by simp only [ej,bc];omega))⟩,trivial⟩⟩)
 have h1:=aa r1
 try simp only [ty] at h1
 refine w_2 ?_;refine bi 7 rfl rfl rfl ?_
 have hx0:x.2.1.length = 0:=by omega
 refine w_2 ?_;refine qcx afq (a7k x.2.2 (by omega)) ?_;refine w_3 ?_
 exact hx8 rfl rfl rfl (⟨CoC.one (CoP.of_eq (by rw [b52 h0,b15 hx hx0])),cci h0.symm,trivial⟩)
theorem b5l:goodFn Tryz.prog 42:=wgx Tryz.func42
theorem bak (n:Int) (l:List Fd):af Tryz.prog 42 [pI n,pP (fdl l)] (aj [pP (asl (xx n l)),pB (te n l),pI (gi n l 8)]):=by
 refine a8 (nt:=49) a7 Tryz.func42 rfl rfl l9 ?_;refine sx7 ?_;refine m9 0 ?_;refine m9 1 ?_;refine w_8 ?_;refine qcx b7o (b7w n l) ?_;refine fc ?_;refine a6 _ rfl (fun r0=>?_) (fun r0=>?_)
 ·
  have h0:=r0
  have h0:=aa (au h0)
  try simp only [ty] at h0
  refine w_8 ?_;refine ⟨.inr rfl, ?_⟩
  have he:=b74 h0
  exact f9 rfl rfl (⟨CoC.one (a0z he.1),ccb he.2.symm,CoC.refl _,trivial⟩)
 have h0:=r0
 have h0:=ae (ar h0)
 try simp only [ty] at h0
 refine w_3 ?_
 have hv:=gp (a4o h0).1
 have hsl:=au8 n l
 have hml:=atc (gw n l)
 refine w_3 ?_;refine qcx af0 (auj l (gw n l) (by omega)) ?_;refine w_2 ?_;refine a6 _ rfl (fun r1=>?_) (fun r1=>?_)
 ·
  have h1:=r1
  have h1:=au h1
  refine w_7 ?_;refine ⟨.inr rfl, ?_⟩
  have he:=b61 (n:=n) (l:=l) (by assumption)
  exact f9 rfl rfl (⟨CoC.one (a0z he.1),ccb he.2.symm,cci h0.symm,trivial⟩)
 have h1:=r1
 have h1:=ar h1
 refine w_4 ?_;refine qcx afq (a7k (gw n l) (by omega)) ?_;refine m9 2 ?_;refine w_4 ?_;refine cz 2 rfl rfl rfl ?_;refine cz 3 rfl rfl rfl ?_;refine w_2 ?_
 refine qcx a34 (avt (ic (gw n l)).length false (lf sC (ic (gw n l))) (by omega)) ?_;refine qcx b4i (c74 (ic (gw n l)).length false (lf sC (ic (gw n l)))) ?_;refine w_2 ?_
 refine av3 (ι:=List AS) (swp 2 1000) (aj7 2 1000) rfl b46 (b9v (ic (gw n l)).length false (lf sC (ic (gw n l))) (by omega)) [(2,some (bp (bx (.raw (.int .i64 n))))),(3,some (bp (bx (fdl l)))),(9,some (.v (.one (.ptr 2 0))))] (fun ps=>[(2, .box [.p (asl ps)])]) (fun i ps=>adk n l (ic (gw n l)) i ps) ((ic (gw n l))) (as2 n l (ic (gw n l))) ⟨⟨c9,c9,c9,trivial⟩,⟨u9,trivial⟩⟩ [2] (fun _ _=>rfl) rfl rfl ?_ ?_
 · rintro lp i ps hi hI
   have hpl:=hI.2.1
   refine w_3 ?_;refine ⟨rfl, ?_⟩;refine w_5 ?_;refine qcx b6v (bc3 ps ((ic (gw n l)).getD ((ic (gw n l)).length - 1 - i) default)) ?_;refine w_3 ?_
   obtain ⟨k,hk1,hk2,hk3⟩:=a98 (hI.2.2 ((ic (gw n l)).length - 1 - i) (by omega))
   refine w_2 ?_;refine bf rfl rfl rfl rfl rfl rfl a34 (a07 ps.length false (lf sC ps) (by omega)) (da.refl _) trivial rfl rfl ?_;refine w_3 ?_
   refine bf rfl rfl rfl rfl rfl rfl b5r ((b3q ps k hk2).swap 900 0) (⟨rfl,CoP.of_eq (by rw [hk1]),CoP.of_eq (by rw [hk1]),trivial⟩) ⟨u9,trivial⟩ rfl rfl ?_;refine w_7 ?_
   refine qcx b7p (baw n l (ps.eraseIdx k) hv.1 hv.2.1 (by omega)) ?_;refine ax ?_;refine a6 _ rfl (fun r2=>?_) (fun r2=>?_)
   ·
    have h2:=r2
    refine w_4 ?_;refine ⟨rfl,ta n l ps ((ic (gw n l)).getD ((ic (gw n l)).length - 1 - i) default), ?_, ?_⟩
    · exact ack (a9o _) hI hi
    exact ⟨⟨_,rfl,(by first | exact ⟨CoP.of_eq (by rw [ajz hk1 (by assumption)]),trivial⟩ | exact ⟨CoP.of_eq (by rw [aky hk1 (by assumption)]),trivial⟩)⟩,trivial⟩
   have h2:=r2
   refine dn ?_;refine ⟨rfl,ta n l ps ((ic (gw n l)).getD ((ic (gw n l)).length - 1 - i) default), ?_, ?_⟩
   · exact ack (a9o _) hI hi
   exact ⟨⟨_,rfl,(by first | exact ⟨CoP.of_eq (by rw [ajz hk1 (by assumption)]),trivial⟩ | exact ⟨CoP.of_eq (by rw [aky hk1 (by assumption)]),trivial⟩)⟩,trivial⟩
 rintro ps hI
 refine w_8 ?_;refine ⟨.inr rfl, ?_⟩
 have he:=b55 h0 (by assumption)
 exact f9 rfl rfl (⟨CoC.one (CoP.of_eq (by rw [he.1,← hI.1])),ccb he.2.symm,cci h0.symm,trivial⟩)
end
section
open Go.Proofs
def bcv:List Fd:=[⟨1,2⟩,⟨2,4⟩]
def bd3:List Fd:=[⟨3,4⟩,⟨4,1⟩]
end
section
open Go.Proofs
def w1 (l:List Fd) (p:AS):Int:=if br 16 l = 0 ∧ (8:Int) < bsz p then 3 else br 16 l
section
variable {l:List Fd} {p:AS}
end
section
variable {n:Int} {l:List Fd}
end
end
section
open Go.RowKit Go.ChangeShapes Go.WideShapes Go.ChangeAt
def Rd (P:Program) (t:TypeId) (n:Nat) {α:Type} (c:α → Nat → PV):Prop :=
 ∀ (H:Type) (enc:TypeId × Value → H) (w:World) (sp:Nat → Bool) (held:Bool) (fuel:Nat) (cs:List Value) (x:DataW H × List MemPlace),DataW.trod enc P w 0 sp held fuel t cs = some x →
  cs.length = n ∧ ∃ a:α,∀ j,j < n → ∃ v,cs[j]? = some v ∧ ay (fz w) (c a j) v
section
variable {P:Program} {t e:TypeId}
def b4p (k:IntKind) (z:Int):Nat → PV:=fun _=>.raw (.int k z)
def bcw (b:Bool):Nat → PV:=fun _=>.raw (.bool b)
def ba0 (s:ByteArray):Nat → PV:=fun _=>.raw (.string s)
theorem b7l {k:IntKind} (ht:P.underlying t = some (.int k)):Rd P t 1 (b4p k):=by
 intro H enc w sp held fuel cs x h
 obtain ⟨n,rfl,_,_⟩:=DataW.trod_int ht h
 refine ⟨rfl,n,fun j hj=>?_⟩
 obtain rfl:j = 0:=by omega
 exact ⟨_,rfl,rfl,rfl⟩
def u8P (u:UInt8):Nat → PV:=fun _=>.raw (.int .u8 (u.toNat:Int))
theorem b9n (ht:P.underlying t = some (.int .u8)):Rd P t 1 u8P:=by
 intro H enc w sp held fuel cs x h
 obtain ⟨n,rfl,_,hw⟩:=DataW.trod_int ht h
 have hx:0 ≤ n ∧ n ≤ 255:=by simpa [Lit.wf,IntKind.min,IntKind.max,IntKind.signed,IntKind.bits] using hw
 refine ⟨rfl,UInt8.ofNat n.toNat,fun j hj=>?_⟩
 obtain rfl:j = 0:=by omega
 refine ⟨_,rfl, ?_,rfl⟩
 have:(UInt8.ofNat n.toNat).toNat = n.toNat:=by
  rw [UInt8.toNat_ofNat']
  omega
 rw [this]
 congr 1
 omega
theorem Rd.co {n:Nat} {α β:Type} {c:α → Nat → PV} {c':β → Nat → PV} (h:Rd P t n c) (f:α → β) (hc:∀ a j,j < n → CoP (c a j) (c' (f a) j)):Rd P t n c':=by
 intro H enc w sp held fuel cs x hx
 obtain ⟨h1,a,h2⟩:=h _ enc w sp held fuel cs x hx
 refine ⟨h1,f a,fun j hj=>?_⟩
 obtain ⟨v,h3,h4⟩:=h2 j hj
 exact ⟨v,h3,hc a j hj _ _ h4⟩
def an9 {α:Type} [Inhabited α] (s:Nat) (c:α → Nat → PV) (l:List α):Nat → PV:=fun _=>psl s c l
end
theorem adh {W W':World} (hb:Below W.heap.size W W') (may:MemPlace → Prop):W.keptBut W' may:=by
 refine ⟨hb.os,hb.output,fun i hi=>?_⟩
 rw [hb.block i hi]
 cases W.heap[i]? with
 | none=>exact rfl
 | some o=>cases o <;> first | exact ⟨rfl,rfl,rfl,fun _ _=>rfl⟩ | exact .inr ⟨rfl,rfl⟩ | exact rfl
theorem adb {W W':World} (hb:Below W.heap.size W W') (p:MemPlace) (hp:p.block < W.heap.size):W.sameAt W' p:=by
 cases p with
 | cell b off=>show W'.cell? _ = W.cell? _;unfold World.cell?;rw [hb.block b hp]
 | map b=>exact hb.block b hp
section
variable {H:Type} {enc:TypeId × Value → H} {P:Program}
theorem a1t (hl:laidOutB P = true) {W W':World} {sp':Nat → Bool}:∀ {ts:List TypeId} {vs:List Value} {ds:List (DataW H)} {ps:List MemPlace},(∀ t ∈ ts,P.readableRec t = true ∧ t < P.types.size) → DataW.TrodAll enc P W 0 (fun _=>true) true ts vs ds ps →
 (∀ p ∈ ps,W.sameAt W' p) → (∀ p ∈ ps,sp' p.block = true) → DataW.TrodAll enc P W' 0 sp' true ts vs ds ps
 | [],[],[],ps,_,h,_,_=>h
 | t :: ts,v :: vs,d :: ds,ps,ht,⟨p,q,h1,h2,e⟩,hs,hsp=>by
  subst e
  refine ⟨p,q,WideElems.Trod_stays hl (ht t (by simp)).1 (ht t (by simp)).2 h1 (fun z hz=>hs z (by simp [hz])) (fun z hz=>hsp z (by simp [hz])), ?_,rfl⟩
  exact a1t hl (fun t ht'=>ht t (by simp [ht'])) h2 (fun z hz=>hs z (by simp [hz])) (fun z hz=>hsp z (by simp [hz]))
 | [],_ :: _,_,_,_,h,_,_=>h.elim
 | [],[],_ :: _,_,_,h,_,_=>h.elim
 | _ :: _,[],_,_,_,h,_,_=>h.elim
 | _ :: _,_ :: _,[],_,_,h,_,_=>h.elim
theorem au2 {f:Func} {s:ChangeSpec} {W W':World} {args:Array Value} {ds:List (DataW H)} {before:List MemPlace} {tb:TypeId} (hl:laidOutB P = true) (hpar:∀ t ∈ f.params.toList,P.readableRec t = true ∧ t < P.types.size)
 (hres:f.resultTypes = #[tb]) (htb:P.underlying tb = some .bool) (hv:s.vars = []) (hfn:s.fn H ds = { results:=[.lit (.bool true)],args:=ds })
 (hW:DataW.Whole enc P f.params.toList s.vars false W args.toList ds [] before) (hb:Below W.heap.size W W'):s.post enc P f false true false false W args (.bool true) W':=by
 have hW':=hW
 have hlt:∀ p ∈ before,p.block < W.heap.size:=fun p hp=>hW.lt p hp
 obtain ⟨p,q,hA,hV,rfl,hfz,hnd⟩:=hW
 rw [hv] at hV
 obtain ⟨_,rfl⟩:=trodVars_none hV
 have hfn':s.fn H (ds ++ []) = { results:=[.lit (.bool true)],args:=ds }:=by rw [List.append_nil];exact hfn
 have hargs:∀ sp:Nat → Bool,(∀ z ∈ p ++ [],sp z.block = true) → DataW.TrodAll enc P W' 0 sp true f.params.toList args.toList (s.fn H (ds ++ [])).args p:=fun sp hsp=>by
  rw [hfn']
  exact a1t hl hpar hA (fun z hz=>adb hb z (hlt z (by simpa using hz))) (fun z hz=>hsp z (by simpa using hz))
 have hrs:∀ (b:Nat) (sp:Nat → Bool) (hd:Bool),DataW.TrodAll enc P W' b sp hd f.resultTypes.toList ((Value.bool true).resultList f.resultTypes.size) (s.fn H (ds ++ [])).results []:=fun b sp hd=>by
  rw [hfn',hres]
  exact trodAll_cons_mk (shut_bool htb _) trodAll_mk0
 have hok:∀ (j:Nat) (t:TypeId) (r:Value),f.resultTypes[j]? = some t → ((Value.bool true).resultList f.resultTypes.size)[j]? = some r → Value.okWide P W' .any 0 t r:=ok_one hres rfl (okWide_bool_mk htb _)
 have hvars:∀ sp:Nat → Bool,(∀ z ∈ p ++ [],sp z.block = true) → DataW.TrodVars enc P W' sp s.vars (s.fn H (ds ++ [])).vars []:=fun sp _=>by
  rw [hfn',hv];exact rfl
 have hold:∀ z ∈ p ++ [],(fun b=>decide (b < W.heap.size)) z.block = true:=fun z hz=>by simpa using hlt z hz
 refine ⟨ds,[],p ++ [],[],p,[],hW',hrs _ _ _,hargs _ hold,hvars _ hold,World.keptBut_mono (fun z hz=>⟨hz, ?_⟩) (adh hb (· ∈ p ++ [])),fun _=>?_⟩
 · exact Or.inr (by simpa using hz)
 refine ⟨hok,_,_,([] ++ p) ++ [],⟨[] ++ p,[],trodAll_append (hargs _ (fun _ _=>rfl)) (hrs _ _ _),hvars _ (fun _ _=>rfl),rfl, ?_, ?_⟩, ?_⟩
 · intro b off hp
   have hp':MemPlace.cell b off ∈ p ++ []:=by simpa using hp
   have:=hfz b off hp'
   unfold World.frozen? at this ⊢
   rw [hb.block b (hlt _ hp')]
   exact this
 · intro ha;cases ha
 intro z hz _
 simpa using hz
end
theorem adz {P:Program} {W:World} {r:Reach} {b:Nat} {t e:TypeId} {v:Value} (ht:P.underlying t = some (.slice e)) (h:Value.okWide P W r b t v):v.cells.toList = [v]:=by
 unfold Value.okWide at h
 rw [ht] at h
 unfold Cell.okWide at h
 rw [ht] at h
 cases v <;> first | rfl | (simp [Cell.ok,ht] at h)
theorem am1 {P:Program} {W:World} {r:Reach} {b:Nat} {t:TypeId} {k:IntKind} {v:Value} (ht:P.underlying t = some (.int k)) (h:Value.okWide P W r b t v):v.cells.toList = [v]:=by
 unfold Value.okWide at h
 rw [ht] at h
 unfold Cell.okWide at h
 rw [ht] at h
 cases v <;> first | rfl | (simp [Cell.ok,ht] at h)
theorem aot {P:Program} {f:FuncId} {args:List PC} {us:List Value} {W:World} {R:Ending → World → Prop} (ht:oj (fz W)) (h:af P f args (aj [.one (.raw (.bool true))])) (hr:cn (fz W) args us) (hR:∀ W',Below W.heap.size W W' → R (.returned (.bool true)) W'):Calls P f us.toArray W R:=by
 refine (h W (fz W) us ht (fun _ _ hh=>hh) hr).mono ?_
 rintro e w' ⟨v,imm',rfl,hv,_,_,hb⟩
 obtain ⟨rfl,_⟩:=hv
 exact hR w' hb
end
end Go.Hx
