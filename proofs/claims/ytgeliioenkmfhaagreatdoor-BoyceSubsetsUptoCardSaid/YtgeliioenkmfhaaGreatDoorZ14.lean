/- A part of the proof: lemmas for the theorem of this claim, merged by a program of ours out of Hx18, HxEnv. -/
import Derived.Test.YtgeliioenkmfhaaGreatDoorProg
import Derived.Test.YtgeliioenkmfhaaGreatDoorZ13
set_option linter.all false
section
namespace Go.Hx
open Go.RowKit
section
variable {ro : Option Nat} {P : Program} {E : Env} {nt : Nat} {ops : Array Oper} {i : Nat} {o : Oper} {st : HSt} {T : List Tr} {sf : S} {L : List Nat} {K : List Tr → HSt → Prop}
theorem byteAt_in (b : ByteArray) (i : Nat) : 0 ≤ byteAt b i ∧ byteAt b i ≤ 255 := by
  unfold byteAt
  have := (b.data.toList.getD i 0).toNat_lt
  omega
theorem byte64 (b : ByteArray) (i : Nat) : (arith true .i64 (byteAt b i)).1 := by
  have := byteAt_in b i
  simp only [arith, inR, loOf, hiOf]
  omega
theorem rq {out : Out} {gb : Bool} (hi : ops[i]? = some o) (hw : wantedH ops st.den o = some gb) (hd : dstOk nt o.dst = true) (hq' : hq E true st.den.o (ev st.den) o.op = some out) (hg : gb = true)
    (hT : Reg P E nt ops L (st.after o.dst (some out.val) []) fun T sf => K (⟨i, ann0 true out.val.ids, looks st.den o, oldIds st.den o.dst [], fineOf E st.den o⟩ :: T) sf)
    (hp : out.pre := by first | exact trivial | (simp only [arith, inR, loOf, hiOf]; omega) | exact byte64 _ _ | exact ⟨trivial, trivial⟩ | exact ⟨trivial, Nat.le_of_ble_eq_true rfl⟩ | (try dsimp only) <;> ((repeat' apply And.intro) <;> first | trivial | rfl | omega | (simp only [less, upTo]; omega) | assumption | exact Nat.le_of_ble_eq_true rfl)) :
    Reg P E nt ops (i :: L) st K := rg_quiet true hi hw hd hq' hg hp hT
theorem rqw {out : Out} {gb : Bool} (hi : ops[i]? = some o) (hw : wantedH ops st.den o = some gb) (hd : dstOk nt o.dst = true) (hq' : hq E false st.den.o (ev st.den) o.op = some out) (hg : gb = true)
    (hT : Reg P E nt ops L (st.after o.dst (some out.val) []) fun T sf => K (⟨i, ann0 false out.val.ids, looks st.den o, oldIds st.den o.dst [], fineOf E st.den o⟩ :: T) sf)
    (hp : out.pre := by first | exact trivial | (simp only [arith, inR, loOf, hiOf]; omega) | exact byte64 _ _ | exact ⟨trivial, trivial⟩ | exact ⟨trivial, Nat.le_of_ble_eq_true rfl⟩ | (try dsimp only) <;> ((repeat' apply And.intro) <;> first | trivial | rfl | omega | (simp only [less, upTo]; omega) | assumption | exact Nat.le_of_ble_eq_true rfl)) :
    Reg P E nt ops (i :: L) st K := rg_quiet false hi hw hd hq' hg hp hT
theorem rm (id : Nat) {nw : New} {gb : Bool} (hi : ops[i]? = some o) (hw : wantedH ops st.den o = some gb) (hd : dstOk nt o.dst = true) (hq' : ha E (ev st.den) id o.op = some nw) (hn : newB id st = true) (hg : gb = true)
    (hT : Reg P E nt ops L (st.after o.dst (some nw.val) [(id, some nw.ob)]) fun T sf => K (⟨i, ⟨id, false, true, .tup [], [id], [id], nw.val.ids ++ nw.ob.ids⟩, looks st.den o, oldIds st.den o.dst [(id, some nw.ob)], none⟩ :: T) sf)
    (hp : nw.pre := by first | exact trivial | (try dsimp only) <;> ((repeat' apply And.intro) <;> first | trivial | rfl | omega | assumption)) : Reg P E nt ops (i :: L) st K := rg_make id hi hw hd hq' hn hg hp hT
theorem rs {u : Upd} {gb : Bool} (hi : ops[i]? = some o) (hw : wantedH ops st.den o = some gb) (hd : dstOk nt o.dst = true) (hq' : hs E st.den.o (ev st.den) o.op = some u) (hg : gb = true)
    (hT : Reg P E nt ops L (st.after o.dst none [(u.id, some u.ob)]) fun T sf => K (⟨i, ⟨0, false, true, .tup [], [u.id], [], u.ob.ids⟩, looks st.den o, oldIds st.den o.dst [(u.id, some u.ob)], fineOf E st.den o⟩ :: T) sf)
    (hp : u.pre := by first | exact Nat.le_of_ble_eq_true rfl | (try dsimp only) <;> ((repeat' apply And.intro) <;> first | trivial | rfl | omega | (simp only [less, upTo]; omega) | assumption | exact Nat.le_of_ble_eq_true rfl)) : Reg P E nt ops (i :: L) st K := rg_store hi hw hd hq' hg hp hT
theorem ra (id : Nat) (wb : Bool) {u : App} {gb : Bool} (hi : ops[i]? = some o) (hw : wantedH ops st.den o = some gb) (hd : dstOk nt o.dst = true) (hq' : hap E st.den.o (ev st.den) id wb o.op = some u) (hn : (!u.new || newB id st) = true) (hg : gb = true)
    (hT : Reg P E nt ops L (st.after o.dst (some u.val) [(u.id, some u.ob)]) fun T sf => K (⟨i, ⟨id, wb, true, .tup [], [u.id], if u.new then [id] else [], u.val.ids ++ u.ob.ids⟩, looks st.den o, oldIds st.den o.dst [(u.id, some u.ob)], none⟩ :: T) sf)
    (hp : u.pre := by (try dsimp only) <;> ((repeat' apply And.intro) <;> first | trivial | rfl | assumption | omega | (simp only [Int.toNat_natCast]; omega) | (simp only [less, upTo]; omega) | exact Or.inl rfl | exact Or.inr rfl | exact (fun _ => Or.inl rfl) | exact (fun _ => Or.inr (Nat.le_of_ble_eq_true rfl)) | exact Nat.le_of_ble_eq_true rfl | (intro h; cases h; done))) : Reg P E nt ops (i :: L) st K := rg_app id wb hi hw hd hq' hn hg hp hT
theorem rc {cl : Call} {f : FuncId} {caps args vs : List PC} {p : Prop} {b : Bool} {res : PR} {gb : Bool} (hi : ops[i]? = some o) (hw : wantedH ops st.den o = some gb) (hd : dstOk nt o.dst = true) (ho : o.op = .call cl) (hc : callee (ev st.den) cl = some (f, caps))
    (hv : viewArgs st.den.o (ev st.den) cl.args.toList = some (p, vs, b)) (hf : goodFn P f) (hpure : HPure P f args res) (hco : CoL (vs ++ caps) args) (hb : (!b || res.flat) = true) (hg : gb = true)
    (hT : Reg P E nt ops L (st.after o.dst (some res.toH) []) fun T sf => K (⟨i, ⟨0, false, true, res, [], [], []⟩, looks st.den o, oldIds st.den o.dst [], none⟩ :: T) sf)
    (hp : p := by (try dsimp only) <;> ((repeat' apply And.intro) <;> first | trivial | rfl | omega | assumption)) : Reg P E nt ops (i :: L) st K := rg_call hi hw hd ho hc hv hf hpure hco hg hp hb hT
theorem rk {gb : Bool} (hi : ops[i]? = some o) (hw : wantedH ops st.den o = some gb) (hd : dstOk nt o.dst = true) (hg : gb = false)
    (hT : Reg P E nt ops L (st.after o.dst (some (.tup [])) []) fun T sf => K (⟨i, ann0 true [], looks st.den o, oldIds st.den o.dst [], none⟩ :: T) sf) : Reg P E nt ops (i :: L) st K := rg_skip hi hw hd hg hT
theorem rcut {out : Out} {id : Nat} {gb : Bool} (hi : ops[i]? = some o) (hw : wantedH ops st.den o = some gb) (hd : dstOk nt o.dst = true) (hq' : hqCut E st.den.o (ev st.den) o.op = some (out, id)) (hg : gb = true)
    (hT : Reg P E nt ops L (st.after o.dst (some out.val) [(id, none)]) fun T sf => K (⟨i, ⟨0, false, true, .tup [], [id], [], []⟩, looks st.den o, oldIds st.den o.dst [(id, none)], none⟩ :: T) sf)
    (hp : out.pre := by (try dsimp only) <;> ((repeat' apply And.intro) <;> first | trivial | rfl | omega | (simp only [less, upTo]; omega) | assumption | exact Nat.le_of_ble_eq_true rfl)) : Reg P E nt ops (i :: L) st K := rg_cut hi hw hd hq' hg hp hT
theorem rsplit {b w : Bool} (hi : ops[i]? = some o) (hw : wantedH ops st.den o = some (b == w)) (ht : b = true → Reg P E nt ops (i :: L) st K) (hf : b = false → Reg P E nt ops (i :: L) st K) : Reg P E nt ops (i :: L) st K := by
  cases hb : b with
  | true => exact ht hb
  | false => exact hf hb
theorem gtt {b : Bool} (h : b = true) : (b == true) = true := by subst h; rfl
theorem gff {b : Bool} (h : b = false) : (b == false) = true := by subst h; rfl
theorem gtf {b : Bool} (h : b = true) : (b == false) = false := by subst h; rfl
theorem gft {b : Bool} (h : b = false) : (b == true) = false := by subst h; rfl
end
theorem HPure.eat {P : Program} {f : FuncId} {args : List PC} {res : PR} {hcs : List HC} {o1 : List (Nat × HObj)} {q : Prop} {vs : List PC} (h : HPure P f args res) (hv : viewCs (lk o1) hcs = some (q, vs)) (hq : q) (hco : CoL vs args) : HFun P f hcs o1 res.toH [] [] := by
  classical
  intro w c us hm hargs
  let own : Nat → Prop := fun b => ∃ id ob, lk o1 id = some ob ∧ c.blk id = some b
  let frm : Imm := fun b => if own b then none else w.heap[b]?
  let c2 : Ctx := { old := (c.imm, frm, c.own, lk o1), imm := c.imm, tab := c.tab, own := c.own, blk := c.blk }
  have hrel : RelC w 0 c2 ⟨fun _ => none, lk o1⟩ { tmps := #[], defers := [] } w := by
    refine ⟨Marks.nil _ _ _ _, rfl, Below.refl _ _, (fun d x hx => by cases hx), fun id ob ho => ?_, hm.inj, hm.imm, hm.sep, fun b _ => rfl, fun b ob hbo => ?_, fun id ob b ho hbb => ?_, fun id _ => Evo.of_same rfl rfl⟩
    · exact (hm.objs id ob ho).keep (Imm.le.refl c.imm) rfl rfl (fun _ _ => Evo.of_same rfl rfl) fun _ _ => rfl
    · have hbo : frm b = some ob := hbo
      simp only [frm] at hbo
      split at hbo
      · cases hbo
      · exact hbo
    · show frm b = none
      simp only [frm]
      rw [if_pos ⟨id, ob, ho, hbb⟩]
  let m : Imm := fun b => if own b then w.heap[b]? else c.imm b
  have hseen : Seen w c2 w m := by
    refine ⟨fun b ob hbo => ?_, fun b hb' hlt => ?_⟩
    · have hbo : c.imm b = some ob := hbo
      have : ¬ own b := fun ⟨id, ob2, h1, h2⟩ => by rw [hm.sep id ob2 b h1 h2] at hbo; cases hbo
      simp only [m, this, if_false]
      exact hbo
    · have hb' : frm b = none := hb'
      by_cases ho : own b
      · simp [m, ho]
      · simp only [frm, ho, if_false] at hb'
        have : ¬ b < w.heap.size := fun hlt => by simp [hlt] at hb'
        exact absurd hlt this
  have hrep : RepHCL c2 (lk o1) hcs us := RepHCL.evo (c := c) (c' := c2) (o := lk o1) (o' := lk o1) (Imm.le.refl c.imm) (fun _ _ => Evo.of_same rfl rfl) hargs
  have hview := CoL.sound hco (viewCs_sound hrel hseen hrep hv hq)
  have hmm : ∀ b ob, m b = some ob → w.heap[b]? = some ob := fun b ob hbo => by
    simp only [m] at hbo
    split at hbo
    · exact hbo
    · exact hm.imm b ob hbo
  have hlem : Imm.le c.imm m := fun b ob hb => by
    by_cases hb' : own b
    · obtain ⟨id, ob2, h1, h2⟩ := hb'
      rw [hm.sep id ob2 b h1 h2] at hb; cases hb
    · simp only [m, hb', if_false]; exact hb
  refine (h w m us (c.tab.mono hlem) hmm hview).mono ?_
  rintro e w' ⟨v, imm', rfl, h1, h2, h3, h4⟩
  refine ⟨v, { old := c.old, imm := imm', tab := (c.tab.mono hlem).mono (fun b ob hb => by rw [h2 b (Array.getElem?_eq_some_iff.1 (hmm b ob hb)).1]; exact hb), own := c.own, blk := c.blk }, rfl, RepHR.of_P h1, ⟨(fun id ob ho => by cases ho), (fun i i' ob ob' b ho => by cases ho), h3, (fun id ob b ho => by cases ho)⟩, h4.mono (Nat.zero_le _), fun b hb hno => ?_, (fun id ob b ho => by cases ho), fun id hid => by cases hid⟩
  have hnb : ¬ own b := fun ⟨id, ob2, h1, h2⟩ => hno id ob2 h1 h2
  exact ⟨h4.block b hb, by show imm' b = _; rw [h2 b hb]; simp [m, hnb]⟩
theorem bif_f {b x y v : Bool} (h : b = false) (e : (bif b then x else y) = v) : y = v := by subst h; exact e
theorem bif_t {b x y v : Bool} (h : b = true) (e : (bif b then x else y) = v) : x = v := by subst h; exact e
theorem bif_tk {b x y v : Bool} (h : b = true) (e : x = v) : (bif b then x else y) = v := by subst h; exact e
theorem not_t {x : Bool} (e : (!x) = true) : x = false := by simpa using e
theorem not_f {x : Bool} (e : (!x) = false) : x = true := by simpa using e
theorem coi {k : IntKind} {a b : Int} (h : a = b) : CoR (oneP (.raw (.int k a))) (oneP (.raw (.int k b))) := CoR.of_eq (by rw [h])
theorem cob {a b : Bool} (h : a = b) : CoR (oneP (.raw (.bool a))) (oneP (.raw (.bool b))) := CoR.of_eq (by rw [h])
theorem CoC.of_eq {x y : PC} (h : x = y) : CoC x y := h ▸ CoC.refl x
theorem CoL.of_eq {x y : List PC} (h : x = y) : CoL x y := h ▸ CoL.refl x
theorem cci {k : IntKind} {a b : Int} (h : a = b) : CoC (.one (.raw (.int k a))) (.one (.raw (.int k b))) := CoC.of_eq (by rw [h])
theorem ccb {a b : Bool} (h : a = b) : CoC (.one (.raw (.bool a))) (.one (.raw (.bool b))) := CoC.of_eq (by rw [h])
theorem CoC.one {x y : PV} (h : CoP x y) : CoC (.one x) (.one y) := h
def CoPL : List PV → List PV → Prop
  | [], [] => True
  | x :: xs, y :: ys => CoP x y ∧ CoPL xs ys
  | _, _ => False
theorem CoPL.refl : ∀ (l : List PV), CoPL l l
  | [] => trivial
  | x :: l => ⟨CoP.refl x, CoPL.refl l⟩
theorem CoPL.sound {m : Imm} : ∀ {xs ys : List PV} {us : List Value}, CoPL xs ys → RepPL m xs us → RepPL m ys us
  | [], [], [], _, _ => trivial
  | _ :: _, _ :: _, _ :: _, h, k => ⟨h.1 _ _ k.1, CoPL.sound h.2 k.2⟩
  | [], _ :: _, _, h, _ => h.elim
  | _ :: _, [], _, h, _ => h.elim
  | [], [], _ :: _, _, h => h.elim
  | _ :: _, _ :: _, [], _, h => h.elim
theorem CoC.agg {l l' : List PV} (h : CoPL l l') : CoC (.agg l) (.agg l') := by
  rintro m u ⟨us, e, hl⟩
  exact ⟨us, e, h.sound hl⟩
def lf {α : Type} [Inhabited α] (c : α → Nat → PV) (l : List α) : Nat → Nat → PV := fun i j => c (l.getD i default) j
def psl {α : Type} [Inhabited α] (s : Nat) (c : α → Nat → PV) (l : List α) : PV := .sl l.length s false (lf c l)
theorem co_take {α : Type} [Inhabited α] {s k : Nat} {cl : Bool} {c : α → Nat → PV} {l : List α} (hk : k ≤ l.length) : CoP (.sl k s cl (lf c l)) (psl s c (l.take k)) := by
  refine CoP.sl (by simp [hk]) (.inl rfl) (fun h => by cases h) fun i j hi hj => CoP.of_eq ?_
  simp only [lf, List.getD, List.getElem?_take, hi, if_true]
theorem co_drop {α : Type} [Inhabited α] {s k : Nat} {cl : Bool} {c : α → Nat → PV} {l : List α} : CoP (.sl (l.length - k) s cl (fun i j => lf c l (k + i) j)) (psl s c (l.drop k)) := by
  refine CoP.sl (by simp) (.inl rfl) (fun h => by cases h) fun i j hi hj => CoP.of_eq ?_
  simp only [lf, List.getD, List.getElem?_drop]
theorem co_app {α : Type} [Inhabited α] {wr wr' : Bool} {s : Nat} {e : TypeId} {c : α → Nat → PV} {l : List α} {m : Nat} {g : Nat → Nat → PV} (l' : List α) (hw : wr' = true → wr = true) (hm : m = l'.length) (hg : ∀ i j, i < l'.length → j < s → CoP (g i j) (lf c l' i j)) :
    CoO (.arr wr s e (l.length + m) (appF l.length (lf c l) g)) (.arr wr' s e (l ++ l').length (lf c (l ++ l'))) := by
  subst hm
  refine ⟨hw, rfl, rfl, by simp, fun i j hi hj => ?_⟩
  unfold appF
  by_cases h : i < l.length
  · rw [if_pos h]
    refine CoP.of_eq ?_
    simp only [lf, List.getD, List.getElem?_append_left h]
  · rw [if_neg h]
    have := hg (i - l.length) j (by omega) hj
    have e : lf c (l ++ l') i j = lf c l' (i - l.length) j := by simp only [lf, List.getD, List.getElem?_append_right (Nat.le_of_not_lt h)]
    rw [e]; exact this
theorem co_nil {s s' : Nat} {cl : Bool} {f f' : Nat → Nat → PV} : CoP (.sl 0 s cl f) (.sl 0 s' false f') := CoP.sl rfl (.inr rfl) (fun h => by cases h) fun i j hi _ => absurd hi (Nat.not_lt_zero i)
theorem lf_set_eq {α : Type} [Inhabited α] {c : α → Nat → PV} {l : List α} {k i j : Nat} {x : α} (h : i = k) (hi : i < l.length) : lf c (l.set k x) i j = c x j := by
  subst h
  simp [lf, List.getD, hi]
theorem lf_set_ne {α : Type} [Inhabited α] {c : α → Nat → PV} {l : List α} {k i j : Nat} {x : α} (h : ¬ i = k) : lf c (l.set k x) i j = lf c l i j := by
  simp only [lf, List.getD, List.getElem?_set_ne (Ne.symm h)]
theorem tsf {α : Type} (l : List (List α)) (i : Nat) (h : i < l.length) : (l.take (i + 1)).flatten = (l.take i).flatten ++ l.getD i default := by
  rw [List.take_succ_eq_append_getElem h, List.flatten_append]
  simp [List.getD, List.getElem?_eq_getElem h]
theorem flat_take_le {α : Type} (l : List (List α)) (i : Nat) (h : i < l.length) : (l.take i).flatten.length + (l.getD i default).length ≤ l.flatten.length := by
  have : l.flatten.length = (l.take (i + 1)).flatten.length + (l.drop (i + 1)).flatten.length := by
    rw [← List.length_append, ← List.flatten_append, List.take_append_drop]
  rw [this, tsf l i h, List.length_append]
  omega
def holeF (i0 : Nat) (h : HV) (f : Nat → Nat → PV) : Nat → Nat → HV := fun i j => if i = i0 ∧ j = 1 then h else .p (f i j)
theorem swap_co {α : Type} [Inhabited α] {wr wr' : Bool} {s n k m : Nat} {e : TypeId} {c : α → Nat → PV} {l : List α} {x y : α} {ps qs : List PV} (hw : wr' = true → wr = true) (hn : n = l.length) (hk : k < l.length) (hm : m < l.length) (hp : ps.length = s) (hq : qs.length = s)
    (h1 : ∀ j, j < s → CoP (ps.getD j .any) (c x j)) (h2 : ∀ j, j < s → CoP (qs.getD j .any) (c y j)) :
    CoO (.arr wr s e n (setEl (setEl (lf c l) k 0 ps) m 0 qs)) (.arr wr' s e n (lf c ((l.set k x).set m y))) := by
  refine ⟨hw, rfl, rfl, rfl, fun i j hi hj => ?_⟩
  unfold setEl
  by_cases hm' : i = m
  · rw [if_pos ⟨hm', Nat.zero_le _, by omega⟩, lf_set_eq hm' (by simp; omega), Nat.sub_zero]; exact h2 j hj
  · rw [if_neg (by omega), lf_set_ne hm']
    by_cases hk' : i = k
    · rw [if_pos ⟨hk', Nat.zero_le _, by omega⟩, lf_set_eq hk' (by omega), Nat.sub_zero]; exact h1 j hj
    · rw [if_neg (by omega), lf_set_ne hk']; exact CoP.refl _
theorem all_succ {P : Nat → Prop} {i : Nat} (h : ∀ j, j < i → P j) (hn : P i) : ∀ j, j < i + 1 → P j := fun j hj => by
  rcases Nat.lt_succ_iff_lt_or_eq.1 hj with h1 | rfl
  · exact h j h1
  · exact hn
theorem all_zero {P : Nat → Prop} : ∀ j, j < 0 → P j := fun j hj => absurd hj (Nat.not_lt_zero j)
section
variable {α : Type} [Inhabited α] {p : α → Bool} {l : List α} {i : Nat}
theorem all_f (hi : i < l.length) (h : p (l.getD i default) = false) : l.all p = false := by
  rw [List.all_eq_false]
  refine ⟨l[i], List.getElem_mem hi, ?_⟩
  simp only [List.getD, List.getElem?_eq_getElem hi, Option.getD_some] at h
  simp [h]
theorem all_t (h : ∀ j, j < l.length → p (l.getD j default) = true) : l.all p = true := by
  rw [List.all_eq_true]
  intro x hx
  obtain ⟨j, hj, rfl⟩ := List.getElem_of_mem hx
  have := h j hj
  simpa only [List.getD, List.getElem?_eq_getElem hj, Option.getD_some] using this
theorem any_t (hi : i < l.length) (h : p (l.getD i default) = true) : l.any p = true := by
  rw [List.any_eq_true]
  refine ⟨l[i], List.getElem_mem hi, ?_⟩
  simpa only [List.getD, List.getElem?_eq_getElem hi, Option.getD_some] using h
theorem any_f (h : ∀ j, j < l.length → p (l.getD j default) = false) : l.any p = false := by
  rw [List.any_eq_false]
  intro x hx
  obtain ⟨j, hj, rfl⟩ := List.getElem_of_mem hx
  have := h j hj
  simp only [List.getD, List.getElem?_eq_getElem hj, Option.getD_some] at this
  simp [this]
def idx (p : α → Bool) (l : List α) : Int := match l.findIdx? p with | some i => i | none => -1
theorem idx_t (hi : i < l.length) (hb : ∀ j, j < i → p (l.getD j default) = false) (h : p (l.getD i default) = true) : idx p l = i := by
  have : l.findIdx? p = some i := by
    rw [List.findIdx?_eq_some_iff_getElem]
    refine ⟨hi, ?_, fun j hj => ?_⟩
    · simpa only [List.getD, List.getElem?_eq_getElem hi, Option.getD_some] using h
    · have := hb j hj
      simp only [List.getD, List.getElem?_eq_getElem (Nat.lt_trans hj hi), Option.getD_some] at this
      simp [this]
  simp [idx, this]
theorem idx_f (h : ∀ j, j < l.length → p (l.getD j default) = false) : idx p l = -1 := by
  have : l.findIdx? p = none := by
    rw [List.findIdx?_eq_none_iff]
    intro x hx
    obtain ⟨j, hj, rfl⟩ := List.getElem_of_mem hx
    have := h j hj
    simpa only [List.getD, List.getElem?_eq_getElem hj, Option.getD_some] using this
  simp [idx, this]
theorem list_eq {l l' : List α} (hl : l.length = l'.length) (h : ∀ j, j < l.length → l.getD j default = l'.getD j default) : l = l' := by
  refine List.ext_getElem hl fun j h1 h2 => ?_
  have := h j h1
  simpa only [List.getD, List.getElem?_eq_getElem h1, List.getElem?_eq_getElem h2, Option.getD_some] using this
end
def HSt.app (a b : HSt) : HSt := ⟨a.t ++ b.t, a.o ++ b.o⟩
theorem subT_app : ∀ {a b l : List (Nat × Option HR)}, subT a l → subT b l → subT (a ++ b) l
  | [], _, _, _, h => h
  | (_, some _) :: _, _, _, h, k => ⟨h.1, subT_app h.2 k⟩
  | (_, none) :: r, b, l, h, k => subT_app (a := r) (b := b) (l := l) h k
theorem subO_app : ∀ {a b l : List (Nat × Option HObj)}, subO a l → subO b l → subO (a ++ b) l
  | [], _, _, _, h => h
  | (_, some _) :: _, _, _, h, k => ⟨h.1, subO_app h.2 k⟩
  | (_, none) :: r, b, l, h, k => subO_app (a := r) (b := b) (l := l) h k
theorem Sub.app {a b st : HSt} (h : Sub a st) (k : Sub b st) : Sub (a.app b) st := ⟨subT_app h.1 k.1, subO_app h.2 k.2⟩
section
variable {ro : Option Nat} {P : Program} {nt : Nat} {st : HSt} {Q : Exit → HSt → Prop}
theorem hw_loopK {ι : Type} {body : Code} (K : HSt) (hK : Sub K st) (J : ι → HSt) (p : ι → Prop) (μ : ι → Nat) (i0 : ι) (h0 : p i0) (hs : Sub (J i0) st) (round : ∀ i, p i → HW (ro := ro) P nt body ((J i).app K) (loopQ (fun i => (J i).app K) p μ i Q)) : HW (ro := ro) P nt (.loop body) st Q :=
  hw_loop (fun i => (J i).app K) p μ i0 h0 (hs.app hK) round
theorem hw_joinK {ι : Type} {x y : Code} (K : HSt) (hK : Sub K st) (J : ι → HSt) (p : ι → Prop) (h1 : HW (ro := ro) P nt x st (midQ (fun i => (J i).app K) p Q)) (h2 : ∀ i, p i → HW (ro := ro) P nt y ((J i).app K) Q) : HW (ro := ro) P nt (.seq x y) st Q :=
  hw_join (fun i => (J i).app K) p h1 h2
theorem hw_clean {c : Code} (K : HSt) (hK : Sub K st) (h : HW (ro := ro) P nt c K Q) : HW (ro := ro) P nt c st Q := hw_sub K hK h
theorem hw_bt {c : Code} (d : Nat) {n s : Nat} {cl : Bool} {f : Nat → Nat → PV} (hd : look st.t d = some (oneP (.sl n s cl f))) (h : n ≤ 9223372036854775807 → HW (ro := ro) P nt c st Q) : HW (ro := ro) P nt c st Q := fun w0 m0 a w hr => by
  have hr' := hr
  obtain ⟨cc, hold, hrr⟩ := hr'
  obtain ⟨ad, cap, _, h1, h2, _⟩ := hrr.tmps d _ hd
  exact h (by simp only [maxLen] at h2; omega) w0 m0 a w hr
theorem hw_ba {c : Code} (id : Nat) {n s : Nat} {wr : Bool} {e : TypeId} {f : Nat → Nat → PV} (hb : look st.o id = some (.arr wr s e n f)) (h : n ≤ 9223372036854775807 → HW (ro := ro) P nt c st Q) : HW (ro := ro) P nt c st Q := fun w0 m0 a w hr => by
  have hr' := hr
  obtain ⟨cc, hold, hrr⟩ := hr'
  have := (hrr.objs id _ hb).2.1
  exact h (by simp only [maxLen] at this; omega) w0 m0 a w hr
end
end Go.Hx
end
section
namespace Go.Hx
open Go.Proofs
def TryzTypes : List (Option TI) := [
  none,
  some ⟨.func, 1, 8, some [.nilFunc], false, false, true⟩,
  some ⟨.int .i64, 1, 8, some [.int .i64 0], false, false, true⟩,
  some ⟨.int .i64, 1, 8, some [.int .i64 0], false, false, true⟩,
  some ⟨.bool, 1, 1, some [.bool false], false, false, true⟩,
  some ⟨.int .u8, 1, 1, some [.int .u8 0], false, false, true⟩,
  some ⟨.int .u8, 1, 1, some [.int .u8 0], false, false, true⟩,
  some ⟨.struct [(0, 2, false), (1, 3, false), (2, 4, false), (3, 6, false)], 4, 24, some [.int .i64 0, .int .i64 0, .bool false, .int .u8 0], false, false, false⟩,
  some ⟨.struct [(0, 2, false), (1, 3, false), (2, 4, false), (3, 6, false)], 4, 24, some [.int .i64 0, .int .i64 0, .bool false, .int .u8 0], false, false, false⟩,
  some ⟨.string, 1, 16, some [.string ⟨#[]⟩], false, false, true⟩,
  some ⟨.string, 1, 16, some [.string ⟨#[]⟩], false, false, true⟩,
  some ⟨.string, 1, 16, some [.string ⟨#[]⟩], false, false, true⟩,
  some ⟨.int .u64, 1, 8, some [.int .u64 0], false, false, true⟩,
  none,
  none,
  some ⟨.pointer 128, 1, 8, some [.pointer none], false, false, true⟩,
  some ⟨.pointer 131, 1, 8, some [.pointer none], false, false, true⟩,
  some ⟨.pointer 140, 1, 8, some [.pointer none], false, false, true⟩,
  none,
  none,
  none,
  some ⟨.int .i32, 1, 4, some [.int .i32 0], false, false, true⟩,
  some ⟨.slice 71, 1, 24, some [.slice none 0 0], false, false, true⟩,
  some ⟨.struct [(0, 5, false), (1, 22, false)], 2, 32, some [.int .u8 0, .slice none 0 0], false, false, false⟩,
  some ⟨.struct [(0, 5, false), (1, 22, false)], 2, 32, some [.int .u8 0, .slice none 0 0], false, false, false⟩,
  some ⟨.slice 32, 1, 24, some [.slice none 0 0], false, false, true⟩,
  none,
  some ⟨.func, 1, 8, some [.nilFunc], false, false, true⟩,
  some ⟨.func, 1, 8, some [.nilFunc], false, false, true⟩,
  some ⟨.int .u32, 1, 4, some [.int .u32 0], false, false, true⟩,
  some ⟨.int .u32, 1, 4, some [.int .u32 0], false, false, true⟩,
  some ⟨.struct [(0, 30, false), (1, 30, false)], 2, 8, some [.int .u32 0, .int .u32 0], false, false, false⟩,
  some ⟨.struct [(0, 30, false), (1, 30, false)], 2, 8, some [.int .u32 0, .int .u32 0], false, false, false⟩,
  some ⟨.int .i64, 1, 8, some [.int .i64 0], false, false, true⟩,
  none,
  some ⟨.func, 1, 8, some [.nilFunc], false, false, true⟩,
  some ⟨.slice 30, 1, 24, some [.slice none 0 0], false, false, true⟩,
  none,
  some ⟨.func, 1, 8, some [.nilFunc], false, false, true⟩,
  some ⟨.func, 1, 8, some [.nilFunc], false, false, true⟩,
  none,
  some ⟨.func, 1, 8, some [.nilFunc], false, false, true⟩,
  some ⟨.func, 1, 8, some [.nilFunc], false, false, true⟩,
  some ⟨.func, 1, 8, some [.nilFunc], false, false, true⟩,
  some ⟨.func, 1, 8, some [.nilFunc], false, false, true⟩,
  none,
  some ⟨.func, 1, 8, some [.nilFunc], false, false, true⟩,
  none,
  some ⟨.func, 1, 8, some [.nilFunc], false, false, true⟩,
  some ⟨.func, 1, 8, some [.nilFunc], false, false, true⟩,
  some ⟨.func, 1, 8, some [.nilFunc], false, false, true⟩,
  some ⟨.func, 1, 8, some [.nilFunc], false, false, true⟩,
  some ⟨.func, 1, 8, some [.nilFunc], false, false, true⟩,
  some ⟨.func, 1, 8, some [.nilFunc], false, false, true⟩,
  some ⟨.func, 1, 8, some [.nilFunc], false, false, true⟩,
  some ⟨.func, 1, 8, some [.nilFunc], false, false, true⟩,
  some ⟨.func, 1, 8, some [.nilFunc], false, false, true⟩,
  some ⟨.func, 1, 8, some [.nilFunc], false, false, true⟩,
  some ⟨.func, 1, 8, some [.nilFunc], false, false, true⟩,
  some ⟨.func, 1, 8, some [.nilFunc], false, false, true⟩,
  some ⟨.func, 1, 8, some [.nilFunc], false, false, true⟩,
  some ⟨.func, 1, 8, some [.nilFunc], false, false, true⟩,
  some ⟨.func, 1, 8, some [.nilFunc], false, false, true⟩,
  some ⟨.func, 1, 8, some [.nilFunc], false, false, true⟩,
  none,
  some ⟨.func, 1, 8, some [.nilFunc], false, false, true⟩,
  some ⟨.func, 1, 8, some [.nilFunc], false, false, true⟩,
  some ⟨.func, 1, 8, some [.nilFunc], false, false, true⟩,
  some ⟨.func, 1, 8, some [.nilFunc], false, false, true⟩,
  some ⟨.func, 1, 8, some [.nilFunc], false, false, true⟩,
  some ⟨.struct [(0, 5, false), (1, 5, false)], 2, 2, some [.int .u8 0, .int .u8 0], false, false, false⟩,
  some ⟨.struct [(0, 5, false), (1, 5, false)], 2, 2, some [.int .u8 0, .int .u8 0], false, false, false⟩,
  some ⟨.func, 1, 8, some [.nilFunc], false, false, true⟩,
  some ⟨.int .u64, 1, 8, some [.int .u64 0], false, false, true⟩,
  some ⟨.func, 1, 8, some [.nilFunc], false, false, true⟩,
  some ⟨.func, 1, 8, some [.nilFunc], false, false, true⟩,
  some ⟨.func, 1, 8, some [.nilFunc], false, false, true⟩,
  some ⟨.func, 1, 8, some [.nilFunc], false, false, true⟩,
  some ⟨.func, 1, 8, some [.nilFunc], false, false, true⟩,
  some ⟨.func, 1, 8, some [.nilFunc], false, false, true⟩,
  some ⟨.func, 1, 8, some [.nilFunc], false, false, true⟩,
  some ⟨.slice 3, 1, 24, some [.slice none 0 0], false, false, true⟩,
  some ⟨.func, 1, 8, some [.nilFunc], false, false, true⟩,
  some ⟨.func, 1, 8, some [.nilFunc], false, false, true⟩,
  some ⟨.func, 1, 8, some [.nilFunc], false, false, true⟩,
  some ⟨.func, 1, 8, some [.nilFunc], false, false, true⟩,
  some ⟨.func, 1, 8, some [.nilFunc], false, false, true⟩,
  some ⟨.int .u64, 1, 8, some [.int .u64 0], false, false, true⟩,
  some ⟨.func, 1, 8, some [.nilFunc], false, false, true⟩,
  some ⟨.func, 1, 8, some [.nilFunc], false, false, true⟩,
  some ⟨.func, 1, 8, some [.nilFunc], false, false, true⟩,
  some ⟨.func, 1, 8, some [.nilFunc], false, false, true⟩,
  some ⟨.func, 1, 8, some [.nilFunc], false, false, true⟩,
  none,
  some ⟨.func, 1, 8, some [.nilFunc], false, false, true⟩,
  some ⟨.func, 1, 8, some [.nilFunc], false, false, true⟩,
  some ⟨.func, 1, 8, some [.nilFunc], false, false, true⟩,
  some ⟨.func, 1, 8, some [.nilFunc], false, false, true⟩,
  some ⟨.func, 1, 8, some [.nilFunc], false, false, true⟩,
  some ⟨.func, 1, 8, some [.nilFunc], false, false, true⟩,
  some ⟨.func, 1, 8, some [.nilFunc], false, false, true⟩,
  some ⟨.func, 1, 8, some [.nilFunc], false, false, true⟩,
  some ⟨.func, 1, 8, some [.nilFunc], false, false, true⟩,
  some ⟨.func, 1, 8, some [.nilFunc], false, false, true⟩,
  some ⟨.array 32 5, 32, 32, some [.int .u8 0, .int .u8 0, .int .u8 0, .int .u8 0, .int .u8 0, .int .u8 0, .int .u8 0, .int .u8 0, .int .u8 0, .int .u8 0, .int .u8 0, .int .u8 0, .int .u8 0, .int .u8 0, .int .u8 0, .int .u8 0, .int .u8 0, .int .u8 0, .int .u8 0, .int .u8 0, .int .u8 0, .int .u8 0, .int .u8 0, .int .u8 0, .int .u8 0, .int .u8 0, .int .u8 0, .int .u8 0, .int .u8 0, .int .u8 0, .int .u8 0, .int .u8 0], false, false, false⟩,
  some ⟨.func, 1, 8, some [.nilFunc], false, false, true⟩,
  some ⟨.slice 25, 1, 24, some [.slice none 0 0], false, false, true⟩,
  some ⟨.func, 1, 8, some [.nilFunc], false, false, true⟩,
  some ⟨.int .i64, 1, 8, some [.int .i64 0], false, false, true⟩,
  none,
  some ⟨.func, 1, 8, some [.nilFunc], false, false, true⟩,
  some ⟨.func, 1, 8, some [.nilFunc], false, false, true⟩,
  some ⟨.func, 1, 8, some [.nilFunc], false, false, true⟩,
  none,
  some ⟨.func, 1, 8, some [.nilFunc], false, false, true⟩,
  some ⟨.func, 1, 8, some [.nilFunc], false, false, true⟩,
  some ⟨.func, 1, 8, some [.nilFunc], false, false, true⟩,
  some ⟨.int .u64, 1, 8, some [.int .u64 0], false, false, true⟩,
  some ⟨.func, 1, 8, some [.nilFunc], false, false, true⟩,
  some ⟨.func, 1, 8, some [.nilFunc], false, false, true⟩,
  some ⟨.func, 1, 8, some [.nilFunc], false, false, true⟩,
  some ⟨.pointer 3, 1, 8, some [.pointer none], false, false, true⟩,
  some ⟨.func, 1, 8, some [.nilFunc], false, false, true⟩,
  some ⟨.pointer 117, 1, 8, some [.pointer none], false, false, true⟩,
  none,
  some ⟨.func, 1, 8, some [.nilFunc], false, false, true⟩,
  some ⟨.func, 1, 8, some [.nilFunc], false, false, true⟩,
  none,
  none,
  some ⟨.array 0 16, 0, 0, some [], false, false, false⟩,
  none,
  none,
  some ⟨.func, 1, 8, some [.nilFunc], false, false, true⟩,
  some ⟨.int .u8, 1, 1, some [.int .u8 0], false, false, true⟩,
  some ⟨.int .u8, 1, 1, some [.int .u8 0], false, false, true⟩,
  some ⟨.func, 1, 8, some [.nilFunc], false, false, true⟩,
  some ⟨.pointer 5, 1, 8, some [.pointer none], false, false, true⟩,
  some ⟨.int .i32, 1, 4, some [.int .i32 0], false, false, true⟩,
  some ⟨.int .i32, 1, 4, some [.int .i32 0], false, false, true⟩,
  none,
  none,
  none]
def optOf : List (Option TI) → Nat → Option TI
  | [], _ => none
  | x :: _, 0 => x
  | _ :: r, n + 1 => optOf r n
def TryzE : Env := optOf TryzTypes
def fits (P : Program) : List (Option TI) → Nat → Prop
  | [], _ => True
  | none :: r, n => fits P r (n + 1)
  | some i :: r, n => tiOf P n = some i ∧ fits P r (n + 1)
theorem fits_spec {P : Program} : ∀ {l : List (Option TI)} {n : Nat}, fits P l n → ∀ t i, optOf l t = some i → tiOf P (n + t) = some i
  | [], _, _, t, i, h => by simp [optOf] at h
  | none :: r, n, hf, 0, i, h => by simp [optOf] at h
  | some x :: r, n, hf, 0, i, h => by simp only [optOf, Option.some.injEq] at h; subst h; exact hf.1
  | none :: r, n, hf, t + 1, i, h => by have := fits_spec (l := r) (n := n + 1) hf t i h; rwa [show n + (t + 1) = n + 1 + t by omega]
  | some x :: r, n, hf, t + 1, i, h => by have := fits_spec (l := r) (n := n + 1) hf.2 t i h; rwa [show n + (t + 1) = n + 1 + t by omega]
theorem Tryzti1 : tiOf Tryz.prog 1 = some ⟨.func, 1, 8, some [.nilFunc], false, false, true⟩ := by kernel_rfl
theorem Tryzti2 : tiOf Tryz.prog 2 = some ⟨.int .i64, 1, 8, some [.int .i64 0], false, false, true⟩ := by kernel_rfl
theorem Tryzti3 : tiOf Tryz.prog 3 = some ⟨.int .i64, 1, 8, some [.int .i64 0], false, false, true⟩ := by kernel_rfl
theorem Tryzti4 : tiOf Tryz.prog 4 = some ⟨.bool, 1, 1, some [.bool false], false, false, true⟩ := by kernel_rfl
theorem Tryzti5 : tiOf Tryz.prog 5 = some ⟨.int .u8, 1, 1, some [.int .u8 0], false, false, true⟩ := by kernel_rfl
theorem Tryzti6 : tiOf Tryz.prog 6 = some ⟨.int .u8, 1, 1, some [.int .u8 0], false, false, true⟩ := by kernel_rfl
theorem Tryzti7 : tiOf Tryz.prog 7 = some ⟨.struct [(0, 2, false), (1, 3, false), (2, 4, false), (3, 6, false)], 4, 24, some [.int .i64 0, .int .i64 0, .bool false, .int .u8 0], false, false, false⟩ := by kernel_rfl
theorem Tryzti8 : tiOf Tryz.prog 8 = some ⟨.struct [(0, 2, false), (1, 3, false), (2, 4, false), (3, 6, false)], 4, 24, some [.int .i64 0, .int .i64 0, .bool false, .int .u8 0], false, false, false⟩ := by kernel_rfl
theorem Tryzti9 : tiOf Tryz.prog 9 = some ⟨.string, 1, 16, some [.string ⟨#[]⟩], false, false, true⟩ := by kernel_rfl
theorem Tryzti10 : tiOf Tryz.prog 10 = some ⟨.string, 1, 16, some [.string ⟨#[]⟩], false, false, true⟩ := by kernel_rfl
theorem Tryzti11 : tiOf Tryz.prog 11 = some ⟨.string, 1, 16, some [.string ⟨#[]⟩], false, false, true⟩ := by kernel_rfl
theorem Tryzti12 : tiOf Tryz.prog 12 = some ⟨.int .u64, 1, 8, some [.int .u64 0], false, false, true⟩ := by kernel_rfl
theorem Tryzti15 : tiOf Tryz.prog 15 = some ⟨.pointer 128, 1, 8, some [.pointer none], false, false, true⟩ := by kernel_rfl
theorem Tryzti16 : tiOf Tryz.prog 16 = some ⟨.pointer 131, 1, 8, some [.pointer none], false, false, true⟩ := by kernel_rfl
theorem Tryzti17 : tiOf Tryz.prog 17 = some ⟨.pointer 140, 1, 8, some [.pointer none], false, false, true⟩ := by kernel_rfl
theorem Tryzti21 : tiOf Tryz.prog 21 = some ⟨.int .i32, 1, 4, some [.int .i32 0], false, false, true⟩ := by kernel_rfl
theorem Tryzti22 : tiOf Tryz.prog 22 = some ⟨.slice 71, 1, 24, some [.slice none 0 0], false, false, true⟩ := by kernel_rfl
theorem Tryzti23 : tiOf Tryz.prog 23 = some ⟨.struct [(0, 5, false), (1, 22, false)], 2, 32, some [.int .u8 0, .slice none 0 0], false, false, false⟩ := by kernel_rfl
theorem Tryzti24 : tiOf Tryz.prog 24 = some ⟨.struct [(0, 5, false), (1, 22, false)], 2, 32, some [.int .u8 0, .slice none 0 0], false, false, false⟩ := by kernel_rfl
theorem Tryzti25 : tiOf Tryz.prog 25 = some ⟨.slice 32, 1, 24, some [.slice none 0 0], false, false, true⟩ := by kernel_rfl
theorem Tryzti27 : tiOf Tryz.prog 27 = some ⟨.func, 1, 8, some [.nilFunc], false, false, true⟩ := by kernel_rfl
theorem Tryzti28 : tiOf Tryz.prog 28 = some ⟨.func, 1, 8, some [.nilFunc], false, false, true⟩ := by kernel_rfl
theorem Tryzti29 : tiOf Tryz.prog 29 = some ⟨.int .u32, 1, 4, some [.int .u32 0], false, false, true⟩ := by kernel_rfl
theorem Tryzti30 : tiOf Tryz.prog 30 = some ⟨.int .u32, 1, 4, some [.int .u32 0], false, false, true⟩ := by kernel_rfl
theorem Tryzti31 : tiOf Tryz.prog 31 = some ⟨.struct [(0, 30, false), (1, 30, false)], 2, 8, some [.int .u32 0, .int .u32 0], false, false, false⟩ := by kernel_rfl
theorem Tryzti32 : tiOf Tryz.prog 32 = some ⟨.struct [(0, 30, false), (1, 30, false)], 2, 8, some [.int .u32 0, .int .u32 0], false, false, false⟩ := by kernel_rfl
theorem Tryzti33 : tiOf Tryz.prog 33 = some ⟨.int .i64, 1, 8, some [.int .i64 0], false, false, true⟩ := by kernel_rfl
theorem Tryzti35 : tiOf Tryz.prog 35 = some ⟨.func, 1, 8, some [.nilFunc], false, false, true⟩ := by kernel_rfl
theorem Tryzti36 : tiOf Tryz.prog 36 = some ⟨.slice 30, 1, 24, some [.slice none 0 0], false, false, true⟩ := by kernel_rfl
theorem Tryzti38 : tiOf Tryz.prog 38 = some ⟨.func, 1, 8, some [.nilFunc], false, false, true⟩ := by kernel_rfl
theorem Tryzti39 : tiOf Tryz.prog 39 = some ⟨.func, 1, 8, some [.nilFunc], false, false, true⟩ := by kernel_rfl
theorem Tryzti41 : tiOf Tryz.prog 41 = some ⟨.func, 1, 8, some [.nilFunc], false, false, true⟩ := by kernel_rfl
theorem Tryzti42 : tiOf Tryz.prog 42 = some ⟨.func, 1, 8, some [.nilFunc], false, false, true⟩ := by kernel_rfl
theorem Tryzti43 : tiOf Tryz.prog 43 = some ⟨.func, 1, 8, some [.nilFunc], false, false, true⟩ := by kernel_rfl
theorem Tryzti44 : tiOf Tryz.prog 44 = some ⟨.func, 1, 8, some [.nilFunc], false, false, true⟩ := by kernel_rfl
theorem Tryzti46 : tiOf Tryz.prog 46 = some ⟨.func, 1, 8, some [.nilFunc], false, false, true⟩ := by kernel_rfl
theorem Tryzti48 : tiOf Tryz.prog 48 = some ⟨.func, 1, 8, some [.nilFunc], false, false, true⟩ := by kernel_rfl
theorem Tryzti49 : tiOf Tryz.prog 49 = some ⟨.func, 1, 8, some [.nilFunc], false, false, true⟩ := by kernel_rfl
theorem Tryzti50 : tiOf Tryz.prog 50 = some ⟨.func, 1, 8, some [.nilFunc], false, false, true⟩ := by kernel_rfl
theorem Tryzti51 : tiOf Tryz.prog 51 = some ⟨.func, 1, 8, some [.nilFunc], false, false, true⟩ := by kernel_rfl
theorem Tryzti52 : tiOf Tryz.prog 52 = some ⟨.func, 1, 8, some [.nilFunc], false, false, true⟩ := by kernel_rfl
theorem Tryzti53 : tiOf Tryz.prog 53 = some ⟨.func, 1, 8, some [.nilFunc], false, false, true⟩ := by kernel_rfl
theorem Tryzti54 : tiOf Tryz.prog 54 = some ⟨.func, 1, 8, some [.nilFunc], false, false, true⟩ := by kernel_rfl
theorem Tryzti55 : tiOf Tryz.prog 55 = some ⟨.func, 1, 8, some [.nilFunc], false, false, true⟩ := by kernel_rfl
theorem Tryzti56 : tiOf Tryz.prog 56 = some ⟨.func, 1, 8, some [.nilFunc], false, false, true⟩ := by kernel_rfl
theorem Tryzti57 : tiOf Tryz.prog 57 = some ⟨.func, 1, 8, some [.nilFunc], false, false, true⟩ := by kernel_rfl
theorem Tryzti58 : tiOf Tryz.prog 58 = some ⟨.func, 1, 8, some [.nilFunc], false, false, true⟩ := by kernel_rfl
theorem Tryzti59 : tiOf Tryz.prog 59 = some ⟨.func, 1, 8, some [.nilFunc], false, false, true⟩ := by kernel_rfl
theorem Tryzti60 : tiOf Tryz.prog 60 = some ⟨.func, 1, 8, some [.nilFunc], false, false, true⟩ := by kernel_rfl
theorem Tryzti61 : tiOf Tryz.prog 61 = some ⟨.func, 1, 8, some [.nilFunc], false, false, true⟩ := by kernel_rfl
theorem Tryzti62 : tiOf Tryz.prog 62 = some ⟨.func, 1, 8, some [.nilFunc], false, false, true⟩ := by kernel_rfl
theorem Tryzti63 : tiOf Tryz.prog 63 = some ⟨.func, 1, 8, some [.nilFunc], false, false, true⟩ := by kernel_rfl
theorem Tryzti65 : tiOf Tryz.prog 65 = some ⟨.func, 1, 8, some [.nilFunc], false, false, true⟩ := by kernel_rfl
theorem Tryzti66 : tiOf Tryz.prog 66 = some ⟨.func, 1, 8, some [.nilFunc], false, false, true⟩ := by kernel_rfl
theorem Tryzti67 : tiOf Tryz.prog 67 = some ⟨.func, 1, 8, some [.nilFunc], false, false, true⟩ := by kernel_rfl
theorem Tryzti68 : tiOf Tryz.prog 68 = some ⟨.func, 1, 8, some [.nilFunc], false, false, true⟩ := by kernel_rfl
theorem Tryzti69 : tiOf Tryz.prog 69 = some ⟨.func, 1, 8, some [.nilFunc], false, false, true⟩ := by kernel_rfl
theorem Tryzti70 : tiOf Tryz.prog 70 = some ⟨.struct [(0, 5, false), (1, 5, false)], 2, 2, some [.int .u8 0, .int .u8 0], false, false, false⟩ := by kernel_rfl
theorem Tryzti71 : tiOf Tryz.prog 71 = some ⟨.struct [(0, 5, false), (1, 5, false)], 2, 2, some [.int .u8 0, .int .u8 0], false, false, false⟩ := by kernel_rfl
theorem Tryzti72 : tiOf Tryz.prog 72 = some ⟨.func, 1, 8, some [.nilFunc], false, false, true⟩ := by kernel_rfl
theorem Tryzti73 : tiOf Tryz.prog 73 = some ⟨.int .u64, 1, 8, some [.int .u64 0], false, false, true⟩ := by kernel_rfl
theorem Tryzti74 : tiOf Tryz.prog 74 = some ⟨.func, 1, 8, some [.nilFunc], false, false, true⟩ := by kernel_rfl
theorem Tryzti75 : tiOf Tryz.prog 75 = some ⟨.func, 1, 8, some [.nilFunc], false, false, true⟩ := by kernel_rfl
theorem Tryzti76 : tiOf Tryz.prog 76 = some ⟨.func, 1, 8, some [.nilFunc], false, false, true⟩ := by kernel_rfl
theorem Tryzti77 : tiOf Tryz.prog 77 = some ⟨.func, 1, 8, some [.nilFunc], false, false, true⟩ := by kernel_rfl
theorem Tryzti78 : tiOf Tryz.prog 78 = some ⟨.func, 1, 8, some [.nilFunc], false, false, true⟩ := by kernel_rfl
theorem Tryzti79 : tiOf Tryz.prog 79 = some ⟨.func, 1, 8, some [.nilFunc], false, false, true⟩ := by kernel_rfl
theorem Tryzti80 : tiOf Tryz.prog 80 = some ⟨.func, 1, 8, some [.nilFunc], false, false, true⟩ := by kernel_rfl
theorem Tryzti81 : tiOf Tryz.prog 81 = some ⟨.slice 3, 1, 24, some [.slice none 0 0], false, false, true⟩ := by kernel_rfl
theorem Tryzti82 : tiOf Tryz.prog 82 = some ⟨.func, 1, 8, some [.nilFunc], false, false, true⟩ := by kernel_rfl
theorem Tryzti83 : tiOf Tryz.prog 83 = some ⟨.func, 1, 8, some [.nilFunc], false, false, true⟩ := by kernel_rfl
theorem Tryzti84 : tiOf Tryz.prog 84 = some ⟨.func, 1, 8, some [.nilFunc], false, false, true⟩ := by kernel_rfl
theorem Tryzti85 : tiOf Tryz.prog 85 = some ⟨.func, 1, 8, some [.nilFunc], false, false, true⟩ := by kernel_rfl
theorem Tryzti86 : tiOf Tryz.prog 86 = some ⟨.func, 1, 8, some [.nilFunc], false, false, true⟩ := by kernel_rfl
theorem Tryzti87 : tiOf Tryz.prog 87 = some ⟨.int .u64, 1, 8, some [.int .u64 0], false, false, true⟩ := by kernel_rfl
theorem Tryzti88 : tiOf Tryz.prog 88 = some ⟨.func, 1, 8, some [.nilFunc], false, false, true⟩ := by kernel_rfl
theorem Tryzti89 : tiOf Tryz.prog 89 = some ⟨.func, 1, 8, some [.nilFunc], false, false, true⟩ := by kernel_rfl
theorem Tryzti90 : tiOf Tryz.prog 90 = some ⟨.func, 1, 8, some [.nilFunc], false, false, true⟩ := by kernel_rfl
theorem Tryzti91 : tiOf Tryz.prog 91 = some ⟨.func, 1, 8, some [.nilFunc], false, false, true⟩ := by kernel_rfl
theorem Tryzti92 : tiOf Tryz.prog 92 = some ⟨.func, 1, 8, some [.nilFunc], false, false, true⟩ := by kernel_rfl
theorem Tryzti94 : tiOf Tryz.prog 94 = some ⟨.func, 1, 8, some [.nilFunc], false, false, true⟩ := by kernel_rfl
theorem Tryzti95 : tiOf Tryz.prog 95 = some ⟨.func, 1, 8, some [.nilFunc], false, false, true⟩ := by kernel_rfl
theorem Tryzti96 : tiOf Tryz.prog 96 = some ⟨.func, 1, 8, some [.nilFunc], false, false, true⟩ := by kernel_rfl
theorem Tryzti97 : tiOf Tryz.prog 97 = some ⟨.func, 1, 8, some [.nilFunc], false, false, true⟩ := by kernel_rfl
theorem Tryzti98 : tiOf Tryz.prog 98 = some ⟨.func, 1, 8, some [.nilFunc], false, false, true⟩ := by kernel_rfl
theorem Tryzti99 : tiOf Tryz.prog 99 = some ⟨.func, 1, 8, some [.nilFunc], false, false, true⟩ := by kernel_rfl
theorem Tryzti100 : tiOf Tryz.prog 100 = some ⟨.func, 1, 8, some [.nilFunc], false, false, true⟩ := by kernel_rfl
theorem Tryzti101 : tiOf Tryz.prog 101 = some ⟨.func, 1, 8, some [.nilFunc], false, false, true⟩ := by kernel_rfl
theorem Tryzti102 : tiOf Tryz.prog 102 = some ⟨.func, 1, 8, some [.nilFunc], false, false, true⟩ := by kernel_rfl
theorem Tryzti103 : tiOf Tryz.prog 103 = some ⟨.func, 1, 8, some [.nilFunc], false, false, true⟩ := by kernel_rfl
theorem Tryzti104 : tiOf Tryz.prog 104 = some ⟨.array 32 5, 32, 32, some [.int .u8 0, .int .u8 0, .int .u8 0, .int .u8 0, .int .u8 0, .int .u8 0, .int .u8 0, .int .u8 0, .int .u8 0, .int .u8 0, .int .u8 0, .int .u8 0, .int .u8 0, .int .u8 0, .int .u8 0, .int .u8 0, .int .u8 0, .int .u8 0, .int .u8 0, .int .u8 0, .int .u8 0, .int .u8 0, .int .u8 0, .int .u8 0, .int .u8 0, .int .u8 0, .int .u8 0, .int .u8 0, .int .u8 0, .int .u8 0, .int .u8 0, .int .u8 0], false, false, false⟩ := by kernel_rfl
theorem Tryzti105 : tiOf Tryz.prog 105 = some ⟨.func, 1, 8, some [.nilFunc], false, false, true⟩ := by kernel_rfl
theorem Tryzti106 : tiOf Tryz.prog 106 = some ⟨.slice 25, 1, 24, some [.slice none 0 0], false, false, true⟩ := by kernel_rfl
theorem Tryzti107 : tiOf Tryz.prog 107 = some ⟨.func, 1, 8, some [.nilFunc], false, false, true⟩ := by kernel_rfl
theorem Tryzti108 : tiOf Tryz.prog 108 = some ⟨.int .i64, 1, 8, some [.int .i64 0], false, false, true⟩ := by kernel_rfl
theorem Tryzti110 : tiOf Tryz.prog 110 = some ⟨.func, 1, 8, some [.nilFunc], false, false, true⟩ := by kernel_rfl
theorem Tryzti111 : tiOf Tryz.prog 111 = some ⟨.func, 1, 8, some [.nilFunc], false, false, true⟩ := by kernel_rfl
theorem Tryzti112 : tiOf Tryz.prog 112 = some ⟨.func, 1, 8, some [.nilFunc], false, false, true⟩ := by kernel_rfl
theorem Tryzti114 : tiOf Tryz.prog 114 = some ⟨.func, 1, 8, some [.nilFunc], false, false, true⟩ := by kernel_rfl
theorem Tryzti115 : tiOf Tryz.prog 115 = some ⟨.func, 1, 8, some [.nilFunc], false, false, true⟩ := by kernel_rfl
theorem Tryzti116 : tiOf Tryz.prog 116 = some ⟨.func, 1, 8, some [.nilFunc], false, false, true⟩ := by kernel_rfl
theorem Tryzti117 : tiOf Tryz.prog 117 = some ⟨.int .u64, 1, 8, some [.int .u64 0], false, false, true⟩ := by kernel_rfl
theorem Tryzti118 : tiOf Tryz.prog 118 = some ⟨.func, 1, 8, some [.nilFunc], false, false, true⟩ := by kernel_rfl
theorem Tryzti119 : tiOf Tryz.prog 119 = some ⟨.func, 1, 8, some [.nilFunc], false, false, true⟩ := by kernel_rfl
theorem Tryzti120 : tiOf Tryz.prog 120 = some ⟨.func, 1, 8, some [.nilFunc], false, false, true⟩ := by kernel_rfl
theorem Tryzti121 : tiOf Tryz.prog 121 = some ⟨.pointer 3, 1, 8, some [.pointer none], false, false, true⟩ := by kernel_rfl
theorem Tryzti122 : tiOf Tryz.prog 122 = some ⟨.func, 1, 8, some [.nilFunc], false, false, true⟩ := by kernel_rfl
theorem Tryzti123 : tiOf Tryz.prog 123 = some ⟨.pointer 117, 1, 8, some [.pointer none], false, false, true⟩ := by kernel_rfl
theorem Tryzti125 : tiOf Tryz.prog 125 = some ⟨.func, 1, 8, some [.nilFunc], false, false, true⟩ := by kernel_rfl
theorem Tryzti126 : tiOf Tryz.prog 126 = some ⟨.func, 1, 8, some [.nilFunc], false, false, true⟩ := by kernel_rfl
theorem Tryzti129 : tiOf Tryz.prog 129 = some ⟨.array 0 16, 0, 0, some [], false, false, false⟩ := by kernel_rfl
theorem Tryzti132 : tiOf Tryz.prog 132 = some ⟨.func, 1, 8, some [.nilFunc], false, false, true⟩ := by kernel_rfl
theorem Tryzti133 : tiOf Tryz.prog 133 = some ⟨.int .u8, 1, 1, some [.int .u8 0], false, false, true⟩ := by kernel_rfl
theorem Tryzti134 : tiOf Tryz.prog 134 = some ⟨.int .u8, 1, 1, some [.int .u8 0], false, false, true⟩ := by kernel_rfl
theorem Tryzti135 : tiOf Tryz.prog 135 = some ⟨.func, 1, 8, some [.nilFunc], false, false, true⟩ := by kernel_rfl
theorem Tryzti136 : tiOf Tryz.prog 136 = some ⟨.pointer 5, 1, 8, some [.pointer none], false, false, true⟩ := by kernel_rfl
theorem Tryzti137 : tiOf Tryz.prog 137 = some ⟨.int .i32, 1, 4, some [.int .i32 0], false, false, true⟩ := by kernel_rfl
theorem Tryzti138 : tiOf Tryz.prog 138 = some ⟨.int .i32, 1, 4, some [.int .i32 0], false, false, true⟩ := by kernel_rfl
theorem Tryzfits : fits Tryz.prog TryzTypes 0 := ⟨Tryzti1, ⟨Tryzti2, ⟨Tryzti3, ⟨Tryzti4, ⟨Tryzti5, ⟨Tryzti6, ⟨Tryzti7, ⟨Tryzti8, ⟨Tryzti9, ⟨Tryzti10, ⟨Tryzti11, ⟨Tryzti12, ⟨Tryzti15, ⟨Tryzti16, ⟨Tryzti17, ⟨Tryzti21, ⟨Tryzti22, ⟨Tryzti23, ⟨Tryzti24, ⟨Tryzti25, ⟨Tryzti27, ⟨Tryzti28, ⟨Tryzti29, ⟨Tryzti30, ⟨Tryzti31, ⟨Tryzti32, ⟨Tryzti33, ⟨Tryzti35, ⟨Tryzti36, ⟨Tryzti38, ⟨Tryzti39, ⟨Tryzti41, ⟨Tryzti42, ⟨Tryzti43, ⟨Tryzti44, ⟨Tryzti46, ⟨Tryzti48, ⟨Tryzti49, ⟨Tryzti50, ⟨Tryzti51, ⟨Tryzti52, ⟨Tryzti53, ⟨Tryzti54, ⟨Tryzti55, ⟨Tryzti56, ⟨Tryzti57, ⟨Tryzti58, ⟨Tryzti59, ⟨Tryzti60, ⟨Tryzti61, ⟨Tryzti62, ⟨Tryzti63, ⟨Tryzti65, ⟨Tryzti66, ⟨Tryzti67, ⟨Tryzti68, ⟨Tryzti69, ⟨Tryzti70, ⟨Tryzti71, ⟨Tryzti72, ⟨Tryzti73, ⟨Tryzti74, ⟨Tryzti75, ⟨Tryzti76, ⟨Tryzti77, ⟨Tryzti78, ⟨Tryzti79, ⟨Tryzti80, ⟨Tryzti81, ⟨Tryzti82, ⟨Tryzti83, ⟨Tryzti84, ⟨Tryzti85, ⟨Tryzti86, ⟨Tryzti87, ⟨Tryzti88, ⟨Tryzti89, ⟨Tryzti90, ⟨Tryzti91, ⟨Tryzti92, ⟨Tryzti94, ⟨Tryzti95, ⟨Tryzti96, ⟨Tryzti97, ⟨Tryzti98, ⟨Tryzti99, ⟨Tryzti100, ⟨Tryzti101, ⟨Tryzti102, ⟨Tryzti103, ⟨Tryzti104, ⟨Tryzti105, ⟨Tryzti106, ⟨Tryzti107, ⟨Tryzti108, ⟨Tryzti110, ⟨Tryzti111, ⟨Tryzti112, ⟨Tryzti114, ⟨Tryzti115, ⟨Tryzti116, ⟨Tryzti117, ⟨Tryzti118, ⟨Tryzti119, ⟨Tryzti120, ⟨Tryzti121, ⟨Tryzti122, ⟨Tryzti123, ⟨Tryzti125, ⟨Tryzti126, ⟨Tryzti129, ⟨Tryzti132, ⟨Tryzti133, ⟨Tryzti134, ⟨Tryzti135, ⟨Tryzti136, ⟨Tryzti137, ⟨Tryzti138, trivial⟩⟩⟩⟩⟩⟩⟩⟩⟩⟩⟩⟩⟩⟩⟩⟩⟩⟩⟩⟩⟩⟩⟩⟩⟩⟩⟩⟩⟩⟩⟩⟩⟩⟩⟩⟩⟩⟩⟩⟩⟩⟩⟩⟩⟩⟩⟩⟩⟩⟩⟩⟩⟩⟩⟩⟩⟩⟩⟩⟩⟩⟩⟩⟩⟩⟩⟩⟩⟩⟩⟩⟩⟩⟩⟩⟩⟩⟩⟩⟩⟩⟩⟩⟩⟩⟩⟩⟩⟩⟩⟩⟩⟩⟩⟩⟩⟩⟩⟩⟩⟩⟩⟩⟩⟩⟩⟩⟩⟩⟩⟩⟩⟩⟩⟩⟩⟩⟩
theorem Tryzok : EnvOk Tryz.prog TryzE := fun t i h => by
  have := fits_spec Tryzfits t i h
  rwa [Nat.zero_add] at this
theorem Tryzmixed : Tryz.prog.follows .mixedOrders = true := by kernel_rfl
end Go.Hx
end
