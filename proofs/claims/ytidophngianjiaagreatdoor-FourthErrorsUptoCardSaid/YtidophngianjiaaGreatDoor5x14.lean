/- A part of the proof: Hx18 HxEnv Hx19. -/
import Derived.Deep.AppendLies
import Derived.Laws.CopyRow
import Derived.Shelf.Spec.SlicesInsertGrow
import Derived.Test.YtidophngianjiaaGreatDoorProg
import Derived.Test.YtidophngianjiaaGreatDoor5x13
set_option linter.all false
section
namespace Go.Hx
open Go.RowKit
section
variable {ro : Option Nat} {P : Program} {E : Env} {nt : Nat} {ops : Array Oper} {i : Nat} {o : Oper} {st : HSt} {T : List Tr} {sf : S} {L : List Nat} {K : List Tr → HSt → Prop}
theorem aea (b : ByteArray) (i : Nat) : 0 ≤ i6 b i ∧ i6 b i ≤ 255 := by
 unfold i6
 have := (b.data.toList.getD i 0).toNat_lt
 omega
theorem a4x (b : ByteArray) (i : Nat) : (f0 true .i64 (i6 b i)).1 := by
 have := aea b i
 simp only [f0, inR, mj, qd]
 omega
theorem rq {out : Out} {gb : Bool} (hi : ops[i]? = some o) (hw : au ops st.den o = some gb) (hd : cg nt o.dst = true) (hq' : hq E true st.den.o (ev st.den) o.op = some out) (hg : gb = true)
 (hT : Reg P E nt ops L (st.after o.dst (some out.val) []) fun T sf => K (⟨i, yq true out.val.ids, looks st.den o, bn st.den o.dst [], d6 E st.den o⟩ :: T) sf)
 (hp : out.pre := by first | exact trivial | (simp only [f0, inR, mj, qd]; omega) | exact a4x _ _ | exact ⟨trivial, trivial⟩ | exact ⟨trivial, Nat.le_of_ble_eq_true rfl⟩ | (try dsimp only) <;> ((repeat' apply And.intro) <;> first | trivial | rfl | omega | (simp only [dt, be]; omega) | assumption | exact Nat.le_of_ble_eq_true rfl)) :
 Reg P E nt ops (i :: L) st K := bv true hi hw hd hq' hg hp hT
theorem rqw {out : Out} {gb : Bool} (hi : ops[i]? = some o) (hw : au ops st.den o = some gb) (hd : cg nt o.dst = true) (hq' : hq E false st.den.o (ev st.den) o.op = some out) (hg : gb = true)
 (hT : Reg P E nt ops L (st.after o.dst (some out.val) []) fun T sf => K (⟨i, yq false out.val.ids, looks st.den o, bn st.den o.dst [], d6 E st.den o⟩ :: T) sf)
 (hp : out.pre := by first | exact trivial | (simp only [f0, inR, mj, qd]; omega) | exact a4x _ _ | exact ⟨trivial, trivial⟩ | exact ⟨trivial, Nat.le_of_ble_eq_true rfl⟩ | (try dsimp only) <;> ((repeat' apply And.intro) <;> first | trivial | rfl | omega | (simp only [dt, be]; omega) | assumption | exact Nat.le_of_ble_eq_true rfl)) :
 Reg P E nt ops (i :: L) st K := bv false hi hw hd hq' hg hp hT
theorem rm (id : Nat) {nw : New} {gb : Bool} (hi : ops[i]? = some o) (hw : au ops st.den o = some gb) (hd : cg nt o.dst = true) (hq' : ha E (ev st.den) id o.op = some nw) (hn : l6 id st = true) (hg : gb = true)
 (hT : Reg P E nt ops L (st.after o.dst (some nw.val) [(id, some nw.ob)]) fun T sf => K (⟨i, ⟨id, false, true, .tup [], [id], [id], nw.val.ids ++ nw.ob.ids⟩, looks st.den o, bn st.den o.dst [(id, some nw.ob)], none⟩ :: T) sf)
 (hp : nw.pre := by first | exact trivial | (try dsimp only) <;> ((repeat' apply And.intro) <;> first | trivial | rfl | omega | assumption)) : Reg P E nt ops (i :: L) st K := s5 id hi hw hd hq' hn hg hp hT
theorem rs {u : Upd} {gb : Bool} (hi : ops[i]? = some o) (hw : au ops st.den o = some gb) (hd : cg nt o.dst = true) (hq' : hs E st.den.o (ev st.den) o.op = some u) (hg : gb = true)
 (hT : Reg P E nt ops L (st.after o.dst none [(u.id, some u.ob)]) fun T sf => K (⟨i, ⟨0, false, true, .tup [], [u.id], [], u.ob.ids⟩, looks st.den o, bn st.den o.dst [(u.id, some u.ob)], d6 E st.den o⟩ :: T) sf)
 (hp : u.pre := by first | exact Nat.le_of_ble_eq_true rfl | (try dsimp only) <;> ((repeat' apply And.intro) <;> first | trivial | rfl | omega | (simp only [dt, be]; omega) | assumption | exact Nat.le_of_ble_eq_true rfl)) : Reg P E nt ops (i :: L) st K := a41 hi hw hd hq' hg hp hT
theorem ra (id : Nat) (wb : Bool) {u : App} {gb : Bool} (hi : ops[i]? = some o) (hw : au ops st.den o = some gb) (hd : cg nt o.dst = true) (hq' : hap E st.den.o (ev st.den) id wb o.op = some u) (hn : (!u.new || l6 id st) = true) (hg : gb = true)
 (hT : Reg P E nt ops L (st.after o.dst (some u.val) [(u.id, some u.ob)]) fun T sf => K (⟨i, ⟨id, wb, true, .tup [], [u.id], if u.new then [id] else [], u.val.ids ++ u.ob.ids⟩, looks st.den o, bn st.den o.dst [(u.id, some u.ob)], none⟩ :: T) sf)
 (hp : u.pre := by (try dsimp only) <;> ((repeat' apply And.intro) <;> first | trivial | rfl | assumption | omega | (simp only [Int.toNat_natCast]; omega) | (simp only [dt, be]; omega) | exact Or.inl rfl | exact Or.inr rfl | exact (fun _ => Or.inl rfl) | exact (fun _ => Or.inr (Nat.le_of_ble_eq_true rfl)) | exact Nat.le_of_ble_eq_true rfl | (intro h; cases h; done))) : Reg P E nt ops (i :: L) st K := a01 id wb hi hw hd hq' hn hg hp hT
theorem rc {cl : Call} {f : FuncId} {caps args vs : List PC} {p : Prop} {b : Bool} {res : PR} {gb : Bool} (hi : ops[i]? = some o) (hw : au ops st.den o = some gb) (hd : cg nt o.dst = true) (ho : o.op = .call cl) (hc : callee (ev st.den) cl = some (f, caps))
 (hv : fh st.den.o (ev st.den) cl.args.toList = some (p, vs, b)) (hf : goodFn P f) (hpure : ai P f args res) (hco : CoL (vs ++ caps) args) (hb : (!b || res.flat) = true) (hg : gb = true)
 (hT : Reg P E nt ops L (st.after o.dst (some res.toH) []) fun T sf => K (⟨i, ⟨0, false, true, res, [], [], []⟩, looks st.den o, bn st.den o.dst [], none⟩ :: T) sf)
 (hp : p := by (try dsimp only) <;> ((repeat' apply And.intro) <;> first | trivial | rfl | omega | assumption)) : Reg P E nt ops (i :: L) st K := akv hi hw hd ho hc hv hf hpure hco hg hp hb hT
theorem rk {gb : Bool} (hi : ops[i]? = some o) (hw : au ops st.den o = some gb) (hd : cg nt o.dst = true) (hg : gb = false)
 (hT : Reg P E nt ops L (st.after o.dst (some (.tup [])) []) fun T sf => K (⟨i, yq true [], looks st.den o, bn st.den o.dst [], none⟩ :: T) sf) : Reg P E nt ops (i :: L) st K := a8x hi hw hd hg hT
theorem ahb {out : Out} {id : Nat} {gb : Bool} (hi : ops[i]? = some o) (hw : au ops st.den o = some gb) (hd : cg nt o.dst = true) (hq' : n3 E st.den.o (ev st.den) o.op = some (out, id)) (hg : gb = true)
 (hT : Reg P E nt ops L (st.after o.dst (some out.val) [(id, none)]) fun T sf => K (⟨i, ⟨0, false, true, .tup [], [id], [], []⟩, looks st.den o, bn st.den o.dst [(id, none)], none⟩ :: T) sf)
 (hp : out.pre := by (try dsimp only) <;> ((repeat' apply And.intro) <;> first | trivial | rfl | omega | (simp only [dt, be]; omega) | assumption | exact Nat.le_of_ble_eq_true rfl)) : Reg P E nt ops (i :: L) st K := anj hi hw hd hq' hg hp hT
theorem ca {b w : Bool} (hi : ops[i]? = some o) (hw : au ops st.den o = some (b == w)) (ht : b = true → Reg P E nt ops (i :: L) st K) (hf : b = false → Reg P E nt ops (i :: L) st K) : Reg P E nt ops (i :: L) st K := by
 cases hb : b with
 | true => exact ht hb
 | false => exact hf hb
theorem gtt {b : Bool} (h : b = true) : (b == true) = true := by subst h; rfl
theorem gff {b : Bool} (h : b = false) : (b == false) = true := by subst h; rfl
theorem gtf {b : Bool} (h : b = true) : (b == false) = false := by subst h; rfl
theorem gft {b : Bool} (h : b = false) : (b == true) = false := by subst h; rfl
end
theorem ai.eat {P : Program} {f : FuncId} {args : List PC} {res : PR} {hcs : List HC} {o1 : List (Nat × ae)} {q : Prop} {vs : List PC} (h : ai P f args res) (hv : jo (lk o1) hcs = some (q, vs)) (hq : q) (hco : CoL vs args) : eg P f hcs o1 res.toH [] [] := by
 classical
 intro w c us hm hargs
 let own : Nat → Prop := fun b => ∃ id ob, lk o1 id = some ob ∧ c.blk id b
 let frm : Imm := fun b => if own b then none else w.heap[b]?
 let c2 : Ctx := { old := (c.imm, frm, c.own, lk o1, c.rows), imm := c.imm, tab := c.tab, own := c.own, blk := c.blk, rows := c.rows }
 have hrel : ak w 0 c2 ⟨fun _ => none, lk o1⟩ { tmps := #[], defers := [] } w := by
  refine ⟨kw.nil _ _ _ _, rfl, Below.refl _ _, (fun d x hx => by cases hx), fun id ob ho => ?_, hm.inj, hm.imm, hm.sep, fun b _ => rfl, fun b ob hbo => ?_, fun id ob b ho hbb => ?_, fun id _ => Evo.of_same rfl rfl⟩
  · exact (hm.objs id ob ho).keep (Imm.le.refl c.imm) rfl rfl (fun _ _ => Evo.of_same rfl rfl) fun _ _ => rfl
  · have hbo : frm b = some ob := hbo
    simp only [frm] at hbo
    split at hbo
    · cases hbo
    · exact hbo
  · show frm b = none
    simp only [frm]
    rw [if_pos ⟨id, ob, ho, hbb⟩]
 let m : Imm := fun b => if own b then w.heap[b]? else c.imm b
 have hseen : o6 w c2 w m := by
  refine ⟨fun b ob hbo => ?_, fun b hb' hlt => ?_⟩
  · have hbo : c.imm b = some ob := hbo
    have : ¬ own b := fun ⟨id, ob2, h1, h2⟩ => by rw [hm.sep id ob2 b h1 h2] at hbo; cases hbo
    simp only [m, this, if_false]
    exact hbo
  · have hb' : frm b = none := hb'
    by_cases ho : own b
    · simp [m, ho]
    · simp only [frm, ho, if_false] at hb'
      have : ¬ b < w.heap.size := fun hlt => by simp [hlt] at hb'
      exact absurd hlt this
 have hrep : bc c2 (lk o1) hcs us := bc.evo (c := c) (c' := c2) (o := lk o1) (o' := lk o1) (Imm.le.refl c.imm) (fun _ _ => Evo.of_same rfl rfl) hargs
 have hview := CoL.sound hco (j6 hrel hseen hrep hv hq)
 have hmm : ∀ b ob, m b = some ob → w.heap[b]? = some ob := fun b ob hbo => by
  simp only [m] at hbo
  split at hbo
  · exact hbo
  · exact hm.imm b ob hbo
 have hlem : Imm.le c.imm m := fun b ob hb => by
  by_cases hb' : own b
  · obtain ⟨id, ob2, h1, h2⟩ := hb'
    rw [hm.sep id ob2 b h1 h2] at hb; cases hb
  · simp only [m, hb', if_false]; exact hb
 refine (h w m us (c.tab.mono hlem) hmm hview).mono ?_
 rintro e w' ⟨v, imm', rfl, h1, h2, h3, h4⟩
 refine ⟨v, { old := c.old, imm := imm', tab := (c.tab.mono hlem).mono (fun b ob hb => by rw [h2 b (Array.getElem?_eq_some_iff.1 (hmm b ob hb)).1]; exact hb), own := c.own, blk := c.blk, rows := c.rows }, rfl, am.of_P h1, ⟨(fun id ob ho => by cases ho), (fun i i' ob ob' b ho => by cases ho), h3, (fun id ob b ho => by cases ho)⟩, h4.mono (Nat.zero_le _), fun b hb hno => ?_, (fun id ob b ho => by cases ho), fun id hid => by cases hid⟩
 have hnb : ¬ own b := fun ⟨id, ob2, h1, h2⟩ => hno id ob2 h1 h2
 exact ⟨h4.block b hb, by show imm' b = _; rw [h2 b hb]; simp [m, hnb]⟩
theorem cu {b x y v : Bool} (h : b = false) (e : (bif b then x else y) = v) : y = v := by subst h; exact e
theorem im {b x y v : Bool} (h : b = true) (e : (bif b then x else y) = v) : x = v := by subst h; exact e
theorem b8 {x : Bool} (e : (!x) = true) : x = false := by simpa using e
theorem b7 {x : Bool} (e : (!x) = false) : x = true := by simpa using e
theorem coi {k : IntKind} {a b : Int} (h : a = b) : CoR (bf (.raw (.int k a))) (bf (.raw (.int k b))) := CoR.of_eq (by rw [h])
theorem cob {a b : Bool} (h : a = b) : CoR (bf (.raw (.bool a))) (bf (.raw (.bool b))) := CoR.of_eq (by rw [h])
theorem CoC.of_eq {x y : PC} (h : x = y) : CoC x y := h ▸ CoC.refl x
theorem CoL.of_eq {x y : List PC} (h : x = y) : CoL x y := h ▸ CoL.refl x
theorem cci {k : IntKind} {a b : Int} (h : a = b) : CoC (.one (.raw (.int k a))) (.one (.raw (.int k b))) := CoC.of_eq (by rw [h])
theorem ccb {a b : Bool} (h : a = b) : CoC (.one (.raw (.bool a))) (.one (.raw (.bool b))) := CoC.of_eq (by rw [h])
theorem CoC.one {x y : PV} (h : CoP x y) : CoC (.one x) (.one y) := h
def v7 : List PV → List PV → Prop
 | [], [] => True
 | x :: xs, y :: ys => CoP x y ∧ v7 xs ys
 | _, _ => False
theorem v7.refl : ∀ (l : List PV), v7 l l
 | [] => trivial
 | x :: l => ⟨CoP.refl x, v7.refl l⟩
theorem v7.sound {m : Imm} : ∀ {xs ys : List PV} {us : List Value}, v7 xs ys → dc m xs us → dc m ys us
 | [], [], [], _, _ => trivial
 | _ :: _, _ :: _, _ :: _, h, k => ⟨h.1 _ _ k.1, v7.sound h.2 k.2⟩
 | [], _ :: _, _, h, _ => h.elim
 | _ :: _, [], _, h, _ => h.elim
 | [], [], _ :: _, _, h => h.elim
 | _ :: _, _ :: _, [], _, h => h.elim
theorem CoC.agg {l l' : List PV} (h : v7 l l') : CoC (.agg l) (.agg l') := by
 rintro m u ⟨us, e, hl⟩
 exact ⟨us, e, h.sound hl⟩
def lf {α : Type} [Inhabited α] (c : α → Nat → PV) (l : List α) : Nat → Nat → PV := fun i j => c (l.getD i default) j
def psl {α : Type} [Inhabited α] (s : Nat) (c : α → Nat → PV) (l : List α) : PV := .sl l.length s false (lf c l)
theorem an0 {α : Type} [Inhabited α] {wr wr' : Bool} {s : Nat} {e : TypeId} {c : α → Nat → PV} {l : List α} {m : Nat} {g : Nat → Nat → PV} (l' : List α) (hw : wr' = true → wr = true) (hm : m = l'.length) (hg : ∀ i j, i < l'.length → j < s → CoP (g i j) (lf c l' i j)) :
 CoO (.arr wr s e (l.length + m) (ej l.length (lf c l) g)) (.arr wr' s e (l ++ l').length (lf c (l ++ l'))) := by
 subst hm
 refine ⟨hw, rfl, rfl, by simp, fun i j hi hj => ?_⟩
 unfold ej
 by_cases h : i < l.length
 · rw [if_pos h]
   refine CoP.of_eq ?_
   simp only [lf, List.getD, List.getElem?_append_left h]
 · rw [if_neg h]
   have := hg (i - l.length) j (by omega) hj
   have e : lf c (l ++ l') i j = lf c l' (i - l.length) j := by simp only [lf, List.getD, List.getElem?_append_right (Nat.le_of_not_lt h)]
   rw [e]; exact this
theorem a92 {α : Type} [Inhabited α] {wr wr' : Bool} {s i : Nat} {e : TypeId} {c : α → Nat → PV} {l : List α} {g : Nat → Nat → PV} (hw : wr' = true → wr = true) (hg : ∀ j, j < s → CoP (g 0 j) (lf c l i j)) :
 CoO (.arr wr s e (i + 1) (ej i (lf c l) g)) (.arr wr' s e (i + 1) (lf c l)) := by
 refine ⟨hw, rfl, rfl, rfl, fun a j ha hj => ?_⟩
 unfold ej
 by_cases h : a < i
 · rw [if_pos h]; exact CoP.refl _
 · obtain rfl : a = i := by omega
   rw [if_neg h, Nat.sub_self]
   exact hg j hj
theorem aoq {s s' : Nat} {cl : Bool} {f f' : Nat → Nat → PV} : CoP (.sl 0 s cl f) (.sl 0 s' false f') := CoP.sl rfl (.inr rfl) (fun h => by cases h) fun i j hi _ => absurd hi (Nat.not_lt_zero i)
def asg (i0 : Nat) (h : HV) (f : Nat → Nat → PV) : Nat → Nat → HV := fun i j => if i = i0 ∧ j = 1 then h else .p (f i j)
theorem c8 {P : Nat → Prop} {i : Nat} (h : ∀ j, j < i → P j) (hn : P i) : ∀ j, j < i + 1 → P j := fun j hj => by
 rcases Nat.lt_succ_iff_lt_or_eq.1 hj with h1 | rfl
 · exact h j h1
 · exact hn
theorem d3 {P : Nat → Prop} : ∀ j, j < 0 → P j := fun j hj => absurd hj (Nat.not_lt_zero j)
section
variable {α : Type} [Inhabited α] {p : α → Bool} {l : List α} {i : Nat}
theorem zq (hi : i < l.length) (h : p (l.getD i default) = false) : l.all p = false := by
 rw [List.all_eq_false]
 refine ⟨l[i], List.getElem_mem hi, ?_⟩
 simp only [List.getD, List.getElem?_eq_getElem hi, Option.getD_some] at h
 simp [h]
theorem a3k (h : ∀ j, j < l.length → p (l.getD j default) = true) : l.all p = true := by
 rw [List.all_eq_true]
 intro x hx
 obtain ⟨j, hj, rfl⟩ := List.getElem_of_mem hx
 have := h j hj
 simpa only [List.getD, List.getElem?_eq_getElem hj, Option.getD_some] using this
def idx (p : α → Bool) (l : List α) : Int := match l.findIdx? p with | some i => i | none => -1
theorem a3g (hi : i < l.length) (hb : ∀ j, j < i → p (l.getD j default) = false) (h : p (l.getD i default) = true) : idx p l = i := by
 have : l.findIdx? p = some i := by
  rw [List.findIdx?_eq_some_iff_getElem]
  refine ⟨hi, ?_, fun j hj => ?_⟩
  · simpa only [List.getD, List.getElem?_eq_getElem hi, Option.getD_some] using h
  · have := hb j hj
    simp only [List.getD, List.getElem?_eq_getElem (Nat.lt_trans hj hi), Option.getD_some] at this
    simp [this]
 simp [idx, this]
theorem a3p (h : ∀ j, j < l.length → p (l.getD j default) = false) : idx p l = -1 := by
 have : l.findIdx? p = none := by
  rw [List.findIdx?_eq_none_iff]
  intro x hx
  obtain ⟨j, hj, rfl⟩ := List.getElem_of_mem hx
  have := h j hj
  simpa only [List.getD, List.getElem?_eq_getElem hj, Option.getD_some] using this
 simp [idx, this]
theorem lc {l l' : List α} (hl : l.length = l'.length) (h : ∀ j, j < l.length → l.getD j default = l'.getD j default) : l = l' := by
 refine List.ext_getElem hl fun j h1 h2 => ?_
 have := h j h1
 simpa only [List.getD, List.getElem?_eq_getElem h1, List.getElem?_eq_getElem h2, Option.getD_some] using this
end
def HSt.app (a b : HSt) : HSt := ⟨a.t ++ b.t, a.o ++ b.o⟩
theorem yc : ∀ {a b l : List (Nat × Option HR)}, tz a l → tz b l → tz (a ++ b) l
 | [], _, _, _, h => h
 | (_, some _) :: _, _, _, h, k => ⟨h.1, yc h.2 k⟩
 | (_, none) :: r, b, l, h, k => yc (a := r) (b := b) (l := l) h k
theorem yx : ∀ {a b l : List (Nat × Option ae)}, xy a l → xy b l → xy (a ++ b) l
 | [], _, _, _, h => h
 | (_, some _) :: _, _, _, h, k => ⟨h.1, yx h.2 k⟩
 | (_, none) :: r, b, l, h, k => yx (a := r) (b := b) (l := l) h k
theorem Sub.app {a b st : HSt} (h : Sub a st) (k : Sub b st) : Sub (a.app b) st := ⟨yc h.1 k.1, yx h.2 k.2⟩
section
variable {ro : Option Nat} {P : Program} {nt : Nat} {st : HSt} {Q : Exit → HSt → Prop}
theorem ao {ι : Type} {body : Code} (K : HSt) (hK : Sub K st) (J : ι → HSt) (p : ι → Prop) (μ : ι → Nat) (i0 : ι) (h0 : p i0) (hs : Sub (J i0) st) (round : ∀ i, p i → HW (ro := ro) P nt body ((J i).app K) (aj2 (fun i => (J i).app K) p μ i Q)) : HW (ro := ro) P nt (.loop body) st Q :=
 ajg (fun i => (J i).app K) p μ i0 h0 (hs.app hK) round
theorem ef {ι : Type} {x y : Code} (K : HSt) (hK : Sub K st) (J : ι → HSt) (p : ι → Prop) (h1 : HW (ro := ro) P nt x st (ao4 (fun i => (J i).app K) p Q)) (h2 : ∀ i, p i → HW (ro := ro) P nt y ((J i).app K) Q) : HW (ro := ro) P nt (.seq x y) st Q :=
 wq (fun i => (J i).app K) p h1 h2
theorem af1 {c : Code} (K : HSt) (hK : Sub K st) (h : HW (ro := ro) P nt c K Q) : HW (ro := ro) P nt c st Q := adl K hK h
theorem tu {c : Code} (bx off id : Nat) (wr : Bool) {n s' : Nat} {f' : Nat → Nat → PV} {l : List HV} (s : Nat) (e : TypeId) (f : Nat → Nat → PV) (hs : 0 < s) (hb : b9 st.o bx = some (.box l)) (hl : l[off]? = some (.p (.sl n s' true f'))) (hco : CoP (.sl n s' true f') (.sl n s true f)) (hwr : wr = false ∨ n = 0) (hn : l6 id st = true) (hne : Nat.beq bx id = false)
 (h : HW (ro := ro) P nt c ⟨st.t, (bx, some (.box (b4 l off [.ref id n]))) :: (id, some (.arr wr s e n f)) :: st.o⟩ Q) : HW (ro := ro) P nt c st Q := fun w0 m0 a w hr => by
 obtain ⟨hnm, hno⟩ := gp hn
 obtain ⟨cc, hold, hrr⟩ := hr
 have hbi : bx ≠ id := by rintro rfl; simp at hne
 obtain ⟨b0, C0, e0, p1, p2, p3, p4, p5⟩ := hrr.objs bx _ hb
 obtain ⟨u, hu, hur⟩ := p5.get off _ hl
 have hx : ap cc.imm (.sl n s true f) u := hco _ _ hur
 have hnm' : n ≤ maxLen := by obtain ⟨ad, cap, _, q1, q2, _⟩ := hx; omega
 have hfresh := hrr.fresh id hnm hno (.arr wr s e n f) w u noB (Grw.refl w none) (fun b hb => hb.elim) ⟨hs, hnm', .inr ⟨hwr, by simp, by simpa using hx⟩⟩
 rw [← n5] at hfresh
 have hb' : (HSt.den ⟨st.t, (id, some (.arr wr s e n f)) :: st.o⟩).o bx = some (.box l) := by
  simp only [HSt.den, bd, hbi, if_false]; exact hb
 refine h w0 m0 a w ?_
 have hevo : ∀ (c1 : Ctx), c1.own = (fun k => if k = id then u else cc.own k) → Evo { old := cc.old, imm := cc.imm, tab := cc.tab, own := fun k => if k = id then u else cc.own k, blk := fun k => if k = id then noB else cc.blk k, rows := cc.rows } (HSt.den ⟨st.t, (id, some (.arr wr s e n f)) :: st.o⟩).o c1 ((HSt.den ⟨st.t, (id, some (.arr wr s e n f)) :: st.o⟩).setO bx (some (.box (b4 l off [.ref id n])))).o bx := fun c1 h1 =>
  .inr (.inl ⟨l, b4 l off [.ref id n], hb', by simp [S.setO], by rw [h1]⟩)
 have hown : (fun k => if k = bx then (fun k => if k = id then u else cc.own k) bx else (fun k => if k = id then u else cc.own k) k) = fun k => if k = id then u else cc.own k := by
  funext k
  by_cases hk : k = bx
  · subst hk; simp
  · simp [hk]
 have hw := hfresh.write bx (.box l) hb' (.box (b4 l off [.ref id n])) w ((fun k => if k = id then u else cc.own k) bx) ((fun k => if k = id then noB else cc.blk k) bx) none (Grw.refl w _) (fun _ e => by cases e) (hevo _ (by exact hown)) (fun b hb => .inl hb) (by
  refine ⟨b0, C0, e0, by simpa [hbi] using p1, by simpa [hbi] using p2, p3, p4, ?_⟩
  have hoff : off < l.length := (List.getElem?_eq_some_iff.1 hl).1
  have hcl := p5.length
  refine av.of_get ?_ fun k x u' hx' hu' => ?_
  · simp only [b4, List.length_append, List.length_take, List.length_drop, List.length_singleton]; omega
  · have hx2 := hx'
    unfold b4 at hx2
    rw [bz l [HV.ref id n] off k (by simp; omega)] at hx2
    by_cases hk : k = off
    · subst hk
      simp at hx2
      subst hx2
      rw [hu] at hu'
      simp only [Option.some.injEq] at hu'
      subst hu'
      refine ⟨ap.oneCell hx, fun l2 => by simp [S.setO, HSt.den, bd, Ne.symm hbi], fun ob1 s1 e1 n1 ho hd1 => ?_⟩
      simp only [S.setO, HSt.den, bd, Ne.symm hbi, if_false, if_true, Option.some.injEq] at ho
      subst ho
      simp only [ae.dim, Option.some.injEq, Prod.mk.injEq] at hd1
      obtain ⟨rfl, rfl, rfl⟩ := hd1
      exact ⟨Nat.le_refl _, fun _ => by simp [Ne.symm hbi]⟩
    · rw [if_neg (by simp; omega)] at hx2
      obtain ⟨u2, hu2, hr2⟩ := p5.get k x hx2
      rw [hu'] at hu2
      simp only [Option.some.injEq] at hu2
      subst hu2
      refine az.evo (c := cc) (o := st.den.o) (Imm.le.refl cc.imm) (fun j hj => ?_) hr2
      have hji : j ≠ id := by
       rintro rfl
       exact hnm.2.1 bx _ hb ⟨x, List.mem_of_getElem? hx2, hj⟩
      by_cases hjb : j = bx
      · subst hjb; exact .inr (.inl ⟨l, b4 l off [.ref id n], hb, by simp [S.setO], by simp [hji]⟩)
      · exact Evo.of_same (by simp [S.setO, hjb, HSt.den, bd, hji]) (by simp [hjb, hji]))
 have e : HSt.den ⟨st.t, (bx, some (.box (b4 l off [.ref id n]))) :: (id, some (.arr wr s e n f)) :: st.o⟩ = (HSt.den ⟨st.t, (id, some (.arr wr s e n f)) :: st.o⟩).setO bx (some (.box (b4 l off [.ref id n]))) := by
  unfold HSt.den S.setO
  simp only [S.mk.injEq, true_and]
  funext k
  simp only [bd]
 rw [e]
 exact ⟨_, (by exact hold), hw⟩
theorem en {c : Code} (d : Nat) {n s : Nat} {cl : Bool} {f : Nat → Nat → PV} (hd : b9 st.t d = some (bf (.sl n s cl f))) (h : n ≤ 9223372036854775807 → HW (ro := ro) P nt c st Q) : HW (ro := ro) P nt c st Q := fun w0 m0 a w hr => by
 have hr' := hr
 obtain ⟨cc, hold, hrr⟩ := hr'
 obtain ⟨ad, cap, _, h1, h2, _⟩ := hrr.tmps d _ hd
 exact h (by simp only [maxLen] at h2; omega) w0 m0 a w hr
theorem a9p {c : Code} (id : Nat) {n s : Nat} {wr : Bool} {e : TypeId} {f : Nat → Nat → PV} (hb : b9 st.o id = some (.arr wr s e n f)) (h : n ≤ 9223372036854775807 → HW (ro := ro) P nt c st Q) : HW (ro := ro) P nt c st Q := fun w0 m0 a w hr => by
 have hr' := hr
 obtain ⟨cc, hold, hrr⟩ := hr'
 have := (hrr.objs id _ hb).2.1
 exact h (by simp only [maxLen] at this; omega) w0 m0 a w hr
end
end Go.Hx
end
section
namespace Go.Hx
open Go.Proofs
def a2t : List (Option TI) := [
 none,
 some ⟨.func, 1, 8, some [.nilFunc], false, false, true⟩,
 some ⟨.int .i64, 1, 8, some [.int .i64 0], false, false, true⟩,
 some ⟨.int .i64, 1, 8, some [.int .i64 0], false, false, true⟩,
 some ⟨.bool, 1, 1, some [.bool false], false, false, true⟩,
 some ⟨.int .u8, 1, 1, some [.int .u8 0], false, false, true⟩,
 some ⟨.int .u8, 1, 1, some [.int .u8 0], false, false, true⟩,
 some ⟨.struct [(0, 2, false), (1, 3, false), (2, 4, false), (3, 6, false)], 4, 24, some [.int .i64 0, .int .i64 0, .bool false, .int .u8 0], false, false, false⟩,
 some ⟨.struct [(0, 2, false), (1, 3, false), (2, 4, false), (3, 6, false)], 4, 24, some [.int .i64 0, .int .i64 0, .bool false, .int .u8 0], false, false, false⟩,
 some ⟨.string, 1, 16, some [.string ⟨#[]⟩], false, false, true⟩,
 some ⟨.string, 1, 16, some [.string ⟨#[]⟩], false, false, true⟩,
 some ⟨.string, 1, 16, some [.string ⟨#[]⟩], false, false, true⟩,
 some ⟨.int .u64, 1, 8, some [.int .u64 0], false, false, true⟩,
 none,
 none,
 some ⟨.pointer 240, 1, 8, some [.pointer none], false, false, true⟩,
 some ⟨.pointer 243, 1, 8, some [.pointer none], false, false, true⟩,
 some ⟨.pointer 252, 1, 8, some [.pointer none], false, false, true⟩,
 none,
 none,
 none,
 some ⟨.int .i32, 1, 4, some [.int .i32 0], false, false, true⟩,
 some ⟨.slice 136, 1, 24, some [.slice none 0 0], false, false, true⟩,
 some ⟨.struct [(0, 5, false), (1, 22, false)], 2, 32, some [.int .u8 0, .slice none 0 0], false, false, false⟩,
 some ⟨.struct [(0, 5, false), (1, 22, false)], 2, 32, some [.int .u8 0, .slice none 0 0], false, false, false⟩,
 some ⟨.struct [(0, 24, false), (2, 22, false)], 3, 56, some [.int .u8 0, .slice none 0 0, .slice none 0 0], false, false, false⟩,
 some ⟨.struct [(0, 24, false), (2, 22, false)], 3, 56, some [.int .u8 0, .slice none 0 0, .slice none 0 0], false, false, false⟩,
 some ⟨.slice 40, 1, 24, some [.slice none 0 0], false, false, true⟩,
 some ⟨.slice 42, 1, 24, some [.slice none 0 0], false, false, true⟩,
 none,
 none,
 none,
 some ⟨.slice 38, 1, 24, some [.slice none 0 0], false, false, true⟩,
 some ⟨.int .i64, 1, 8, some [.int .i64 0], false, false, true⟩,
 none,
 none,
 none,
 some ⟨.int .u32, 1, 4, some [.int .u32 0], false, false, true⟩,
 some ⟨.int .u32, 1, 4, some [.int .u32 0], false, false, true⟩,
 some ⟨.struct [(0, 38, false), (1, 38, false)], 2, 8, some [.int .u32 0, .int .u32 0], false, false, false⟩,
 some ⟨.struct [(0, 38, false), (1, 38, false)], 2, 8, some [.int .u32 0, .int .u32 0], false, false, false⟩,
 none,
 some ⟨.struct [(0, 38, false), (1, 38, false)], 2, 8, some [.int .u32 0, .int .u32 0], false, false, false⟩,
 none,
 some ⟨.func, 1, 8, some [.nilFunc], false, false, true⟩,
 none,
 none,
 none,
 some ⟨.func, 1, 8, some [.nilFunc], false, false, true⟩,
 some ⟨.slice 5, 1, 24, some [.slice none 0 0], false, false, true⟩,
 none,
 none,
 none,
 none,
 some ⟨.array 2 38, 2, 8, some [.int .u32 0, .int .u32 0], false, false, false⟩,
 none,
 some ⟨.func, 1, 8, some [.nilFunc], false, false, true⟩,
 none,
 none,
 none,
 none,
 none,
 none,
 none,
 none,
 none,
 none,
 none,
 none,
 none,
 none,
 none,
 none,
 none,
 none,
 none,
 some ⟨.slice 155, 1, 24, some [.slice none 0 0], false, false, true⟩,
 none,
 none,
 none,
 none,
 none,
 none,
 none,
 none,
 none,
 none,
 none,
 none,
 none,
 none,
 none,
 none,
 none,
 none,
 some ⟨.func, 1, 8, some [.nilFunc], false, false, true⟩,
 none,
 none,
 some ⟨.func, 1, 8, some [.nilFunc], false, false, true⟩,
 none,
 none,
 none,
 none,
 none,
 none,
 none,
 none,
 some ⟨.func, 1, 8, some [.nilFunc], false, false, true⟩,
 none,
 none,
 none,
 none,
 none,
 none,
 some ⟨.slice 120, 1, 24, some [.slice none 0 0], false, false, true⟩,
 none,
 none,
 none,
 some ⟨.slice 121, 1, 24, some [.slice none 0 0], false, false, true⟩,
 some ⟨.struct [(0, 3, false), (1, 118, false)], 2, 32, some [.int .i64 0, .slice none 0 0], false, false, false⟩,
 some ⟨.struct [(0, 3, false), (1, 118, false)], 2, 32, some [.int .i64 0, .slice none 0 0], false, false, false⟩,
 some ⟨.slice 3, 1, 24, some [.slice none 0 0], false, false, true⟩,
 none,
 none,
 none,
 none,
 none,
 none,
 none,
 none,
 none,
 none,
 some ⟨.func, 1, 8, some [.nilFunc], false, false, true⟩,
 none,
 some ⟨.func, 1, 8, some [.nilFunc], false, false, true⟩,
 some ⟨.struct [(0, 5, false), (1, 5, false)], 2, 2, some [.int .u8 0, .int .u8 0], false, false, false⟩,
 some ⟨.struct [(0, 5, false), (1, 5, false)], 2, 2, some [.int .u8 0, .int .u8 0], false, false, false⟩,
 some ⟨.int .u64, 1, 8, some [.int .u64 0], false, false, true⟩,
 none,
 none,
 none,
 none,
 none,
 none,
 none,
 none,
 none,
 none,
 none,
 none,
 none,
 none,
 none,
 none,
 some ⟨.struct [(0, 4, false), (1, 3, false), (2, 3, false), (3, 3, false)], 4, 32, some [.bool false, .int .i64 0, .int .i64 0, .int .i64 0], false, false, false⟩,
 some ⟨.struct [(0, 4, false), (1, 3, false), (2, 3, false), (3, 3, false)], 4, 32, some [.bool false, .int .i64 0, .int .i64 0, .int .i64 0], false, false, false⟩,
 some ⟨.func, 1, 8, some [.nilFunc], false, false, true⟩,
 none,
 some ⟨.func, 1, 8, some [.nilFunc], false, false, true⟩,
 some ⟨.int .u64, 1, 8, some [.int .u64 0], false, false, true⟩,
 none,
 some ⟨.struct [(0, 32, false)], 1, 24, some [.slice none 0 0], false, false, false⟩,
 some ⟨.struct [(0, 32, false)], 1, 24, some [.slice none 0 0], false, false, false⟩,
 none,
 none,
 none,
 none,
 none,
 none,
 none,
 none,
 none,
 none,
 some ⟨.slice 4, 1, 24, some [.slice none 0 0], false, false, true⟩,
 none,
 none,
 none,
 some ⟨.map 38 38, 1, 8, some [.map none], false, false, true⟩,
 none,
 none,
 none,
 none,
 none,
 none,
 none,
 none,
 none,
 none,
 none,
 none,
 none,
 some ⟨.int .i64, 1, 8, some [.int .i64 0], false, false, true⟩,
 none,
 none,
 none,
 none,
 none,
 none,
 some ⟨.func, 1, 8, some [.nilFunc], false, false, true⟩,
 none,
 none,
 none,
 none,
 none,
 none,
 none,
 some ⟨.func, 1, 8, some [.nilFunc], false, false, true⟩,
 none,
 none,
 none,
 none,
 some ⟨.pointer 162, 1, 8, some [.pointer none], false, false, true⟩,
 none,
 some ⟨.array 32 5, 32, 32, some [.int .u8 0, .int .u8 0, .int .u8 0, .int .u8 0, .int .u8 0, .int .u8 0, .int .u8 0, .int .u8 0, .int .u8 0, .int .u8 0, .int .u8 0, .int .u8 0, .int .u8 0, .int .u8 0, .int .u8 0, .int .u8 0, .int .u8 0, .int .u8 0, .int .u8 0, .int .u8 0, .int .u8 0, .int .u8 0, .int .u8 0, .int .u8 0, .int .u8 0, .int .u8 0, .int .u8 0, .int .u8 0, .int .u8 0, .int .u8 0, .int .u8 0, .int .u8 0], false, false, false⟩,
 some ⟨.int .u64, 1, 8, some [.int .u64 0], false, false, true⟩,
 none,
 none,
 none,
 some ⟨.pointer 3, 1, 8, some [.pointer none], false, false, true⟩,
 none,
 none,
 none,
 none,
 none,
 some ⟨.pointer 214, 1, 8, some [.pointer none], false, false, true⟩,
 none,
 none,
 none,
 some ⟨.slice 27, 1, 24, some [.slice none 0 0], false, false, true⟩,
 none,
 none,
 none,
 none,
 none,
 none,
 none,
 none,
 none,
 none,
 none,
 none,
 some ⟨.array 0 16, 0, 0, some [], false, false, false⟩,
 none,
 none,
 none,
 some ⟨.int .u8, 1, 1, some [.int .u8 0], false, false, true⟩,
 some ⟨.int .u8, 1, 1, some [.int .u8 0], false, false, true⟩,
 some ⟨.func, 1, 8, some [.nilFunc], false, false, true⟩,
 some ⟨.pointer 5, 1, 8, some [.pointer none], false, false, true⟩,
 some ⟨.int .i32, 1, 4, some [.int .i32 0], false, false, true⟩,
 some ⟨.int .i32, 1, 4, some [.int .i32 0], false, false, true⟩,
 none,
 none,
 none]
def wh : List (Option TI) → Nat → Option TI
 | [], _ => none
 | x :: _, 0 => x
 | _ :: r, n + 1 => wh r n
def c6 : Env := wh a2t
def aaz (P : Program) : List (Option TI) → Nat → Prop
 | [], _ => True
 | none :: r, n => aaz P r (n + 1)
 | some i :: r, n => b5 P n = some i ∧ aaz P r (n + 1)
theorem uc {P : Program} : ∀ {l : List (Option TI)} {n : Nat}, aaz P l n → ∀ t i, wh l t = some i → b5 P (n + t) = some i
 | [], _, _, t, i, h => by simp [wh] at h
 | none :: r, n, hf, 0, i, h => by simp [wh] at h
 | some x :: r, n, hf, 0, i, h => by simp only [wh, Option.some.injEq] at h; subst h; exact hf.1
 | none :: r, n, hf, t + 1, i, h => by have := uc (l := r) (n := n + 1) hf t i h; rwa [show n + (t + 1) = n + 1 + t by omega]
 | some x :: r, n, hf, t + 1, i, h => by have := uc (l := r) (n := n + 1) hf.2 t i h; rwa [show n + (t + 1) = n + 1 + t by omega]
theorem ajd : b5 Tryz.prog 1 = some ⟨.func, 1, 8, some [.nilFunc], false, false, true⟩ := by kernel_rfl
theorem ak0 : b5 Tryz.prog 2 = some ⟨.int .i64, 1, 8, some [.int .i64 0], false, false, true⟩ := by kernel_rfl
theorem aj9 : b5 Tryz.prog 3 = some ⟨.int .i64, 1, 8, some [.int .i64 0], false, false, true⟩ := by kernel_rfl
theorem akh : b5 Tryz.prog 4 = some ⟨.bool, 1, 1, some [.bool false], false, false, true⟩ := by kernel_rfl
theorem akk : b5 Tryz.prog 5 = some ⟨.int .u8, 1, 1, some [.int .u8 0], false, false, true⟩ := by kernel_rfl
theorem akl : b5 Tryz.prog 6 = some ⟨.int .u8, 1, 1, some [.int .u8 0], false, false, true⟩ := by kernel_rfl
theorem als : b5 Tryz.prog 7 = some ⟨.struct [(0, 2, false), (1, 3, false), (2, 4, false), (3, 6, false)], 4, 24, some [.int .i64 0, .int .i64 0, .bool false, .int .u8 0], false, false, false⟩ := by kernel_rfl
theorem am1 : b5 Tryz.prog 8 = some ⟨.struct [(0, 2, false), (1, 3, false), (2, 4, false), (3, 6, false)], 4, 24, some [.int .i64 0, .int .i64 0, .bool false, .int .u8 0], false, false, false⟩ := by kernel_rfl
theorem al0 : b5 Tryz.prog 9 = some ⟨.string, 1, 16, some [.string ⟨#[]⟩], false, false, true⟩ := by kernel_rfl
theorem agd : b5 Tryz.prog 10 = some ⟨.string, 1, 16, some [.string ⟨#[]⟩], false, false, true⟩ := by kernel_rfl
theorem afp : b5 Tryz.prog 11 = some ⟨.string, 1, 16, some [.string ⟨#[]⟩], false, false, true⟩ := by kernel_rfl
theorem ahv : b5 Tryz.prog 12 = some ⟨.int .u64, 1, 8, some [.int .u64 0], false, false, true⟩ := by kernel_rfl
theorem ahe : b5 Tryz.prog 15 = some ⟨.pointer 240, 1, 8, some [.pointer none], false, false, true⟩ := by kernel_rfl
theorem aex : b5 Tryz.prog 16 = some ⟨.pointer 243, 1, 8, some [.pointer none], false, false, true⟩ := by kernel_rfl
theorem afa : b5 Tryz.prog 17 = some ⟨.pointer 252, 1, 8, some [.pointer none], false, false, true⟩ := by kernel_rfl
theorem ahr : b5 Tryz.prog 21 = some ⟨.int .i32, 1, 4, some [.int .i32 0], false, false, true⟩ := by kernel_rfl
theorem ai0 : b5 Tryz.prog 22 = some ⟨.slice 136, 1, 24, some [.slice none 0 0], false, false, true⟩ := by kernel_rfl
theorem aha : b5 Tryz.prog 23 = some ⟨.struct [(0, 5, false), (1, 22, false)], 2, 32, some [.int .u8 0, .slice none 0 0], false, false, false⟩ := by kernel_rfl
theorem aga : b5 Tryz.prog 24 = some ⟨.struct [(0, 5, false), (1, 22, false)], 2, 32, some [.int .u8 0, .slice none 0 0], false, false, false⟩ := by kernel_rfl
theorem ahw : b5 Tryz.prog 25 = some ⟨.struct [(0, 24, false), (2, 22, false)], 3, 56, some [.int .u8 0, .slice none 0 0, .slice none 0 0], false, false, false⟩ := by kernel_rfl
theorem agy : b5 Tryz.prog 26 = some ⟨.struct [(0, 24, false), (2, 22, false)], 3, 56, some [.int .u8 0, .slice none 0 0, .slice none 0 0], false, false, false⟩ := by kernel_rfl
theorem ahk : b5 Tryz.prog 27 = some ⟨.slice 40, 1, 24, some [.slice none 0 0], false, false, true⟩ := by kernel_rfl
theorem afd : b5 Tryz.prog 28 = some ⟨.slice 42, 1, 24, some [.slice none 0 0], false, false, true⟩ := by kernel_rfl
theorem afj : b5 Tryz.prog 32 = some ⟨.slice 38, 1, 24, some [.slice none 0 0], false, false, true⟩ := by kernel_rfl
theorem ahi : b5 Tryz.prog 33 = some ⟨.int .i64, 1, 8, some [.int .i64 0], false, false, true⟩ := by kernel_rfl
theorem afy : b5 Tryz.prog 37 = some ⟨.int .u32, 1, 4, some [.int .u32 0], false, false, true⟩ := by kernel_rfl
theorem ah2 : b5 Tryz.prog 38 = some ⟨.int .u32, 1, 4, some [.int .u32 0], false, false, true⟩ := by kernel_rfl
theorem ah5 : b5 Tryz.prog 39 = some ⟨.struct [(0, 38, false), (1, 38, false)], 2, 8, some [.int .u32 0, .int .u32 0], false, false, false⟩ := by kernel_rfl
theorem aft : b5 Tryz.prog 40 = some ⟨.struct [(0, 38, false), (1, 38, false)], 2, 8, some [.int .u32 0, .int .u32 0], false, false, false⟩ := by kernel_rfl
theorem agb : b5 Tryz.prog 42 = some ⟨.struct [(0, 38, false), (1, 38, false)], 2, 8, some [.int .u32 0, .int .u32 0], false, false, false⟩ := by kernel_rfl
theorem afg : b5 Tryz.prog 44 = some ⟨.func, 1, 8, some [.nilFunc], false, false, true⟩ := by kernel_rfl
theorem afm : b5 Tryz.prog 48 = some ⟨.func, 1, 8, some [.nilFunc], false, false, true⟩ := by kernel_rfl
theorem ah6 : b5 Tryz.prog 49 = some ⟨.slice 5, 1, 24, some [.slice none 0 0], false, false, true⟩ := by kernel_rfl
theorem agk : b5 Tryz.prog 54 = some ⟨.array 2 38, 2, 8, some [.int .u32 0, .int .u32 0], false, false, false⟩ := by kernel_rfl
theorem afq : b5 Tryz.prog 56 = some ⟨.func, 1, 8, some [.nilFunc], false, false, true⟩ := by kernel_rfl
theorem ag5 : b5 Tryz.prog 76 = some ⟨.slice 155, 1, 24, some [.slice none 0 0], false, false, true⟩ := by kernel_rfl
theorem ah1 : b5 Tryz.prog 95 = some ⟨.func, 1, 8, some [.nilFunc], false, false, true⟩ := by kernel_rfl
theorem agi : b5 Tryz.prog 98 = some ⟨.func, 1, 8, some [.nilFunc], false, false, true⟩ := by kernel_rfl
theorem aep : b5 Tryz.prog 107 = some ⟨.func, 1, 8, some [.nilFunc], false, false, true⟩ := by kernel_rfl
theorem ad4 : b5 Tryz.prog 114 = some ⟨.slice 120, 1, 24, some [.slice none 0 0], false, false, true⟩ := by kernel_rfl
theorem ae8 : b5 Tryz.prog 118 = some ⟨.slice 121, 1, 24, some [.slice none 0 0], false, false, true⟩ := by kernel_rfl
theorem ae6 : b5 Tryz.prog 119 = some ⟨.struct [(0, 3, false), (1, 118, false)], 2, 32, some [.int .i64 0, .slice none 0 0], false, false, false⟩ := by kernel_rfl
theorem abr : b5 Tryz.prog 120 = some ⟨.struct [(0, 3, false), (1, 118, false)], 2, 32, some [.int .i64 0, .slice none 0 0], false, false, false⟩ := by kernel_rfl
theorem acn : b5 Tryz.prog 121 = some ⟨.slice 3, 1, 24, some [.slice none 0 0], false, false, true⟩ := by kernel_rfl
theorem abv : b5 Tryz.prog 132 = some ⟨.func, 1, 8, some [.nilFunc], false, false, true⟩ := by kernel_rfl
theorem ad7 : b5 Tryz.prog 134 = some ⟨.func, 1, 8, some [.nilFunc], false, false, true⟩ := by kernel_rfl
theorem ad0 : b5 Tryz.prog 135 = some ⟨.struct [(0, 5, false), (1, 5, false)], 2, 2, some [.int .u8 0, .int .u8 0], false, false, false⟩ := by kernel_rfl
theorem adx : b5 Tryz.prog 136 = some ⟨.struct [(0, 5, false), (1, 5, false)], 2, 2, some [.int .u8 0, .int .u8 0], false, false, false⟩ := by kernel_rfl
theorem ab3 : b5 Tryz.prog 137 = some ⟨.int .u64, 1, 8, some [.int .u64 0], false, false, true⟩ := by kernel_rfl
theorem acr : b5 Tryz.prog 154 = some ⟨.struct [(0, 4, false), (1, 3, false), (2, 3, false), (3, 3, false)], 4, 32, some [.bool false, .int .i64 0, .int .i64 0, .int .i64 0], false, false, false⟩ := by kernel_rfl
theorem ad6 : b5 Tryz.prog 155 = some ⟨.struct [(0, 4, false), (1, 3, false), (2, 3, false), (3, 3, false)], 4, 32, some [.bool false, .int .i64 0, .int .i64 0, .int .i64 0], false, false, false⟩ := by kernel_rfl
theorem aef : b5 Tryz.prog 156 = some ⟨.func, 1, 8, some [.nilFunc], false, false, true⟩ := by kernel_rfl
theorem acy : b5 Tryz.prog 158 = some ⟨.func, 1, 8, some [.nilFunc], false, false, true⟩ := by kernel_rfl
theorem adt : b5 Tryz.prog 159 = some ⟨.int .u64, 1, 8, some [.int .u64 0], false, false, true⟩ := by kernel_rfl
theorem aco : b5 Tryz.prog 161 = some ⟨.struct [(0, 32, false)], 1, 24, some [.slice none 0 0], false, false, false⟩ := by kernel_rfl
theorem ack : b5 Tryz.prog 162 = some ⟨.struct [(0, 32, false)], 1, 24, some [.slice none 0 0], false, false, false⟩ := by kernel_rfl
theorem acw : b5 Tryz.prog 173 = some ⟨.slice 4, 1, 24, some [.slice none 0 0], false, false, true⟩ := by kernel_rfl
theorem acx : b5 Tryz.prog 177 = some ⟨.map 38 38, 1, 8, some [.map none], false, false, true⟩ := by kernel_rfl
theorem ae0 : b5 Tryz.prog 191 = some ⟨.int .i64, 1, 8, some [.int .i64 0], false, false, true⟩ := by kernel_rfl
theorem acb : b5 Tryz.prog 198 = some ⟨.func, 1, 8, some [.nilFunc], false, false, true⟩ := by kernel_rfl
theorem abz : b5 Tryz.prog 206 = some ⟨.func, 1, 8, some [.nilFunc], false, false, true⟩ := by kernel_rfl
theorem adk : b5 Tryz.prog 211 = some ⟨.pointer 162, 1, 8, some [.pointer none], false, false, true⟩ := by kernel_rfl
theorem ac4 : b5 Tryz.prog 213 = some ⟨.array 32 5, 32, 32, some [.int .u8 0, .int .u8 0, .int .u8 0, .int .u8 0, .int .u8 0, .int .u8 0, .int .u8 0, .int .u8 0, .int .u8 0, .int .u8 0, .int .u8 0, .int .u8 0, .int .u8 0, .int .u8 0, .int .u8 0, .int .u8 0, .int .u8 0, .int .u8 0, .int .u8 0, .int .u8 0, .int .u8 0, .int .u8 0, .int .u8 0, .int .u8 0, .int .u8 0, .int .u8 0, .int .u8 0, .int .u8 0, .int .u8 0, .int .u8 0, .int .u8 0, .int .u8 0], false, false, false⟩ := by kernel_rfl
theorem ac7 : b5 Tryz.prog 214 = some ⟨.int .u64, 1, 8, some [.int .u64 0], false, false, true⟩ := by kernel_rfl
theorem ac0 : b5 Tryz.prog 218 = some ⟨.pointer 3, 1, 8, some [.pointer none], false, false, true⟩ := by kernel_rfl
theorem ae9 : b5 Tryz.prog 224 = some ⟨.pointer 214, 1, 8, some [.pointer none], false, false, true⟩ := by kernel_rfl
theorem aeb : b5 Tryz.prog 228 = some ⟨.slice 27, 1, 24, some [.slice none 0 0], false, false, true⟩ := by kernel_rfl
theorem abw : b5 Tryz.prog 241 = some ⟨.array 0 16, 0, 0, some [], false, false, false⟩ := by kernel_rfl
theorem abq : b5 Tryz.prog 245 = some ⟨.int .u8, 1, 1, some [.int .u8 0], false, false, true⟩ := by kernel_rfl
theorem ab4 : b5 Tryz.prog 246 = some ⟨.int .u8, 1, 1, some [.int .u8 0], false, false, true⟩ := by kernel_rfl
theorem ac9 : b5 Tryz.prog 247 = some ⟨.func, 1, 8, some [.nilFunc], false, false, true⟩ := by kernel_rfl
theorem ac6 : b5 Tryz.prog 248 = some ⟨.pointer 5, 1, 8, some [.pointer none], false, false, true⟩ := by kernel_rfl
theorem abl : b5 Tryz.prog 249 = some ⟨.int .i32, 1, 4, some [.int .i32 0], false, false, true⟩ := by kernel_rfl
theorem abp : b5 Tryz.prog 250 = some ⟨.int .i32, 1, 4, some [.int .i32 0], false, false, true⟩ := by kernel_rfl
theorem af9 : aaz Tryz.prog a2t 0 := ⟨ajd, ⟨ak0, ⟨aj9, ⟨akh, ⟨akk, ⟨akl, ⟨als, ⟨am1, ⟨al0, ⟨agd, ⟨afp, ⟨ahv, ⟨ahe, ⟨aex, ⟨afa, ⟨ahr, ⟨ai0, ⟨aha, ⟨aga, ⟨ahw, ⟨agy, ⟨ahk, ⟨afd, ⟨afj, ⟨ahi, ⟨afy, ⟨ah2, ⟨ah5, ⟨aft, ⟨agb, ⟨afg, ⟨afm, ⟨ah6, ⟨agk, ⟨afq, ⟨ag5, ⟨ah1, ⟨agi, ⟨aep, ⟨ad4, ⟨ae8, ⟨ae6, ⟨abr, ⟨acn, ⟨abv, ⟨ad7, ⟨ad0, ⟨adx, ⟨ab3, ⟨acr, ⟨ad6, ⟨aef, ⟨acy, ⟨adt, ⟨aco, ⟨ack, ⟨acw, ⟨acx, ⟨ae0, ⟨acb, ⟨abz, ⟨adk, ⟨ac4, ⟨ac7, ⟨ac0, ⟨ae9, ⟨aeb, ⟨abw, ⟨abq, ⟨ab4, ⟨ac9, ⟨ac6, ⟨abl, ⟨abp, trivial⟩⟩⟩⟩⟩⟩⟩⟩⟩⟩⟩⟩⟩⟩⟩⟩⟩⟩⟩⟩⟩⟩⟩⟩⟩⟩⟩⟩⟩⟩⟩⟩⟩⟩⟩⟩⟩⟩⟩⟩⟩⟩⟩⟩⟩⟩⟩⟩⟩⟩⟩⟩⟩⟩⟩⟩⟩⟩⟩⟩⟩⟩⟩⟩⟩⟩⟩⟩⟩⟩⟩⟩⟩⟩
theorem ah : bo Tryz.prog c6 := fun t i h => by
 have := uc af9 t i h
 rwa [Nat.zero_add] at this
theorem bh : Tryz.prog.follows .mixedOrders = true := by kernel_rfl
end Go.Hx
namespace Go.Hx
open Go.Proofs
section
variable {ro : Option Nat} {P : Program} {E : Env} {nt : Nat} {ops : Array Oper} {i : Nat} {o : Oper} {st : HSt} {L : List Nat} {K : List Tr → HSt → Prop} {Q : Exit → HSt → Prop}
theorem qy {out : Out} {gb : Bool} (hT : Reg P E nt ops L (st.after o.dst (some out.val) []) fun T sf => K (⟨i, yq true out.val.ids, looks st.den o, bn st.den o.dst [], d6 E st.den o⟩ :: T) sf)
 (hi : ops[i]? = some o := by exact rfl) (hw : au ops st.den o = some gb := by exact rfl) (hd : cg nt o.dst = true := by exact rfl) (hq' : hq E true st.den.o (ev st.den) o.op = some out := by exact rfl) (hg : gb = true := by exact rfl)
 (hp : out.pre := by first | exact trivial | (simp only [f0, inR, mj, qd]; omega) | exact a4x _ _ | exact ⟨trivial, trivial⟩ | exact ⟨trivial, Nat.le_of_ble_eq_true rfl⟩ | (try dsimp only) <;> ((repeat' apply And.intro) <;> first | trivial | rfl | omega | (simp only [dt, be]; omega) | assumption | exact Nat.le_of_ble_eq_true rfl)) :
 Reg P E nt ops (i :: L) st K := bv true hi hw hd hq' hg hp hT
theorem k9 {gb : Bool} (hg : gb = false) (hT : Reg P E nt ops L (st.after o.dst (some (.tup [])) []) fun T sf => K (⟨i, yq true [], looks st.den o, bn st.den o.dst [], none⟩ :: T) sf)
 (hi : ops[i]? = some o := by exact rfl) (hw : au ops st.den o = some gb := by exact rfl) (hd : cg nt o.dst = true := by exact rfl) : Reg P E nt ops (i :: L) st K := a8x hi hw hd hg hT
theorem m9 (id : Nat) {nw : New} {gb : Bool} (hT : Reg P E nt ops L (st.after o.dst (some nw.val) [(id, some nw.ob)]) fun T sf => K (⟨i, ⟨id, false, true, .tup [], [id], [id], nw.val.ids ++ nw.ob.ids⟩, looks st.den o, bn st.den o.dst [(id, some nw.ob)], none⟩ :: T) sf)
 (hi : ops[i]? = some o := by exact rfl) (hw : au ops st.den o = some gb := by exact rfl) (hd : cg nt o.dst = true := by exact rfl) (hq' : ha E (ev st.den) id o.op = some nw := by exact rfl) (hn : l6 id st = true := by exact rfl) (hg : gb = true := by exact rfl)
 (hp : nw.pre := by first | exact trivial | (try dsimp only) <;> ((repeat' apply And.intro) <;> first | trivial | rfl | omega | assumption)) : Reg P E nt ops (i :: L) st K := s5 id hi hw hd hq' hn hg hp hT
theorem s9 {u : Upd} {gb : Bool} (hT : Reg P E nt ops L (st.after o.dst none [(u.id, some u.ob)]) fun T sf => K (⟨i, ⟨0, false, true, .tup [], [u.id], [], u.ob.ids⟩, looks st.den o, bn st.den o.dst [(u.id, some u.ob)], d6 E st.den o⟩ :: T) sf)
 (hi : ops[i]? = some o := by exact rfl) (hw : au ops st.den o = some gb := by exact rfl) (hd : cg nt o.dst = true := by exact rfl) (hq' : hs E st.den.o (ev st.den) o.op = some u := by exact rfl) (hg : gb = true := by exact rfl)
 (hp : u.pre := by first | exact Nat.le_of_ble_eq_true rfl | (try dsimp only) <;> ((repeat' apply And.intro) <;> first | trivial | rfl | omega | (simp only [dt, be]; omega) | assumption | exact Nat.le_of_ble_eq_true rfl)) : Reg P E nt ops (i :: L) st K := a41 hi hw hd hq' hg hp hT
theorem f9 {rs : List ResultVar} {res : List PC} {p q : Prop} {l : List HC} {vs : List PC} (h1 : pk E st.den rs = some (p, l)) (h2 : jo st.den.o l = some (q, vs)) (hc : CoL vs res)
 (hp : p := by (repeat' apply And.intro) <;> first | trivial | exact Nat.le_of_ble_eq_true rfl | rfl) (hq : q := by (repeat' apply And.intro) <;> first | trivial | exact Nat.le_of_ble_eq_true rfl | rfl) : aa5 E st rs res := ⟨p, l, q, vs, h1, hp, h2, hq, hc⟩
theorem c9 {f : Option HR} {x : HR} (h : f = some x := by exact rfl) : ∃ y, f = some y ∧ CoR y x := ⟨x, h, CoR.refl x⟩
theorem u9 {f : Option ae} {x : ae} (h : f = some x := by exact rfl) : ∃ y, f = some y ∧ CoO y x := ⟨x, h, CoO.refl x⟩
theorem zy {f : Option HR} {x y : HR} (h : f = some y := by exact rfl) (c : CoR y x := by first | exact CoR.refl _ | exact coi (by omega) | exact cob (by simp_all)) : ∃ y, f = some y ∧ CoR y x := ⟨y, h, c⟩
theorem l9 {a b : Nat} (h : Nat.ble a b = true := by exact rfl) : a ≤ b := Nat.le_of_ble_eq_true h
theorem ty {n : Nat} : ((n : Nat) : Int).toNat = n := Int.toNat_natCast n
end
theorem gy {ro : Option Nat} {nt id : Nat} {ops : Array Oper} {st : HSt} {Q : Exit → HSt → Prop} (h : Reg Tryz.prog c6 nt ops (List.range ops.size) st fun _ sf => Q .normal sf) : HW (ro := ro) Tryz.prog nt (.region id ops false) st Q := a2k ah h
end Go.Hx
namespace Go.Hx
open Go.Proofs
theorem sx7 {ro : Option Nat} {nt id : Nat} {ops : Array Oper} {st : HSt} {y : Code} {Q : Exit → HSt → Prop} (h : Reg Tryz.prog c6 nt ops (List.range ops.size) st fun _ sf => ap2 (ro := ro) Tryz.prog nt y Q .normal sf) : HW (ro := ro) Tryz.prog nt (.seq (.region id ops false) y) st Q := a7 (a2k ah h)
theorem hx8 {ro : Option Nat} {P : Program} {E : Env} {nt : Nat} {st : HSt} {Q : Exit → HSt → Prop} {rs : List ResultVar} {res : List PC} {p q : Prop} {l : List HC} {vs : List PC} (hQ : Q .ret st = ((Exit.ret = .normal ∨ Exit.ret = .ret) ∧ aa5 E st rs res)) (h1 : pk E st.den rs = some (p, l)) (h2 : jo st.den.o l = some (q, vs)) (hc : CoL vs res)
 (hp : p := by (repeat' apply And.intro) <;> first | trivial | exact Nat.le_of_ble_eq_true rfl | rfl) (hq : q := by (repeat' apply And.intro) <;> first | trivial | exact Nat.le_of_ble_eq_true rfl | rfl) : HW (ro := ro) P nt .ret st Q := bi (hQ ▸ ⟨.inr rfl, p, l, q, vs, h1, hp, h2, hq, hc⟩)
end Go.Hx
end
section
namespace Go.Hx
open Go.Proofs Go.Lib Go.RowKit
def atb (k : Nat) (xs vs : List Value) : List Value := xs.take k ++ vs ++ xs.drop k
structure arx (w w' : World) (T s : Nat) (own v : Value) (n : Nat) (xs : List Value) : Prop where
 row : w'.ownsRow 0 T s v (n + 1) xs
 bl : Below 0 w w'
 out : ∀ g, g < w.heap.size → bt own ≠ some g → w'.heap[g]? = w.heap[g]?
 at_ : ∀ g, bt v = some g → w.heap.size ≤ g ∨ bt own = some g
def at1 (i : Nat) (F G : Nat → Nat → PV) : Nat → Nat → PV := fun k j => if k < i then F k j else if k = i then G 0 j else F (k - 1) j
theorem jl {id q : Nat} {x ob : ae} (h : lk [(q, x)] id = some ob) : id = q ∧ ob = x := by
 simp only [lk] at h
 by_cases hk : q = id
 · subst hk
   simp at h
   exact ⟨rfl, h.symm⟩
 · have : Nat.beq q id = false := by
    rw [Bool.eq_false_iff]; exact fun hb => hk (Nat.eq_of_beq_eq_true hb)
   rw [this] at h
   cases h
structure at0 (c : Ctx) (w w' : World) (T s a : Nat) (v : Value) (n : Nat) (ys : List Value) : Prop where
 row : w'.ownsRow 0 T s v (n + 1) ys
 bl : Below 0 w w'
 out : ∀ g, g < w.heap.size → ¬ c.blk a g → w'.heap[g]? = w.heap[g]?
 at_ : ∀ g, bt v = some g → w.heap.size ≤ g ∨ c.blk a g
def HE (nt : Nat) (st : HSt) (Q : HSt → Prop) : Prop := ∀ w0 m0 a w, Rel w0 m0 nt st.den a w → ∃ st' : HSt, Q st' ∧ Rel w0 m0 nt st'.den a w
theorem a7w {nt : Nat} {st : HSt} {Q : HSt → Prop} (h : Q st) : HE nt st Q := fun _ _ _ _ hr => ⟨st, h, hr⟩
end Go.Hx
end
