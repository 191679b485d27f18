/- A part of the proof: Lw Hx26 Hx25 Ch1 Ch2 X1 X2 Ch3 X3 Ch4 Ch5 Ch6 Ch7 Ch8 Ch9 Ch10 Ch11 Ch12 Ch13 Ch14. -/
import Derived.Deep.DeepHandedRow
import Derived.OpenShut
import Derived.ProofKit
import Derived.Shelf.SlLaysF
import Derived.Shelf.SlSortCmp.NoneTotal
import Derived.Test.YtodligmokcbbkaaGreatDoorCards
import Derived.Test.YtodligmokcbbkaaGreatDoorProg
import Derived.Test.YtodligmokcbbkaaGreatDoorRows
import Derived.Test.YtodligmokcbbkaaGreatDoorTie
import Derived.WalkKit
import Derived.Test.YtodligmokcbbkaaGreatDoorRx16
import Derived.Test.YtodligmokcbbkaaGreatDoorRx17
import Derived.Test.YtodligmokcbbkaaGreatDoorRx19
import Derived.Test.YtodligmokcbbkaaGreatDoorRx20
import Derived.Test.YtodligmokcbbkaaGreatDoorRx21
set_option linter.all false
section
namespace Go.Hx
open Go.Proofs Go.ChangeShapes Go.WideShapes Go.ChangeAt Go.RowKit
theorem own:ownKnob Tryz.prog.godebug = none:=by kernel_rfl
theorem aqk : Tryz.prog.globalNamed "math/bits.deBruijn32tab" = some 0 := by kernel_rfl
theorem aj8:(Tryz.prog.globals[0]?).map (·.type) = some 115:=by kernel_rfl
theorem ake:Tryz.prog.cellsOf 115 = 32:=by kernel_rfl
theorem ap4:Tryz.prog.cellsOf 5 = 1:=by kernel_rfl
def a93:List Int:=[0,1,28,2,29,14,24,3,30,22,20,15,25,17,4,8,31,27,13,23,21,19,16,7,26,12,18,6,11,5,10,9]
theorem aun {W : World} (h : laidMetH Tryz.prog [("math/bits.deBruijn32tab", YtodligmokcbbkaaGreatDoor.Rows.laid_math_bits_deBruijn32tab)] W) : o8 (du W) := by
 have ht : Lib.TabIs Tryz.prog W "math/bits.deBruijn32tab" .u8 a93 := Lib.tabIs_of_head (rest := []) aqk aj8 Tryz.underlying115 Tryz.underlying5 ap4 ake h
 intro b off v hv
 unfold rh oe at hv
 split at hv
 · have hlt:off < 32:=by
    rcases Nat.lt_or_ge off 32 with h | h
    · exact h
    · rw [List.getElem?_eq_none (by simpa using h)] at hv;cases hv
   have hc:=ht.cell aqk off hlt
   have e:v = .int .u8 (a93.getD off 0):=by
    have:(a93.map fun z=>Value.int .u8 z)[off]? = some v:=hv
    rw [List.getElem?_map] at this
    rw [List.getD_eq_getElem?_getD]
    cases hz:a93[off]? with
    | none=>rw [hz] at this;cases this
    | some z=>rw [hz] at this;exact (Option.some.inj this).symm
   rw [e]
   unfold World.cell? at hc
   unfold gi du
   split at hc
   · rename_i c t fr hh
     rw [hh]
     simpa using hc
   · cases hc
 · cases hv
noncomputable def laidWorld (os:Os):World :=
 { World.holding Tryz.prog os ⟨#[],#[],[]⟩ with heap:=(World.holding Tryz.prog os ⟨#[],#[],[]⟩).heap.modify 0 fun
  | .cells _ t frozen=>.cells (a93.map fun z=>Value.int .u8 z).toArray t frozen
  | o=>o }
end Go.Hx
end
section
namespace Go.Hx
open Go.Proofs Go.Proofs.YtodligmokcbbkaaGreatDoor
open Go.RowKit Go.ChangeShapes Go.WideShapes Go.ChangeAt
section
variable {H:Type}
theorem adf {d:DataW H} {l:List (DataW H)} (h:d ∈ l):Rows.uptoBulk d ≤ Rows.uptoBulkAll l:=by
 induction l with
 | nil=>cases h
 | cons x r ih =>
  rw [Rows.uptoBulkAll]
  rcases List.mem_cons.1 h with e | e
  · subst e;omega
  · have:=ih e;omega
theorem ana (d:DataW H):1 ≤ Rows.uptoBulk d:=by
 cases d with
 | lit l=>cases l <;> simp [Rows.uptoBulk]
 | _=>simp [Rows.uptoBulk]
theorem ait (l:List (DataW H)):l.length ≤ Rows.uptoBulkAll l:=by
 induction l with
 | nil=>simp
 | cons x r ih=>have:=ana x;rw [Rows.uptoBulkAll,List.length_cons];omega
theorem aji {l r:List (DataW H)} {d:DataW H} (h:d ∈ l):Rows.uptoBulk d ≤ Rows.uptoBulk (.slice l r):=by
 have:=adf h
 rw [Rows.uptoBulk];omega
theorem ang {l:List (DataW H)} {d:DataW H} (h:d ∈ l):Rows.uptoBulk d ≤ Rows.uptoBulk (.agg l):=by
 have:=adf h
 rw [Rows.uptoBulk];omega
theorem anu (l r:List (DataW H)):l.length ≤ Rows.uptoBulk (.slice l r):=by
 have:=ait l
 rw [Rows.uptoBulk];omega
end
def RdB (P:Program) (t:TypeId) (n:Nat) {α:Type} (c:α → Nat → PV) (B:Nat → α → Prop):Prop :=
 ∀ (H:Type) (enc:TypeId × Value → H) (w:World) (sp:Nat → Bool) (held:Bool) (fuel:Nat) (cs:List Value) (x:DataW H × List MemPlace),DataW.trod enc P w 0 sp held fuel t cs = some x →
  cs.length = n ∧ ∃ a:α,B (Rows.uptoBulk x.1) a ∧ ∀ j,j < n → ∃ v,cs[j]? = some v ∧ b4 (du w) (c a j) v
section
variable {P:Program} {t e:TypeId}
theorem Rd.toB {n:Nat} {α:Type} {c:α → Nat → PV} (h:Rd P t n c):RdB P t n c fun _ _=>True:=by
 intro H enc w sp held fuel cs x hx
 obtain ⟨h1,a,h2⟩:=h _ enc w sp held fuel cs x hx
 exact ⟨h1,a,trivial,h2⟩
theorem RdB.co {n:Nat} {α β:Type} {c:α → Nat → PV} {c':β → Nat → PV} {B:Nat → α → Prop} {B':Nat → β → Prop} (h:RdB P t n c B) (f:α → β) (hB:∀ b a,B b a → B' b (f a)) (hc:∀ a j,j < n → CoP (c a j) (c' (f a) j)):RdB P t n c' B':=by
 intro H enc w sp held fuel cs x hx
 obtain ⟨h1,a,h0,h2⟩:=h _ enc w sp held fuel cs x hx
 refine ⟨h1,f a,hB _ _ h0,fun j hj=>?_⟩
 obtain ⟨v,h3,h4⟩:=h2 j hj
 exact ⟨v,h3,hc a j hj _ _ h4⟩
theorem a6r {s:Nat} {α:Type} [Inhabited α] {c:α → Nat → PV} {B:Nat → α → Prop} (mono:∀ b b' x,b ≤ b' → B b x → B b' x) (ht:P.underlying t = some (.slice e)) (hc:P.cellsOf e = s) (hs:0 < s) (h:RdB P e s c B):RdB P t 1 (aaf s c) (fun b l=>l.length ≤ b ∧ ∀ i,i < l.length → B b (l.getD i default)):=by
 classical
 intro H enc w sp held fuel cs x hx
 rcases DataW.trod_slice ht hx with ⟨rfl,_⟩ | ⟨a,len,cap,elems,rest,n,rfl,rfl,rfl,hb,hl,hm,hlen,hel,_,_⟩
 · refine ⟨rfl,[],⟨Nat.zero_le _,fun i hi=>absurd hi (Nat.not_lt_zero i)⟩,fun j hj=>?_⟩
   obtain rfl:j = 0:=by omega
   exact ⟨_,rfl,none,0,rfl,Nat.le_refl _,Nat.zero_le _,(fun hh=>by cases hh),fun hh=>absurd hh (Nat.lt_irrefl 0)⟩
 · have each:∀ i,i < len → ∃ q:α,B (Rows.uptoBulk (DataW.slice (elems.map (·.1)) (rest.map (·.1)))) q ∧ ∀ j,j < s → ∃ v,w.cell? (a.add (i * s + j)) = some v ∧ b4 (du w) (c q j) v:=by
    intro i hi
    have h1:=hel i hi
    rw [hc] at h1
    rw [List.getElem?_eq_getElem (by omega)] at h1
    obtain ⟨cs',h2,h3⟩:=Option.bind_eq_some_iff.1 h1
    obtain ⟨_,h4,h5⟩:=World.cells?_some h2
    obtain ⟨_,q,h9,h6⟩:=h _ enc w sp held n cs' _ h3
    refine ⟨q,mono _ _ q (aji (List.mem_map_of_mem (List.getElem_mem _))) h9,fun j hj=>?_⟩
    obtain ⟨v,h7,h8⟩:=h6 j hj
    refine ⟨v, ?_,h8⟩
    have:=h5 j hj
    rw [h7] at this
    rw [← this]
    congr 1
    unfold Addr.add
    by_cases hj0:j = 0
    · subst hj0
      simp
    · by_cases hi0:i * s = 0
      · simp [hi0,hj0]
      · have:¬ (i * s + j = 0):=by omega
        simp only [hj0,hi0,this,if_false]
        congr 1
        omega
   refine ⟨rfl,(List.range len).map fun i=>if hi:i < len then Classical.choose (each i hi) else default,⟨?_,fun i hi=>?_⟩,fun j hj=>?_⟩
   · rw [List.length_map,List.length_range,← hlen]
     have:=anu (elems.map (·.1)) (rest.map (·.1))
     rw [List.length_map] at this
     exact this
   · have hi:i < len:=by simpa using hi
     have hch:=(Classical.choose_spec (each i hi)).1
     have e:((List.range len).map fun i=>if hi:i < len then Classical.choose (each i hi) else default).getD i default = Classical.choose (each i hi):=by simp [List.getD,hi]
     rw [e]
     exact hch
   obtain rfl:j = 0:=by omega
   refine ⟨_,rfl,some a,cap,by simp,by simpa using hl,hm,(fun hh=>by cases hh),fun hn=>?_⟩
   have hn:0 < len:=by simpa using hn
   have hspot:a.spot = none:=by
    obtain ⟨q,_,hq⟩:=each 0 hn
    obtain ⟨v,hv,_⟩:=hq 0 hs
    have:a.add (0 * s + 0) = a:=by simp [Addr.add]
    rw [this] at hv
    unfold World.cell? at hv
    split at hv
    · split at hv
      · cases hv
      · rename_i hsp
        simpa using hsp
    · cases hv
   refine ⟨a.block,a.off, ?_,fun i j hi hj=>?_⟩
   · obtain ⟨b,o,spo⟩:=a
     simp only at hspot
     subst hspot
     rfl
   · have hi:i < len:=by simpa using hi
     have hch:=(Classical.choose_spec (each i hi)).2
     obtain ⟨v,hv,hr⟩:=hch j hj
     refine ⟨v, ?_, ?_⟩
     · unfold World.cell? at hv
       have hblk:(a.add (i * s + j)).block = a.block:=by unfold Addr.add;split <;> rfl
       have hoff:(a.add (i * s + j)).off = a.off + (i * s + j):=by
        unfold Addr.add
        split
        · rename_i h0;rw [h0];rfl
        · rfl
       rw [hblk,hoff] at hv
       unfold gi du
       split at hv
       · rename_i hb'
         rw [hb']
         split at hv
         · cases hv
         · exact hv
       · cases hv
     · have:lf c ((List.range len).map fun i=>if hi:i < len then Classical.choose (each i hi) else default) i j = c (Classical.choose (each i hi)) j:=by
        unfold lf
        simp [List.getD,hi]
       rw [this]
       exact hr
theorem xm {H:Type} {enc:TypeId × Value → H} {w:World} {sp:Nat → Bool} {held:Bool} {fuel:Nat} {cs:List Value} {x:DataW H × List MemPlace} {fs:Array Field} (ht:P.underlying t = some (.struct fs)) (h:DataW.trod enc P w 0 sp held fuel t cs = some x) :
 cs.length = P.cellsOf t ∧ ∃ n,∀ (i:Nat) (f:Field),fs[i]? = some f → ∃ y,DataW.trod enc P w 0 sp held n f.type ((cs.drop f.offset).take (P.cellsOf f.type)) = some y ∧ Rows.uptoBulk y.1 ≤ Rows.uptoBulk x.1:=by
 obtain ⟨xs,n,_,rfl,h1,h2,h3⟩:=DataW.trod_struct ht h
 refine ⟨h1,n,fun i f hf=>?_⟩
 have:=h3 i f hf
 rw [this]
 have hi:i < xs.length:=by rw [h2];exact (Array.getElem?_eq_some_iff.1 hf).1
 exact ⟨_,List.getElem?_eq_getElem hi,ang (List.mem_map_of_mem (List.getElem_mem hi))⟩
theorem jp {H:Type} {enc:TypeId × Value → H} {w:World} {sp:Nat → Bool} {held:Bool} {n off s b:Nat} {ft:TypeId} {cs:List Value} {y:DataW H × List MemPlace} {α:Type} {c:α → Nat → PV} {B:Nat → α → Prop} (mono:∀ b b' x,b ≤ b' → B b x → B b' x) (h:RdB P ft s c B)
 (hy:DataW.trod enc P w 0 sp held n ft ((cs.drop off).take (P.cellsOf ft)) = some y ∧ Rows.uptoBulk y.1 ≤ b) :
 ∃ a:α,B b a ∧ ∀ j,j < s → ∃ v,cs[off + j]? = some v ∧ b4 (du w) (c a j) v:=by
 obtain ⟨h1,a,h0,h2⟩:=h _ enc w sp held n _ y hy.1
 refine ⟨a,mono _ _ a hy.2 h0,fun j hj=>?_⟩
 obtain ⟨v,h3,h4⟩:=h2 j hj
 refine ⟨v, ?_,h4⟩
 rw [List.getElem?_take] at h3
 split at h3
 · rwa [List.getElem?_drop] at h3
 · cases h3
end
section
variable {P:Program} {t e:TypeId}
theorem ab1 {m:Imm} {c:Nat → PV}:∀ {n:Nat} {us:List Value} {k:Nat},us.length = n → (∀ j,j < n → ∃ v,us[j]? = some v ∧ b4 m (c (k + j)) v) → dt m ((List.range' k n).map c) us
 | 0,[],_,_,_=>trivial
 | n + 1,u :: us,k,hl,h=>by
  obtain ⟨v,h1,h2⟩:=h 0 (by omega)
  simp only [List.getElem?_cons_zero,Option.some.injEq] at h1
  subst h1
  refine ⟨h2,ab1 (n:=n) (k:=k + 1) (by simpa using hl) fun j hj=>?_⟩
  obtain ⟨v,h3,h4⟩:=h (j + 1) (by omega)
  refine ⟨v,by simpa using h3, ?_⟩
  rwa [show k + 1 + j = k + (j + 1) by omega]
 | 0,_ :: _,_,h,_=>by cases h
 | _ + 1,[],_,h,_=>by cases h
theorem ad9 {H:Type} {enc:TypeId × Value → H} {W:World} {cs:Array Value} {d:DataW H} {ps:List MemPlace} {n:Nat} {α:Type} {c:α → Nat → PV} {B:Nat → α → Prop} (h:RdB P t n c B) (hd:DataW.Trod enc P W 0 (fun _=>true) true t (.agg cs) d ps) :
 ∃ a:α,B (Rows.uptoBulk d) a ∧ j0 (du W) (.agg ((List.range' 0 n).map (c a))) (.agg cs):=by
 obtain ⟨fuel,hf⟩:=hd
 obtain ⟨hl,a,h0,ha⟩:=h _ enc W _ _ fuel _ _ hf
 refine ⟨a,h0,cs.toList,by simp,ab1 hl fun j hj=>?_⟩
 rw [Nat.zero_add]
 exact ha j hj
end
end Go.Hx
end
section
namespace Go.Hx
open Go.RowKit
section
variable {w0:World} {nt:Nat} {c:Ctx} {s:S} {a:Act} {w:World}
def axm (m:Nat → Nat) (n k:Nat):Nat → Nat:=fun i=>bif Nat.beq i n then k else m i
def axc (g:Nat → Nat → Nat → PV) (n:Nat) (f:Nat → Nat → PV):Nat → Nat → Nat → PV:=fun i=>bif Nat.beq i n then f else g i
def axp (es:Nat) (m:Nat → Nat) (g:Nat → Nat → Nat → PV):Nat → Nat → PV:=fun i _=>.sl (m i) es false (g i)
open Classical in
noncomputable def thinImm (c:Ctx) (w:World) (id n:Nat):Imm:=fun b=>if ∃ i,i < n ∧ br (c.rows id i) = some b then w.heap[b]? else c.imm b
end
section
variable {ro:Option Nat} {P:Program} {nt:Nat} {st:HSt} {Q:Exit → HSt → Prop}
end
end Go.Hx
end
section
namespace Go.Hx
abbrev Rw:=List Int
def ltZ:Rw → Rw → Bool
 | [],[]=>false
 | [],_ :: _=>true
 | _ :: _,[]=>false
 | x :: a,y :: b=>if x = y then ltZ a b else decide (x < y)
theorem a0y:∀ a:Rw,ltZ a a = false
 | []=>rfl
 | x :: a=>by unfold ltZ;rw [if_pos rfl];exact a0y a
theorem te:∀ {a b c:Rw},ltZ a b = true → ltZ b c = true → ltZ a c = true
 | [],[],_,h,_=>by cases h
 | [],_ :: _,[],_,k=>by cases k
 | [],_ :: _,_ :: _,_,_=>rfl
 | _ :: _,[],_,h,_=>by cases h
 | _ :: _,_ :: _,[],_,k=>by cases k
 | x :: a,y :: b,z :: c,h,k=>by
  unfold ltZ at *
  by_cases hxy:x = y
  · rw [if_pos hxy] at h
    subst hxy
    by_cases hyz:x = z
    · rw [if_pos hyz] at k ⊢
      exact te h k
    · rw [if_neg hyz] at k ⊢
      exact k
  · rw [if_neg hxy] at h
    have h:=of_decide_eq_true h
    by_cases hyz:y = z
    · subst hyz
      rw [if_neg hxy]
      exact decide_eq_true h
    · rw [if_neg hyz] at k
      have k:=of_decide_eq_true k
      rw [if_neg (by omega)]
      exact decide_eq_true (by omega)
theorem acu:∀ {a b:Rw},a ≠ b → ltZ a b = true ∨ ltZ b a = true
 | [],[],h=>absurd rfl h
 | [],_ :: _,_=>.inl rfl
 | _ :: _,[],_=>.inr rfl
 | x :: a,y :: b,h=>by
  unfold ltZ
  by_cases hxy:x = y
  · subst hxy
    rw [if_pos rfl,if_pos rfl]
    exact acu fun e=>h (by rw [e])
  · rw [if_neg hxy,if_neg (Ne.symm hxy),decide_eq_true_iff,decide_eq_true_iff]
    omega
def zC:Int → Nat → PV:=fun z _=>.raw (.int .i64 z)
abbrev zl (r:Rw):PV:=psl 1 zC r
def rC:Rw → Nat → PV:=fun r _=>zl r
abbrev rl (l:List Rw):PV:=psl 1 rC l
theorem ajy {a b:Rw} (h:ltZ a b = true):ltZ b a = false:=by
 rw [Bool.eq_false_iff]
 intro k
 have:=te h k
 rw [a0y] at this
 cases this
def lw (l:List Rw):Prop:=l.Pairwise fun a b=>ltZ a b = true
theorem a1n:∀ {l k:List Rw},lw l → lw k → (∀ x,x ∈ l ↔ x ∈ k) → l = k
 | [],[],_,_,_=>rfl
 | [],y :: k,_,_,h=>absurd ((h y).2 (List.mem_cons_self ..)) (by simp)
 | x :: l,[],_,_,h=>absurd ((h x).1 (List.mem_cons_self ..)) (by simp)
 | x :: l,y :: k,hl,hk,h=>by
  obtain ⟨h1,h2⟩:=List.pairwise_cons.1 hl
  obtain ⟨k1,k2⟩:=List.pairwise_cons.1 hk
  have e:x = y:=by
   rcases List.mem_cons.1 ((h x).1 (List.mem_cons_self ..)) with e | hx
   · exact e
   · rcases List.mem_cons.1 ((h y).2 (List.mem_cons_self ..)) with e | hy
     · exact e.symm
     · have:=ajy (k1 x hx)
       rw [h1 y hy] at this
       cases this
  subst e
  congr 1
  refine a1n h2 k2 fun z=>?_
  constructor
  · intro hz
    rcases List.mem_cons.1 ((h z).1 (List.mem_cons_of_mem _ hz)) with e | hz'
    · subst e
      have:=h1 z hz
      rw [a0y] at this
      cases this
    · exact hz'
  · intro hz
    rcases List.mem_cons.1 ((h z).2 (List.mem_cons_of_mem _ hz)) with e | hz'
    · subst e
      have:=k1 z hz
      rw [a0y] at this
      cases this
    · exact hz'
def ip (x:Rw):List Rw → List Rw
 | []=>[x]
 | y :: l=>if x = y then y :: l else if ltZ x y = true then x :: y :: l else y :: ip x l
theorem a2z {x z:Rw}:∀ {l:List Rw},z ∈ ip x l ↔ z = x ∨ z ∈ l
 | []=>by simp [ip]
 | y :: l=>by
  unfold ip
  split
  · rename_i e
    subst e
    simp
  · split
    · simp
    · rw [List.mem_cons,a2z,List.mem_cons]
      constructor
      · rintro (h | h | h) <;> simp [h]
      · rintro (h | h | h) <;> simp [h]
theorem a6n {x:Rw}:∀ {l:List Rw},lw l → lw (ip x l)
 | [],_=>by simp [ip,lw]
 | y :: l,h=>by
  obtain ⟨h1,h2⟩:=List.pairwise_cons.1 h
  unfold ip
  split
  · exact h
  · split
    · rename_i hxy
      refine List.pairwise_cons.2 ⟨fun z hz=>?_,h⟩
      rcases List.mem_cons.1 hz with rfl | hz
      · exact hxy
      · exact te hxy (h1 z hz)
    · rename_i hne hxy
      refine List.pairwise_cons.2 ⟨fun z hz=>?_,a6n h2⟩
      rcases a2z.1 hz with rfl | hz
      · exact (acu hne).resolve_left hxy
      · exact h1 z hz
def db (l:List Rw):List Rw:=l.foldl (fun o x=>ip x o) []
theorem y9:∀ {l o:List Rw},lw o → lw (l.foldl (fun o x=>ip x o) o) ∧ ∀ z,z ∈ l.foldl (fun o x=>ip x o) o ↔ z ∈ o ∨ z ∈ l
 | [],o,h=>⟨h,fun z=>by simp⟩
 | x :: l,o,h=>by
  obtain ⟨h1,h2⟩:=y9 (l:=l) (a6n (x:=x) h)
  refine ⟨h1,fun z=>?_⟩
  show z ∈ l.foldl (fun o x=>ip x o) (ip x o) ↔ _
  rw [h2 z,a2z,List.mem_cons]
  constructor
  · rintro ((h | h) | h) <;> simp [h]
  · rintro (h | h | h) <;> simp [h]
theorem ny (l:List Rw):lw (db l):=(y9 (o:=[]) List.Pairwise.nil).1
theorem fe {l:List Rw} {z:Rw}:z ∈ db l ↔ z ∈ l:=by
 show z ∈ l.foldl (fun o x=>ip x o) [] ↔ _
 rw [(y9 (l:=l) (o:=[]) List.Pairwise.nil).2 z]
 simp
theorem alf {l k:List Rw} (hk:lw k) (h:∀ z,z ∈ k ↔ z ∈ l):k = db l:=a1n hk (ny l) fun z=>by rw [h z,fe]
def ayn (l:List Rw) (k:Nat) (r:Rw):List Rw:=l.take k ++ r :: l.drop k
theorem ab7 (x:Rw):∀ l:List Rw,(ip x l).length ≤ l.length + 1
 | []=>by simp [ip]
 | y :: l=>by
  unfold ip
  have:=ab7 x l
  split
  · simp
  · split
    · simp
    · simp only [List.length_cons];omega
theorem ahu (l:List Rw):(db l).length ≤ l.length:=by
 have:∀ (l o:List Rw),(l.foldl (fun o x=>ip x o) o).length ≤ o.length + l.length:=by
  intro l
  induction l with
  | nil=>intro o;simp
  | cons x l ih =>
   intro o
   have h1:=ih (ip x o)
   have h2:=ab7 x o
   simp only [List.foldl_cons,List.length_cons]
   omega
 have h:=this l []
 simpa [db] using h
end Go.Hx
end
section
namespace Go.Hx
abbrev pZ (r:Rw):PC:=.one (zl r)
abbrev pR (l:List Rw):PC:=.one (rl l)
abbrev pT (n:Int) (l:List Rw):PC:=.agg [.raw (.int .i64 n),rl l]
def ayv (a b:Rw):Int:=if a = b then 0 else if ltZ a b = true then -1 else 1
def uj (a b:Rw) (s:AS):Bool:=decide (∀ i:Nat,i < a.length → (dl s (i:Int) = true → a.getD i default = b.getD i default))
theorem ab3 {a b:Rw} {s:AS} (h:∀ i:Nat,i < a.length → (dl s (i:Int) = true → a.getD i default = b.getD i default)):uj a b s = true:=decide_eq_true h
def zw (n:Int) (l:List Rw) (i:Nat):Bool:=decide (((l.getD i default).length:Int) = n) && !(l.getD i default).any (fun x=>decide (x < 0)) && (decide (i = 0) || ltZ (l.getD (i - 1) default) (l.getD i default))
def tok (n:Int) (l:List Rw):Bool:=decide (0 ≤ n ∧ n ≤ 16 ∧ l.length ≤ 256) && decide (∀ i,i < l.length → zw n l i = true)
theorem at5 {n:Int} {l:List Rw} (h0:0 ≤ n) (h1:n ≤ 16) (h2:l.length ≤ 256) (h:∀ i,i < l.length → zw n l i = true):tok n l = true:=by
 unfold tok
 rw [decide_eq_true (show 0 ≤ n ∧ n ≤ 16 ∧ l.length ≤ 256 from ⟨h0,h1,h2⟩),decide_eq_true h]
 rfl
def go (a b:Rw) (s:AS):Rw:=(List.range b.length).map fun (i:Nat)=>if dl s (i:Int) = true then a.getD i default else b.getD i default
end Go.Hx
end
section
namespace Go.Hx
open Go.Proofs
set_option maxRecDepth 100000
theorem arj:ak Tryz.prog 54:=⟨Tryz.f54,Tryz.func54,by kernel_rfl,by kernel_rfl⟩
theorem aso:ak Tryz.prog 30:=⟨Tryz.f30,Tryz.func30,by kernel_rfl,by kernel_rfl⟩
end Go.Hx
end
section
namespace Go.Hx
open Go.Proofs
set_option maxRecDepth 100000
abbrev bxZ (a:PV):PV:=.vp 1 fun j=>[a].getD j .any
end Go.Hx
end
section
namespace Go.Hx
def fp (n:Int) (l m:List Fd):Int:=if dy n l = 0 then (if 64 < m.length then 3 else if m.all (inU n) = true then 0 else 1) else dy n l
section
variable {n:Int} {l m:List Fd}
theorem aq9 (h:¬ dy n l = 0):dy n l = fp n l m:=by unfold fp;rw [if_neg h]
theorem as5 (h:dy n l = 0) (h2:64 < m.length):3 = fp n l m:=by unfold fp;rw [if_pos h,if_pos h2]
theorem asc {i:Nat} (h:dy n l = 0) (h2:¬ 64 < m.length) (hi:i < m.length) (hu:¬ inU n (m.getD i default) = true):1 = fp n l m:=by
 unfold fp
 rw [if_pos h,if_neg h2,if_neg (fun e=>absurd (aev (l:=m) (p:=inU n) hi (Bool.eq_false_iff.2 hu)) (by rw [e];decide))]
theorem apq (h:dy n l = 0) (h2:¬ 64 < m.length) (hu:∀ j,j < m.length → inU n (m.getD j default) = true):0 = fp n l m:=by
 unfold fp
 rw [if_pos h,if_neg h2,if_pos (adp hu)]
theorem a0n (h:fp n l m = 0):0 ≤ n ∧ n ≤ 16 ∧ l.length ≤ 64 ∧ l.all (inU n) = true ∧ m.length ≤ 64 ∧ m.all (inU n) = true:=by
 unfold fp at h
 by_cases h1:dy n l = 0
 · rw [if_pos h1] at h
   obtain ⟨a,b,c,d⟩:=ach h1
   by_cases h2:64 < m.length
   · rw [if_pos h2] at h;omega
   · rw [if_neg h2] at h
     by_cases h3:m.all (inU n) = true
     · exact ⟨a,b,c,d,by omega,h3⟩
     · rw [if_neg h3] at h;omega
 · rw [if_neg h1] at h;exact absurd h h1
end
theorem arb {n:Int} {l:List Rw} {i:Nat} (h1:((l.getD i default).length:Int) = n) (h2:(l.getD i default).any (fun x=>decide (x < 0)) = false) (h3:i = 0 ∨ ltZ (l.getD (i - 1) default) (l.getD i default) = true):zw n l i = true:=by
 unfold zw
 rw [decide_eq_true h1,h2]
 rcases h3 with h3 | h3
 · rw [decide_eq_true h3];rfl
 · rw [h3];simp
end Go.Hx
end
section
namespace Go.Hx
open Go.Proofs
set_option maxRecDepth 100000
theorem ags:ak Tryz.prog 35:=⟨Tryz.f35,Tryz.func35,by kernel_rfl,by kernel_rfl⟩
theorem ade (n:Int) (s:AS):aj Tryz.prog 35 [pI n,pA s] (ao [pB (decide (sub s (am n)))]):=by
 refine ai (nt:=9) ae Tryz.func35 rfl rfl l9 ?_;refine sx7 ?_;refine qy ?_;refine a6 ?_;refine sx7 ?_;(iterate 2 refine qy ?_);refine rc rfl rfl rfl rfl rfl rfl a9s (ab5 n) (CoL.refl _) rfl rfl ?_
 refine rc rfl rfl rfl rfl rfl rfl apt (au4 _ _) (CoL.refl _) rfl rfl ?_;refine qy ?_;refine a6 ?_
 exact hx8 rfl rfl rfl (CoL.refl _)
theorem ahm:ak Tryz.prog 38:=⟨Tryz.f38,Tryz.func38,by kernel_rfl,by kernel_rfl⟩
theorem acl (n:Int) (l m:List Fd):aj Tryz.prog 38 [pI n,pP (fdl l),pP (fdl m)] (ao [pI (fp n l m)]):=by
 refine ai (nt:=34) ae Tryz.func38 rfl rfl l9 ?_;refine a7 ?_
 refine j1 2 rfl fun hn2=>?_
 refine gy ?_;refine qy ?_;refine a6 ?_;refine a7 ?_;refine sx7 ?_;(iterate 2 refine qy ?_);refine rc rfl rfl rfl rfl rfl rfl aox (aqi n l) (CoL.refl _) rfl rfl ?_;refine qy ?_;refine a6 ?_;refine sx7 ?_
 (iterate 2 refine qy ?_);refine a6 ?_;refine a8 _ rfl (fun r0=>?_) (fun r0=>?_)
 ·
  have h0:=r0
  have h0:=of_decide_eq_false (b7 h0)
  try simp only [ty] at h0
  refine sx7 ?_;(iterate 2 refine qy ?_);refine a6 ?_
  exact hx8 rfl rfl rfl (⟨cci (aq9 (by assumption)),trivial⟩)
 ·
  have h0:=r0
  have h0:=of_decide_eq_true (b6 h0)
  try simp only [ty] at h0
  have hv0:dy n l = 0:=by assumption
  obtain ⟨hn0,hn16,_,_⟩:=ach hv0
  refine aa ?_;refine a7 ?_;refine sx7 ?_;(iterate 3 refine qy ?_);refine a6 ?_;refine a8 _ rfl (fun r1=>?_) (fun r1=>?_)
  ·
   have h1:=of_decide_eq_true r1
   try simp only [ty] at h1
   refine sx7 ?_;refine qy ?_;refine a6 ?_
   exact hx8 rfl rfl rfl (⟨cci (as5 hv0 (by omega)),trivial⟩)
  ·
   have h1:=of_decide_eq_false r1
   try simp only [ty] at h1
   refine aa ?_;refine cr (ι:=Unit) ⟨[],[]⟩ ⟨trivial,trivial⟩ (fun _i=>⟨[],[]⟩) (fun _i=>∀ j,j < m.length → inU n (m.getD j default) = true) ?_ ?_
   ·
    refine sx7 ?_;(iterate 3 refine qy ?_);refine a6 ?_;refine af ?_
    refine aw (ι:=Nat) ⟨[(0,some _),(19,some _),(20,some _)],[]⟩ ⟨⟨c9,c9,c9,trivial⟩,trivial⟩ (fun i=>⟨[(21,some (vI i))],[]⟩) (fun i=>i ≤ m.length ∧ (∀ j,j < i → inU n (m.getD j default) = true)) (fun i=>m.length - i) (0) (⟨Nat.zero_le _,dq⟩) ⟨⟨zy,trivial⟩,trivial⟩ ?_
    rintro i ⟨hi,hI⟩
    refine sx7 ?_;refine qy ?_;refine a6 ?_;refine a7 ?_;refine a8 _ rfl (fun r2=>?_) (fun r2=>?_)
    ·
     have h2:=of_decide_eq_true r2
     try simp only [ty] at h2
     refine aa ?_;refine a7 ?_;refine af ?_;refine sx7 ?_;(iterate 2 refine qy ?_);refine m9 0 ?_;refine s9 ?_;refine a6 ?_;refine sx7 ?_;(iterate 8 refine qy ?_);refine a6 ?_
     refine a8 _ rfl (fun r3=>?_) (fun r3=>?_)
     ·
      have h3:=r3
      have h3:=of_decide_eq_false (b7 h3)
      try simp only [ty] at h3
      refine sx7 ?_;refine qy ?_;refine a6 ?_
      exact hx8 rfl rfl rfl (⟨cci (asc (i:=i) hv0 (by omega) (by omega) (fun e=>absurd (ng.2 e) (by assumption))),trivial⟩)
     ·
      have h3:=r3
      have h3:=of_decide_eq_true (b6 h3)
      try simp only [ty] at h3
      refine aa ?_;refine gy ?_;(iterate 2 refine qy ?_);refine a6 ?_;refine ⟨i + 1, ?_, ?_, ?_⟩
      · exact ⟨by show i + 1 ≤ _;omega,cu hI (ng.1 (by assumption))⟩
      · first | omega | (dsimp only;omega)
      · exact ⟨⟨zy,c9,c9,c9,trivial⟩,trivial⟩
    ·
     have h2:=of_decide_eq_false r2
     try simp only [ty] at h2
     refine az ?_;refine ⟨(), ?_, ?_⟩
     · exact fun j hj=>hI j (by omega)
     · exact ⟨trivial,trivial⟩
   · rintro _ hj
     refine sx7 ?_;refine qy ?_;refine a6 ?_
     exact hx8 rfl rfl rfl (⟨cci (apq hv0 (by omega) hj),trivial⟩)
end Go.Hx
end
section
namespace Go.Hx
def ayh (a b:Rw) (s:AS) (i:Nat):Rw:=(List.range b.length).map fun (j:Nat)=>if j < i ∧ dl s (j:Int) = true then a.getD j default else b.getD j default
theorem oh (a b:Rw) (s:AS):(go a b s).length = b.length:=by unfold go;simp
end Go.Hx
end
section
namespace Go.Hx
open Go.Proofs Go.RowKit Go.Sort
set_option maxRecDepth 100000
structure CpZ (l:List Rw) (k p q:Nat) (m:List Rw):Prop where
 len:m.length = l.length
 kq:k < q
 pq:p < q
 ql:q ≤ l.length
 pre:m.take p = ml (l.take q)
 high:∀ j,q - 1 ≤ j → m.getD j default = l.getD j default
theorem CpZ.start {l:List Rw} {k:Nat} (h1:1 ≤ k) (hk:k < l.length) (h:∀ j,0 < j → j < k → ¬ l.getD j default = l.getD (j - 1) default) (hd:l.getD k default = l.getD (k - 1) default):CpZ l k k (k + 1) l :=
 ⟨rfl,by omega,by omega,by omega,by rw [gr (by omega) hk,if_pos hd.symm,List.append_nil,sb (by omega) h],fun _ _=>rfl⟩
theorem CpZ.skip {l:List Rw} {k p q:Nat} {m:List Rw} (h:CpZ l k p q m) (hq:q < l.length) (he:m.getD q default = m.getD (q - 1) default):CpZ l k p (q + 1) m:=by
 have hk:=h.kq
 refine ⟨h.len,by omega,by have:=h.pq;omega,hq, ?_,fun j hj=>h.high j (by omega)⟩
 rw [h.high q (by omega),h.high (q - 1) (by omega)] at he
 rw [gr (by omega) hq,if_pos he.symm,List.append_nil,h.pre]
theorem CpZ.keep {l:List Rw} {k p q:Nat} {m:List Rw} (h:CpZ l k p q m) (hq:q < l.length) (he:¬ m.getD q default = m.getD (q - 1) default):CpZ l k (p + 1) (q + 1) (m.set p (m.getD q default)):=by
 have hk:=h.kq
 have hp:=h.pq
 have hl:=h.len
 refine ⟨by simp [hl],by omega,by omega,hq, ?_,fun j hj=>by rw [getD_set_ne' (by omega)];exact h.high j (by omega)⟩
 have e:=h.high q (by omega)
 rw [e,h.high (q - 1) (by omega)] at he
 rw [gr (by omega) hq,if_neg (fun e=>he e.symm),← h.pre,bh (by simp [hl];omega),kf (by omega),e]
 congr 1
 rw [List.take_set,List.set_eq_of_length_le (by simp;omega)]
def srZ (l:List Rw):List Rw:=l.mergeSort fun x y=>!ltZ y x
theorem amy {l:List Rw} {r:Rw} (h:(l.any fun x=>decide (x = r)) = false):r ∉ l:=fun e=>by
 rw [List.any_eq_false] at h
 exact h r e (decide_eq_true rfl)
end Go.Hx
end
section
namespace Go.Hx
abbrev nM (l:List Rw):Nat → Nat:=fun i=>(l.getD i default).length
abbrev tq (l:List Rw):Nat → Nat → Int:=fun i r=>(l.getD i default).getD r default
abbrev mg (M:Nat → Nat → Int):Nat → Nat → Nat → PV:=fun i r _=>.raw (.int .i64 (M i r))
abbrev hiI (x y:Int):Int:=if x < y then y else x
abbrev loI (x y:Int):Int:=if y < x then y else x
def ayu (M:Nat → Nat → Int) (hi lo:Int) (i k:Nat):Nat → Nat → Int:=fun i' r=>if (i' < i ∨ (i' = i ∧ r < k)) ∧ M i' r = hi then lo else M i' r
def eqM (M:Nat → Nat → Int) (a b j:Nat):Nat → Nat → Int:=fun i r=>if M i r = hiI (M a j) (M b j) then loI (M a j) (M b j) else M i r
def eqMs (M:Nat → Nat → Int) (a b:Nat) (js:List Nat):Nat → Nat → Int:=js.foldl (fun M j=>eqM M a b j) M
def fj (l:List Rw) (M:Nat → Nat → Int):List Rw:=(List.range l.length).map fun i=>(List.range (l.getD i default).length).map (M i)
theorem xg (l:List Rw) (M:Nat → Nat → Int):(fj l M).length = l.length:=by unfold fj;simp
theorem ah5 {l:List Rw} {M:Nat → Nat → Int} {i:Nat} (h:i < l.length):(fj l M).getD i default = (List.range (l.getD i default).length).map (M i):=by
 unfold fj
 rw [List.getD_eq_getElem?_getD,List.getElem?_map,List.getElem?_range h]
 rfl
theorem ak7 {M:Nat → Nat → Int} {a b j:Nat} (h:M a j = M b j):eqM M a b j = M:=by
 funext i r
 unfold eqM
 have e1:hiI (M a j) (M b j) = M b j:=by unfold hiI;rw [if_neg (by omega),h]
 have e2:loI (M a j) (M b j) = M b j:=by unfold loI;rw [if_neg (by omega),h]
 rw [e1,e2]
 by_cases e:M i r = M b j
 · rw [if_pos e,e]
 · rw [if_neg e]
end Go.Hx
end
section
namespace Go.Hx
def zh (n:Int) (l:List Rw) (row:Rw):Int × List Rw × Int:=if 256 < (db (l ++ [row])).length then (0,[],3) else (n,db (l ++ [row]),0)
def fdE (n:Int) (l:List Rw) (a b:Nat) (x:Fd):Int × List Rw × Int:=if uj (l.getD a default) (l.getD b default) x.lhs = true then (n,db (fj l (eqMs (tq l) a b (bj x.rhs))),0) else (0,[],1)
def mvE (n:Int) (l:List Rw) (a b:Nat) (x:Fd):Int × List Rw × Int:=if uj (l.getD a default) (l.getD b default) x.lhs = true then zh n l (go (l.getD a default) (l.getD b default) (x.lhs ||| x.rhs)) else (0,[],1)
theorem vm {n:Int} {l:List Rw} (h:tok n l = true):0 ≤ n ∧ n ≤ 16 ∧ l.length ≤ 256 ∧ ∀ i,i < l.length → (l.getD i default).length = n.toNat:=by
 unfold tok at h
 rw [Bool.and_eq_true,decide_eq_true_iff,decide_eq_true_iff] at h
 obtain ⟨⟨h0,h1,h2⟩,h3⟩:=h
 refine ⟨h0,h1,h2,fun i hi=>?_⟩
 have:=h3 i hi
 unfold zw at this
 rw [Bool.and_eq_true,Bool.and_eq_true,decide_eq_true_iff] at this
 omega
theorem ad4 {n:Int} (h0:0 ≤ n) (h1:n ≤ 16) {x:Fd} (h:inU n x = true) {j:Nat} (hj:j ∈ bj x.rhs):j < n.toNat:=by
 obtain ⟨_,h3⟩:=(vd h0 h1).1 h
 obtain ⟨h4,h5⟩:=jr.1 hj
 have h6:x.rhs >>> n.toNat = 0:=(wt (n:=n.toNat) (by omega)).1 (by unfold am at h3;rwa [Nat.min_eq_left (by omega)] at h3)
 rcases Nat.lt_or_ge j n.toNat with h | h
 · exact h
 · rw [apd.1 h6 j h4 h] at h5;cases h5
end Go.Hx
end
section
namespace Go.Hx
def vj (P:Nat → Nat → Nat → Bool) (I L:Nat):Option (Nat × Nat × Nat) :=
 (List.range I).findSome? fun i=>(List.range L).findSome? fun a=>((List.range L).find? fun b=>P i a b).map fun b=>(i,a,b)
def u7 (l:List Rw) (x:Fd) (a b:Nat):Bool:=uj (l.getD a default) (l.getD b default) x.lhs && !uj (l.getD a default) (l.getD b default) x.rhs
def qp (l:List Rw) (x:Fd) (a b:Nat):Bool:=uj (l.getD a default) (l.getD b default) x.lhs && !(l.any fun r=>decide (r = go (l.getD a default) (l.getD b default) (x.lhs ||| x.rhs)))
section
variable {l:List Rw} {x:Fd} {a b:Nat}
end
abbrev St:=Bool × Nat × Nat × Nat
abbrev St.pc (s:St):PC:=.agg [.raw (.bool s.1), .raw (.int .i64 (s.2.1:Int)), .raw (.int .i64 (s.2.2.1:Int)), .raw (.int .i64 (s.2.2.2:Int))]
def o3 (l:List Rw) (p m:List Fd):Option St :=
 match vj (fun i a b=>u7 l (p.getD i default) a b) p.length l.length with
 | some x=>some (false,x)
 | none=>(vj (fun i a b=>qp l (m.getD i default) a b) m.length l.length).map fun x=>(true,x)
end Go.Hx
end
section
namespace Go.Hx
def stV (n:Int) (i:Nat) (p:AS) (c:Nat):Int:=if dl p (c:Int) = true then (c:Int) else n + (i:Int) * n + (c:Int)
def stT (n:Int) (i:Nat) (p:AS) (k:Nat):Rw:=(List.range n.toNat).map fun c=>if c < k then stV n i p c else 0
def stR (n:Int) (i:Nat) (p:AS):Rw:=(List.range n.toNat).map fun c=>stV n i p c
def jl (n:Int) (ps:List AS):List Rw:=(List.range ps.length).map fun i=>stR n i (ps.getD i default)
theorem aol (n:Int) (i:Nat) (p:AS):(stR n i p).length = n.toNat:=by unfold stR;simp
def po (n:Int) (ps:List AS):Int × List Rw × Int :=
 if n < 0 ∨ 16 < n then (0,[],7) else if 64 < ps.length then (0,[],3) else if ps.all (fun p=>decide (p >>> n.toNat = 0)) = true then (n,db (jl n ps),0) else (0,[],1)
end Go.Hx
end
section
namespace Go.Hx
def vt (n:Int):Rw:=(List.range n.toNat).map fun (i:Nat)=>(i:Int)
theorem aqq {n:Int} {i:Nat} {p:AS} {k:Nat} (h:k < n.toNat):(stR n i p).getD k default = stV n i p k:=by
 unfold stR
 rw [List.getD_eq_getElem?_getD,List.getElem?_map,List.getElem?_range h]
 rfl
def auc (l:List Rw) (x:Fd) (a b:Nat):Bool:=uj (l.getD a default) (l.getD b default) x.lhs && !(l.any fun r=>decide (r = go (l.getD a default) (l.getD b default) x.rhs))
end Go.Hx
end
section
namespace Go.Hx
def Wel (n:Int) (l:List Rw):Prop:=∀ r,r ∈ l → r.length = n.toNat ∧ ∀ z,z ∈ r → 0 ≤ z
theorem a0e {l:List Rw} {i:Nat} (h:i < l.length):l.getD i default ∈ l:=by
 rw [List.getD_eq_getElem?_getD,List.getElem?_eq_getElem h]
 exact List.getElem_mem h
theorem rt {n:Int} {l:List Rw} (h:tok n l = true):Wel n l:=by
 obtain ⟨h0,h1,h2,h3⟩:=vm h
 unfold tok at h
 rw [Bool.and_eq_true,decide_eq_true_iff,decide_eq_true_iff] at h
 rintro r hr
 obtain ⟨i,hi,rfl⟩:=List.getElem_of_mem hr
 have e:l.getD i default = l[i]:=by rw [List.getD_eq_getElem?_getD,List.getElem?_eq_getElem hi];rfl
 rw [← e]
 refine ⟨h3 i hi,fun z hz=>?_⟩
 have:=h.2 i hi
 unfold zw at this
 rw [Bool.and_eq_true,Bool.and_eq_true] at this
 have h4:=this.1.2
 rw [Bool.not_eq_true',List.any_eq_false] at h4
 have:=h4 z hz
 rw [decide_eq_true_iff] at this
 omega
theorem aml {n:Int} {l:List Rw} (h:tok n l = true):lw l:=by
 unfold tok at h
 rw [Bool.and_eq_true,decide_eq_true_iff,decide_eq_true_iff] at h
 have hs:∀ d i:Nat,i + d + 1 < l.length → ltZ (l.getD i default) (l.getD (i + d + 1) default) = true:=by
  intro d
  induction d with
  | zero =>
   intro i hi
   have:=h.2 (i + 1) hi
   unfold zw at this
   rw [Bool.and_eq_true,Bool.or_eq_true,decide_eq_true_iff] at this
   rcases this.2 with h5 | h5
   · omega
   · exact h5
  | succ d ih =>
   intro i hi
   have h1:=ih i (by omega)
   have:=h.2 (i + d + 1 + 1) (by omega)
   unfold zw at this
   rw [Bool.and_eq_true,Bool.or_eq_true,decide_eq_true_iff] at this
   rcases this.2 with h5 | h5
   · omega
   · exact te h1 h5
 unfold lw
 rw [List.pairwise_iff_getElem]
 intro i j hi hj hij
 obtain ⟨d,rfl⟩:∃ d,j = i + d + 1:=⟨j - i - 1,by omega⟩
 have:=hs d i hj
 rwa [List.getD_eq_getElem?_getD,List.getElem?_eq_getElem hi,List.getD_eq_getElem?_getD,List.getElem?_eq_getElem hj] at this
theorem ahi {n:Int} {l:List Rw} (h0:0 ≤ n) (h1:n ≤ 16) (h2:l.length ≤ 256) (hw:Wel n l) (ho:lw l):tok n l = true:=by
 refine at5 h0 h1 h2 fun i hi=>?_
 obtain ⟨h3,h4⟩:=hw _ (a0e hi)
 refine arb (by omega) ?_ ?_
 · rw [List.any_eq_false]
   intro z hz
   have:=h4 z hz
   rw [decide_eq_true_iff]
   omega
 · rcases Nat.eq_zero_or_pos i with h | h
   · exact .inl h
   · right
     have:=List.pairwise_iff_getElem.1 ho (i - 1) i (by omega) hi (by omega)
     rw [List.getD_eq_getElem?_getD,List.getElem?_eq_getElem (by omega),List.getD_eq_getElem?_getD,List.getElem?_eq_getElem hi]
     exact this
theorem a6w {n:Int} {l:List Rw} (h0:0 ≤ n) (h1:n ≤ 16) (h2:(db l).length ≤ 256) (hw:Wel n l):tok n (db l) = true :=
 ahi h0 h1 h2 (fun r hr=>hw r (fe.1 hr)) (ny l)
def inV (l:List Rw) (M:Nat → Nat → Int) (z:Int):Prop:=∃ i r,i < l.length ∧ r < (l.getD i default).length ∧ M i r = z
theorem ac9 {l:List Rw} {z:Int}:inV l (tq l) z ↔ ∃ r,r ∈ l ∧ z ∈ r:=by
 constructor
 · rintro ⟨i,r,hi,hr,rfl⟩
   refine ⟨_,a0e hi, ?_⟩
   show (l.getD i default).getD r default ∈ _
   rw [List.getD_eq_getElem?_getD (l:=l.getD i default),List.getElem?_eq_getElem hr]
   exact List.getElem_mem hr
 · rintro ⟨r,hr,hz⟩
   obtain ⟨i,hi,rfl⟩:=List.getElem_of_mem hr
   obtain ⟨k,hk,rfl⟩:=List.getElem_of_mem hz
   have e:l.getD i default = l[i]:=by rw [List.getD_eq_getElem?_getD,List.getElem?_eq_getElem hi];rfl
   refine ⟨i,k,hi,by rw [e];exact hk, ?_⟩
   show (l.getD i default).getD k default = _
   rw [e,List.getD_eq_getElem?_getD,List.getElem?_eq_getElem hk]
   rfl
theorem a2q {l:List Rw} {M:Nat → Nat → Int} {z:Int}:(∃ r,r ∈ fj l M ∧ z ∈ r) ↔ inV l M z:=by
 constructor
 · rintro ⟨r,hr,hz⟩
   unfold fj at hr
   rw [List.mem_map] at hr
   obtain ⟨i,hi,rfl⟩:=hr
   rw [List.mem_map] at hz
   obtain ⟨k,hk,rfl⟩:=hz
   exact ⟨i,k,List.mem_range.1 hi,List.mem_range.1 hk,rfl⟩
 · rintro ⟨i,k,hi,hk,rfl⟩
   refine ⟨(List.range (l.getD i default).length).map (M i), ?_,List.mem_map.2 ⟨k,List.mem_range.2 hk,rfl⟩⟩
   unfold fj
   exact List.mem_map.2 ⟨i,List.mem_range.2 hi,rfl⟩
section
variable {l:List Rw} {a b:Nat} (ha:a < l.length) (hb:b < l.length)
theorem afe (x y:Int):loI x y = x ∨ loI x y = y:=by unfold loI;split <;> simp
theorem alt (x y:Int):hiI x y = x ∨ hiI x y = y:=by unfold hiI;split <;> simp
include ha hb in
theorem atm {M:Nat → Nat → Int} {j:Nat} (hja:j < (l.getD a default).length) (hjb:j < (l.getD b default).length) {z:Int} (h:inV l (eqM M a b j) z):inV l M z:=by
 obtain ⟨i,r,hi,hr,he⟩:=h
 unfold eqM at he
 split at he
 · rcases afe (M a j) (M b j) with h | h
   · exact ⟨a,j,ha,hja,by rw [← he,h]⟩
   · exact ⟨b,j,hb,hjb,by rw [← he,h]⟩
 · exact ⟨i,r,hi,hr,he⟩
include ha hb in
theorem a92:∀ {js:List Nat} {M:Nat → Nat → Int},(∀ j,j ∈ js → j < (l.getD a default).length ∧ j < (l.getD b default).length) → ∀ {z:Int},inV l (eqMs M a b js) z → inV l M z
 | [],_,_,_,h=>h
 | j :: js,M,hj,z,h=>atm ha hb (hj j (by simp)).1 (hj j (by simp)).2 (a92 (js:=js) (M:=eqM M a b j) (fun k hk=>hj k (by simp [hk])) h)
include ha hb in
theorem a79:∀ {js:List Nat} {M:Nat → Nat → Int},(∀ j,j ∈ js → j < (l.getD a default).length ∧ j < (l.getD b default).length) → (∃ j,j ∈ js ∧ ¬ M a j = M b j) → ∃ z,inV l M z ∧ ¬ inV l (eqMs M a b js) z
 | [],_,_,⟨_,h,_⟩=>by simp at h
 | j :: js,M,hj,⟨k,hk,hne⟩=>by
  by_cases e:M a j = M b j
  · have e2:eqMs M a b (j :: js) = eqMs M a b js:=by
     show eqMs (eqM M a b j) a b js = _
     rw [ak7 e]
    rw [e2]
    refine a79 (fun k hk=>hj k (by simp [hk])) ⟨k, ?_,hne⟩
    rcases List.mem_cons.1 hk with h | h
    · subst h;exact absurd e hne
    · exact h
  · refine ⟨hiI (M a j) (M b j), ?_,fun h=>?_⟩
    · rcases alt (M a j) (M b j) with h | h
      · exact ⟨a,j,ha,(hj j (by simp)).1,h.symm⟩
      · exact ⟨b,j,hb,(hj j (by simp)).2,h.symm⟩
    · obtain ⟨i,r,hi,hr,he⟩:=a92 ha hb (fun k hk=>hj k (by simp [hk])) (show inV l (eqMs (eqM M a b j) a b js) _ from h)
      unfold eqM at he
      split at he
      · unfold hiI loI at he
        split at he <;> split at he <;> omega
      · rename_i h2
        exact h2 he
end
def aa4 (Z:List Int) (l:List Rw):Nat:=Z.countP fun z=>l.any fun r=>decide (z ∈ r)
def muC (Z:List Int) (l:List Rw):Nat:=aa4 Z l * 300 + (300 - l.length)
def Cov (Z:List Int) (l:List Rw):Prop:=∀ r,r ∈ l → ∀ z,z ∈ r → z ∈ Z
theorem rz {l:List Rw} {z:Int}:(l.any fun r=>decide (z ∈ r)) = true ↔ ∃ r,r ∈ l ∧ z ∈ r:=by
 rw [List.any_eq_true]
 exact ⟨fun ⟨r,h,h2⟩=>⟨r,h,of_decide_eq_true h2⟩,fun ⟨r,h,h2⟩=>⟨r,h,decide_eq_true h2⟩⟩
theorem countP_lt' {p q:Int → Bool}:∀ {Z:List Int},(∀ z,p z = true → q z = true) → (∃ z,z ∈ Z ∧ q z = true ∧ p z = false) → Z.countP p < Z.countP q
 | [],_,⟨_,h,_⟩=>by simp at h
 | x :: Z,h,⟨z,hz,hq,hp⟩=>by
  have hm:Z.countP p ≤ Z.countP q:=List.countP_mono_left fun z _=>h z
  rw [List.countP_cons,List.countP_cons]
  rcases List.mem_cons.1 hz with rfl | hz
  · rw [hq,hp]
    simp only [if_true,Bool.false_eq_true,if_false]
    omega
  · have:=countP_lt' (Z:=Z) h ⟨z,hz,hq,hp⟩
    by_cases e:p x = true
    · rw [e,h x e];omega
    · rw [if_neg e];omega
theorem ao3 {Z:List Int} {l l':List Rw} (h:∀ z,(∃ r,r ∈ l' ∧ z ∈ r) → ∃ r,r ∈ l ∧ z ∈ r) (h2:∃ z,z ∈ Z ∧ (∃ r,r ∈ l ∧ z ∈ r) ∧ ¬ ∃ r,r ∈ l' ∧ z ∈ r):aa4 Z l' < aa4 Z l:=by
 refine countP_lt' (fun z hz=>rz.2 (h z (rz.1 hz))) ?_
 obtain ⟨z,h3,h4,h5⟩:=h2
 exact ⟨z,h3,rz.2 h4,by rw [Bool.eq_false_iff];exact fun e=>h5 (rz.1 e)⟩
theorem amk {Z:List Int} {l l':List Rw} (h:∀ z,(∃ r,r ∈ l' ∧ z ∈ r) → ∃ r,r ∈ l ∧ z ∈ r):aa4 Z l' ≤ aa4 Z l :=
 List.countP_mono_left fun z _ hz=>rz.2 (h z (rz.1 hz))
end Go.Hx
end
section
namespace Go.Hx
theorem a8f {r:Rw}:∀ {l:List Rw},r ∉ l → (ip r l).length = l.length + 1
 | [],_=>rfl
 | y :: l,h=>by
  unfold ip
  have h1:¬ r = y:=fun e=>h (by rw [e];simp)
  have h2:=a8f (l:=l) (r:=r) fun e=>h (by simp [e])
  rw [if_neg h1]
  split
  · simp
  · simp only [List.length_cons];omega
theorem agx {l:List Rw} {r:Rw} (ho:lw l):db (l ++ [r]) = ip r l:=by
 have e:l = db l:=alf ho fun _=>Iff.rfl
 have:db (l ++ [r]) = ip r (db l):=by
  unfold db
  rw [List.foldl_append]
  rfl
 rw [this,← e]
section
variable {n:Int} {l:List Rw} {a b:Nat} {x:Fd}
abbrev fdL (l:List Rw) (a b:Nat) (x:Fd):List Rw:=db (fj l (eqMs (tq l) a b (bj x.rhs)))
theorem am2 (hT:tok n l = true) (hu:inU n x = true) (ha:a < l.length) (hb:b < l.length) (hs:u7 l x a b = true) :
 fdE n l a b x = (n,fdL l a b x,0) ∧ tok n (fdL l a b x) = true ∧ (∀ z,(∃ r,r ∈ fdL l a b x ∧ z ∈ r) → ∃ r,r ∈ l ∧ z ∈ r) ∧ ∀ Z,Cov Z l → muC Z (fdL l a b x) < muC Z l:=by
 obtain ⟨h0,h1,h2,h3⟩:=vm hT
 have hw:=rt hT
 unfold u7 at hs
 rw [Bool.and_eq_true,Bool.not_eq_true'] at hs
 obtain ⟨hl,hr⟩:=hs
 have hj:∀ j,j ∈ bj x.rhs → j < (l.getD a default).length ∧ j < (l.getD b default).length:=fun j hj=>by
  have:=ad4 h0 h1 hu hj
  exact ⟨by rw [h3 a ha];exact this,by rw [h3 b hb];exact this⟩
 have hV:∀ z,(∃ r,r ∈ fdL l a b x ∧ z ∈ r) → ∃ r,r ∈ l ∧ z ∈ r:=fun z ⟨r,hr,hz⟩=>ac9.1 (a92 ha hb hj (a2q.1 ⟨r,fe.1 hr,hz⟩))
 have hlen:(fdL l a b x).length ≤ l.length:=Nat.le_trans (ahu _) (Nat.le_of_eq (xg _ _))
 refine ⟨if_pos hl,a6w h0 h1 (Nat.le_trans hlen h2) (fun r hr=>⟨?_,fun z hz=>?_⟩),hV,fun Z hZ=>?_⟩
 · unfold fj at hr
   rw [List.mem_map] at hr
   obtain ⟨i,hi,rfl⟩:=hr
   rw [List.length_map,List.length_range]
   exact h3 i (List.mem_range.1 hi)
 · obtain ⟨r2,h5,h6⟩:=hV z ⟨r,fe.2 hr,hz⟩
   exact (hw r2 h5).2 z h6
 · have hne:∃ j,j ∈ bj x.rhs ∧ ¬ tq l a j = tq l b j:=by
    apply Classical.byContradiction
    intro hno
    rw [ab3] at hr
    · cases hr
    · intro i hi hh
      apply Classical.byContradiction
      intro e
      have hi2:i < 32:=by
       have:=h3 a ha
       omega
      rw [eo hi2] at hh
      exact hno ⟨i,jr.2 ⟨hi2,hh⟩,e⟩
   obtain ⟨z,hz1,hz2⟩:=a79 ha hb hj hne
   have hz3:=ac9.1 hz1
   have:=ao3 (Z:=Z) hV ⟨z,by obtain ⟨r,h7,h8⟩:=hz3;exact hZ r h7 z h8,hz3,fun ⟨r,h7,h8⟩=>hz2 (a2q.1 ⟨r,fe.1 h7,h8⟩)⟩
   unfold muC
   omega
abbrev mvL (l:List Rw) (a b:Nat) (x:Fd):List Rw:=db (l ++ [go (l.getD a default) (l.getD b default) (x.lhs ||| x.rhs)])
theorem asz (hT:tok n l = true) (ha:a < l.length) (hb:b < l.length) (hs:qp l x a b = true) :
 mvE n l a b x = (0,[],3) ∨ (mvE n l a b x = (n,mvL l a b x,0) ∧ tok n (mvL l a b x) = true ∧ (∀ z,(∃ r,r ∈ mvL l a b x ∧ z ∈ r) → ∃ r,r ∈ l ∧ z ∈ r) ∧ ∀ Z,Cov Z l → muC Z (mvL l a b x) < muC Z l):=by
 obtain ⟨h0,h1,h2,h3⟩:=vm hT
 have hw:=rt hT
 unfold qp at hs
 rw [Bool.and_eq_true,Bool.not_eq_true'] at hs
 obtain ⟨hl,hr⟩:=hs
 have hno:=amy hr
 have hE:mvE n l a b x = zh n l (go (l.getD a default) (l.getD b default) (x.lhs ||| x.rhs)):=if_pos hl
 by_cases hbig:256 < (mvL l a b x).length
 · left
   rw [hE]
   exact if_pos hbig
 · right
   have hmem:∀ z,z ∈ go (l.getD a default) (l.getD b default) (x.lhs ||| x.rhs) → z ∈ l.getD a default ∨ z ∈ l.getD b default:=fun z hz=>by
    unfold go at hz
    rw [List.mem_map] at hz
    obtain ⟨i,hi,rfl⟩:=hz
    have hi:=List.mem_range.1 hi
    have hi2:i < (l.getD a default).length:=by rw [h3 a ha,← h3 b hb];exact hi
    split
    · left
      rw [List.getD_eq_getElem?_getD (l:=l.getD a default),List.getElem?_eq_getElem hi2]
      exact List.getElem_mem hi2
    · right
      rw [List.getD_eq_getElem?_getD (l:=l.getD b default),List.getElem?_eq_getElem hi]
      exact List.getElem_mem hi
   have hV:∀ z,(∃ r,r ∈ mvL l a b x ∧ z ∈ r) → ∃ r,r ∈ l ∧ z ∈ r:=fun z ⟨r,hr,hz⟩=>by
    rcases List.mem_append.1 (fe.1 hr) with h | h
    · exact ⟨r,h,hz⟩
    · rw [List.mem_singleton] at h
      subst h
      rcases hmem z hz with h | h
      · exact ⟨_,a0e ha,h⟩
      · exact ⟨_,a0e hb,h⟩
   refine ⟨by rw [hE];exact if_neg hbig,a6w h0 h1 (Nat.le_of_not_lt fun e=>hbig e) (fun r hr=>⟨?_,fun z hz=>?_⟩),hV,fun Z hZ=>?_⟩
   · rcases List.mem_append.1 hr with h | h
     · exact (hw r h).1
     · rw [List.mem_singleton] at h
       subst h
       rw [oh]
       exact h3 b hb
   · obtain ⟨r2,h5,h6⟩:=hV z ⟨r,fe.2 hr,hz⟩
     exact (hw r2 h5).2 z h6
   · have e:(mvL l a b x).length = l.length + 1:=by
      show (db _).length = _
      rw [agx (aml hT),a8f hno]
     have:=amk (Z:=Z) hV
     unfold muC
     omega
end
theorem afx {α:Type} {f:Nat → Option α}:∀ {n:Nat} {x:α},(List.range n).findSome? f = some x → ∃ k,k < n ∧ f k = some x:=fun {n x} h=>by
 obtain ⟨k,hk,e⟩:=List.exists_of_findSome?_eq_some h
 exact ⟨k,List.mem_range.1 hk,e⟩
theorem a3j {P:Nat → Nat → Nat → Bool} {I L i a b:Nat} (h:vj P I L = some (i,a,b)):i < I ∧ a < L ∧ b < L ∧ P i a b = true:=by
 obtain ⟨i',hi,h⟩:=afx h
 obtain ⟨a',ha,h⟩:=afx h
 rw [Option.map_eq_some_iff] at h
 obtain ⟨b',hb,e⟩:=h
 simp only [Prod.mk.injEq] at e
 obtain ⟨rfl,rfl,rfl⟩:=e
 exact ⟨hi,ha,List.mem_range.1 (List.mem_of_find?_eq_some hb),by simpa using List.find?_some hb⟩
def adu (l:List Rw) (p m:List Fd) (s:St):Prop:=s.2.2.1 < l.length ∧ s.2.2.2 < l.length ∧ ((s.1 = false ∧ s.2.1 < p.length ∧ u7 l (p.getD s.2.1 default) s.2.2.1 s.2.2.2 = true) ∨ (s.1 = true ∧ s.2.1 < m.length ∧ qp l (m.getD s.2.1 default) s.2.2.1 s.2.2.2 = true))
theorem ao5 {l:List Rw} {p m:List Fd} {s:St} (h:o3 l p m = some s):adu l p m s:=by
 unfold o3 at h
 split at h
 · rename_i x e
   simp only [Option.some.injEq] at h
   subst h
   obtain ⟨i,a,b⟩:=x
   obtain ⟨h1,h2,h3,h4⟩:=a3j e
   exact ⟨h2,h3, .inl ⟨rfl,h1,h4⟩⟩
 · rw [Option.map_eq_some_iff] at h
   obtain ⟨⟨i,a,b⟩,e,rfl⟩:=h
   obtain ⟨h1,h2,h3,h4⟩:=a3j e
   exact ⟨h2,h3, .inr ⟨rfl,h1,h4⟩⟩
def fu (n:Int) (l:List Rw) (p m:List Fd) (s:St):Int × List Rw × Int:=if s.1 = true then mvE n l s.2.2.1 s.2.2.2 (m.getD s.2.1 default) else fdE n l s.2.2.1 s.2.2.2 (p.getD s.2.1 default)
theorem afp {n:Int} {l:List Rw} {p m:List Fd} {s:St} (hT:tok n l = true) (hp:p.all (inU n) = true) (h:adu l p m s) :
 fu n l p m s = (0,[],3) ∨ ∃ l',fu n l p m s = (n,l',0) ∧ tok n l' = true ∧ (∀ Z,Cov Z l → Cov Z l' ∧ muC Z l' < muC Z l):=by
 obtain ⟨ha,hb,h | h⟩:=h
 · obtain ⟨h1,h2,h3⟩:=h
   have hu:inU n (p.getD s.2.1 default) = true:=List.all_eq_true.1 hp _ (by rw [List.getD_eq_getElem?_getD,List.getElem?_eq_getElem h2];exact List.getElem_mem h2)
   obtain ⟨e,h4,h5,h6⟩:=am2 hT hu ha hb h3
   exact .inr ⟨_,by unfold fu;rw [if_neg (by rw [h1];decide)];exact e,h4,fun Z hZ=>⟨fun r hr z hz=>by obtain ⟨r2,h7,h8⟩:=h5 z ⟨r,hr,hz⟩;exact hZ r2 h7 z h8,h6 Z hZ⟩⟩
 · obtain ⟨h1,h2,h3⟩:=h
   rcases asz hT ha hb h3 with e | ⟨e,h4,h5,h6⟩
   · exact .inl (by unfold fu;rw [if_pos h1];exact e)
   · exact .inr ⟨_,by unfold fu;rw [if_pos h1];exact e,h4,fun Z hZ=>⟨fun r hr z hz=>by obtain ⟨r2,h7,h8⟩:=h5 z ⟨r,hr,hz⟩;exact hZ r2 h7 z h8,h6 Z hZ⟩⟩
def md:Nat → Int → List Rw → List Fd → List Fd → List St → List St × (Int × List Rw) × Int
 | 0,_,_,_,_,_=>([],(0,[]),0)
 | f + 1,n,l,p,m,acc =>
  match o3 l p m with
  | none=>(acc,(n,l),0)
  | some s=>match fu n l p m s with
   | (n',l',e)=>if e = 0 then md f n' l' p m (acc ++ [s]) else ([],(0,[]),e)
theorem ady {f:Nat} {n:Int} {l:List Rw} {p m:List Fd} {acc:List St} (hf:0 < f) (h:o3 l p m = none):md f n l p m acc = (acc,(n,l),0):=by
 obtain ⟨g,rfl⟩:∃ g,f = g + 1:=⟨f - 1,by omega⟩
 unfold md
 rw [h]
theorem abe {f:Nat} {n:Int} {l:List Rw} {p m:List Fd} {acc:List St} {s:St} (hf:0 < f) (h:o3 l p m = some s) {n':Int} {l':List Rw} (h2:fu n l p m s = (n',l',0)):md f n l p m acc = md (f - 1) n' l' p m (acc ++ [s]):=by
 obtain ⟨g,rfl⟩:∃ g,f = g + 1:=⟨f - 1,by omega⟩
 rw [Nat.add_sub_cancel]
 conv=>lhs;unfold md
 rw [h]
 simp only
 rw [h2]
 simp only
 rw [if_pos trivial]
end Go.Hx
end
section
namespace Go.Hx
open Go.Proofs
abbrev St.c (s:St):Nat → PV:=fun j=>[.raw (.bool s.1), .raw (.int .i64 (s.2.1:Int)), .raw (.int .i64 (s.2.2.1:Int)), .raw (.int .i64 (s.2.2.2:Int))].getD j .any
abbrev stl (l:List St):PV:=psl 4 St.c l
abbrev ckE (n:Int) (l:List Rw) (p m:List Fd):Int:=if tok n l = true then fp n p m else 1
def a4o (F:Nat) (n:Int) (l:List Rw) (p m:List Fd):List St × (Int × List Rw) × Int:=if ckE n l p m = 0 then md F n l p m [] else ([],(0,[]),ckE n l p m)
theorem ald (l:List Rw):Cov l.flatten l:=fun r hr z hz=>List.mem_flatten.2 ⟨r,hr,hz⟩
structure StI (F:Nat) (n:Int) (l:List Rw) (p m:List Fd) (x:Nat × List Rw × List St):Prop where
 t:tok n x.2.1 = true
 c:Cov l.flatten x.2.1
 u:muC l.flatten x.2.1 < x.1
 b:x.2.2.length + x.1 ≤ F
 e:md x.1 n x.2.1 p m x.2.2 = md F n l p m []
theorem StI.start {F:Nat} {n:Int} {l:List Rw} {p m:List Fd} (hT:tok n l = true) (hF:muC l.flatten l < F):StI F n l p m (F,l,[]):=⟨hT,ald l,hF,by simp,rfl⟩
theorem StI.next {F:Nat} {n:Int} {l:List Rw} {p m:List Fd} {x:Nat × List Rw × List St} {s:St} (h:StI F n l p m x) (hp:p.all (inU n) = true) (hS:o3 x.2.1 p m = some s) (he:(fu n x.2.1 p m s).2.2 = 0) :
 (fu n x.2.1 p m s).1 = n ∧ StI F n l p m (x.1 - 1,(fu n x.2.1 p m s).2.1,x.2.2 ++ [s]):=by
 have hu:=h.u
 have hb:=h.b
 rcases afp h.t hp (ao5 hS) with e | ⟨l',e,h1,h2⟩
 · rw [e] at he;exact absurd he (by decide)
 · have hq:=h2 _ h.c
   refine ⟨by rw [e], ?_⟩
   rw [e]
   exact ⟨h1,hq.1,by show muC _ l' < _;omega,by simp only [List.length_append,List.length_singleton];omega,by rw [← h.e,abe (by omega) hS e]⟩
theorem StI.fin {F:Nat} {n:Int} {l:List Rw} {p m:List Fd} {x:Nat × List Rw × List St} (h:StI F n l p m x) (hS:o3 x.2.1 p m = none):md F n l p m [] = (x.2.2,(n,x.2.1),0):=by
 have hu:=h.u
 rw [← h.e,ady (by omega) hS]
end Go.Hx
end
section
namespace Go.Hx
abbrev FU:Nat:=1300000
abbrev u5 (n:Int) (x:Fd):List AS:=[x.lhs ||| x.rhs,x.lhs ||| (am n &&& ~~~x.rhs)]
def axq (n:Int) (p m:List Fd) (x:Fd):Bool × Int :=
 if fp n p m = 0 then
  if inU n x = true then
   if (po n (u5 n x)).2.2 = 0 then
    if (a4o FU (po n (u5 n x)).1 (po n (u5 n x)).2.1 p m).2.2 = 0 then ((a4o FU (po n (u5 n x)).1 (po n (u5 n x)).2.1 p m).2.1.2.any (fun r=>decide (r = vt n)),0)
    else (false,(a4o FU (po n (u5 n x)).1 (po n (u5 n x)).2.1 p m).2.2)
   else (false,(po n (u5 n x)).2.2)
  else (false,1)
 else (false,fp n p m)
end Go.Hx
end
