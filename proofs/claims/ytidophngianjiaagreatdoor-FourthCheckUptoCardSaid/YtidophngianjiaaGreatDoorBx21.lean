/- A part of the proof: Lw Hx26 Hx25 Ch1 Ch2. -/
import Derived.Deep.DeepHandedRow
import Derived.OpenShut
import Derived.ProofKit
import Derived.Test.YtidophngianjiaaGreatDoorCards
import Derived.Test.YtidophngianjiaaGreatDoorRows
import Derived.Test.YtidophngianjiaaGreatDoorTie
import Derived.WalkKit
import Derived.Test.YtidophngianjiaaGreatDoorBx14
import Derived.Test.YtidophngianjiaaGreatDoorBx16
import Derived.Test.YtidophngianjiaaGreatDoorBx19
import Derived.Test.YtidophngianjiaaGreatDoorBx20
set_option linter.all false
section
namespace Go.Hx
open Go.Proofs Go.ChangeShapes Go.WideShapes Go.ChangeAt Go.RowKit
theorem own:ownKnob Tryz.prog.godebug = none:=by kernel_rfl
theorem ayf : Tryz.prog.globalNamed "math/bits.deBruijn32tab" = some 0 := by kernel_rfl
theorem aru:(Tryz.prog.globals[0]?).map (·.type) = some 213:=by kernel_rfl
theorem arw:Tryz.prog.cellsOf 213 = 32:=by kernel_rfl
theorem az6:Tryz.prog.cellsOf 5 = 1:=by kernel_rfl
def ac1:List Int:=[0,1,28,2,29,14,24,3,30,22,20,15,25,17,4,8,31,27,13,23,21,19,16,7,26,12,18,6,11,5,10,9]
theorem atd {W : World} (h : laidMetH Tryz.prog [("math/bits.deBruijn32tab", YtidophngianjiaaGreatDoor.Rows.laid_math_bits_deBruijn32tab)] W) : p8 (ey W) := by
 have ht : Lib.TabIs Tryz.prog W "math/bits.deBruijn32tab" .u8 ac1 := Lib.tabIs_of_head (rest := []) ayf aru Tryz.underlying213 Tryz.underlying5 az6 arw h
 intro b off v hv
 unfold t6 pw at hv
 split at hv
 · have hlt:off < 32:=by
    rcases Nat.lt_or_ge off 32 with h | h
    · exact h
    · rw [List.getElem?_eq_none (by simpa using h)] at hv;cases hv
   have hc:=ht.cell ayf off hlt
   have e:v = .int .u8 (ac1.getD off 0):=by
    have:(ac1.map fun z=>Value.int .u8 z)[off]? = some v:=hv
    rw [List.getElem?_map] at this
    rw [List.getD_eq_getElem?_getD]
    cases hz:ac1[off]? with
    | none=>rw [hz] at this;cases this
    | some z=>rw [hz] at this;exact (Option.some.inj this).symm
   rw [e]
   unfold World.cell? at hc
   unfold io ey
   split at hc
   · rename_i c t fr hh
     rw [hh]
     simpa using hc
   · cases hc
 · cases hv
noncomputable def laidWorld (os:Os):World :=
 { World.holding Tryz.prog os ⟨#[],#[],[]⟩ with heap:=(World.holding Tryz.prog os ⟨#[],#[],[]⟩).heap.modify 0 fun
  | .cells _ t frozen=>.cells (ac1.map fun z=>Value.int .u8 z).toArray t frozen
  | o=>o }
end Go.Hx
end
section
namespace Go.Hx
open Go.Proofs Go.Proofs.YtidophngianjiaaGreatDoor
open Go.RowKit Go.ChangeShapes Go.WideShapes Go.ChangeAt
section
variable {H:Type}
theorem tc {d:DataW H} {l:List (DataW H)} (h:d ∈ l):Rows.uptoBulk d ≤ Rows.uptoBulkAll l:=by
 induction l with
 | nil=>cases h
 | cons x r ih =>
  rw [Rows.uptoBulkAll]
  rcases List.mem_cons.1 h with e | e
  · subst e;omega
  · have:=ih e;omega
theorem au3 (d:DataW H):1 ≤ Rows.uptoBulk d:=by
 cases d with
 | lit l=>cases l <;> simp [Rows.uptoBulk]
 | _=>simp [Rows.uptoBulk]
theorem apa (l:List (DataW H)):l.length ≤ Rows.uptoBulkAll l:=by
 induction l with
 | nil=>simp
 | cons x r ih=>have:=au3 x;rw [Rows.uptoBulkAll,List.length_cons];omega
theorem apq {l r:List (DataW H)} {d:DataW H} (h:d ∈ l):Rows.uptoBulk d ≤ Rows.uptoBulk (.slice l r):=by
 have:=tc h
 rw [Rows.uptoBulk];omega
theorem awh {l:List (DataW H)} {d:DataW H} (h:d ∈ l):Rows.uptoBulk d ≤ Rows.uptoBulk (.agg l):=by
 have:=tc h
 rw [Rows.uptoBulk];omega
theorem au4 (l r:List (DataW H)):l.length ≤ Rows.uptoBulk (.slice l r):=by
 have:=apa l
 rw [Rows.uptoBulk];omega
end
def RdB (P:Program) (t:TypeId) (n:Nat) {α:Type} (c:α → Nat → PV) (B:Nat → α → Prop):Prop :=
 ∀ (H:Type) (enc:TypeId × Value → H) (w:World) (sp:Nat → Bool) (held:Bool) (fuel:Nat) (cs:List Value) (x:DataW H × List MemPlace),DataW.trod enc P w 0 sp held fuel t cs = some x →
  cs.length = n ∧ ∃ a:α,B (Rows.uptoBulk x.1) a ∧ ∀ j,j < n → ∃ v,cs[j]? = some v ∧ b6 (ey w) (c a j) v
section
variable {P:Program} {t e:TypeId}
theorem Rd.toB {n:Nat} {α:Type} {c:α → Nat → PV} (h:Rd P t n c):RdB P t n c fun _ _=>True:=by
 intro H enc w sp held fuel cs x hx
 obtain ⟨h1,a,h2⟩:=h _ enc w sp held fuel cs x hx
 exact ⟨h1,a,trivial,h2⟩
theorem RdB.co {n:Nat} {α β:Type} {c:α → Nat → PV} {c':β → Nat → PV} {B:Nat → α → Prop} {B':Nat → β → Prop} (h:RdB P t n c B) (f:α → β) (hB:∀ b a,B b a → B' b (f a)) (hc:∀ a j,j < n → CoP (c a j) (c' (f a) j)):RdB P t n c' B':=by
 intro H enc w sp held fuel cs x hx
 obtain ⟨h1,a,h0,h2⟩:=h _ enc w sp held fuel cs x hx
 refine ⟨h1,f a,hB _ _ h0,fun j hj=>?_⟩
 obtain ⟨v,h3,h4⟩:=h2 j hj
 exact ⟨v,h3,hc a j hj _ _ h4⟩
theorem a9k {s:Nat} {α:Type} [Inhabited α] {c:α → Nat → PV} {B:Nat → α → Prop} (mono:∀ b b' x,b ≤ b' → B b x → B b' x) (ht:P.underlying t = some (.slice e)) (hc:P.cellsOf e = s) (hs:0 < s) (h:RdB P e s c B):RdB P t 1 (aq5 s c) (fun b l=>l.length ≤ b ∧ ∀ i,i < l.length → B b (l.getD i default)):=by
 classical
 intro H enc w sp held fuel cs x hx
 rcases DataW.trod_slice ht hx with ⟨rfl,_⟩ | ⟨a,len,cap,elems,rest,n,rfl,rfl,rfl,hb,hl,hm,hlen,hel,_,_⟩
 · refine ⟨rfl,[],⟨Nat.zero_le _,fun i hi=>absurd hi (Nat.not_lt_zero i)⟩,fun j hj=>?_⟩
   obtain rfl:j = 0:=by omega
   exact ⟨_,rfl,none,0,rfl,Nat.le_refl _,Nat.zero_le _,(fun hh=>by cases hh),fun hh=>absurd hh (Nat.lt_irrefl 0)⟩
 · have each:∀ i,i < len → ∃ q:α,B (Rows.uptoBulk (DataW.slice (elems.map (·.1)) (rest.map (·.1)))) q ∧ ∀ j,j < s → ∃ v,w.cell? (a.add (i * s + j)) = some v ∧ b6 (ey w) (c q j) v:=by
    intro i hi
    have h1:=hel i hi
    rw [hc] at h1
    rw [List.getElem?_eq_getElem (by omega)] at h1
    obtain ⟨cs',h2,h3⟩:=Option.bind_eq_some_iff.1 h1
    obtain ⟨_,h4,h5⟩:=World.cells?_some h2
    obtain ⟨_,q,h9,h6⟩:=h _ enc w sp held n cs' _ h3
    refine ⟨q,mono _ _ q (apq (List.mem_map_of_mem (List.getElem_mem _))) h9,fun j hj=>?_⟩
    obtain ⟨v,h7,h8⟩:=h6 j hj
    refine ⟨v, ?_,h8⟩
    have:=h5 j hj
    rw [h7] at this
    rw [← this]
    congr 1
    unfold Addr.add
    by_cases hj0:j = 0
    · subst hj0
      simp
    · by_cases hi0:i * s = 0
      · simp [hi0,hj0]
      · have:¬ (i * s + j = 0):=by omega
        simp only [hj0,hi0,this,if_false]
        congr 1
        omega
   refine ⟨rfl,(List.range len).map fun i=>if hi:i < len then Classical.choose (each i hi) else default,⟨?_,fun i hi=>?_⟩,fun j hj=>?_⟩
   · rw [List.length_map,List.length_range,← hlen]
     have:=au4 (elems.map (·.1)) (rest.map (·.1))
     rw [List.length_map] at this
     exact this
   · have hi:i < len:=by simpa using hi
     have hch:=(Classical.choose_spec (each i hi)).1
     have e:((List.range len).map fun i=>if hi:i < len then Classical.choose (each i hi) else default).getD i default = Classical.choose (each i hi):=by simp [List.getD,hi]
     rw [e]
     exact hch
   obtain rfl:j = 0:=by omega
   refine ⟨_,rfl,some a,cap,by simp,by simpa using hl,hm,(fun hh=>by cases hh),fun hn=>?_⟩
   have hn:0 < len:=by simpa using hn
   have hspot:a.spot = none:=by
    obtain ⟨q,_,hq⟩:=each 0 hn
    obtain ⟨v,hv,_⟩:=hq 0 hs
    have:a.add (0 * s + 0) = a:=by simp [Addr.add]
    rw [this] at hv
    unfold World.cell? at hv
    split at hv
    · split at hv
      · cases hv
      · rename_i hsp
        simpa using hsp
    · cases hv
   refine ⟨a.block,a.off, ?_,fun i j hi hj=>?_⟩
   · obtain ⟨b,o,spo⟩:=a
     simp only at hspot
     subst hspot
     rfl
   · have hi:i < len:=by simpa using hi
     have hch:=(Classical.choose_spec (each i hi)).2
     obtain ⟨v,hv,hr⟩:=hch j hj
     refine ⟨v, ?_, ?_⟩
     · unfold World.cell? at hv
       have hblk:(a.add (i * s + j)).block = a.block:=by unfold Addr.add;split <;> rfl
       have hoff:(a.add (i * s + j)).off = a.off + (i * s + j):=by
        unfold Addr.add
        split
        · rename_i h0;rw [h0];rfl
        · rfl
       rw [hblk,hoff] at hv
       unfold io ey
       split at hv
       · rename_i hb'
         rw [hb']
         split at hv
         · cases hv
         · exact hv
       · cases hv
     · have:lf c ((List.range len).map fun i=>if hi:i < len then Classical.choose (each i hi) else default) i j = c (Classical.choose (each i hi)) j:=by
        unfold lf
        simp [List.getD,hi]
       rw [this]
       exact hr
theorem a5f {H:Type} {enc:TypeId × Value → H} {w:World} {sp:Nat → Bool} {held:Bool} {fuel:Nat} {cs:List Value} {x:DataW H × List MemPlace} {fs:Array Field} (ht:P.underlying t = some (.struct fs)) (h:DataW.trod enc P w 0 sp held fuel t cs = some x) :
 cs.length = P.cellsOf t ∧ ∃ n,∀ (i:Nat) (f:Field),fs[i]? = some f → ∃ y,DataW.trod enc P w 0 sp held n f.type ((cs.drop f.offset).take (P.cellsOf f.type)) = some y ∧ Rows.uptoBulk y.1 ≤ Rows.uptoBulk x.1:=by
 obtain ⟨xs,n,_,rfl,h1,h2,h3⟩:=DataW.trod_struct ht h
 refine ⟨h1,n,fun i f hf=>?_⟩
 have:=h3 i f hf
 rw [this]
 have hi:i < xs.length:=by rw [h2];exact (Array.getElem?_eq_some_iff.1 hf).1
 exact ⟨_,List.getElem?_eq_getElem hi,awh (List.mem_map_of_mem (List.getElem_mem hi))⟩
theorem vr {H:Type} {enc:TypeId × Value → H} {w:World} {sp:Nat → Bool} {held:Bool} {n off s b:Nat} {ft:TypeId} {cs:List Value} {y:DataW H × List MemPlace} {α:Type} {c:α → Nat → PV} {B:Nat → α → Prop} (mono:∀ b b' x,b ≤ b' → B b x → B b' x) (h:RdB P ft s c B)
 (hy:DataW.trod enc P w 0 sp held n ft ((cs.drop off).take (P.cellsOf ft)) = some y ∧ Rows.uptoBulk y.1 ≤ b) :
 ∃ a:α,B b a ∧ ∀ j,j < s → ∃ v,cs[off + j]? = some v ∧ b6 (ey w) (c a j) v:=by
 obtain ⟨h1,a,h0,h2⟩:=h _ enc w sp held n _ y hy.1
 refine ⟨a,mono _ _ a hy.2 h0,fun j hj=>?_⟩
 obtain ⟨v,h3,h4⟩:=h2 j hj
 refine ⟨v, ?_,h4⟩
 rw [List.getElem?_take] at h3
 split at h3
 · rwa [List.getElem?_drop] at h3
 · cases h3
theorem ahk {H:Type} {enc:TypeId × Value → H} {W:World} {v:Value} {d:DataW H} {ps:List MemPlace} {α:Type} {c:α → Nat → PV} {B:Nat → α → Prop} (h:RdB P t 1 c B) (hc:v.cells.toList = [v]) (hd:DataW.Trod enc P W 0 (fun _=>true) true t v d ps):∃ a:α,B (Rows.uptoBulk d) a ∧ b6 (ey W) (c a 0) v:=by
 obtain ⟨fuel,hf⟩:=hd
 obtain ⟨_,a,h0,ha⟩:=h _ enc W _ _ fuel _ _ hf
 obtain ⟨u,hu,hr⟩:=ha 0 (by omega)
 rw [hc] at hu
 simp only [List.getElem?_cons_zero,Option.some.injEq] at hu
 subst hu
 exact ⟨a,h0,hr⟩
end
section
variable {P:Program} {t e:TypeId}
theorem ae3 {m:Imm} {c:Nat → PV}:∀ {n:Nat} {us:List Value} {k:Nat},us.length = n → (∀ j,j < n → ∃ v,us[j]? = some v ∧ b6 m (c (k + j)) v) → f7 m ((List.range' k n).map c) us
 | 0,[],_,_,_=>trivial
 | n + 1,u :: us,k,hl,h=>by
  obtain ⟨v,h1,h2⟩:=h 0 (by omega)
  simp only [List.getElem?_cons_zero,Option.some.injEq] at h1
  subst h1
  refine ⟨h2,ae3 (n:=n) (k:=k + 1) (by simpa using hl) fun j hj=>?_⟩
  obtain ⟨v,h3,h4⟩:=h (j + 1) (by omega)
  refine ⟨v,by simpa using h3, ?_⟩
  rwa [show k + 1 + j = k + (j + 1) by omega]
 | 0,_ :: _,_,h,_=>by cases h
 | _ + 1,[],_,h,_=>by cases h
theorem afz {H:Type} {enc:TypeId × Value → H} {W:World} {cs:Array Value} {d:DataW H} {ps:List MemPlace} {n:Nat} {α:Type} {c:α → Nat → PV} {B:Nat → α → Prop} (h:RdB P t n c B) (hd:DataW.Trod enc P W 0 (fun _=>true) true t (.agg cs) d ps) :
 ∃ a:α,B (Rows.uptoBulk d) a ∧ jj (ey W) (.agg ((List.range' 0 n).map (c a))) (.agg cs):=by
 obtain ⟨fuel,hf⟩:=hd
 obtain ⟨hl,a,h0,ha⟩:=h _ enc W _ _ fuel _ _ hf
 refine ⟨a,h0,cs.toList,by simp,ae3 hl fun j hj=>?_⟩
 rw [Nat.zero_add]
 exact ha j hj
end
end Go.Hx
end
section
namespace Go.Hx
open Go.RowKit
section
variable {w0:World} {nt:Nat} {c:Ctx} {s:S} {a:Act} {w:World}
theorem a67 {base:Nat} {o:b7} {id:Nat} {e et:TypeId} {es:Nat} {m:Nat → Nat} {g:Nat → Nat → Nat → PV} (hes:0 < es) (hb:c.blk id = noB) (hv:∃ ad,c.own id = .slice ad 0 0):dq base c o w id (.nest e et es 0 m g none):=by
 obtain ⟨ad,hv⟩:=hv
 refine ⟨hes,Nat.zero_le _,fun i hi=>absurd hi (Nat.not_lt_zero i),fun b=>?_,fun i b hi=>absurd hi (Nat.not_lt_zero i),fun i hi=>absurd hi (Nat.not_lt_zero i), .inl ⟨rfl,ad,hv⟩⟩
 rw [hb,hv]
 constructor
 · exact fun h=>h.elim
 · rintro (h | ⟨i,hi,_⟩)
   · cases ad <;> simp [ce] at h
   · exact absurd hi (Nat.not_lt_zero i)
theorem zt {imm:Imm} {s':Nat} {f:Nat → Nat → PV} {u:Value} (h:b6 imm (.sl 0 s' true f) u):∃ ad,u = .slice ad 0 0:=by
 obtain ⟨ad,cap,rfl,_,_,hc,_⟩:=h
 rw [hc rfl]
 exact ⟨ad,rfl⟩
def nr (m:Nat → Nat) (n k:Nat):Nat → Nat:=fun i=>bif Nat.beq i n then k else m i
def pj (g:Nat → Nat → Nat → PV) (n:Nat) (f:Nat → Nat → PV):Nat → Nat → Nat → PV:=fun i=>bif Nat.beq i n then f else g i
theorem a8n (m:Nat → Nat) (n k:Nat):nr m n k n = k:=by simp [nr]
theorem zr {m:Nat → Nat} {n k i:Nat} (h:i ≠ n):nr m n k i = m i:=by
 have:Nat.beq i n = false:=by rw [Bool.eq_false_iff];exact fun hb=>h (Nat.eq_of_beq_eq_true hb)
 simp [nr,this]
theorem ah2 (g:Nat → Nat → Nat → PV) (n:Nat) (f:Nat → Nat → PV):pj g n f n = f:=by simp [pj]
theorem ab1 {g:Nat → Nat → Nat → PV} {n i:Nat} {f:Nat → Nat → PV} (h:i ≠ n):pj g n f i = g i:=by
 have:Nat.beq i n = false:=by rw [Bool.eq_false_iff];exact fun hb=>h (Nat.eq_of_beq_eq_true hb)
 simp [pj,this]
theorem ae9 {v:Value} {b:Nat} (h:ce v = some b):d6 v = some b:=by
 unfold ce at h
 split at h
 · split at h
   · cases h
   · exact h
 · cases h
theorem aq.absorb (h:aq w0 nt c s a w) {id id' k n:Nat} {e et:TypeId} {es:Nat} {m:Nat → Nat} {g:Nat → Nat → Nat → PV} {f:Nat → Nat → PV} (ho:s.o id = some (.nest e et es n m g (some (id',k)))) (ho':s.o id' = some (.arr true es et k f)) :
 ∃ c',c'.old = c.old ∧ aq w0 nt c' ((s.setO id (some (.nest e et es (n + 1) (nr m n k) (pj g n f) none))).setO id' none) a w:=by
 have hne:id' ≠ id:=by rintro rfl;rw [ho] at ho';cases ho'
 have hnk:kd 0 c s.o w id e et es n m g (some (id',k)):=h.objs id _ ho
 obtain ⟨q0,q1,q5⟩:=h.objs id' _ ho'
 have hcb:∀ b,ce (c.own id') = some b → c.blk id' b:=fun b hb=>by
  rcases q5 with ⟨q6,_⟩ | ⟨q7,_,q8⟩
  · rw [q6];exact ae9 hb
  · obtain ⟨ad,cap,r1,_,_,r4,_⟩:=q8
    rcases q7 with q7 | q7
    · cases q7
    · subst q7
      rw [r1,r4 rfl] at hb
      cases ad <;> simp [ce] at hb
 have hrow:(k = 0 ∧ ∃ a,c.own id' = .slice a 0 0) ∨ ∃ ys,w.ownsRow 0 et es (c.own id') k ys ∧ ∀ r j,r < k → j < es → ∃ x,ys[r * es + j]? = some x ∧ b6 c.imm (f r j) x:=by
  rcases q5 with ⟨q6,xs,q7,q8⟩ | ⟨q6,q7,q8⟩
  · exact .inr ⟨xs,q7,q8⟩
  · rcases q6 with q6 | q6
    · cases q6
    · subst q6
      exact .inl ⟨rfl,zt q8⟩
 let o':b7:=((s.setO id (some (.nest e et es (n + 1) (nr m n k) (pj g n f) none))).setO id' none).o
 have oid:o' id = some (.nest e et es (n + 1) (nr m n k) (pj g n f) none):=by
  show (if id = id' then _ else if id = id then _ else _) = _
  rw [if_neg (Ne.symm hne),if_pos rfl]
 have oid':o' id' = none:=by
  show (if id' = id' then _ else _) = _
  rw [if_pos rfl]
 have oelse:∀ q,q ≠ id → q ≠ id' → o' q = s.o q:=fun q h1 h2=>by
  show (if q = id' then _ else if q = id then _ else _) = _
  rw [if_neg h2,if_neg h1]
 let c':Ctx:={ old:=c.old,imm:=c.imm,tab:=c.tab,own:=c.own,blk:=fun q=>if q = id then (fun b=>c.blk id b ∨ ce (c.own id') = some b) else c.blk q,rows:=fun q=>if q = id then (fun i=>if i = n then c.own id' else c.rows id i) else c.rows q }
 have rlt:∀ i,i < n → c'.rows id i = c.rows id i:=fun i hi=>by
  show (if id = id then (fun i=>if i = n then c.own id' else c.rows id i) else c.rows id) i = _
  rw [if_pos rfl]
  show (if i = n then _ else _) = _
  rw [if_neg (by omega)]
 have rn:c'.rows id n = c.own id':=by
  show (if id = id then (fun i=>if i = n then c.own id' else c.rows id i) else c.rows id) n = _
  rw [if_pos rfl]
  show (if n = n then _ else _) = _
  rw [if_pos rfl]
 have hevo:∀ q,Evo c s.o c' o' q:=fun q=>by
  by_cases h1:q = id
  · subst h1
    refine .inr (.inr ⟨_,_,1,e,n + 1,n + 1,ho,rfl,oid,rfl,Nat.le_refl _,fun _=>rfl,fun e2 et2 es2 n2 m2 g2 pd2 hb2=>?_⟩)
    cases hb2
    refine ⟨_,_,_,_,_,_,rfl,Nat.le_succ _,fun i hi=>⟨by rw [zr (by omega)];exact Nat.le_refl _,fun _=>rlt i hi⟩⟩
  · by_cases h2:q = id'
    · subst h2;exact .inl oid'
    · exact Evo.of_same (oelse q h1 h2) rfl (by show (if q = id then _ else _) = _;rw [if_neg h1])
 have bid:∀ q,q ≠ id → c'.blk q = c.blk q:=fun q hq=>by show (if q = id then _ else _) = _;rw [if_neg hq]
 have bself:∀ b,c'.blk id b ↔ (c.blk id b ∨ ce (c.own id') = some b):=fun b=>by
  show (if id = id then _ else c.blk id:Nat → Prop) b ↔ _
  rw [if_pos rfl]
 have hold:∀ q ob,o' q = some ob → q ≠ id → q ≠ id' ∧ s.o q = some ob:=fun q ob hq h1=>by
  by_cases h2:q = id'
  · subst h2;rw [oid'] at hq;cases hq
  · exact ⟨h2,by rw [← oelse q h1 h2];exact hq⟩
 have whose:∀ b,c'.blk id b → c.blk id b ∨ c.blk id' b:=fun b hb=>((bself b).1 hb).imp (fun z=>z) (hcb b)
 refine ⟨c',rfl,⟨h.defers,h.size,h.below,fun d x hx=>(h.tmps d x hx).evo (Imm.le.refl c.imm) fun q _=>hevo q,fun q ob hq=>?_,fun q q' ob ob' b hq hq' hb hb'=>?_,h.imm,fun q ob b hq hb=>?_,h.was,h.frm,fun q ob b hq hb=>?_,fun q hq=>(h.fixed q hq).trans (hevo q)⟩⟩
 · by_cases h1:q = id
   · subst h1
     have hq:o' q = some ob:=hq
     rw [oid] at hq
     cases hq
     have hlen:=hnk.len
     simp only [p6] at hlen
     refine ⟨hnk.pos,hlen,fun i hi=>?_,fun b=>?_,fun i b hi hb=>?_,fun i hi=>?_, .inr ?_⟩
     · by_cases hin:i = n
       · subst hin;rw [a8n];exact q1
       · rw [zr hin];exact hnk.lens i (by omega)
     · rw [bself,hnk.blks]
       constructor
       · rintro ((h2 | ⟨i,hi,h2⟩) | h2)
         · exact .inl h2
         · exact .inr ⟨i,by omega,by rw [rlt i hi];exact h2⟩
         · exact .inr ⟨n,by omega,by rw [rn];exact h2⟩
       · rintro (h2 | ⟨i,hi,h2⟩)
         · exact .inl (.inl h2)
         · by_cases hin:i = n
           · subst hin;rw [rn] at h2;exact .inr h2
           · rw [rlt i (by omega)] at h2;exact .inl (.inr ⟨i,by omega,h2⟩)
     · have far:∀ b,ce (c.own id') = some b → ¬ c.blk q b:=fun b h2 h3=>hne (h.inj id' q _ _ b ho' ho (hcb b h2) h3)
       by_cases hin:i = n
       · subst hin
         rw [rn] at hb
         refine ⟨fun h2=>far b hb ((hnk.blks b).2 (.inl h2)),fun i' hi' h2=>?_⟩
         by_cases hin':i' = i
         · exact hin'
         · rw [rlt i' (by omega)] at h2
           exact (far b hb ((hnk.blks b).2 (.inr ⟨i',by omega,h2⟩))).elim
       · rw [rlt i (by omega)] at hb
         obtain ⟨h2,h3⟩:=hnk.apart i b (by omega) hb
         refine ⟨h2,fun i' hi' h4=>?_⟩
         by_cases hin':i' = n
         · subst hin'
           rw [rn] at h4
           exact (far b h4 ((hnk.blks b).2 (.inr ⟨i,by omega,hb⟩))).elim
         · rw [rlt i' (by omega)] at h4
           exact h3 i' (by omega) h4
     · by_cases hin:i = n
       · subst hin
         rw [rn,a8n,ah2]
         exact hrow
       · rw [rlt i (by omega),zr hin,ab1 hin]
         exact hnk.row i (by omega)
     · rcases hnk.top with ⟨h2,_⟩ | ⟨xs,t1,t2,t3⟩
       · simp [p6] at h2
       · refine ⟨xs,t1,fun i hi=>?_,fun p hp=>by cases hp⟩
         by_cases hin:i = n
         · subst hin
           obtain ⟨x,hx,hxr⟩:=t3 _ rfl
           obtain ⟨_,_,hr3⟩:=hxr
           rw [rn,hx,(hr3 _ _ _ _ ho' rfl).2 rfl]
         · rw [rlt i (by omega)]
           exact t2 i (by omega)
   · obtain ⟨h2,h3⟩:=hold q ob hq h1
     exact (h.objs q ob h3).keep (Imm.le.refl c.imm) rfl (bid q h1) (fun j _=>hevo j) (fun b _=>rfl) (by show (if q = id then _ else _) = _;rw [if_neg h1])
 · by_cases h1:q = id
   · by_cases h2:q' = id
     · rw [h1,h2]
     · obtain ⟨h3,h4⟩:=hold q' ob' hq' h2
       rw [bid q' h2] at hb'
       subst h1
       rcases whose b hb with h5 | h5
       · exact h.inj q q' _ _ b ho h4 h5 hb'
       · exact (h3 (h.inj q' id' _ _ b h4 ho' hb' h5)).elim
   · obtain ⟨h3,h4⟩:=hold q ob hq h1
     rw [bid q h1] at hb
     by_cases h2:q' = id
     · subst h2
       rcases whose b hb' with h5 | h5
       · exact h.inj q q' _ _ b h4 ho hb h5
       · exact (h3 (h.inj q id' _ _ b h4 ho' hb h5)).elim
     · obtain ⟨h5,h6⟩:=hold q' ob' hq' h2
       rw [bid q' h2] at hb'
       exact h.inj q q' _ _ b h4 h6 hb hb'
 · by_cases h1:q = id
   · subst h1
     rcases whose b hb with h5 | h5
     · exact h.sep q _ b ho h5
     · exact h.sep id' _ b ho' h5
   · rw [bid q h1] at hb
     exact h.sep q ob b (hold q ob hq h1).2 hb
 · by_cases h1:q = id
   · subst h1
     rcases whose b hb with h5 | h5
     · exact h.fsep q _ b ho h5
     · exact h.fsep id' _ b ho' h5
   · rw [bid q h1] at hb
     exact h.fsep q ob b (hold q ob hq h1).2 hb
def vq (es:Nat) (m:Nat → Nat) (g:Nat → Nat → Nat → PV):Nat → Nat → PV:=fun i _=>.sl (m i) es false (g i)
open Classical in
noncomputable def thinImm (c:Ctx) (w:World) (id n:Nat):Imm:=fun b=>if ∃ i,i < n ∧ ce (c.rows id i) = some b then w.heap[b]? else c.imm b
theorem aq.thin (h:aq w0 nt c s a w) {id n:Nat} {e et:TypeId} {es:Nat} {m:Nat → Nat} {g:Nat → Nat → Nat → PV} (ho:s.o id = some (.nest e et es n m g none)) :
 ∃ c',c'.old = c.old ∧ aq w0 nt c' (s.setO id (some (.arr true 1 e n (vq es m g)))) a w:=by
 have hnk:kd 0 c s.o w id e et es n m g none:=h.objs id _ ho
 have hin:∀ b,(∃ i,i < n ∧ ce (c.rows id i) = some b) → c.blk id b:=fun b hb=>(hnk.blks b).2 (.inr hb)
 have hle:Imm.le c.imm (thinImm c w id n):=fun b ob hb=>by
  unfold thinImm
  by_cases hk:∃ i,i < n ∧ ce (c.rows id i) = some b
  · rw [h.sep id _ b ho (hin b hk)] at hb;cases hb
  · rw [if_neg hk];exact hb
 let ob':al:=.arr true 1 e n (vq es m g)
 let bk:Nat → Prop:=fun b=>ce (c.own id) = some b
 let c':Ctx:={ old:=c.old,imm:=thinImm c w id n,tab:=c.tab.mono hle,own:=c.own,blk:=fun q=>if q = id then bk else c.blk q,rows:=c.rows }
 have oid:(s.setO id (some ob')).o id = some ob':=by show (if id = id then _ else _) = _;rw [if_pos rfl]
 have oelse:∀ q,q ≠ id → (s.setO id (some ob')).o q = s.o q:=fun q hq=>by show (if q = id then _ else _) = _;rw [if_neg hq]
 have hevo:∀ q,Evo c s.o c' (s.setO id (some ob')).o q:=fun q=>by
  by_cases h1:q = id
  · subst h1
    exact .inr (.inr ⟨_, .arr true 1 e n (vq es m g),1,e,n,n,ho,rfl,oid,rfl,Nat.le_refl _,fun _=>rfl,fun _ _ _ _ _ _ _ hb=>by cases hb⟩)
  · exact Evo.of_same (oelse q h1) rfl rfl
 have bid:∀ q,q ≠ id → c'.blk q = c.blk q:=fun q hq=>by show (if q = id then _ else _) = _;rw [if_neg hq]
 have bself:c'.blk id = bk:=by show (if id = id then _ else _) = _;rw [if_pos rfl]
 have whose:∀ b,c'.blk id b → c.blk id b:=fun b hb=>by
  rw [bself] at hb
  exact (hnk.blks b).2 (.inl hb)
 have hrowP:∀ i,i < n → b6 (thinImm c w id n) (.sl (m i) es false (g i)) (c.rows id i):=fun i hi=>by
  obtain ⟨ad,cap,q1,q2,q3⟩:=a9j (h.objs id _ ho) hi
  refine ⟨ad,cap,q1,q2,q3,(fun hh=>by cases hh),fun hm=>?_⟩
  obtain ⟨b,cap',ys,r1,r2,_,r3⟩:=a3r (h.objs id _ ho) hi hm
  rw [q1] at r1
  simp only [Value.slice.injEq,true_and] at r1
  obtain ⟨rfl,rfl⟩:=r1
  refine ⟨b,0,rfl,fun r j hr hj=>?_⟩
  obtain ⟨x,_,hx,hxr⟩:=r3 r j hr hj
  refine ⟨x, ?_,b6.mono hle hxr⟩
  rw [Nat.zero_add]
  unfold io thinImm
  rw [if_pos ⟨i,hi,r2⟩]
  unfold World.cell? at hx
  dsimp only at hx
  split at hx
  · rename_i cs e0 fr hb'
    rw [hb']
    simpa using hx
  · cases hx
 refine ⟨c',rfl,⟨h.defers.keep (fun _ _=>rfl) (fun D hD hd=>?_),h.size,h.below,fun d x hx=>(h.tmps d x hx).evo hle fun q _=>hevo q,fun q ob hq=>?_,fun q q' ob ob2 b hq hq' hb hb'=>?_,fun b ob hb=>?_,fun q ob b hq hb=>?_,fun b hb=>?_,h.frm,fun q ob b hq hb=>?_,fun q hq=>(h.fixed q hq).trans (hevo q)⟩⟩
 · show thinImm c w id n D = none
   unfold thinImm
   rw [if_neg fun hk=>by
    obtain ⟨x1,hc,hdt⟩:=(h.objs id _ ho).data (hin D hk)
    rw [hd] at hc
    cases hc
    cases hdt]
   exact hD
 · by_cases h1:q = id
   · subst h1
     rw [oid] at hq
     cases hq
     refine ⟨Nat.one_pos,hnk.len, ?_⟩
     have hplain:n = 0 ∧ (∃ ad,c.own q = .slice ad 0 0) → (c'.blk q = gu (c.own q) ∧ ∃ xs,w.ownsRow 0 e 1 (c.own q) n xs ∧ ∀ i j,i < n → j < 1 → ∃ x,xs[i * 1 + j]? = some x ∧ b6 c'.imm (vq es m g i j) x) ∨
      ((true = false ∨ n = 0) ∧ c'.blk q = noB ∧ b6 c'.imm (.sl n 1 true (vq es m g)) (c.own q)):=by
      rintro ⟨rfl,ad,hv⟩
      refine .inr ⟨.inr rfl, ?_, ?_⟩
      · rw [bself]
        funext b
        show (ce (c.own q) = some b) = False
        rw [hv]
        cases ad <;> simp [ce]
      · rw [hv]
        exact ⟨ad,0,rfl,Nat.le_refl _,Nat.zero_le _,fun _=>rfl,fun hh=>absurd hh (Nat.lt_irrefl 0)⟩
     rcases hnk.top with ⟨h2,h3⟩ | ⟨xs,t1,t2,_⟩
     · exact hplain ⟨h2,h3⟩
     · have t1:w.ownsRow 0 e 1 (c.own q) n xs:=t1
       rcases ik t1 with r0 | ⟨b,cap,rv,rb⟩
       · exact hplain r0
       · refine .inl ⟨?_,xs,t1,fun i j hi hj=>?_⟩
         · rw [bself]
           funext b'
           show (ce (c.own q) = some b') = (d6 (c.own q) = some b')
           rw [rb,rv]
           rfl
         · obtain rfl:j = 0:=by omega
           exact ⟨_,by simpa using t2 i hi,hrowP i hi⟩
   · rw [oelse q h1] at hq
     exact (h.objs q ob hq).keep hle rfl (bid q h1) (fun j _=>hevo j) (fun b _=>rfl) rfl
 · by_cases h1:q = id
   · by_cases h2:q' = id
     · rw [h1,h2]
     · rw [oelse q' h2] at hq'
       rw [bid q' h2] at hb'
       subst h1
       exact h.inj q q' _ _ b ho hq' (whose b hb) hb'
   · rw [oelse q h1] at hq
     rw [bid q h1] at hb
     by_cases h2:q' = id
     · subst h2
       exact h.inj q q' _ _ b hq ho hb (whose b hb')
     · rw [oelse q' h2] at hq'
       rw [bid q' h2] at hb'
       exact h.inj q q' _ _ b hq hq' hb hb'
 · have hb:thinImm c w id n b = some ob:=hb
   unfold thinImm at hb
   split at hb
   · exact hb
   · exact h.imm b ob hb
 · show thinImm c w id n b = none
   unfold thinImm
   by_cases h1:q = id
   · subst h1
     rw [bself] at hb
     rw [if_neg fun ⟨i,hi,hk⟩=>(hnk.apart i b hi hk).1 hb]
     exact h.sep q _ b ho ((hnk.blks b).2 (.inl hb))
   · rw [oelse q h1] at hq
     rw [bid q h1] at hb
     rw [if_neg fun hk=>h1 (h.inj q id _ _ b hq ho hb (hin b hk))]
     exact h.sep q ob b hq hb
 · show thinImm c w id n b = c.old.1 b
   unfold thinImm
   rw [if_neg fun hk=>hb (h.fsep id _ b ho (hin b hk))]
   exact h.was b hb
 · by_cases h1:q = id
   · subst h1
     exact h.fsep q _ b ho (whose b hb)
   · rw [oelse q h1] at hq
     rw [bid q h1] at hb
     exact h.fsep q ob b hq hb
end
section
variable {ro:Option Nat} {P:Program} {nt:Nat} {st:HSt} {Q:Exit → HSt → Prop}
theorem anq {c:Code} (d id:Nat) {s':Nat} {f':Nat → Nat → PV} (e et:TypeId) (es:Nat) (m:Nat → Nat) (g:Nat → Nat → Nat → PV) (hs:0 < es) (hd:bp st.t d = some (bt (.sl 0 s' true f'))) (hn:ph id st = true)
 (h:HW (ro:=ro) P nt c ⟨(d,some (.v (.one (.ref id 0)))) :: st.t,(id,some (.nest e et es 0 m g none)) :: st.o⟩ Q):HW (ro:=ro) P nt c st Q:=by
 obtain ⟨hnm,hno⟩:=jm hn
 refine u6 ⟨st.t,(id,some (.nest e et es 0 m g none)) :: st.o⟩ d (.v (.one (.ref id 0))) (fun w0 m0 a w hr=>?_) h
 obtain ⟨cc,hold,hrr⟩:=hr
 have hx:b6 cc.imm (.sl 0 s' true f') (a.tmps.getD d undef):=hrr.tmps d _ hd
 have hfresh:=hrr.fresh id hnm hno (.nest e et es 0 m g none) w (a.tmps.getD d undef) noB (Grw.refl w none) (fun b hb=>hb.elim) (a67 hs (by simp) (by simpa using zt hx))
 refine ⟨_, ?_,by rw [oj];exact hfresh, ?_⟩
 · exact hold
 · rw [oj]
   refine ⟨b6.oneCell hx,fun l=>by simp [S.setO],fun ob1 s1 e1 n1 ho hd1=>?_⟩
   simp only [S.setO,if_true,Option.some.injEq] at ho
   subst ho
   simp only [al.dim,Option.some.injEq,Prod.mk.injEq] at hd1
   obtain ⟨rfl,rfl,rfl⟩:=hd1
   exact ⟨Nat.le_refl _,fun _=>by simp⟩
theorem a92 {c:Code} (id id':Nat) {k n:Nat} {e et:TypeId} {es:Nat} {m:Nat → Nat} {g:Nat → Nat → Nat → PV} {f:Nat → Nat → PV} (ho:bp st.o id = some (.nest e et es n m g (some (id',k)))) (ho':bp st.o id' = some (.arr true es et k f))
 (h:HW (ro:=ro) P nt c ⟨st.t,(id',none) :: (id,some (.nest e et es (n + 1) (nr m n k) (pj g n f) none)) :: st.o⟩ Q):HW (ro:=ro) P nt c st Q:=fun w0 m0 a w hr=>by
 obtain ⟨cc,hold,hrr⟩:=hr
 obtain ⟨c',h1,h2⟩:=hrr.absorb ho ho'
 refine h w0 m0 a w ⟨c',h1.trans hold, ?_⟩
 have e1:=qb ⟨st.t,(id,some (.nest e et es (n + 1) (nr m n k) (pj g n f) none)) :: st.o⟩ id'
 rw [oj] at e1
 rw [e1]
 exact h2
theorem agi {c:Code} (id:Nat) {n:Nat} {e et:TypeId} {es:Nat} {m:Nat → Nat} {g:Nat → Nat → Nat → PV} (ho:bp st.o id = some (.nest e et es n m g none))
 (h:HW (ro:=ro) P nt c ⟨st.t,(id,some (.arr true 1 e n (vq es m g))) :: st.o⟩ Q):HW (ro:=ro) P nt c st Q:=fun w0 m0 a w hr=>by
 obtain ⟨cc,hold,hrr⟩:=hr
 obtain ⟨c',h1,h2⟩:=hrr.thin ho
 refine h w0 m0 a w ⟨c',h1.trans hold, ?_⟩
 rw [oj]
 exact h2
end
theorem a6t {nt:Nat} {st:HSt} {w0:World} {m0:Old} {a:Act} {w:World} (bx off id:Nat) {s':Nat} {f':Nat → Nat → PV} {l:List HV} (e et:TypeId) (es:Nat) (m:Nat → Nat) (g:Nat → Nat → Nat → PV) (hs:0 < es) (hb:bp st.o bx = some (.box l)) (hl:l[off]? = some (.p (.sl 0 s' true f'))) (hn:ph id st = true) (hne:Nat.beq bx id = false)
 (hr:Rel w0 m0 nt st.den a w):Rel w0 m0 nt (HSt.den ⟨st.t,(bx,some (.box (b8 l off [.ref id 0]))) :: (id,some (.nest e et es 0 m g none)) :: st.o⟩) a w:=by
 obtain ⟨hnm,hno⟩:=jm hn
 obtain ⟨cc,hold,hrr⟩:=hr
 have hbi:bx ≠ id:=by rintro rfl;simp at hne
 obtain ⟨b0,C0,e0,p1,p2,p3,p4,p5⟩:=hrr.objs bx _ hb
 obtain ⟨u,hu,hur⟩:=p5.get off _ hl
 have hx:b6 cc.imm (.sl 0 s' true f') u:=hur
 have hfresh:=hrr.fresh id hnm hno (.nest e et es 0 m g none) w u noB (Grw.refl w none) (fun b hb=>hb.elim) (a67 hs (by simp) (by simpa using zt hx))
 rw [← oj] at hfresh
 have hb':(HSt.den ⟨st.t,(id,some (.nest e et es 0 m g none)) :: st.o⟩).o bx = some (.box l):=by
  simp only [HSt.den,bq,hbi,if_false];exact hb
 have hevo:∀ (c1:Ctx),c1.own = (fun k=>if k = id then u else cc.own k) → Evo { old:=cc.old,imm:=cc.imm,tab:=cc.tab,own:=fun k=>if k = id then u else cc.own k,blk:=fun k=>if k = id then noB else cc.blk k,rows:=cc.rows } (HSt.den ⟨st.t,(id,some (.nest e et es 0 m g none)) :: st.o⟩).o c1 ((HSt.den ⟨st.t,(id,some (.nest e et es 0 m g none)) :: st.o⟩).setO bx (some (.box (b8 l off [.ref id 0])))).o bx:=fun c1 h1 =>
  .inr (.inl ⟨l,b8 l off [.ref id 0],hb',by simp [S.setO],by rw [h1]⟩)
 have hown:(fun k=>if k = bx then (fun k=>if k = id then u else cc.own k) bx else (fun k=>if k = id then u else cc.own k) k) = fun k=>if k = id then u else cc.own k:=by
  funext k
  by_cases hk:k = bx
  · subst hk;simp
  · simp [hk]
 have hw:=hfresh.write bx (.box l) hb' (.box (b8 l off [.ref id 0])) w ((fun k=>if k = id then u else cc.own k) bx) ((fun k=>if k = id then noB else cc.blk k) bx) none (Grw.refl w _) (fun _ e=>by cases e) (hevo _ (by exact hown)) (fun b hb=>.inl hb) (by
  refine ⟨b0,C0,e0,by simpa [hbi] using p1,by simpa [hbi] using p2,p3,p4, ?_⟩
  have hoff:off < l.length:=(List.getElem?_eq_some_iff.1 hl).1
  have hcl:=p5.length
  refine b9.of_get ?_ fun k x u' hx' hu'=>?_
  · simp only [b8,List.length_append,List.length_take,List.length_drop,List.length_singleton];omega
  · have hx2:=hx'
    unfold b8 at hx2
    rw [cz l [HV.ref id 0] off k (by simp;omega)] at hx2
    by_cases hk:k = off
    · subst hk
      simp at hx2
      subst hx2
      rw [hu] at hu'
      simp only [Option.some.injEq] at hu'
      subst hu'
      refine ⟨b6.oneCell hx,fun l2=>by simp [S.setO,HSt.den,bq,Ne.symm hbi],fun ob1 s1 e1 n1 ho hd1=>?_⟩
      simp only [S.setO,HSt.den,bq,Ne.symm hbi,if_false,if_true,Option.some.injEq] at ho
      subst ho
      simp only [al.dim,Option.some.injEq,Prod.mk.injEq] at hd1
      obtain ⟨rfl,rfl,rfl⟩:=hd1
      exact ⟨Nat.le_refl _,fun _=>by simp [Ne.symm hbi]⟩
    · rw [if_neg (by simp;omega)] at hx2
      obtain ⟨u2,hu2,hr2⟩:=p5.get k x hx2
      rw [hu'] at hu2
      simp only [Option.some.injEq] at hu2
      subst hu2
      refine bh.evo (c:=cc) (o:=st.den.o) (Imm.le.refl cc.imm) (fun j hj=>?_) hr2
      have hji:j ≠ id:=by
       rintro rfl
       exact hnm.2.1 bx _ hb ⟨x,List.mem_of_getElem? hx2,hj⟩
      by_cases hjb:j = bx
      · subst hjb;exact .inr (.inl ⟨l,b8 l off [.ref id 0],hb,by simp [S.setO],by simp [hji]⟩)
      · exact Evo.of_same (by simp [S.setO,hjb,HSt.den,bq,hji]) (by simp [hjb,hji]))
 have e:HSt.den ⟨st.t,(bx,some (.box (b8 l off [.ref id 0]))) :: (id,some (.nest e et es 0 m g none)) :: st.o⟩ = (HSt.den ⟨st.t,(id,some (.nest e et es 0 m g none)) :: st.o⟩).setO bx (some (.box (b8 l off [.ref id 0]))):=by
  unfold HSt.den S.setO
  simp only [S.mk.injEq,true_and]
  funext k
  simp only [bq]
 rw [e]
 exact ⟨_,(by exact hold),hw⟩
theorem a8p {ro:Option Nat} {P:Program} {nt:Nat} {st:HSt} {Q:Exit → HSt → Prop} {c:Code} (bx off id:Nat) {s':Nat} {f':Nat → Nat → PV} {l:List HV} (e et:TypeId) (es:Nat) (m:Nat → Nat) (g:Nat → Nat → Nat → PV) (hs:0 < es) (hb:bp st.o bx = some (.box l)) (hl:l[off]? = some (.p (.sl 0 s' true f'))) (hn:ph id st = true) (hne:Nat.beq bx id = false)
 (h:HW (ro:=ro) P nt c ⟨st.t,(bx,some (.box (b8 l off [.ref id 0]))) :: (id,some (.nest e et es 0 m g none)) :: st.o⟩ Q):HW (ro:=ro) P nt c st Q:=fun w0 m0 a w hr=>h w0 m0 a w (a6t bx off id e et es m g hs hb hl hn hne hr)
end Go.Hx
end
section
namespace Go.Hx
abbrev Rw:=List Int
def ltZ:Rw → Rw → Bool
 | [],[]=>false
 | [],_ :: _=>true
 | _ :: _,[]=>false
 | x :: a,y :: b=>if x = y then ltZ a b else decide (x < y)
theorem qh:∀ a:Rw,ltZ a a = false
 | []=>rfl
 | x :: a=>by unfold ltZ;rw [if_pos rfl];exact qh a
theorem iw:∀ {a b c:Rw},ltZ a b = true → ltZ b c = true → ltZ a c = true
 | [],[],_,h,_=>by cases h
 | [],_ :: _,[],_,k=>by cases k
 | [],_ :: _,_ :: _,_,_=>rfl
 | _ :: _,[],_,h,_=>by cases h
 | _ :: _,_ :: _,[],_,k=>by cases k
 | x :: a,y :: b,z :: c,h,k=>by
  unfold ltZ at *
  by_cases hxy:x = y
  · rw [if_pos hxy] at h
    subst hxy
    by_cases hyz:x = z
    · rw [if_pos hyz] at k ⊢
      exact iw h k
    · rw [if_neg hyz] at k ⊢
      exact k
  · rw [if_neg hxy] at h
    have h:=of_decide_eq_true h
    by_cases hyz:y = z
    · subst hyz
      rw [if_neg hxy]
      exact decide_eq_true h
    · rw [if_neg hyz] at k
      have k:=of_decide_eq_true k
      rw [if_neg (by omega)]
      exact decide_eq_true (by omega)
theorem tn:∀ {a b:Rw},a ≠ b → ltZ a b = true ∨ ltZ b a = true
 | [],[],h=>absurd rfl h
 | [],_ :: _,_=>.inl rfl
 | _ :: _,[],_=>.inr rfl
 | x :: a,y :: b,h=>by
  unfold ltZ
  by_cases hxy:x = y
  · subst hxy
    rw [if_pos rfl,if_pos rfl]
    exact tn fun e=>h (by rw [e])
  · rw [if_neg hxy,if_neg (Ne.symm hxy),decide_eq_true_iff,decide_eq_true_iff]
    omega
def zC:Int → Nat → PV:=fun z _=>.raw (.int .i64 z)
abbrev zl (r:Rw):PV:=psl 1 zC r
def rC:Rw → Nat → PV:=fun r _=>zl r
abbrev rl (l:List Rw):PV:=psl 1 rC l
theorem ap6 {a b:Rw} (h:ltZ a b = true):ltZ b a = false:=by
 rw [Bool.eq_false_iff]
 intro k
 have:=iw h k
 rw [qh] at this
 cases this
def lx (l:List Rw):Prop:=l.Pairwise fun a b=>ltZ a b = true
theorem rj:∀ {l k:List Rw},lx l → lx k → (∀ x,x ∈ l ↔ x ∈ k) → l = k
 | [],[],_,_,_=>rfl
 | [],y :: k,_,_,h=>absurd ((h y).2 (List.mem_cons_self ..)) (by simp)
 | x :: l,[],_,_,h=>absurd ((h x).1 (List.mem_cons_self ..)) (by simp)
 | x :: l,y :: k,hl,hk,h=>by
  obtain ⟨h1,h2⟩:=List.pairwise_cons.1 hl
  obtain ⟨k1,k2⟩:=List.pairwise_cons.1 hk
  have e:x = y:=by
   rcases List.mem_cons.1 ((h x).1 (List.mem_cons_self ..)) with e | hx
   · exact e
   · rcases List.mem_cons.1 ((h y).2 (List.mem_cons_self ..)) with e | hy
     · exact e.symm
     · have:=ap6 (k1 x hx)
       rw [h1 y hy] at this
       cases this
  subst e
  congr 1
  refine rj h2 k2 fun z=>?_
  constructor
  · intro hz
    rcases List.mem_cons.1 ((h z).1 (List.mem_cons_of_mem _ hz)) with e | hz'
    · subst e
      have:=h1 z hz
      rw [qh] at this
      cases this
    · exact hz'
  · intro hz
    rcases List.mem_cons.1 ((h z).2 (List.mem_cons_of_mem _ hz)) with e | hz'
    · subst e
      have:=k1 z hz
      rw [qh] at this
      cases this
    · exact hz'
def ic (x:Rw):List Rw → List Rw
 | []=>[x]
 | y :: l=>if x = y then y :: l else if ltZ x y = true then x :: y :: l else y :: ic x l
theorem uz {x z:Rw}:∀ {l:List Rw},z ∈ ic x l ↔ z = x ∨ z ∈ l
 | []=>by simp [ic]
 | y :: l=>by
  unfold ic
  split
  · rename_i e
    subst e
    simp
  · split
    · simp
    · rw [List.mem_cons,uz,List.mem_cons]
      constructor
      · rintro (h | h | h) <;> simp [h]
      · rintro (h | h | h) <;> simp [h]
theorem vw {x:Rw}:∀ {l:List Rw},lx l → lx (ic x l)
 | [],_=>by simp [ic,lx]
 | y :: l,h=>by
  obtain ⟨h1,h2⟩:=List.pairwise_cons.1 h
  unfold ic
  split
  · exact h
  · split
    · rename_i hxy
      refine List.pairwise_cons.2 ⟨fun z hz=>?_,h⟩
      rcases List.mem_cons.1 hz with rfl | hz
      · exact hxy
      · exact iw hxy (h1 z hz)
    · rename_i hne hxy
      refine List.pairwise_cons.2 ⟨fun z hz=>?_,vw h2⟩
      rcases uz.1 hz with rfl | hz
      · exact (tn hne).resolve_left hxy
      · exact h1 z hz
def ay (l:List Rw):List Rw:=l.foldl (fun o x=>ic x o) []
theorem a0t:∀ {l o:List Rw},lx o → lx (l.foldl (fun o x=>ic x o) o) ∧ ∀ z,z ∈ l.foldl (fun o x=>ic x o) o ↔ z ∈ o ∨ z ∈ l
 | [],o,h=>⟨h,fun z=>by simp⟩
 | x :: l,o,h=>by
  obtain ⟨h1,h2⟩:=a0t (l:=l) (vw (x:=x) h)
  refine ⟨h1,fun z=>?_⟩
  show z ∈ l.foldl (fun o x=>ic x o) (ic x o) ↔ _
  rw [h2 z,uz,List.mem_cons]
  constructor
  · rintro ((h | h) | h) <;> simp [h]
  · rintro (h | h | h) <;> simp [h]
theorem gf (l:List Rw):lx (ay l):=(a0t (o:=[]) List.Pairwise.nil).1
theorem ff {l:List Rw} {z:Rw}:z ∈ ay l ↔ z ∈ l:=by
 show z ∈ l.foldl (fun o x=>ic x o) [] ↔ _
 rw [(a0t (l:=l) (o:=[]) List.Pairwise.nil).2 z]
 simp
theorem adz {l k:List Rw} (hk:lx k) (h:∀ z,z ∈ k ↔ z ∈ l):k = ay l:=rj hk (gf l) fun z=>by rw [h z,ff]
def j7 (l:List Rw) (k:Nat) (r:Rw):List Rw:=l.take k ++ r :: l.drop k
theorem jt {l:List Rw} {k:Nat} {r:Rw} (h:k ≤ l.length):(j7 l k r).length = l.length + 1:=by simp [j7];omega
theorem ar8 {l:List Rw} {r:Rw}:j7 l l.length r = l ++ [r]:=by simp [j7]
theorem z6 {l:List Rw} {k i:Nat} {r:Rw} (h:k ≤ l.length):(j7 l k r)[i]? = if i < k then l[i]? else if i = k then some r else l[i - 1]?:=by
 simp only [j7]
 by_cases h1:i < k
 · rw [if_pos h1,List.getElem?_append_left (by simp;omega),List.getElem?_take,if_pos h1]
 · rw [if_neg h1,List.getElem?_append_right (by simp;omega),List.length_take,Nat.min_eq_left h]
   by_cases h2:i = k
   · subst h2;simp
   · rw [if_neg h2]
     obtain ⟨d,rfl⟩:∃ d,i = k + 1 + d:=⟨i - k - 1,by omega⟩
     rw [show k + 1 + d - k = d + 1 by omega,List.getElem?_cons_succ,List.getElem?_drop]
     congr 1
     omega
theorem akg {l:List Rw} {k:Nat} {r:Rw} (h:k ≤ l.length):(j7 l k r).getD k default = r:=by
 rw [List.getD_eq_getElem?_getD,z6 h,if_neg (by omega),if_pos rfl];rfl
theorem a9u {l:List Rw} {k:Nat} {r:Rw} (h0:0 < k) (h:k ≤ l.length):(j7 l k r).getD (k - 1) default = l.getD (k - 1) default:=by
 rw [List.getD_eq_getElem?_getD,z6 h,if_pos (by omega),List.getD_eq_getElem?_getD]
theorem amp {l:List Rw} {k:Nat} {r:Rw} (h0:0 < k) (h:k ≤ l.length):((j7 l k r).set k (l.getD (k - 1) default)).set (k - 1) r = j7 l (k - 1) r:=by
 apply List.ext_getElem?
 intro i
 rw [z6 (by omega),List.getElem?_set,List.getElem?_set,List.length_set,jt h,z6 h]
 by_cases h1:k - 1 = i
 · subst h1
   rw [if_pos rfl,if_pos (by omega),if_neg (by omega),if_pos rfl]
 · rw [if_neg h1]
   by_cases h2:k = i
   · subst h2
     rw [if_pos rfl,if_pos (by omega),if_neg (by omega),if_neg (by omega),List.getD,List.getElem?_eq_getElem (by omega)]
     rfl
   · rw [if_neg h2]
     by_cases h3:i < k
     · rw [if_pos h3,if_pos (by omega)]
     · rw [if_neg h3,if_neg (by omega),if_neg (by omega),if_neg (by omega)]
theorem akr {l:List Rw} {k k' m':Nat} {r:Rw} (h0:0 < k) (hk:k ≤ l.length) (hk':k' = k) (hm':m' = k - 1) {n:Nat} (hn:n = l.length + 1) {e:TypeId} :
 CoO (.arr true 1 e n (dw (dw (lf rC (j7 l k r)) k' 0 [lf rC (j7 l k r) m' 0]) m' 0 [lf rC (j7 l k r) k' 0])) (.arr true 1 e n (lf rC (j7 l (k - 1) r))):=by
 subst hk' hm'
 rw [← amp h0 hk]
 refine agp (fun h=>h) (by rw [jt hk];exact hn) (by rw [jt hk];omega) (by rw [jt hk];omega) rfl rfl (fun j hj=>?_) (fun j hj=>?_)
 · obtain rfl:j = 0:=by omega
   exact CoP.of_eq (by show rC ((j7 l k' r).getD (k' - 1) default) 0 = _;rw [a9u h0 hk])
 · obtain rfl:j = 0:=by omega
   exact CoP.of_eq (by show rC ((j7 l k' r).getD k' default) 0 = _;rw [akg hk])
theorem amf {l:List Rw} {k k' m':Nat} {r:Rw} {b:Bool} (h0:0 < k) (hk:k ≤ l.length) (h:ltZ ((j7 l k r).getD k' default) ((j7 l k r).getD m' default) = b) (hk':k' = k) (hm':m' = k - 1):ltZ r (l.getD (k - 1) default) = b:=by
 subst hk' hm'
 rwa [akg hk,a9u h0 hk] at h
theorem aq0 {l:List Rw} {j:Nat} (h:j < l.length):l.getD j default ∈ l:=by
 rw [List.getD_eq_getElem?_getD,List.getElem?_eq_getElem h]
 exact List.getElem_mem h
theorem a9c {l:List Rw} {k:Nat} {r:Rw} (hs:lx l) (hr:r ∉ l) (hk:k ≤ l.length) (h1:∀ j,k ≤ j → j < l.length → ltZ r (l.getD j default) = true) (h2:k = 0 ∨ ¬ ltZ r (l.getD (k - 1) default) = true):j7 l k r = ic r l:=by
 refine rj ?_ (vw hs) fun z=>?_
 · unfold lx j7
   rw [List.pairwise_append]
   refine ⟨hs.sublist (List.take_sublist _ _),List.pairwise_cons.2 ⟨fun z hz=>?_,hs.sublist (List.drop_sublist _ _)⟩,fun y hy z hz=>?_⟩
   · obtain ⟨j,hj,rfl⟩:=List.getElem_of_mem hz
     rw [List.length_drop] at hj
     have:=h1 (k + j) (by omega) (by omega)
     rwa [List.getD_eq_getElem?_getD,List.getElem?_eq_getElem (by omega),Option.getD_some,← List.getElem_drop] at this
   · have hyr:ltZ y r = true:=by
      obtain ⟨j,hj,rfl⟩:=List.getElem_of_mem hy
      rw [List.length_take] at hj
      rcases h2 with h2 | h2
      · omega
      · have hk1:k - 1 < l.length:=by omega
        have hlast:ltZ (l.getD (k - 1) default) r = true:=by
         rcases tn (a:=r) (b:=l.getD (k - 1) default) (fun e=>hr (e ▸ aq0 hk1)) with h | h
         · exact absurd h h2
         · exact h
        rw [List.getElem_take]
        by_cases hjk:j = k - 1
        · subst hjk
          rwa [List.getD_eq_getElem?_getD,List.getElem?_eq_getElem hk1,Option.getD_some] at hlast
        · refine iw ?_ hlast
          rw [List.getD_eq_getElem?_getD,List.getElem?_eq_getElem hk1,Option.getD_some]
          exact List.pairwise_iff_getElem.1 hs j (k - 1) (by omega) hk1 (by omega)
     rcases List.mem_cons.1 hz with rfl | hz
     · exact hyr
     · have h3:ltZ r z = true:=by
        obtain ⟨j,hj,rfl⟩:=List.getElem_of_mem hz
        rw [List.length_drop] at hj
        have:=h1 (k + j) (by omega) (by omega)
        rwa [List.getD_eq_getElem?_getD,List.getElem?_eq_getElem (by omega),Option.getD_some,← List.getElem_drop] at this
       exact iw hyr h3
 · rw [uz]
   unfold j7
   rw [List.mem_append,List.mem_cons]
   constructor
   · rintro (h | h | h)
     · exact .inr (List.mem_of_mem_take h)
     · exact .inl h
     · exact .inr (List.mem_of_mem_drop h)
   · rintro (h | h)
     · exact .inr (.inl h)
     · rw [← List.take_append_drop k l,List.mem_append] at h
       rcases h with h | h
       · exact .inl h
       · exact .inr (.inr h)
theorem qx {r:Rw} {l:List Rw} (hs:lx l) (hr:r ∈ l):ic r l = l:=rj (vw hs) hs fun z=>by
 rw [uz]
 constructor
 · rintro (rfl | h)
   · exact hr
   · exact h
 · exact .inr
theorem dy {l:List Rw} {i:Nat} (hi:i < l.length):ay (l.take (i + 1)) = ic (l.getD i default) (ay (l.take i)):=by
 unfold ay
 rw [be hi,List.foldl_append]
 rfl
theorem abz (x:Rw):∀ l:List Rw,(ic x l).length ≤ l.length + 1
 | []=>by simp [ic]
 | y :: l=>by
  unfold ic
  have:=abz x l
  split
  · simp
  · split
    · simp
    · simp only [List.length_cons];omega
theorem vk (l:List Rw):(ay l).length ≤ l.length:=by
 have:∀ (l o:List Rw),(l.foldl (fun o x=>ic x o) o).length ≤ o.length + l.length:=by
  intro l
  induction l with
  | nil=>intro o;simp
  | cons x l ih =>
   intro o
   have h1:=ih (ic x o)
   have h2:=abz x o
   simp only [List.foldl_cons,List.length_cons]
   omega
 have h:=this l []
 simpa [ay] using h
end Go.Hx
end
section
namespace Go.Hx
abbrev pZ (r:Rw):PC:=.one (zl r)
abbrev pR (l:List Rw):PC:=.one (rl l)
abbrev pT (n:Int) (l:List Rw):PC:=.agg [.raw (.int .i64 n),rl l]
theorem acb:∀ {a b:Rw} {i:Nat},i < a.length → i < b.length → (∀ j,j < i → a.getD j default = b.getD j default) → ¬ a.getD i default = b.getD i default → ltZ a b = decide (a.getD i default < b.getD i default)
 | [],_,_,h,_,_,_=>by simp at h
 | _ :: _,[],_,_,h,_,_=>by simp at h
 | x :: a,y :: b,0,_,_,_,hn=>by
  have:¬ x = y:=hn
  unfold ltZ
  rw [if_neg this]
  rfl
 | x :: a,y :: b,i + 1,ha,hb,h,hn=>by
  have e:x = y:=h 0 (by omega)
  unfold ltZ
  rw [if_pos e]
  exact acb (by simpa using ha) (by simpa using hb) (fun j hj=>h (j + 1) (by omega)) hn
theorem a1o:∀ {a b:Rw},(∀ j,j < a.length → j < b.length → a.getD j default = b.getD j default) → ltZ a b = decide (a.length < b.length)
 | [],[],_=>rfl
 | [],_ :: _,_=>by simp [ltZ]
 | _ :: _,[],_=>by simp [ltZ]
 | x :: a,y :: b,h=>by
  have e:x = y:=h 0 (by simp) (by simp)
  unfold ltZ
  rw [if_pos e,a1o fun j h1 h2=>h (j + 1) (by simpa using h1) (by simpa using h2)]
  simp
def nc (a b:Rw):Int:=if a = b then 0 else if ltZ a b = true then -1 else 1
theorem av5 {a b:Rw} {i:Nat} (ha:i < a.length) (hb:i < b.length) (h:∀ j,j < i → a.getD j default = b.getD j default) (hn:¬ it (a.getD i default) (b.getD i default) = 0):it (a.getD i default) (b.getD i default) = nc a b:=by
 have hne:¬ a.getD i default = b.getD i default:=fun e=>hn (by unfold it;rw [if_neg (by omega),if_neg (by omega)])
 unfold it nc
 rw [if_neg (fun e:a = b=>hne (by rw [e])),acb ha hb h hne]
 simp only [decide_eq_true_eq]
 split
 · rfl
 · rw [if_pos (by omega)]
theorem b0y {a b:Int} (h:it a b = 0):a = b:=by
 unfold it at h
 split at h
 · omega
 · split at h <;> omega
theorem axc {a b:Rw} {i:Nat} (ha:i < a.length) (hb:¬ i < b.length) (h:∀ j,j < i → a.getD j default = b.getD j default):(1:Int) = nc a b:=by
 unfold nc
 rw [if_neg (fun e:a = b=>by subst e;omega),a1o fun j h1 h2=>h j (by omega),if_neg (by simp only [decide_eq_true_eq];omega)]
theorem aub {a b:Rw} (hl:a.length < b.length) (h:∀ j,j < a.length → a.getD j default = b.getD j default):(-1:Int) = nc a b:=by
 unfold nc
 rw [if_neg (fun e:a = b=>by subst e;omega),a1o fun j h1 h2=>h j h1,if_pos (by simp only [decide_eq_true_eq];omega)]
theorem awd {a b:Rw} (hl:a.length ≤ b.length) (hl2:¬ a.length < b.length) (h:∀ j,j < a.length → a.getD j default = b.getD j default):(0:Int) = nc a b:=by
 unfold nc
 rw [if_pos (mq (by omega) h)]
theorem asy {a b:Rw} (h:a.length = b.length) (hI:∀ j,j < a.length → decide (a.getD j default = b.getD j default) = true):a = b:=mq h fun j hj=>of_decide_eq_true (hI j hj)
theorem azq {a b:Nat} (h:∀ j,j < a → j < b):a ≤ b:=Nat.le_of_not_lt fun e=>Nat.lt_irrefl _ (h b e)
def j0 (a b:Rw) (s:AS):Bool:=decide (∀ i:Nat,i < a.length → (c4 s (i:Int) = true → a.getD i default = b.getD i default))
theorem akb {a b:Rw} {s:AS} {i:Nat} (hi:i < a.length) (h:c4 s (i:Int) = true) (hn:¬ a.getD i default = b.getD i default):j0 a b s = false:=decide_eq_false fun e=>hn (e i hi h)
theorem y8 {a b:Rw} {s:AS} (h:∀ i:Nat,i < a.length → (c4 s (i:Int) = true → a.getD i default = b.getD i default)):j0 a b s = true:=decide_eq_true h
theorem pl {s:AS} {i:Nat} (h:i < 32):d4 .and .u32 ((asI s).fdiv (2 ^ (min i 32))) 1 = 1 ↔ c4 s (i:Int) = true:=by
 rw [← aas (s:=s) (i:=(i:Int)) (by omega) (by omega),decide_eq_true_iff]
 rfl
def ll (n:Int) (l:List Rw) (i:Nat):Bool:=decide (((l.getD i default).length:Int) = n) && !(l.getD i default).any (fun x=>decide (x < 0)) && (decide (i = 0) || ltZ (l.getD (i - 1) default) (l.getD i default))
def tok (n:Int) (l:List Rw):Bool:=decide (0 ≤ n ∧ n ≤ 16 ∧ l.length ≤ 256) && decide (∀ i,i < l.length → ll n l i = true)
theorem ajq {n:Int} {l:List Rw} (h0:0 ≤ n) (h1:n ≤ 16) (h2:l.length ≤ 256) (h:∀ i,i < l.length → ll n l i = true):tok n l = true:=by
 unfold tok
 rw [decide_eq_true (show 0 ≤ n ∧ n ≤ 16 ∧ l.length ≤ 256 from ⟨h0,h1,h2⟩),decide_eq_true h]
 rfl
theorem xy {n:Int} {l:List Rw} (h:¬ (0 ≤ n ∧ n ≤ 16 ∧ l.length ≤ 256)):tok n l = false:=by
 unfold tok
 rw [decide_eq_false h]
 rfl
theorem zo {n:Int} {l:List Rw} {i:Nat} (hi:i < l.length) (h:ll n l i = false):tok n l = false:=by
 unfold tok
 rw [decide_eq_false (fun e:∀ i,i < l.length → ll n l i = true=>by rw [e i hi] at h;cases h),Bool.and_false]
def d5 (a b:Rw) (s:AS):Rw:=(List.range b.length).map fun (i:Nat)=>if c4 s (i:Int) = true then a.getD i default else b.getD i default
end Go.Hx
end
