/- A part of the proof: Cs21 Cs22 Cs23 Hx21. -/
import Derived.ChangeArms
import Derived.OpenShut
import Derived.ProofKit
import Derived.WalkKit
import Derived.WideKeyArgs
import Derived.Test.YtodligmokcbbkaaGreatDoorRx15
import Derived.Test.YtodligmokcbbkaaGreatDoorRx19
set_option linter.all false
section
namespace Go.Hx
theorem a4n {a s:AS} (h:sub a s) (hne:a ≠ s):bsz a < bsz s:=by
 rcases Nat.lt_or_eq_of_le (ank h) with h1 | h1
 · exact h1
 · exfalso
   apply hne
   have hs:(bj a).Sublist (bj s):=by
    have:bj a = (bj s).filter fun i=>a.getLsbD i:=by
     unfold bj
     rw [List.filter_filter]
     apply List.filter_congr
     intro i hi
     rw [List.mem_range] at hi
     cases ha:a.getLsbD i with
     | false=>rfl
     | true=>rw [bf.1 h i hi ha];rfl
    rw [this]
    exact List.filter_sublist
   rw [tc,tc] at h1
   have he:=hs.eq_of_length h1
   refine l7 h (bf.2 fun i hi hb=>?_)
   have:i ∈ bj s:=jr.2 ⟨hi,hb⟩
   rw [← he] at this
   exact (jr.1 this).2
def spA (l:List Fd) (s:AS):AS:=(a7x l s).lhs ||| (a7x l s).rhs
def spB (l:List Fd) (s:AS):AS:=s &&& ~~~(a7x l s).rhs
theorem ahp {a b:AS}:sub (a &&& b) b:=bf.2 fun i hi h=>by rw [BitVec.getLsbD_and,Bool.and_eq_true] at h;exact h.2
theorem a6y {a b:AS}:sub (a &&& b) a:=bf.2 fun i hi h=>by rw [BitVec.getLsbD_and,Bool.and_eq_true] at h;exact h.1
def afb (l:List Fd):Nat → List AS → List AS → List AS
 | 0,_,out=>out
 | n + 1,todo,out =>
  if todo.length = 0 then out
  else if qr l (todo.getD (todo.length - 1) default) = true then afb l n (todo.take (todo.length - 1) ++ [spA l (todo.getD (todo.length - 1) default),spB l (todo.getD (todo.length - 1) default)]) out
  else afb l n (todo.take (todo.length - 1)) (out ++ [todo.getD (todo.length - 1) default])
def arq (n:Int) (l:List Fd):List AS:=afb l 6562 [am n] []
def ay5 (n:Int) (l:List Fd):List AS:=if a2h n l 8 = 0 then a34 (arq n l) else []
def lu (todo:List AS):Nat:=(todo.map fun s=>3 ^ bsz s).sum
theorem a2p (a b:List AS):lu (a ++ b) = lu a + lu b:=by unfold lu;rw [List.map_append,List.sum_append]
theorem a8s:∀ todo:List AS,todo.length ≤ lu todo
 | []=>Nat.zero_le _
 | s :: t=>by
  have h1:=a8s t
  have h2:0 < 3 ^ bsz s:=Nat.pow_pos (by omega)
  have e:lu (s :: t) = 3 ^ bsz s + lu t:=by unfold lu;rw [List.map_cons,List.sum_cons]
  rw [List.length_cons,e]
  omega
theorem a7l {todo:List AS} (h:0 < todo.length):todo = todo.take (todo.length - 1) ++ [todo.getD (todo.length - 1) default]:=by
 have:=bh (l:=todo) (q:=todo.length - 1) (by omega)
 rw [show todo.length - 1 + 1 = todo.length by omega,List.take_length] at this
 exact this
def az0 (n:Int) (l:List Fd) (x:Nat × List AS × List AS):Prop:=afb l x.1 x.2.1 x.2.2 = arq n l ∧ lu x.2.1 < x.1 ∧ x.2.2.length + x.1 ≤ 6562
theorem agr {k:Nat} (h:k ≤ 32):bsz (l5 k) ≤ k:=by
 unfold bsz
 have e:(List.range 32).countP (fun i=>(l5 k).getLsbD i) = (List.range 32).countP fun i=>decide (i < k):=by
  apply List.countP_congr
  intro i hi
  rw [List.mem_range] at hi
  rw [nb k i hi]
 have h2:∀ m,(List.range m).countP (fun i=>decide (i < k)) ≤ k ∧ (List.range m).countP (fun i=>decide (i < k)) ≤ m:=by
  intro m
  induction m with
  | zero=>simp
  | succ m ih =>
   rw [List.range_succ,List.countP_append]
   simp only [List.countP_cons,List.countP_nil]
   by_cases hm:m < k
   · rw [if_pos (decide_eq_true hm)];omega
   · rw [if_neg (by simpa using hm)];omega
 rw [e]
 exact (h2 32).1
theorem al1 {n:Int} {m:Nat} (h:n ≤ m) (hm:m ≤ 32):bsz (am n) ≤ m:=by
 unfold am
 exact Nat.le_trans (agr (Nat.min_le_right _ _)) (by omega)
theorem ac5 {α:Type} [Inhabited α] {wr wr':Bool} {n m:Nat} {e:TypeId} {c:α → Nat → PV} {l:List α} {x y:α} {f g:Nat → Nat → PV} (hn:n = l.length) (hf:∀ i,i < l.length → CoP (f i 0) (lf c l i 0)) (h0:CoP (g 0 0) (c x 0)) (h1:CoP (g 1 0) (c y 0)) (hm:m = n + 2) (hw:wr' = true → wr = true:=by exact fun h=>h) :
 CoO (.arr wr 1 e m (fq n f g)) (.arr wr' 1 e (l ++ [x,y]).length (lf c (l ++ [x,y]))):=by
 subst hn hm
 refine ⟨hw,rfl,rfl,by simp,fun i j hi hj=>?_⟩
 obtain rfl:j = 0:=by omega
 unfold fq
 by_cases h:i < l.length
 · rw [if_pos h]
   have:=hf i h
   simp only [lf,List.getD,List.getElem?_append_left h] at this ⊢
   exact this
 · rw [if_neg h]
   rcases (by omega:i = l.length ∨ i = l.length + 1) with rfl | rfl
   · rw [Nat.sub_self]
     simp only [lf,List.getD]
     rw [List.getElem?_append_right (Nat.le_refl _),Nat.sub_self]
     exact h0
   · rw [show l.length + 1 - l.length = 1 by omega]
     simp only [lf,List.getD]
     rw [List.getElem?_append_right (by omega),show l.length + 1 - l.length = 1 by omega]
     exact h1
theorem a9k {α:Type} [Inhabited α] {wr wr':Bool} {k m:Nat} {e:TypeId} {c:α → Nat → PV} {l:List α} (hk:k ≤ l.length) (hm:m = k) (hw:wr' = true → wr = true:=by exact fun h=>h):CoO (.arr wr 1 e m (lf c l)) (.arr wr' 1 e (l.take k).length (lf c (l.take k))):=by
 subst hm
 refine ⟨hw,rfl,rfl,by rw [List.length_take,Nat.min_eq_left hk],fun i j hi hj=>CoP.of_eq ?_⟩
 simp only [lf,List.getD,List.getElem?_take,if_pos hi]
theorem aaz {l:List AS} {k i:Nat} (hi:i < (l.take k).length):lf sC l i 0 = lf sC (l.take k) i 0:=by
 rw [List.length_take] at hi
 simp only [lf,List.getD,List.getElem?_take,if_pos (show i < k by omega)]
end Go.Hx
end
section
namespace Go.Hx
open Go.Proofs
set_option maxRecDepth 100000
def awo:List Fd:=[⟨1,2⟩,⟨2,4⟩]
def axg:List Fd:=[⟨3,4⟩,⟨4,1⟩]
theorem a9u {α:Type} [Inhabited α] {wr wr':Bool} {e:TypeId} {c:α → Nat → PV} {x y:α} {f:Nat → Nat → PV} (h0:CoP (f 0 0) (c x 0)) (h1:CoP (f 1 0) (c y 0)) (hw:wr' = true → wr = true:=by exact fun h=>h):CoO (.arr wr 1 e 2 f) (.arr wr' 1 e 2 (lf c [x,y])) :=
 ⟨hw,rfl,rfl,rfl,fun i j hi hj=>by
  have hi:i < 2:=hi
  have hj:j < 1:=hj
  obtain rfl:j = 0:=by omega
  rcases (by omega:i = 0 ∨ i = 1) with rfl | rfl
  · exact h0
  · exact h1⟩
end Go.Hx
end
section
namespace Go.Hx
open Go.Proofs
def w1 (l:List Fd) (p:AS):Int:=if dy 16 l = 0 ∧ (8:Int) < bsz p then 3 else dy 16 l
section
variable {l:List Fd} {p:AS}
end
section
variable {n:Int} {l:List Fd}
end
end Go.Hx
end
section
namespace Go.Hx
open Go.RowKit Go.ChangeShapes Go.WideShapes Go.ChangeAt
def Rd (P:Program) (t:TypeId) (n:Nat) {α:Type} (c:α → Nat → PV):Prop :=
 ∀ (H:Type) (enc:TypeId × Value → H) (w:World) (sp:Nat → Bool) (held:Bool) (fuel:Nat) (cs:List Value) (x:DataW H × List MemPlace),DataW.trod enc P w 0 sp held fuel t cs = some x →
  cs.length = n ∧ ∃ a:α,∀ j,j < n → ∃ v,cs[j]? = some v ∧ b4 (du w) (c a j) v
section
variable {P:Program} {t e:TypeId}
def ap9 (k:IntKind) (z:Int):Nat → PV:=fun _=>.raw (.int k z)
def axh (b:Bool):Nat → PV:=fun _=>.raw (.bool b)
def atj (s:ByteArray):Nat → PV:=fun _=>.raw (.string s)
theorem ahr {k:IntKind} (ht:P.underlying t = some (.int k)):Rd P t 1 (ap9 k):=by
 intro H enc w sp held fuel cs x h
 obtain ⟨n,rfl,_,_⟩:=DataW.trod_int ht h
 refine ⟨rfl,n,fun j hj=>?_⟩
 obtain rfl:j = 0:=by omega
 exact ⟨_,rfl,rfl,rfl⟩
theorem z8 (ht:P.underlying t = some .string):Rd P t 1 atj:=by
 intro H enc w sp held fuel cs x h
 obtain ⟨n,rfl,_⟩:=DataW.trod_string ht h
 refine ⟨rfl,n,fun j hj=>?_⟩
 obtain rfl:j = 0:=by omega
 exact ⟨_,rfl,rfl,rfl⟩
def u8P (u:UInt8):Nat → PV:=fun _=>.raw (.int .u8 (u.toNat:Int))
theorem Rd.co {n:Nat} {α β:Type} {c:α → Nat → PV} {c':β → Nat → PV} (h:Rd P t n c) (f:α → β) (hc:∀ a j,j < n → CoP (c a j) (c' (f a) j)):Rd P t n c':=by
 intro H enc w sp held fuel cs x hx
 obtain ⟨h1,a,h2⟩:=h _ enc w sp held fuel cs x hx
 refine ⟨h1,f a,fun j hj=>?_⟩
 obtain ⟨v,h3,h4⟩:=h2 j hj
 exact ⟨v,h3,hc a j hj _ _ h4⟩
def aaf {α:Type} [Inhabited α] (s:Nat) (c:α → Nat → PV) (l:List α):Nat → PV:=fun _=>psl s c l
theorem aj7 {s:Nat} {α:Type} [Inhabited α] {c:α → Nat → PV} (ht:P.underlying t = some (.slice e)) (hc:P.cellsOf e = s) (hs:0 < s) (h:Rd P e s c):Rd P t 1 (aaf s c):=by
 classical
 intro H enc w sp held fuel cs x hx
 rcases DataW.trod_slice ht hx with ⟨rfl,_⟩ | ⟨a,len,cap,elems,rest,n,rfl,rfl,_,hb,hl,hm,hlen,hel,_,_⟩
 · refine ⟨rfl,[],fun j hj=>?_⟩
   obtain rfl:j = 0:=by omega
   exact ⟨_,rfl,none,0,rfl,Nat.le_refl _,Nat.zero_le _,(fun hh=>by cases hh),fun hh=>absurd hh (Nat.lt_irrefl 0)⟩
 · have each:∀ i,i < len → ∃ q:α,∀ j,j < s → ∃ v,w.cell? (a.add (i * s + j)) = some v ∧ b4 (du w) (c q j) v:=by
    intro i hi
    have h1:=hel i hi
    rw [hc] at h1
    rw [List.getElem?_eq_getElem (by omega)] at h1
    obtain ⟨cs',h2,h3⟩:=Option.bind_eq_some_iff.1 h1
    obtain ⟨_,h4,h5⟩:=World.cells?_some h2
    obtain ⟨_,q,h6⟩:=h _ enc w sp held n cs' _ h3
    refine ⟨q,fun j hj=>?_⟩
    obtain ⟨v,h7,h8⟩:=h6 j hj
    refine ⟨v, ?_,h8⟩
    have:=h5 j hj
    rw [h7] at this
    rw [← this]
    congr 1
    unfold Addr.add
    by_cases hj0:j = 0
    · subst hj0
      simp
    · by_cases hi0:i * s = 0
      · simp [hi0,hj0]
      · have:¬ (i * s + j = 0):=by omega
        simp only [hj0,hi0,this,if_false]
        congr 1
        omega
   refine ⟨rfl,(List.range len).map fun i=>if hi:i < len then Classical.choose (each i hi) else default,fun j hj=>?_⟩
   obtain rfl:j = 0:=by omega
   refine ⟨_,rfl,some a,cap,by simp,by simpa using hl,hm,(fun hh=>by cases hh),fun hn=>?_⟩
   have hn:0 < len:=by simpa using hn
   have hspot:a.spot = none:=by
    obtain ⟨q,hq⟩:=each 0 hn
    obtain ⟨v,hv,_⟩:=hq 0 hs
    have:a.add (0 * s + 0) = a:=by simp [Addr.add]
    rw [this] at hv
    unfold World.cell? at hv
    split at hv
    · split at hv
      · cases hv
      · rename_i hsp
        simpa using hsp
    · cases hv
   refine ⟨a.block,a.off, ?_,fun i j hi hj=>?_⟩
   · obtain ⟨b,o,spo⟩:=a
     simp only at hspot
     subst hspot
     rfl
   · have hi:i < len:=by simpa using hi
     have hch:=Classical.choose_spec (each i hi)
     obtain ⟨v,hv,hr⟩:=hch j hj
     refine ⟨v, ?_, ?_⟩
     · unfold World.cell? at hv
       have hblk:(a.add (i * s + j)).block = a.block:=by unfold Addr.add;split <;> rfl
       have hoff:(a.add (i * s + j)).off = a.off + (i * s + j):=by
        unfold Addr.add
        split
        · rename_i h0;rw [h0];rfl
        · rfl
       rw [hblk,hoff] at hv
       unfold gi du
       split at hv
       · rename_i hb'
         rw [hb']
         split at hv
         · cases hv
         · exact hv
       · cases hv
     · have:lf c ((List.range len).map fun i=>if hi:i < len then Classical.choose (each i hi) else default) i j = c (Classical.choose (each i hi)) j:=by
        unfold lf
        simp [List.getD,hi]
       rw [this]
       exact hr
theorem ag2 {H:Type} {enc:TypeId × Value → H} {w:World} {sp:Nat → Bool} {held:Bool} {fuel:Nat} {cs:List Value} {x:DataW H × List MemPlace} {fs:Array Field} (ht:P.underlying t = some (.struct fs)) (h:DataW.trod enc P w 0 sp held fuel t cs = some x) :
 cs.length = P.cellsOf t ∧ ∃ n,∀ (i:Nat) (f:Field),fs[i]? = some f → ∃ y,DataW.trod enc P w 0 sp held n f.type ((cs.drop f.offset).take (P.cellsOf f.type)) = some y:=by
 obtain ⟨xs,n,_,_,h1,h2,h3⟩:=DataW.trod_struct ht h
 refine ⟨h1,n,fun i f hf=>?_⟩
 have:=h3 i f hf
 rw [this]
 have hi:i < xs.length:=by rw [h2];exact (Array.getElem?_eq_some_iff.1 hf).1
 exact ⟨_,List.getElem?_eq_getElem hi⟩
theorem a8q {H:Type} {enc:TypeId × Value → H} {w:World} {sp:Nat → Bool} {held:Bool} {n off s:Nat} {ft:TypeId} {cs:List Value} {y:DataW H × List MemPlace} {α:Type} {c:α → Nat → PV} (h:Rd P ft s c) (hy:DataW.trod enc P w 0 sp held n ft ((cs.drop off).take (P.cellsOf ft)) = some y) :
 ∃ a:α,∀ j,j < s → ∃ v,cs[off + j]? = some v ∧ b4 (du w) (c a j) v:=by
 obtain ⟨h1,a,h2⟩:=h _ enc w sp held n _ y hy
 refine ⟨a,fun j hj=>?_⟩
 obtain ⟨v,h3,h4⟩:=h2 j hj
 refine ⟨v, ?_,h4⟩
 rw [List.getElem?_take] at h3
 split at h3
 · rwa [List.getElem?_drop] at h3
 · cases h3
end
theorem a7t {W W':World} (hb:Below W.heap.size W W') (may:MemPlace → Prop):W.keptBut W' may:=by
 refine ⟨hb.os,hb.output,fun i hi=>?_⟩
 rw [hb.block i hi]
 cases W.heap[i]? with
 | none=>exact rfl
 | some o=>cases o <;> first | exact ⟨rfl,rfl,rfl,fun _ _=>rfl⟩ | exact .inr ⟨rfl,rfl⟩ | exact rfl
theorem a7u {W W':World} (hb:Below W.heap.size W W') (p:MemPlace) (hp:p.block < W.heap.size):W.sameAt W' p:=by
 cases p with
 | cell b off=>show W'.cell? _ = W.cell? _;unfold World.cell?;rw [hb.block b hp]
 | map b=>exact hb.block b hp
section
variable {H:Type} {enc:TypeId × Value → H} {P:Program}
theorem y4 (hl:laidOutB P = true) {W W':World} {sp':Nat → Bool}:∀ {ts:List TypeId} {vs:List Value} {ds:List (DataW H)} {ps:List MemPlace},(∀ t ∈ ts,P.readableRec t = true ∧ t < P.types.size) → DataW.TrodAll enc P W 0 (fun _=>true) true ts vs ds ps →
 (∀ p ∈ ps,W.sameAt W' p) → (∀ p ∈ ps,sp' p.block = true) → DataW.TrodAll enc P W' 0 sp' true ts vs ds ps
 | [],[],[],ps,_,h,_,_=>h
 | t :: ts,v :: vs,d :: ds,ps,ht,⟨p,q,h1,h2,e⟩,hs,hsp=>by
  subst e
  refine ⟨p,q,WideElems.Trod_stays hl (ht t (by simp)).1 (ht t (by simp)).2 h1 (fun z hz=>hs z (by simp [hz])) (fun z hz=>hsp z (by simp [hz])), ?_,rfl⟩
  exact y4 hl (fun t ht'=>ht t (by simp [ht'])) h2 (fun z hz=>hs z (by simp [hz])) (fun z hz=>hsp z (by simp [hz]))
 | [],_ :: _,_,_,_,h,_,_=>h.elim
 | [],[],_ :: _,_,_,h,_,_=>h.elim
 | _ :: _,[],_,_,_,h,_,_=>h.elim
 | _ :: _,_ :: _,[],_,_,h,_,_=>h.elim
theorem ajq {f:Func} {s:ChangeSpec} {W W':World} {args:Array Value} {ds:List (DataW H)} {before:List MemPlace} {tb:TypeId} (hl:laidOutB P = true) (hpar:∀ t ∈ f.params.toList,P.readableRec t = true ∧ t < P.types.size)
 (hres:f.resultTypes = #[tb]) (htb:P.underlying tb = some .bool) (hv:s.vars = []) (hfn:s.fn H ds = { results:=[.lit (.bool true)],args:=ds })
 (hW:DataW.Whole enc P f.params.toList s.vars false W args.toList ds [] before) (hb:Below W.heap.size W W'):s.post enc P f false true false false W args (.bool true) W':=by
 have hW':=hW
 have hlt:∀ p ∈ before,p.block < W.heap.size:=fun p hp=>hW.lt p hp
 obtain ⟨p,q,hA,hV,rfl,hfz,hnd⟩:=hW
 rw [hv] at hV
 obtain ⟨_,rfl⟩:=trodVars_none hV
 have hfn':s.fn H (ds ++ []) = { results:=[.lit (.bool true)],args:=ds }:=by rw [List.append_nil];exact hfn
 have hargs:∀ sp:Nat → Bool,(∀ z ∈ p ++ [],sp z.block = true) → DataW.TrodAll enc P W' 0 sp true f.params.toList args.toList (s.fn H (ds ++ [])).args p:=fun sp hsp=>by
  rw [hfn']
  exact y4 hl hpar hA (fun z hz=>a7u hb z (hlt z (by simpa using hz))) (fun z hz=>hsp z (by simpa using hz))
 have hrs:∀ (b:Nat) (sp:Nat → Bool) (hd:Bool),DataW.TrodAll enc P W' b sp hd f.resultTypes.toList ((Value.bool true).resultList f.resultTypes.size) (s.fn H (ds ++ [])).results []:=fun b sp hd=>by
  rw [hfn',hres]
  exact trodAll_cons_mk (shut_bool htb _) trodAll_mk0
 have hok:∀ (j:Nat) (t:TypeId) (r:Value),f.resultTypes[j]? = some t → ((Value.bool true).resultList f.resultTypes.size)[j]? = some r → Value.okWide P W' .any 0 t r:=ok_one hres rfl (okWide_bool_mk htb _)
 have hvars:∀ sp:Nat → Bool,(∀ z ∈ p ++ [],sp z.block = true) → DataW.TrodVars enc P W' sp s.vars (s.fn H (ds ++ [])).vars []:=fun sp _=>by
  rw [hfn',hv];exact rfl
 have hold:∀ z ∈ p ++ [],(fun b=>decide (b < W.heap.size)) z.block = true:=fun z hz=>by simpa using hlt z hz
 refine ⟨ds,[],p ++ [],[],p,[],hW',hrs _ _ _,hargs _ hold,hvars _ hold,World.keptBut_mono (fun z hz=>⟨hz, ?_⟩) (a7t hb (· ∈ p ++ [])),fun _=>?_⟩
 · exact Or.inr (by simpa using hz)
 · refine ⟨hok,_,_,([] ++ p) ++ [],⟨[] ++ p,[],trodAll_append (hargs _ (fun _ _=>rfl)) (hrs _ _ _),hvars _ (fun _ _=>rfl),rfl, ?_, ?_⟩, ?_⟩
   · intro b off hp
     have hp':MemPlace.cell b off ∈ p ++ []:=by simpa using hp
     have:=hfz b off hp'
     unfold World.frozen? at this ⊢
     rw [hb.block b (hlt _ hp')]
     exact this
   · intro ha;cases ha
   · intro z hz _
     simpa using hz
end
theorem ai1 {P:Program} {f:FuncId} {args:List PC} {us:List Value} {W:World} {R:Ending → World → Prop} (ht:o8 (du W)) (h:aj P f args (ao [.one (.raw (.bool true))])) (hr:c5 (du W) args us) (hR:∀ W',Below W.heap.size W W' → R (.returned (.bool true)) W'):Calls P f us.toArray W R:=by
 refine (h W (du W) us ht (fun _ _ hh=>hh) hr).mono ?_
 rintro e w' ⟨v,imm',rfl,hv,_,_,hb⟩
 obtain ⟨rfl,_⟩:=hv
 exact hR w' hb
end Go.Hx
end
