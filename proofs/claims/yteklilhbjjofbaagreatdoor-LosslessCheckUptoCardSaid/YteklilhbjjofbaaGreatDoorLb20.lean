/- A part of the proof: Lw Hx26 Hx25 Ch1 Ch2. -/
import Derived.Deep.DeepHandedRow
import Derived.OpenShut
import Derived.ProofKit
import Derived.Test.YteklilhbjjofbaaGreatDoorCards
import Derived.Test.YteklilhbjjofbaaGreatDoorRows
import Derived.Test.YteklilhbjjofbaaGreatDoorTie
import Derived.WalkKit
import Derived.Test.YteklilhbjjofbaaGreatDoorLb19
set_option linter.all false
namespace Go.Hx
section
open Go.Proofs Go.ChangeShapes Go.WideShapes Go.ChangeAt Go.RowKit
def own:ownKnob b62.godebug = none:=by kernel_rfl
def avj : b62.globalNamed "math/bits.deBruijn32tab" = some 1 := by kernel_rfl
def ane:(b62.globals[1]?).map (·.type) = some 228:=by kernel_rfl
def anm:b62.cellsOf 228 = 32:=by kernel_rfl
def ate:b62.cellsOf 5 = 1:=by kernel_rfl
def acp:List Int:=[0,1,28,2,29,14,24,3,30,22,20,15,25,17,4,8,31,27,13,23,21,19,16,7,26,12,18,6,11,5,10,9]
def axk {W : World} (h : laidMetH b62 [("math/bits.deBruijn32tab", YteklilhbjjofbaaGreatDoor.Rows.laid_math_bits_deBruijn32tab)] W) : nn (eg W) := by
 have ht : Lib.TabIs b62 W "math/bits.deBruijn32tab" .u8 acp := Lib.tabIs_of_head (rest := []) avj ane Tryz.underlying228 Tryz.underlying5 ate anm h;intro b off v hv;unfold sg oh at hv;split at hv
 · have hlt:off < 32:=by
    rcases b4w off 32 with h | h
    · exact h
    rw [b3z (by simpa using h)] at hv;cases hv
   have hc:=ht.cell avj off hlt
   have e:v = .int .u8 (acp.getD off 0):=by
    have:(acp.map fun z=>Value.int .u8 z)[off]? = some v:=hv;rw [b2p] at this;rw [b26]
    cases hz:acp[off]? with
    | none=>rw [hz] at this;cases this
    | some z=>rw [hz] at this;exact (Option.some.inj this).symm
   rw [e];unfold World.cell? at hc;unfold fv eg;split at hc
   · rename_i c t fr hh
     rw [hh];simpa using hc
   cases hc
 cases hv
noncomputable def laidWorld (os:Os):World :=
 { World.holding b62 os ⟨#[],#[],[]⟩ with heap:=(World.holding b62 os ⟨#[],#[],[]⟩).heap.modify 1 fun
  | .cells _ t frozen=>.cells (acp.map fun z=>Value.int .u8 z).toArray t frozen
  | o=>o }
end
section
open Go.Proofs Go.Proofs.YteklilhbjjofbaaGreatDoor
open Go.RowKit Go.ChangeShapes Go.WideShapes Go.ChangeAt
section
variable {H:Type}
def w5 {d:DataW H} {l:List (DataW H)} (h:d ∈ l):Rows.uptoBulk d <= Rows.uptoBulkAll l:=by
 induction l with
 | nil=>cases h
 | cons x r ih =>
  rw [Rows.uptoBulkAll]
  rcases b2f.1 h with e | e
  · subst e;omega
  have:=ih e;omega
def arz (d:DataW H):1 <= Rows.uptoBulk d:=by
 cases d with
 | lit l=>cases l <;> simp [Rows.uptoBulk]
 | _=>simp [Rows.uptoBulk]
def an5 (l:List (DataW H)):l.length <= Rows.uptoBulkAll l:=by
 induction l with
 | nil=>simp
 | cons x r ih=>have:=arz x;rw [Rows.uptoBulkAll,b3m];omega
def ama {l r:List (DataW H)} {d:DataW H} (h:d ∈ l):Rows.uptoBulk d <= Rows.uptoBulk (.slice l r):=by
 have:=w5 h;rw [Rows.uptoBulk];omega
def aeh {l:List (DataW H)} {d:DataW H} (h:d ∈ l):Rows.uptoBulk d <= Rows.uptoBulk (.agg l):=by
 have:=w5 h;rw [Rows.uptoBulk];omega
def aqu (l r:List (DataW H)):l.length <= Rows.uptoBulk (.slice l r):=by
 have:=an5 l;rw [Rows.uptoBulk];omega
end
def RdB (P:Program) (t:TypeId) (n:Nat) {α:Type} (c:α -> Nat -> PV) (B:Nat -> α -> Prop):Prop :=
 ∀ (H:Type) (enc:TypeId × Value -> H) (w:World) (sp:Nat -> Bool) (held:Bool) (fuel:Nat) (cs:List Value) (x:DataW H × List MemPlace),DataW.trod enc P w 0 sp held fuel t cs = some x ->
  cs.length = n /\ ∃ a:α,B (Rows.uptoBulk x.1) a /\ ∀ j,j < n -> ∃ v,cs[j]? = some v /\ aj (eg w) (c a j) v
section
variable {P:Program} {t e:TypeId}
theorem Rd.toB {n:Nat} {α:Type} {c:α -> Nat -> PV} (h:Rd P t n c):RdB P t n c fun _ _=>True:=by
 intro H enc w sp held fuel cs x hx;obtain ⟨h1,a,h2⟩:=h _ enc w sp held fuel cs x hx;exact ⟨h1,a,trivial,h2⟩
section
variable {α:Type} {B:Nat -> α -> Prop} {c:α -> Nat -> PV}
theorem RdB.co {n:Nat} {β:Type} {c':β -> Nat -> PV} {B':Nat -> β -> Prop} (h:RdB P t n c B) (f:α -> β) (hB:∀ b a,B b a -> B' b (f a)) (hc:∀ a j,j < n -> CoP (c a j) (c' (f a) j)):RdB P t n c' B':=by
 intro H enc w sp held fuel cs x hx;obtain ⟨h1,a,h0,h2⟩:=h _ enc w sp held fuel cs x hx;refine ⟨h1,f a,hB _ _ h0,fun j hj=>?_⟩;obtain ⟨v,h3,h4⟩:=h2 j hj;exact ⟨v,h3,hc a j hj _ _ h4⟩
def a08 {s:Nat} [Inhabited α] (mono:∀ b b' x,b <= b' -> B b x -> B b' x) (ht:P.underlying t = some (.slice e)) (hc:P.cellsOf e = s) (hs:0 < s) (h:RdB P e s c B):RdB P t 1 (agd s c) (fun b l=>l.length <= b /\ ∀ i,i < l.length -> B b (l.getD i default)):=by
 classical
 intro H enc w sp held fuel cs x hx
 rcases DataW.trod_slice ht hx with ⟨rfl,_⟩ | ⟨a,len,cap,elems,rest,n,rfl,rfl,rfl,hb,hl,hm,hlen,hel,_,_⟩
 · refine ⟨rfl,[],⟨b2b _,fun i hi=>absurd hi (b2c i)⟩,fun j hj=>?_⟩
   obtain rfl:j = 0:=by omega
   exact ⟨_,rfl,none,0,rfl,b29 _,b2b _,(fun hh=>by cases hh),fun hh=>absurd hh (b50 0)⟩
 have each:∀ i,i < len -> ∃ q:α,B (Rows.uptoBulk (DataW.slice (elems.map (·.1)) (rest.map (·.1)))) q /\ ∀ j,j < s -> ∃ v,w.cell? (a.add (i * s + j)) = some v /\ aj (eg w) (c q j) v:=by
  intro i hi;have h1:=hel i hi;rw [hc] at h1;rw [b25 b5c] at h1;obtain ⟨cs',h2,h3⟩:=Option.bind_eq_some_iff.1 h1;obtain ⟨_,h4,h5⟩:=World.cells?_some h2;obtain ⟨_,q,h9,h6⟩:=h _ enc w sp held n cs' _ h3;refine ⟨q,mono _ _ q (ama (List.mem_map_of_mem (b2l _))) h9,fun j hj=>?_⟩;obtain ⟨v,h7,h8⟩:=h6 j hj;refine ⟨v, ?_,h8⟩;have:=h5 j hj;rw [h7] at this;rw [<- this];congr 1;unfold Addr.add;by_cases hj0:j = 0
  · subst hj0
    simp
  by_cases hi0:i * s = 0
  · simp [hi0,hj0]
  have:¬ (i * s + j = 0):=by omega
  simp only [hj0,hi0,this,if_false];congr 1;omega
 refine ⟨rfl,(List.range len).map fun i=>if hi:i < len then Classical.choose (each i hi) else default,⟨?_,fun i hi=>?_⟩,fun j hj=>?_⟩
 · rw [b33,List.length_range,<- hlen]
   have:=aqu (elems.map (·.1)) (rest.map (·.1));rw [b33] at this;exact this
 · have hi:i < len:=by simpa using hi
   have hch:=(Classical.choose_spec (each i hi)).1;have e:((List.range len).map fun i=>if hi:i < len then Classical.choose (each i hi) else default).getD i default = Classical.choose (each i hi):=by simp [List.getD,hi]
   rw [e];exact hch
 obtain rfl:j = 0:=by omega
 refine ⟨_,rfl,some a,cap,by simp,by simpa using hl,hm,(fun hh=>by cases hh),fun hn=>?_⟩;have hn:0 < len:=by simpa using hn
 have hspot:a.spot = none:=by
  obtain ⟨q,_,hq⟩:=each 0 hn;obtain ⟨v,hv,_⟩:=hq 0 hs;have:a.add (0 * s + 0) = a:=by simp [Addr.add]
  rw [this] at hv;unfold World.cell? at hv;split at hv
  · split at hv
    · cases hv
    rename_i hsp;simpa using hsp
  cases hv
 refine ⟨a.block,a.off, ?_,fun i j hi hj=>?_⟩
 · obtain ⟨b,o,spo⟩:=a
   simp only at hspot;subst hspot;rfl
 have hi:i < len:=by simpa using hi
 have hch:=(Classical.choose_spec (each i hi)).2;obtain ⟨v,hv,hr⟩:=hch j hj;refine ⟨v, ?_, ?_⟩
 · unfold World.cell? at hv
   have hblk:(a.add (i * s + j)).block = a.block:=by unfold Addr.add;split <;> rfl
   have hoff:(a.add (i * s + j)).off = a.off + (i * s + j):=by
    unfold Addr.add;split
    · rename_i h0;rw [h0];rfl
    rfl
   rw [hblk,hoff] at hv;unfold fv eg;split at hv
   · rename_i hb'
     rw [hb'];split at hv
     · cases hv
     exact hv
   cases hv
 have:lf c ((List.range len).map fun i=>if hi:i < len then Classical.choose (each i hi) else default) i j = c (Classical.choose (each i hi)) j:=by
  unfold lf;simp [List.getD,hi]
 rw [this];exact hr
def a4v {H:Type} {enc:TypeId × Value -> H} {w:World} {sp:Nat -> Bool} {held:Bool} {fuel:Nat} {cs:List Value} {x:DataW H × List MemPlace} {fs:Array Field} (ht:P.underlying t = some (.struct fs)) (h:DataW.trod enc P w 0 sp held fuel t cs = some x) :
 cs.length = P.cellsOf t /\ ∃ n,∀ (i:Nat) (f:Field),fs[i]? = some f -> ∃ y,DataW.trod enc P w 0 sp held n f.type ((cs.drop f.offset).take (P.cellsOf f.type)) = some y /\ Rows.uptoBulk y.1 <= Rows.uptoBulk x.1:=by
 obtain ⟨xs,n,_,rfl,h1,h2,h3⟩:=DataW.trod_struct ht h;refine ⟨h1,n,fun i f hf=>?_⟩;have:=h3 i f hf;rw [this];have hi:i < xs.length:=by rw [h2];exact (b28.1 hf).1
 exact ⟨_,b25 hi,aeh (List.mem_map_of_mem (b2l hi))⟩
def ey {H:Type} {enc:TypeId × Value -> H} {w:World} {sp:Nat -> Bool} {held:Bool} {n off s b:Nat} {ft:TypeId} {cs:List Value} {y:DataW H × List MemPlace} (mono:∀ b b' x,b <= b' -> B b x -> B b' x) (h:RdB P ft s c B) (hy:DataW.trod enc P w 0 sp held n ft ((cs.drop off).take (P.cellsOf ft)) = some y /\ Rows.uptoBulk y.1 <= b):
 ∃ a:α,B b a /\ ∀ j,j < s -> ∃ v,cs[off + j]? = some v /\ aj (eg w) (c a j) v:=by
 obtain ⟨h1,a,h0,h2⟩:=h _ enc w sp held n _ y hy.1;refine ⟨a,mono _ _ a hy.2 h0,fun j hj=>?_⟩;obtain ⟨v,h3,h4⟩:=h2 j hj;refine ⟨v, ?_,h4⟩;rw [b2o] at h3;split at h3
 · rwa [b42] at h3
 cases h3
def as9 {H:Type} {enc:TypeId × Value -> H} {W:World} {v:Value} {d:DataW H} {ps:List MemPlace} (h:RdB P t 1 c B) (hc:v.cells.toList = [v]) (hd:DataW.Trod enc P W 0 (fun _=>true) true t v d ps):∃ a:α,B (Rows.uptoBulk d) a /\ aj (eg W) (c a 0) v:=by
 obtain ⟨fuel,hf⟩:=hd;obtain ⟨_,a,h0,ha⟩:=h _ enc W _ _ fuel _ _ hf;obtain ⟨u,hu,hr⟩:=ha 0 b5c;rw [hc] at hu;simp only [List.getElem?_cons_zero,b24] at hu;subst hu;exact ⟨a,h0,hr⟩
end
end
section
variable {P:Program} {t e:TypeId}
def aaf {H:Type} {enc:TypeId × Value -> H} {w:World} {sp:Nat -> Bool} {held:Bool} {fuel:Nat} {cs:List Value} {x:DataW H × List MemPlace} {k:Nat} (ht:P.underlying t = some (.array k e)) (h:DataW.trod enc P w 0 sp held fuel t cs = some x) :
 cs.length = P.cellsOf t /\ ∃ n,∀ i,i < k -> ∃ y,DataW.trod enc P w 0 sp held n e ((cs.drop (i * P.cellsOf e)).take (P.cellsOf e)) = some y /\ Rows.uptoBulk y.1 <= Rows.uptoBulk x.1:=by
 obtain ⟨xs,n,_,rfl,h1,h2,h3⟩:=DataW.trod_array ht h;refine ⟨h1,n,fun i hi=>?_⟩;have:=h3 i hi;rw [this];have hi:i < xs.length:=by omega
 exact ⟨_,b25 hi,aeh (List.mem_map_of_mem (b2l hi))⟩
def aga {n:Nat} {W:World} {r:Reach} {b:Nat} {v:Value} (ht:P.underlying t = some (.array n e)) (h:Value.okWide P W r b t v):∃ cs,v = .agg cs:=by
 unfold Value.okWide at h;rw [ht] at h;obtain ⟨cs,h1,_⟩:=h;exact ⟨cs,h1⟩
def aco {m:Imm} {c:Nat -> PV}:∀ {n:Nat} {us:List Value} {k:Nat},us.length = n -> (∀ j,j < n -> ∃ v,us[j]? = some v /\ aj m (c (k + j)) v) -> dj m ((List.range' k n).map c) us
 | 0,[],_,_,_=>trivial
 | n + 1,u :: us,k,hl,h=>by
  obtain ⟨v,h1,h2⟩:=h 0 b5c;simp only [List.getElem?_cons_zero,b24] at h1;subst h1;refine ⟨h2,aco (n:=n) (k:=k + 1) (by simpa using hl) fun j hj=>?_⟩;obtain ⟨v,h3,h4⟩:=h (j + 1) b5c;refine ⟨v,by simpa using h3, ?_⟩;rwa [show k + 1 + j = k + (j + 1) by omega]
 | 0,_ :: _,_,h,_=>by cases h
 | _ + 1,[],_,h,_=>by cases h
def aeo {H:Type} {enc:TypeId × Value -> H} {W:World} {cs:Array Value} {d:DataW H} {ps:List MemPlace} {n:Nat} {α:Type} {c:α -> Nat -> PV} {B:Nat -> α -> Prop} (h:RdB P t n c B) (hd:DataW.Trod enc P W 0 (fun _=>true) true t (.agg cs) d ps) :
 ∃ a:α,B (Rows.uptoBulk d) a /\ gv (eg W) (.agg ((List.range' 0 n).map (c a))) (.agg cs):=by
 obtain ⟨fuel,hf⟩:=hd;obtain ⟨hl,a,h0,ha⟩:=h _ enc W _ _ fuel _ _ hf;refine ⟨a,h0,cs.toList,by simp,aco hl fun j hj=>?_⟩;rw [b2r];exact ha j hj
end
end
section
open Go.RowKit
section
variable {w0:World} {nt:Nat} {c:Ctx} {s:S} {a:Act} {w:World}
section
variable {g:Nat -> Nat -> Nat -> PV} {m:Nat -> Nat}
def a3x {base:Nat} {o:ar} {id:Nat} {e et:TypeId} {es:Nat} (hes:0 < es) (hb:c.blk id = noB) (hv:∃ ad,c.own id = .slice ad 0 0):cw base c o w id (.nest e et es 0 m g none):=by
 obtain ⟨ad,hv⟩:=hv;refine ⟨hes,b2b _,fun i hi=>absurd hi (b2c i),fun b=>?_,fun i b hi=>absurd hi (b2c i),fun i hi=>absurd hi (b2c i), .inl ⟨rfl,ad,hv⟩⟩;rw [hb,hv];constructor
 · exact fun h=>h.elim
 rintro (h | ⟨i,hi,_⟩)
 · cases ad <;> simp [bh] at h
 exact absurd hi (b2c i)
variable {f:Nat -> Nat -> PV}
def yb {imm:Imm} {s':Nat} {u:Value} (h:aj imm (.sl 0 s' true f) u):∃ ad,u = .slice ad 0 0:=by
 obtain ⟨ad,cap,rfl,_,_,hc,_⟩:=h;rw [hc rfl];exact ⟨ad,rfl⟩
def lq (m:Nat -> Nat) (n k:Nat):Nat -> Nat:=fun i=>bif Nat.beq i n then k else m i
def np (g:Nat -> Nat -> Nat -> PV) (n:Nat) (f:Nat -> Nat -> PV):Nat -> Nat -> Nat -> PV:=fun i=>bif Nat.beq i n then f else g i
def a68 (m:Nat -> Nat) (n k:Nat):lq m n k n = k:=by simp [lq]
def yh {n k i:Nat} (h:i ≠ n):lq m n k i = m i:=by
 have:Nat.beq i n = false:=by rw [b2e];exact fun hb=>h (b2n hb)
 simp [lq,this]
def aec (g:Nat -> Nat -> Nat -> PV) (n:Nat) (f:Nat -> Nat -> PV):np g n f n = f:=by simp [np]
def aa1 {n i:Nat} (h:i ≠ n):np g n f i = g i:=by
 have:Nat.beq i n = false:=by rw [b2e];exact fun hb=>h (b2n hb)
 simp [np,this]
def aaz {v:Value} {b:Nat} (h:bh v = some b):b9 v = some b:=by
 unfold bh at h;split at h
 · split at h
   · cases h
   exact h
 cases h
def aa.absorb (h:aa w0 nt c s a w) {id id' k n:Nat} {e et:TypeId} {es:Nat} (ho:s.o id = some (.nest e et es n m g (some (id',k)))) (ho':s.o id' = some (.arr true es et k f)):
 ∃ c',c'.old = c.old /\ aa w0 nt c' ((s.setO id (some (.nest e et es (n + 1) (lq m n k) (np g n f) none))).setO id' none) a w:=by
 have hne:id' ≠ id:=by rintro rfl;rw [ho] at ho';cases ho'
 have hnk:jc 0 c s.o w id e et es n m g (some (id',k)):=h.objs id _ ho;obtain ⟨q0,q1,q5⟩:=h.objs id' _ ho'
 have hcb:∀ b,bh (c.own id') = some b -> c.blk id' b:=fun b hb=>by
  rcases q5 with ⟨q6,_⟩ | ⟨q7,_,q8⟩
  · rw [q6];exact aaz hb
  obtain ⟨ad,cap,r1,_,_,r4,_⟩:=q8
  rcases q7 with q7 | q7
  · cases q7
  subst q7;rw [r1,r4 rfl] at hb;cases ad <;> simp [bh] at hb
 have hrow:(k = 0 /\ ∃ a,c.own id' = .slice a 0 0) \/ ∃ ys,w.ownsRow 0 et es (c.own id') k ys /\ ∀ r j,r < k -> j < es -> ∃ x,ys[r * es + j]? = some x /\ aj c.imm (f r j) x:=by
  rcases q5 with ⟨q6,xs,q7,q8⟩ | ⟨q6,q7,q8⟩
  · exact .inr ⟨xs,q7,q8⟩
  rcases q6 with q6 | q6
  · cases q6
  subst q6;exact .inl ⟨rfl,yb q8⟩
 let o':ar:=((s.setO id (some (.nest e et es (n + 1) (lq m n k) (np g n f) none))).setO id' none).o
 have oid:o' id = some (.nest e et es (n + 1) (lq m n k) (np g n f) none):=by
  show (if id = id' then _ else if id = id then _ else _) = _;rw [if_neg (Ne.symm hne),if_pos rfl]
 have oid':o' id' = none:=by
  show (if id' = id' then _ else _) = _;rw [if_pos rfl]
 have oelse:∀ q,q ≠ id -> q ≠ id' -> o' q = s.o q:=fun q h1 h2=>by
  show (if q = id' then _ else if q = id then _ else _) = _;rw [if_neg h2,if_neg h1]
 let c':Ctx:={ old:=c.old,imm:=c.imm,tab:=c.tab,own:=c.own,blk:=fun q=>if q = id then (fun b=>c.blk id b \/ bh (c.own id') = some b) else c.blk q,rows:=fun q=>if q = id then (fun i=>if i = n then c.own id' else c.rows id i) else c.rows q }
 have rlt:∀ i,i < n -> c'.rows id i = c.rows id i:=fun i hi=>by
  show (if id = id then (fun i=>if i = n then c.own id' else c.rows id i) else c.rows id) i = _;rw [if_pos rfl];show (if i = n then _ else _) = _;rw [if_neg b5c]
 have rn:c'.rows id n = c.own id':=by
  show (if id = id then (fun i=>if i = n then c.own id' else c.rows id i) else c.rows id) n = _;rw [if_pos rfl];show (if n = n then _ else _) = _;rw [if_pos rfl]
 have hevo:∀ q,Evo c s.o c' o' q:=fun q=>by
  by_cases h1:q = id
  · subst h1
    refine .inr (.inr ⟨_,_,1,e,n + 1,n + 1,ho,rfl,oid,rfl,b29 _,fun _=>rfl,fun e2 et2 es2 n2 m2 g2 pd2 hb2=>?_⟩);cases hb2;refine ⟨_,_,_,_,_,_,rfl,b49 _,fun i hi=>⟨by rw [yh b5c];exact b29 _,fun _=>rlt i hi⟩⟩
  by_cases h2:q = id'
  · subst h2;exact .inl oid'
  exact Evo.of_same (oelse q h1 h2) rfl (by show (if q = id then _ else _) = _;rw [if_neg h1])
 have bid:∀ q,q ≠ id -> c'.blk q = c.blk q:=fun q hq=>by show (if q = id then _ else _) = _;rw [if_neg hq]
 have bself:∀ b,c'.blk id b <-> (c.blk id b \/ bh (c.own id') = some b):=fun b=>by
  show (if id = id then _ else c.blk id:Nat -> Prop) b <-> _;rw [if_pos rfl]
 have hold:∀ q ob,o' q = some ob -> q ≠ id -> q ≠ id' /\ s.o q = some ob:=fun q ob hq h1=>by
  by_cases h2:q = id'
  · subst h2;rw [oid'] at hq;cases hq
  exact ⟨h2,by rw [<- oelse q h1 h2];exact hq⟩
 have whose:∀ b,c'.blk id b -> c.blk id b \/ c.blk id' b:=fun b hb=>((bself b).1 hb).imp (fun z=>z) (hcb b);refine ⟨c',rfl,⟨h.defers,h.size,h.below,fun d x hx=>(h.tmps d x hx).evo (Imm.le.refl c.imm) fun q _=>hevo q,fun q ob hq=>?_,fun q q' ob ob' b hq hq' hb hb'=>?_,h.imm,fun q ob b hq hb=>?_,h.was,h.frm,fun q ob b hq hb=>?_,fun q hq=>(h.fixed q hq).trans (hevo q)⟩⟩
 · by_cases h1:q = id
   · subst h1
     have hq:o' q = some ob:=hq;rw [oid] at hq;cases hq;have hlen:=hnk.len;simp only [ng] at hlen;refine ⟨hnk.pos,hlen,fun i hi=>?_,fun b=>?_,fun i b hi hb=>?_,fun i hi=>?_, .inr ?_⟩
     · by_cases hin:i = n
       · subst hin;rw [a68];exact q1
       rw [yh hin];exact hnk.lens i b5c
     · rw [bself,hnk.blks]
       constructor
       · rintro ((h2 | ⟨i,hi,h2⟩) | h2)
         · exact .inl h2
         · exact .inr ⟨i,by omega,by rw [rlt i hi];exact h2⟩
         exact .inr ⟨n,by omega,by rw [rn];exact h2⟩
       rintro (h2 | ⟨i,hi,h2⟩)
       · exact .inl (.inl h2)
       by_cases hin:i = n
       · subst hin;rw [rn] at h2;exact .inr h2
       rw [rlt i b5c] at h2;exact .inl (.inr ⟨i,by omega,h2⟩)
     · have far:∀ b,bh (c.own id') = some b -> ¬ c.blk q b:=fun b h2 h3=>hne (h.inj id' q _ _ b ho' ho (hcb b h2) h3)
       by_cases hin:i = n
       · subst hin
         rw [rn] at hb;refine ⟨fun h2=>far b hb ((hnk.blks b).2 (.inl h2)),fun i' hi' h2=>?_⟩;by_cases hin':i' = i
         · exact hin'
         rw [rlt i' b5c] at h2;exact (far b hb ((hnk.blks b).2 (.inr ⟨i',by omega,h2⟩))).elim
       rw [rlt i b5c] at hb;obtain ⟨h2,h3⟩:=hnk.apart i b b5c hb;refine ⟨h2,fun i' hi' h4=>?_⟩;by_cases hin':i' = n
       · subst hin'
         rw [rn] at h4;exact (far b h4 ((hnk.blks b).2 (.inr ⟨i,by omega,hb⟩))).elim
       rw [rlt i' b5c] at h4;exact h3 i' b5c h4
     · by_cases hin:i = n
       · subst hin
         rw [rn,a68,aec];exact hrow
       rw [rlt i b5c,yh hin,aa1 hin];exact hnk.row i b5c
     rcases hnk.top with ⟨h2,_⟩ | ⟨xs,t1,t2,t3⟩
     · simp [ng] at h2
     refine ⟨xs,t1,fun i hi=>?_,fun p hp=>by cases hp⟩;by_cases hin:i = n
     · subst hin
       obtain ⟨x,hx,hxr⟩:=t3 _ rfl;obtain ⟨_,_,hr3⟩:=hxr;rw [rn,hx,(hr3 _ _ _ _ ho' rfl).2 rfl]
     rw [rlt i b5c];exact t2 i b5c
   obtain ⟨h2,h3⟩:=hold q ob hq h1;exact (h.objs q ob h3).keep (Imm.le.refl c.imm) rfl (bid q h1) (fun j _=>hevo j) (fun b _=>rfl) (by show (if q = id then _ else _) = _;rw [if_neg h1])
 · by_cases h1:q = id
   · by_cases h2:q' = id
     · rw [h1,h2]
     obtain ⟨h3,h4⟩:=hold q' ob' hq' h2;rw [bid q' h2] at hb';subst h1
     rcases whose b hb with h5 | h5
     · exact h.inj q q' _ _ b ho h4 h5 hb'
     exact (h3 (h.inj q' id' _ _ b h4 ho' hb' h5)).elim
   obtain ⟨h3,h4⟩:=hold q ob hq h1;rw [bid q h1] at hb;by_cases h2:q' = id
   · subst h2
     rcases whose b hb' with h5 | h5
     · exact h.inj q q' _ _ b h4 ho hb h5
     exact (h3 (h.inj q id' _ _ b h4 ho' hb h5)).elim
   obtain ⟨h5,h6⟩:=hold q' ob' hq' h2;rw [bid q' h2] at hb';exact h.inj q q' _ _ b h4 h6 hb hb'
 · by_cases h1:q = id
   · subst h1
     rcases whose b hb with h5 | h5
     · exact h.sep q _ b ho h5
     exact h.sep id' _ b ho' h5
   rw [bid q h1] at hb;exact h.sep q ob b (hold q ob hq h1).2 hb
 by_cases h1:q = id
 · subst h1
   rcases whose b hb with h5 | h5
   · exact h.fsep q _ b ho h5
   exact h.fsep id' _ b ho' h5
 rw [bid q h1] at hb;exact h.fsep q ob b (hold q ob hq h1).2 hb
def ud (es:Nat) (m:Nat -> Nat) (g:Nat -> Nat -> Nat -> PV):Nat -> Nat -> PV:=fun i _=>.sl (m i) es false (g i)
end
open Classical in
noncomputable def thinImm (c:Ctx) (w:World) (id n:Nat):Imm:=fun b=>if ∃ i,i < n /\ bh (c.rows id i) = some b then w.heap[b]? else c.imm b
def aa.thin (h:aa w0 nt c s a w) {id n:Nat} {e et:TypeId} {es:Nat} {m:Nat -> Nat} {g:Nat -> Nat -> Nat -> PV} (ho:s.o id = some (.nest e et es n m g none)) :
 ∃ c',c'.old = c.old /\ aa w0 nt c' (s.setO id (some (.arr true 1 e n (ud es m g)))) a w:=by
 have hnk:jc 0 c s.o w id e et es n m g none:=h.objs id _ ho;have hin:∀ b,(∃ i,i < n /\ bh (c.rows id i) = some b) -> c.blk id b:=fun b hb=>(hnk.blks b).2 (.inr hb)
 have hle:Imm.le c.imm (thinImm c w id n):=fun b ob hb=>by
  unfold thinImm;by_cases hk:∃ i,i < n /\ bh (c.rows id i) = some b
  · rw [h.sep id _ b ho (hin b hk)] at hb;cases hb
  rw [if_neg hk];exact hb
 let ob':a6:=.arr true 1 e n (ud es m g)
 let bk:Nat -> Prop:=fun b=>bh (c.own id) = some b
 let c':Ctx:={ old:=c.old,imm:=thinImm c w id n,tab:=c.tab.mono hle,own:=c.own,blk:=fun q=>if q = id then bk else c.blk q,rows:=c.rows }
 have oid:(s.setO id (some ob')).o id = some ob':=by show (if id = id then _ else _) = _;rw [if_pos rfl]
 have oelse:∀ q,q ≠ id -> (s.setO id (some ob')).o q = s.o q:=fun q hq=>by show (if q = id then _ else _) = _;rw [if_neg hq]
 have hevo:∀ q,Evo c s.o c' (s.setO id (some ob')).o q:=fun q=>by
  by_cases h1:q = id
  · subst h1
    exact .inr (.inr ⟨_, .arr true 1 e n (ud es m g),1,e,n,n,ho,rfl,oid,rfl,b29 _,fun _=>rfl,fun _ _ _ _ _ _ _ hb=>by cases hb⟩)
  exact Evo.of_same (oelse q h1) rfl rfl
 have bid:∀ q,q ≠ id -> c'.blk q = c.blk q:=fun q hq=>by show (if q = id then _ else _) = _;rw [if_neg hq]
 have bself:c'.blk id = bk:=by show (if id = id then _ else _) = _;rw [if_pos rfl]
 have whose:∀ b,c'.blk id b -> c.blk id b:=fun b hb=>by
  rw [bself] at hb;exact (hnk.blks b).2 (.inl hb)
 have hrowP:∀ i,i < n -> aj (thinImm c w id n) (.sl (m i) es false (g i)) (c.rows id i):=fun i hi=>by
  obtain ⟨ad,cap,q1,q2,q3⟩:=a86 (h.objs id _ ho) hi;refine ⟨ad,cap,q1,q2,q3,(fun hh=>by cases hh),fun hm=>?_⟩;obtain ⟨b,cap',ys,r1,r2,_,r3⟩:=a3g (h.objs id _ ho) hi hm;rw [q1] at r1;simp only [Value.slice.injEq,true_and] at r1;obtain ⟨rfl,rfl⟩:=r1;refine ⟨b,0,rfl,fun r j hr hj=>?_⟩;obtain ⟨x,_,hx,hxr⟩:=r3 r j hr hj;refine ⟨x, ?_,aj.mono hle hxr⟩;rw [b2r];unfold fv thinImm;rw [if_pos ⟨i,hi,r2⟩];unfold World.cell? at hx;dsimp only at hx;split at hx
  · rename_i cs e0 fr hb'
    rw [hb'];simpa using hx
  cases hx
 refine ⟨c',rfl,⟨h.defers.keep (fun _ _=>rfl) (fun D hD hd=>?_),h.size,h.below,fun d x hx=>(h.tmps d x hx).evo hle fun q _=>hevo q,fun q ob hq=>?_,fun q q' ob ob2 b hq hq' hb hb'=>?_,fun b ob hb=>?_,fun q ob b hq hb=>?_,fun b hb=>?_,h.frm,fun q ob b hq hb=>?_,fun q hq=>(h.fixed q hq).trans (hevo q)⟩⟩
 · show thinImm c w id n D = none
   unfold thinImm
   rw [if_neg fun hk=>by
    obtain ⟨x1,hc,hdt⟩:=(h.objs id _ ho).data (hin D hk);rw [hd] at hc;cases hc
    cases hdt]
   exact hD
 · by_cases h1:q = id
   · subst h1
     rw [oid] at hq;cases hq;refine ⟨Nat.one_pos,hnk.len, ?_⟩
     have hplain:n = 0 /\ (∃ ad,c.own q = .slice ad 0 0) -> (c'.blk q = eu (c.own q) /\ ∃ xs,w.ownsRow 0 e 1 (c.own q) n xs /\ ∀ i j,i < n -> j < 1 -> ∃ x,xs[i * 1 + j]? = some x /\ aj c'.imm (ud es m g i j) x) \/
      ((true = false \/ n = 0) /\ c'.blk q = noB /\ aj c'.imm (.sl n 1 true (ud es m g)) (c.own q)):=by
      rintro ⟨rfl,ad,hv⟩;refine .inr ⟨.inr rfl, ?_, ?_⟩
      · rw [bself]
        funext b;show (bh (c.own q) = some b) = False;rw [hv];cases ad <;> simp [bh]
      rw [hv];exact ⟨ad,0,rfl,b29 _,b2b _,fun _=>rfl,fun hh=>absurd hh (b50 0)⟩
     rcases hnk.top with ⟨h2,h3⟩ | ⟨xs,t1,t2,_⟩
     · exact hplain ⟨h2,h3⟩
     have t1:w.ownsRow 0 e 1 (c.own q) n xs:=t1
     rcases gc t1 with r0 | ⟨b,cap,rv,rb⟩
     · exact hplain r0
     refine .inl ⟨?_,xs,t1,fun i j hi hj=>?_⟩
     · rw [bself]
       funext b';show (bh (c.own q) = some b') = (b9 (c.own q) = some b');rw [rb,rv];rfl
     obtain rfl:j = 0:=by omega
     exact ⟨_,by simpa using t2 i hi,hrowP i hi⟩
   rw [oelse q h1] at hq;exact (h.objs q ob hq).keep hle rfl (bid q h1) (fun j _=>hevo j) (fun b _=>rfl) rfl
 · by_cases h1:q = id
   · by_cases h2:q' = id
     · rw [h1,h2]
     rw [oelse q' h2] at hq';rw [bid q' h2] at hb';subst h1;exact h.inj q q' _ _ b ho hq' (whose b hb) hb'
   rw [oelse q h1] at hq;rw [bid q h1] at hb;by_cases h2:q' = id
   · subst h2
     exact h.inj q q' _ _ b hq ho hb (whose b hb')
   rw [oelse q' h2] at hq';rw [bid q' h2] at hb';exact h.inj q q' _ _ b hq hq' hb hb'
 · have hb:thinImm c w id n b = some ob:=hb
   unfold thinImm at hb;split at hb
   · exact hb
   exact h.imm b ob hb
 · show thinImm c w id n b = none
   unfold thinImm;by_cases h1:q = id
   · subst h1
     rw [bself] at hb;rw [if_neg fun ⟨i,hi,hk⟩=>(hnk.apart i b hi hk).1 hb];exact h.sep q _ b ho ((hnk.blks b).2 (.inl hb))
   rw [oelse q h1] at hq;rw [bid q h1] at hb;rw [if_neg fun hk=>h1 (h.inj q id _ _ b hq ho hb (hin b hk))];exact h.sep q ob b hq hb
 · show thinImm c w id n b = c.old.1 b
   unfold thinImm;rw [if_neg fun hk=>hb (h.fsep id _ b ho (hin b hk))];exact h.was b hb
 by_cases h1:q = id
 · subst h1
   exact h.fsep q _ b ho (whose b hb)
 rw [oelse q h1] at hq;rw [bid q h1] at hb;exact h.fsep q ob b hq hb
end
section
variable {ro:Option Nat} {P:Program} {nt:Nat} {st:HSt} {Q:Exit -> HSt -> Prop}
def aib {c:Code} (d id:Nat) {s':Nat} {f':Nat -> Nat -> PV} (e et:TypeId) (es:Nat) (m:Nat -> Nat) (g:Nat -> Nat -> Nat -> PV) (hs:0 < es) (hd:b8 st.t d = some (b5 (.sl 0 s' true f'))) (hn:md id st = true)
 (h:HW (ro:=ro) P nt c ⟨(d,some (.v (.one (.ref id 0)))) :: st.t,(id,some (.nest e et es 0 m g none)) :: st.o⟩ Q):HW (ro:=ro) P nt c st Q:=by
 obtain ⟨hnm,hno⟩:=ig hn;refine yu ⟨st.t,(id,some (.nest e et es 0 m g none)) :: st.o⟩ d (.v (.one (.ref id 0))) (fun w0 m0 a w hr=>?_) h;obtain ⟨cc,hold,hrr⟩:=hr;have hx:aj cc.imm (.sl 0 s' true f') (a.tmps.getD d undef):=hrr.tmps d _ hd;have hfresh:=hrr.fresh id hnm hno (.nest e et es 0 m g none) w (a.tmps.getD d undef) noB (Grw.refl w none) (fun b hb=>hb.elim) (a3x hs b5f (by simpa using yb hx));refine ⟨_, ?_,by rw [ku];exact hfresh, ?_⟩
 · exact hold
 rw [ku];refine ⟨aj.oneCell hx,fun l=>by simp [S.setO],fun ob1 s1 e1 n1 ho hd1=>?_⟩;simp only [S.setO,if_true,b24] at ho;subst ho;simp only [a6.dim,b24,b2a] at hd1;obtain ⟨rfl,rfl,rfl⟩:=hd1;exact ⟨b29 _,fun _=>by simp⟩
section
variable {g:Nat -> Nat -> Nat -> PV}
def a7l {c:Code} (id id':Nat) {k n:Nat} {e et:TypeId} {es:Nat} {m:Nat -> Nat} {f:Nat -> Nat -> PV} (ho:b8 st.o id = some (.nest e et es n m g (some (id',k)))) (ho':b8 st.o id' = some (.arr true es et k f)) (h:HW (ro:=ro) P nt c ⟨st.t,(id',none) :: (id,some (.nest e et es (n + 1) (lq m n k) (np g n f) none)) :: st.o⟩ Q):HW (ro:=ro) P nt c st Q:=fun w0 m0 a w hr=>by
 obtain ⟨cc,hold,hrr⟩:=hr;obtain ⟨c',h1,h2⟩:=hrr.absorb ho ho';refine h w0 m0 a w ⟨c',h1.trans hold, ?_⟩;have e1:=p6 ⟨st.t,(id,some (.nest e et es (n + 1) (lq m n k) (np g n f) none)) :: st.o⟩ id';rw [ku] at e1;rw [e1];exact h2
def af0 {c:Code} (id:Nat) {n:Nat} {e et:TypeId} {es:Nat} {m:Nat -> Nat} (ho:b8 st.o id = some (.nest e et es n m g none)) (h:HW (ro:=ro) P nt c ⟨st.t,(id,some (.arr true 1 e n (ud es m g))) :: st.o⟩ Q):HW (ro:=ro) P nt c st Q:=fun w0 m0 a w hr=>by
 obtain ⟨cc,hold,hrr⟩:=hr;obtain ⟨c',h1,h2⟩:=hrr.thin ho;refine h w0 m0 a w ⟨c',h1.trans hold, ?_⟩;rw [ku];exact h2
end
end
section
variable {f':Nat -> Nat -> PV}
def a52 {nt:Nat} {st:HSt} {w0:World} {m0:Old} {a:Act} {w:World} (bx off id:Nat) {s':Nat} {l:List HV} (e et:TypeId) (es:Nat) (m:Nat -> Nat) (g:Nat -> Nat -> Nat -> PV) (hs:0 < es) (hb:b8 st.o bx = some (.box l)) (hl:l[off]? = some (.p (.sl 0 s' true f'))) (hn:md id st = true) (hne:Nat.beq bx id = false) (hr:Rel w0 m0 nt st.den a w):Rel w0 m0 nt (HSt.den ⟨st.t,(bx,some (.box (au l off [.ref id 0]))) :: (id,some (.nest e et es 0 m g none)) :: st.o⟩) a w:=by
 obtain ⟨hnm,hno⟩:=ig hn;obtain ⟨cc,hold,hrr⟩:=hr;have hbi:bx ≠ id:=by rintro rfl;simp at hne
 obtain ⟨b0,C0,e0,p1,p2,p3,p4,p5⟩:=hrr.objs bx _ hb;obtain ⟨u,hu,hur⟩:=p5.get off _ hl;have hx:aj cc.imm (.sl 0 s' true f') u:=hur;have hfresh:=hrr.fresh id hnm hno (.nest e et es 0 m g none) w u noB (Grw.refl w none) (fun b hb=>hb.elim) (a3x hs b5f (by simpa using yb hx));rw [<- ku] at hfresh
 have hb':(HSt.den ⟨st.t,(id,some (.nest e et es 0 m g none)) :: st.o⟩).o bx = some (.box l):=by
  simp only [HSt.den,ax,hbi,if_false];exact hb
 have hevo:∀ (c1:Ctx),c1.own = (fun k=>if k = id then u else cc.own k) -> Evo { old:=cc.old,imm:=cc.imm,tab:=cc.tab,own:=fun k=>if k = id then u else cc.own k,blk:=fun k=>if k = id then noB else cc.blk k,rows:=cc.rows } (HSt.den ⟨st.t,(id,some (.nest e et es 0 m g none)) :: st.o⟩).o c1 ((HSt.den ⟨st.t,(id,some (.nest e et es 0 m g none)) :: st.o⟩).setO bx (some (.box (au l off [.ref id 0])))).o bx:=fun c1 h1 =>
  .inr (.inl ⟨l,au l off [.ref id 0],hb',by simp [S.setO],by rw [h1]⟩)
 have hown:(fun k=>if k = bx then (fun k=>if k = id then u else cc.own k) bx else (fun k=>if k = id then u else cc.own k) k) = fun k=>if k = id then u else cc.own k:=by
  funext k;by_cases hk:k = bx
  · subst hk;simp
  simp [hk]
 have hw:=hfresh.write bx (.box l) hb' (.box (au l off [.ref id 0])) w ((fun k=>if k = id then u else cc.own k) bx) ((fun k=>if k = id then noB else cc.blk k) bx) none (Grw.refl w _) (fun _ e=>by cases e) (hevo _ (by exact hown)) (fun b hb=>.inl hb) (by
  refine ⟨b0,C0,e0,by simpa [hbi] using p1,by simpa [hbi] using p2,p3,p4, ?_⟩;have hoff:off < l.length:=(b3k.1 hl).1;have hcl:=p5.length;refine av.of_get ?_ fun k x u' hx' hu'=>?_
  · simp only [au,b2s,b2g,b3q,b46];omega
  have hx2:=hx';unfold au at hx2;rw [bt l [HV.ref id 0] off k b5l] at hx2;by_cases hk:k = off
  · subst hk
    simp at hx2;subst hx2;rw [hu] at hu';simp only [b24] at hu';subst hu';refine ⟨aj.oneCell hx,fun l2=>by simp [S.setO,HSt.den,ax,Ne.symm hbi],fun ob1 s1 e1 n1 ho hd1=>?_⟩;simp only [S.setO,HSt.den,ax,Ne.symm hbi,if_false,if_true,b24] at ho;subst ho;simp only [a6.dim,b24,b2a] at hd1;obtain ⟨rfl,rfl,rfl⟩:=hd1;exact ⟨b29 _,fun _=>by simp [Ne.symm hbi]⟩
  rw [if_neg b5l] at hx2;obtain ⟨u2,hu2,hr2⟩:=p5.get k x hx2;rw [hu'] at hu2;simp only [b24] at hu2;subst hu2;refine ay.evo (c:=cc) (o:=st.den.o) (Imm.le.refl cc.imm) (fun j hj=>?_) hr2
  have hji:j ≠ id:=by
   rintro rfl;exact hnm.2.1 bx _ hb ⟨x,List.mem_of_getElem? hx2,hj⟩
  by_cases hjb:j = bx
  · subst hjb;exact .inr (.inl ⟨l,au l off [.ref id 0],hb,by simp [S.setO],by simp [hji]⟩)
  exact Evo.of_same (by simp [S.setO,hjb,HSt.den,ax,hji]) (by simp [hjb,hji]))
 have e:HSt.den ⟨st.t,(bx,some (.box (au l off [.ref id 0]))) :: (id,some (.nest e et es 0 m g none)) :: st.o⟩ = (HSt.den ⟨st.t,(id,some (.nest e et es 0 m g none)) :: st.o⟩).setO bx (some (.box (au l off [.ref id 0]))):=by
  unfold HSt.den S.setO;simp only [S.mk.injEq,true_and];funext k;simp only [ax]
 rw [e];exact ⟨_,(by exact hold),hw⟩
def a6c {ro:Option Nat} {P:Program} {nt:Nat} {st:HSt} {Q:Exit -> HSt -> Prop} {c:Code} (bx off id:Nat) {s':Nat} {l:List HV} (e et:TypeId) (es:Nat) (m:Nat -> Nat) (g:Nat -> Nat -> Nat -> PV) (hs:0 < es) (hb:b8 st.o bx = some (.box l)) (hl:l[off]? = some (.p (.sl 0 s' true f'))) (hn:md id st = true) (hne:Nat.beq bx id = false) (h:HW (ro:=ro) P nt c ⟨st.t,(bx,some (.box (au l off [.ref id 0]))) :: (id,some (.nest e et es 0 m g none)) :: st.o⟩ Q):HW (ro:=ro) P nt c st Q:=fun w0 m0 a w hr=>h w0 m0 a w (a52 bx off id e et es m g hs hb hl hn hne hr)
end
end
section
abbrev Rw:=List Int
def ltZ:Rw -> Rw -> Bool
 | [],[]=>false
 | [],_ :: _=>true
 | _ :: _,[]=>false
 | x :: a,y :: b=>if x = y then ltZ a b else decide (x < y)
def oj:∀ a:Rw,ltZ a a = false
 | []=>rfl
 | x :: a=>by unfold ltZ;rw [if_pos rfl];exact oj a
def gm:∀ {a b c:Rw},ltZ a b = true -> ltZ b c = true -> ltZ a c = true
 | [],[],_,h,_=>by cases h
 | [],_ :: _,[],_,k=>by cases k
 | [],_ :: _,_ :: _,_,_=>rfl
 | _ :: _,[],_,h,_=>by cases h
 | _ :: _,_ :: _,[],_,k=>by cases k
 | x :: a,y :: b,z :: c,h,k=>by
  unfold ltZ at *;by_cases hxy:x = y
  · rw [if_pos hxy] at h
    subst hxy;by_cases hyz:x = z
    · rw [if_pos hyz] at k ⊢
      exact gm h k
    rw [if_neg hyz] at k ⊢;exact k
  rw [if_neg hxy] at h;have h:=of_decide_eq_true h;by_cases hyz:y = z
  · subst hyz
    rw [if_neg hxy];exact decide_eq_true h
  rw [if_neg hyz] at k;have k:=of_decide_eq_true k;rw [if_neg b5c];exact decide_eq_true b5c
def sa:∀ {a b:Rw},a ≠ b -> ltZ a b = true \/ ltZ b a = true
 | [],[],h=>absurd rfl h
 | [],_ :: _,_=>.inl rfl
 | _ :: _,[],_=>.inr rfl
 | x :: a,y :: b,h=>by
  unfold ltZ;by_cases hxy:x = y
  · subst hxy
    rw [if_pos rfl,if_pos rfl];exact sa fun e=>h (by rw [e])
  rw [if_neg hxy,if_neg (Ne.symm hxy),decide_eq_true_iff,decide_eq_true_iff];omega
def zC:Int -> Nat -> PV:=fun z _=>.raw (.int .i64 z)
abbrev zl (r:Rw):PV:=psl 1 zC r
def rC:Rw -> Nat -> PV:=fun r _=>zl r
abbrev rl (l:List Rw):PV:=psl 1 rC l
def anb {a b:Rw} (h:ltZ a b = true):ltZ b a = false:=by
 rw [b2e];intro k;have:=gm h k;rw [oj] at this;cases this
def jn (l:List Rw):Prop:=l.Pairwise fun a b=>ltZ a b = true
def pi:∀ {l k:List Rw},jn l -> jn k -> (∀ x,x ∈ l <-> x ∈ k) -> l = k
 | [],[],_,_,_=>rfl
 | [],y :: k,_,_,h=>absurd ((h y).2 (b3i ..)) b5f
 | x :: l,[],_,_,h=>absurd ((h x).1 (b3i ..)) b5f
 | x :: l,y :: k,hl,hk,h=>by
  obtain ⟨h1,h2⟩:=b35.1 hl;obtain ⟨k1,k2⟩:=b35.1 hk
  have e:x = y:=by
   rcases b2f.1 ((h x).1 (b3i ..)) with e | hx
   · exact e
   rcases b2f.1 ((h y).2 (b3i ..)) with e | hy
   · exact e.symm
   have:=anb (k1 x hx);rw [h1 y hy] at this;cases this
  subst e;congr 1;refine pi h2 k2 fun z=>?_;constructor
  · intro hz
    rcases b2f.1 ((h z).1 (b3f _ hz)) with e | hz'
    · subst e
      have:=h1 z hz;rw [oj] at this;cases this
    exact hz'
  intro hz
  rcases b2f.1 ((h z).2 (b3f _ hz)) with e | hz'
  · subst e
    have:=k1 z hz;rw [oj] at this;cases this
  exact hz'
def fz (x:Rw):List Rw -> List Rw
 | []=>[x]
 | y :: l=>if x = y then y :: l else if ltZ x y = true then x :: y :: l else y :: fz x l
def tn {x z:Rw}:∀ {l:List Rw},z ∈ fz x l <-> z = x \/ z ∈ l
 | []=>by simp [fz]
 | y :: l=>by
  unfold fz;split
  · rename_i e
    subst e;simp
  split
  · simp
  rw [b2f,tn,b2f];constructor
  · rintro (h | h | h) <;> simp [h]
  rintro (h | h | h) <;> simp [h]
def ul {x:Rw}:∀ {l:List Rw},jn l -> jn (fz x l)
 | [],_=>by simp [fz,jn]
 | y :: l,h=>by
  obtain ⟨h1,h2⟩:=b35.1 h;unfold fz;split
  · exact h
  split
  · rename_i hxy
    refine b35.2 ⟨fun z hz=>?_,h⟩
    rcases b2f.1 hz with rfl | hz
    · exact hxy
    exact gm hxy (h1 z hz)
  rename_i hne hxy;refine b35.2 ⟨fun z hz=>?_,ul h2⟩
  rcases tn.1 hz with rfl | hz
  · exact (sa hne).resolve_left hxy
  exact h1 z hz
def ae (l:List Rw):List Rw:=l.foldl (fun o x=>fz x o) []
def zk:∀ {l o:List Rw},jn o -> jn (l.foldl (fun o x=>fz x o) o) /\ ∀ z,z ∈ l.foldl (fun o x=>fz x o) o <-> z ∈ o \/ z ∈ l
 | [],o,h=>⟨h,fun z=>by simp⟩
 | x :: l,o,h=>by
  obtain ⟨h1,h2⟩:=zk (l:=l) (ul (x:=x) h);refine ⟨h1,fun z=>?_⟩;show z ∈ l.foldl (fun o x=>fz x o) (fz x o) <-> _;rw [h2 z,tn,b2f];constructor
  · rintro ((h | h) | h) <;> simp [h]
  rintro (h | h | h) <;> simp [h]
def ef (l:List Rw):jn (ae l):=(zk (o:=[]) List.Pairwise.nil).1
section
variable {l:List Rw}
def dy {z:Rw}:z ∈ ae l <-> z ∈ l:=by
 show z ∈ l.foldl (fun o x=>fz x o) [] <-> _;rw [(zk (l:=l) (o:=[]) List.Pairwise.nil).2 z];simp
def a9a {k:List Rw} (hk:jn k) (h:∀ z,z ∈ k <-> z ∈ l):k = ae l:=pi hk (ef l) fun z=>by rw [h z,dy]
def gw (l:List Rw) (k:Nat) (r:Rw):List Rw:=l.take k ++ r :: l.drop k
variable {k:Nat} {r:Rw}
def ir (h:k <= l.length):(gw l k r).length = l.length + 1:=by simp [gw];omega
def amk:gw l l.length r = l ++ [r]:=by simp [gw]
def x7 {i:Nat} (h:k <= l.length):(gw l k r)[i]? = if i < k then l[i]? else if i = k then some r else l[i - 1]?:=by
 simp only [gw];by_cases h1:i < k
 · rw [if_pos h1,b3l b5l,b2o,if_pos h1]
 rw [if_neg h1,b3e b5l,b2g,b3o h];by_cases h2:i = k
 · subst h2;simp
 rw [if_neg h2];obtain ⟨d,rfl⟩:∃ d,i = k + 1 + d:=⟨i - k - 1,by omega⟩;rw [show k + 1 + d - k = d + 1 by omega,List.getElem?_cons_succ,b42];congr 1;omega
def aij (h:k <= l.length):(gw l k r).getD k default = r:=by
 rw [b26,x7 h,if_neg b5c,if_pos rfl];rfl
def a8g (h0:0 < k) (h:k <= l.length):(gw l k r).getD (k - 1) default = l.getD (k - 1) default:=by
 rw [b26,x7 h,if_pos b5c,b26]
def ai8 (h0:0 < k) (h:k <= l.length):((gw l k r).set k (l.getD (k - 1) default)).set (k - 1) r = gw l (k - 1) r:=by
 apply b4a;intro i;rw [x7 b5c,List.getElem?_set,List.getElem?_set,b4q,ir h,x7 h];by_cases h1:k - 1 = i
 · subst h1
   rw [if_pos rfl,if_pos b5c,if_neg b5c,if_pos rfl]
 rw [if_neg h1];by_cases h2:k = i
 · subst h2
   rw [if_pos rfl,if_pos b5c,if_neg b5c,if_neg b5c,List.getD,b25 b5c];rfl
 rw [if_neg h2];by_cases h3:i < k
 · rw [if_pos h3,if_pos b5c]
 rw [if_neg h3,if_neg b5c,if_neg b5c,if_neg b5c]
def aio {k' m':Nat} (h0:0 < k) (hk:k <= l.length) (hk':k' = k) (hm':m' = k - 1) {n:Nat} (hn:n = l.length + 1) {e:TypeId}:
 CoO (.arr true 1 e n (dw (dw (lf rC (gw l k r)) k' 0 [lf rC (gw l k r) m' 0]) m' 0 [lf rC (gw l k r) k' 0])) (.arr true 1 e n (lf rC (gw l (k - 1) r))):=by
 subst hk' hm';rw [<- ai8 h0 hk];refine aqc (fun h=>h) (by rw [ir hk];exact hn) (by rw [ir hk];omega) (by rw [ir hk];omega) rfl rfl (fun j hj=>?_) (fun j hj=>?_)
 · obtain rfl:j = 0:=by omega
   exact CoP.of_eq (by show rC ((gw l k' r).getD (k' - 1) default) 0 = _;rw [a8g h0 hk])
 obtain rfl:j = 0:=by omega
 exact CoP.of_eq (by show rC ((gw l k' r).getD k' default) 0 = _;rw [aij hk])
def ak6 {k' m':Nat} {b:Bool} (h0:0 < k) (hk:k <= l.length) (h:ltZ ((gw l k r).getD k' default) ((gw l k r).getD m' default) = b) (hk':k' = k) (hm':m' = k - 1):ltZ r (l.getD (k - 1) default) = b:=by
 subst hk' hm';rwa [aij hk,a8g h0 hk] at h
def amu {j:Nat} (h:j < l.length):l.getD j default ∈ l:=by
 rw [b26,b25 h];exact b2l h
def a7k (hs:jn l) (hr:r ∉ l) (hk:k <= l.length) (h1:∀ j,k <= j -> j < l.length -> ltZ r (l.getD j default) = true) (h2:k = 0 \/ ¬ ltZ r (l.getD (k - 1) default) = true):gw l k r = fz r l:=by
 refine pi ?_ (ul hs) fun z=>?_
 · unfold jn gw
   rw [List.pairwise_append];refine ⟨hs.sublist (List.take_sublist _ _),b35.2 ⟨fun z hz=>?_,hs.sublist (List.drop_sublist _ _)⟩,fun y hy z hz=>?_⟩
   · obtain ⟨j,hj,rfl⟩:=b34 hz
     rw [b3q] at hj;have:=h1 (k + j) b5c b5c;rwa [b26,b25 b5c,b36,<- List.getElem_drop] at this
   have hyr:ltZ y r = true:=by
    obtain ⟨j,hj,rfl⟩:=b34 hy;rw [b2g] at hj
    rcases h2 with h2 | h2
    · omega
    have hk1:k - 1 < l.length:=by omega
    have hlast:ltZ (l.getD (k - 1) default) r = true:=by
     rcases sa (a:=r) (b:=l.getD (k - 1) default) (fun e=>hr (e ▸ amu hk1)) with h | h
     · exact absurd h h2
     exact h
    rw [List.getElem_take];by_cases hjk:j = k - 1
    · subst hjk
      rwa [b26,b25 hk1,b36] at hlast
    refine gm ?_ hlast;rw [b26,b25 hk1,b36];exact b44.1 hs j (k - 1) b5c hk1 b5c
   rcases b2f.1 hz with rfl | hz
   · exact hyr
   have h3:ltZ r z = true:=by
    obtain ⟨j,hj,rfl⟩:=b34 hz;rw [b3q] at hj;have:=h1 (k + j) b5c b5c;rwa [b26,b25 b5c,b36,<- List.getElem_drop] at this
   exact gm hyr h3
 rw [tn];unfold gw;rw [b2u,b2f];constructor
 · rintro (h | h | h)
   · exact .inr (List.mem_of_mem_take h)
   · exact .inl h
   exact .inr (b4t h)
 rintro (h | h)
 · exact .inr (.inl h)
 rw [<- List.take_append_drop k l,b2u] at h
 rcases h with h | h
 · exact .inl h
 exact .inr (.inr h)
def ol (hs:jn l) (hr:r ∈ l):fz r l = l:=pi (ul hs) hs fun z=>by
 rw [tn];constructor
 · rintro (rfl | h)
   · exact hr
   exact h
 exact .inr
def df {i:Nat} (hi:i < l.length):ae (l.take (i + 1)) = fz (l.getD i default) (ae (l.take i)):=by
 unfold ae;rw [bz hi,b4l];rfl
def aaj (x:Rw):∀ l:List Rw,(fz x l).length <= l.length + 1
 | []=>by simp [fz]
 | y :: l=>by
  unfold fz;have:=aaj x l;split
  · simp
  split
  · simp
  simp only [b3m];omega
def uj (l:List Rw):(ae l).length <= l.length:=by
 have:∀ (l o:List Rw),(l.foldl (fun o x=>fz x o) o).length <= o.length + l.length:=by
  intro l
  induction l with
  | nil=>intro o;simp
  | cons x l ih =>
   intro o;have h1:=ih (fz x o);have h2:=aaj x o;simp only [List.foldl_cons,b3m];omega
 have h:=this l [];simpa [ae] using h
end
end
section
abbrev pZ (r:Rw):PC:=.one (zl r)
abbrev pR (l:List Rw):PC:=.one (rl l)
abbrev pT (n:Int) (l:List Rw):PC:=.agg [.raw (.int .i64 n),rl l]
def aax:∀ {a b:Rw} {i:Nat},i < a.length -> i < b.length -> (∀ j,j < i -> a.getD j default = b.getD j default) -> ¬ a.getD i default = b.getD i default -> ltZ a b = decide (a.getD i default < b.getD i default)
 | [],_,_,h,_,_,_=>by simp at h
 | _ :: _,[],_,_,h,_,_=>by simp at h
 | x :: a,y :: b,0,_,_,_,hn=>by
  have:¬ x = y:=hn;unfold ltZ;rw [if_neg this];rfl
 | x :: a,y :: b,i + 1,ha,hb,h,hn=>by
  have e:x = y:=h 0 b5c;unfold ltZ;rw [if_pos e];exact aax (by simpa using ha) (by simpa using hb) (fun j hj=>h (j + 1) b5c) hn
def a1f:∀ {a b:Rw},(∀ j,j < a.length -> j < b.length -> a.getD j default = b.getD j default) -> ltZ a b = decide (a.length < b.length)
 | [],[],_=>rfl
 | [],_ :: _,_=>by simp [ltZ]
 | _ :: _,[],_=>by simp [ltZ]
 | x :: a,y :: b,h=>by
  have e:x = y:=h 0 b5f b5f;unfold ltZ;rw [if_pos e,a1f fun j h1 h2=>h (j + 1) (by simpa using h1) (by simpa using h2)];simp
def l6 (a b:Rw):Int:=if a = b then 0 else if ltZ a b = true then -1 else 1
section
variable {a b:Rw} {i:Nat}
def ap0 (ha:i < a.length) (hb:i < b.length) (h:∀ j,j < i -> a.getD j default = b.getD j default) (hn:¬ gf (a.getD i default) (b.getD i default) = 0):gf (a.getD i default) (b.getD i default) = l6 a b:=by
 have hne:¬ a.getD i default = b.getD i default:=fun e=>hn (by unfold gf;rw [if_neg b5c,if_neg b5c]);unfold gf l6;rw [if_neg (fun e:a = b=>hne (by rw [e])),aax ha hb h hne];simp only [decide_eq_true_eq];split
 · rfl
 rw [if_pos b5c]
def auo {a b:Int} (h:gf a b = 0):a = b:=by
 unfold gf at h;split at h
 · omega
 split at h <;> omega
def ap6 (ha:i < a.length) (hb:¬ i < b.length) (h:∀ j,j < i -> a.getD j default = b.getD j default):(1:Int) = l6 a b:=by
 unfold l6;rw [if_neg (fun e:a = b=>by subst e;omega),a1f fun j h1 h2=>h j b5c,if_neg (by simp only [decide_eq_true_eq];omega)]
def aqr (hl:a.length < b.length) (h:∀ j,j < a.length -> a.getD j default = b.getD j default):(-1:Int) = l6 a b:=by
 unfold l6;rw [if_neg (fun e:a = b=>by subst e;omega),a1f fun j h1 h2=>h j h1,if_pos (by simp only [decide_eq_true_eq];omega)]
def art (hl:a.length <= b.length) (hl2:¬ a.length < b.length) (h:∀ j,j < a.length -> a.getD j default = b.getD j default):(0:Int) = l6 a b:=by
 unfold l6;rw [if_pos (kx b5c h)]
def aoc (h:a.length = b.length) (hI:∀ j,j < a.length -> decide (a.getD j default = b.getD j default) = true):a = b:=kx h fun j hj=>of_decide_eq_true (hI j hj)
def aus {a b:Nat} (h:∀ j,j < a -> j < b):a <= b:=Nat.le_of_not_lt fun e=>b50 _ (h b e)
def gu (a b:Rw) (s:AS):Bool:=decide (∀ i:Nat,i < a.length -> (ci s (i:Int) = true -> a.getD i default = b.getD i default))
def ajz {s:AS} (hi:i < a.length) (h:ci s (i:Int) = true) (hn:¬ a.getD i default = b.getD i default):gu a b s = false:=decide_eq_false fun e=>hn (e i hi h)
def w9 {s:AS} (h:∀ i:Nat,i < a.length -> (ci s (i:Int) = true -> a.getD i default = b.getD i default)):gu a b s = true:=decide_eq_true h
def l4 {s:AS} (h:i < 32):j0 .and .u32 ((asI s).fdiv (2 ^ (min i 32))) 1 = 1 <-> ci s (i:Int) = true:=by
 rw [<- a8w (s:=s) (i:=(i:Int)) b5c b5c,decide_eq_true_iff];rfl
def jv (n:Int) (l:List Rw) (i:Nat):Bool:=decide (((l.getD i default).length:Int) = n) && !(l.getD i default).any (fun x=>decide (x < 0)) && (decide (i = 0) || ltZ (l.getD (i - 1) default) (l.getD i default))
def tok (n:Int) (l:List Rw):Bool:=decide (0 <= n /\ n <= 16 /\ l.length <= 256) && decide (∀ i,i < l.length -> jv n l i = true)
def ah2 {n:Int} {l:List Rw} (h0:0 <= n) (h1:n <= 16) (h2:l.length <= 256) (h:∀ i,i < l.length -> jv n l i = true):tok n l = true:=by
 unfold tok;rw [decide_eq_true (show 0 <= n /\ n <= 16 /\ l.length <= 256 from ⟨h0,h1,h2⟩),decide_eq_true h];rfl
def w4 {n:Int} {l:List Rw} (h:¬ (0 <= n /\ n <= 16 /\ l.length <= 256)):tok n l = false:=by
 unfold tok;rw [decide_eq_false h];rfl
def xo {n:Int} {l:List Rw} (hi:i < l.length) (h:jv n l i = false):tok n l = false:=by
 unfold tok;rw [decide_eq_false (fun e:∀ i,i < l.length -> jv n l i = true=>by rw [e i hi] at h;cases h),Bool.and_false]
def cq (a b:Rw) (s:AS):Rw:=(List.range b.length).map fun (i:Nat)=>if ci s (i:Int) = true then a.getD i default else b.getD i default
end
end
end Go.Hx
