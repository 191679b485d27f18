/- A part of the proof: Lw Hx26 Hx25 Ch1 Ch2. -/
import Derived.Deep.DeepHandedRow
import Derived.OpenShut
import Derived.ProofKit
import Derived.Test.YtkkenjdfbojdlaaGreatDoorCards
import Derived.Test.YtkkenjdfbojdlaaGreatDoorRows
import Derived.Test.YtkkenjdfbojdlaaGreatDoorTie
import Derived.WalkKit
import Derived.Test.YtkkenjdfbojdlaaGreatDoorKx23
set_option linter.all false
namespace Go.Hx
section
open Go.Proofs Go.ChangeShapes Go.WideShapes Go.ChangeAt Go.RowKit
def own:ownKnob br6.godebug = none:=by kernel_rfl
def be8 : br6.globalNamed "math/bits.deBruijn32tab" = some 0 := by kernel_rfl
def b0p:(br6.globals[0]?).map (·.type) = some 176:=by kernel_rfl
def b05:br6.cellsOf 176 = 32:=by kernel_rfl
def bdk:br6.cellsOf 5 = 1:=by kernel_rfl
def al6:List Int:=[0,1,28,2,29,14,24,3,30,22,20,15,25,17,4,8,31,27,13,23,21,19,16,7,26,12,18,6,11,5,10,9]
def bi5 {W : World} (h : laidMetH br6 [("math/bits.deBruijn32tab", YtkkenjdfbojdlaaGreatDoor.Rows.laid_math_bits_deBruijn32tab)] W) : so (gz W) := by
 have ht : Lib.TabIs br6 W "math/bits.deBruijn32tab" .u8 al6 := Lib.tabIs_of_head (rest := []) be8 b0p Tryz.underlying176 Tryz.underlying5 bdk b05 h;intro b off v hv;unfold yy w9 at hv;split at hv
 · have hlt:off < 32:=by
    rcases bpo off 32 with h | h
    · exact h
    rw [bor (by simpa using h)] at hv;cases hv
   have hc:=ht.cell be8 off hlt
   have e:v = .int .u8 (al6.getD off 0):=by
    have:(al6.map fun z=>Value.int .u8 z)[off]? = some v:=hv;rw [bn0] at this;rw [bmb]
    cases hz:al6[off]? with
    | none=>rw [hz] at this;cases this
    | some z=>rw [hz] at this;exact (Option.some.inj this).symm
   rw [e];unfold World.cell? at hc;unfold jp gz;split at hc
   · rename_i c t fr hh
     rw [hh];simpa using hc
   cases hc
 cases hv
noncomputable def laidWorld (os:Os):World :=
 { World.holding br6 os ⟨#[],#[],[]⟩ with heap:=(World.holding br6 os ⟨#[],#[],[]⟩).heap.modify 0 fun
  | .cells _ t frozen=>.cells (al6.map fun z=>Value.int .u8 z).toArray t frozen
  | o=>o }
end
section
open Go.Proofs Go.Proofs.YtkkenjdfbojdlaaGreatDoor
open Go.RowKit Go.ChangeShapes Go.WideShapes Go.ChangeAt
section
variable {H:Type}
def ag9 {d:DataW H} {l:List (DataW H)} (h:d ∈ l):Rows.uptoBulk d <= Rows.uptoBulkAll l:=by
 induction l with
 | nil=>cases h
 | cons x r ih =>
  rw [Rows.uptoBulkAll]
  rcases bmp.1 h with e | e
  · subst e;omega
  have:=ih e;omega
def b7e (d:DataW H):1 <= Rows.uptoBulk d:=by
 cases d with
 | lit l=>cases l <;> simp [Rows.uptoBulk]
 | _=>simp [Rows.uptoBulk]
def b1y (l:List (DataW H)):l.length <= Rows.uptoBulkAll l:=by
 induction l with
 | nil=>simp
 | cons x r ih=>have:=b7e x;rw [Rows.uptoBulkAll,bn7];omega
def b0i {l r:List (DataW H)} {d:DataW H} (h:d ∈ l):Rows.uptoBulk d <= Rows.uptoBulk (.slice l r):=by
 have:=ag9 h;rw [Rows.uptoBulk];omega
def as5 {l:List (DataW H)} {d:DataW H} (h:d ∈ l):Rows.uptoBulk d <= Rows.uptoBulk (.agg l):=by
 have:=ag9 h;rw [Rows.uptoBulk];omega
def ba2 (l r:List (DataW H)):l.length <= Rows.uptoBulk (.slice l r):=by
 have:=b1y l;rw [Rows.uptoBulk];omega
end
def RdB (P:Program) (t:TypeId) (n:Nat) {α:Type} (c:α -> Nat -> PV) (B:Nat -> α -> Prop):Prop :=
 ∀ (H:Type) (enc:TypeId × Value -> H) (w:World) (sp:Nat -> Bool) (held:Bool) (fuel:Nat) (cs:List Value) (x:DataW H × List MemPlace),DataW.trod enc P w 0 sp held fuel t cs = some x ->
  cs.length = n /\ ∃ a:α,B (Rows.uptoBulk x.1) a /\ ∀ j,j < n -> ∃ v,cs[j]? = some v /\ b4 (gz w) (c a j) v
section
variable {P:Program} {t e:TypeId}
theorem Rd.toB {n:Nat} {α:Type} {c:α -> Nat -> PV} (h:Rd P t n c):RdB P t n c fun _ _=>True:=by
 intro H enc w sp held fuel cs x hx;obtain ⟨h1,a,h2⟩:=h _ enc w sp held fuel cs x hx;exact ⟨h1,a,trivial,h2⟩
section
variable {α:Type} {B:Nat -> α -> Prop} {c:α -> Nat -> PV}
theorem RdB.co {n:Nat} {β:Type} {c':β -> Nat -> PV} {B':Nat -> β -> Prop} (h:RdB P t n c B) (f:α -> β) (hB:∀ b a,B b a -> B' b (f a)) (hc:∀ a j,j < n -> CoP (c a j) (c' (f a) j)):RdB P t n c' B':=by
 intro H enc w sp held fuel cs x hx;obtain ⟨h1,a,h0,h2⟩:=h _ enc w sp held fuel cs x hx;refine ⟨h1,f a,hB _ _ h0,fun j hj=>?_⟩;obtain ⟨v,h3,h4⟩:=h2 j hj;exact ⟨v,h3,hc a j hj _ _ h4⟩
def ai4 {s:Nat} [Inhabited α] (mono:∀ b b' x,b <= b' -> B b x -> B b' x) (ht:P.underlying t = some (.slice e)) (hc:P.cellsOf e = s) (hs:0 < s) (h:RdB P e s c B):RdB P t 1 (b2x s c) (fun b l=>l.length <= b /\ ∀ i,i < l.length -> B b (l.getD i default)):=by
 classical
 intro H enc w sp held fuel cs x hx
 rcases DataW.trod_slice ht hx with ⟨rfl,_⟩ | ⟨a,len,cap,elems,rest,n,rfl,rfl,rfl,hb,hl,hm,hlen,hel,_,_⟩
 · refine ⟨rfl,[],⟨bmh _,fun i hi=>absurd hi (bmf i)⟩,fun j hj=>?_⟩
   obtain rfl:j = 0:=by omega
   exact ⟨_,rfl,none,0,rfl,bmd _,bmh _,(fun hh=>by cases hh),fun hh=>absurd hh (bps 0)⟩
 have each:∀ i,i < len -> ∃ q:α,B (Rows.uptoBulk (DataW.slice (elems.map (·.1)) (rest.map (·.1)))) q /\ ∀ j,j < s -> ∃ v,w.cell? (a.add (i * s + j)) = some v /\ b4 (gz w) (c q j) v:=by
  intro i hi;have h1:=hel i hi;rw [hc] at h1;rw [bma bqi] at h1;obtain ⟨cs',h2,h3⟩:=Option.bind_eq_some_iff.1 h1;obtain ⟨_,h4,h5⟩:=World.cells?_some h2;obtain ⟨_,q,h9,h6⟩:=h _ enc w sp held n cs' _ h3;refine ⟨q,mono _ _ q (b0i (List.mem_map_of_mem (bmz _))) h9,fun j hj=>?_⟩;obtain ⟨v,h7,h8⟩:=h6 j hj;refine ⟨v, ?_,h8⟩;have:=h5 j hj;rw [h7] at this;rw [<- this];congr 1;unfold Addr.add;by_cases hj0:j = 0
  · subst hj0
    simp
  by_cases hi0:i * s = 0
  · simp [hi0,hj0]
  have:¬ (i * s + j = 0):=by omega
  simp only [hj0,hi0,this,if_false];congr 1;omega
 refine ⟨rfl,(List.range len).map fun i=>if hi:i < len then Classical.choose (each i hi) else default,⟨?_,fun i hi=>?_⟩,fun j hj=>?_⟩
 · rw [bms,boq,<- hlen]
   have:=ba2 (elems.map (·.1)) (rest.map (·.1));rw [bms] at this;exact this
 · have hi:i < len:=by simpa using hi
   have hch:=(Classical.choose_spec (each i hi)).1;have e:((List.range len).map fun i=>if hi:i < len then Classical.choose (each i hi) else default).getD i default = Classical.choose (each i hi):=by simp [List.getD,hi]
   rw [e];exact hch
 obtain rfl:j = 0:=by omega
 refine ⟨_,rfl,some a,cap,by simp,by simpa using hl,hm,(fun hh=>by cases hh),fun hn=>?_⟩;have hn:0 < len:=by simpa using hn
 have hspot:a.spot = none:=by
  obtain ⟨q,_,hq⟩:=each 0 hn;obtain ⟨v,hv,_⟩:=hq 0 hs;have:a.add (0 * s + 0) = a:=by simp [Addr.add]
  rw [this] at hv;unfold World.cell? at hv;split at hv
  · split at hv
    · cases hv
    rename_i hsp;simpa using hsp
  cases hv
 refine ⟨a.block,a.off, ?_,fun i j hi hj=>?_⟩
 · obtain ⟨b,o,spo⟩:=a
   simp only at hspot;subst hspot;rfl
 have hi:i < len:=by simpa using hi
 have hch:=(Classical.choose_spec (each i hi)).2;obtain ⟨v,hv,hr⟩:=hch j hj;refine ⟨v, ?_, ?_⟩
 · unfold World.cell? at hv
   have hblk:(a.add (i * s + j)).block = a.block:=by unfold Addr.add;split <;> rfl
   have hoff:(a.add (i * s + j)).off = a.off + (i * s + j):=by
    unfold Addr.add;split
    · rename_i h0;rw [h0];rfl
    rfl
   rw [hblk,hoff] at hv;unfold jp gz;split at hv
   · rename_i hb'
     rw [hb'];split at hv
     · cases hv
     exact hv
   cases hv
 have:lf c ((List.range len).map fun i=>if hi:i < len then Classical.choose (each i hi) else default) i j = c (Classical.choose (each i hi)) j:=by
  unfold lf;simp [List.getD,hi]
 rw [this];exact hr
def aud {H:Type} {enc:TypeId × Value -> H} {w:World} {sp:Nat -> Bool} {held:Bool} {fuel:Nat} {cs:List Value} {x:DataW H × List MemPlace} {fs:Array Field} (ht:P.underlying t = some (.struct fs)) (h:DataW.trod enc P w 0 sp held fuel t cs = some x) :
 cs.length = P.cellsOf t /\ ∃ n,∀ (i:Nat) (f:Field),fs[i]? = some f -> ∃ y,DataW.trod enc P w 0 sp held n f.type ((cs.drop f.offset).take (P.cellsOf f.type)) = some y /\ Rows.uptoBulk y.1 <= Rows.uptoBulk x.1:=by
 obtain ⟨xs,n,_,rfl,h1,h2,h3⟩:=DataW.trod_struct ht h;refine ⟨h1,n,fun i f hf=>?_⟩;have:=h3 i f hf;rw [this];have hi:i < xs.length:=by rw [h2];exact (bme.1 hf).1
 exact ⟨_,bma hi,as5 (List.mem_map_of_mem (bmz hi))⟩
def ua {H:Type} {enc:TypeId × Value -> H} {w:World} {sp:Nat -> Bool} {held:Bool} {n off s b:Nat} {ft:TypeId} {cs:List Value} {y:DataW H × List MemPlace} (mono:∀ b b' x,b <= b' -> B b x -> B b' x) (h:RdB P ft s c B) (hy:DataW.trod enc P w 0 sp held n ft ((cs.drop off).take (P.cellsOf ft)) = some y /\ Rows.uptoBulk y.1 <= b):
 ∃ a:α,B b a /\ ∀ j,j < s -> ∃ v,cs[off + j]? = some v /\ b4 (gz w) (c a j) v:=by
 obtain ⟨h1,a,h0,h2⟩:=h _ enc w sp held n _ y hy.1;refine ⟨a,mono _ _ a hy.2 h0,fun j hj=>?_⟩;obtain ⟨v,h3,h4⟩:=h2 j hj;refine ⟨v, ?_,h4⟩;rw [bmy] at h3;split at h3
 · rwa [boj] at h3
 cases h3
end
end
section
variable {P:Program} {t e:TypeId}
def b10 {H:Type} {enc:TypeId × Value -> H} {w:World} {sp:Nat -> Bool} {held:Bool} {fuel:Nat} {cs:List Value} {x:DataW H × List MemPlace} {k:Nat} (ht:P.underlying t = some (.array k e)) (h:DataW.trod enc P w 0 sp held fuel t cs = some x) :
 cs.length = P.cellsOf t /\ ∃ n,∀ i,i < k -> ∃ y,DataW.trod enc P w 0 sp held n e ((cs.drop (i * P.cellsOf e)).take (P.cellsOf e)) = some y /\ Rows.uptoBulk y.1 <= Rows.uptoBulk x.1:=by
 obtain ⟨xs,n,_,rfl,h1,h2,h3⟩:=DataW.trod_array ht h;refine ⟨h1,n,fun i hi=>?_⟩;have:=h3 i hi;rw [this];have hi:i < xs.length:=by omega
 exact ⟨_,bma hi,as5 (List.mem_map_of_mem (bmz hi))⟩
def aka {m:Imm} {c:Nat -> PV}:∀ {n:Nat} {us:List Value} {k:Nat},us.length = n -> (∀ j,j < n -> ∃ v,us[j]? = some v /\ b4 m (c (k + j)) v) -> fb m ((List.range' k n).map c) us
 | 0,[],_,_,_=>trivial
 | n + 1,u :: us,k,hl,h=>by
  obtain ⟨v,h1,h2⟩:=h 0 bqi;simp only [List.getElem?_cons_zero,bm9] at h1;subst h1;refine ⟨h2,aka (n:=n) (k:=k + 1) (by simpa using hl) fun j hj=>?_⟩;obtain ⟨v,h3,h4⟩:=h (j + 1) bqi;refine ⟨v,by simpa using h3, ?_⟩;rwa [show k + 1 + j = k + (j + 1) by omega]
 | 0,_ :: _,_,h,_=>by cases h
 | _ + 1,[],_,h,_=>by cases h
def b9i {H:Type} {enc:TypeId × Value -> H} {W:World} {cs:Array Value} {d:DataW H} {ps:List MemPlace} {n:Nat} {α:Type} {c:α -> Nat -> PV} {B:Nat -> α -> Prop} (h:RdB P t n c B) (hd:DataW.Trod enc P W 0 (fun _=>true) true t (.agg cs) d ps) :
 ∃ a:α,B (Rows.uptoBulk d) a /\ it (gz W) (.agg ((List.range' 0 n).map (c a))) (.agg cs):=by
 obtain ⟨fuel,hf⟩:=hd;obtain ⟨hl,a,h0,ha⟩:=h _ enc W _ _ fuel _ _ hf;refine ⟨a,h0,cs.toList,by simp,aka hl fun j hj=>?_⟩;rw [bna];exact ha j hj
end
end
section
open Go.RowKit
section
variable {w0:World} {nt:Nat} {c:Ctx} {s:S} {a:Act} {w:World}
section
variable {g:Nat -> Nat -> Nat -> PV} {m:Nat -> Nat}
def adc {base:Nat} {o:b7} {id:Nat} {e et:TypeId} {es:Nat} (hes:0 < es) (hb:c.blk id = noB) (hv:∃ ad,c.own id = .slice ad 0 0):f8 base c o w id (.nest e et es 0 m g none):=by
 obtain ⟨ad,hv⟩:=hv;refine ⟨hes,bmh _,fun i hi=>absurd hi (bmf i),fun b=>?_,fun i b hi=>absurd hi (bmf i),fun i hi=>absurd hi (bmf i), .inl ⟨rfl,ad,hv⟩⟩;rw [hb,hv];constructor
 · exact fun h=>h.elim
 rintro (h | ⟨i,hi,_⟩)
 · cases ad <;> simp [cj] at h
 exact absurd hi (bmf i)
variable {f:Nat -> Nat -> PV}
def a4s {imm:Imm} {s':Nat} {u:Value} (h:b4 imm (.sl 0 s' true f) u):∃ ad,u = .slice ad 0 0:=by
 obtain ⟨ad,cap,rfl,_,_,hc,_⟩:=h;rw [hc rfl];exact ⟨ad,rfl⟩
def sv (m:Nat -> Nat) (n k:Nat):Nat -> Nat:=fun i=>bif Nat.beq i n then k else m i
def vb (g:Nat -> Nat -> Nat -> PV) (n:Nat) (f:Nat -> Nat -> PV):Nat -> Nat -> Nat -> PV:=fun i=>bif Nat.beq i n then f else g i
def afr (m:Nat -> Nat) (n k:Nat):sv m n k n = k:=by simp [sv]
def a4m {n k i:Nat} (h:i ≠ n):sv m n k i = m i:=by
 have:Nat.beq i n = false:=by rw [bmm];exact fun hb=>h (bn5 hb)
 simp [sv,this]
def asc (g:Nat -> Nat -> Nat -> PV) (n:Nat) (f:Nat -> Nat -> PV):vb g n f n = f:=by simp [vb]
def ajx {n i:Nat} (h:i ≠ n):vb g n f i = g i:=by
 have:Nat.beq i n = false:=by rw [bmm];exact fun hb=>h (bn5 hb)
 simp [vb,this]
def amk {v:Value} {b:Nat} (h:cj v = some b):cr v = some b:=by
 unfold cj at h;split at h
 · split at h
   · cases h
   exact h
 cases h
def ai.absorb (h:ai w0 nt c s a w) {id id' k n:Nat} {e et:TypeId} {es:Nat} (ho:s.o id = some (.nest e et es n m g (some (id',k)))) (ho':s.o id' = some (.arr true es et k f)):
 ∃ c',c'.old = c.old /\ ai w0 nt c' ((s.setO id (some (.nest e et es (n + 1) (sv m n k) (vb g n f) none))).setO id' none) a w:=by
 have hne:id' ≠ id:=by rintro rfl;rw [ho] at ho';cases ho'
 have hnk:nf 0 c s.o w id e et es n m g (some (id',k)):=h.objs id _ ho;obtain ⟨q0,q1,q5⟩:=h.objs id' _ ho'
 have hcb:∀ b,cj (c.own id') = some b -> c.blk id' b:=fun b hb=>by
  rcases q5 with ⟨q6,_⟩ | ⟨q7,_,q8⟩
  · rw [q6];exact amk hb
  obtain ⟨ad,cap,r1,_,_,r4,_⟩:=q8
  rcases q7 with q7 | q7
  · cases q7
  subst q7;rw [r1,r4 rfl] at hb;cases ad <;> simp [cj] at hb
 have hrow:(k = 0 /\ ∃ a,c.own id' = .slice a 0 0) \/ ∃ ys,w.ownsRow 0 et es (c.own id') k ys /\ ∀ r j,r < k -> j < es -> ∃ x,ys[r * es + j]? = some x /\ b4 c.imm (f r j) x:=by
  rcases q5 with ⟨q6,xs,q7,q8⟩ | ⟨q6,q7,q8⟩
  · exact .inr ⟨xs,q7,q8⟩
  rcases q6 with q6 | q6
  · cases q6
  subst q6;exact .inl ⟨rfl,a4s q8⟩
 let o':b7:=((s.setO id (some (.nest e et es (n + 1) (sv m n k) (vb g n f) none))).setO id' none).o
 have oid:o' id = some (.nest e et es (n + 1) (sv m n k) (vb g n f) none):=by
  show (if id = id' then _ else if id = id then _ else _) = _;rw [if_neg (Ne.symm hne),if_pos rfl]
 have oid':o' id' = none:=by
  show (if id' = id' then _ else _) = _;rw [if_pos rfl]
 have oelse:∀ q,q ≠ id -> q ≠ id' -> o' q = s.o q:=fun q h1 h2=>by
  show (if q = id' then _ else if q = id then _ else _) = _;rw [if_neg h2,if_neg h1]
 let c':Ctx:={ old:=c.old,imm:=c.imm,tab:=c.tab,own:=c.own,blk:=fun q=>if q = id then (fun b=>c.blk id b \/ cj (c.own id') = some b) else c.blk q,rows:=fun q=>if q = id then (fun i=>if i = n then c.own id' else c.rows id i) else c.rows q }
 have rlt:∀ i,i < n -> c'.rows id i = c.rows id i:=fun i hi=>by
  show (if id = id then (fun i=>if i = n then c.own id' else c.rows id i) else c.rows id) i = _;rw [if_pos rfl];show (if i = n then _ else _) = _;rw [if_neg bqi]
 have rn:c'.rows id n = c.own id':=by
  show (if id = id then (fun i=>if i = n then c.own id' else c.rows id i) else c.rows id) n = _;rw [if_pos rfl];show (if n = n then _ else _) = _;rw [if_pos rfl]
 have hevo:∀ q,Evo c s.o c' o' q:=fun q=>by
  by_cases h1:q = id
  · subst h1
    refine .inr (.inr ⟨_,_,1,e,n + 1,n + 1,ho,rfl,oid,rfl,bmd _,fun _=>rfl,fun e2 et2 es2 n2 m2 g2 pd2 hb2=>?_⟩);cases hb2;refine ⟨_,_,_,_,_,_,rfl,bpd _,fun i hi=>⟨by rw [a4m bqi];exact bmd _,fun _=>rlt i hi⟩⟩
  by_cases h2:q = id'
  · subst h2;exact .inl oid'
  exact Evo.of_same (oelse q h1 h2) rfl (by show (if q = id then _ else _) = _;rw [if_neg h1])
 have bid:∀ q,q ≠ id -> c'.blk q = c.blk q:=fun q hq=>by show (if q = id then _ else _) = _;rw [if_neg hq]
 have bself:∀ b,c'.blk id b <-> (c.blk id b \/ cj (c.own id') = some b):=fun b=>by
  show (if id = id then _ else c.blk id:Nat -> Prop) b <-> _;rw [if_pos rfl]
 have hold:∀ q ob,o' q = some ob -> q ≠ id -> q ≠ id' /\ s.o q = some ob:=fun q ob hq h1=>by
  by_cases h2:q = id'
  · subst h2;rw [oid'] at hq;cases hq
  exact ⟨h2,by rw [<- oelse q h1 h2];exact hq⟩
 have whose:∀ b,c'.blk id b -> c.blk id b \/ c.blk id' b:=fun b hb=>((bself b).1 hb).imp (fun z=>z) (hcb b);refine ⟨c',rfl,⟨h.defers,h.size,h.below,fun d x hx=>(h.tmps d x hx).evo (Imm.le.refl c.imm) fun q _=>hevo q,fun q ob hq=>?_,fun q q' ob ob' b hq hq' hb hb'=>?_,h.imm,fun q ob b hq hb=>?_,h.was,h.frm,fun q ob b hq hb=>?_,fun q hq=>(h.fixed q hq).trans (hevo q)⟩⟩
 · by_cases h1:q = id
   · subst h1
     have hq:o' q = some ob:=hq;rw [oid] at hq;cases hq;have hlen:=hnk.len;simp only [un] at hlen;refine ⟨hnk.pos,hlen,fun i hi=>?_,fun b=>?_,fun i b hi hb=>?_,fun i hi=>?_, .inr ?_⟩
     · by_cases hin:i = n
       · subst hin;rw [afr];exact q1
       rw [a4m hin];exact hnk.lens i bqi
     · rw [bself,hnk.blks]
       constructor
       · rintro ((h2 | ⟨i,hi,h2⟩) | h2)
         · exact .inl h2
         · exact .inr ⟨i,by omega,by rw [rlt i hi];exact h2⟩
         exact .inr ⟨n,by omega,by rw [rn];exact h2⟩
       rintro (h2 | ⟨i,hi,h2⟩)
       · exact .inl (.inl h2)
       by_cases hin:i = n
       · subst hin;rw [rn] at h2;exact .inr h2
       rw [rlt i bqi] at h2;exact .inl (.inr ⟨i,by omega,h2⟩)
     · have far:∀ b,cj (c.own id') = some b -> ¬ c.blk q b:=fun b h2 h3=>hne (h.inj id' q _ _ b ho' ho (hcb b h2) h3)
       by_cases hin:i = n
       · subst hin
         rw [rn] at hb;refine ⟨fun h2=>far b hb ((hnk.blks b).2 (.inl h2)),fun i' hi' h2=>?_⟩;by_cases hin':i' = i
         · exact hin'
         rw [rlt i' bqi] at h2;exact (far b hb ((hnk.blks b).2 (.inr ⟨i',by omega,h2⟩))).elim
       rw [rlt i bqi] at hb;obtain ⟨h2,h3⟩:=hnk.apart i b bqi hb;refine ⟨h2,fun i' hi' h4=>?_⟩;by_cases hin':i' = n
       · subst hin'
         rw [rn] at h4;exact (far b h4 ((hnk.blks b).2 (.inr ⟨i,by omega,hb⟩))).elim
       rw [rlt i' bqi] at h4;exact h3 i' bqi h4
     · by_cases hin:i = n
       · subst hin
         rw [rn,afr,asc];exact hrow
       rw [rlt i bqi,a4m hin,ajx hin];exact hnk.row i bqi
     rcases hnk.top with ⟨h2,_⟩ | ⟨xs,t1,t2,t3⟩
     · simp [un] at h2
     refine ⟨xs,t1,fun i hi=>?_,fun p hp=>by cases hp⟩;by_cases hin:i = n
     · subst hin
       obtain ⟨x,hx,hxr⟩:=t3 _ rfl;obtain ⟨_,_,hr3⟩:=hxr;rw [rn,hx,(hr3 _ _ _ _ ho' rfl).2 rfl]
     rw [rlt i bqi];exact t2 i bqi
   obtain ⟨h2,h3⟩:=hold q ob hq h1;exact (h.objs q ob h3).keep (Imm.le.refl c.imm) rfl (bid q h1) (fun j _=>hevo j) (fun b _=>rfl) (by show (if q = id then _ else _) = _;rw [if_neg h1])
 · by_cases h1:q = id
   · by_cases h2:q' = id
     · rw [h1,h2]
     obtain ⟨h3,h4⟩:=hold q' ob' hq' h2;rw [bid q' h2] at hb';subst h1
     rcases whose b hb with h5 | h5
     · exact h.inj q q' _ _ b ho h4 h5 hb'
     exact (h3 (h.inj q' id' _ _ b h4 ho' hb' h5)).elim
   obtain ⟨h3,h4⟩:=hold q ob hq h1;rw [bid q h1] at hb;by_cases h2:q' = id
   · subst h2
     rcases whose b hb' with h5 | h5
     · exact h.inj q q' _ _ b h4 ho hb h5
     exact (h3 (h.inj q id' _ _ b h4 ho' hb h5)).elim
   obtain ⟨h5,h6⟩:=hold q' ob' hq' h2;rw [bid q' h2] at hb';exact h.inj q q' _ _ b h4 h6 hb hb'
 · by_cases h1:q = id
   · subst h1
     rcases whose b hb with h5 | h5
     · exact h.sep q _ b ho h5
     exact h.sep id' _ b ho' h5
   rw [bid q h1] at hb;exact h.sep q ob b (hold q ob hq h1).2 hb
 by_cases h1:q = id
 · subst h1
   rcases whose b hb with h5 | h5
   · exact h.fsep q _ b ho h5
   exact h.fsep id' _ b ho' h5
 rw [bid q h1] at hb;exact h.fsep q ob b (hold q ob hq h1).2 hb
def a0z (es:Nat) (m:Nat -> Nat) (g:Nat -> Nat -> Nat -> PV):Nat -> Nat -> PV:=fun i _=>.sl (m i) es false (g i)
end
open Classical in
noncomputable def thinImm (c:Ctx) (w:World) (id n:Nat):Imm:=fun b=>if ∃ i,i < n /\ cj (c.rows id i) = some b then w.heap[b]? else c.imm b
def ai.thin (h:ai w0 nt c s a w) {id n:Nat} {e et:TypeId} {es:Nat} {m:Nat -> Nat} {g:Nat -> Nat -> Nat -> PV} (ho:s.o id = some (.nest e et es n m g none)) :
 ∃ c',c'.old = c.old /\ ai w0 nt c' (s.setO id (some (.arr true 1 e n (a0z es m g)))) a w:=by
 have hnk:nf 0 c s.o w id e et es n m g none:=h.objs id _ ho;have hin:∀ b,(∃ i,i < n /\ cj (c.rows id i) = some b) -> c.blk id b:=fun b hb=>(hnk.blks b).2 (.inr hb)
 have hle:Imm.le c.imm (thinImm c w id n):=fun b ob hb=>by
  unfold thinImm;by_cases hk:∃ i,i < n /\ cj (c.rows id i) = some b
  · rw [h.sep id _ b ho (hin b hk)] at hb;cases hb
  rw [if_neg hk];exact hb
 let ob':aa:=.arr true 1 e n (a0z es m g)
 let bk:Nat -> Prop:=fun b=>cj (c.own id) = some b
 let c':Ctx:={ old:=c.old,imm:=thinImm c w id n,tab:=c.tab.mono hle,own:=c.own,blk:=fun q=>if q = id then bk else c.blk q,rows:=c.rows }
 have oid:(s.setO id (some ob')).o id = some ob':=by show (if id = id then _ else _) = _;rw [if_pos rfl]
 have oelse:∀ q,q ≠ id -> (s.setO id (some ob')).o q = s.o q:=fun q hq=>by show (if q = id then _ else _) = _;rw [if_neg hq]
 have hevo:∀ q,Evo c s.o c' (s.setO id (some ob')).o q:=fun q=>by
  by_cases h1:q = id
  · subst h1
    exact .inr (.inr ⟨_, .arr true 1 e n (a0z es m g),1,e,n,n,ho,rfl,oid,rfl,bmd _,fun _=>rfl,fun _ _ _ _ _ _ _ hb=>by cases hb⟩)
  exact Evo.of_same (oelse q h1) rfl rfl
 have bid:∀ q,q ≠ id -> c'.blk q = c.blk q:=fun q hq=>by show (if q = id then _ else _) = _;rw [if_neg hq]
 have bself:c'.blk id = bk:=by show (if id = id then _ else _) = _;rw [if_pos rfl]
 have whose:∀ b,c'.blk id b -> c.blk id b:=fun b hb=>by
  rw [bself] at hb;exact (hnk.blks b).2 (.inl hb)
 have hrowP:∀ i,i < n -> b4 (thinImm c w id n) (.sl (m i) es false (g i)) (c.rows id i):=fun i hi=>by
  obtain ⟨ad,cap,q1,q2,q3⟩:=ah0 (h.objs id _ ho) hi;refine ⟨ad,cap,q1,q2,q3,(fun hh=>by cases hh),fun hm=>?_⟩;obtain ⟨b,cap',ys,r1,r2,_,r3⟩:=aai (h.objs id _ ho) hi hm;rw [q1] at r1;simp only [Value.slice.injEq,true_and] at r1;obtain ⟨rfl,rfl⟩:=r1;refine ⟨b,0,rfl,fun r j hr hj=>?_⟩;obtain ⟨x,_,hx,hxr⟩:=r3 r j hr hj;refine ⟨x, ?_,b4.mono hle hxr⟩;rw [bna];unfold jp thinImm;rw [if_pos ⟨i,hi,r2⟩];unfold World.cell? at hx;dsimp only at hx;split at hx
  · rename_i cs e0 fr hb'
    rw [hb'];simpa using hx
  cases hx
 refine ⟨c',rfl,⟨h.defers.keep (fun _ _=>rfl) (fun D hD hd=>?_),h.size,h.below,fun d x hx=>(h.tmps d x hx).evo hle fun q _=>hevo q,fun q ob hq=>?_,fun q q' ob ob2 b hq hq' hb hb'=>?_,fun b ob hb=>?_,fun q ob b hq hb=>?_,fun b hb=>?_,h.frm,fun q ob b hq hb=>?_,fun q hq=>(h.fixed q hq).trans (hevo q)⟩⟩
 · show thinImm c w id n D = none
   unfold thinImm
   rw [if_neg fun hk=>by
    obtain ⟨x1,hc,hdt⟩:=(h.objs id _ ho).data (hin D hk);rw [hd] at hc;cases hc
    cases hdt]
   exact hD
 · by_cases h1:q = id
   · subst h1
     rw [oid] at hq;cases hq;refine ⟨Nat.one_pos,hnk.len, ?_⟩
     have hplain:n = 0 /\ (∃ ad,c.own q = .slice ad 0 0) -> (c'.blk q = j9 (c.own q) /\ ∃ xs,w.ownsRow 0 e 1 (c.own q) n xs /\ ∀ i j,i < n -> j < 1 -> ∃ x,xs[i * 1 + j]? = some x /\ b4 c'.imm (a0z es m g i j) x) \/
      ((true = false \/ n = 0) /\ c'.blk q = noB /\ b4 c'.imm (.sl n 1 true (a0z es m g)) (c.own q)):=by
      rintro ⟨rfl,ad,hv⟩;refine .inr ⟨.inr rfl, ?_, ?_⟩
      · rw [bself]
        funext b;show (cj (c.own q) = some b) = False;rw [hv];cases ad <;> simp [cj]
      rw [hv];exact ⟨ad,0,rfl,bmd _,bmh _,fun _=>rfl,fun hh=>absurd hh (bps 0)⟩
     rcases hnk.top with ⟨h2,h3⟩ | ⟨xs,t1,t2,_⟩
     · exact hplain ⟨h2,h3⟩
     have t1:w.ownsRow 0 e 1 (c.own q) n xs:=t1
     rcases k7 t1 with r0 | ⟨b,cap,rv,rb⟩
     · exact hplain r0
     refine .inl ⟨?_,xs,t1,fun i j hi hj=>?_⟩
     · rw [bself]
       funext b';show (cj (c.own q) = some b') = (cr (c.own q) = some b');rw [rb,rv];rfl
     obtain rfl:j = 0:=by omega
     exact ⟨_,by simpa using t2 i hi,hrowP i hi⟩
   rw [oelse q h1] at hq;exact (h.objs q ob hq).keep hle rfl (bid q h1) (fun j _=>hevo j) (fun b _=>rfl) rfl
 · by_cases h1:q = id
   · by_cases h2:q' = id
     · rw [h1,h2]
     rw [oelse q' h2] at hq';rw [bid q' h2] at hb';subst h1;exact h.inj q q' _ _ b ho hq' (whose b hb) hb'
   rw [oelse q h1] at hq;rw [bid q h1] at hb;by_cases h2:q' = id
   · subst h2
     exact h.inj q q' _ _ b hq ho hb (whose b hb')
   rw [oelse q' h2] at hq';rw [bid q' h2] at hb';exact h.inj q q' _ _ b hq hq' hb hb'
 · have hb:thinImm c w id n b = some ob:=hb
   unfold thinImm at hb;split at hb
   · exact hb
   exact h.imm b ob hb
 · show thinImm c w id n b = none
   unfold thinImm;by_cases h1:q = id
   · subst h1
     rw [bself] at hb;rw [if_neg fun ⟨i,hi,hk⟩=>(hnk.apart i b hi hk).1 hb];exact h.sep q _ b ho ((hnk.blks b).2 (.inl hb))
   rw [oelse q h1] at hq;rw [bid q h1] at hb;rw [if_neg fun hk=>h1 (h.inj q id _ _ b hq ho hb (hin b hk))];exact h.sep q ob b hq hb
 · show thinImm c w id n b = c.old.1 b
   unfold thinImm;rw [if_neg fun hk=>hb (h.fsep id _ b ho (hin b hk))];exact h.was b hb
 by_cases h1:q = id
 · subst h1
   exact h.fsep q _ b ho (whose b hb)
 rw [oelse q h1] at hq;rw [bid q h1] at hb;exact h.fsep q ob b hq hb
end
section
variable {ro:Option Nat} {P:Program} {nt:Nat} {st:HSt} {Q:Exit -> HSt -> Prop}
def ayw {c:Code} (d id:Nat) {s':Nat} {f':Nat -> Nat -> PV} (e et:TypeId) (es:Nat) (m:Nat -> Nat) (g:Nat -> Nat -> Nat -> PV) (hs:0 < es) (hd:bm st.t d = some (bp (.sl 0 s' true f'))) (hn:tj id st = true)
 (h:HW (ro:=ro) P nt c ⟨(d,some (.v (.one (.ref id 0)))) :: st.t,(id,some (.nest e et es 0 m g none)) :: st.o⟩ Q):HW (ro:=ro) P nt c st Q:=by
 obtain ⟨hnm,hno⟩:=mh hn;refine xk ⟨st.t,(id,some (.nest e et es 0 m g none)) :: st.o⟩ d (.v (.one (.ref id 0))) (fun w0 m0 a w hr=>?_) h;obtain ⟨cc,hold,hrr⟩:=hr;have hx:b4 cc.imm (.sl 0 s' true f') (a.tmps.getD d undef):=hrr.tmps d _ hd;have hfresh:=hrr.fresh id hnm hno (.nest e et es 0 m g none) w (a.tmps.getD d undef) noB (Grw.refl w none) (fun b hb=>hb.elim) (adc hs bqm (by simpa using a4s hx));refine ⟨_, ?_,by rw [uk];exact hfresh, ?_⟩
 · exact hold
 rw [uk];refine ⟨b4.oneCell hx,fun l=>by simp [S.setO],fun ob1 s1 e1 n1 ho hd1=>?_⟩;simp only [S.setO,if_true,bm9] at ho;subst ho;simp only [aa.dim,bm9,bmj] at hd1;obtain ⟨rfl,rfl,rfl⟩:=hd1;exact ⟨bmd _,fun _=>by simp⟩
section
variable {g:Nat -> Nat -> Nat -> PV}
def ahb {c:Code} (id id':Nat) {k n:Nat} {e et:TypeId} {es:Nat} {m:Nat -> Nat} {f:Nat -> Nat -> PV} (ho:bm st.o id = some (.nest e et es n m g (some (id',k)))) (ho':bm st.o id' = some (.arr true es et k f)) (h:HW (ro:=ro) P nt c ⟨st.t,(id',none) :: (id,some (.nest e et es (n + 1) (sv m n k) (vb g n f) none)) :: st.o⟩ Q):HW (ro:=ro) P nt c st Q:=fun w0 m0 a w hr=>by
 obtain ⟨cc,hold,hrr⟩:=hr;obtain ⟨c',h1,h2⟩:=hrr.absorb ho ho';refine h w0 m0 a w ⟨c',h1.trans hold, ?_⟩;have e1:=t7 ⟨st.t,(id,some (.nest e et es (n + 1) (sv m n k) (vb g n f) none)) :: st.o⟩ id';rw [uk] at e1;rw [e1];exact h2
def ash {c:Code} (id:Nat) {n:Nat} {e et:TypeId} {es:Nat} {m:Nat -> Nat} (ho:bm st.o id = some (.nest e et es n m g none)) (h:HW (ro:=ro) P nt c ⟨st.t,(id,some (.arr true 1 e n (a0z es m g))) :: st.o⟩ Q):HW (ro:=ro) P nt c st Q:=fun w0 m0 a w hr=>by
 obtain ⟨cc,hold,hrr⟩:=hr;obtain ⟨c',h1,h2⟩:=hrr.thin ho;refine h w0 m0 a w ⟨c',h1.trans hold, ?_⟩;rw [uk];exact h2
end
end
section
variable {f':Nat -> Nat -> PV}
def ac1 {nt:Nat} {st:HSt} {w0:World} {m0:Old} {a:Act} {w:World} (bx off id:Nat) {s':Nat} {l:List HV} (e et:TypeId) (es:Nat) (m:Nat -> Nat) (g:Nat -> Nat -> Nat -> PV) (hs:0 < es) (hb:bm st.o bx = some (.box l)) (hl:l[off]? = some (.p (.sl 0 s' true f'))) (hn:tj id st = true) (hne:Nat.beq bx id = false) (hr:Rel w0 m0 nt st.den a w):Rel w0 m0 nt (HSt.den ⟨st.t,(bx,some (.box (be l off [.ref id 0]))) :: (id,some (.nest e et es 0 m g none)) :: st.o⟩) a w:=by
 obtain ⟨hnm,hno⟩:=mh hn;obtain ⟨cc,hold,hrr⟩:=hr;have hbi:bx ≠ id:=by rintro rfl;simp at hne
 obtain ⟨b0,C0,e0,p1,p2,p3,p4,p5⟩:=hrr.objs bx _ hb;obtain ⟨u,hu,hur⟩:=p5.get off _ hl;have hx:b4 cc.imm (.sl 0 s' true f') u:=hur;have hfresh:=hrr.fresh id hnm hno (.nest e et es 0 m g none) w u noB (Grw.refl w none) (fun b hb=>hb.elim) (adc hs bqm (by simpa using a4s hx));rw [<- uk] at hfresh
 have hb':(HSt.den ⟨st.t,(id,some (.nest e et es 0 m g none)) :: st.o⟩).o bx = some (.box l):=by
  simp only [HSt.den,bu,hbi,if_false];exact hb
 have hevo:∀ (c1:Ctx),c1.own = (fun k=>if k = id then u else cc.own k) -> Evo { old:=cc.old,imm:=cc.imm,tab:=cc.tab,own:=fun k=>if k = id then u else cc.own k,blk:=fun k=>if k = id then noB else cc.blk k,rows:=cc.rows } (HSt.den ⟨st.t,(id,some (.nest e et es 0 m g none)) :: st.o⟩).o c1 ((HSt.den ⟨st.t,(id,some (.nest e et es 0 m g none)) :: st.o⟩).setO bx (some (.box (be l off [.ref id 0])))).o bx:=fun c1 h1 =>
  .inr (.inl ⟨l,be l off [.ref id 0],hb',by simp [S.setO],by rw [h1]⟩)
 have hown:(fun k=>if k = bx then (fun k=>if k = id then u else cc.own k) bx else (fun k=>if k = id then u else cc.own k) k) = fun k=>if k = id then u else cc.own k:=by
  funext k;by_cases hk:k = bx
  · subst hk;simp
  simp [hk]
 have hw:=hfresh.write bx (.box l) hb' (.box (be l off [.ref id 0])) w ((fun k=>if k = id then u else cc.own k) bx) ((fun k=>if k = id then noB else cc.blk k) bx) none (Grw.refl w _) (fun _ e=>by cases e) (hevo _ (by exact hown)) (fun b hb=>.inl hb) (by
  refine ⟨b0,C0,e0,by simpa [hbi] using p1,by simpa [hbi] using p2,p3,p4, ?_⟩;have hoff:off < l.length:=(boc.1 hl).1;have hcl:=p5.length;refine bc.of_get ?_ fun k x u' hx' hu'=>?_
  · simp only [be,bmg,bmk,bnv,bo1];omega
  have hx2:=hx';unfold be at hx2;rw [df l [HV.ref id 0] off k bqt] at hx2;by_cases hk:k = off
  · subst hk
    simp at hx2;subst hx2;rw [hu] at hu';simp only [bm9] at hu';subst hu';refine ⟨b4.oneCell hx,fun l2=>by simp [S.setO,HSt.den,bu,Ne.symm hbi],fun ob1 s1 e1 n1 ho hd1=>?_⟩;simp only [S.setO,HSt.den,bu,Ne.symm hbi,if_false,if_true,bm9] at ho;subst ho;simp only [aa.dim,bm9,bmj] at hd1;obtain ⟨rfl,rfl,rfl⟩:=hd1;exact ⟨bmd _,fun _=>by simp [Ne.symm hbi]⟩
  rw [if_neg bqt] at hx2;obtain ⟨u2,hu2,hr2⟩:=p5.get k x hx2;rw [hu'] at hu2;simp only [bm9] at hu2;subst hu2;refine bn.evo (c:=cc) (o:=st.den.o) (Imm.le.refl cc.imm) (fun j hj=>?_) hr2
  have hji:j ≠ id:=by
   rintro rfl;exact hnm.2.1 bx _ hb ⟨x,List.mem_of_getElem? hx2,hj⟩
  by_cases hjb:j = bx
  · subst hjb;exact .inr (.inl ⟨l,be l off [.ref id 0],hb,by simp [S.setO],by simp [hji]⟩)
  exact Evo.of_same (by simp [S.setO,hjb,HSt.den,bu,hji]) (by simp [hjb,hji]))
 have e:HSt.den ⟨st.t,(bx,some (.box (be l off [.ref id 0]))) :: (id,some (.nest e et es 0 m g none)) :: st.o⟩ = (HSt.den ⟨st.t,(id,some (.nest e et es 0 m g none)) :: st.o⟩).setO bx (some (.box (be l off [.ref id 0]))):=by
  unfold HSt.den S.setO;simp only [S.mk.injEq,true_and];funext k;simp only [bu]
 rw [e];exact ⟨_,(by exact hold),hw⟩
def afn {ro:Option Nat} {P:Program} {nt:Nat} {st:HSt} {Q:Exit -> HSt -> Prop} {c:Code} (bx off id:Nat) {s':Nat} {l:List HV} (e et:TypeId) (es:Nat) (m:Nat -> Nat) (g:Nat -> Nat -> Nat -> PV) (hs:0 < es) (hb:bm st.o bx = some (.box l)) (hl:l[off]? = some (.p (.sl 0 s' true f'))) (hn:tj id st = true) (hne:Nat.beq bx id = false) (h:HW (ro:=ro) P nt c ⟨st.t,(bx,some (.box (be l off [.ref id 0]))) :: (id,some (.nest e et es 0 m g none)) :: st.o⟩ Q):HW (ro:=ro) P nt c st Q:=fun w0 m0 a w hr=>h w0 m0 a w (ac1 bx off id e et es m g hs hb hl hn hne hr)
end
end
section
abbrev Rw:=List Int
def ltZ:Rw -> Rw -> Bool
 | [],[]=>false
 | [],_ :: _=>true
 | _ :: _,[]=>false
 | x :: a,y :: b=>if x = y then ltZ a b else decide (x < y)
def vo:∀ a:Rw,ltZ a a = false
 | []=>rfl
 | x :: a=>by unfold ltZ;rw [if_pos rfl];exact vo a
def ky:∀ {a b c:Rw},ltZ a b = true -> ltZ b c = true -> ltZ a c = true
 | [],[],_,h,_=>by cases h
 | [],_ :: _,[],_,k=>by cases k
 | [],_ :: _,_ :: _,_,_=>rfl
 | _ :: _,[],_,h,_=>by cases h
 | _ :: _,_ :: _,[],_,k=>by cases k
 | x :: a,y :: b,z :: c,h,k=>by
  unfold ltZ at *;by_cases hxy:x = y
  · rw [if_pos hxy] at h
    subst hxy;by_cases hyz:x = z
    · rw [if_pos hyz] at k ⊢
      exact ky h k
    rw [if_neg hyz] at k ⊢;exact k
  rw [if_neg hxy] at h;have h:=of_decide_eq_true h;by_cases hyz:y = z
  · subst hyz
    rw [if_neg hxy];exact decide_eq_true h
  rw [if_neg hyz] at k;have k:=of_decide_eq_true k;rw [if_neg bqi];exact decide_eq_true bqi
def z6:∀ {a b:Rw},a ≠ b -> ltZ a b = true \/ ltZ b a = true
 | [],[],h=>absurd rfl h
 | [],_ :: _,_=>.inl rfl
 | _ :: _,[],_=>.inr rfl
 | x :: a,y :: b,h=>by
  unfold ltZ;by_cases hxy:x = y
  · subst hxy
    rw [if_pos rfl,if_pos rfl];exact z6 fun e=>h (by rw [e])
  rw [if_neg hxy,if_neg (Ne.symm hxy),decide_eq_true_iff,decide_eq_true_iff];omega
def zC:Int -> Nat -> PV:=fun z _=>.raw (.int .i64 z)
abbrev zl (r:Rw):PV:=psl 1 zC r
def rC:Rw -> Nat -> PV:=fun r _=>zl r
abbrev rl (l:List Rw):PV:=psl 1 rC l
def b3c {a b:Rw} (h:ltZ a b = true):ltZ b a = false:=by
 rw [bmm];intro k;have:=ky h k;rw [vo] at this;cases this
def qh (l:List Rw):Prop:=l.Pairwise fun a b=>ltZ a b = true
def x3:∀ {l k:List Rw},qh l -> qh k -> (∀ x,x ∈ l <-> x ∈ k) -> l = k
 | [],[],_,_,_=>rfl
 | [],y :: k,_,_,h=>absurd ((h y).2 (bnj ..)) bqm
 | x :: l,[],_,_,h=>absurd ((h x).1 (bnj ..)) bqm
 | x :: l,y :: k,hl,hk,h=>by
  obtain ⟨h1,h2⟩:=bnk.1 hl;obtain ⟨k1,k2⟩:=bnk.1 hk
  have e:x = y:=by
   rcases bmp.1 ((h x).1 (bnj ..)) with e | hx
   · exact e
   rcases bmp.1 ((h y).2 (bnj ..)) with e | hy
   · exact e.symm
   have:=b3c (k1 x hx);rw [h1 y hy] at this;cases this
  subst e;congr 1;refine x3 h2 k2 fun z=>?_;constructor
  · intro hz
    rcases bmp.1 ((h z).1 (bni _ hz)) with e | hz'
    · subst e
      have:=h1 z hz;rw [vo] at this;cases this
    exact hz'
  intro hz
  rcases bmp.1 ((h z).2 (bni _ hz)) with e | hz'
  · subst e
    have:=k1 z hz;rw [vo] at this;cases this
  exact hz'
def ke (x:Rw):List Rw -> List Rw
 | []=>[x]
 | y :: l=>if x = y then y :: l else if ltZ x y = true then x :: y :: l else y :: ke x l
def a0k {x z:Rw}:∀ {l:List Rw},z ∈ ke x l <-> z = x \/ z ∈ l
 | []=>by simp [ke]
 | y :: l=>by
  unfold ke;split
  · rename_i e
    subst e;simp
  split
  · simp
  rw [bmp,a0k,bmp];constructor
  · rintro (h | h | h) <;> simp [h]
  rintro (h | h | h) <;> simp [h]
def a1l {x:Rw}:∀ {l:List Rw},qh l -> qh (ke x l)
 | [],_=>by simp [ke,qh]
 | y :: l,h=>by
  obtain ⟨h1,h2⟩:=bnk.1 h;unfold ke;split
  · exact h
  split
  · rename_i hxy
    refine bnk.2 ⟨fun z hz=>?_,h⟩
    rcases bmp.1 hz with rfl | hz
    · exact hxy
    exact ky hxy (h1 z hz)
  rename_i hne hxy;refine bnk.2 ⟨fun z hz=>?_,a1l h2⟩
  rcases a0k.1 hz with rfl | hz
  · exact (z6 hne).resolve_left hxy
  exact h1 z hz
def av (l:List Rw):List Rw:=l.foldl (fun o x=>ke x o) []
def a7k:∀ {l o:List Rw},qh o -> qh (l.foldl (fun o x=>ke x o) o) /\ ∀ z,z ∈ l.foldl (fun o x=>ke x o) o <-> z ∈ o \/ z ∈ l
 | [],o,h=>⟨h,fun z=>by simp⟩
 | x :: l,o,h=>by
  obtain ⟨h1,h2⟩:=a7k (l:=l) (a1l (x:=x) h);refine ⟨h1,fun z=>?_⟩;show z ∈ l.foldl (fun o x=>ke x o) (ke x o) <-> _;rw [h2 z,a0k,bmp];constructor
  · rintro ((h | h) | h) <;> simp [h]
  rintro (h | h | h) <;> simp [h]
def iw (l:List Rw):qh (av l):=(a7k (o:=[]) List.Pairwise.nil).1
section
variable {l:List Rw}
def gv {z:Rw}:z ∈ av l <-> z ∈ l:=by
 show z ∈ l.foldl (fun o x=>ke x o) [] <-> _;rw [(a7k (l:=l) (o:=[]) List.Pairwise.nil).2 z];simp
def aju {k:List Rw} (hk:qh k) (h:∀ z,z ∈ k <-> z ∈ l):k = av l:=x3 hk (iw l) fun z=>by rw [h z,gv]
def lx (l:List Rw) (k:Nat) (r:Rw):List Rw:=l.take k ++ r :: l.drop k
variable {k:Nat} {r:Rw}
def mw (h:k <= l.length):(lx l k r).length = l.length + 1:=by simp [lx];omega
def b07:lx l l.length r = l ++ [r]:=by simp [lx]
def a4u {i:Nat} (h:k <= l.length):(lx l k r)[i]? = if i < k then l[i]? else if i = k then some r else l[i - 1]?:=by
 simp only [lx];by_cases h1:i < k
 · rw [if_pos h1,bns bqt,bmy,if_pos h1]
 rw [if_neg h1,bnr bqt,bmk,bo5 h];by_cases h2:i = k
 · subst h2;simp
 rw [if_neg h2];obtain ⟨d,rfl⟩:∃ d,i = k + 1 + d:=⟨i - k - 1,by omega⟩;rw [show k + 1 + d - k = d + 1 by omega,List.getElem?_cons_succ,boj];congr 1;omega
def ayz (h:k <= l.length):(lx l k r).getD k default = r:=by
 rw [bmb,a4u h,if_neg bqi,if_pos rfl];rfl
def ahz (h0:0 < k) (h:k <= l.length):(lx l k r).getD (k - 1) default = l.getD (k - 1) default:=by
 rw [bmb,a4u h,if_pos bqi,bmb]
def avg (h0:0 < k) (h:k <= l.length):((lx l k r).set k (l.getD (k - 1) default)).set (k - 1) r = lx l (k - 1) r:=by
 apply bop;intro i;rw [a4u bqi,bqd,bqd,bol,mw h,a4u h];by_cases h1:k - 1 = i
 · subst h1
   rw [if_pos rfl,if_pos bqi,if_neg bqi,if_pos rfl]
 rw [if_neg h1];by_cases h2:k = i
 · subst h2
   rw [if_pos rfl,if_pos bqi,if_neg bqi,if_neg bqi,List.getD,bma bqi];rfl
 rw [if_neg h2];by_cases h3:i < k
 · rw [if_pos h3,if_pos bqi]
 rw [if_neg h3,if_neg bqi,if_neg bqi,if_neg bqi]
def ayy {k' m':Nat} (h0:0 < k) (hk:k <= l.length) (hk':k' = k) (hm':m' = k - 1) {n:Nat} (hn:n = l.length + 1) {e:TypeId}:
 CoO (.arr true 1 e n (ez (ez (lf rC (lx l k r)) k' 0 [lf rC (lx l k r) m' 0]) m' 0 [lf rC (lx l k r) k' 0])) (.arr true 1 e n (lf rC (lx l (k - 1) r))):=by
 subst hk' hm';rw [<- avg h0 hk];refine apv (fun h=>h) (by rw [mw hk];exact hn) (by rw [mw hk];omega) (by rw [mw hk];omega) rfl rfl (fun j hj=>?_) (fun j hj=>?_)
 · obtain rfl:j = 0:=by omega
   exact CoP.of_eq (by show rC ((lx l k' r).getD (k' - 1) default) 0 = _;rw [ahz h0 hk])
 obtain rfl:j = 0:=by omega
 exact CoP.of_eq (by show rC ((lx l k' r).getD k' default) 0 = _;rw [ayz hk])
def ax3 {k' m':Nat} {b:Bool} (h0:0 < k) (hk:k <= l.length) (h:ltZ ((lx l k r).getD k' default) ((lx l k r).getD m' default) = b) (hk':k' = k) (hm':m' = k - 1):ltZ r (l.getD (k - 1) default) = b:=by
 subst hk' hm';rwa [ayz hk,ahz h0 hk] at h
def b0v {j:Nat} (h:j < l.length):l.getD j default ∈ l:=by
 rw [bmb,bma h];exact bmz h
def ahi (hs:qh l) (hr:r ∉ l) (hk:k <= l.length) (h1:∀ j,k <= j -> j < l.length -> ltZ r (l.getD j default) = true) (h2:k = 0 \/ ¬ ltZ r (l.getD (k - 1) default) = true):lx l k r = ke r l:=by
 refine x3 ?_ (a1l hs) fun z=>?_
 · unfold qh lx
   rw [bpf];refine ⟨hs.sublist (List.take_sublist _ _),bnk.2 ⟨fun z hz=>?_,hs.sublist (List.drop_sublist _ _)⟩,fun y hy z hz=>?_⟩
   · obtain ⟨j,hj,rfl⟩:=bn1 hz
     rw [bnv] at hj;have:=h1 (k + j) bqi bqi;rwa [bmb,bma bqi,bn6,<- List.getElem_drop] at this
   have hyr:ltZ y r = true:=by
    obtain ⟨j,hj,rfl⟩:=bn1 hy;rw [bmk] at hj
    rcases h2 with h2 | h2
    · omega
    have hk1:k - 1 < l.length:=by omega
    have hlast:ltZ (l.getD (k - 1) default) r = true:=by
     rcases z6 (a:=r) (b:=l.getD (k - 1) default) (fun e=>hr (e ▸ b0v hk1)) with h | h
     · exact absurd h h2
     exact h
    rw [List.getElem_take];by_cases hjk:j = k - 1
    · subst hjk
      rwa [bmb,bma hk1,bn6] at hlast
    refine ky ?_ hlast;rw [bmb,bma hk1,bn6];exact bod.1 hs j (k - 1) bqi hk1 bqi
   rcases bmp.1 hz with rfl | hz
   · exact hyr
   have h3:ltZ r z = true:=by
    obtain ⟨j,hj,rfl⟩:=bn1 hz;rw [bnv] at hj;have:=h1 (k + j) bqi bqi;rwa [bmb,bma bqi,bn6,<- List.getElem_drop] at this
   exact ky hyr h3
 rw [a0k];unfold lx;rw [bmu,bmp];constructor
 · rintro (h | h | h)
   · exact .inr (bov h)
   · exact .inl h
   exact .inr (bpv h)
 rintro (h | h)
 · exact .inr (.inl h)
 rw [<- bpq k l,bmu] at h
 rcases h with h | h
 · exact .inl h
 exact .inr (.inr h)
def vt (hs:qh l) (hr:r ∈ l):ke r l = l:=x3 (a1l hs) hs fun z=>by
 rw [a0k];constructor
 · rintro (rfl | h)
   · exact hr
   exact h
 exact .inr
def fl {i:Nat} (hi:i < l.length):av (l.take (i + 1)) = ke (l.getD i default) (av (l.take i)):=by
 unfold av;rw [am hi,bnn];rfl
def alz (x:Rw):∀ l:List Rw,(ke x l).length <= l.length + 1
 | []=>by simp [ke]
 | y :: l=>by
  unfold ke;have:=alz x l;split
  · simp
  split
  · simp
  simp only [bn7];omega
def a0y (l:List Rw):(av l).length <= l.length:=by
 have:∀ (l o:List Rw),(l.foldl (fun o x=>ke x o) o).length <= o.length + l.length:=by
  intro l
  induction l with
  | nil=>intro o;simp
  | cons x l ih =>
   intro o;have h1:=ih (ke x o);have h2:=alz x o;simp only [bo9,bn7];omega
 have h:=this l [];simpa [av] using h
end
end
section
abbrev pZ (r:Rw):PC:=.one (zl r)
abbrev pR (l:List Rw):PC:=.one (rl l)
abbrev pT (n:Int) (l:List Rw):PC:=.agg [.raw (.int .i64 n),rl l]
def ann:∀ {a b:Rw} {i:Nat},i < a.length -> i < b.length -> (∀ j,j < i -> a.getD j default = b.getD j default) -> ¬ a.getD i default = b.getD i default -> ltZ a b = decide (a.getD i default < b.getD i default)
 | [],_,_,h,_,_,_=>by simp at h
 | _ :: _,[],_,_,h,_,_=>by simp at h
 | x :: a,y :: b,0,_,_,_,hn=>by
  have:¬ x = y:=hn;unfold ltZ;rw [if_neg this];rfl
 | x :: a,y :: b,i + 1,ha,hb,h,hn=>by
  have e:x = y:=h 0 bqi;unfold ltZ;rw [if_pos e];exact ann (by simpa using ha) (by simpa using hb) (fun j hj=>h (j + 1) bqi) hn
def a8n:∀ {a b:Rw},(∀ j,j < a.length -> j < b.length -> a.getD j default = b.getD j default) -> ltZ a b = decide (a.length < b.length)
 | [],[],_=>rfl
 | [],_ :: _,_=>by simp [ltZ]
 | _ :: _,[],_=>by simp [ltZ]
 | x :: a,y :: b,h=>by
  have e:x = y:=h 0 bqm bqm;unfold ltZ;rw [if_pos e,a8n fun j h1 h2=>h (j + 1) (by simpa using h1) (by simpa using h2)];simp
def rt (a b:Rw):Int:=if a = b then 0 else if ltZ a b = true then -1 else 1
section
variable {a b:Rw} {i:Nat}
def b91 (ha:i < a.length) (hb:i < b.length) (h:∀ j,j < i -> a.getD j default = b.getD j default) (hn:¬ kw (a.getD i default) (b.getD i default) = 0):kw (a.getD i default) (b.getD i default) = rt a b:=by
 have hne:¬ a.getD i default = b.getD i default:=fun e=>hn (by unfold kw;rw [if_neg bqi,if_neg bqi]);unfold kw rt;rw [if_neg (fun e:a = b=>hne (by rw [e])),ann ha hb h hne];simp only [decide_eq_true_eq];split
 · rfl
 rw [if_pos bqi]
def bfh {a b:Int} (h:kw a b = 0):a = b:=by
 unfold kw at h;split at h
 · omega
 split at h <;> omega
def b78 (ha:i < a.length) (hb:¬ i < b.length) (h:∀ j,j < i -> a.getD j default = b.getD j default):(1:Int) = rt a b:=by
 unfold rt;rw [if_neg (fun e:a = b=>by subst e;omega),a8n fun j h1 h2=>h j bqi,if_neg (by simp only [decide_eq_true_eq];omega)]
def b97 (hl:a.length < b.length) (h:∀ j,j < a.length -> a.getD j default = b.getD j default):(-1:Int) = rt a b:=by
 unfold rt;rw [if_neg (fun e:a = b=>by subst e;omega),a8n fun j h1 h2=>h j h1,if_pos (by simp only [decide_eq_true_eq];omega)]
def b5a (hl:a.length <= b.length) (hl2:¬ a.length < b.length) (h:∀ j,j < a.length -> a.getD j default = b.getD j default):(0:Int) = rt a b:=by
 unfold rt;rw [if_pos (ol bqi h)]
def b4t (h:a.length = b.length) (hI:∀ j,j < a.length -> decide (a.getD j default = b.getD j default) = true):a = b:=ol h fun j hj=>of_decide_eq_true (hI j hj)
def bc1 {a b:Nat} (h:∀ j,j < a -> j < b):a <= b:=bpl fun e=>bps _ (h b e)
def lm (a b:Rw) (s:AS):Bool:=decide (∀ i:Nat,i < a.length -> (d6 s (i:Int) = true -> a.getD i default = b.getD i default))
def aw4 {s:AS} (hi:i < a.length) (h:d6 s (i:Int) = true) (hn:¬ a.getD i default = b.getD i default):lm a b s = false:=decide_eq_false fun e=>hn (e i hi h)
def a3c {s:AS} (h:∀ i:Nat,i < a.length -> (d6 s (i:Int) = true -> a.getD i default = b.getD i default)):lm a b s = true:=decide_eq_true h
def va {s:AS} (h:i < 32):ay .and .u32 ((asI s).fdiv (2 ^ (min i 32))) 1 = 1 <-> d6 s (i:Int) = true:=by
 rw [<- aj1 (s:=s) (i:=(i:Int)) bqi bqi,decide_eq_true_iff];rfl
def p8 (n:Int) (l:List Rw) (i:Nat):Bool:=decide (((l.getD i default).length:Int) = n) && !(l.getD i default).any (fun x=>decide (x < 0)) && (decide (i = 0) || ltZ (l.getD (i - 1) default) (l.getD i default))
def tok (n:Int) (l:List Rw):Bool:=decide (0 <= n /\ n <= 16 /\ l.length <= 256) && decide (∀ i,i < l.length -> p8 n l i = true)
def aub {n:Int} {l:List Rw} (h0:0 <= n) (h1:n <= 16) (h2:l.length <= 256) (h:∀ i,i < l.length -> p8 n l i = true):tok n l = true:=by
 unfold tok;rw [decide_eq_true (show 0 <= n /\ n <= 16 /\ l.length <= 256 from ⟨h0,h1,h2⟩),decide_eq_true h];rfl
def a2x {n:Int} {l:List Rw} (h:¬ (0 <= n /\ n <= 16 /\ l.length <= 256)):tok n l = false:=by
 unfold tok;rw [decide_eq_false h];rfl
def a3y {n:Int} {l:List Rw} (hi:i < l.length) (h:p8 n l i = false):tok n l = false:=by
 unfold tok;rw [decide_eq_false (fun e:∀ i,i < l.length -> p8 n l i = true=>by rw [e i hi] at h;cases h),bqg]
def ef (a b:Rw) (s:AS):Rw:=(List.range b.length).map fun (i:Nat)=>if d6 s (i:Int) = true then a.getD i default else b.getD i default
end
end
end Go.Hx
