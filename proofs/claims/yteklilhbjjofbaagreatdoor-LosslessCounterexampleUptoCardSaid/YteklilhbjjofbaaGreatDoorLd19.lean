/- A part of the proof: Lw Hx26 Hx25 Ch1 Ch2. -/
import Derived.Deep.DeepHandedRow
import Derived.OpenShut
import Derived.ProofKit
import Derived.Test.YteklilhbjjofbaaGreatDoorCards
import Derived.Test.YteklilhbjjofbaaGreatDoorRows
import Derived.Test.YteklilhbjjofbaaGreatDoorTie
import Derived.WalkKit
import Derived.Test.YteklilhbjjofbaaGreatDoorLd18
set_option linter.all false
namespace Go.Hx
section
open Go.Proofs Go.ChangeShapes Go.WideShapes Go.ChangeAt Go.RowKit
def own:ownKnob b98.godebug = none:=by kernel_rfl
def ays : b98.globalNamed "math/bits.deBruijn32tab" = some 1 := by kernel_rfl
def aoh:(b98.globals[1]?).map (·.type) = some 228:=by kernel_rfl
def aop:b98.cellsOf 228 = 32:=by kernel_rfl
def avh:b98.cellsOf 5 = 1:=by kernel_rfl
def ad4:List Int:=[0,1,28,2,29,14,24,3,30,22,20,15,25,17,4,8,31,27,13,23,21,19,16,7,26,12,18,6,11,5,10,9]
def b05 {W : World} (h : laidMetH b98 [("math/bits.deBruijn32tab", YteklilhbjjofbaaGreatDoor.Rows.laid_math_bits_deBruijn32tab)] W) : py (f8 W) := by
 have ht : Lib.TabIs b98 W "math/bits.deBruijn32tab" .u8 ad4 := Lib.tabIs_of_head (rest := []) ays aoh Tryz.underlying228 Tryz.underlying5 avh aop h;intro b off v hv;unfold tw qc at hv;split at hv
 · have hlt:off < 32:=by
    rcases b82 off 32 with h | h
    · exact h
    rw [b77 (by simpa using h)] at hv;cases hv
   have hc:=ht.cell ays off hlt
   have e:v = .int .u8 (ad4.getD off 0):=by
    have:(ad4.map fun z=>Value.int .u8 z)[off]? = some v:=hv;rw [b5s] at this;rw [b5c]
    cases hz:ad4[off]? with
    | none=>rw [hz] at this;cases this
    | some z=>rw [hz] at this;exact (Option.some.inj this).symm
   rw [e];unfold World.cell? at hc;unfold gn f8;split at hc
   · rename_i c t fr hh
     rw [hh];simpa using hc
   cases hc
 cases hv
noncomputable def laidWorld (os:Os):World :=
 { World.holding b98 os ⟨#[],#[],[]⟩ with heap:=(World.holding b98 os ⟨#[],#[],[]⟩).heap.modify 1 fun
  | .cells _ t frozen=>.cells (ad4.map fun z=>Value.int .u8 z).toArray t frozen
  | o=>o }
end
section
open Go.Proofs Go.Proofs.YteklilhbjjofbaaGreatDoor
open Go.RowKit Go.ChangeShapes Go.WideShapes Go.ChangeAt
section
variable {H:Type}
def a80 {d:DataW H} {l:List (DataW H)} (h:d ∈ l):Rows.uptoBulk d <= Rows.uptoBulkAll l:=by
 induction l with
 | nil=>cases h
 | cons x r ih =>
  rw [Rows.uptoBulkAll]
  rcases b5k.1 h with e | e
  · subst e;omega
  have:=ih e;omega
def at9 (d:DataW H):1 <= Rows.uptoBulk d:=by
 cases d with
 | lit l=>cases l <;> simp [Rows.uptoBulk]
 | _=>simp [Rows.uptoBulk]
def aoz (l:List (DataW H)):l.length <= Rows.uptoBulkAll l:=by
 induction l with
 | nil=>simp
 | cons x r ih=>have:=at9 x;rw [Rows.uptoBulkAll,b6k];omega
def apq {l r:List (DataW H)} {d:DataW H} (h:d ∈ l):Rows.uptoBulk d <= Rows.uptoBulk (.slice l r):=by
 have:=a80 h;rw [Rows.uptoBulk];omega
def ah1 {l:List (DataW H)} {d:DataW H} (h:d ∈ l):Rows.uptoBulk d <= Rows.uptoBulk (.agg l):=by
 have:=a80 h;rw [Rows.uptoBulk];omega
def asy (l r:List (DataW H)):l.length <= Rows.uptoBulk (.slice l r):=by
 have:=aoz l;rw [Rows.uptoBulk];omega
end
def RdB (P:Program) (t:TypeId) (n:Nat) {α:Type} (c:α -> Nat -> PV) (B:Nat -> α -> Prop):Prop :=
 ∀ (H:Type) (enc:TypeId × Value -> H) (w:World) (sp:Nat -> Bool) (held:Bool) (fuel:Nat) (cs:List Value) (x:DataW H × List MemPlace),DataW.trod enc P w 0 sp held fuel t cs = some x ->
  cs.length = n /\ ∃ a:α,B (Rows.uptoBulk x.1) a /\ ∀ j,j < n -> ∃ v,cs[j]? = some v /\ am (f8 w) (c a j) v
section
variable {P:Program} {t e:TypeId}
theorem Rd.toB {n:Nat} {α:Type} {c:α -> Nat -> PV} (h:Rd P t n c):RdB P t n c fun _ _=>True:=by
 intro H enc w sp held fuel cs x hx;obtain ⟨h1,a,h2⟩:=h _ enc w sp held fuel cs x hx;exact ⟨h1,a,trivial,h2⟩
section
variable {α:Type} {B:Nat -> α -> Prop} {c:α -> Nat -> PV}
theorem RdB.co {n:Nat} {β:Type} {c':β -> Nat -> PV} {B':Nat -> β -> Prop} (h:RdB P t n c B) (f:α -> β) (hB:∀ b a,B b a -> B' b (f a)) (hc:∀ a j,j < n -> CoP (c a j) (c' (f a) j)):RdB P t n c' B':=by
 intro H enc w sp held fuel cs x hx;obtain ⟨h1,a,h0,h2⟩:=h _ enc w sp held fuel cs x hx;refine ⟨h1,f a,hB _ _ h0,fun j hj=>?_⟩;obtain ⟨v,h3,h4⟩:=h2 j hj;exact ⟨v,h3,hc a j hj _ _ h4⟩
def a9g {s:Nat} [Inhabited α] (mono:∀ b b' x,b <= b' -> B b x -> B b' x) (ht:P.underlying t = some (.slice e)) (hc:P.cellsOf e = s) (hs:0 < s) (h:RdB P e s c B):RdB P t 1 (apy s c) (fun b l=>l.length <= b /\ ∀ i,i < l.length -> B b (l.getD i default)):=by
 classical
 intro H enc w sp held fuel cs x hx
 rcases DataW.trod_slice ht hx with ⟨rfl,_⟩ | ⟨a,len,cap,elems,rest,n,rfl,rfl,rfl,hb,hl,hm,hlen,hel,_,_⟩
 · refine ⟨rfl,[],⟨b5h _,fun i hi=>absurd hi (b5i i)⟩,fun j hj=>?_⟩
   obtain rfl:j = 0:=by omega
   exact ⟨_,rfl,none,0,rfl,b5g _,b5h _,(fun hh=>by cases hh),fun hh=>absurd hh (Nat.lt_irrefl 0)⟩
 have each:∀ i,i < len -> ∃ q:α,B (Rows.uptoBulk (DataW.slice (elems.map (·.1)) (rest.map (·.1)))) q /\ ∀ j,j < s -> ∃ v,w.cell? (a.add (i * s + j)) = some v /\ am (f8 w) (c q j) v:=by
  intro i hi;have h1:=hel i hi;rw [hc] at h1;rw [b5b b8i] at h1;obtain ⟨cs',h2,h3⟩:=Option.bind_eq_some_iff.1 h1;obtain ⟨_,h4,h5⟩:=World.cells?_some h2;obtain ⟨_,q,h9,h6⟩:=h _ enc w sp held n cs' _ h3;refine ⟨q,mono _ _ q (apq (List.mem_map_of_mem (b5l _))) h9,fun j hj=>?_⟩;obtain ⟨v,h7,h8⟩:=h6 j hj;refine ⟨v, ?_,h8⟩;have:=h5 j hj;rw [h7] at this;rw [<- this];congr 1;unfold Addr.add;by_cases hj0:j = 0
  · subst hj0
    simp
  by_cases hi0:i * s = 0
  · simp [hi0,hj0]
  have:¬ (i * s + j = 0):=by omega
  simp only [hj0,hi0,this,if_false];congr 1;omega
 refine ⟨rfl,(List.range len).map fun i=>if hi:i < len then Classical.choose (each i hi) else default,⟨?_,fun i hi=>?_⟩,fun j hj=>?_⟩
 · rw [b64,b8e,<- hlen]
   have:=asy (elems.map (·.1)) (rest.map (·.1));rw [b64] at this;exact this
 · have hi:i < len:=by simpa using hi
   have hch:=(Classical.choose_spec (each i hi)).1;have e:((List.range len).map fun i=>if hi:i < len then Classical.choose (each i hi) else default).getD i default = Classical.choose (each i hi):=by simp [List.getD,hi]
   rw [e];exact hch
 obtain rfl:j = 0:=by omega
 refine ⟨_,rfl,some a,cap,by simp,by simpa using hl,hm,(fun hh=>by cases hh),fun hn=>?_⟩;have hn:0 < len:=by simpa using hn
 have hspot:a.spot = none:=by
  obtain ⟨q,_,hq⟩:=each 0 hn;obtain ⟨v,hv,_⟩:=hq 0 hs;have:a.add (0 * s + 0) = a:=by simp [Addr.add]
  rw [this] at hv;unfold World.cell? at hv;split at hv
  · split at hv
    · cases hv
    rename_i hsp;simpa using hsp
  cases hv
 refine ⟨a.block,a.off, ?_,fun i j hi hj=>?_⟩
 · obtain ⟨b,o,spo⟩:=a
   simp only at hspot;subst hspot;rfl
 have hi:i < len:=by simpa using hi
 have hch:=(Classical.choose_spec (each i hi)).2;obtain ⟨v,hv,hr⟩:=hch j hj;refine ⟨v, ?_, ?_⟩
 · unfold World.cell? at hv
   have hblk:(a.add (i * s + j)).block = a.block:=by unfold Addr.add;split <;> rfl
   have hoff:(a.add (i * s + j)).off = a.off + (i * s + j):=by
    unfold Addr.add;split
    · rename_i h0;rw [h0];rfl
    rfl
   rw [hblk,hoff] at hv;unfold gn f8;split at hv
   · rename_i hb'
     rw [hb'];split at hv
     · cases hv
     exact hv
   cases hv
 have:lf c ((List.range len).map fun i=>if hi:i < len then Classical.choose (each i hi) else default) i j = c (Classical.choose (each i hi)) j:=by
  unfold lf;simp [List.getD,hi]
 rw [this];exact hr
def ajc {H:Type} {enc:TypeId × Value -> H} {w:World} {sp:Nat -> Bool} {held:Bool} {fuel:Nat} {cs:List Value} {x:DataW H × List MemPlace} {fs:Array Field} (ht:P.underlying t = some (.struct fs)) (h:DataW.trod enc P w 0 sp held fuel t cs = some x) :
 cs.length = P.cellsOf t /\ ∃ n,∀ (i:Nat) (f:Field),fs[i]? = some f -> ∃ y,DataW.trod enc P w 0 sp held n f.type ((cs.drop f.offset).take (P.cellsOf f.type)) = some y /\ Rows.uptoBulk y.1 <= Rows.uptoBulk x.1:=by
 obtain ⟨xs,n,_,rfl,h1,h2,h3⟩:=DataW.trod_struct ht h;refine ⟨h1,n,fun i f hf=>?_⟩;have:=h3 i f hf;rw [this];have hi:i < xs.length:=by rw [h2];exact (b5e.1 hf).1
 exact ⟨_,b5b hi,ah1 (List.mem_map_of_mem (b5l hi))⟩
def oz {H:Type} {enc:TypeId × Value -> H} {w:World} {sp:Nat -> Bool} {held:Bool} {n off s b:Nat} {ft:TypeId} {cs:List Value} {y:DataW H × List MemPlace} (mono:∀ b b' x,b <= b' -> B b x -> B b' x) (h:RdB P ft s c B) (hy:DataW.trod enc P w 0 sp held n ft ((cs.drop off).take (P.cellsOf ft)) = some y /\ Rows.uptoBulk y.1 <= b):
 ∃ a:α,B b a /\ ∀ j,j < s -> ∃ v,cs[off + j]? = some v /\ am (f8 w) (c a j) v:=by
 obtain ⟨h1,a,h0,h2⟩:=h _ enc w sp held n _ y hy.1;refine ⟨a,mono _ _ a hy.2 h0,fun j hj=>?_⟩;obtain ⟨v,h3,h4⟩:=h2 j hj;refine ⟨v, ?_,h4⟩;rw [b69] at h3;split at h3
 · rwa [b89] at h3
 cases h3
end
end
section
variable {P:Program} {t e:TypeId}
def anz {H:Type} {enc:TypeId × Value -> H} {w:World} {sp:Nat -> Bool} {held:Bool} {fuel:Nat} {cs:List Value} {x:DataW H × List MemPlace} {k:Nat} (ht:P.underlying t = some (.array k e)) (h:DataW.trod enc P w 0 sp held fuel t cs = some x) :
 cs.length = P.cellsOf t /\ ∃ n,∀ i,i < k -> ∃ y,DataW.trod enc P w 0 sp held n e ((cs.drop (i * P.cellsOf e)).take (P.cellsOf e)) = some y /\ Rows.uptoBulk y.1 <= Rows.uptoBulk x.1:=by
 obtain ⟨xs,n,_,rfl,h1,h2,h3⟩:=DataW.trod_array ht h;refine ⟨h1,n,fun i hi=>?_⟩;have:=h3 i hi;rw [this];have hi:i < xs.length:=by omega
 exact ⟨_,b5b hi,ah1 (List.mem_map_of_mem (b5l hi))⟩
def adu {m:Imm} {c:Nat -> PV}:∀ {n:Nat} {us:List Value} {k:Nat},us.length = n -> (∀ j,j < n -> ∃ v,us[j]? = some v /\ am m (c (k + j)) v) -> dy m ((List.range' k n).map c) us
 | 0,[],_,_,_=>trivial
 | n + 1,u :: us,k,hl,h=>by
  obtain ⟨v,h1,h2⟩:=h 0 b8i;simp only [List.getElem?_cons_zero,b5a] at h1;subst h1;refine ⟨h2,adu (n:=n) (k:=k + 1) (by simpa using hl) fun j hj=>?_⟩;obtain ⟨v,h3,h4⟩:=h (j + 1) b8i;refine ⟨v,by simpa using h3, ?_⟩;rwa [show k + 1 + j = k + (j + 1) by omega]
 | 0,_ :: _,_,h,_=>by cases h
 | _ + 1,[],_,h,_=>by cases h
def arx {H:Type} {enc:TypeId × Value -> H} {W:World} {cs:Array Value} {d:DataW H} {ps:List MemPlace} {n:Nat} {α:Type} {c:α -> Nat -> PV} {B:Nat -> α -> Prop} (h:RdB P t n c B) (hd:DataW.Trod enc P W 0 (fun _=>true) true t (.agg cs) d ps) :
 ∃ a:α,B (Rows.uptoBulk d) a /\ iq (f8 W) (.agg ((List.range' 0 n).map (c a))) (.agg cs):=by
 obtain ⟨fuel,hf⟩:=hd;obtain ⟨hl,a,h0,ha⟩:=h _ enc W _ _ fuel _ _ hf;refine ⟨a,h0,cs.toList,by simp,adu hl fun j hj=>?_⟩;rw [b5q];exact ha j hj
end
end
section
open Go.RowKit
section
variable {w0:World} {nt:Nat} {c:Ctx} {s:S} {a:Act} {w:World}
section
variable {g:Nat -> Nat -> Nat -> PV} {m:Nat -> Nat}
def a6d {base:Nat} {o:aq} {id:Nat} {e et:TypeId} {es:Nat} (hes:0 < es) (hb:c.blk id = noB) (hv:∃ ad,c.own id = .slice ad 0 0):dn base c o w id (.nest e et es 0 m g none):=by
 obtain ⟨ad,hv⟩:=hv;refine ⟨hes,b5h _,fun i hi=>absurd hi (b5i i),fun b=>?_,fun i b hi=>absurd hi (b5i i),fun i hi=>absurd hi (b5i i), .inl ⟨rfl,ad,hv⟩⟩;rw [hb,hv];constructor
 · exact fun h=>h.elim
 rintro (h | ⟨i,hi,_⟩)
 · cases ad <;> simp [bn] at h
 exact absurd hi (b5i i)
variable {f:Nat -> Nat -> PV}
def a01 {imm:Imm} {s':Nat} {u:Value} (h:am imm (.sl 0 s' true f) u):∃ ad,u = .slice ad 0 0:=by
 obtain ⟨ad,cap,rfl,_,_,hc,_⟩:=h;rw [hc rfl];exact ⟨ad,rfl⟩
def nc (m:Nat -> Nat) (n k:Nat):Nat -> Nat:=fun i=>bif Nat.beq i n then k else m i
def ph (g:Nat -> Nat -> Nat -> PV) (n:Nat) (f:Nat -> Nat -> PV):Nat -> Nat -> Nat -> PV:=fun i=>bif Nat.beq i n then f else g i
def a8l (m:Nat -> Nat) (n k:Nat):nc m n k n = k:=by simp [nc]
def yg {n k i:Nat} (h:i ≠ n):nc m n k i = m i:=by
 have:Nat.beq i n = false:=by rw [b5m];exact fun hb=>h (b62 hb)
 simp [nc,this]
def ahj (g:Nat -> Nat -> Nat -> PV) (n:Nat) (f:Nat -> Nat -> PV):ph g n f n = f:=by simp [ph]
def ad6 {n i:Nat} (h:i ≠ n):ph g n f i = g i:=by
 have:Nat.beq i n = false:=by rw [b5m];exact fun hb=>h (b62 hb)
 simp [ph,this]
def acd {v:Value} {b:Nat} (h:bn v = some b):cg v = some b:=by
 unfold bn at h;split at h
 · split at h
   · cases h
   exact h
 cases h
def ah.absorb (h:ah w0 nt c s a w) {id id' k n:Nat} {e et:TypeId} {es:Nat} (ho:s.o id = some (.nest e et es n m g (some (id',k)))) (ho':s.o id' = some (.arr true es et k f)):
 ∃ c',c'.old = c.old /\ ah w0 nt c' ((s.setO id (some (.nest e et es (n + 1) (nc m n k) (ph g n f) none))).setO id' none) a w:=by
 have hne:id' ≠ id:=by rintro rfl;rw [ho] at ho';cases ho'
 have hnk:ju 0 c s.o w id e et es n m g (some (id',k)):=h.objs id _ ho;obtain ⟨q0,q1,q5⟩:=h.objs id' _ ho'
 have hcb:∀ b,bn (c.own id') = some b -> c.blk id' b:=fun b hb=>by
  rcases q5 with ⟨q6,_⟩ | ⟨q7,_,q8⟩
  · rw [q6];exact acd hb
  obtain ⟨ad,cap,r1,_,_,r4,_⟩:=q8
  rcases q7 with q7 | q7
  · cases q7
  subst q7;rw [r1,r4 rfl] at hb;cases ad <;> simp [bn] at hb
 have hrow:(k = 0 /\ ∃ a,c.own id' = .slice a 0 0) \/ ∃ ys,w.ownsRow 0 et es (c.own id') k ys /\ ∀ r j,r < k -> j < es -> ∃ x,ys[r * es + j]? = some x /\ am c.imm (f r j) x:=by
  rcases q5 with ⟨q6,xs,q7,q8⟩ | ⟨q6,q7,q8⟩
  · exact .inr ⟨xs,q7,q8⟩
  rcases q6 with q6 | q6
  · cases q6
  subst q6;exact .inl ⟨rfl,a01 q8⟩
 let o':aq:=((s.setO id (some (.nest e et es (n + 1) (nc m n k) (ph g n f) none))).setO id' none).o
 have oid:o' id = some (.nest e et es (n + 1) (nc m n k) (ph g n f) none):=by
  show (if id = id' then _ else if id = id then _ else _) = _;rw [if_neg (Ne.symm hne),if_pos rfl]
 have oid':o' id' = none:=by
  show (if id' = id' then _ else _) = _;rw [if_pos rfl]
 have oelse:∀ q,q ≠ id -> q ≠ id' -> o' q = s.o q:=fun q h1 h2=>by
  show (if q = id' then _ else if q = id then _ else _) = _;rw [if_neg h2,if_neg h1]
 let c':Ctx:={ old:=c.old,imm:=c.imm,tab:=c.tab,own:=c.own,blk:=fun q=>if q = id then (fun b=>c.blk id b \/ bn (c.own id') = some b) else c.blk q,rows:=fun q=>if q = id then (fun i=>if i = n then c.own id' else c.rows id i) else c.rows q }
 have rlt:∀ i,i < n -> c'.rows id i = c.rows id i:=fun i hi=>by
  show (if id = id then (fun i=>if i = n then c.own id' else c.rows id i) else c.rows id) i = _;rw [if_pos rfl];show (if i = n then _ else _) = _;rw [if_neg b8i]
 have rn:c'.rows id n = c.own id':=by
  show (if id = id then (fun i=>if i = n then c.own id' else c.rows id i) else c.rows id) n = _;rw [if_pos rfl];show (if n = n then _ else _) = _;rw [if_pos rfl]
 have hevo:∀ q,Evo c s.o c' o' q:=fun q=>by
  by_cases h1:q = id
  · subst h1
    refine .inr (.inr ⟨_,_,1,e,n + 1,n + 1,ho,rfl,oid,rfl,b5g _,fun _=>rfl,fun e2 et2 es2 n2 m2 g2 pd2 hb2=>?_⟩);cases hb2;refine ⟨_,_,_,_,_,_,rfl,b80 _,fun i hi=>⟨by rw [yg b8i];exact b5g _,fun _=>rlt i hi⟩⟩
  by_cases h2:q = id'
  · subst h2;exact .inl oid'
  exact Evo.of_same (oelse q h1 h2) rfl (by show (if q = id then _ else _) = _;rw [if_neg h1])
 have bid:∀ q,q ≠ id -> c'.blk q = c.blk q:=fun q hq=>by show (if q = id then _ else _) = _;rw [if_neg hq]
 have bself:∀ b,c'.blk id b <-> (c.blk id b \/ bn (c.own id') = some b):=fun b=>by
  show (if id = id then _ else c.blk id:Nat -> Prop) b <-> _;rw [if_pos rfl]
 have hold:∀ q ob,o' q = some ob -> q ≠ id -> q ≠ id' /\ s.o q = some ob:=fun q ob hq h1=>by
  by_cases h2:q = id'
  · subst h2;rw [oid'] at hq;cases hq
  exact ⟨h2,by rw [<- oelse q h1 h2];exact hq⟩
 have whose:∀ b,c'.blk id b -> c.blk id b \/ c.blk id' b:=fun b hb=>((bself b).1 hb).imp (fun z=>z) (hcb b);refine ⟨c',rfl,⟨h.defers,h.size,h.below,fun d x hx=>(h.tmps d x hx).evo (Imm.le.refl c.imm) fun q _=>hevo q,fun q ob hq=>?_,fun q q' ob ob' b hq hq' hb hb'=>?_,h.imm,fun q ob b hq hb=>?_,h.was,h.frm,fun q ob b hq hb=>?_,fun q hq=>(h.fixed q hq).trans (hevo q)⟩⟩
 · by_cases h1:q = id
   · subst h1
     have hq:o' q = some ob:=hq;rw [oid] at hq;cases hq;have hlen:=hnk.len;simp only [pw] at hlen;refine ⟨hnk.pos,hlen,fun i hi=>?_,fun b=>?_,fun i b hi hb=>?_,fun i hi=>?_, .inr ?_⟩
     · by_cases hin:i = n
       · subst hin;rw [a8l];exact q1
       rw [yg hin];exact hnk.lens i b8i
     · rw [bself,hnk.blks]
       constructor
       · rintro ((h2 | ⟨i,hi,h2⟩) | h2)
         · exact .inl h2
         · exact .inr ⟨i,by omega,by rw [rlt i hi];exact h2⟩
         exact .inr ⟨n,by omega,by rw [rn];exact h2⟩
       rintro (h2 | ⟨i,hi,h2⟩)
       · exact .inl (.inl h2)
       by_cases hin:i = n
       · subst hin;rw [rn] at h2;exact .inr h2
       rw [rlt i b8i] at h2;exact .inl (.inr ⟨i,by omega,h2⟩)
     · have far:∀ b,bn (c.own id') = some b -> ¬ c.blk q b:=fun b h2 h3=>hne (h.inj id' q _ _ b ho' ho (hcb b h2) h3)
       by_cases hin:i = n
       · subst hin
         rw [rn] at hb;refine ⟨fun h2=>far b hb ((hnk.blks b).2 (.inl h2)),fun i' hi' h2=>?_⟩;by_cases hin':i' = i
         · exact hin'
         rw [rlt i' b8i] at h2;exact (far b hb ((hnk.blks b).2 (.inr ⟨i',by omega,h2⟩))).elim
       rw [rlt i b8i] at hb;obtain ⟨h2,h3⟩:=hnk.apart i b b8i hb;refine ⟨h2,fun i' hi' h4=>?_⟩;by_cases hin':i' = n
       · subst hin'
         rw [rn] at h4;exact (far b h4 ((hnk.blks b).2 (.inr ⟨i,by omega,hb⟩))).elim
       rw [rlt i' b8i] at h4;exact h3 i' b8i h4
     · by_cases hin:i = n
       · subst hin
         rw [rn,a8l,ahj];exact hrow
       rw [rlt i b8i,yg hin,ad6 hin];exact hnk.row i b8i
     rcases hnk.top with ⟨h2,_⟩ | ⟨xs,t1,t2,t3⟩
     · simp [pw] at h2
     refine ⟨xs,t1,fun i hi=>?_,fun p hp=>by cases hp⟩;by_cases hin:i = n
     · subst hin
       obtain ⟨x,hx,hxr⟩:=t3 _ rfl;obtain ⟨_,_,hr3⟩:=hxr;rw [rn,hx,(hr3 _ _ _ _ ho' rfl).2 rfl]
     rw [rlt i b8i];exact t2 i b8i
   obtain ⟨h2,h3⟩:=hold q ob hq h1;exact (h.objs q ob h3).keep (Imm.le.refl c.imm) rfl (bid q h1) (fun j _=>hevo j) (fun b _=>rfl) (by show (if q = id then _ else _) = _;rw [if_neg h1])
 · by_cases h1:q = id
   · by_cases h2:q' = id
     · rw [h1,h2]
     obtain ⟨h3,h4⟩:=hold q' ob' hq' h2;rw [bid q' h2] at hb';subst h1
     rcases whose b hb with h5 | h5
     · exact h.inj q q' _ _ b ho h4 h5 hb'
     exact (h3 (h.inj q' id' _ _ b h4 ho' hb' h5)).elim
   obtain ⟨h3,h4⟩:=hold q ob hq h1;rw [bid q h1] at hb;by_cases h2:q' = id
   · subst h2
     rcases whose b hb' with h5 | h5
     · exact h.inj q q' _ _ b h4 ho hb h5
     exact (h3 (h.inj q id' _ _ b h4 ho' hb h5)).elim
   obtain ⟨h5,h6⟩:=hold q' ob' hq' h2;rw [bid q' h2] at hb';exact h.inj q q' _ _ b h4 h6 hb hb'
 · by_cases h1:q = id
   · subst h1
     rcases whose b hb with h5 | h5
     · exact h.sep q _ b ho h5
     exact h.sep id' _ b ho' h5
   rw [bid q h1] at hb;exact h.sep q ob b (hold q ob hq h1).2 hb
 by_cases h1:q = id
 · subst h1
   rcases whose b hb with h5 | h5
   · exact h.fsep q _ b ho h5
   exact h.fsep id' _ b ho' h5
 rw [bid q h1] at hb;exact h.fsep q ob b (hold q ob hq h1).2 hb
def w7 (es:Nat) (m:Nat -> Nat) (g:Nat -> Nat -> Nat -> PV):Nat -> Nat -> PV:=fun i _=>.sl (m i) es false (g i)
end
open Classical in
noncomputable def thinImm (c:Ctx) (w:World) (id n:Nat):Imm:=fun b=>if ∃ i,i < n /\ bn (c.rows id i) = some b then w.heap[b]? else c.imm b
def ah.thin (h:ah w0 nt c s a w) {id n:Nat} {e et:TypeId} {es:Nat} {m:Nat -> Nat} {g:Nat -> Nat -> Nat -> PV} (ho:s.o id = some (.nest e et es n m g none)) :
 ∃ c',c'.old = c.old /\ ah w0 nt c' (s.setO id (some (.arr true 1 e n (w7 es m g)))) a w:=by
 have hnk:ju 0 c s.o w id e et es n m g none:=h.objs id _ ho;have hin:∀ b,(∃ i,i < n /\ bn (c.rows id i) = some b) -> c.blk id b:=fun b hb=>(hnk.blks b).2 (.inr hb)
 have hle:Imm.le c.imm (thinImm c w id n):=fun b ob hb=>by
  unfold thinImm;by_cases hk:∃ i,i < n /\ bn (c.rows id i) = some b
  · rw [h.sep id _ b ho (hin b hk)] at hb;cases hb
  rw [if_neg hk];exact hb
 let ob':a6:=.arr true 1 e n (w7 es m g)
 let bk:Nat -> Prop:=fun b=>bn (c.own id) = some b
 let c':Ctx:={ old:=c.old,imm:=thinImm c w id n,tab:=c.tab.mono hle,own:=c.own,blk:=fun q=>if q = id then bk else c.blk q,rows:=c.rows }
 have oid:(s.setO id (some ob')).o id = some ob':=by show (if id = id then _ else _) = _;rw [if_pos rfl]
 have oelse:∀ q,q ≠ id -> (s.setO id (some ob')).o q = s.o q:=fun q hq=>by show (if q = id then _ else _) = _;rw [if_neg hq]
 have hevo:∀ q,Evo c s.o c' (s.setO id (some ob')).o q:=fun q=>by
  by_cases h1:q = id
  · subst h1
    exact .inr (.inr ⟨_, .arr true 1 e n (w7 es m g),1,e,n,n,ho,rfl,oid,rfl,b5g _,fun _=>rfl,fun _ _ _ _ _ _ _ hb=>by cases hb⟩)
  exact Evo.of_same (oelse q h1) rfl rfl
 have bid:∀ q,q ≠ id -> c'.blk q = c.blk q:=fun q hq=>by show (if q = id then _ else _) = _;rw [if_neg hq]
 have bself:c'.blk id = bk:=by show (if id = id then _ else _) = _;rw [if_pos rfl]
 have whose:∀ b,c'.blk id b -> c.blk id b:=fun b hb=>by
  rw [bself] at hb;exact (hnk.blks b).2 (.inl hb)
 have hrowP:∀ i,i < n -> am (thinImm c w id n) (.sl (m i) es false (g i)) (c.rows id i):=fun i hi=>by
  obtain ⟨ad,cap,q1,q2,q3⟩:=a9j (h.objs id _ ho) hi;refine ⟨ad,cap,q1,q2,q3,(fun hh=>by cases hh),fun hm=>?_⟩;obtain ⟨b,cap',ys,r1,r2,_,r3⟩:=a54 (h.objs id _ ho) hi hm;rw [q1] at r1;simp only [Value.slice.injEq,true_and] at r1;obtain ⟨rfl,rfl⟩:=r1;refine ⟨b,0,rfl,fun r j hr hj=>?_⟩;obtain ⟨x,_,hx,hxr⟩:=r3 r j hr hj;refine ⟨x, ?_,am.mono hle hxr⟩;rw [b5q];unfold gn thinImm;rw [if_pos ⟨i,hi,r2⟩];unfold World.cell? at hx;dsimp only at hx;split at hx
  · rename_i cs e0 fr hb'
    rw [hb'];simpa using hx
  cases hx
 refine ⟨c',rfl,⟨h.defers.keep (fun _ _=>rfl) (fun D hD hd=>?_),h.size,h.below,fun d x hx=>(h.tmps d x hx).evo hle fun q _=>hevo q,fun q ob hq=>?_,fun q q' ob ob2 b hq hq' hb hb'=>?_,fun b ob hb=>?_,fun q ob b hq hb=>?_,fun b hb=>?_,h.frm,fun q ob b hq hb=>?_,fun q hq=>(h.fixed q hq).trans (hevo q)⟩⟩
 · show thinImm c w id n D = none
   unfold thinImm
   rw [if_neg fun hk=>by
    obtain ⟨x1,hc,hdt⟩:=(h.objs id _ ho).data (hin D hk);rw [hd] at hc;cases hc
    cases hdt]
   exact hD
 · by_cases h1:q = id
   · subst h1
     rw [oid] at hq;cases hq;refine ⟨Nat.one_pos,hnk.len, ?_⟩
     have hplain:n = 0 /\ (∃ ad,c.own q = .slice ad 0 0) -> (c'.blk q = gj (c.own q) /\ ∃ xs,w.ownsRow 0 e 1 (c.own q) n xs /\ ∀ i j,i < n -> j < 1 -> ∃ x,xs[i * 1 + j]? = some x /\ am c'.imm (w7 es m g i j) x) \/
      ((true = false \/ n = 0) /\ c'.blk q = noB /\ am c'.imm (.sl n 1 true (w7 es m g)) (c.own q)):=by
      rintro ⟨rfl,ad,hv⟩;refine .inr ⟨.inr rfl, ?_, ?_⟩
      · rw [bself]
        funext b;show (bn (c.own q) = some b) = False;rw [hv];cases ad <;> simp [bn]
      rw [hv];exact ⟨ad,0,rfl,b5g _,b5h _,fun _=>rfl,fun hh=>absurd hh (Nat.lt_irrefl 0)⟩
     rcases hnk.top with ⟨h2,h3⟩ | ⟨xs,t1,t2,_⟩
     · exact hplain ⟨h2,h3⟩
     have t1:w.ownsRow 0 e 1 (c.own q) n xs:=t1
     rcases gt t1 with r0 | ⟨b,cap,rv,rb⟩
     · exact hplain r0
     refine .inl ⟨?_,xs,t1,fun i j hi hj=>?_⟩
     · rw [bself]
       funext b';show (bn (c.own q) = some b') = (cg (c.own q) = some b');rw [rb,rv];rfl
     obtain rfl:j = 0:=by omega
     exact ⟨_,by simpa using t2 i hi,hrowP i hi⟩
   rw [oelse q h1] at hq;exact (h.objs q ob hq).keep hle rfl (bid q h1) (fun j _=>hevo j) (fun b _=>rfl) rfl
 · by_cases h1:q = id
   · by_cases h2:q' = id
     · rw [h1,h2]
     rw [oelse q' h2] at hq';rw [bid q' h2] at hb';subst h1;exact h.inj q q' _ _ b ho hq' (whose b hb) hb'
   rw [oelse q h1] at hq;rw [bid q h1] at hb;by_cases h2:q' = id
   · subst h2
     exact h.inj q q' _ _ b hq ho hb (whose b hb')
   rw [oelse q' h2] at hq';rw [bid q' h2] at hb';exact h.inj q q' _ _ b hq hq' hb hb'
 · have hb:thinImm c w id n b = some ob:=hb
   unfold thinImm at hb;split at hb
   · exact hb
   exact h.imm b ob hb
 · show thinImm c w id n b = none
   unfold thinImm;by_cases h1:q = id
   · subst h1
     rw [bself] at hb;rw [if_neg fun ⟨i,hi,hk⟩=>(hnk.apart i b hi hk).1 hb];exact h.sep q _ b ho ((hnk.blks b).2 (.inl hb))
   rw [oelse q h1] at hq;rw [bid q h1] at hb;rw [if_neg fun hk=>h1 (h.inj q id _ _ b hq ho hb (hin b hk))];exact h.sep q ob b hq hb
 · show thinImm c w id n b = c.old.1 b
   unfold thinImm;rw [if_neg fun hk=>hb (h.fsep id _ b ho (hin b hk))];exact h.was b hb
 by_cases h1:q = id
 · subst h1
   exact h.fsep q _ b ho (whose b hb)
 rw [oelse q h1] at hq;rw [bid q h1] at hb;exact h.fsep q ob b hq hb
end
section
variable {ro:Option Nat} {P:Program} {nt:Nat} {st:HSt} {Q:Exit -> HSt -> Prop}
def alg {c:Code} (d id:Nat) {s':Nat} {f':Nat -> Nat -> PV} (e et:TypeId) (es:Nat) (m:Nat -> Nat) (g:Nat -> Nat -> Nat -> PV) (hs:0 < es) (hd:bc st.t d = some (b4 (.sl 0 s' true f'))) (hn:po id st = true)
 (h:HW (ro:=ro) P nt c ⟨(d,some (.v (.one (.ref id 0)))) :: st.t,(id,some (.nest e et es 0 m g none)) :: st.o⟩ Q):HW (ro:=ro) P nt c st Q:=by
 obtain ⟨hnm,hno⟩:=kj hn;refine a5c ⟨st.t,(id,some (.nest e et es 0 m g none)) :: st.o⟩ d (.v (.one (.ref id 0))) (fun w0 m0 a w hr=>?_) h;obtain ⟨cc,hold,hrr⟩:=hr;have hx:am cc.imm (.sl 0 s' true f') (a.tmps.getD d undef):=hrr.tmps d _ hd;have hfresh:=hrr.fresh id hnm hno (.nest e et es 0 m g none) w (a.tmps.getD d undef) noB (Grw.refl w none) (fun b hb=>hb.elim) (a6d hs b8l (by simpa using a01 hx));refine ⟨_, ?_,by rw [mf];exact hfresh, ?_⟩
 · exact hold
 rw [mf];refine ⟨am.oneCell hx,fun l=>by simp [S.setO],fun ob1 s1 e1 n1 ho hd1=>?_⟩;simp only [S.setO,if_true,b5a] at ho;subst ho;simp only [a6.dim,b5a,b5f] at hd1;obtain ⟨rfl,rfl,rfl⟩:=hd1;exact ⟨b5g _,fun _=>by simp⟩
section
variable {g:Nat -> Nat -> Nat -> PV}
def aa3 {c:Code} (id id':Nat) {k n:Nat} {e et:TypeId} {es:Nat} {m:Nat -> Nat} {f:Nat -> Nat -> PV} (ho:bc st.o id = some (.nest e et es n m g (some (id',k)))) (ho':bc st.o id' = some (.arr true es et k f)) (h:HW (ro:=ro) P nt c ⟨st.t,(id',none) :: (id,some (.nest e et es (n + 1) (nc m n k) (ph g n f) none)) :: st.o⟩ Q):HW (ro:=ro) P nt c st Q:=fun w0 m0 a w hr=>by
 obtain ⟨cc,hold,hrr⟩:=hr;obtain ⟨c',h1,h2⟩:=hrr.absorb ho ho';refine h w0 m0 a w ⟨c',h1.trans hold, ?_⟩;have e1:=qf ⟨st.t,(id,some (.nest e et es (n + 1) (nc m n k) (ph g n f) none)) :: st.o⟩ id';rw [mf] at e1;rw [e1];exact h2
def agx {c:Code} (id:Nat) {n:Nat} {e et:TypeId} {es:Nat} {m:Nat -> Nat} (ho:bc st.o id = some (.nest e et es n m g none)) (h:HW (ro:=ro) P nt c ⟨st.t,(id,some (.arr true 1 e n (w7 es m g))) :: st.o⟩ Q):HW (ro:=ro) P nt c st Q:=fun w0 m0 a w hr=>by
 obtain ⟨cc,hold,hrr⟩:=hr;obtain ⟨c',h1,h2⟩:=hrr.thin ho;refine h w0 m0 a w ⟨c',h1.trans hold, ?_⟩;rw [mf];exact h2
end
end
section
variable {f':Nat -> Nat -> PV}
def a6y {nt:Nat} {st:HSt} {w0:World} {m0:Old} {a:Act} {w:World} (bx off id:Nat) {s':Nat} {l:List HV} (e et:TypeId) (es:Nat) (m:Nat -> Nat) (g:Nat -> Nat -> Nat -> PV) (hs:0 < es) (hb:bc st.o bx = some (.box l)) (hl:l[off]? = some (.p (.sl 0 s' true f'))) (hn:po id st = true) (hne:Nat.beq bx id = false) (hr:Rel w0 m0 nt st.den a w):Rel w0 m0 nt (HSt.den ⟨st.t,(bx,some (.box (au l off [.ref id 0]))) :: (id,some (.nest e et es 0 m g none)) :: st.o⟩) a w:=by
 obtain ⟨hnm,hno⟩:=kj hn;obtain ⟨cc,hold,hrr⟩:=hr;have hbi:bx ≠ id:=by rintro rfl;simp at hne
 obtain ⟨b0,C0,e0,p1,p2,p3,p4,p5⟩:=hrr.objs bx _ hb;obtain ⟨u,hu,hur⟩:=p5.get off _ hl;have hx:am cc.imm (.sl 0 s' true f') u:=hur;have hfresh:=hrr.fresh id hnm hno (.nest e et es 0 m g none) w u noB (Grw.refl w none) (fun b hb=>hb.elim) (a6d hs b8l (by simpa using a01 hx));rw [<- mf] at hfresh
 have hb':(HSt.den ⟨st.t,(id,some (.nest e et es 0 m g none)) :: st.o⟩).o bx = some (.box l):=by
  simp only [HSt.den,ay,hbi,if_false];exact hb
 have hevo:∀ (c1:Ctx),c1.own = (fun k=>if k = id then u else cc.own k) -> Evo { old:=cc.old,imm:=cc.imm,tab:=cc.tab,own:=fun k=>if k = id then u else cc.own k,blk:=fun k=>if k = id then noB else cc.blk k,rows:=cc.rows } (HSt.den ⟨st.t,(id,some (.nest e et es 0 m g none)) :: st.o⟩).o c1 ((HSt.den ⟨st.t,(id,some (.nest e et es 0 m g none)) :: st.o⟩).setO bx (some (.box (au l off [.ref id 0])))).o bx:=fun c1 h1 =>
  .inr (.inl ⟨l,au l off [.ref id 0],hb',by simp [S.setO],by rw [h1]⟩)
 have hown:(fun k=>if k = bx then (fun k=>if k = id then u else cc.own k) bx else (fun k=>if k = id then u else cc.own k) k) = fun k=>if k = id then u else cc.own k:=by
  funext k;by_cases hk:k = bx
  · subst hk;simp
  simp [hk]
 have hw:=hfresh.write bx (.box l) hb' (.box (au l off [.ref id 0])) w ((fun k=>if k = id then u else cc.own k) bx) ((fun k=>if k = id then noB else cc.blk k) bx) none (Grw.refl w _) (fun _ e=>by cases e) (hevo _ (by exact hown)) (fun b hb=>.inl hb) (by
  refine ⟨b0,C0,e0,by simpa [hbi] using p1,by simpa [hbi] using p2,p3,p4, ?_⟩;have hoff:off < l.length:=(b6t.1 hl).1;have hcl:=p5.length;refine av.of_get ?_ fun k x u' hx' hu'=>?_
  · simp only [au,b5x,b5p,b7a,b6w];omega
  have hx2:=hx';unfold au at hx2;rw [ce l [HV.ref id 0] off k b8w] at hx2;by_cases hk:k = off
  · subst hk
    simp at hx2;subst hx2;rw [hu] at hu';simp only [b5a] at hu';subst hu';refine ⟨am.oneCell hx,fun l2=>by simp [S.setO,HSt.den,ay,Ne.symm hbi],fun ob1 s1 e1 n1 ho hd1=>?_⟩;simp only [S.setO,HSt.den,ay,Ne.symm hbi,if_false,if_true,b5a] at ho;subst ho;simp only [a6.dim,b5a,b5f] at hd1;obtain ⟨rfl,rfl,rfl⟩:=hd1;exact ⟨b5g _,fun _=>by simp [Ne.symm hbi]⟩
  rw [if_neg b8w] at hx2;obtain ⟨u2,hu2,hr2⟩:=p5.get k x hx2;rw [hu'] at hu2;simp only [b5a] at hu2;subst hu2;refine az.evo (c:=cc) (o:=st.den.o) (Imm.le.refl cc.imm) (fun j hj=>?_) hr2
  have hji:j ≠ id:=by
   rintro rfl;exact hnm.2.1 bx _ hb ⟨x,List.mem_of_getElem? hx2,hj⟩
  by_cases hjb:j = bx
  · subst hjb;exact .inr (.inl ⟨l,au l off [.ref id 0],hb,by simp [S.setO],by simp [hji]⟩)
  exact Evo.of_same (by simp [S.setO,hjb,HSt.den,ay,hji]) (by simp [hjb,hji]))
 have e:HSt.den ⟨st.t,(bx,some (.box (au l off [.ref id 0]))) :: (id,some (.nest e et es 0 m g none)) :: st.o⟩ = (HSt.den ⟨st.t,(id,some (.nest e et es 0 m g none)) :: st.o⟩).setO bx (some (.box (au l off [.ref id 0]))):=by
  unfold HSt.den S.setO;simp only [S.mk.injEq,true_and];funext k;simp only [ay]
 rw [e];exact ⟨_,(by exact hold),hw⟩
def a7p {ro:Option Nat} {P:Program} {nt:Nat} {st:HSt} {Q:Exit -> HSt -> Prop} {c:Code} (bx off id:Nat) {s':Nat} {l:List HV} (e et:TypeId) (es:Nat) (m:Nat -> Nat) (g:Nat -> Nat -> Nat -> PV) (hs:0 < es) (hb:bc st.o bx = some (.box l)) (hl:l[off]? = some (.p (.sl 0 s' true f'))) (hn:po id st = true) (hne:Nat.beq bx id = false) (h:HW (ro:=ro) P nt c ⟨st.t,(bx,some (.box (au l off [.ref id 0]))) :: (id,some (.nest e et es 0 m g none)) :: st.o⟩ Q):HW (ro:=ro) P nt c st Q:=fun w0 m0 a w hr=>h w0 m0 a w (a6y bx off id e et es m g hs hb hl hn hne hr)
end
end
section
abbrev Rw:=List Int
def ltZ:Rw -> Rw -> Bool
 | [],[]=>false
 | [],_ :: _=>true
 | _ :: _,[]=>false
 | x :: a,y :: b=>if x = y then ltZ a b else decide (x < y)
def oi:∀ a:Rw,ltZ a a = false
 | []=>rfl
 | x :: a=>by unfold ltZ;rw [if_pos rfl];exact oi a
def gw:∀ {a b c:Rw},ltZ a b = true -> ltZ b c = true -> ltZ a c = true
 | [],[],_,h,_=>by cases h
 | [],_ :: _,[],_,k=>by cases k
 | [],_ :: _,_ :: _,_,_=>rfl
 | _ :: _,[],_,h,_=>by cases h
 | _ :: _,_ :: _,[],_,k=>by cases k
 | x :: a,y :: b,z :: c,h,k=>by
  unfold ltZ at *;by_cases hxy:x = y
  · rw [if_pos hxy] at h
    subst hxy;by_cases hyz:x = z
    · rw [if_pos hyz] at k ⊢
      exact gw h k
    rw [if_neg hyz] at k ⊢;exact k
  rw [if_neg hxy] at h;have h:=of_decide_eq_true h;by_cases hyz:y = z
  · subst hyz
    rw [if_neg hxy];exact decide_eq_true h
  rw [if_neg hyz] at k;have k:=of_decide_eq_true k;rw [if_neg b8i];exact decide_eq_true b8i
def u6:∀ {a b:Rw},a ≠ b -> ltZ a b = true \/ ltZ b a = true
 | [],[],h=>absurd rfl h
 | [],_ :: _,_=>.inl rfl
 | _ :: _,[],_=>.inr rfl
 | x :: a,y :: b,h=>by
  unfold ltZ;by_cases hxy:x = y
  · subst hxy
    rw [if_pos rfl,if_pos rfl];exact u6 fun e=>h (by rw [e])
  rw [if_neg hxy,if_neg (Ne.symm hxy),decide_eq_true_iff,decide_eq_true_iff];omega
def zC:Int -> Nat -> PV:=fun z _=>.raw (.int .i64 z)
abbrev zl (r:Rw):PV:=psl 1 zC r
def rC:Rw -> Nat -> PV:=fun r _=>zl r
abbrev rl (l:List Rw):PV:=psl 1 rC l
def apx {a b:Rw} (h:ltZ a b = true):ltZ b a = false:=by
 rw [b5m];intro k;have:=gw h k;rw [oi] at this;cases this
def k6 (l:List Rw):Prop:=l.Pairwise fun a b=>ltZ a b = true
def rz:∀ {l k:List Rw},k6 l -> k6 k -> (∀ x,x ∈ l <-> x ∈ k) -> l = k
 | [],[],_,_,_=>rfl
 | [],y :: k,_,_,h=>absurd ((h y).2 (b6q ..)) b8l
 | x :: l,[],_,_,h=>absurd ((h x).1 (b6q ..)) b8l
 | x :: l,y :: k,hl,hk,h=>by
  obtain ⟨h1,h2⟩:=b6a.1 hl;obtain ⟨k1,k2⟩:=b6a.1 hk
  have e:x = y:=by
   rcases b5k.1 ((h x).1 (b6q ..)) with e | hx
   · exact e
   rcases b5k.1 ((h y).2 (b6q ..)) with e | hy
   · exact e.symm
   have:=apx (k1 x hx);rw [h1 y hy] at this;cases this
  subst e;congr 1;refine rz h2 k2 fun z=>?_;constructor
  · intro hz
    rcases b5k.1 ((h z).1 (b65 _ hz)) with e | hz'
    · subst e
      have:=h1 z hz;rw [oi] at this;cases this
    exact hz'
  intro hz
  rcases b5k.1 ((h z).2 (b65 _ hz)) with e | hz'
  · subst e
    have:=k1 z hz;rw [oi] at this;cases this
  exact hz'
def gq (x:Rw):List Rw -> List Rw
 | []=>[x]
 | y :: l=>if x = y then y :: l else if ltZ x y = true then x :: y :: l else y :: gq x l
def ui {x z:Rw}:∀ {l:List Rw},z ∈ gq x l <-> z = x \/ z ∈ l
 | []=>by simp [gq]
 | y :: l=>by
  unfold gq;split
  · rename_i e
    subst e;simp
  split
  · simp
  rw [b5k,ui,b5k];constructor
  · rintro (h | h | h) <;> simp [h]
  rintro (h | h | h) <;> simp [h]
def vi {x:Rw}:∀ {l:List Rw},k6 l -> k6 (gq x l)
 | [],_=>by simp [gq,k6]
 | y :: l,h=>by
  obtain ⟨h1,h2⟩:=b6a.1 h;unfold gq;split
  · exact h
  split
  · rename_i hxy
    refine b6a.2 ⟨fun z hz=>?_,h⟩
    rcases b5k.1 hz with rfl | hz
    · exact hxy
    exact gw hxy (h1 z hz)
  rename_i hne hxy;refine b6a.2 ⟨fun z hz=>?_,vi h2⟩
  rcases ui.1 hz with rfl | hz
  · exact (u6 hne).resolve_left hxy
  exact h1 z hz
def ai (l:List Rw):List Rw:=l.foldl (fun o x=>gq x o) []
def a0b:∀ {l o:List Rw},k6 o -> k6 (l.foldl (fun o x=>gq x o) o) /\ ∀ z,z ∈ l.foldl (fun o x=>gq x o) o <-> z ∈ o \/ z ∈ l
 | [],o,h=>⟨h,fun z=>by simp⟩
 | x :: l,o,h=>by
  obtain ⟨h1,h2⟩:=a0b (l:=l) (vi (x:=x) h);refine ⟨h1,fun z=>?_⟩;show z ∈ l.foldl (fun o x=>gq x o) (gq x o) <-> _;rw [h2 z,ui,b5k];constructor
  · rintro ((h | h) | h) <;> simp [h]
  rintro (h | h | h) <;> simp [h]
def er (l:List Rw):k6 (ai l):=(a0b (o:=[]) List.Pairwise.nil).1
section
variable {l:List Rw}
def ec {z:Rw}:z ∈ ai l <-> z ∈ l:=by
 show z ∈ l.foldl (fun o x=>gq x o) [] <-> _;rw [(a0b (l:=l) (o:=[]) List.Pairwise.nil).2 z];simp
def abq {k:List Rw} (hk:k6 k) (h:∀ z,z ∈ k <-> z ∈ l):k = ai l:=rz hk (er l) fun z=>by rw [h z,ec]
def iw (l:List Rw) (k:Nat) (r:Rw):List Rw:=l.take k ++ r :: l.drop k
variable {k:Nat} {r:Rw}
def jk (h:k <= l.length):(iw l k r).length = l.length + 1:=by simp [iw];omega
def ao6:iw l l.length r = l ++ [r]:=by simp [iw]
def a00 {i:Nat} (h:k <= l.length):(iw l k r)[i]? = if i < k then l[i]? else if i = k then some r else l[i - 1]?:=by
 simp only [iw];by_cases h1:i < k
 · rw [if_pos h1,b75 b8w,b69,if_pos h1]
 rw [if_neg h1,b7b b8w,b5p,b6p h];by_cases h2:i = k
 · subst h2;simp
 rw [if_neg h2];obtain ⟨d,rfl⟩:∃ d,i = k + 1 + d:=⟨i - k - 1,by omega⟩;rw [show k + 1 + d - k = d + 1 by omega,List.getElem?_cons_succ,b89];congr 1;omega
def ala (h:k <= l.length):(iw l k r).getD k default = r:=by
 rw [b5c,a00 h,if_neg b8i,if_pos rfl];rfl
def a9z (h0:0 < k) (h:k <= l.length):(iw l k r).getD (k - 1) default = l.getD (k - 1) default:=by
 rw [b5c,a00 h,if_pos b8i,b5c]
def am0 (h0:0 < k) (h:k <= l.length):((iw l k r).set k (l.getD (k - 1) default)).set (k - 1) r = iw l (k - 1) r:=by
 apply b7c;intro i;rw [a00 b8i,List.getElem?_set,List.getElem?_set,b7m,jk h,a00 h];by_cases h1:k - 1 = i
 · subst h1
   rw [if_pos rfl,if_pos b8i,if_neg b8i,if_pos rfl]
 rw [if_neg h1];by_cases h2:k = i
 · subst h2
   rw [if_pos rfl,if_pos b8i,if_neg b8i,if_neg b8i,List.getD,b5b b8i];rfl
 rw [if_neg h2];by_cases h3:i < k
 · rw [if_pos h3,if_pos b8i]
 rw [if_neg h3,if_neg b8i,if_neg b8i,if_neg b8i]
def alu {k' m':Nat} (h0:0 < k) (hk:k <= l.length) (hk':k' = k) (hm':m' = k - 1) {n:Nat} (hn:n = l.length + 1) {e:TypeId}:
 CoO (.arr true 1 e n (ew (ew (lf rC (iw l k r)) k' 0 [lf rC (iw l k r) m' 0]) m' 0 [lf rC (iw l k r) k' 0])) (.arr true 1 e n (lf rC (iw l (k - 1) r))):=by
 subst hk' hm';rw [<- am0 h0 hk];refine aue (fun h=>h) (by rw [jk hk];exact hn) (by rw [jk hk];omega) (by rw [jk hk];omega) rfl rfl (fun j hj=>?_) (fun j hj=>?_)
 · obtain rfl:j = 0:=by omega
   exact CoP.of_eq (by show rC ((iw l k' r).getD (k' - 1) default) 0 = _;rw [a9z h0 hk])
 obtain rfl:j = 0:=by omega
 exact CoP.of_eq (by show rC ((iw l k' r).getD k' default) 0 = _;rw [ala hk])
def aju {k' m':Nat} {b:Bool} (h0:0 < k) (hk:k <= l.length) (h:ltZ ((iw l k r).getD k' default) ((iw l k r).getD m' default) = b) (hk':k' = k) (hm':m' = k - 1):ltZ r (l.getD (k - 1) default) = b:=by
 subst hk' hm';rwa [ala hk,a9z h0 hk] at h
def aof {j:Nat} (h:j < l.length):l.getD j default ∈ l:=by
 rw [b5c,b5b h];exact b5l h
def a9k (hs:k6 l) (hr:r ∉ l) (hk:k <= l.length) (h1:∀ j,k <= j -> j < l.length -> ltZ r (l.getD j default) = true) (h2:k = 0 \/ ¬ ltZ r (l.getD (k - 1) default) = true):iw l k r = gq r l:=by
 refine rz ?_ (vi hs) fun z=>?_
 · unfold k6 iw
   rw [List.pairwise_append];refine ⟨hs.sublist (List.take_sublist _ _),b6a.2 ⟨fun z hz=>?_,hs.sublist (List.drop_sublist _ _)⟩,fun y hy z hz=>?_⟩
   · obtain ⟨j,hj,rfl⟩:=b5z hz
     rw [b7a] at hj;have:=h1 (k + j) b8i b8i;rwa [b5c,b5b b8i,b6g,<- List.getElem_drop] at this
   have hyr:ltZ y r = true:=by
    obtain ⟨j,hj,rfl⟩:=b5z hy;rw [b5p] at hj
    rcases h2 with h2 | h2
    · omega
    have hk1:k - 1 < l.length:=by omega
    have hlast:ltZ (l.getD (k - 1) default) r = true:=by
     rcases u6 (a:=r) (b:=l.getD (k - 1) default) (fun e=>hr (e ▸ aof hk1)) with h | h
     · exact absurd h h2
     exact h
    rw [List.getElem_take];by_cases hjk:j = k - 1
    · subst hjk
      rwa [b5c,b5b hk1,b6g] at hlast
    refine gw ?_ hlast;rw [b5c,b5b hk1,b6g];exact b7d.1 hs j (k - 1) b8i hk1 b8i
   rcases b5k.1 hz with rfl | hz
   · exact hyr
   have h3:ltZ r z = true:=by
    obtain ⟨j,hj,rfl⟩:=b5z hz;rw [b7a] at hj;have:=h1 (k + j) b8i b8i;rwa [b5c,b5b b8i,b6g,<- List.getElem_drop] at this
   exact gw hyr h3
 rw [ui];unfold iw;rw [b60,b5k];constructor
 · rintro (h | h | h)
   · exact .inr (b7z h)
   · exact .inl h
   exact .inr (List.mem_of_mem_drop h)
 rintro (h | h)
 · exact .inr (.inl h)
 rw [<- List.take_append_drop k l,b60] at h
 rcases h with h | h
 · exact .inl h
 exact .inr (.inr h)
def qv (hs:k6 l) (hr:r ∈ l):gq r l = l:=rz (vi hs) hs fun z=>by
 rw [ui];constructor
 · rintro (rfl | h)
   · exact hr
   exact h
 exact .inr
def dv {i:Nat} (hi:i < l.length):ai (l.take (i + 1)) = gq (l.getD i default) (ai (l.take i)):=by
 unfold ai;rw [c0 hi,b7p];rfl
def ack (x:Rw):∀ l:List Rw,(gq x l).length <= l.length + 1
 | []=>by simp [gq]
 | y :: l=>by
  unfold gq;have:=ack x l;split
  · simp
  split
  · simp
  simp only [b6k];omega
def w9 (l:List Rw):(ai l).length <= l.length:=by
 have:∀ (l o:List Rw),(l.foldl (fun o x=>gq x o) o).length <= o.length + l.length:=by
  intro l
  induction l with
  | nil=>intro o;simp
  | cons x l ih =>
   intro o;have h1:=ih (gq x o);have h2:=ack x o;simp only [List.foldl_cons,b6k];omega
 have h:=this l [];simpa [ai] using h
end
end
section
abbrev pZ (r:Rw):PC:=.one (zl r)
abbrev pR (l:List Rw):PC:=.one (rl l)
abbrev pT (n:Int) (l:List Rw):PC:=.agg [.raw (.int .i64 n),rl l]
def aep:∀ {a b:Rw} {i:Nat},i < a.length -> i < b.length -> (∀ j,j < i -> a.getD j default = b.getD j default) -> ¬ a.getD i default = b.getD i default -> ltZ a b = decide (a.getD i default < b.getD i default)
 | [],_,_,h,_,_,_=>by simp at h
 | _ :: _,[],_,_,h,_,_=>by simp at h
 | x :: a,y :: b,0,_,_,_,hn=>by
  have:¬ x = y:=hn;unfold ltZ;rw [if_neg this];rfl
 | x :: a,y :: b,i + 1,ha,hb,h,hn=>by
  have e:x = y:=h 0 b8i;unfold ltZ;rw [if_pos e];exact aep (by simpa using ha) (by simpa using hb) (fun j hj=>h (j + 1) b8i) hn
def a2k:∀ {a b:Rw},(∀ j,j < a.length -> j < b.length -> a.getD j default = b.getD j default) -> ltZ a b = decide (a.length < b.length)
 | [],[],_=>rfl
 | [],_ :: _,_=>by simp [ltZ]
 | _ :: _,[],_=>by simp [ltZ]
 | x :: a,y :: b,h=>by
  have e:x = y:=h 0 b8l b8l;unfold ltZ;rw [if_pos e,a2k fun j h1 h2=>h (j + 1) (by simpa using h1) (by simpa using h2)];simp
def mq (a b:Rw):Int:=if a = b then 0 else if ltZ a b = true then -1 else 1
section
variable {a b:Rw} {i:Nat}
def atq (ha:i < a.length) (hb:i < b.length) (h:∀ j,j < i -> a.getD j default = b.getD j default) (hn:¬ gu (a.getD i default) (b.getD i default) = 0):gu (a.getD i default) (b.getD i default) = mq a b:=by
 have hne:¬ a.getD i default = b.getD i default:=fun e=>hn (by unfold gu;rw [if_neg b8i,if_neg b8i]);unfold gu mq;rw [if_neg (fun e:a = b=>hne (by rw [e])),aep ha hb h hne];simp only [decide_eq_true_eq];split
 · rfl
 rw [if_pos b8i]
def awy {a b:Int} (h:gu a b = 0):a = b:=by
 unfold gu at h;split at h
 · omega
 split at h <;> omega
def atn (ha:i < a.length) (hb:¬ i < b.length) (h:∀ j,j < i -> a.getD j default = b.getD j default):(1:Int) = mq a b:=by
 unfold mq;rw [if_neg (fun e:a = b=>by subst e;omega),a2k fun j h1 h2=>h j b8i,if_neg (by simp only [decide_eq_true_eq];omega)]
def asm (hl:a.length < b.length) (h:∀ j,j < a.length -> a.getD j default = b.getD j default):(-1:Int) = mq a b:=by
 unfold mq;rw [if_neg (fun e:a = b=>by subst e;omega),a2k fun j h1 h2=>h j h1,if_pos (by simp only [decide_eq_true_eq];omega)]
def att (hl:a.length <= b.length) (hl2:¬ a.length < b.length) (h:∀ j,j < a.length -> a.getD j default = b.getD j default):(0:Int) = mq a b:=by
 unfold mq;rw [if_pos (jw b8i h)]
def aqu (h:a.length = b.length) (hI:∀ j,j < a.length -> decide (a.getD j default = b.getD j default) = true):a = b:=jw h fun j hj=>of_decide_eq_true (hI j hj)
def az4 {a b:Nat} (h:∀ j,j < a -> j < b):a <= b:=Nat.le_of_not_lt fun e=>Nat.lt_irrefl _ (h b e)
def ip (a b:Rw) (s:AS):Bool:=decide (∀ i:Nat,i < a.length -> (bi s (i:Int) = true -> a.getD i default = b.getD i default))
def ake {s:AS} (hi:i < a.length) (h:bi s (i:Int) = true) (hn:¬ a.getD i default = b.getD i default):ip a b s = false:=decide_eq_false fun e=>hn (e i hi h)
def xh {s:AS} (h:∀ i:Nat,i < a.length -> (bi s (i:Int) = true -> a.getD i default = b.getD i default)):ip a b s = true:=decide_eq_true h
def mb {s:AS} (h:i < 32):it .and .u32 ((asI s).fdiv (2 ^ (min i 32))) 1 = 1 <-> bi s (i:Int) = true:=by
 rw [<- aau (s:=s) (i:=(i:Int)) b8i b8i,decide_eq_true_iff];rfl
def lc (n:Int) (l:List Rw) (i:Nat):Bool:=decide (((l.getD i default).length:Int) = n) && !(l.getD i default).any (fun x=>decide (x < 0)) && (decide (i = 0) || ltZ (l.getD (i - 1) default) (l.getD i default))
def tok (n:Int) (l:List Rw):Bool:=decide (0 <= n /\ n <= 16 /\ l.length <= 256) && decide (∀ i,i < l.length -> lc n l i = true)
def aj7 {n:Int} {l:List Rw} (h0:0 <= n) (h1:n <= 16) (h2:l.length <= 256) (h:∀ i,i < l.length -> lc n l i = true):tok n l = true:=by
 unfold tok;rw [decide_eq_true (show 0 <= n /\ n <= 16 /\ l.length <= 256 from ⟨h0,h1,h2⟩),decide_eq_true h];rfl
def xt {n:Int} {l:List Rw} (h:¬ (0 <= n /\ n <= 16 /\ l.length <= 256)):tok n l = false:=by
 unfold tok;rw [decide_eq_false h];rfl
def yz {n:Int} {l:List Rw} (hi:i < l.length) (h:lc n l i = false):tok n l = false:=by
 unfold tok;rw [decide_eq_false (fun e:∀ i,i < l.length -> lc n l i = true=>by rw [e i hi] at h;cases h),Bool.and_false]
def d7 (a b:Rw) (s:AS):Rw:=(List.range b.length).map fun (i:Nat)=>if bi s (i:Int) = true then a.getD i default else b.getD i default
end
end
end Go.Hx
