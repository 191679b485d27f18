/- A part of the proof: Lw Hx26 Hx25 Ch1 Ch2 X1 X2 Ch3. -/
import Derived.Deep.DeepHandedRow
import Derived.OpenShut
import Derived.ProofKit
import Derived.Test.YteklilhbjjofbaaGreatDoorCards
import Derived.Test.YteklilhbjjofbaaGreatDoorRows
import Derived.Test.YteklilhbjjofbaaGreatDoorTie
import Derived.WalkKit
import Derived.Test.YteklilhbjjofbaaGreatDoorLe18
set_option linter.all false
set_option maxRecDepth 100000
set_option maxHeartbeats 1000000
namespace Go.Hx
section
open Go.Proofs Go.ChangeShapes Go.WideShapes Go.ChangeAt Go.RowKit
def own:ownKnob b65.godebug = none:=by kernel_rfl
def atx : b65.globalNamed "math/bits.deBruijn32tab" = some 1 := by kernel_rfl
def amv:(b65.globals[1]?).map (·.type) = some 228:=by kernel_rfl
def alt:b65.cellsOf 228 = 32:=by kernel_rfl
def atj:b65.cellsOf 5 = 1:=by kernel_rfl
def aa0:List Int:=[0,1,28,2,29,14,24,3,30,22,20,15,25,17,4,8,31,27,13,23,21,19,16,7,26,12,18,6,11,5,10,9]
def axk {W : World} (h : laidMetH b65 [("math/bits.deBruijn32tab", YteklilhbjjofbaaGreatDoor.Rows.laid_math_bits_deBruijn32tab)] W) : np (dg W) := by
 have ht : Lib.TabIs b65 W "math/bits.deBruijn32tab" .u8 aa0 := Lib.tabIs_of_head (rest := []) atx amv Tryz.underlying228 Tryz.underlying5 atj alt h;intro b off v hv;unfold sa oq at hv;split at hv
 · have hlt:off < 32:=by
    rcases b56 off 32 with h | h
    · exact h
    rw [b4c (by simpa using h)] at hv;cases hv
   have hc:=ht.cell atx off hlt
   have e:v = .int .u8 (aa0.getD off 0):=by
    have:(aa0.map fun z=>Value.int .u8 z)[off]? = some v:=hv;rw [b32] at this;rw [b2i]
    cases hz:aa0[off]? with
    | none=>rw [hz] at this;cases this
    | some z=>rw [hz] at this;exact (Option.some.inj this).symm
   rw [e];unfold World.cell? at hc;unfold fk dg;split at hc
   · rename_i c t fr hh
     rw [hh];simpa using hc
   cases hc
 cases hv
noncomputable def laidWorld (os:Os):World :=
 { World.holding b65 os ⟨#[],#[],[]⟩ with heap:=(World.holding b65 os ⟨#[],#[],[]⟩).heap.modify 1 fun
  | .cells _ t frozen=>.cells (aa0.map fun z=>Value.int .u8 z).toArray t frozen
  | o=>o }
end
section
open Go.Proofs Go.Proofs.YteklilhbjjofbaaGreatDoor
open Go.RowKit Go.ChangeShapes Go.WideShapes Go.ChangeAt
section
variable {H:Type}
def af0 {d:DataW H} {l:List (DataW H)} (h:d ∈ l):Rows.uptoBulk d <= Rows.uptoBulkAll l:=by
 induction l with
 | nil=>cases h
 | cons x r ih =>
  rw [Rows.uptoBulkAll]
  rcases b2s.1 h with e | e
  · subst e;omega
  have:=ih e;omega
def apk (d:DataW H):1 <= Rows.uptoBulk d:=by
 cases d with
 | lit l=>cases l <;> simp [Rows.uptoBulk]
 | _=>simp [Rows.uptoBulk]
def amk (l:List (DataW H)):l.length <= Rows.uptoBulkAll l:=by
 induction l with
 | nil=>simp
 | cons x r ih=>have:=apk x;rw [Rows.uptoBulkAll,b3r];omega
def amo {l r:List (DataW H)} {d:DataW H} (h:d ∈ l):Rows.uptoBulk d <= Rows.uptoBulk (.slice l r):=by
 have:=af0 h;rw [Rows.uptoBulk];omega
def ard {l:List (DataW H)} {d:DataW H} (h:d ∈ l):Rows.uptoBulk d <= Rows.uptoBulk (.agg l):=by
 have:=af0 h;rw [Rows.uptoBulk];omega
def arp (l r:List (DataW H)):l.length <= Rows.uptoBulk (.slice l r):=by
 have:=amk l;rw [Rows.uptoBulk];omega
end
def RdB (P:Program) (t:TypeId) (n:Nat) {α:Type} (c:α -> Nat -> PV) (B:Nat -> α -> Prop):Prop :=
 ∀ (H:Type) (enc:TypeId × Value -> H) (w:World) (sp:Nat -> Bool) (held:Bool) (fuel:Nat) (cs:List Value) (x:DataW H × List MemPlace),DataW.trod enc P w 0 sp held fuel t cs = some x ->
  cs.length = n /\ ∃ a:α,B (Rows.uptoBulk x.1) a /\ ∀ j,j < n -> ∃ v,cs[j]? = some v /\ ag (dg w) (c a j) v
section
variable {P:Program} {t e:TypeId}
theorem Rd.toB {n:Nat} {α:Type} {c:α -> Nat -> PV} (h:Rd P t n c):RdB P t n c fun _ _=>True:=by
 intro H enc w sp held fuel cs x hx;obtain ⟨h1,a,h2⟩:=h _ enc w sp held fuel cs x hx;exact ⟨h1,a,trivial,h2⟩
section
variable {α:Type} {B:Nat -> α -> Prop} {c:α -> Nat -> PV}
theorem RdB.co {n:Nat} {β:Type} {c':β -> Nat -> PV} {B':Nat -> β -> Prop} (h:RdB P t n c B) (f:α -> β) (hB:∀ b a,B b a -> B' b (f a)) (hc:∀ a j,j < n -> CoP (c a j) (c' (f a) j)):RdB P t n c' B':=by
 intro H enc w sp held fuel cs x hx;obtain ⟨h1,a,h0,h2⟩:=h _ enc w sp held fuel cs x hx;refine ⟨h1,f a,hB _ _ h0,fun j hj=>?_⟩;obtain ⟨v,h3,h4⟩:=h2 j hj;exact ⟨v,h3,hc a j hj _ _ h4⟩
def a89 {s:Nat} [Inhabited α] (mono:∀ b b' x,b <= b' -> B b x -> B b' x) (ht:P.underlying t = some (.slice e)) (hc:P.cellsOf e = s) (hs:0 < s) (h:RdB P e s c B):RdB P t 1 (a6c s c) (fun b l=>l.length <= b /\ ∀ i,i < l.length -> B b (l.getD i default)):=by
 classical
 intro H enc w sp held fuel cs x hx
 rcases DataW.trod_slice ht hx with ⟨rfl,_⟩ | ⟨a,len,cap,elems,rest,n,rfl,rfl,rfl,hb,hl,hm,hlen,hel,_,_⟩
 · refine ⟨rfl,[],⟨b2n _,fun i hi=>absurd hi (b2o i)⟩,fun j hj=>?_⟩
   obtain rfl:j = 0:=by omega
   exact ⟨_,rfl,none,0,rfl,b2j _,b2n _,(fun hh=>by cases hh),fun hh=>absurd hh (b50 0)⟩
 have each:∀ i,i < len -> ∃ q:α,B (Rows.uptoBulk (DataW.slice (elems.map (·.1)) (rest.map (·.1)))) q /\ ∀ j,j < s -> ∃ v,w.cell? (a.add (i * s + j)) = some v /\ ag (dg w) (c q j) v:=by
  intro i hi;have h1:=hel i hi;rw [hc] at h1;rw [b2h b5h] at h1;obtain ⟨cs',h2,h3⟩:=Option.bind_eq_some_iff.1 h1;obtain ⟨_,h4,h5⟩:=World.cells?_some h2;obtain ⟨_,q,h9,h6⟩:=h _ enc w sp held n cs' _ h3;refine ⟨q,mono _ _ q (amo (List.mem_map_of_mem (b2q _))) h9,fun j hj=>?_⟩;obtain ⟨v,h7,h8⟩:=h6 j hj;refine ⟨v, ?_,h8⟩;have:=h5 j hj;rw [h7] at this;rw [<- this];congr 1;unfold Addr.add;by_cases hj0:j = 0
  · subst hj0
    simp
  by_cases hi0:i * s = 0
  · simp [hi0,hj0]
  have:¬ (i * s + j = 0):=by omega
  simp only [hj0,hi0,this,if_false];congr 1;omega
 refine ⟨rfl,(List.range len).map fun i=>if hi:i < len then Classical.choose (each i hi) else default,⟨?_,fun i hi=>?_⟩,fun j hj=>?_⟩
 · rw [b3v,List.length_range,<- hlen]
   have:=arp (elems.map (·.1)) (rest.map (·.1));rw [b3v] at this;exact this
 · have hi:i < len:=by simpa using hi
   have hch:=(Classical.choose_spec (each i hi)).1;have e:((List.range len).map fun i=>if hi:i < len then Classical.choose (each i hi) else default).getD i default = Classical.choose (each i hi):=by simp [List.getD,hi]
   rw [e];exact hch
 obtain rfl:j = 0:=by omega
 refine ⟨_,rfl,some a,cap,by simp,by simpa using hl,hm,(fun hh=>by cases hh),fun hn=>?_⟩;have hn:0 < len:=by simpa using hn
 have hspot:a.spot = none:=by
  obtain ⟨q,_,hq⟩:=each 0 hn;obtain ⟨v,hv,_⟩:=hq 0 hs;have:a.add (0 * s + 0) = a:=by simp [Addr.add]
  rw [this] at hv;unfold World.cell? at hv;split at hv
  · split at hv
    · cases hv
    rename_i hsp;simpa using hsp
  cases hv
 refine ⟨a.block,a.off, ?_,fun i j hi hj=>?_⟩
 · obtain ⟨b,o,spo⟩:=a
   simp only at hspot;subst hspot;rfl
 have hi:i < len:=by simpa using hi
 have hch:=(Classical.choose_spec (each i hi)).2;obtain ⟨v,hv,hr⟩:=hch j hj;refine ⟨v, ?_, ?_⟩
 · unfold World.cell? at hv
   have hblk:(a.add (i * s + j)).block = a.block:=by unfold Addr.add;split <;> rfl
   have hoff:(a.add (i * s + j)).off = a.off + (i * s + j):=by
    unfold Addr.add;split
    · rename_i h0;rw [h0];rfl
    rfl
   rw [hblk,hoff] at hv;unfold fk dg;split at hv
   · rename_i hb'
     rw [hb'];split at hv
     · cases hv
     exact hv
   cases hv
 have:lf c ((List.range len).map fun i=>if hi:i < len then Classical.choose (each i hi) else default) i j = c (Classical.choose (each i hi)) j:=by
  unfold lf;simp [List.getD,hi]
 rw [this];exact hr
def y4 {H:Type} {enc:TypeId × Value -> H} {w:World} {sp:Nat -> Bool} {held:Bool} {fuel:Nat} {cs:List Value} {x:DataW H × List MemPlace} {fs:Array Field} (ht:P.underlying t = some (.struct fs)) (h:DataW.trod enc P w 0 sp held fuel t cs = some x) :
 cs.length = P.cellsOf t /\ ∃ n,∀ (i:Nat) (f:Field),fs[i]? = some f -> ∃ y,DataW.trod enc P w 0 sp held n f.type ((cs.drop f.offset).take (P.cellsOf f.type)) = some y /\ Rows.uptoBulk y.1 <= Rows.uptoBulk x.1:=by
 obtain ⟨xs,n,_,rfl,h1,h2,h3⟩:=DataW.trod_struct ht h;refine ⟨h1,n,fun i f hf=>?_⟩;have:=h3 i f hf;rw [this];have hi:i < xs.length:=by rw [h2];exact (b2m.1 hf).1
 exact ⟨_,b2h hi,ard (List.mem_map_of_mem (b2q hi))⟩
def jg {H:Type} {enc:TypeId × Value -> H} {w:World} {sp:Nat -> Bool} {held:Bool} {n off s b:Nat} {ft:TypeId} {cs:List Value} {y:DataW H × List MemPlace} (mono:∀ b b' x,b <= b' -> B b x -> B b' x) (h:RdB P ft s c B) (hy:DataW.trod enc P w 0 sp held n ft ((cs.drop off).take (P.cellsOf ft)) = some y /\ Rows.uptoBulk y.1 <= b):
 ∃ a:α,B b a /\ ∀ j,j < s -> ∃ v,cs[off + j]? = some v /\ ag (dg w) (c a j) v:=by
 obtain ⟨h1,a,h0,h2⟩:=h _ enc w sp held n _ y hy.1;refine ⟨a,mono _ _ a hy.2 h0,fun j hj=>?_⟩;obtain ⟨v,h3,h4⟩:=h2 j hj;refine ⟨v, ?_,h4⟩;rw [b3d] at h3;split at h3
 · rwa [List.getElem?_drop] at h3
 cases h3
def apw {H:Type} {enc:TypeId × Value -> H} {W:World} {v:Value} {d:DataW H} {ps:List MemPlace} (h:RdB P t 1 c B) (hc:v.cells.toList = [v]) (hd:DataW.Trod enc P W 0 (fun _=>true) true t v d ps):∃ a:α,B (Rows.uptoBulk d) a /\ ag (dg W) (c a 0) v:=by
 obtain ⟨fuel,hf⟩:=hd;obtain ⟨_,a,h0,ha⟩:=h _ enc W _ _ fuel _ _ hf;obtain ⟨u,hu,hr⟩:=ha 0 b5h;rw [hc] at hu;simp only [List.getElem?_cons_zero,b2g] at hu;subst hu;exact ⟨a,h0,hr⟩
end
end
section
variable {P:Program} {t e:TypeId}
def aa5 {m:Imm} {c:Nat -> PV}:∀ {n:Nat} {us:List Value} {k:Nat},us.length = n -> (∀ j,j < n -> ∃ v,us[j]? = some v /\ ag m (c (k + j)) v) -> dc m ((List.range' k n).map c) us
 | 0,[],_,_,_=>trivial
 | n + 1,u :: us,k,hl,h=>by
  obtain ⟨v,h1,h2⟩:=h 0 b5h;simp only [List.getElem?_cons_zero,b2g] at h1;subst h1;refine ⟨h2,aa5 (n:=n) (k:=k + 1) (by simpa using hl) fun j hj=>?_⟩;obtain ⟨v,h3,h4⟩:=h (j + 1) b5h;refine ⟨v,by simpa using h3, ?_⟩;rwa [show k + 1 + j = k + (j + 1) by omega]
 | 0,_ :: _,_,h,_=>by cases h
 | _ + 1,[],_,h,_=>by cases h
def aqu {H:Type} {enc:TypeId × Value -> H} {W:World} {cs:Array Value} {d:DataW H} {ps:List MemPlace} {n:Nat} {α:Type} {c:α -> Nat -> PV} {B:Nat -> α -> Prop} (h:RdB P t n c B) (hd:DataW.Trod enc P W 0 (fun _=>true) true t (.agg cs) d ps) :
 ∃ a:α,B (Rows.uptoBulk d) a /\ gv (dg W) (.agg ((List.range' 0 n).map (c a))) (.agg cs):=by
 obtain ⟨fuel,hf⟩:=hd;obtain ⟨hl,a,h0,ha⟩:=h _ enc W _ _ fuel _ _ hf;refine ⟨a,h0,cs.toList,by simp,aa5 hl fun j hj=>?_⟩;rw [b30];exact ha j hj
end
end
section
open Go.RowKit
section
variable {w0:World} {nt:Nat} {c:Ctx} {s:S} {a:Act} {w:World}
section
variable {g:Nat -> Nat -> Nat -> PV} {m:Nat -> Nat}
def afu {base:Nat} {o:am} {id:Nat} {e et:TypeId} {es:Nat} (hes:0 < es) (hb:c.blk id = noB) (hv:∃ ad,c.own id = .slice ad 0 0):ck base c o w id (.nest e et es 0 m g none):=by
 obtain ⟨ad,hv⟩:=hv;refine ⟨hes,b2n _,fun i hi=>absurd hi (b2o i),fun b=>?_,fun i b hi=>absurd hi (b2o i),fun i hi=>absurd hi (b2o i), .inl ⟨rfl,ad,hv⟩⟩;rw [hb,hv];constructor
 · exact fun h=>h.elim
 rintro (h | ⟨i,hi,_⟩)
 · cases ad <;> simp [bm] at h
 exact absurd hi (b2o i)
variable {f:Nat -> Nat -> PV}
def a47 {imm:Imm} {s':Nat} {u:Value} (h:ag imm (.sl 0 s' true f) u):∃ ad,u = .slice ad 0 0:=by
 obtain ⟨ad,cap,rfl,_,_,hc,_⟩:=h;rw [hc rfl];exact ⟨ad,rfl⟩
def oc (m:Nat -> Nat) (n k:Nat):Nat -> Nat:=fun i=>bif Nat.beq i n then k else m i
def qc (g:Nat -> Nat -> Nat -> PV) (n:Nat) (f:Nat -> Nat -> PV):Nat -> Nat -> Nat -> PV:=fun i=>bif Nat.beq i n then f else g i
def a6x (m:Nat -> Nat) (n k:Nat):oc m n k n = k:=by simp [oc]
def x8 {n k i:Nat} (h:i ≠ n):oc m n k i = m i:=by
 have:Nat.beq i n = false:=by rw [b33];exact fun hb=>h (b34 hb)
 simp [oc,this]
def afb (g:Nat -> Nat -> Nat -> PV) (n:Nat) (f:Nat -> Nat -> PV):qc g n f n = f:=by simp [qc]
def acq {n i:Nat} (h:i ≠ n):qc g n f i = g i:=by
 have:Nat.beq i n = false:=by rw [b33];exact fun hb=>h (b34 hb)
 simp [qc,this]
def acv {v:Value} {b:Nat} (h:bm v = some b):bv v = some b:=by
 unfold bm at h;split at h
 · split at h
   · cases h
   exact h
 cases h
def ae.absorb (h:ae w0 nt c s a w) {id id' k n:Nat} {e et:TypeId} {es:Nat} (ho:s.o id = some (.nest e et es n m g (some (id',k)))) (ho':s.o id' = some (.arr true es et k f)):
 ∃ c',c'.old = c.old /\ ae w0 nt c' ((s.setO id (some (.nest e et es (n + 1) (oc m n k) (qc g n f) none))).setO id' none) a w:=by
 have hne:id' ≠ id:=by rintro rfl;rw [ho] at ho';cases ho'
 have hnk:je 0 c s.o w id e et es n m g (some (id',k)):=h.objs id _ ho;obtain ⟨q0,q1,q5⟩:=h.objs id' _ ho'
 have hcb:∀ b,bm (c.own id') = some b -> c.blk id' b:=fun b hb=>by
  rcases q5 with ⟨q6,_⟩ | ⟨q7,_,q8⟩
  · rw [q6];exact acv hb
  obtain ⟨ad,cap,r1,_,_,r4,_⟩:=q8
  rcases q7 with q7 | q7
  · cases q7
  subst q7;rw [r1,r4 rfl] at hb;cases ad <;> simp [bm] at hb
 have hrow:(k = 0 /\ ∃ a,c.own id' = .slice a 0 0) \/ ∃ ys,w.ownsRow 0 et es (c.own id') k ys /\ ∀ r j,r < k -> j < es -> ∃ x,ys[r * es + j]? = some x /\ ag c.imm (f r j) x:=by
  rcases q5 with ⟨q6,xs,q7,q8⟩ | ⟨q6,q7,q8⟩
  · exact .inr ⟨xs,q7,q8⟩
  rcases q6 with q6 | q6
  · cases q6
  subst q6;exact .inl ⟨rfl,a47 q8⟩
 let o':am:=((s.setO id (some (.nest e et es (n + 1) (oc m n k) (qc g n f) none))).setO id' none).o
 have oid:o' id = some (.nest e et es (n + 1) (oc m n k) (qc g n f) none):=by
  show (if id = id' then _ else if id = id then _ else _) = _;rw [if_neg (Ne.symm hne),if_pos rfl]
 have oid':o' id' = none:=by
  show (if id' = id' then _ else _) = _;rw [if_pos rfl]
 have oelse:∀ q,q ≠ id -> q ≠ id' -> o' q = s.o q:=fun q h1 h2=>by
  show (if q = id' then _ else if q = id then _ else _) = _;rw [if_neg h2,if_neg h1]
 let c':Ctx:={ old:=c.old,imm:=c.imm,tab:=c.tab,own:=c.own,blk:=fun q=>if q = id then (fun b=>c.blk id b \/ bm (c.own id') = some b) else c.blk q,rows:=fun q=>if q = id then (fun i=>if i = n then c.own id' else c.rows id i) else c.rows q }
 have rlt:∀ i,i < n -> c'.rows id i = c.rows id i:=fun i hi=>by
  show (if id = id then (fun i=>if i = n then c.own id' else c.rows id i) else c.rows id) i = _;rw [if_pos rfl];show (if i = n then _ else _) = _;rw [if_neg b5h]
 have rn:c'.rows id n = c.own id':=by
  show (if id = id then (fun i=>if i = n then c.own id' else c.rows id i) else c.rows id) n = _;rw [if_pos rfl];show (if n = n then _ else _) = _;rw [if_pos rfl]
 have hevo:∀ q,Evo c s.o c' o' q:=fun q=>by
  by_cases h1:q = id
  · subst h1
    refine .inr (.inr ⟨_,_,1,e,n + 1,n + 1,ho,rfl,oid,rfl,b2j _,fun _=>rfl,fun e2 et2 es2 n2 m2 g2 pd2 hb2=>?_⟩);cases hb2;refine ⟨_,_,_,_,_,_,rfl,b55 _,fun i hi=>⟨by rw [x8 b5h];exact b2j _,fun _=>rlt i hi⟩⟩
  by_cases h2:q = id'
  · subst h2;exact .inl oid'
  exact Evo.of_same (oelse q h1 h2) rfl (by show (if q = id then _ else _) = _;rw [if_neg h1])
 have bid:∀ q,q ≠ id -> c'.blk q = c.blk q:=fun q hq=>by show (if q = id then _ else _) = _;rw [if_neg hq]
 have bself:∀ b,c'.blk id b <-> (c.blk id b \/ bm (c.own id') = some b):=fun b=>by
  show (if id = id then _ else c.blk id:Nat -> Prop) b <-> _;rw [if_pos rfl]
 have hold:∀ q ob,o' q = some ob -> q ≠ id -> q ≠ id' /\ s.o q = some ob:=fun q ob hq h1=>by
  by_cases h2:q = id'
  · subst h2;rw [oid'] at hq;cases hq
  exact ⟨h2,by rw [<- oelse q h1 h2];exact hq⟩
 have whose:∀ b,c'.blk id b -> c.blk id b \/ c.blk id' b:=fun b hb=>((bself b).1 hb).imp (fun z=>z) (hcb b);refine ⟨c',rfl,⟨h.defers,h.size,h.below,fun d x hx=>(h.tmps d x hx).evo (Imm.le.refl c.imm) fun q _=>hevo q,fun q ob hq=>?_,fun q q' ob ob' b hq hq' hb hb'=>?_,h.imm,fun q ob b hq hb=>?_,h.was,h.frm,fun q ob b hq hb=>?_,fun q hq=>(h.fixed q hq).trans (hevo q)⟩⟩
 · by_cases h1:q = id
   · subst h1
     have hq:o' q = some ob:=hq;rw [oid] at hq;cases hq;have hlen:=hnk.len;simp only [o3] at hlen;refine ⟨hnk.pos,hlen,fun i hi=>?_,fun b=>?_,fun i b hi hb=>?_,fun i hi=>?_, .inr ?_⟩
     · by_cases hin:i = n
       · subst hin;rw [a6x];exact q1
       rw [x8 hin];exact hnk.lens i b5h
     · rw [bself,hnk.blks]
       constructor
       · rintro ((h2 | ⟨i,hi,h2⟩) | h2)
         · exact .inl h2
         · exact .inr ⟨i,by omega,by rw [rlt i hi];exact h2⟩
         exact .inr ⟨n,by omega,by rw [rn];exact h2⟩
       rintro (h2 | ⟨i,hi,h2⟩)
       · exact .inl (.inl h2)
       by_cases hin:i = n
       · subst hin;rw [rn] at h2;exact .inr h2
       rw [rlt i b5h] at h2;exact .inl (.inr ⟨i,by omega,h2⟩)
     · have far:∀ b,bm (c.own id') = some b -> ¬ c.blk q b:=fun b h2 h3=>hne (h.inj id' q _ _ b ho' ho (hcb b h2) h3)
       by_cases hin:i = n
       · subst hin
         rw [rn] at hb;refine ⟨fun h2=>far b hb ((hnk.blks b).2 (.inl h2)),fun i' hi' h2=>?_⟩;by_cases hin':i' = i
         · exact hin'
         rw [rlt i' b5h] at h2;exact (far b hb ((hnk.blks b).2 (.inr ⟨i',by omega,h2⟩))).elim
       rw [rlt i b5h] at hb;obtain ⟨h2,h3⟩:=hnk.apart i b b5h hb;refine ⟨h2,fun i' hi' h4=>?_⟩;by_cases hin':i' = n
       · subst hin'
         rw [rn] at h4;exact (far b h4 ((hnk.blks b).2 (.inr ⟨i,by omega,hb⟩))).elim
       rw [rlt i' b5h] at h4;exact h3 i' b5h h4
     · by_cases hin:i = n
       · subst hin
         rw [rn,a6x,afb];exact hrow
       rw [rlt i b5h,x8 hin,acq hin];exact hnk.row i b5h
     rcases hnk.top with ⟨h2,_⟩ | ⟨xs,t1,t2,t3⟩
     · simp [o3] at h2
     refine ⟨xs,t1,fun i hi=>?_,fun p hp=>by cases hp⟩;by_cases hin:i = n
     · subst hin
       obtain ⟨x,hx,hxr⟩:=t3 _ rfl;obtain ⟨_,_,hr3⟩:=hxr;rw [rn,hx,(hr3 _ _ _ _ ho' rfl).2 rfl]
     rw [rlt i b5h];exact t2 i b5h
   obtain ⟨h2,h3⟩:=hold q ob hq h1;exact (h.objs q ob h3).keep (Imm.le.refl c.imm) rfl (bid q h1) (fun j _=>hevo j) (fun b _=>rfl) (by show (if q = id then _ else _) = _;rw [if_neg h1])
 · by_cases h1:q = id
   · by_cases h2:q' = id
     · rw [h1,h2]
     obtain ⟨h3,h4⟩:=hold q' ob' hq' h2;rw [bid q' h2] at hb';subst h1
     rcases whose b hb with h5 | h5
     · exact h.inj q q' _ _ b ho h4 h5 hb'
     exact (h3 (h.inj q' id' _ _ b h4 ho' hb' h5)).elim
   obtain ⟨h3,h4⟩:=hold q ob hq h1;rw [bid q h1] at hb;by_cases h2:q' = id
   · subst h2
     rcases whose b hb' with h5 | h5
     · exact h.inj q q' _ _ b h4 ho hb h5
     exact (h3 (h.inj q id' _ _ b h4 ho' hb h5)).elim
   obtain ⟨h5,h6⟩:=hold q' ob' hq' h2;rw [bid q' h2] at hb';exact h.inj q q' _ _ b h4 h6 hb hb'
 · by_cases h1:q = id
   · subst h1
     rcases whose b hb with h5 | h5
     · exact h.sep q _ b ho h5
     exact h.sep id' _ b ho' h5
   rw [bid q h1] at hb;exact h.sep q ob b (hold q ob hq h1).2 hb
 by_cases h1:q = id
 · subst h1
   rcases whose b hb with h5 | h5
   · exact h.fsep q _ b ho h5
   exact h.fsep id' _ b ho' h5
 rw [bid q h1] at hb;exact h.fsep q ob b (hold q ob hq h1).2 hb
def xj (es:Nat) (m:Nat -> Nat) (g:Nat -> Nat -> Nat -> PV):Nat -> Nat -> PV:=fun i _=>.sl (m i) es false (g i)
end
open Classical in
noncomputable def thinImm (c:Ctx) (w:World) (id n:Nat):Imm:=fun b=>if ∃ i,i < n /\ bm (c.rows id i) = some b then w.heap[b]? else c.imm b
def ae.thin (h:ae w0 nt c s a w) {id n:Nat} {e et:TypeId} {es:Nat} {m:Nat -> Nat} {g:Nat -> Nat -> Nat -> PV} (ho:s.o id = some (.nest e et es n m g none)) :
 ∃ c',c'.old = c.old /\ ae w0 nt c' (s.setO id (some (.arr true 1 e n (xj es m g)))) a w:=by
 have hnk:je 0 c s.o w id e et es n m g none:=h.objs id _ ho;have hin:∀ b,(∃ i,i < n /\ bm (c.rows id i) = some b) -> c.blk id b:=fun b hb=>(hnk.blks b).2 (.inr hb)
 have hle:Imm.le c.imm (thinImm c w id n):=fun b ob hb=>by
  unfold thinImm;by_cases hk:∃ i,i < n /\ bm (c.rows id i) = some b
  · rw [h.sep id _ b ho (hin b hk)] at hb;cases hb
  rw [if_neg hk];exact hb
 let ob':a6:=.arr true 1 e n (xj es m g)
 let bk:Nat -> Prop:=fun b=>bm (c.own id) = some b
 let c':Ctx:={ old:=c.old,imm:=thinImm c w id n,tab:=c.tab.mono hle,own:=c.own,blk:=fun q=>if q = id then bk else c.blk q,rows:=c.rows }
 have oid:(s.setO id (some ob')).o id = some ob':=by show (if id = id then _ else _) = _;rw [if_pos rfl]
 have oelse:∀ q,q ≠ id -> (s.setO id (some ob')).o q = s.o q:=fun q hq=>by show (if q = id then _ else _) = _;rw [if_neg hq]
 have hevo:∀ q,Evo c s.o c' (s.setO id (some ob')).o q:=fun q=>by
  by_cases h1:q = id
  · subst h1
    exact .inr (.inr ⟨_, .arr true 1 e n (xj es m g),1,e,n,n,ho,rfl,oid,rfl,b2j _,fun _=>rfl,fun _ _ _ _ _ _ _ hb=>by cases hb⟩)
  exact Evo.of_same (oelse q h1) rfl rfl
 have bid:∀ q,q ≠ id -> c'.blk q = c.blk q:=fun q hq=>by show (if q = id then _ else _) = _;rw [if_neg hq]
 have bself:c'.blk id = bk:=by show (if id = id then _ else _) = _;rw [if_pos rfl]
 have whose:∀ b,c'.blk id b -> c.blk id b:=fun b hb=>by
  rw [bself] at hb;exact (hnk.blks b).2 (.inl hb)
 have hrowP:∀ i,i < n -> ag (thinImm c w id n) (.sl (m i) es false (g i)) (c.rows id i):=fun i hi=>by
  obtain ⟨ad,cap,q1,q2,q3⟩:=a7b (h.objs id _ ho) hi;refine ⟨ad,cap,q1,q2,q3,(fun hh=>by cases hh),fun hm=>?_⟩;obtain ⟨b,cap',ys,r1,r2,_,r3⟩:=a21 (h.objs id _ ho) hi hm;rw [q1] at r1;simp only [Value.slice.injEq,true_and] at r1;obtain ⟨rfl,rfl⟩:=r1;refine ⟨b,0,rfl,fun r j hr hj=>?_⟩;obtain ⟨x,_,hx,hxr⟩:=r3 r j hr hj;refine ⟨x, ?_,ag.mono hle hxr⟩;rw [b30];unfold fk thinImm;rw [if_pos ⟨i,hi,r2⟩];unfold World.cell? at hx;dsimp only at hx;split at hx
  · rename_i cs e0 fr hb'
    rw [hb'];simpa using hx
  cases hx
 refine ⟨c',rfl,⟨h.defers.keep (fun _ _=>rfl) (fun D hD hd=>?_),h.size,h.below,fun d x hx=>(h.tmps d x hx).evo hle fun q _=>hevo q,fun q ob hq=>?_,fun q q' ob ob2 b hq hq' hb hb'=>?_,fun b ob hb=>?_,fun q ob b hq hb=>?_,fun b hb=>?_,h.frm,fun q ob b hq hb=>?_,fun q hq=>(h.fixed q hq).trans (hevo q)⟩⟩
 · show thinImm c w id n D = none
   unfold thinImm
   rw [if_neg fun hk=>by
    obtain ⟨x1,hc,hdt⟩:=(h.objs id _ ho).data (hin D hk);rw [hd] at hc;cases hc
    cases hdt]
   exact hD
 · by_cases h1:q = id
   · subst h1
     rw [oid] at hq;cases hq;refine ⟨Nat.one_pos,hnk.len, ?_⟩
     have hplain:n = 0 /\ (∃ ad,c.own q = .slice ad 0 0) -> (c'.blk q = fh (c.own q) /\ ∃ xs,w.ownsRow 0 e 1 (c.own q) n xs /\ ∀ i j,i < n -> j < 1 -> ∃ x,xs[i * 1 + j]? = some x /\ ag c'.imm (xj es m g i j) x) \/
      ((true = false \/ n = 0) /\ c'.blk q = noB /\ ag c'.imm (.sl n 1 true (xj es m g)) (c.own q)):=by
      rintro ⟨rfl,ad,hv⟩;refine .inr ⟨.inr rfl, ?_, ?_⟩
      · rw [bself]
        funext b;show (bm (c.own q) = some b) = False;rw [hv];cases ad <;> simp [bm]
      rw [hv];exact ⟨ad,0,rfl,b2j _,b2n _,fun _=>rfl,fun hh=>absurd hh (b50 0)⟩
     rcases hnk.top with ⟨h2,h3⟩ | ⟨xs,t1,t2,_⟩
     · exact hplain ⟨h2,h3⟩
     have t1:w.ownsRow 0 e 1 (c.own q) n xs:=t1
     rcases fq t1 with r0 | ⟨b,cap,rv,rb⟩
     · exact hplain r0
     refine .inl ⟨?_,xs,t1,fun i j hi hj=>?_⟩
     · rw [bself]
       funext b';show (bm (c.own q) = some b') = (bv (c.own q) = some b');rw [rb,rv];rfl
     obtain rfl:j = 0:=by omega
     exact ⟨_,by simpa using t2 i hi,hrowP i hi⟩
   rw [oelse q h1] at hq;exact (h.objs q ob hq).keep hle rfl (bid q h1) (fun j _=>hevo j) (fun b _=>rfl) rfl
 · by_cases h1:q = id
   · by_cases h2:q' = id
     · rw [h1,h2]
     rw [oelse q' h2] at hq';rw [bid q' h2] at hb';subst h1;exact h.inj q q' _ _ b ho hq' (whose b hb) hb'
   rw [oelse q h1] at hq;rw [bid q h1] at hb;by_cases h2:q' = id
   · subst h2
     exact h.inj q q' _ _ b hq ho hb (whose b hb')
   rw [oelse q' h2] at hq';rw [bid q' h2] at hb';exact h.inj q q' _ _ b hq hq' hb hb'
 · have hb:thinImm c w id n b = some ob:=hb
   unfold thinImm at hb;split at hb
   · exact hb
   exact h.imm b ob hb
 · show thinImm c w id n b = none
   unfold thinImm;by_cases h1:q = id
   · subst h1
     rw [bself] at hb;rw [if_neg fun ⟨i,hi,hk⟩=>(hnk.apart i b hi hk).1 hb];exact h.sep q _ b ho ((hnk.blks b).2 (.inl hb))
   rw [oelse q h1] at hq;rw [bid q h1] at hb;rw [if_neg fun hk=>h1 (h.inj q id _ _ b hq ho hb (hin b hk))];exact h.sep q ob b hq hb
 · show thinImm c w id n b = c.old.1 b
   unfold thinImm;rw [if_neg fun hk=>hb (h.fsep id _ b ho (hin b hk))];exact h.was b hb
 by_cases h1:q = id
 · subst h1
   exact h.fsep q _ b ho (whose b hb)
 rw [oelse q h1] at hq;rw [bid q h1] at hb;exact h.fsep q ob b hq hb
end
section
variable {ro:Option Nat} {P:Program} {nt:Nat} {st:HSt} {Q:Exit -> HSt -> Prop}
section
variable {g:Nat -> Nat -> Nat -> PV}
def aik {c:Code} (id id':Nat) {k n:Nat} {e et:TypeId} {es:Nat} {m:Nat -> Nat} {f:Nat -> Nat -> PV} (ho:b6 st.o id = some (.nest e et es n m g (some (id',k)))) (ho':b6 st.o id' = some (.arr true es et k f)) (h:HW (ro:=ro) P nt c ⟨st.t,(id',none) :: (id,some (.nest e et es (n + 1) (oc m n k) (qc g n f) none)) :: st.o⟩ Q):HW (ro:=ro) P nt c st Q:=fun w0 m0 a w hr=>by
 obtain ⟨cc,hold,hrr⟩:=hr;obtain ⟨c',h1,h2⟩:=hrr.absorb ho ho';refine h w0 m0 a w ⟨c',h1.trans hold, ?_⟩;have e1:=pg ⟨st.t,(id,some (.nest e et es (n + 1) (oc m n k) (qc g n f) none)) :: st.o⟩ id';rw [om] at e1;rw [e1];exact h2
def aqs {c:Code} (id:Nat) {n:Nat} {e et:TypeId} {es:Nat} {m:Nat -> Nat} (ho:b6 st.o id = some (.nest e et es n m g none)) (h:HW (ro:=ro) P nt c ⟨st.t,(id,some (.arr true 1 e n (xj es m g))) :: st.o⟩ Q):HW (ro:=ro) P nt c st Q:=fun w0 m0 a w hr=>by
 obtain ⟨cc,hold,hrr⟩:=hr;obtain ⟨c',h1,h2⟩:=hrr.thin ho;refine h w0 m0 a w ⟨c',h1.trans hold, ?_⟩;rw [om];exact h2
end
end
section
variable {f':Nat -> Nat -> PV}
def a3r {nt:Nat} {st:HSt} {w0:World} {m0:Old} {a:Act} {w:World} (bx off id:Nat) {s':Nat} {l:List HV} (e et:TypeId) (es:Nat) (m:Nat -> Nat) (g:Nat -> Nat -> Nat -> PV) (hs:0 < es) (hb:b6 st.o bx = some (.box l)) (hl:l[off]? = some (.p (.sl 0 s' true f'))) (hn:o7 id st = true) (hne:Nat.beq bx id = false) (hr:Rel w0 m0 nt st.den a w):Rel w0 m0 nt (HSt.den ⟨st.t,(bx,some (.box (ap l off [.ref id 0]))) :: (id,some (.nest e et es 0 m g none)) :: st.o⟩) a w:=by
 obtain ⟨hnm,hno⟩:=jk hn;obtain ⟨cc,hold,hrr⟩:=hr;have hbi:bx ≠ id:=by rintro rfl;simp at hne
 obtain ⟨b0,C0,e0,p1,p2,p3,p4,p5⟩:=hrr.objs bx _ hb;obtain ⟨u,hu,hur⟩:=p5.get off _ hl;have hx:ag cc.imm (.sl 0 s' true f') u:=hur;have hfresh:=hrr.fresh id hnm hno (.nest e et es 0 m g none) w u noB (Grw.refl w none) (fun b hb=>hb.elim) (afu hs b5k (by simpa using a47 hx));rw [<- om] at hfresh
 have hb':(HSt.den ⟨st.t,(id,some (.nest e et es 0 m g none)) :: st.o⟩).o bx = some (.box l):=by
  simp only [HSt.den,ar,hbi,if_false];exact hb
 have hevo:∀ (c1:Ctx),c1.own = (fun k=>if k = id then u else cc.own k) -> Evo { old:=cc.old,imm:=cc.imm,tab:=cc.tab,own:=fun k=>if k = id then u else cc.own k,blk:=fun k=>if k = id then noB else cc.blk k,rows:=cc.rows } (HSt.den ⟨st.t,(id,some (.nest e et es 0 m g none)) :: st.o⟩).o c1 ((HSt.den ⟨st.t,(id,some (.nest e et es 0 m g none)) :: st.o⟩).setO bx (some (.box (ap l off [.ref id 0])))).o bx:=fun c1 h1 =>
  .inr (.inl ⟨l,ap l off [.ref id 0],hb',by simp [S.setO],by rw [h1]⟩)
 have hown:(fun k=>if k = bx then (fun k=>if k = id then u else cc.own k) bx else (fun k=>if k = id then u else cc.own k) k) = fun k=>if k = id then u else cc.own k:=by
  funext k;by_cases hk:k = bx
  · subst hk;simp
  simp [hk]
 have hw:=hfresh.write bx (.box l) hb' (.box (ap l off [.ref id 0])) w ((fun k=>if k = id then u else cc.own k) bx) ((fun k=>if k = id then noB else cc.blk k) bx) none (Grw.refl w _) (fun _ e=>by cases e) (hevo _ (by exact hown)) (fun b hb=>.inl hb) (by
  refine ⟨b0,C0,e0,by simpa [hbi] using p1,by simpa [hbi] using p2,p3,p4, ?_⟩;have hoff:off < l.length:=(b40.1 hl).1;have hcl:=p5.length;refine aq.of_get ?_ fun k x u' hx' hu'=>?_
  · simp only [ap,b2v,b2y,b4l,b3q];omega
  have hx2:=hx';unfold ap at hx2;rw [bw l [HV.ref id 0] off k b5v] at hx2;by_cases hk:k = off
  · subst hk
    simp at hx2;subst hx2;rw [hu] at hu';simp only [b2g] at hu';subst hu';refine ⟨ag.oneCell hx,fun l2=>by simp [S.setO,HSt.den,ar,Ne.symm hbi],fun ob1 s1 e1 n1 ho hd1=>?_⟩;simp only [S.setO,HSt.den,ar,Ne.symm hbi,if_false,if_true,b2g] at ho;subst ho;simp only [a6.dim,b2g,b2l] at hd1;obtain ⟨rfl,rfl,rfl⟩:=hd1;exact ⟨b2j _,fun _=>by simp [Ne.symm hbi]⟩
  rw [if_neg b5v] at hx2;obtain ⟨u2,hu2,hr2⟩:=p5.get k x hx2;rw [hu'] at hu2;simp only [b2g] at hu2;subst hu2;refine aw.evo (c:=cc) (o:=st.den.o) (Imm.le.refl cc.imm) (fun j hj=>?_) hr2
  have hji:j ≠ id:=by
   rintro rfl;exact hnm.2.1 bx _ hb ⟨x,List.mem_of_getElem? hx2,hj⟩
  by_cases hjb:j = bx
  · subst hjb;exact .inr (.inl ⟨l,ap l off [.ref id 0],hb,by simp [S.setO],by simp [hji]⟩)
  exact Evo.of_same (by simp [S.setO,hjb,HSt.den,ar,hji]) (by simp [hjb,hji]))
 have e:HSt.den ⟨st.t,(bx,some (.box (ap l off [.ref id 0]))) :: (id,some (.nest e et es 0 m g none)) :: st.o⟩ = (HSt.den ⟨st.t,(id,some (.nest e et es 0 m g none)) :: st.o⟩).setO bx (some (.box (ap l off [.ref id 0]))):=by
  unfold HSt.den S.setO;simp only [S.mk.injEq,true_and];funext k;simp only [ar]
 rw [e];exact ⟨_,(by exact hold),hw⟩
def a5o {ro:Option Nat} {P:Program} {nt:Nat} {st:HSt} {Q:Exit -> HSt -> Prop} {c:Code} (bx off id:Nat) {s':Nat} {l:List HV} (e et:TypeId) (es:Nat) (m:Nat -> Nat) (g:Nat -> Nat -> Nat -> PV) (hs:0 < es) (hb:b6 st.o bx = some (.box l)) (hl:l[off]? = some (.p (.sl 0 s' true f'))) (hn:o7 id st = true) (hne:Nat.beq bx id = false) (h:HW (ro:=ro) P nt c ⟨st.t,(bx,some (.box (ap l off [.ref id 0]))) :: (id,some (.nest e et es 0 m g none)) :: st.o⟩ Q):HW (ro:=ro) P nt c st Q:=fun w0 m0 a w hr=>h w0 m0 a w (a3r bx off id e et es m g hs hb hl hn hne hr)
end
end
section
abbrev Rw:=List Int
def ltZ:Rw -> Rw -> Bool
 | [],[]=>false
 | [],_ :: _=>true
 | _ :: _,[]=>false
 | x :: a,y :: b=>if x = y then ltZ a b else decide (x < y)
def ov:∀ a:Rw,ltZ a a = false
 | []=>rfl
 | x :: a=>by unfold ltZ;rw [if_pos rfl];exact ov a
def jf:∀ {a b c:Rw},ltZ a b = true -> ltZ b c = true -> ltZ a c = true
 | [],[],_,h,_=>by cases h
 | [],_ :: _,[],_,k=>by cases k
 | [],_ :: _,_ :: _,_,_=>rfl
 | _ :: _,[],_,h,_=>by cases h
 | _ :: _,_ :: _,[],_,k=>by cases k
 | x :: a,y :: b,z :: c,h,k=>by
  unfold ltZ at *;by_cases hxy:x = y
  · rw [if_pos hxy] at h
    subst hxy;by_cases hyz:x = z
    · rw [if_pos hyz] at k ⊢
      exact jf h k
    rw [if_neg hyz] at k ⊢;exact k
  rw [if_neg hxy] at h;have h:=of_decide_eq_true h;by_cases hyz:y = z
  · subst hyz
    rw [if_neg hxy];exact decide_eq_true h
  rw [if_neg hyz] at k;have k:=of_decide_eq_true k;rw [if_neg b5h];exact decide_eq_true b5h
def wj:∀ {a b:Rw},a ≠ b -> ltZ a b = true \/ ltZ b a = true
 | [],[],h=>absurd rfl h
 | [],_ :: _,_=>.inl rfl
 | _ :: _,[],_=>.inr rfl
 | x :: a,y :: b,h=>by
  unfold ltZ;by_cases hxy:x = y
  · subst hxy
    rw [if_pos rfl,if_pos rfl];exact wj fun e=>h (by rw [e])
  rw [if_neg hxy,if_neg (Ne.symm hxy),decide_eq_true_iff,decide_eq_true_iff];omega
def zC:Int -> Nat -> PV:=fun z _=>.raw (.int .i64 z)
abbrev zl (r:Rw):PV:=psl 1 zC r
def rC:Rw -> Nat -> PV:=fun r _=>zl r
abbrev rl (l:List Rw):PV:=psl 1 rC l
def ama {a b:Rw} (h:ltZ a b = true):ltZ b a = false:=by
 rw [b33];intro k;have:=jf h k;rw [ov] at this;cases this
def lp (l:List Rw):Prop:=l.Pairwise fun a b=>ltZ a b = true
def a1y:∀ {l k:List Rw},lp l -> lp k -> (∀ x,x ∈ l <-> x ∈ k) -> l = k
 | [],[],_,_,_=>rfl
 | [],y :: k,_,_,h=>absurd ((h y).2 (b3u ..)) b5k
 | x :: l,[],_,_,h=>absurd ((h x).1 (b3u ..)) b5k
 | x :: l,y :: k,hl,hk,h=>by
  obtain ⟨h1,h2⟩:=b3h.1 hl;obtain ⟨k1,k2⟩:=b3h.1 hk
  have e:x = y:=by
   rcases b2s.1 ((h x).1 (b3u ..)) with e | hx
   · exact e
   rcases b2s.1 ((h y).2 (b3u ..)) with e | hy
   · exact e.symm
   have:=ama (k1 x hx);rw [h1 y hy] at this;cases this
  subst e;congr 1;refine a1y h2 k2 fun z=>?_;constructor
  · intro hz
    rcases b2s.1 ((h z).1 (b38 _ hz)) with e | hz'
    · subst e
      have:=h1 z hz;rw [ov] at this;cases this
    exact hz'
  intro hz
  rcases b2s.1 ((h z).2 (b38 _ hz)) with e | hz'
  · subst e
    have:=k1 z hz;rw [ov] at this;cases this
  exact hz'
def gz (x:Rw):List Rw -> List Rw
 | []=>[x]
 | y :: l=>if x = y then y :: l else if ltZ x y = true then x :: y :: l else y :: gz x l
def a38 {x z:Rw}:∀ {l:List Rw},z ∈ gz x l <-> z = x \/ z ∈ l
 | []=>by simp [gz]
 | y :: l=>by
  unfold gz;split
  · rename_i e
    subst e;simp
  split
  · simp
  rw [b2s,a38,b2s];constructor
  · rintro (h | h | h) <;> simp [h]
  rintro (h | h | h) <;> simp [h]
def a7k {x:Rw}:∀ {l:List Rw},lp l -> lp (gz x l)
 | [],_=>by simp [gz,lp]
 | y :: l,h=>by
  obtain ⟨h1,h2⟩:=b3h.1 h;unfold gz;split
  · exact h
  split
  · rename_i hxy
    refine b3h.2 ⟨fun z hz=>?_,h⟩
    rcases b2s.1 hz with rfl | hz
    · exact hxy
    exact jf hxy (h1 z hz)
  rename_i hne hxy;refine b3h.2 ⟨fun z hz=>?_,a7k h2⟩
  rcases a38.1 hz with rfl | hz
  · exact (wj hne).resolve_left hxy
  exact h1 z hz
def au (l:List Rw):List Rw:=l.foldl (fun o x=>gz x o) []
def yx:∀ {l o:List Rw},lp o -> lp (l.foldl (fun o x=>gz x o) o) /\ ∀ z,z ∈ l.foldl (fun o x=>gz x o) o <-> z ∈ o \/ z ∈ l
 | [],o,h=>⟨h,fun z=>by simp⟩
 | x :: l,o,h=>by
  obtain ⟨h1,h2⟩:=yx (l:=l) (a7k (x:=x) h);refine ⟨h1,fun z=>?_⟩;show z ∈ l.foldl (fun o x=>gz x o) (gz x o) <-> _;rw [h2 z,a38,b2s];constructor
  · rintro ((h | h) | h) <;> simp [h]
  rintro (h | h | h) <;> simp [h]
def o8 (l:List Rw):lp (au l):=(yx (o:=[]) List.Pairwise.nil).1
def ef {l:List Rw} {z:Rw}:z ∈ au l <-> z ∈ l:=by
 show z ∈ l.foldl (fun o x=>gz x o) [] <-> _;rw [(yx (l:=l) (o:=[]) List.Pairwise.nil).2 z];simp
def ab2 {l k:List Rw} (hk:lp k) (h:∀ z,z ∈ k <-> z ∈ l):k = au l:=a1y hk (o8 l) fun z=>by rw [h z,ef]
def b1c (l:List Rw) (k:Nat) (r:Rw):List Rw:=l.take k ++ r :: l.drop k
def aai (x:Rw):∀ l:List Rw,(gz x l).length <= l.length + 1
 | []=>by simp [gz]
 | y :: l=>by
  unfold gz;have:=aai x l;split
  · simp
  split
  · simp
  simp only [b3r];omega
def a84 (l:List Rw):(au l).length <= l.length:=by
 have:∀ (l o:List Rw),(l.foldl (fun o x=>gz x o) o).length <= o.length + l.length:=by
  intro l
  induction l with
  | nil=>intro o;simp
  | cons x l ih =>
   intro o;have h1:=ih (gz x o);have h2:=aai x o;simp only [List.foldl_cons,b3r];omega
 have h:=this l [];simpa [au] using h
end
section
abbrev pZ (r:Rw):PC:=.one (zl r)
abbrev pR (l:List Rw):PC:=.one (rl l)
abbrev pT (n:Int) (l:List Rw):PC:=.agg [.raw (.int .i64 n),rl l]
def ak4:∀ {a b:Rw} {i:Nat},i < a.length -> i < b.length -> (∀ j,j < i -> a.getD j default = b.getD j default) -> ¬ a.getD i default = b.getD i default -> ltZ a b = decide (a.getD i default < b.getD i default)
 | [],_,_,h,_,_,_=>by simp at h
 | _ :: _,[],_,_,h,_,_=>by simp at h
 | x :: a,y :: b,0,_,_,_,hn=>by
  have:¬ x = y:=hn;unfold ltZ;rw [if_neg this];rfl
 | x :: a,y :: b,i + 1,ha,hb,h,hn=>by
  have e:x = y:=h 0 b5h;unfold ltZ;rw [if_pos e];exact ak4 (by simpa using ha) (by simpa using hb) (fun j hj=>h (j + 1) b5h) hn
def a6z:∀ {a b:Rw},(∀ j,j < a.length -> j < b.length -> a.getD j default = b.getD j default) -> ltZ a b = decide (a.length < b.length)
 | [],[],_=>rfl
 | [],_ :: _,_=>by simp [ltZ]
 | _ :: _,[],_=>by simp [ltZ]
 | x :: a,y :: b,h=>by
  have e:x = y:=h 0 b5k b5k;unfold ltZ;rw [if_pos e,a6z fun j h1 h2=>h (j + 1) (by simpa using h1) (by simpa using h2)];simp
def ln (a b:Rw):Int:=if a = b then 0 else if ltZ a b = true then -1 else 1
section
variable {a b:Rw} {i:Nat}
def aqv (ha:i < a.length) (hb:i < b.length) (h:∀ j,j < i -> a.getD j default = b.getD j default) (hn:¬ fy (a.getD i default) (b.getD i default) = 0):fy (a.getD i default) (b.getD i default) = ln a b:=by
 have hne:¬ a.getD i default = b.getD i default:=fun e=>hn (by unfold fy;rw [if_neg b5h,if_neg b5h]);unfold fy ln;rw [if_neg (fun e:a = b=>hne (by rw [e])),ak4 ha hb h hne];simp only [decide_eq_true_eq];split
 · rfl
 rw [if_pos b5h]
def aw9 {a b:Int} (h:fy a b = 0):a = b:=by
 unfold fy at h;split at h
 · omega
 split at h <;> omega
def ar7 (ha:i < a.length) (hb:¬ i < b.length) (h:∀ j,j < i -> a.getD j default = b.getD j default):(1:Int) = ln a b:=by
 unfold ln;rw [if_neg (fun e:a = b=>by subst e;omega),a6z fun j h1 h2=>h j b5h,if_neg (by simp only [decide_eq_true_eq];omega)]
def aqf (hl:a.length < b.length) (h:∀ j,j < a.length -> a.getD j default = b.getD j default):(-1:Int) = ln a b:=by
 unfold ln;rw [if_neg (fun e:a = b=>by subst e;omega),a6z fun j h1 h2=>h j h1,if_pos (by simp only [decide_eq_true_eq];omega)]
def asf (hl:a.length <= b.length) (hl2:¬ a.length < b.length) (h:∀ j,j < a.length -> a.getD j default = b.getD j default):(0:Int) = ln a b:=by
 unfold ln;rw [if_pos (gh b5h h)]
def awl (h:a.length = b.length) (hI:∀ j,j < a.length -> decide (a.getD j default = b.getD j default) = true):a = b:=gh h fun j hj=>of_decide_eq_true (hI j hj)
def at2 {a b:Nat} (h:∀ j,j < a -> j < b):a <= b:=Nat.le_of_not_lt fun e=>b50 _ (h b e)
def jo (a b:Rw) (s:AS):Bool:=decide (∀ i:Nat,i < a.length -> (bt s (i:Int) = true -> a.getD i default = b.getD i default))
def atz {s:AS} (hi:i < a.length) (h:bt s (i:Int) = true) (hn:¬ a.getD i default = b.getD i default):jo a b s = false:=decide_eq_false fun e=>hn (e i hi h)
def yo {s:AS} (h:∀ i:Nat,i < a.length -> (bt s (i:Int) = true -> a.getD i default = b.getD i default)):jo a b s = true:=decide_eq_true h
def lj {s:AS} (h:i < 32):k8 .and .u32 ((asI s).fdiv (2 ^ (min i 32))) 1 = 1 <-> bt s (i:Int) = true:=by
 rw [<- a8r (s:=s) (i:=(i:Int)) b5h b5h,decide_eq_true_iff];rfl
def kp (n:Int) (l:List Rw) (i:Nat):Bool:=decide (((l.getD i default).length:Int) = n) && !(l.getD i default).any (fun x=>decide (x < 0)) && (decide (i = 0) || ltZ (l.getD (i - 1) default) (l.getD i default))
def tok (n:Int) (l:List Rw):Bool:=decide (0 <= n /\ n <= 16 /\ l.length <= 256) && decide (∀ i,i < l.length -> kp n l i = true)
def aob {n:Int} {l:List Rw} (h0:0 <= n) (h1:n <= 16) (h2:l.length <= 256) (h:∀ i,i < l.length -> kp n l i = true):tok n l = true:=by
 unfold tok;rw [decide_eq_true (show 0 <= n /\ n <= 16 /\ l.length <= 256 from ⟨h0,h1,h2⟩),decide_eq_true h];rfl
def aan {n:Int} {l:List Rw} (h:¬ (0 <= n /\ n <= 16 /\ l.length <= 256)):tok n l = false:=by
 unfold tok;rw [decide_eq_false h];rfl
def ah8 {n:Int} {l:List Rw} (hi:i < l.length) (h:kp n l i = false):tok n l = false:=by
 unfold tok;rw [decide_eq_false (fun e:∀ i,i < l.length -> kp n l i = true=>by rw [e i hi] at h;cases h),Bool.and_false]
def dw (a b:Rw) (s:AS):Rw:=(List.range b.length).map fun (i:Nat)=>if bt s (i:Int) = true then a.getD i default else b.getD i default
end
end
section
open Go.Proofs
def azq (l:List Int) (g k:Nat) (caps:Nat -> PV) (V:Int -> Bool) (hg:goodFn b65 g) (hV:∀ x,aa b65 g (pI x :: lz caps k 0) (af [pB (V x)])):aa b65 174 [pP (zl l),pP (.fn g k caps)] (af [pI (idx V l)]):=by
 refine hpx (nt:=19) Tryz.func174 ?_;refine dn ?_;refine df 0 rfl fun hn=>?_;refine w_3 ?_;refine c5 (ι:=Unit) kn km (fun _i=>⟨[],[]⟩) (fun _i=>idx V l = -1) ?_ ?_
 ·
  refine w_7 ?_;refine ai (ι:=Nat) (ka 0 (ka 1 (ka 7 kn))) km (fun i=>⟨[(8,some (vI i))],[]⟩) (fun i=>i <= l.length /\ (∀ j,j < i -> V (l.getD j default) = false)) (fun i=>l.length - i) (0) (⟨b2n _,bh⟩) kk ?_;rintro i ⟨hi,hI⟩;refine w_5 ?_;refine hcd (fun h0=>?_) (fun h0=>?_)
  ·
   refine tk ?_;refine rc rfl rfl rfl rfl rfl rfl hg (hV (l.getD i default)) (CoL.refl _) rfl rfl ?_;refine cg ?_;refine hcb (fun h1=>?_) (fun h1=>?_)
   · refine v_5 ?_;exact ⟨cci (a0k (i:=i) b5h hI h1).symm,trivial⟩
   refine w_5 ?_;refine lpz (i + 1) kk ?_;exact ⟨by show i + 1 <= _;omega,ax hI (h1)⟩
  refine c6 ?_;refine ⟨(), ?_, ?_⟩
  · exact a0w fun j hj=>hI j b5h
  exact ⟨trivial,trivial⟩
 rintro _ hj;refine v_4 ?_;exact ⟨cci hj.symm,trivial⟩
def ay5 (l:List Rw) (g k:Nat) (caps:Nat -> PV) (V:Rw -> Bool) (hg:goodFn b65 g) (hV:∀ x,aa b65 g (pZ x :: lz caps k 0) (af [pB (V x)])):aa b65 127 [pP (rl l),pP (.fn g k caps)] (af [pI (idx V l)]):=by
 refine hpx (nt:=19) Tryz.func127 ?_;refine dn ?_;refine df 0 rfl fun hn=>?_;refine w_3 ?_;refine c5 (ι:=Unit) kn km (fun _i=>⟨[],[]⟩) (fun _i=>idx V l = -1) ?_ ?_
 ·
  refine w_7 ?_;refine ai (ι:=Nat) (ka 0 (ka 1 (ka 7 kn))) km (fun i=>⟨[(8,some (vI i))],[]⟩) (fun i=>i <= l.length /\ (∀ j,j < i -> V (l.getD j default) = false)) (fun i=>l.length - i) (0) (⟨b2n _,bh⟩) kk ?_;rintro i ⟨hi,hI⟩;refine w_5 ?_;refine hcd (fun h0=>?_) (fun h0=>?_)
  ·
   refine tk ?_;refine rc rfl rfl rfl rfl rfl rfl hg (hV (l.getD i default)) (CoL.refl _) rfl rfl ?_;refine cg ?_;refine hcb (fun h1=>?_) (fun h1=>?_)
   · refine v_5 ?_;exact ⟨cci (a0k (i:=i) b5h hI h1).symm,trivial⟩
   refine w_5 ?_;refine lpz (i + 1) kk ?_;exact ⟨by show i + 1 <= _;omega,ax hI (h1)⟩
  refine c6 ?_;refine ⟨(), ?_, ?_⟩
  · exact a0w fun j hj=>hI j b5h
  exact ⟨trivial,trivial⟩
 rintro _ hj;refine v_4 ?_;exact ⟨cci hj.symm,trivial⟩
def ayb (l:List Int) (g k:Nat) (caps:Nat -> PV) (V:Int -> Bool) (hg:goodFn b65 g) (hV:∀ x,aa b65 g (pI x :: lz caps k 0) (af [pB (V x)])):aa b65 162 [pP (zl l),pP (.fn g k caps)] (af [pB (l.any V)]):=by
 refine hpx (nt:=9) Tryz.func162 ?_;refine w_8 ?_;refine qcx (wgx Tryz.func174) (azq l g k caps V hg hV) ?_;refine v_3 ?_;exact ⟨ccb aiu,trivial⟩
def azt (l:List Rw) (g k:Nat) (caps:Nat -> PV) (V:Rw -> Bool) (hg:goodFn b65 g) (hV:∀ x,aa b65 g (pZ x :: lz caps k 0) (af [pB (V x)])):aa b65 87 [pP (rl l),pP (.fn g k caps)] (af [pB (l.any V)]):=by
 refine hpx (nt:=9) Tryz.func87 ?_;refine w_8 ?_;refine qcx (wgx Tryz.func127) (ay5 l g k caps V hg hV) ?_;refine v_3 ?_;exact ⟨ccb aiu,trivial⟩
def abt:goodFn b65 89:=wgx Tryz.func89
def aln (a b:Rw):aa b65 89 [pZ a,pZ b] (af [pB (decide (a = b))]):=by
 refine hpx (nt:=26) Tryz.func89 ?_;refine dn ?_;refine df 0 rfl fun hn0=>?_;refine df 1 rfl fun hn1=>?_;refine su ?_;refine hcn (fun h0=>?_) (fun h0=>?_)
 · refine v_4 ?_;exact ⟨ccb (decide_eq_false fun e=>by subst e;omega).symm,trivial⟩
 refine ek ?_;refine c5 (ι:=Unit) kn km (fun _i=>⟨[],[]⟩) (fun _i=>a = b) ?_ ?_
 ·
  refine w_7 ?_;refine ai (ι:=Nat) (ka 0 (ka 1 (ka 12 kn))) km (fun i=>⟨[(13,some (vI i))],[]⟩) (fun i=>i <= a.length /\ (∀ j,j < i -> decide (a.getD j default = b.getD j default) = true)) (fun i=>a.length - i) (0) (⟨b2n _,bh⟩) kk ?_;rintro i ⟨hi,hI⟩;refine w_5 ?_;refine hcd (fun h1=>?_) (fun h1=>?_)
  ·
   refine age ?_;refine hcn (fun h2=>?_) (fun h2=>?_)
   · refine v_4 ?_;exact ⟨ccb (decide_eq_false fun e=>by subst e;simp_all).symm,trivial⟩
   refine w_5 ?_;refine lpz (i + 1) kk ?_;exact ⟨by show i + 1 <= _;omega,ax hI (decide_eq_true b5r)⟩
  refine c6 ?_;refine ⟨(), ?_, ?_⟩
  · exact awl b5h fun j hj=>hI j b5h
  exact ⟨trivial,trivial⟩
 rintro _ hj;refine v_4 ?_;exact ⟨ccb (decide_eq_true hj).symm,trivial⟩
def aod (a b:Rw):aa b65 136 [pZ a,pZ b] (af [pI (ln a b)]):=by
 refine hpx (nt:=36) Tryz.func136 ?_;refine dn ?_;refine df 0 rfl fun hn0=>?_;refine df 1 rfl fun hn1=>?_;refine w_3 ?_;refine c5 (ι:=Unit) (ka 0 (ka 1 kn)) km (fun _i=>⟨[],[]⟩) (fun _i=>∀ j,j < a.length -> j < b.length /\ a.getD j default = b.getD j default) ?_ ?_
 ·
  refine w_7 ?_;refine ai (ι:=Nat) (ka 0 (ka 1 (ka 9 (ka 10 kn)))) km (fun i=>⟨[(11,some (vI i))],[]⟩) (fun i=>i <= a.length /\ (∀ j,j < i -> j < b.length /\ a.getD j default = b.getD j default)) (fun i=>a.length - i) (0) (⟨b2n _,bh⟩) kk ?_;rintro i ⟨hi,hI⟩;refine w_5 ?_;refine hcd (fun h0=>?_) (fun h0=>?_)
  ·
   refine acb ?_;refine hcd (fun h1=>?_) (fun h1=>?_)
   · refine v_4 ?_;exact ⟨cci (ar7 (i:=i) b5h b5h fun j hj=>(hI j hj).2),trivial⟩
   refine j3 ?_;refine qcx (wgx Tryz.func103) (aof (a.getD i default) (b.getD i default)) ?_;refine w_7 ?_;refine hcn (fun h2=>?_) (fun h2=>?_)
   · refine v_5 ?_;exact ⟨cci (aqv (i:=i) b5h b5h (fun j hj=>(hI j hj).2) b5i),trivial⟩
   refine w_5 ?_;refine lpz (i + 1) kk ?_;exact ⟨by show i + 1 <= _;omega,ax hI (⟨by omega,aw9 b5i⟩)⟩
  refine c6 ?_;refine ⟨(), ?_, ?_⟩
  · exact fun j hj=>hI j b5h
  exact kk
 rintro _ hj;refine w_9 ?_;refine hcd (fun h3=>?_) (fun h3=>?_)
 · refine v_4 ?_;exact ⟨cci (aqf b5h fun j h=>(hj j h).2),trivial⟩
 refine v_5 ?_;exact ⟨cci (asf (at2 fun j h=>(hj j h).1) b5h fun j h=>(hj j h).2),trivial⟩
end
section
open Go.Proofs
abbrev bxZ (a:PV):PV:=.vp 1 fun j=>[a].getD j .any
def avv (r row:Rw):aa b65 88 [pZ r,pP (bxZ (zl row))] (af [pB (decide (r = row))]):=by
 refine hpx (nt:=7) Tryz.func88 ?_;refine w_8 ?_;refine qcx abt (aln _ _) ?_;refine v_2 ?_;exact CoL.refl _
def zw:goodFn b65 46:=wgx Tryz.func46
def a4d (n:Int) (l:List Rw) (row:Rw):aa b65 46 [pT n l,pZ row] (af [pB (l.any fun r=>decide (r = row))]):=by
 refine hpx (nt:=9) Tryz.func46 ?_;refine sx7 ?_;refine m9 0 ?_;refine m9 1 ?_;refine w_3 ?_;refine a8d 3 rfl rfl rfl ?_;refine w_4 ?_;refine qcx (wgx Tryz.func87) (azt l 88 1 (fun i=>[bxZ (zl row)].getD i .any) (fun r=>decide (r = row)) (wgx Tryz.func88) (fun r=>avv r row)) ?_;refine v_2 ?_;exact CoL.refl _
def azf (x:Int):aa b65 163 [pI x] (af [pB (decide (x < 0))]):=by
 refine hpx (nt:=5) Tryz.func163 ?_;refine dy ?_;exact hx8 rfl rfl rfl (CoL.refl _)
def w3:goodFn b65 129:=wgx Tryz.func129
def yj (a b:Rw) (s:AS) (h:b.length = a.length) (h16:a.length <= 16):aa b65 129 [pZ a,pZ b,pA s] (af [pB (jo a b s)]):=by
 refine hpx (nt:=30) Tryz.func129 ?_;refine dn ?_;refine df 0 rfl fun hn0=>?_;refine df 1 rfl fun hn1=>?_;refine w_3 ?_;refine c5 (ι:=Unit) kn km (fun _i=>⟨[],[]⟩) (fun _i=>jo a b s = true) ?_ ?_
 ·
  refine w_7 ?_;refine ai (ι:=Nat) (ka 0 (ka 1 (ka 2 (ka 9 kn)))) km (fun i=>⟨[(10,some (vI i))],[]⟩) (fun i=>i <= a.length /\ (∀ j:Nat,j < i -> (bt s (j:Int) = true -> a.getD j default = b.getD j default))) (fun i=>a.length - i) (0) (⟨b2n _,bh⟩) kk ?_;rintro i ⟨hi,hI⟩;refine w_5 ?_;refine hcd (fun h0=>?_) (fun h0=>?_)
  ·
   refine vc ?_;refine ab rfl rfl (fun r1=>?_) (fun r1=>?_)
   ·
    have h1:=tz1 r1;(iterate 9 refine qy ?_ (hg:=(gtt r1)));refine w_3 ?_;refine aj _ rfl (fun r2=>?_) (fun r2=>?_)
    · have h2:=tz2 (ec (b4 r1 r2));refine v_4 ?_;exact ⟨ccb (atz (i:=i) b5h ((lj b5h).1 b5i) b5i).symm,trivial⟩
    have h2:=tz1 (eg (b4 r1 r2));refine w_5 ?_;refine lpz (i + 1) kk ?_;exact ⟨by show i + 1 <= _;omega,ax hI (fun hh=>by first | (exact absurd ((lj b5h).2 hh) b5i) | assumption)⟩
   have h1:=tz2 r1;(iterate 9 refine k9 (gft r1) ?_);refine w_9 ?_;refine lpz (i + 1) kk ?_
   exact ⟨by show i + 1 <= _;omega,ax hI (fun hh=>by first | (exact absurd ((lj b5h).2 hh) b5i) | assumption)⟩
  refine c6 ?_;refine ⟨(), ?_, ?_⟩
  · exact yo fun j hj=>hI j b5h
  exact ⟨trivial,trivial⟩
 rintro _ hj;refine v_4 ?_;exact ⟨ccb hj.symm,trivial⟩
end
section
def cj (n:Int) (l m:List Fd):Int:=if dm n l = 0 then (if 64 < m.length then 3 else if m.all (inU n) = true then 0 else 1) else dm n l
section
variable {n:Int} {l m:List Fd}
def auf (h:¬ dm n l = 0):dm n l = cj n l m:=by unfold cj;rw [if_neg h]
def aua (h:dm n l = 0) (h2:64 < m.length):3 = cj n l m:=by unfold cj;rw [if_pos h,if_pos h2]
def atq {i:Nat} (h:dm n l = 0) (h2:¬ 64 < m.length) (hi:i < m.length) (hu:¬ inU n (m.getD i default) = true):1 = cj n l m:=by
 unfold cj;rw [if_pos h,if_neg h2,if_neg (fun e=>absurd (a4v (l:=m) (p:=inU n) hi (b33.2 hu)) (by rw [e];decide))]
def av9 (h:dm n l = 0) (h2:¬ 64 < m.length) (hu:∀ j,j < m.length -> inU n (m.getD j default) = true):0 = cj n l m:=by
 unfold cj;rw [if_pos h,if_neg h2,if_pos (a51 hu)]
def a5m (h:cj n l m = 0):0 <= n /\ n <= 16 /\ l.length <= 64 /\ l.all (inU n) = true /\ m.length <= 64 /\ m.all (inU n) = true:=by
 unfold cj at h;by_cases h1:dm n l = 0
 · rw [if_pos h1] at h
   obtain ⟨a,b,c,d⟩:=aer h1;by_cases h2:64 < m.length
   · rw [if_pos h2] at h;omega
   rw [if_neg h2] at h;by_cases h3:m.all (inU n) = true
   · exact ⟨a,b,c,d,by omega,h3⟩
   rw [if_neg h3] at h;omega
 rw [if_neg h1] at h;exact absurd h h1
end
section
variable {l:List Rw}
def a9i {n:Int} {i:Nat} (h1:((l.getD i default).length:Int) = n) (h2:(l.getD i default).any (fun x=>decide (x < 0)) = false) (h3:i = 0 \/ ltZ (l.getD (i - 1) default) (l.getD i default) = true):kp n l i = true:=by
 unfold kp;rw [decide_eq_true h1,h2]
 rcases h3 with h3 | h3
 · rw [decide_eq_true h3];rfl
 rw [h3];simp
def afm {n:Int} {i:Nat} (h:¬ ((l.getD i default).length:Int) = n):kp n l i = false:=by unfold kp;rw [decide_eq_false h];rfl
def afd {n:Int} {i:Nat} (h:(l.getD i default).any (fun x=>decide (x < 0)) = true):kp n l i = false:=by unfold kp;rw [h];simp
def a72 {n:Int} {i:Nat} (h0:0 < i) (h:¬ ltZ (l.getD (i - 1) default) (l.getD i default) = true):kp n l i = false:=by
 unfold kp;rw [b33.2 h,decide_eq_false (by omega:¬ i = 0)];simp
def xf {a b:Rw}:ln a b < 0 <-> ltZ a b = true:=by
 unfold ln;by_cases e:a = b
 · subst e
   rw [if_pos rfl,ov];exact ⟨fun h=>absurd h b5h,fun h=>by cases h⟩
 rw [if_neg e];by_cases h:ltZ a b = true
 · rw [if_pos h];exact ⟨fun _=>h,fun _=>by omega⟩
 rw [if_neg h];exact ⟨fun h=>absurd h b5h,fun h2=>absurd h2 h⟩
end
end
end Go.Hx
