/- A part of the proof: Lw Hx26 Hx25 Ch1 Ch2 X1 X2 Ch3. -/
import Derived.Deep.DeepHandedRow
import Derived.OpenShut
import Derived.ProofKit
import Derived.Test.YteklilhbjjofbaaGreatDoorCards
import Derived.Test.YteklilhbjjofbaaGreatDoorRows
import Derived.Test.YteklilhbjjofbaaGreatDoorTie
import Derived.WalkKit
import Derived.Test.YteklilhbjjofbaaGreatDoorLc18
set_option linter.all false
set_option maxRecDepth 100000
set_option maxHeartbeats 1000000
namespace Go.Hx
section
open Go.Proofs Go.ChangeShapes Go.WideShapes Go.ChangeAt Go.RowKit
def own:ownKnob b6g.godebug = none:=by kernel_rfl
def aw0 : b6g.globalNamed "math/bits.deBruijn32tab" = some 1 := by kernel_rfl
def akt:(b6g.globals[1]?).map (·.type) = some 228:=by kernel_rfl
def ama:b6g.cellsOf 228 = 32:=by kernel_rfl
def asz:b6g.cellsOf 5 = 1:=by kernel_rfl
def acl:List Int:=[0,1,28,2,29,14,24,3,30,22,20,15,25,17,4,8,31,27,13,23,21,19,16,7,26,12,18,6,11,5,10,9]
def axj {W : World} (h : laidMetH b6g [("math/bits.deBruijn32tab", YteklilhbjjofbaaGreatDoor.Rows.laid_math_bits_deBruijn32tab)] W) : o4 (df W) := by
 have ht : Lib.TabIs b6g W "math/bits.deBruijn32tab" .u8 acl := Lib.tabIs_of_head (rest := []) aw0 akt Tryz.underlying228 Tryz.underlying5 asz ama h;intro b off v hv;unfold rz ot at hv;split at hv
 · have hlt:off < 32:=by
    rcases b5e off 32 with h | h
    · exact h
    rw [b4m (by simpa using h)] at hv;cases hv
   have hc:=ht.cell aw0 off hlt
   have e:v = .int .u8 (acl.getD off 0):=by
    have:(acl.map fun z=>Value.int .u8 z)[off]? = some v:=hv;rw [b35] at this;rw [b2r]
    cases hz:acl[off]? with
    | none=>rw [hz] at this;cases this
    | some z=>rw [hz] at this;exact (Option.some.inj this).symm
   rw [e];unfold World.cell? at hc;unfold f7 df;split at hc
   · rename_i c t fr hh
     rw [hh];simpa using hc
   cases hc
 cases hv
noncomputable def laidWorld (os:Os):World :=
 { World.holding b6g os ⟨#[],#[],[]⟩ with heap:=(World.holding b6g os ⟨#[],#[],[]⟩).heap.modify 1 fun
  | .cells _ t frozen=>.cells (acl.map fun z=>Value.int .u8 z).toArray t frozen
  | o=>o }
end
section
open Go.Proofs Go.Proofs.YteklilhbjjofbaaGreatDoor
open Go.RowKit Go.ChangeShapes Go.WideShapes Go.ChangeAt
section
variable {H:Type}
def a0v {d:DataW H} {l:List (DataW H)} (h:d ∈ l):Rows.uptoBulk d <= Rows.uptoBulkAll l:=by
 induction l with
 | nil=>cases h
 | cons x r ih =>
  rw [Rows.uptoBulkAll]
  rcases b2z.1 h with e | e
  · subst e;omega
  have:=ih e;omega
def apz (d:DataW H):1 <= Rows.uptoBulk d:=by
 cases d with
 | lit l=>cases l <;> simp [Rows.uptoBulk]
 | _=>simp [Rows.uptoBulk]
def akk (l:List (DataW H)):l.length <= Rows.uptoBulkAll l:=by
 induction l with
 | nil=>simp
 | cons x r ih=>have:=apz x;rw [Rows.uptoBulkAll,b41];omega
def ang {l r:List (DataW H)} {d:DataW H} (h:d ∈ l):Rows.uptoBulk d <= Rows.uptoBulk (.slice l r):=by
 have:=a0v h;rw [Rows.uptoBulk];omega
def aet {l:List (DataW H)} {d:DataW H} (h:d ∈ l):Rows.uptoBulk d <= Rows.uptoBulk (.agg l):=by
 have:=a0v h;rw [Rows.uptoBulk];omega
def asm (l r:List (DataW H)):l.length <= Rows.uptoBulk (.slice l r):=by
 have:=akk l;rw [Rows.uptoBulk];omega
end
def RdB (P:Program) (t:TypeId) (n:Nat) {α:Type} (c:α -> Nat -> PV) (B:Nat -> α -> Prop):Prop :=
 ∀ (H:Type) (enc:TypeId × Value -> H) (w:World) (sp:Nat -> Bool) (held:Bool) (fuel:Nat) (cs:List Value) (x:DataW H × List MemPlace),DataW.trod enc P w 0 sp held fuel t cs = some x ->
  cs.length = n /\ ∃ a:α,B (Rows.uptoBulk x.1) a /\ ∀ j,j < n -> ∃ v,cs[j]? = some v /\ af (df w) (c a j) v
section
variable {P:Program} {t e:TypeId}
theorem Rd.toB {n:Nat} {α:Type} {c:α -> Nat -> PV} (h:Rd P t n c):RdB P t n c fun _ _=>True:=by
 intro H enc w sp held fuel cs x hx;obtain ⟨h1,a,h2⟩:=h _ enc w sp held fuel cs x hx;exact ⟨h1,a,trivial,h2⟩
section
variable {α:Type} {B:Nat -> α -> Prop} {c:α -> Nat -> PV}
theorem RdB.co {n:Nat} {β:Type} {c':β -> Nat -> PV} {B':Nat -> β -> Prop} (h:RdB P t n c B) (f:α -> β) (hB:∀ b a,B b a -> B' b (f a)) (hc:∀ a j,j < n -> CoP (c a j) (c' (f a) j)):RdB P t n c' B':=by
 intro H enc w sp held fuel cs x hx;obtain ⟨h1,a,h0,h2⟩:=h _ enc w sp held fuel cs x hx;refine ⟨h1,f a,hB _ _ h0,fun j hj=>?_⟩;obtain ⟨v,h3,h4⟩:=h2 j hj;exact ⟨v,h3,hc a j hj _ _ h4⟩
def zj {s:Nat} [Inhabited α] (mono:∀ b b' x,b <= b' -> B b x -> B b' x) (ht:P.underlying t = some (.slice e)) (hc:P.cellsOf e = s) (hs:0 < s) (h:RdB P e s c B):RdB P t 1 (acg s c) (fun b l=>l.length <= b /\ ∀ i,i < l.length -> B b (l.getD i default)):=by
 classical
 intro H enc w sp held fuel cs x hx
 rcases DataW.trod_slice ht hx with ⟨rfl,_⟩ | ⟨a,len,cap,elems,rest,n,rfl,rfl,rfl,hb,hl,hm,hlen,hel,_,_⟩
 · refine ⟨rfl,[],⟨b2w _,fun i hi=>absurd hi (b2y i)⟩,fun j hj=>?_⟩
   obtain rfl:j = 0:=by omega
   exact ⟨_,rfl,none,0,rfl,b2v _,b2w _,(fun hh=>by cases hh),fun hh=>absurd hh (Nat.lt_irrefl 0)⟩
 have each:∀ i,i < len -> ∃ q:α,B (Rows.uptoBulk (DataW.slice (elems.map (·.1)) (rest.map (·.1)))) q /\ ∀ j,j < s -> ∃ v,w.cell? (a.add (i * s + j)) = some v /\ af (df w) (c q j) v:=by
  intro i hi;have h1:=hel i hi;rw [hc] at h1;rw [b2q b5s] at h1;obtain ⟨cs',h2,h3⟩:=Option.bind_eq_some_iff.1 h1;obtain ⟨_,h4,h5⟩:=World.cells?_some h2;obtain ⟨_,q,h9,h6⟩:=h _ enc w sp held n cs' _ h3;refine ⟨q,mono _ _ q (ang (List.mem_map_of_mem (b31 _))) h9,fun j hj=>?_⟩;obtain ⟨v,h7,h8⟩:=h6 j hj;refine ⟨v, ?_,h8⟩;have:=h5 j hj;rw [h7] at this;rw [<- this];congr 1;unfold Addr.add;by_cases hj0:j = 0
  · subst hj0
    simp
  by_cases hi0:i * s = 0
  · simp [hi0,hj0]
  have:¬ (i * s + j = 0):=by omega
  simp only [hj0,hi0,this,if_false];congr 1;omega
 refine ⟨rfl,(List.range len).map fun i=>if hi:i < len then Classical.choose (each i hi) else default,⟨?_,fun i hi=>?_⟩,fun j hj=>?_⟩
 · rw [b3g,List.length_range,<- hlen]
   have:=asm (elems.map (·.1)) (rest.map (·.1));rw [b3g] at this;exact this
 · have hi:i < len:=by simpa using hi
   have hch:=(Classical.choose_spec (each i hi)).1;have e:((List.range len).map fun i=>if hi:i < len then Classical.choose (each i hi) else default).getD i default = Classical.choose (each i hi):=by simp [List.getD,hi]
   rw [e];exact hch
 obtain rfl:j = 0:=by omega
 refine ⟨_,rfl,some a,cap,by simp,by simpa using hl,hm,(fun hh=>by cases hh),fun hn=>?_⟩;have hn:0 < len:=by simpa using hn
 have hspot:a.spot = none:=by
  obtain ⟨q,_,hq⟩:=each 0 hn;obtain ⟨v,hv,_⟩:=hq 0 hs;have:a.add (0 * s + 0) = a:=by simp [Addr.add]
  rw [this] at hv;unfold World.cell? at hv;split at hv
  · split at hv
    · cases hv
    rename_i hsp;simpa using hsp
  cases hv
 refine ⟨a.block,a.off, ?_,fun i j hi hj=>?_⟩
 · obtain ⟨b,o,spo⟩:=a
   simp only at hspot;subst hspot;rfl
 have hi:i < len:=by simpa using hi
 have hch:=(Classical.choose_spec (each i hi)).2;obtain ⟨v,hv,hr⟩:=hch j hj;refine ⟨v, ?_, ?_⟩
 · unfold World.cell? at hv
   have hblk:(a.add (i * s + j)).block = a.block:=by unfold Addr.add;split <;> rfl
   have hoff:(a.add (i * s + j)).off = a.off + (i * s + j):=by
    unfold Addr.add;split
    · rename_i h0;rw [h0];rfl
    rfl
   rw [hblk,hoff] at hv;unfold f7 df;split at hv
   · rename_i hb'
     rw [hb'];split at hv
     · cases hv
     exact hv
   cases hv
 have:lf c ((List.range len).map fun i=>if hi:i < len then Classical.choose (each i hi) else default) i j = c (Classical.choose (each i hi)) j:=by
  unfold lf;simp [List.getD,hi]
 rw [this];exact hr
def a47 {H:Type} {enc:TypeId × Value -> H} {w:World} {sp:Nat -> Bool} {held:Bool} {fuel:Nat} {cs:List Value} {x:DataW H × List MemPlace} {fs:Array Field} (ht:P.underlying t = some (.struct fs)) (h:DataW.trod enc P w 0 sp held fuel t cs = some x) :
 cs.length = P.cellsOf t /\ ∃ n,∀ (i:Nat) (f:Field),fs[i]? = some f -> ∃ y,DataW.trod enc P w 0 sp held n f.type ((cs.drop f.offset).take (P.cellsOf f.type)) = some y /\ Rows.uptoBulk y.1 <= Rows.uptoBulk x.1:=by
 obtain ⟨xs,n,_,rfl,h1,h2,h3⟩:=DataW.trod_struct ht h;refine ⟨h1,n,fun i f hf=>?_⟩;have:=h3 i f hf;rw [this];have hi:i < xs.length:=by rw [h2];exact (b2t.1 hf).1
 exact ⟨_,b2q hi,aet (List.mem_map_of_mem (b31 hi))⟩
def i9 {H:Type} {enc:TypeId × Value -> H} {w:World} {sp:Nat -> Bool} {held:Bool} {n off s b:Nat} {ft:TypeId} {cs:List Value} {y:DataW H × List MemPlace} (mono:∀ b b' x,b <= b' -> B b x -> B b' x) (h:RdB P ft s c B) (hy:DataW.trod enc P w 0 sp held n ft ((cs.drop off).take (P.cellsOf ft)) = some y /\ Rows.uptoBulk y.1 <= b):
 ∃ a:α,B b a /\ ∀ j,j < s -> ∃ v,cs[off + j]? = some v /\ af (df w) (c a j) v:=by
 obtain ⟨h1,a,h0,h2⟩:=h _ enc w sp held n _ y hy.1;refine ⟨a,mono _ _ a hy.2 h0,fun j hj=>?_⟩;obtain ⟨v,h3,h4⟩:=h2 j hj;refine ⟨v, ?_,h4⟩;rw [b3p] at h3;split at h3
 · rwa [b5j] at h3
 cases h3
end
end
section
variable {P:Program} {t e:TypeId}
def alw {H:Type} {enc:TypeId × Value -> H} {w:World} {sp:Nat -> Bool} {held:Bool} {fuel:Nat} {cs:List Value} {x:DataW H × List MemPlace} {k:Nat} (ht:P.underlying t = some (.array k e)) (h:DataW.trod enc P w 0 sp held fuel t cs = some x) :
 cs.length = P.cellsOf t /\ ∃ n,∀ i,i < k -> ∃ y,DataW.trod enc P w 0 sp held n e ((cs.drop (i * P.cellsOf e)).take (P.cellsOf e)) = some y /\ Rows.uptoBulk y.1 <= Rows.uptoBulk x.1:=by
 obtain ⟨xs,n,_,rfl,h1,h2,h3⟩:=DataW.trod_array ht h;refine ⟨h1,n,fun i hi=>?_⟩;have:=h3 i hi;rw [this];have hi:i < xs.length:=by omega
 exact ⟨_,b2q hi,aet (List.mem_map_of_mem (b31 hi))⟩
def abf {m:Imm} {c:Nat -> PV}:∀ {n:Nat} {us:List Value} {k:Nat},us.length = n -> (∀ j,j < n -> ∃ v,us[j]? = some v /\ af m (c (k + j)) v) -> d5 m ((List.range' k n).map c) us
 | 0,[],_,_,_=>trivial
 | n + 1,u :: us,k,hl,h=>by
  obtain ⟨v,h1,h2⟩:=h 0 b5s;simp only [List.getElem?_cons_zero,b2p] at h1;subst h1;refine ⟨h2,abf (n:=n) (k:=k + 1) (by simpa using hl) fun j hj=>?_⟩;obtain ⟨v,h3,h4⟩:=h (j + 1) b5s;refine ⟨v,by simpa using h3, ?_⟩;rwa [show k + 1 + j = k + (j + 1) by omega]
 | 0,_ :: _,_,h,_=>by cases h
 | _ + 1,[],_,h,_=>by cases h
def ae0 {H:Type} {enc:TypeId × Value -> H} {W:World} {cs:Array Value} {d:DataW H} {ps:List MemPlace} {n:Nat} {α:Type} {c:α -> Nat -> PV} {B:Nat -> α -> Prop} (h:RdB P t n c B) (hd:DataW.Trod enc P W 0 (fun _=>true) true t (.agg cs) d ps) :
 ∃ a:α,B (Rows.uptoBulk d) a /\ gu (df W) (.agg ((List.range' 0 n).map (c a))) (.agg cs):=by
 obtain ⟨fuel,hf⟩:=hd;obtain ⟨hl,a,h0,ha⟩:=h _ enc W _ _ fuel _ _ hf;refine ⟨a,h0,cs.toList,by simp,abf hl fun j hj=>?_⟩;rw [b3d];exact ha j hj
end
end
section
open Go.RowKit
section
variable {w0:World} {nt:Nat} {c:Ctx} {s:S} {a:Act} {w:World}
section
variable {g:Nat -> Nat -> Nat -> PV} {m:Nat -> Nat}
def agh {base:Nat} {o:al} {id:Nat} {e et:TypeId} {es:Nat} (hes:0 < es) (hb:c.blk id = noB) (hv:∃ ad,c.own id = .slice ad 0 0):cq base c o w id (.nest e et es 0 m g none):=by
 obtain ⟨ad,hv⟩:=hv;refine ⟨hes,b2w _,fun i hi=>absurd hi (b2y i),fun b=>?_,fun i b hi=>absurd hi (b2y i),fun i hi=>absurd hi (b2y i), .inl ⟨rfl,ad,hv⟩⟩;rw [hb,hv];constructor
 · exact fun h=>h.elim
 rintro (h | ⟨i,hi,_⟩)
 · cases ad <;> simp [bg] at h
 exact absurd hi (b2y i)
variable {f:Nat -> Nat -> PV}
def a3x {imm:Imm} {s':Nat} {u:Value} (h:af imm (.sl 0 s' true f) u):∃ ad,u = .slice ad 0 0:=by
 obtain ⟨ad,cap,rfl,_,_,hc,_⟩:=h;rw [hc rfl];exact ⟨ad,rfl⟩
def ny (m:Nat -> Nat) (n k:Nat):Nat -> Nat:=fun i=>bif Nat.beq i n then k else m i
def pi (g:Nat -> Nat -> Nat -> PV) (n:Nat) (f:Nat -> Nat -> PV):Nat -> Nat -> Nat -> PV:=fun i=>bif Nat.beq i n then f else g i
def a6i (m:Nat -> Nat) (n k:Nat):ny m n k n = k:=by simp [ny]
def xt {n k i:Nat} (h:i ≠ n):ny m n k i = m i:=by
 have:Nat.beq i n = false:=by rw [b38];exact fun hb=>h (b3b hb)
 simp [ny,this]
def adv (g:Nat -> Nat -> Nat -> PV) (n:Nat) (f:Nat -> Nat -> PV):pi g n f n = f:=by simp [pi]
def aak {n i:Nat} (h:i ≠ n):pi g n f i = g i:=by
 have:Nat.beq i n = false:=by rw [b38];exact fun hb=>h (b3b hb)
 simp [pi,this]
def aao {v:Value} {b:Nat} (h:bg v = some b):bq v = some b:=by
 unfold bg at h;split at h
 · split at h
   · cases h
   exact h
 cases h
def aa.absorb (h:aa w0 nt c s a w) {id id' k n:Nat} {e et:TypeId} {es:Nat} (ho:s.o id = some (.nest e et es n m g (some (id',k)))) (ho':s.o id' = some (.arr true es et k f)):
 ∃ c',c'.old = c.old /\ aa w0 nt c' ((s.setO id (some (.nest e et es (n + 1) (ny m n k) (pi g n f) none))).setO id' none) a w:=by
 have hne:id' ≠ id:=by rintro rfl;rw [ho] at ho';cases ho'
 have hnk:jc 0 c s.o w id e et es n m g (some (id',k)):=h.objs id _ ho;obtain ⟨q0,q1,q5⟩:=h.objs id' _ ho'
 have hcb:∀ b,bg (c.own id') = some b -> c.blk id' b:=fun b hb=>by
  rcases q5 with ⟨q6,_⟩ | ⟨q7,_,q8⟩
  · rw [q6];exact aao hb
  obtain ⟨ad,cap,r1,_,_,r4,_⟩:=q8
  rcases q7 with q7 | q7
  · cases q7
  subst q7;rw [r1,r4 rfl] at hb;cases ad <;> simp [bg] at hb
 have hrow:(k = 0 /\ ∃ a,c.own id' = .slice a 0 0) \/ ∃ ys,w.ownsRow 0 et es (c.own id') k ys /\ ∀ r j,r < k -> j < es -> ∃ x,ys[r * es + j]? = some x /\ af c.imm (f r j) x:=by
  rcases q5 with ⟨q6,xs,q7,q8⟩ | ⟨q6,q7,q8⟩
  · exact .inr ⟨xs,q7,q8⟩
  rcases q6 with q6 | q6
  · cases q6
  subst q6;exact .inl ⟨rfl,a3x q8⟩
 let o':al:=((s.setO id (some (.nest e et es (n + 1) (ny m n k) (pi g n f) none))).setO id' none).o
 have oid:o' id = some (.nest e et es (n + 1) (ny m n k) (pi g n f) none):=by
  show (if id = id' then _ else if id = id then _ else _) = _;rw [if_neg (Ne.symm hne),if_pos rfl]
 have oid':o' id' = none:=by
  show (if id' = id' then _ else _) = _;rw [if_pos rfl]
 have oelse:∀ q,q ≠ id -> q ≠ id' -> o' q = s.o q:=fun q h1 h2=>by
  show (if q = id' then _ else if q = id then _ else _) = _;rw [if_neg h2,if_neg h1]
 let c':Ctx:={ old:=c.old,imm:=c.imm,tab:=c.tab,own:=c.own,blk:=fun q=>if q = id then (fun b=>c.blk id b \/ bg (c.own id') = some b) else c.blk q,rows:=fun q=>if q = id then (fun i=>if i = n then c.own id' else c.rows id i) else c.rows q }
 have rlt:∀ i,i < n -> c'.rows id i = c.rows id i:=fun i hi=>by
  show (if id = id then (fun i=>if i = n then c.own id' else c.rows id i) else c.rows id) i = _;rw [if_pos rfl];show (if i = n then _ else _) = _;rw [if_neg b5s]
 have rn:c'.rows id n = c.own id':=by
  show (if id = id then (fun i=>if i = n then c.own id' else c.rows id i) else c.rows id) n = _;rw [if_pos rfl];show (if n = n then _ else _) = _;rw [if_pos rfl]
 have hevo:∀ q,Evo c s.o c' o' q:=fun q=>by
  by_cases h1:q = id
  · subst h1
    refine .inr (.inr ⟨_,_,1,e,n + 1,n + 1,ho,rfl,oid,rfl,b2v _,fun _=>rfl,fun e2 et2 es2 n2 m2 g2 pd2 hb2=>?_⟩);cases hb2;refine ⟨_,_,_,_,_,_,rfl,b5d _,fun i hi=>⟨by rw [xt b5s];exact b2v _,fun _=>rlt i hi⟩⟩
  by_cases h2:q = id'
  · subst h2;exact .inl oid'
  exact Evo.of_same (oelse q h1 h2) rfl (by show (if q = id then _ else _) = _;rw [if_neg h1])
 have bid:∀ q,q ≠ id -> c'.blk q = c.blk q:=fun q hq=>by show (if q = id then _ else _) = _;rw [if_neg hq]
 have bself:∀ b,c'.blk id b <-> (c.blk id b \/ bg (c.own id') = some b):=fun b=>by
  show (if id = id then _ else c.blk id:Nat -> Prop) b <-> _;rw [if_pos rfl]
 have hold:∀ q ob,o' q = some ob -> q ≠ id -> q ≠ id' /\ s.o q = some ob:=fun q ob hq h1=>by
  by_cases h2:q = id'
  · subst h2;rw [oid'] at hq;cases hq
  exact ⟨h2,by rw [<- oelse q h1 h2];exact hq⟩
 have whose:∀ b,c'.blk id b -> c.blk id b \/ c.blk id' b:=fun b hb=>((bself b).1 hb).imp (fun z=>z) (hcb b);refine ⟨c',rfl,⟨h.defers,h.size,h.below,fun d x hx=>(h.tmps d x hx).evo (Imm.le.refl c.imm) fun q _=>hevo q,fun q ob hq=>?_,fun q q' ob ob' b hq hq' hb hb'=>?_,h.imm,fun q ob b hq hb=>?_,h.was,h.frm,fun q ob b hq hb=>?_,fun q hq=>(h.fixed q hq).trans (hevo q)⟩⟩
 · by_cases h1:q = id
   · subst h1
     have hq:o' q = some ob:=hq;rw [oid] at hq;cases hq;have hlen:=hnk.len;simp only [o0] at hlen;refine ⟨hnk.pos,hlen,fun i hi=>?_,fun b=>?_,fun i b hi hb=>?_,fun i hi=>?_, .inr ?_⟩
     · by_cases hin:i = n
       · subst hin;rw [a6i];exact q1
       rw [xt hin];exact hnk.lens i b5s
     · rw [bself,hnk.blks]
       constructor
       · rintro ((h2 | ⟨i,hi,h2⟩) | h2)
         · exact .inl h2
         · exact .inr ⟨i,by omega,by rw [rlt i hi];exact h2⟩
         exact .inr ⟨n,by omega,by rw [rn];exact h2⟩
       rintro (h2 | ⟨i,hi,h2⟩)
       · exact .inl (.inl h2)
       by_cases hin:i = n
       · subst hin;rw [rn] at h2;exact .inr h2
       rw [rlt i b5s] at h2;exact .inl (.inr ⟨i,by omega,h2⟩)
     · have far:∀ b,bg (c.own id') = some b -> ¬ c.blk q b:=fun b h2 h3=>hne (h.inj id' q _ _ b ho' ho (hcb b h2) h3)
       by_cases hin:i = n
       · subst hin
         rw [rn] at hb;refine ⟨fun h2=>far b hb ((hnk.blks b).2 (.inl h2)),fun i' hi' h2=>?_⟩;by_cases hin':i' = i
         · exact hin'
         rw [rlt i' b5s] at h2;exact (far b hb ((hnk.blks b).2 (.inr ⟨i',by omega,h2⟩))).elim
       rw [rlt i b5s] at hb;obtain ⟨h2,h3⟩:=hnk.apart i b b5s hb;refine ⟨h2,fun i' hi' h4=>?_⟩;by_cases hin':i' = n
       · subst hin'
         rw [rn] at h4;exact (far b h4 ((hnk.blks b).2 (.inr ⟨i,by omega,hb⟩))).elim
       rw [rlt i' b5s] at h4;exact h3 i' b5s h4
     · by_cases hin:i = n
       · subst hin
         rw [rn,a6i,adv];exact hrow
       rw [rlt i b5s,xt hin,aak hin];exact hnk.row i b5s
     rcases hnk.top with ⟨h2,_⟩ | ⟨xs,t1,t2,t3⟩
     · simp [o0] at h2
     refine ⟨xs,t1,fun i hi=>?_,fun p hp=>by cases hp⟩;by_cases hin:i = n
     · subst hin
       obtain ⟨x,hx,hxr⟩:=t3 _ rfl;obtain ⟨_,_,hr3⟩:=hxr;rw [rn,hx,(hr3 _ _ _ _ ho' rfl).2 rfl]
     rw [rlt i b5s];exact t2 i b5s
   obtain ⟨h2,h3⟩:=hold q ob hq h1;exact (h.objs q ob h3).keep (Imm.le.refl c.imm) rfl (bid q h1) (fun j _=>hevo j) (fun b _=>rfl) (by show (if q = id then _ else _) = _;rw [if_neg h1])
 · by_cases h1:q = id
   · by_cases h2:q' = id
     · rw [h1,h2]
     obtain ⟨h3,h4⟩:=hold q' ob' hq' h2;rw [bid q' h2] at hb';subst h1
     rcases whose b hb with h5 | h5
     · exact h.inj q q' _ _ b ho h4 h5 hb'
     exact (h3 (h.inj q' id' _ _ b h4 ho' hb' h5)).elim
   obtain ⟨h3,h4⟩:=hold q ob hq h1;rw [bid q h1] at hb;by_cases h2:q' = id
   · subst h2
     rcases whose b hb' with h5 | h5
     · exact h.inj q q' _ _ b h4 ho hb h5
     exact (h3 (h.inj q id' _ _ b h4 ho' hb h5)).elim
   obtain ⟨h5,h6⟩:=hold q' ob' hq' h2;rw [bid q' h2] at hb';exact h.inj q q' _ _ b h4 h6 hb hb'
 · by_cases h1:q = id
   · subst h1
     rcases whose b hb with h5 | h5
     · exact h.sep q _ b ho h5
     exact h.sep id' _ b ho' h5
   rw [bid q h1] at hb;exact h.sep q ob b (hold q ob hq h1).2 hb
 by_cases h1:q = id
 · subst h1
   rcases whose b hb with h5 | h5
   · exact h.fsep q _ b ho h5
   exact h.fsep id' _ b ho' h5
 rw [bid q h1] at hb;exact h.fsep q ob b (hold q ob hq h1).2 hb
def xc (es:Nat) (m:Nat -> Nat) (g:Nat -> Nat -> Nat -> PV):Nat -> Nat -> PV:=fun i _=>.sl (m i) es false (g i)
end
open Classical in
noncomputable def thinImm (c:Ctx) (w:World) (id n:Nat):Imm:=fun b=>if ∃ i,i < n /\ bg (c.rows id i) = some b then w.heap[b]? else c.imm b
def aa.thin (h:aa w0 nt c s a w) {id n:Nat} {e et:TypeId} {es:Nat} {m:Nat -> Nat} {g:Nat -> Nat -> Nat -> PV} (ho:s.o id = some (.nest e et es n m g none)) :
 ∃ c',c'.old = c.old /\ aa w0 nt c' (s.setO id (some (.arr true 1 e n (xc es m g)))) a w:=by
 have hnk:jc 0 c s.o w id e et es n m g none:=h.objs id _ ho;have hin:∀ b,(∃ i,i < n /\ bg (c.rows id i) = some b) -> c.blk id b:=fun b hb=>(hnk.blks b).2 (.inr hb)
 have hle:Imm.le c.imm (thinImm c w id n):=fun b ob hb=>by
  unfold thinImm;by_cases hk:∃ i,i < n /\ bg (c.rows id i) = some b
  · rw [h.sep id _ b ho (hin b hk)] at hb;cases hb
  rw [if_neg hk];exact hb
 let ob':a6:=.arr true 1 e n (xc es m g)
 let bk:Nat -> Prop:=fun b=>bg (c.own id) = some b
 let c':Ctx:={ old:=c.old,imm:=thinImm c w id n,tab:=c.tab.mono hle,own:=c.own,blk:=fun q=>if q = id then bk else c.blk q,rows:=c.rows }
 have oid:(s.setO id (some ob')).o id = some ob':=by show (if id = id then _ else _) = _;rw [if_pos rfl]
 have oelse:∀ q,q ≠ id -> (s.setO id (some ob')).o q = s.o q:=fun q hq=>by show (if q = id then _ else _) = _;rw [if_neg hq]
 have hevo:∀ q,Evo c s.o c' (s.setO id (some ob')).o q:=fun q=>by
  by_cases h1:q = id
  · subst h1
    exact .inr (.inr ⟨_, .arr true 1 e n (xc es m g),1,e,n,n,ho,rfl,oid,rfl,b2v _,fun _=>rfl,fun _ _ _ _ _ _ _ hb=>by cases hb⟩)
  exact Evo.of_same (oelse q h1) rfl rfl
 have bid:∀ q,q ≠ id -> c'.blk q = c.blk q:=fun q hq=>by show (if q = id then _ else _) = _;rw [if_neg hq]
 have bself:c'.blk id = bk:=by show (if id = id then _ else _) = _;rw [if_pos rfl]
 have whose:∀ b,c'.blk id b -> c.blk id b:=fun b hb=>by
  rw [bself] at hb;exact (hnk.blks b).2 (.inl hb)
 have hrowP:∀ i,i < n -> af (thinImm c w id n) (.sl (m i) es false (g i)) (c.rows id i):=fun i hi=>by
  obtain ⟨ad,cap,q1,q2,q3⟩:=a7d (h.objs id _ ho) hi;refine ⟨ad,cap,q1,q2,q3,(fun hh=>by cases hh),fun hm=>?_⟩;obtain ⟨b,cap',ys,r1,r2,_,r3⟩:=a21 (h.objs id _ ho) hi hm;rw [q1] at r1;simp only [Value.slice.injEq,true_and] at r1;obtain ⟨rfl,rfl⟩:=r1;refine ⟨b,0,rfl,fun r j hr hj=>?_⟩;obtain ⟨x,_,hx,hxr⟩:=r3 r j hr hj;refine ⟨x, ?_,af.mono hle hxr⟩;rw [b3d];unfold f7 thinImm;rw [if_pos ⟨i,hi,r2⟩];unfold World.cell? at hx;dsimp only at hx;split at hx
  · rename_i cs e0 fr hb'
    rw [hb'];simpa using hx
  cases hx
 refine ⟨c',rfl,⟨h.defers.keep (fun _ _=>rfl) (fun D hD hd=>?_),h.size,h.below,fun d x hx=>(h.tmps d x hx).evo hle fun q _=>hevo q,fun q ob hq=>?_,fun q q' ob ob2 b hq hq' hb hb'=>?_,fun b ob hb=>?_,fun q ob b hq hb=>?_,fun b hb=>?_,h.frm,fun q ob b hq hb=>?_,fun q hq=>(h.fixed q hq).trans (hevo q)⟩⟩
 · show thinImm c w id n D = none
   unfold thinImm
   rw [if_neg fun hk=>by
    obtain ⟨x1,hc,hdt⟩:=(h.objs id _ ho).data (hin D hk);rw [hd] at hc;cases hc
    cases hdt]
   exact hD
 · by_cases h1:q = id
   · subst h1
     rw [oid] at hq;cases hq;refine ⟨Nat.one_pos,hnk.len, ?_⟩
     have hplain:n = 0 /\ (∃ ad,c.own q = .slice ad 0 0) -> (c'.blk q = fc (c.own q) /\ ∃ xs,w.ownsRow 0 e 1 (c.own q) n xs /\ ∀ i j,i < n -> j < 1 -> ∃ x,xs[i * 1 + j]? = some x /\ af c'.imm (xc es m g i j) x) \/
      ((true = false \/ n = 0) /\ c'.blk q = noB /\ af c'.imm (.sl n 1 true (xc es m g)) (c.own q)):=by
      rintro ⟨rfl,ad,hv⟩;refine .inr ⟨.inr rfl, ?_, ?_⟩
      · rw [bself]
        funext b;show (bg (c.own q) = some b) = False;rw [hv];cases ad <;> simp [bg]
      rw [hv];exact ⟨ad,0,rfl,b2v _,b2w _,fun _=>rfl,fun hh=>absurd hh (Nat.lt_irrefl 0)⟩
     rcases hnk.top with ⟨h2,h3⟩ | ⟨xs,t1,t2,_⟩
     · exact hplain ⟨h2,h3⟩
     have t1:w.ownsRow 0 e 1 (c.own q) n xs:=t1
     rcases fp t1 with r0 | ⟨b,cap,rv,rb⟩
     · exact hplain r0
     refine .inl ⟨?_,xs,t1,fun i j hi hj=>?_⟩
     · rw [bself]
       funext b';show (bg (c.own q) = some b') = (bq (c.own q) = some b');rw [rb,rv];rfl
     obtain rfl:j = 0:=by omega
     exact ⟨_,by simpa using t2 i hi,hrowP i hi⟩
   rw [oelse q h1] at hq;exact (h.objs q ob hq).keep hle rfl (bid q h1) (fun j _=>hevo j) (fun b _=>rfl) rfl
 · by_cases h1:q = id
   · by_cases h2:q' = id
     · rw [h1,h2]
     rw [oelse q' h2] at hq';rw [bid q' h2] at hb';subst h1;exact h.inj q q' _ _ b ho hq' (whose b hb) hb'
   rw [oelse q h1] at hq;rw [bid q h1] at hb;by_cases h2:q' = id
   · subst h2
     exact h.inj q q' _ _ b hq ho hb (whose b hb')
   rw [oelse q' h2] at hq';rw [bid q' h2] at hb';exact h.inj q q' _ _ b hq hq' hb hb'
 · have hb:thinImm c w id n b = some ob:=hb
   unfold thinImm at hb;split at hb
   · exact hb
   exact h.imm b ob hb
 · show thinImm c w id n b = none
   unfold thinImm;by_cases h1:q = id
   · subst h1
     rw [bself] at hb;rw [if_neg fun ⟨i,hi,hk⟩=>(hnk.apart i b hi hk).1 hb];exact h.sep q _ b ho ((hnk.blks b).2 (.inl hb))
   rw [oelse q h1] at hq;rw [bid q h1] at hb;rw [if_neg fun hk=>h1 (h.inj q id _ _ b hq ho hb (hin b hk))];exact h.sep q ob b hq hb
 · show thinImm c w id n b = c.old.1 b
   unfold thinImm;rw [if_neg fun hk=>hb (h.fsep id _ b ho (hin b hk))];exact h.was b hb
 by_cases h1:q = id
 · subst h1
   exact h.fsep q _ b ho (whose b hb)
 rw [oelse q h1] at hq;rw [bid q h1] at hb;exact h.fsep q ob b hq hb
end
section
variable {ro:Option Nat} {P:Program} {nt:Nat} {st:HSt} {Q:Exit -> HSt -> Prop}
section
variable {g:Nat -> Nat -> Nat -> PV}
def ajr {c:Code} (id id':Nat) {k n:Nat} {e et:TypeId} {es:Nat} {m:Nat -> Nat} {f:Nat -> Nat -> PV} (ho:b6 st.o id = some (.nest e et es n m g (some (id',k)))) (ho':b6 st.o id' = some (.arr true es et k f)) (h:HW (ro:=ro) P nt c ⟨st.t,(id',none) :: (id,some (.nest e et es (n + 1) (ny m n k) (pi g n f) none)) :: st.o⟩ Q):HW (ro:=ro) P nt c st Q:=fun w0 m0 a w hr=>by
 obtain ⟨cc,hold,hrr⟩:=hr;obtain ⟨c',h1,h2⟩:=hrr.absorb ho ho';refine h w0 m0 a w ⟨c',h1.trans hold, ?_⟩;have e1:=su ⟨st.t,(id,some (.nest e et es (n + 1) (ny m n k) (pi g n f) none)) :: st.o⟩ id';rw [oq] at e1;rw [e1];exact h2
def apq {c:Code} (id:Nat) {n:Nat} {e et:TypeId} {es:Nat} {m:Nat -> Nat} (ho:b6 st.o id = some (.nest e et es n m g none)) (h:HW (ro:=ro) P nt c ⟨st.t,(id,some (.arr true 1 e n (xc es m g))) :: st.o⟩ Q):HW (ro:=ro) P nt c st Q:=fun w0 m0 a w hr=>by
 obtain ⟨cc,hold,hrr⟩:=hr;obtain ⟨c',h1,h2⟩:=hrr.thin ho;refine h w0 m0 a w ⟨c',h1.trans hold, ?_⟩;rw [oq];exact h2
end
end
section
variable {f':Nat -> Nat -> PV}
def a3f {nt:Nat} {st:HSt} {w0:World} {m0:Old} {a:Act} {w:World} (bx off id:Nat) {s':Nat} {l:List HV} (e et:TypeId) (es:Nat) (m:Nat -> Nat) (g:Nat -> Nat -> Nat -> PV) (hs:0 < es) (hb:b6 st.o bx = some (.box l)) (hl:l[off]? = some (.p (.sl 0 s' true f'))) (hn:pg id st = true) (hne:Nat.beq bx id = false) (hr:Rel w0 m0 nt st.den a w):Rel w0 m0 nt (HSt.den ⟨st.t,(bx,some (.box (ao l off [.ref id 0]))) :: (id,some (.nest e et es 0 m g none)) :: st.o⟩) a w:=by
 obtain ⟨hnm,hno⟩:=ky hn;obtain ⟨cc,hold,hrr⟩:=hr;have hbi:bx ≠ id:=by rintro rfl;simp at hne
 obtain ⟨b0,C0,e0,p1,p2,p3,p4,p5⟩:=hrr.objs bx _ hb;obtain ⟨u,hu,hur⟩:=p5.get off _ hl;have hx:af cc.imm (.sl 0 s' true f') u:=hur;have hfresh:=hrr.fresh id hnm hno (.nest e et es 0 m g none) w u noB (Grw.refl w none) (fun b hb=>hb.elim) (agh hs b5v (by simpa using a3x hx));rw [<- oq] at hfresh
 have hb':(HSt.den ⟨st.t,(id,some (.nest e et es 0 m g none)) :: st.o⟩).o bx = some (.box l):=by
  simp only [HSt.den,ax,hbi,if_false];exact hb
 have hevo:∀ (c1:Ctx),c1.own = (fun k=>if k = id then u else cc.own k) -> Evo { old:=cc.old,imm:=cc.imm,tab:=cc.tab,own:=fun k=>if k = id then u else cc.own k,blk:=fun k=>if k = id then noB else cc.blk k,rows:=cc.rows } (HSt.den ⟨st.t,(id,some (.nest e et es 0 m g none)) :: st.o⟩).o c1 ((HSt.den ⟨st.t,(id,some (.nest e et es 0 m g none)) :: st.o⟩).setO bx (some (.box (ao l off [.ref id 0])))).o bx:=fun c1 h1 =>
  .inr (.inl ⟨l,ao l off [.ref id 0],hb',by simp [S.setO],by rw [h1]⟩)
 have hown:(fun k=>if k = bx then (fun k=>if k = id then u else cc.own k) bx else (fun k=>if k = id then u else cc.own k) k) = fun k=>if k = id then u else cc.own k:=by
  funext k;by_cases hk:k = bx
  · subst hk;simp
  simp [hk]
 have hw:=hfresh.write bx (.box l) hb' (.box (ao l off [.ref id 0])) w ((fun k=>if k = id then u else cc.own k) bx) ((fun k=>if k = id then noB else cc.blk k) bx) none (Grw.refl w _) (fun _ e=>by cases e) (hevo _ (by exact hown)) (fun b hb=>.inl hb) (by
  refine ⟨b0,C0,e0,by simpa [hbi] using p1,by simpa [hbi] using p2,p3,p4, ?_⟩;have hoff:off < l.length:=(b49.1 hl).1;have hcl:=p5.length;refine ap.of_get ?_ fun k x u' hx' hu'=>?_
  · simp only [ao,b36,b33,b4v,b4b];omega
  have hx2:=hx';unfold ao at hx2;rw [br l [HV.ref id 0] off k b66] at hx2;by_cases hk:k = off
  · subst hk
    simp at hx2;subst hx2;rw [hu] at hu';simp only [b2p] at hu';subst hu';refine ⟨af.oneCell hx,fun l2=>by simp [S.setO,HSt.den,ax,Ne.symm hbi],fun ob1 s1 e1 n1 ho hd1=>?_⟩;simp only [S.setO,HSt.den,ax,Ne.symm hbi,if_false,if_true,b2p] at ho;subst ho;simp only [a6.dim,b2p,b2s] at hd1;obtain ⟨rfl,rfl,rfl⟩:=hd1;exact ⟨b2v _,fun _=>by simp [Ne.symm hbi]⟩
  rw [if_neg b66] at hx2;obtain ⟨u2,hu2,hr2⟩:=p5.get k x hx2;rw [hu'] at hu2;simp only [b2p] at hu2;subst hu2;refine ay.evo (c:=cc) (o:=st.den.o) (Imm.le.refl cc.imm) (fun j hj=>?_) hr2
  have hji:j ≠ id:=by
   rintro rfl;exact hnm.2.1 bx _ hb ⟨x,List.mem_of_getElem? hx2,hj⟩
  by_cases hjb:j = bx
  · subst hjb;exact .inr (.inl ⟨l,ao l off [.ref id 0],hb,by simp [S.setO],by simp [hji]⟩)
  exact Evo.of_same (by simp [S.setO,hjb,HSt.den,ax,hji]) (by simp [hjb,hji]))
 have e:HSt.den ⟨st.t,(bx,some (.box (ao l off [.ref id 0]))) :: (id,some (.nest e et es 0 m g none)) :: st.o⟩ = (HSt.den ⟨st.t,(id,some (.nest e et es 0 m g none)) :: st.o⟩).setO bx (some (.box (ao l off [.ref id 0]))):=by
  unfold HSt.den S.setO;simp only [S.mk.injEq,true_and];funext k;simp only [ax]
 rw [e];exact ⟨_,(by exact hold),hw⟩
def a5s {ro:Option Nat} {P:Program} {nt:Nat} {st:HSt} {Q:Exit -> HSt -> Prop} {c:Code} (bx off id:Nat) {s':Nat} {l:List HV} (e et:TypeId) (es:Nat) (m:Nat -> Nat) (g:Nat -> Nat -> Nat -> PV) (hs:0 < es) (hb:b6 st.o bx = some (.box l)) (hl:l[off]? = some (.p (.sl 0 s' true f'))) (hn:pg id st = true) (hne:Nat.beq bx id = false) (h:HW (ro:=ro) P nt c ⟨st.t,(bx,some (.box (ao l off [.ref id 0]))) :: (id,some (.nest e et es 0 m g none)) :: st.o⟩ Q):HW (ro:=ro) P nt c st Q:=fun w0 m0 a w hr=>h w0 m0 a w (a3f bx off id e et es m g hs hb hl hn hne hr)
end
end
section
abbrev Rw:=List Int
def ltZ:Rw -> Rw -> Bool
 | [],[]=>false
 | [],_ :: _=>true
 | _ :: _,[]=>false
 | x :: a,y :: b=>if x = y then ltZ a b else decide (x < y)
def p8:∀ a:Rw,ltZ a a = false
 | []=>rfl
 | x :: a=>by unfold ltZ;rw [if_pos rfl];exact p8 a
def jh:∀ {a b c:Rw},ltZ a b = true -> ltZ b c = true -> ltZ a c = true
 | [],[],_,h,_=>by cases h
 | [],_ :: _,[],_,k=>by cases k
 | [],_ :: _,_ :: _,_,_=>rfl
 | _ :: _,[],_,h,_=>by cases h
 | _ :: _,_ :: _,[],_,k=>by cases k
 | x :: a,y :: b,z :: c,h,k=>by
  unfold ltZ at *;by_cases hxy:x = y
  · rw [if_pos hxy] at h
    subst hxy;by_cases hyz:x = z
    · rw [if_pos hyz] at k ⊢
      exact jh h k
    rw [if_neg hyz] at k ⊢;exact k
  rw [if_neg hxy] at h;have h:=of_decide_eq_true h;by_cases hyz:y = z
  · subst hyz
    rw [if_neg hxy];exact decide_eq_true h
  rw [if_neg hyz] at k;have k:=of_decide_eq_true k;rw [if_neg b5s];exact decide_eq_true b5s
def vu:∀ {a b:Rw},a ≠ b -> ltZ a b = true \/ ltZ b a = true
 | [],[],h=>absurd rfl h
 | [],_ :: _,_=>.inl rfl
 | _ :: _,[],_=>.inr rfl
 | x :: a,y :: b,h=>by
  unfold ltZ;by_cases hxy:x = y
  · subst hxy
    rw [if_pos rfl,if_pos rfl];exact vu fun e=>h (by rw [e])
  rw [if_neg hxy,if_neg (Ne.symm hxy),decide_eq_true_iff,decide_eq_true_iff];omega
def zC:Int -> Nat -> PV:=fun z _=>.raw (.int .i64 z)
abbrev zl (r:Rw):PV:=psl 1 zC r
def rC:Rw -> Nat -> PV:=fun r _=>zl r
abbrev rl (l:List Rw):PV:=psl 1 rC l
def amu {a b:Rw} (h:ltZ a b = true):ltZ b a = false:=by
 rw [b38];intro k;have:=jh h k;rw [p8] at this;cases this
def lz (l:List Rw):Prop:=l.Pairwise fun a b=>ltZ a b = true
def a1u:∀ {l k:List Rw},lz l -> lz k -> (∀ x,x ∈ l <-> x ∈ k) -> l = k
 | [],[],_,_,_=>rfl
 | [],y :: k,_,_,h=>absurd ((h y).2 (b45 ..)) b5v
 | x :: l,[],_,_,h=>absurd ((h x).1 (b45 ..)) b5v
 | x :: l,y :: k,hl,hk,h=>by
  obtain ⟨h1,h2⟩:=b3q.1 hl;obtain ⟨k1,k2⟩:=b3q.1 hk
  have e:x = y:=by
   rcases b2z.1 ((h x).1 (b45 ..)) with e | hx
   · exact e
   rcases b2z.1 ((h y).2 (b45 ..)) with e | hy
   · exact e.symm
   have:=amu (k1 x hx);rw [h1 y hy] at this;cases this
  subst e;congr 1;refine a1u h2 k2 fun z=>?_;constructor
  · intro hz
    rcases b2z.1 ((h z).1 (b3h _ hz)) with e | hz'
    · subst e
      have:=h1 z hz;rw [p8] at this;cases this
    exact hz'
  intro hz
  rcases b2z.1 ((h z).2 (b3h _ hz)) with e | hz'
  · subst e
    have:=k1 z hz;rw [p8] at this;cases this
  exact hz'
def gw (x:Rw):List Rw -> List Rw
 | []=>[x]
 | y :: l=>if x = y then y :: l else if ltZ x y = true then x :: y :: l else y :: gw x l
def a2q {x z:Rw}:∀ {l:List Rw},z ∈ gw x l <-> z = x \/ z ∈ l
 | []=>by simp [gw]
 | y :: l=>by
  unfold gw;split
  · rename_i e
    subst e;simp
  split
  · simp
  rw [b2z,a2q,b2z];constructor
  · rintro (h | h | h) <;> simp [h]
  rintro (h | h | h) <;> simp [h]
def a81 {x:Rw}:∀ {l:List Rw},lz l -> lz (gw x l)
 | [],_=>by simp [gw,lz]
 | y :: l,h=>by
  obtain ⟨h1,h2⟩:=b3q.1 h;unfold gw;split
  · exact h
  split
  · rename_i hxy
    refine b3q.2 ⟨fun z hz=>?_,h⟩
    rcases b2z.1 hz with rfl | hz
    · exact hxy
    exact jh hxy (h1 z hz)
  rename_i hne hxy;refine b3q.2 ⟨fun z hz=>?_,a81 h2⟩
  rcases a2q.1 hz with rfl | hz
  · exact (vu hne).resolve_left hxy
  exact h1 z hz
def aw (l:List Rw):List Rw:=l.foldl (fun o x=>gw x o) []
def zo:∀ {l o:List Rw},lz o -> lz (l.foldl (fun o x=>gw x o) o) /\ ∀ z,z ∈ l.foldl (fun o x=>gw x o) o <-> z ∈ o \/ z ∈ l
 | [],o,h=>⟨h,fun z=>by simp⟩
 | x :: l,o,h=>by
  obtain ⟨h1,h2⟩:=zo (l:=l) (a81 (x:=x) h);refine ⟨h1,fun z=>?_⟩;show z ∈ l.foldl (fun o x=>gw x o) (gw x o) <-> _;rw [h2 z,a2q,b2z];constructor
  · rintro ((h | h) | h) <;> simp [h]
  rintro (h | h | h) <;> simp [h]
def o6 (l:List Rw):lz (aw l):=(zo (o:=[]) List.Pairwise.nil).1
def dt {l:List Rw} {z:Rw}:z ∈ aw l <-> z ∈ l:=by
 show z ∈ l.foldl (fun o x=>gw x o) [] <-> _;rw [(zo (l:=l) (o:=[]) List.Pairwise.nil).2 z];simp
def abx {l k:List Rw} (hk:lz k) (h:∀ z,z ∈ k <-> z ∈ l):k = aw l:=a1u hk (o6 l) fun z=>by rw [h z,dt]
def b1y (l:List Rw) (k:Nat) (r:Rw):List Rw:=l.take k ++ r :: l.drop k
def abb (x:Rw):∀ l:List Rw,(gw x l).length <= l.length + 1
 | []=>by simp [gw]
 | y :: l=>by
  unfold gw;have:=abb x l;split
  · simp
  split
  · simp
  simp only [b41];omega
def a7m (l:List Rw):(aw l).length <= l.length:=by
 have:∀ (l o:List Rw),(l.foldl (fun o x=>gw x o) o).length <= o.length + l.length:=by
  intro l
  induction l with
  | nil=>intro o;simp
  | cons x l ih =>
   intro o;have h1:=ih (gw x o);have h2:=abb x o;simp only [List.foldl_cons,b41];omega
 have h:=this l [];simpa [aw] using h
end
section
abbrev pZ (r:Rw):PC:=.one (zl r)
abbrev pR (l:List Rw):PC:=.one (rl l)
abbrev pT (n:Int) (l:List Rw):PC:=.agg [.raw (.int .i64 n),rl l]
def ahz:∀ {a b:Rw} {i:Nat},i < a.length -> i < b.length -> (∀ j,j < i -> a.getD j default = b.getD j default) -> ¬ a.getD i default = b.getD i default -> ltZ a b = decide (a.getD i default < b.getD i default)
 | [],_,_,h,_,_,_=>by simp at h
 | _ :: _,[],_,_,h,_,_=>by simp at h
 | x :: a,y :: b,0,_,_,_,hn=>by
  have:¬ x = y:=hn;unfold ltZ;rw [if_neg this];rfl
 | x :: a,y :: b,i + 1,ha,hb,h,hn=>by
  have e:x = y:=h 0 b5s;unfold ltZ;rw [if_pos e];exact ahz (by simpa using ha) (by simpa using hb) (fun j hj=>h (j + 1) b5s) hn
def a67:∀ {a b:Rw},(∀ j,j < a.length -> j < b.length -> a.getD j default = b.getD j default) -> ltZ a b = decide (a.length < b.length)
 | [],[],_=>rfl
 | [],_ :: _,_=>by simp [ltZ]
 | _ :: _,[],_=>by simp [ltZ]
 | x :: a,y :: b,h=>by
  have e:x = y:=h 0 b5v b5v;unfold ltZ;rw [if_pos e,a67 fun j h1 h2=>h (j + 1) (by simpa using h1) (by simpa using h2)];simp
def lq (a b:Rw):Int:=if a = b then 0 else if ltZ a b = true then -1 else 1
section
variable {a b:Rw} {i:Nat}
def asd (ha:i < a.length) (hb:i < b.length) (h:∀ j,j < i -> a.getD j default = b.getD j default) (hn:¬ fz (a.getD i default) (b.getD i default) = 0):fz (a.getD i default) (b.getD i default) = lq a b:=by
 have hne:¬ a.getD i default = b.getD i default:=fun e=>hn (by unfold fz;rw [if_neg b5s,if_neg b5s]);unfold fz lq;rw [if_neg (fun e:a = b=>hne (by rw [e])),ahz ha hb h hne];simp only [decide_eq_true_eq];split
 · rfl
 rw [if_pos b5s]
def aur {a b:Int} (h:fz a b = 0):a = b:=by
 unfold fz at h;split at h
 · omega
 split at h <;> omega
def aqf (ha:i < a.length) (hb:¬ i < b.length) (h:∀ j,j < i -> a.getD j default = b.getD j default):(1:Int) = lq a b:=by
 unfold lq;rw [if_neg (fun e:a = b=>by subst e;omega),a67 fun j h1 h2=>h j b5s,if_neg (by simp only [decide_eq_true_eq];omega)]
def asb (hl:a.length < b.length) (h:∀ j,j < a.length -> a.getD j default = b.getD j default):(-1:Int) = lq a b:=by
 unfold lq;rw [if_neg (fun e:a = b=>by subst e;omega),a67 fun j h1 h2=>h j h1,if_pos (by simp only [decide_eq_true_eq];omega)]
def aps (hl:a.length <= b.length) (hl2:¬ a.length < b.length) (h:∀ j,j < a.length -> a.getD j default = b.getD j default):(0:Int) = lq a b:=by
 unfold lq;rw [if_pos (k6 b5s h)]
def ayd (h:a.length = b.length) (hI:∀ j,j < a.length -> decide (a.getD j default = b.getD j default) = true):a = b:=k6 h fun j hj=>of_decide_eq_true (hI j hj)
def aw4 {a b:Nat} (h:∀ j,j < a -> j < b):a <= b:=Nat.le_of_not_lt fun e=>Nat.lt_irrefl _ (h b e)
def jj (a b:Rw) (s:AS):Bool:=decide (∀ i:Nat,i < a.length -> (bm s (i:Int) = true -> a.getD i default = b.getD i default))
def aug {s:AS} (hi:i < a.length) (h:bm s (i:Int) = true) (hn:¬ a.getD i default = b.getD i default):jj a b s = false:=decide_eq_false fun e=>hn (e i hi h)
def yw {s:AS} (h:∀ i:Nat,i < a.length -> (bm s (i:Int) = true -> a.getD i default = b.getD i default)):jj a b s = true:=decide_eq_true h
def lc {s:AS} (h:i < 32):gt .and .u32 ((asI s).fdiv (2 ^ (min i 32))) 1 = 1 <-> bm s (i:Int) = true:=by
 rw [<- a8h (s:=s) (i:=(i:Int)) b5s b5s,decide_eq_true_iff];rfl
def kz (n:Int) (l:List Rw) (i:Nat):Bool:=decide (((l.getD i default).length:Int) = n) && !(l.getD i default).any (fun x=>decide (x < 0)) && (decide (i = 0) || ltZ (l.getD (i - 1) default) (l.getD i default))
def tok (n:Int) (l:List Rw):Bool:=decide (0 <= n /\ n <= 16 /\ l.length <= 256) && decide (∀ i,i < l.length -> kz n l i = true)
def aoe {n:Int} {l:List Rw} (h0:0 <= n) (h1:n <= 16) (h2:l.length <= 256) (h:∀ i,i < l.length -> kz n l i = true):tok n l = true:=by
 unfold tok;rw [decide_eq_true (show 0 <= n /\ n <= 16 /\ l.length <= 256 from ⟨h0,h1,h2⟩),decide_eq_true h];rfl
def a9b {n:Int} {l:List Rw} (h:¬ (0 <= n /\ n <= 16 /\ l.length <= 256)):tok n l = false:=by
 unfold tok;rw [decide_eq_false h];rfl
def ago {n:Int} {l:List Rw} (hi:i < l.length) (h:kz n l i = false):tok n l = false:=by
 unfold tok;rw [decide_eq_false (fun e:∀ i,i < l.length -> kz n l i = true=>by rw [e i hi] at h;cases h),Bool.and_false]
def d7 (a b:Rw) (s:AS):Rw:=(List.range b.length).map fun (i:Nat)=>if bm s (i:Int) = true then a.getD i default else b.getD i default
end
end
section
open Go.Proofs
def azm (l:List Int) (g k:Nat) (caps:Nat -> PV) (V:Int -> Bool) (hg:goodFn b6g g) (hV:∀ x,a8 b6g g (pI x :: mi caps k 0) (ab [pB (V x)])):a8 b6g 174 [pP (zl l),pP (.fn g k caps)] (ab [pI (idx V l)]):=by
 refine hpx (nt:=19) Tryz.func174 ?_;refine dc ?_;refine ci 0 rfl fun hn=>?_;refine w_3 ?_;refine c6 (ι:=Unit) kn km (fun _i=>⟨[],[]⟩) (fun _i=>idx V l = -1) ?_ ?_
 ·
  refine w_7 ?_;refine ah (ι:=Nat) (ka 0 (ka 1 (ka 7 kn))) km (fun i=>⟨[(8,some (vI i))],[]⟩) (fun i=>i <= l.length /\ (∀ j,j < i -> V (l.getD j default) = false)) (fun i=>l.length - i) (0) (⟨b2w _,b7⟩) kk ?_;rintro i ⟨hi,hI⟩;refine w_5 ?_;refine hcd (fun h0=>?_) (fun h0=>?_)
  ·
   refine qk ?_;refine rc rfl rfl rfl rfl rfl rfl hg (hV (l.getD i default)) (CoL.refl _) rfl rfl ?_;refine da ?_;refine hcb (fun h1=>?_) (fun h1=>?_)
   · refine v_5 ?_;exact ⟨cci (a0l (i:=i) b5s hI h1).symm,trivial⟩
   refine w_5 ?_;refine lpz (i + 1) kk ?_;exact ⟨by show i + 1 <= _;omega,av hI (h1)⟩
  refine c4 ?_;refine ⟨(), ?_, ?_⟩
  · exact a0x fun j hj=>hI j b5s
  exact ⟨trivial,trivial⟩
 rintro _ hj;refine v_4 ?_;exact ⟨cci hj.symm,trivial⟩
def ayr (l:List Rw) (g k:Nat) (caps:Nat -> PV) (V:Rw -> Bool) (hg:goodFn b6g g) (hV:∀ x,a8 b6g g (pZ x :: mi caps k 0) (ab [pB (V x)])):a8 b6g 127 [pP (rl l),pP (.fn g k caps)] (ab [pI (idx V l)]):=by
 refine hpx (nt:=19) Tryz.func127 ?_;refine dc ?_;refine ci 0 rfl fun hn=>?_;refine w_3 ?_;refine c6 (ι:=Unit) kn km (fun _i=>⟨[],[]⟩) (fun _i=>idx V l = -1) ?_ ?_
 ·
  refine w_7 ?_;refine ah (ι:=Nat) (ka 0 (ka 1 (ka 7 kn))) km (fun i=>⟨[(8,some (vI i))],[]⟩) (fun i=>i <= l.length /\ (∀ j,j < i -> V (l.getD j default) = false)) (fun i=>l.length - i) (0) (⟨b2w _,b7⟩) kk ?_;rintro i ⟨hi,hI⟩;refine w_5 ?_;refine hcd (fun h0=>?_) (fun h0=>?_)
  ·
   refine qk ?_;refine rc rfl rfl rfl rfl rfl rfl hg (hV (l.getD i default)) (CoL.refl _) rfl rfl ?_;refine da ?_;refine hcb (fun h1=>?_) (fun h1=>?_)
   · refine v_5 ?_;exact ⟨cci (a0l (i:=i) b5s hI h1).symm,trivial⟩
   refine w_5 ?_;refine lpz (i + 1) kk ?_;exact ⟨by show i + 1 <= _;omega,av hI (h1)⟩
  refine c4 ?_;refine ⟨(), ?_, ?_⟩
  · exact a0x fun j hj=>hI j b5s
  exact ⟨trivial,trivial⟩
 rintro _ hj;refine v_4 ?_;exact ⟨cci hj.symm,trivial⟩
def azx (l:List Int) (g k:Nat) (caps:Nat -> PV) (V:Int -> Bool) (hg:goodFn b6g g) (hV:∀ x,a8 b6g g (pI x :: mi caps k 0) (ab [pB (V x)])):a8 b6g 162 [pP (zl l),pP (.fn g k caps)] (ab [pB (l.any V)]):=by
 refine hpx (nt:=9) Tryz.func162 ?_;refine w_8 ?_;refine qcx (wgx Tryz.func174) (azm l g k caps V hg hV) ?_;refine v_3 ?_;exact ⟨ccb ajv,trivial⟩
def ayt (l:List Rw) (g k:Nat) (caps:Nat -> PV) (V:Rw -> Bool) (hg:goodFn b6g g) (hV:∀ x,a8 b6g g (pZ x :: mi caps k 0) (ab [pB (V x)])):a8 b6g 87 [pP (rl l),pP (.fn g k caps)] (ab [pB (l.any V)]):=by
 refine hpx (nt:=9) Tryz.func87 ?_;refine w_8 ?_;refine qcx (wgx Tryz.func127) (ayr l g k caps V hg hV) ?_;refine v_3 ?_;exact ⟨ccb ajv,trivial⟩
def ach:goodFn b6g 89:=wgx Tryz.func89
def amn (a b:Rw):a8 b6g 89 [pZ a,pZ b] (ab [pB (decide (a = b))]):=by
 refine hpx (nt:=26) Tryz.func89 ?_;refine dc ?_;refine ci 0 rfl fun hn0=>?_;refine ci 1 rfl fun hn1=>?_;refine sv ?_;refine hcn (fun h0=>?_) (fun h0=>?_)
 · refine v_4 ?_;exact ⟨ccb (decide_eq_false fun e=>by subst e;omega).symm,trivial⟩
 refine f4 ?_;refine c6 (ι:=Unit) kn km (fun _i=>⟨[],[]⟩) (fun _i=>a = b) ?_ ?_
 ·
  refine w_7 ?_;refine ah (ι:=Nat) (ka 0 (ka 1 (ka 12 kn))) km (fun i=>⟨[(13,some (vI i))],[]⟩) (fun i=>i <= a.length /\ (∀ j,j < i -> decide (a.getD j default = b.getD j default) = true)) (fun i=>a.length - i) (0) (⟨b2w _,b7⟩) kk ?_;rintro i ⟨hi,hI⟩;refine w_5 ?_;refine hcd (fun h1=>?_) (fun h1=>?_)
  ·
   refine anh ?_;refine hcn (fun h2=>?_) (fun h2=>?_)
   · refine v_4 ?_;exact ⟨ccb (decide_eq_false fun e=>by subst e;simp_all).symm,trivial⟩
   refine w_5 ?_;refine lpz (i + 1) kk ?_;exact ⟨by show i + 1 <= _;omega,av hI (decide_eq_true b62)⟩
  refine c4 ?_;refine ⟨(), ?_, ?_⟩
  · exact ayd b5s fun j hj=>hI j b5s
  exact ⟨trivial,trivial⟩
 rintro _ hj;refine v_4 ?_;exact ⟨ccb (decide_eq_true hj).symm,trivial⟩
def aox (a b:Rw):a8 b6g 136 [pZ a,pZ b] (ab [pI (lq a b)]):=by
 refine hpx (nt:=36) Tryz.func136 ?_;refine dc ?_;refine ci 0 rfl fun hn0=>?_;refine ci 1 rfl fun hn1=>?_;refine w_3 ?_;refine c6 (ι:=Unit) (ka 0 (ka 1 kn)) km (fun _i=>⟨[],[]⟩) (fun _i=>∀ j,j < a.length -> j < b.length /\ a.getD j default = b.getD j default) ?_ ?_
 ·
  refine w_7 ?_;refine ah (ι:=Nat) (ka 0 (ka 1 (ka 9 (ka 10 kn)))) km (fun i=>⟨[(11,some (vI i))],[]⟩) (fun i=>i <= a.length /\ (∀ j,j < i -> j < b.length /\ a.getD j default = b.getD j default)) (fun i=>a.length - i) (0) (⟨b2w _,b7⟩) kk ?_;rintro i ⟨hi,hI⟩;refine w_5 ?_;refine hcd (fun h0=>?_) (fun h0=>?_)
  ·
   refine yp ?_;refine hcd (fun h1=>?_) (fun h1=>?_)
   · refine v_4 ?_;exact ⟨cci (aqf (i:=i) b5s b5s fun j hj=>(hI j hj).2),trivial⟩
   refine ke ?_;refine qcx (wgx Tryz.func103) (aor (a.getD i default) (b.getD i default)) ?_;refine w_7 ?_;refine hcn (fun h2=>?_) (fun h2=>?_)
   · refine v_5 ?_;exact ⟨cci (asd (i:=i) b5s b5s (fun j hj=>(hI j hj).2) b5t),trivial⟩
   refine w_5 ?_;refine lpz (i + 1) kk ?_;exact ⟨by show i + 1 <= _;omega,av hI (⟨by omega,aur b5t⟩)⟩
  refine c4 ?_;refine ⟨(), ?_, ?_⟩
  · exact fun j hj=>hI j b5s
  exact kk
 rintro _ hj;refine w_9 ?_;refine hcd (fun h3=>?_) (fun h3=>?_)
 · refine v_4 ?_;exact ⟨cci (asb b5s fun j h=>(hj j h).2),trivial⟩
 refine v_5 ?_;exact ⟨cci (aps (aw4 fun j h=>(hj j h).1) b5s fun j h=>(hj j h).2),trivial⟩
end
section
open Go.Proofs
abbrev bxZ (a:PV):PV:=.vp 1 fun j=>[a].getD j .any
def auf (r row:Rw):a8 b6g 88 [pZ r,pP (bxZ (zl row))] (ab [pB (decide (r = row))]):=by
 refine hpx (nt:=7) Tryz.func88 ?_;refine w_8 ?_;refine qcx ach (amn _ _) ?_;refine v_2 ?_;exact CoL.refl _
def zq:goodFn b6g 46:=wgx Tryz.func46
def a4y (n:Int) (l:List Rw) (row:Rw):a8 b6g 46 [pT n l,pZ row] (ab [pB (l.any fun r=>decide (r = row))]):=by
 refine hpx (nt:=9) Tryz.func46 ?_;refine sx7 ?_;refine m9 0 ?_;refine m9 1 ?_;refine w_3 ?_;refine a8e 3 rfl rfl rfl ?_;refine w_4 ?_;refine qcx (wgx Tryz.func87) (ayt l 88 1 (fun i=>[bxZ (zl row)].getD i .any) (fun r=>decide (r = row)) (wgx Tryz.func88) (fun r=>auf r row)) ?_;refine v_2 ?_;exact CoL.refl _
def azg (x:Int):a8 b6g 163 [pI x] (ab [pB (decide (x < 0))]):=by
 refine hpx (nt:=5) Tryz.func163 ?_;refine dq ?_;exact hx8 rfl rfl rfl (CoL.refl _)
def vr:goodFn b6g 129:=wgx Tryz.func129
def a06 (a b:Rw) (s:AS) (h:b.length = a.length) (h16:a.length <= 16):a8 b6g 129 [pZ a,pZ b,pA s] (ab [pB (jj a b s)]):=by
 refine hpx (nt:=30) Tryz.func129 ?_;refine dc ?_;refine ci 0 rfl fun hn0=>?_;refine ci 1 rfl fun hn1=>?_;refine w_3 ?_;refine c6 (ι:=Unit) kn km (fun _i=>⟨[],[]⟩) (fun _i=>jj a b s = true) ?_ ?_
 ·
  refine w_7 ?_;refine ah (ι:=Nat) (ka 0 (ka 1 (ka 2 (ka 9 kn)))) km (fun i=>⟨[(10,some (vI i))],[]⟩) (fun i=>i <= a.length /\ (∀ j:Nat,j < i -> (bm s (j:Int) = true -> a.getD j default = b.getD j default))) (fun i=>a.length - i) (0) (⟨b2w _,b7⟩) kk ?_;rintro i ⟨hi,hI⟩;refine w_5 ?_;refine hcd (fun h0=>?_) (fun h0=>?_)
  ·
   refine tk ?_;refine ae rfl rfl (fun r1=>?_) (fun r1=>?_)
   ·
    have h1:=tz1 r1;(iterate 9 refine qy ?_ (hg:=(gtt r1)));refine w_3 ?_;refine am _ rfl (fun r2=>?_) (fun r2=>?_)
    · have h2:=tz2 (ez (bp r1 r2));refine v_4 ?_;exact ⟨ccb (aug (i:=i) b5s ((lc b5s).1 b5t) b5t).symm,trivial⟩
    have h2:=tz1 (f0 (bp r1 r2));refine w_5 ?_;refine lpz (i + 1) kk ?_;exact ⟨by show i + 1 <= _;omega,av hI (fun hh=>by first | (exact absurd ((lc b5s).2 hh) b5t) | assumption)⟩
   have h1:=tz2 r1;(iterate 9 refine k9 (gft r1) ?_);refine w_9 ?_;refine lpz (i + 1) kk ?_
   exact ⟨by show i + 1 <= _;omega,av hI (fun hh=>by first | (exact absurd ((lc b5s).2 hh) b5t) | assumption)⟩
  refine c4 ?_;refine ⟨(), ?_, ?_⟩
  · exact yw fun j hj=>hI j b5s
  exact ⟨trivial,trivial⟩
 rintro _ hj;refine v_4 ?_;exact ⟨ccb hj.symm,trivial⟩
end
section
def cg (n:Int) (l m:List Fd):Int:=if d6 n l = 0 then (if 64 < m.length then 3 else if m.all (inU n) = true then 0 else 1) else d6 n l
section
variable {n:Int} {l m:List Fd}
def awr (h:¬ d6 n l = 0):d6 n l = cg n l m:=by unfold cg;rw [if_neg h]
def au6 (h:d6 n l = 0) (h2:64 < m.length):3 = cg n l m:=by unfold cg;rw [if_pos h,if_pos h2]
def aup {i:Nat} (h:d6 n l = 0) (h2:¬ 64 < m.length) (hi:i < m.length) (hu:¬ inU n (m.getD i default) = true):1 = cg n l m:=by
 unfold cg;rw [if_pos h,if_neg h2,if_neg (fun e=>absurd (ue (l:=m) (p:=inU n) hi (b38.2 hu)) (by rw [e];decide))]
def ak2 (h:d6 n l = 0) (h2:¬ 64 < m.length) (hu:∀ j,j < m.length -> inU n (m.getD j default) = true):0 = cg n l m:=by
 unfold cg;rw [if_pos h,if_neg h2,if_pos (x8 hu)]
def a5b (h:cg n l m = 0):0 <= n /\ n <= 16 /\ l.length <= 64 /\ l.all (inU n) = true /\ m.length <= 64 /\ m.all (inU n) = true:=by
 unfold cg at h;by_cases h1:d6 n l = 0
 · rw [if_pos h1] at h
   obtain ⟨a,b,c,d⟩:=aee h1;by_cases h2:64 < m.length
   · rw [if_pos h2] at h;omega
   rw [if_neg h2] at h;by_cases h3:m.all (inU n) = true
   · exact ⟨a,b,c,d,by omega,h3⟩
   rw [if_neg h3] at h;omega
 rw [if_neg h1] at h;exact absurd h h1
end
section
variable {l:List Rw}
def a9k {n:Int} {i:Nat} (h1:((l.getD i default).length:Int) = n) (h2:(l.getD i default).any (fun x=>decide (x < 0)) = false) (h3:i = 0 \/ ltZ (l.getD (i - 1) default) (l.getD i default) = true):kz n l i = true:=by
 unfold kz;rw [decide_eq_true h1,h2]
 rcases h3 with h3 | h3
 · rw [decide_eq_true h3];rfl
 rw [h3];simp
def aeh {n:Int} {i:Nat} (h:¬ ((l.getD i default).length:Int) = n):kz n l i = false:=by unfold kz;rw [decide_eq_false h];rfl
def aev {n:Int} {i:Nat} (h:(l.getD i default).any (fun x=>decide (x < 0)) = true):kz n l i = false:=by unfold kz;rw [h];simp
def a58 {n:Int} {i:Nat} (h0:0 < i) (h:¬ ltZ (l.getD (i - 1) default) (l.getD i default) = true):kz n l i = false:=by
 unfold kz;rw [b38.2 h,decide_eq_false (by omega:¬ i = 0)];simp
def xm {a b:Rw}:lq a b < 0 <-> ltZ a b = true:=by
 unfold lq;by_cases e:a = b
 · subst e
   rw [if_pos rfl,p8];exact ⟨fun h=>absurd h b5s,fun h=>by cases h⟩
 rw [if_neg e];by_cases h:ltZ a b = true
 · rw [if_pos h];exact ⟨fun _=>h,fun _=>by omega⟩
 rw [if_neg h];exact ⟨fun h=>absurd h b5s,fun h2=>absurd h2 h⟩
end
end
end Go.Hx
