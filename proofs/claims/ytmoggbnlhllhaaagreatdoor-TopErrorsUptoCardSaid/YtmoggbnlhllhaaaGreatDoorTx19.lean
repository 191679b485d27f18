/- A part of the proof: Lw Hx26 Hx25 Ch1 Ch2 X1 X2 Ch3 Ch4 Ch5 Ch6 Ch7 Ch8 Ch9 Ch10 Ch11 Ch12 Ch13 Ch14 Ch19 Ch21. -/
import Derived.Deep.DeepHandedRow
import Derived.OpenShut
import Derived.ProofKit
import Derived.Shelf.SlLaysF
import Derived.Shelf.SlSortCmp.NoneTotal
import Derived.Test.YtmoggbnlhllhaaaGreatDoorCards
import Derived.Test.YtmoggbnlhllhaaaGreatDoorProg
import Derived.Test.YtmoggbnlhllhaaaGreatDoorRows
import Derived.Test.YtmoggbnlhllhaaaGreatDoorTie
import Derived.WalkKit
import Derived.Test.YtmoggbnlhllhaaaGreatDoorTx18
set_option linter.all false
set_option maxRecDepth 100000
namespace Go.Hx
section
open Go.Proofs Go.ChangeShapes Go.WideShapes Go.ChangeAt Go.RowKit
def own:ownKnob bnb.godebug=none:=by kernel_rfl
def b9a : bnb.globalNamed "math/bits.deBruijn32tab" = some 0 := by kernel_rfl
def avi:(bnb.globals[0]?).map (·.type)=some 278:=by kernel_rfl
def aw4:bnb.cellsOf 278=32:=by kernel_rfl
def b7a:bnb.cellsOf 5=1:=by kernel_rfl
def aj1:List Int:=[0,1,28,2,29,14,24,3,30,22,20,15,25,17,4,8,31,27,13,23,21,19,16,7,26,12,18,6,11,5,10,9]
def bck {W : World} (h : laidMetH bnb [("math/bits.deBruijn32tab", YtmoggbnlhllhaaaGreatDoor.Rows.laid_math_bits_deBruijn32tab)] W) : rp (dm W) := by
 have ht : Lib.TabIs bnb W "math/bits.deBruijn32tab" .u8 aj1 := Lib.tabIs_of_head (rest := []) b9a avi Tryz.underlying278 Tryz.underlying5 b7a aw4 h;intro b off v hv;unfold wj t6 at hv;split at hv
 · have hlt:off<32:=by
    rcases bmn off 32 with h|h
    · exact h
    rw[bmm (by simpa using h)]at hv;cases hv
   have hc:=ht.cell b9a off hlt
   have e:v=.int .u8 (aj1.getD off 0):=by
    have:(aj1.map fun z=>Value.int .u8 z)[off]? = some v:=hv;rw[bjl]at this;rw[bir]
    cases hz:aj1[off]? with
    |none=>rw[hz]at this;cases this
    |some z=>rw[hz]at this;exact(Option.some.inj this).symm
   rw[e];unfold World.cell? at hc;unfold gq dm;split at hc
   · rename_i c t fr hh
     rw[hh];simpa using hc
   cases hc
 cases hv
noncomputable def laidWorld (os:Os):World :=
 { World.holding bnb os ⟨#[],#[],[]⟩with heap:=(World.holding bnb os ⟨#[],#[],[]⟩).heap.modify 0 fun
  | .cells _ t frozen=>.cells (aj1.map fun z=>Value.int .u8 z).toArray t frozen
  |o=>o }
end
section
open Go.Proofs Go.Proofs.YtmoggbnlhllhaaaGreatDoor
open Go.RowKit Go.ChangeShapes Go.WideShapes Go.ChangeAt
section
variable {H:Type}
def a6m {d:DataW H} {l:List (DataW H)} (h:d∈l):Rows.uptoBulk d<=Rows.uptoBulkAll l:=by
 induction l with
 |nil=>cases h
 | cons x r ih =>
  rw[Rows.uptoBulkAll]
  rcases biv.1 h with e|e
  · subst e;omega
  have:=ih e;omega
def b2s (d:DataW H):1<=Rows.uptoBulk d:=by
 cases d with
 |lit l=>cases l<;>simp[Rows.uptoBulk]
 |_=>simp[Rows.uptoBulk]
def axb (l:List (DataW H)):l.length<=Rows.uptoBulkAll l:=by
 induction l with
 |nil=>simp
 |cons x r ih=>have:=b2s x;rw[Rows.uptoBulkAll,bjv];omega
def auh {l r:List (DataW H)} {d:DataW H} (h:d∈l):Rows.uptoBulk d<=Rows.uptoBulk (.slice l r):=by
 have:=a6m h;rw[Rows.uptoBulk];omega
def b08 {l:List (DataW H)} {d:DataW H} (h:d∈l):Rows.uptoBulk d<=Rows.uptoBulk (.agg l):=by
 have:=a6m h;rw[Rows.uptoBulk];omega
def azw (l r:List (DataW H)):l.length<=Rows.uptoBulk (.slice l r):=by
 have:=axb l;rw[Rows.uptoBulk];omega
end
def RdB (P:Program) (t:TypeId) (n:Nat) {α:Type} (c:α->Nat->PV) (B:Nat->α->Prop):Prop :=
 ∀ (H:Type) (enc:TypeId×Value->H) (w:World) (sp:Nat->Bool) (held:Bool) (fuel:Nat) (cs:List Value) (x:DataW H×List MemPlace),DataW.trod enc P w 0 sp held fuel t cs=some x ->
  cs.length=n/\∃a:α,B (Rows.uptoBulk x.1) a/\∀j,j<n->∃v,cs[j]? = some v/\aq (dm w) (c a j) v
section
variable {P:Program}{t e:TypeId}
theorem Rd.toB {n:Nat} {α:Type} {c:α->Nat->PV} (h:Rd P t n c):RdB P t n c fun _ _=>True:=by
 intro H enc w sp held fuel cs x hx;obtain⟨h1,a,h2⟩:=h _ enc w sp held fuel cs x hx;exact⟨h1,a,trivial,h2⟩
section
variable {α:Type}{B:Nat->α->Prop}{c:α->Nat->PV}
theorem RdB.co {n:Nat} {β:Type} {c':β->Nat->PV} {B':Nat->β->Prop} (h:RdB P t n c B) (f:α->β) (hB:∀b a,B b a->B' b (f a)) (hc:∀a j,j<n->CoP (c a j) (c' (f a) j)):RdB P t n c' B':=by
 intro H enc w sp held fuel cs x hx;obtain⟨h1,a,h0,h2⟩:=h _ enc w sp held fuel cs x hx;refine⟨h1,f a,hB _ _ h0,fun j hj=>?_⟩;obtain⟨v,h3,h4⟩:=h2 j hj;exact⟨v,h3,hc a j hj _ _ h4⟩
def asx{s:Nat}[Inhabited α](mono:∀b b' x,b<=b'->B b x->B b' x)(ht:P.underlying t=some (.slice e))(hc:P.cellsOf e=s)(hs:0<s)(h:RdB P e s c B):RdB P t 1 (avy s c) (fun b l=>l.length<=b/\∀i,i<l.length->B b (l.getD i default)):=by
 classical
 intro H enc w sp held fuel cs x hx
 rcases DataW.trod_slice ht hx with⟨rfl,_⟩|⟨a,len,cap,elems,rest,n,rfl,rfl,rfl,hb,hl,hm,hlen,hel,_,_⟩
 · refine ⟨rfl,[],⟨bio _,fun i hi=>absurd hi (bip i)⟩,fun j hj=>?_⟩
   obtain rfl:j=0:=by omega
   exact⟨_,rfl,none,0,rfl,bil _,bio _,(fun hh=>by cases hh),fun hh=>absurd hh (bl7 0)⟩
 have each:∀i,i<len->∃q:α,B (Rows.uptoBulk (DataW.slice (elems.map (·.1)) (rest.map (·.1)))) q/\∀j,j<s->∃v,w.cell? (a.add (i*s+j))=some v/\aq (dm w) (c q j) v:=by
  intro i hi;have h1:=hel i hi;rw[hc]at h1;rw[bik bmq]at h1;obtain⟨cs',h2,h3⟩:=Option.bind_eq_some_iff.1 h1;obtain⟨_,h4,h5⟩:=World.cells?_some h2;obtain⟨_,q,h9,h6⟩:=h _ enc w sp held n cs' _ h3;refine⟨q,mono _ _ q (auh (List.mem_map_of_mem (bin _))) h9,fun j hj=>?_⟩;obtain⟨v,h7,h8⟩:=h6 j hj;refine⟨v, ?_,h8⟩;have:=h5 j hj;rw[h7]at this;rw[<- this];congr 1;unfold Addr.add;by_cases hj0:j=0
  · subst hj0
    simp
  by_cases hi0:i*s=0
  · simp[hi0,hj0]
  have:¬(i*s+j=0):=by omega
  simp only[hj0,hi0,this,if_false];congr 1;omega
 refine⟨rfl,(List.range len).map fun i=>if hi:i<len then Classical.choose (each i hi)else default,⟨?_,fun i hi=>?_⟩,fun j hj=>?_⟩
 · rw [bjf,blc,<- hlen]
   have:=azw (elems.map (·.1)) (rest.map (·.1));rw[bjf]at this;exact this
 · have hi:i<len:=by simpa using hi
   have hch:=(Classical.choose_spec (each i hi)).1;have e:((List.range len).map fun i=>if hi:i<len then Classical.choose (each i hi)else default).getD i default=Classical.choose (each i hi):=by simp[List.getD,hi]
   rw[e];exact hch
 obtain rfl:j=0:=by omega
 refine⟨_,rfl,some a,cap,by simp,by simpa using hl,hm,(fun hh=>by cases hh),fun hn=>?_⟩;have hn:0<len:=by simpa using hn
 have hspot:a.spot=none:=by
  obtain⟨q,_,hq⟩:=each 0 hn;obtain⟨v,hv,_⟩:=hq 0 hs;have:a.add (0*s+0)=a:=by simp[Addr.add]
  rw[this]at hv;unfold World.cell? at hv;split at hv
  · split at hv
    · cases hv
    rename_i hsp;simpa using hsp
  cases hv
 refine⟨a.block,a.off, ?_,fun i j hi hj=>?_⟩
 · obtain ⟨b,o,spo⟩:=a
   simp only at hspot;subst hspot;rfl
 have hi:i<len:=by simpa using hi
 have hch:=(Classical.choose_spec (each i hi)).2;obtain⟨v,hv,hr⟩:=hch j hj;refine⟨v, ?_, ?_⟩
 · unfold World.cell? at hv
   have hblk:(a.add (i*s+j)).block=a.block:=by unfold Addr.add;split<;>rfl
   have hoff:(a.add (i*s+j)).off=a.off+(i*s+j):=by
    unfold Addr.add;split
    · rename_i h0;rw[h0];rfl
    rfl
   rw[hblk,hoff]at hv;unfold gq dm;split at hv
   · rename_i hb'
     rw[hb'];split at hv
     · cases hv
     exact hv
   cases hv
 have:lf c ((List.range len).map fun i=>if hi:i<len then Classical.choose (each i hi)else default) i j=c (Classical.choose (each i hi)) j:=by
  unfold lf;simp[List.getD,hi]
 rw[this];exact hr
def apf {H:Type} {enc:TypeId×Value->H} {w:World} {sp:Nat->Bool} {held:Bool} {fuel:Nat} {cs:List Value} {x:DataW H×List MemPlace} {fs:Array Field} (ht:P.underlying t=some (.struct fs)) (h:DataW.trod enc P w 0 sp held fuel t cs=some x) :
 cs.length=P.cellsOf t/\∃n,∀(i:Nat) (f:Field),fs[i]? = some f->∃y,DataW.trod enc P w 0 sp held n f.type ((cs.drop f.offset).take (P.cellsOf f.type))=some y/\Rows.uptoBulk y.1<=Rows.uptoBulk x.1:=by
 obtain⟨xs,n,_,rfl,h1,h2,h3⟩:=DataW.trod_struct ht h;refine⟨h1,n,fun i f hf=>?_⟩;have:=h3 i f hf;rw[this];have hi:i<xs.length:=by rw[h2];exact(biu.1 hf).1
 exact⟨_,bik hi,b08 (List.mem_map_of_mem (bin hi))⟩
def a59 {H:Type} {enc:TypeId×Value->H} {w:World} {sp:Nat->Bool} {held:Bool} {n off s b:Nat} {ft:TypeId} {cs:List Value} {y:DataW H×List MemPlace} (mono:∀b b' x,b<=b'->B b x->B b' x) (h:RdB P ft s c B) (hy:DataW.trod enc P w 0 sp held n ft ((cs.drop off).take (P.cellsOf ft))=some y/\Rows.uptoBulk y.1<=b):
 ∃a:α,B b a/\∀j,j<s->∃v,cs[off+j]? = some v/\aq (dm w) (c a j) v:=by
 obtain⟨h1,a,h0,h2⟩:=h _ enc w sp held n _ y hy.1;refine⟨a,mono _ _ a hy.2 h0,fun j hj=>?_⟩;obtain⟨v,h3,h4⟩:=h2 j hj;refine⟨v, ?_,h4⟩;rw[bjs]at h3;split at h3
 · rwa [bmb]at h3
 cases h3
end
end
section
variable {P:Program}{t e:TypeId}
def aka {m:Imm} {c:Nat->PV}:∀{n:Nat} {us:List Value} {k:Nat},us.length=n->(∀j,j<n->∃v,us[j]? = some v/\aq m (c (k+j)) v)->e9 m ((List.range' k n).map c) us
 |0,[],_,_,_=>trivial
 | n+1,u::us,k,hl,h=>by
  obtain⟨v,h1,h2⟩:=h 0 bmq;simp only[List.getElem?_cons_zero,bij]at h1;subst h1;refine⟨h2,aka (n:=n) (k:=k+1) (by simpa using hl) fun j hj=>?_⟩;obtain⟨v,h3,h4⟩:=h (j+1) bmq;refine⟨v,by simpa using h3, ?_⟩;rwa [show k+1+j=k+(j+1) by omega]
 |0,_::_,_,h,_=>by cases h
 |_+1,[],_,h,_=>by cases h
def amf {H:Type} {enc:TypeId×Value->H} {W:World} {cs:Array Value} {d:DataW H} {ps:List MemPlace} {n:Nat} {α:Type} {c:α->Nat->PV} {B:Nat->α->Prop} (h:RdB P t n c B) (hd:DataW.Trod enc P W 0 (fun _=>true) true t (.agg cs) d ps) :
 ∃a:α,B (Rows.uptoBulk d) a/\lg (dm W) (.agg ((List.range' 0 n).map (c a))) (.agg cs):=by
 obtain⟨fuel,hf⟩:=hd;obtain⟨hl,a,h0,ha⟩:=h _ enc W _ _ fuel _ _ hf;refine⟨a,h0,cs.toList,by simp,aka hl fun j hj=>?_⟩;rw[bjo];exact ha j hj
end
end
section
open Go.RowKit
section
variable {w0:World}{nt:Nat}{c:Ctx}{s:S}{a:Act}{w:World}
section
variable {g:Nat->Nat->Nat->PV}{m:Nat->Nat}
theorem ao8 {base:Nat} {o:am} {id:Nat} {e et:TypeId} {es:Nat} (hes:0<es) (hb:c.blk id=noB) (hv:∃ad,c.own id=.slice ad 0 0):df base c o w id (.nest e et es 0 m g none):=by
 obtain⟨ad,hv⟩:=hv;refine⟨hes,bio _,fun i hi=>absurd hi (bip i),fun b=>?_,fun i b hi=>absurd hi (bip i),fun i hi=>absurd hi (bip i), .inl ⟨rfl,ad,hv⟩⟩;rw[hb,hv];constructor
 · exact fun h=>h.elim
 rintro(h|⟨i,hi,_⟩)
 · cases ad<;>simp[au]at h
 grind
variable {f:Nat->Nat->PV}
def a2h {imm:Imm} {s':Nat} {u:Value} (h:aq imm (.sl 0 s' true f) u):∃ad,u=.slice ad 0 0:=by
 obtain⟨ad,cap,rfl,_,_,hc,_⟩:=h;simp_all
def fc(m:Nat->Nat)(n k:Nat):Nat->Nat:=fun i=>bif Nat.beq i n then k else m i
def fb(g:Nat->Nat->Nat->PV)(n:Nat)(f:Nat->Nat->PV):Nat->Nat->Nat->PV:=fun i=>bif Nat.beq i n then f else g i
def qx(m:Nat->Nat)(n k:Nat):fc m n k n=k:=by simp[fc]
def qc {n k i:Nat} (h:i≠n):fc m n k i=m i:=by
 have:Nat.beq i n=false:=by rw[bj5];exact fun hb=>h (bjh hb)
 simp[fc,this]
def anb(g:Nat->Nat->Nat->PV)(n:Nat)(f:Nat->Nat->PV):fb g n f n=f:=by simp[fb]
def aj5 {n i:Nat} (h:i≠n):fb g n f i=g i:=by
 have:Nat.beq i n=false:=by rw[bj5];exact fun hb=>h (bjh hb)
 simp[fb,this]
def a52{v:Value}{b:Nat}(h:au v=some b):c6 v=some b:=by
 unfold au at h;split at h
 · split at h
   · cases h
   exact h
 cases h
theorem ai.absorb(h:ai w0 nt c s a w){id id' k n:Nat}{e et:TypeId}{es:Nat}(ho:s.o id=some (.nest e et es n m g (some (id',k))))(ho':s.o id'=some (.arr true es et k f)):
 ∃c',c'.old=c.old/\ai w0 nt c' ((s.setO id (some (.nest e et es (n+1) (fc m n k) (fb g n f) none))).setO id' none) a w:=by
 have hne:id'≠id:=by rintro rfl;rw[ho]at ho';cases ho'
 have hnk:jt 0 c s.o w id e et es n m g (some (id',k)):=h.objs id _ ho;obtain⟨q0,q1,q5⟩:=h.objs id' _ ho'
 have hcb:∀b,au (c.own id')=some b->c.blk id' b:=fun b hb=>by
  rcases q5 with⟨q6,_⟩|⟨q7,_,q8⟩
  · rw[q6];exact a52 hb
  obtain⟨ad,cap,r1,_,_,r4,_⟩:=q8
  rcases q7 with q7|q7
  · cases q7
  subst q7;rw[r1,r4 rfl]at hb;cases ad<;>simp[au]at hb
 have hrow:(k=0/\∃a,c.own id'=.slice a 0 0)\/∃ys,w.ownsRow 0 et es (c.own id') k ys/\∀r j,r<k->j<es->∃x,ys[r*es+j]? = some x/\aq c.imm (f r j) x:=by
  rcases q5 with⟨q6,xs,q7,q8⟩|⟨q6,q7,q8⟩
  · grind
  rcases q6 with q6|q6
  · cases q6
  subst q6;exact .inl ⟨rfl,a2h q8⟩
 let o':am:=((s.setO id (some (.nest e et es (n+1) (fc m n k) (fb g n f) none))).setO id' none).o
 have oid:o' id=some (.nest e et es (n+1) (fc m n k) (fb g n f) none):=by
  show(if id=id' then _ else if id=id then _ else _)=_
  grind
 have oid':o' id'=none:=by
  show(if id'=id' then _ else _)=_
  grind
 have oelse:∀q,q≠id->q≠id'->o' q=s.o q:=fun q h1 h2=>by
  show(if q=id' then _ else if q=id then _ else _)=_
  grind
 let c':Ctx:={ old:=c.old,imm:=c.imm,tab:=c.tab,own:=c.own,blk:=fun q=>if q=id then(fun b=>c.blk id b\/au (c.own id')=some b)else c.blk q,rows:=fun q=>if q=id then(fun i=>if i=n then c.own id' else c.rows id i)else c.rows q }
 have rlt:∀i,i<n->c'.rows id i=c.rows id i:=fun i hi=>by
  grind
 have rn:c'.rows id n=c.own id':=by
  grind
 have hevo:∀q,Evo c s.o c' o' q:=fun q=>by
  by_cases h1:q=id
  · subst h1
    refine .inr (.inr ⟨_,_,1,e,n+1,n+1,ho,rfl,oid,rfl,bil _,fun _=>rfl,fun e2 et2 es2 n2 m2 g2 pd2 hb2=>?_⟩);cases hb2;refine⟨_,_,_,_,_,_,rfl,bm0 _,fun i hi=>⟨by rw[qc bmq];exact bil _,fun _=>rlt i hi⟩⟩
  by_cases h2:q=id'
  · subst h2;exact .inl oid'
  exact Evo.of_same (oelse q h1 h2) rfl (by show(if q=id then _ else _)=_;rw[if_neg h1])
 have bid:∀q,q≠id->c'.blk q=c.blk q:=fun q hq=>by show(if q=id then _ else _)=_;rw[if_neg hq]
 have bself:∀b,c'.blk id b<->(c.blk id b\/au (c.own id')=some b):=fun b=>by
  grind
 have hold:∀q ob,o' q=some ob->q≠id->q≠id'/\s.o q=some ob:=fun q ob hq h1=>by
  grind
 have whose:∀b,c'.blk id b->c.blk id b\/c.blk id' b:=fun b hb=>((bself b).1 hb).imp (fun z=>z) (hcb b);refine⟨c',rfl,⟨h.defers,h.size,h.below,fun d x hx=>(h.tmps d x hx).evo (Imm.le.refl c.imm) fun q _=>hevo q,fun q ob hq=>?_,fun q q' ob ob' b hq hq' hb hb'=>?_,h.imm,fun q ob b hq hb=>?_,h.was,h.frm,fun q ob b hq hb=>?_,fun q hq=>(h.fixed q hq).trans (hevo q)⟩⟩
 · by_cases h1:q=id
   · subst h1
     have hq:o' q=some ob:=hq;rw[oid]at hq;cases hq;have hlen:=hnk.len;simp only[lz]at hlen;refine⟨hnk.pos,hlen,fun i hi=>?_,fun b=>?_,fun i b hi hb=>?_,fun i hi=>?_, .inr ?_⟩
     · by_cases hin:i=n
       · subst hin;rw[qx];exact q1
       rw[qc hin];exact hnk.lens i bmq
     · rw [bself,hnk.blks]
       constructor
       · rintro ((h2|⟨i,hi,h2⟩)|h2)
         · exact .inl h2
         · grind
         exact .inr ⟨n,by omega,by rw[rn];exact h2⟩
       grind
     · have far:∀b,au (c.own id')=some b->¬c.blk q b:=fun b h2 h3=>hne (h.inj id' q _ _ b ho' ho (hcb b h2) h3)
       by_cases hin:i=n
       · subst hin
         rw[rn]at hb;refine⟨fun h2=>far b hb ((hnk.blks b).2 (.inl h2)),fun i' hi' h2=>?_⟩;by_cases hin':i'=i
         · exact hin'
         rw[rlt i' bmq]at h2;exact(far b hb ((hnk.blks b).2 (.inr ⟨i',by omega,h2⟩))).elim
       rw[rlt i bmq]at hb;obtain⟨h2,h3⟩:=hnk.apart i b bmq hb;refine⟨h2,fun i' hi' h4=>?_⟩;by_cases hin':i'=n
       · subst hin'
         rw[rn]at h4;exact(far b h4 ((hnk.blks b).2 (.inr ⟨i,by omega,hb⟩))).elim
       grind
     · by_cases hin:i=n
       · subst hin
         rw[rn,qx,anb];exact hrow
       rw[rlt i bmq,qc hin,aj5 hin];exact hnk.row i bmq
     rcases hnk.top with⟨h2,_⟩|⟨xs,t1,t2,t3⟩
     · simp[lz]at h2
     refine⟨xs,t1,fun i hi=>?_,fun p hp=>by cases hp⟩;by_cases hin:i=n
     · subst hin
       obtain⟨x,hx,hxr⟩:=t3 _ rfl;obtain⟨_,_,hr3⟩:=hxr;rw[rn,hx,(hr3 _ _ _ _ ho' rfl).2 rfl]
     grind
   obtain⟨h2,h3⟩:=hold q ob hq h1;exact(h.objs q ob h3).keep (Imm.le.refl c.imm) rfl (bid q h1) (fun j _=>hevo j) (fun b _=>rfl) (by show(if q=id then _ else _)=_;rw[if_neg h1])
 · by_cases h1:q=id
   · by_cases h2:q'=id
     · rw[h1,h2]
     obtain⟨h3,h4⟩:=hold q' ob' hq' h2;rw[bid q' h2]at hb';subst h1
     rcases whose b hb with h5|h5
     · exact h.inj q q' _ _ b ho h4 h5 hb'
     exact(h3 (h.inj q' id' _ _ b h4 ho' hb' h5)).elim
   obtain⟨h3,h4⟩:=hold q ob hq h1;rw[bid q h1]at hb;by_cases h2:q'=id
   · subst h2
     rcases whose b hb' with h5|h5
     · exact h.inj q q' _ _ b h4 ho hb h5
     exact(h3 (h.inj q id' _ _ b h4 ho' hb h5)).elim
   obtain⟨h5,h6⟩:=hold q' ob' hq' h2;rw[bid q' h2]at hb';exact h.inj q q' _ _ b h4 h6 hb hb'
 · by_cases h1:q=id
   · subst h1
     rcases whose b hb with h5|h5
     · exact h.sep q _ b ho h5
     exact h.sep id' _ b ho' h5
   rw[bid q h1]at hb;exact h.sep q ob b (hold q ob hq h1).2 hb
 by_cases h1:q=id
 · subst h1
   rcases whose b hb with h5|h5
   · exact h.fsep q _ b ho h5
   exact h.fsep id' _ b ho' h5
 rw[bid q h1]at hb;exact h.fsep q ob b (hold q ob hq h1).2 hb
def a26(es:Nat)(m:Nat->Nat)(g:Nat->Nat->Nat->PV):Nat->Nat->PV:=fun i _=>.sl (m i) es false (g i)
end
open Classical in
noncomputable def thinImm (c:Ctx) (w:World) (id n:Nat):Imm:=fun b=>if ∃i,i<n/\au (c.rows id i)=some b then w.heap[b]? else c.imm b
theorem ai.thin(h:ai w0 nt c s a w){id n:Nat}{e et:TypeId}{es:Nat}{m:Nat->Nat}{g:Nat->Nat->Nat->PV}(ho:s.o id=some (.nest e et es n m g none)) :
 ∃c',c'.old=c.old/\ai w0 nt c' (s.setO id (some (.arr true 1 e n (a26 es m g)))) a w:=by
 have hnk:jt 0 c s.o w id e et es n m g none:=h.objs id _ ho;have hin:∀b,(∃i,i<n/\au (c.rows id i)=some b)->c.blk id b:=fun b hb=>(hnk.blks b).2 (.inr hb)
 have hle:Imm.le c.imm (thinImm c w id n):=fun b ob hb=>by
  unfold thinImm;by_cases hk:∃i,i<n/\au (c.rows id i)=some b
  · rw[h.sep id _ b ho (hin b hk)]at hb;cases hb
  grind
 let ob':ae:=.arr true 1 e n (a26 es m g)
 let bk:Nat->Prop:=fun b=>au (c.own id)=some b
 let c':Ctx:={ old:=c.old,imm:=thinImm c w id n,tab:=c.tab.mono hle,own:=c.own,blk:=fun q=>if q=id then bk else c.blk q,rows:=c.rows }
 have oid:(s.setO id (some ob')).o id=some ob':=by show(if id=id then _ else _)=_;rw[if_pos rfl]
 have oelse:∀q,q≠id->(s.setO id (some ob')).o q=s.o q:=fun q hq=>by show(if q=id then _ else _)=_;rw[if_neg hq]
 have hevo:∀q,Evo c s.o c' (s.setO id (some ob')).o q:=fun q=>by
  by_cases h1:q=id
  · subst h1
    exact .inr (.inr ⟨_, .arr true 1 e n (a26 es m g),1,e,n,n,ho,rfl,oid,rfl,bil _,fun _=>rfl,fun _ _ _ _ _ _ _ hb=>by cases hb⟩)
  exact Evo.of_same (oelse q h1) rfl rfl
 have bid:∀q,q≠id->c'.blk q=c.blk q:=fun q hq=>by show(if q=id then _ else _)=_;rw[if_neg hq]
 have bself:c'.blk id=bk:=by show(if id=id then _ else _)=_;rw[if_pos rfl]
 have whose:∀b,c'.blk id b->c.blk id b:=fun b hb=>by
  rw[bself]at hb;exact(hnk.blks b).2 (.inl hb)
 have hrowP:∀i,i<n->aq (thinImm c w id n) (.sl (m i) es false (g i)) (c.rows id i):=fun i hi=>by
  obtain⟨ad,cap,q1,q2,q3⟩:=aeq (h.objs id _ ho) hi;refine⟨ad,cap,q1,q2,q3,(fun hh=>by cases hh),fun hm=>?_⟩;obtain⟨b,cap',ys,r1,r2,_,r3⟩:=a92 (h.objs id _ ho) hi hm;rw[q1]at r1;simp only[Value.slice.injEq,true_and]at r1;obtain⟨rfl,rfl⟩:=r1;refine⟨b,0,rfl,fun r j hr hj=>?_⟩;obtain⟨x,_,hx,hxr⟩:=r3 r j hr hj;refine⟨x, ?_,aq.mono hle hxr⟩;rw[bjo];unfold gq thinImm;rw[if_pos ⟨i,hi,r2⟩];unfold World.cell? at hx
  grind
 refine⟨c',rfl,⟨h.defers.keep (fun _ _=>rfl) (fun D hD hd=>?_),h.size,h.below,fun d x hx=>(h.tmps d x hx).evo hle fun q _=>hevo q,fun q ob hq=>?_,fun q q' ob ob2 b hq hq' hb hb'=>?_,fun b ob hb=>?_,fun q ob b hq hb=>?_,fun b hb=>?_,h.frm,fun q ob b hq hb=>?_,fun q hq=>(h.fixed q hq).trans (hevo q)⟩⟩
 · show thinImm c w id n D=none
   unfold thinImm
   rw [if_neg fun hk=>by
    obtain⟨x1,hc,hdt⟩:=(h.objs id _ ho).data (hin D hk);rw[hd]at hc;cases hc
    cases hdt]
   exact hD
 · by_cases h1:q=id
   · subst h1
     rw[oid]at hq;cases hq;refine⟨Nat.one_pos,hnk.len, ?_⟩
     have hplain:n=0/\(∃ad,c.own q=.slice ad 0 0)->(c'.blk q=dx (c.own q)/\∃xs,w.ownsRow 0 e 1 (c.own q) n xs/\∀i j,i<n->j<1->∃x,xs[i*1+j]? = some x/\aq c'.imm (a26 es m g i j) x) \/
      ((true=false\/n=0)/\c'.blk q=noB/\aq c'.imm (.sl n 1 true (a26 es m g)) (c.own q)):=by
      rintro⟨rfl,ad,hv⟩;refine .inr ⟨.inr rfl, ?_, ?_⟩
      · rw [bself]
        funext b;show(au (c.own q)=some b)=False;rw[hv];cases ad<;>simp[au]
      rw[hv];exact⟨ad,0,rfl,bil _,bio _,fun _=>rfl,fun hh=>absurd hh (bl7 0)⟩
     rcases hnk.top with⟨h2,h3⟩|⟨xs,t1,t2,_⟩
     · grind
     have t1:w.ownsRow 0 e 1 (c.own q) n xs:=t1
     rcases en t1 with r0|⟨b,cap,rv,rb⟩
     · grind
     refine .inl ⟨?_,xs,t1,fun i j hi hj=>?_⟩
     · rw [bself]
       funext b';show(au (c.own q)=some b')=(c6 (c.own q)=some b');rw[rb,rv];rfl
     obtain rfl:j=0:=by omega
     exact⟨_,by simpa using t2 i hi,hrowP i hi⟩
   rw[oelse q h1]at hq;exact(h.objs q ob hq).keep hle rfl (bid q h1) (fun j _=>hevo j) (fun b _=>rfl) rfl
 · by_cases h1:q=id
   · by_cases h2:q'=id
     · rw[h1,h2]
     rw[oelse q' h2]at hq';rw[bid q' h2]at hb';subst h1;exact h.inj q q' _ _ b ho hq' (whose b hb) hb'
   rw[oelse q h1]at hq;rw[bid q h1]at hb;by_cases h2:q'=id
   · subst h2
     exact h.inj q q' _ _ b hq ho hb (whose b hb')
   rw[oelse q' h2]at hq';rw[bid q' h2]at hb';exact h.inj q q' _ _ b hq hq' hb hb'
 · have hb:thinImm c w id n b=some ob:=hb
   unfold thinImm at hb;split at hb
   · exact hb
   exact h.imm b ob hb
 · show thinImm c w id n b=none
   unfold thinImm;by_cases h1:q=id
   · subst h1
     rw[bself]at hb;rw[if_neg fun⟨i,hi,hk⟩=>(hnk.apart i b hi hk).1 hb];exact h.sep q _ b ho ((hnk.blks b).2 (.inl hb))
   rw[oelse q h1]at hq;rw[bid q h1]at hb;rw[if_neg fun hk=>h1 (h.inj q id _ _ b hq ho hb (hin b hk))];exact h.sep q ob b hq hb
 · show thinImm c w id n b=c.old.1 b
   unfold thinImm;rw[if_neg fun hk=>hb (h.fsep id _ b ho (hin b hk))];exact h.was b hb
 by_cases h1:q=id
 · subst h1
   exact h.fsep q _ b ho (whose b hb)
 rw[oelse q h1]at hq;rw[bid q h1]at hb;exact h.fsep q ob b hq hb
end
section
variable {ro:Option Nat}{P:Program}{nt:Nat}{st:HSt}{Q:Exit->HSt->Prop}
theorem a4i {c:Code} (d id:Nat) {s':Nat} {f':Nat->Nat->PV} (e et:TypeId) (es:Nat) (m:Nat->Nat) (g:Nat->Nat->Nat->PV) (hs:0<es) (hd:b6 st.t d=some (bo (.sl 0 s' true f'))) (hn:jx id st=true)
 (h:HW (ro:=ro) P nt c ⟨(d,some (.v (.one (.ref id 0))))::st.t,(id,some (.nest e et es 0 m g none))::st.o⟩ Q):HW (ro:=ro) P nt c st Q:=by
 obtain⟨hnm,hno⟩:=dp hn;refine uh ⟨st.t,(id,some (.nest e et es 0 m g none))::st.o⟩ d (.v (.one (.ref id 0))) (fun w0 m0 a w hr=>?_) h;obtain⟨cc,hold,hrr⟩:=hr;have hx:aq cc.imm (.sl 0 s' true f') (a.tmps.getD d undef):=hrr.tmps d _ hd;have hfresh:=hrr.fresh id hnm hno (.nest e et es 0 m g none) w (a.tmps.getD d undef) noB (Grw.refl w none) (fun b hb=>hb.elim) (ao8 hs bmu (by simpa using a2h hx));refine⟨_, ?_,by rw[j3];exact hfresh, ?_⟩
 · exact hold
 rw[j3];refine⟨aq.oneCell hx,fun l=>by simp[S.setO],fun ob1 s1 e1 n1 ho hd1=>?_⟩
 grind
def acy {c:Code} (id:Nat) {n:Nat} {e et:TypeId} {es:Nat} {m:Nat->Nat} {g:Nat->Nat->Nat->PV} (ho:b6 st.o id=some (.nest e et es n m g none))
 (h:HW (ro:=ro) P nt c ⟨st.t,(id,some (.arr true 1 e n (a26 es m g)))::st.o⟩ Q):HW (ro:=ro) P nt c st Q:=fun w0 m0 a w hr=>by
 obtain⟨cc,hold,hrr⟩:=hr;obtain⟨c',h1,h2⟩:=hrr.thin ho;refine h w0 m0 a w ⟨c',h1.trans hold, ?_⟩;rw[j3];exact h2
end
end
section
abbrev Rw:=List Int
def ltZ:Rw->Rw->Bool
 | [],[]=>false
 | [],_::_=>true
 |_::_,[]=>false
 |x::a,y::b=>if x=y then ltZ a b else decide (x<y)
def a6c:∀a:Rw,ltZ a a=false
 | []=>rfl
 |x::a=>by unfold ltZ;rw[if_pos rfl];exact a6c a
def y8:∀{a b c:Rw},ltZ a b=true->ltZ b c=true->ltZ a c=true
 | [],[],_,h,_=>by cases h
 | [],_::_,[],_,k=>by cases k
 | [],_::_,_::_,_,_=>rfl
 |_::_,[],_,h,_=>by cases h
 |_::_,_::_,[],_,k=>by cases k
 | x :: a,y::b,z::c,h,k=>by
  unfold ltZ at *;by_cases hxy:x=y
  · rw [if_pos hxy]at h
    subst hxy;by_cases hyz:x=z
    · rw [if_pos hyz]at k ⊢
      exact y8 h k
    rw[if_neg hyz]at k ⊢;exact k
  rw[if_neg hxy]at h;have h:=of_decide_eq_true h;by_cases hyz:y=z
  · subst hyz
    rw[if_neg hxy];exact decide_eq_true h
  rw[if_neg hyz]at k;have k:=of_decide_eq_true k;rw[if_neg bmq];exact decide_eq_true bmq
def anh:∀{a b:Rw},a≠b->ltZ a b=true\/ltZ b a=true
 | [],[],h=>absurd rfl h
 | [],_::_,_=>.inl rfl
 |_::_,[],_=>.inr rfl
 | x :: a,y::b,h=>by
  unfold ltZ;by_cases hxy:x=y
  · subst hxy
    rw[if_pos rfl,if_pos rfl];exact anh fun e=>h (by rw[e])
  rw[if_neg hxy,if_neg (Ne.symm hxy),decide_eq_true_iff,decide_eq_true_iff];omega
def zC:Int->Nat->PV:=fun z _=>.raw (.int .i64 z)
abbrev zl(r:Rw):PV:=psl 1 zC r
def rC:Rw->Nat->PV:=fun r _=>zl r
abbrev rl(l:List Rw):PV:=psl 1 rC l
def aud {a b:Rw} (h:ltZ a b=true):ltZ b a=false:=by
 rw[bj5];intro k;have:=y8 h k;rw[a6c]at this;cases this
def p9(l:List Rw):Prop:=l.Pairwise fun a b=>ltZ a b=true
def a7m:∀{l k:List Rw},p9 l->p9 k->(∀x,x∈l<->x∈k)->l=k
 | [],[],_,_,_=>rfl
 | [],y::k,_,_,h=>absurd ((h y).2 (bj6 ..)) bmu
 |x::l,[],_,_,h=>absurd ((h x).1 (bj6 ..)) bmu
 | x :: l,y::k,hl,hk,h=>by
  obtain⟨h1,h2⟩:=bj9.1 hl;obtain⟨k1,k2⟩:=bj9.1 hk
  have e:x=y:=by
   rcases biv.1 ((h x).1 (bj6 ..))with e|hx
   · exact e
   rcases biv.1 ((h y).2 (bj6 ..))with e|hy
   · exact e.symm
   have:=aud (k1 x hx);rw[h1 y hy]at this;cases this
  subst e;congr 1;refine a7m h2 k2 fun z=>?_;constructor
  · intro hz
    rcases biv.1 ((h z).1 (bj0 _ hz))with e|hz'
    · subst e
      have:=h1 z hz;rw[a6c]at this;cases this
    exact hz'
  intro hz
  rcases biv.1 ((h z).2 (bj0 _ hz))with e|hz'
  · subst e
    have:=k1 z hz;rw[a6c]at this;cases this
  exact hz'
def kf (x:Rw):List Rw->List Rw
 | []=>[x]
 |y::l=>if x=y then y::l else if ltZ x y=true then x::y::l else y::kf x l
def a8i{x z:Rw}:∀{l:List Rw},z∈kf x l<->z=x\/z∈l
 | []=>by simp[kf]
 | y :: l=>by
  unfold kf;split
  · rename_i e
    subst e;simp
  split
  · simp
  rw[biv,a8i,biv];constructor
  · rintro(h|h|h)<;>simp[h]
  rintro(h|h|h)<;>simp[h]
def aez{x:Rw}:∀{l:List Rw},p9 l->p9 (kf x l)
 | [],_=>by simp[kf,p9]
 | y :: l,h=>by
  obtain⟨h1,h2⟩:=bj9.1 h;unfold kf;split
  · exact h
  split
  · rename_i hxy
    refine bj9.2 ⟨fun z hz=>?_,h⟩
    rcases biv.1 hz with rfl|hz
    · exact hxy
    exact y8 hxy (h1 z hz)
  rename_i hne hxy;refine bj9.2 ⟨fun z hz=>?_,aez h2⟩
  rcases a8i.1 hz with rfl|hz
  · exact(anh hne).resolve_left hxy
  exact h1 z hz
def dh(l:List Rw):List Rw:=l.foldl (fun o x=>kf x o) []
def a4f:∀{l o:List Rw},p9 o->p9 (l.foldl (fun o x=>kf x o) o)/\∀z,z∈l.foldl (fun o x=>kf x o) o<->z∈o\/z∈l
 | [],o,h=>⟨h,fun z=>by simp⟩
 | x::l,o,h=>by
  obtain⟨h1,h2⟩:=a4f (l:=l) (aez (x:=x) h);refine⟨h1,fun z=>?_⟩;show z∈l.foldl (fun o x=>kf x o) (kf x o)<->_;rw[h2 z,a8i,biv];constructor
  · rintro((h|h)|h)<;>simp[h]
  rintro(h|h|h)<;>simp[h]
def sh(l:List Rw):p9 (dh l):=(a4f (o:=[]) List.Pairwise.nil).1
def fw {l:List Rw} {z:Rw}:z∈dh l<->z∈l:=by
 show z∈l.foldl (fun o x=>kf x o) []<->_;rw[(a4f (l:=l) (o:=[]) List.Pairwise.nil).2 z];simp
def aue{l k:List Rw}(hk:p9 k)(h:∀z,z∈k<->z∈l):k=dh l:=a7m hk (sh l) fun z=>by rw[h z,fw]
def bgr(l:List Rw)(k:Nat)(r:Rw):List Rw:=l.take k++r::l.drop k
def akt (x:Rw):∀l:List Rw,(kf x l).length<=l.length+1
 | []=>by simp[kf]
 | y::l=>by
  unfold kf;have:=akt x l;split
  · simp
  split
  · simp
  simp only[bjv];omega
def aqo(l:List Rw):(dh l).length<=l.length:=by
 have:∀(l o:List Rw),(l.foldl (fun o x=>kf x o) o).length<=o.length+l.length:=by
  intro l
  induction l with
  |nil=>intro o;simp
  | cons x l ih =>
   intro o;have h1:=ih (kf x o);have h2:=akt x o;simp only[blq,bjv];omega
 have h:=this l [];simpa [dh]using h
end
section
abbrev pZ(r:Rw):PC:=.one (zl r)
abbrev pR(l:List Rw):PC:=.one (rl l)
abbrev pT(n:Int)(l:List Rw):PC:=.agg [.raw (.int .i64 n),rl l]
def bhh(a b:Rw):Int:=if a=b then 0 else if ltZ a b=true then -1 else 1
def zk(a b:Rw)(s:AS):Bool:=decide (∀i:Nat,i<a.length->(ir s (i:Int)=true->a.getD i default=b.getD i default))
def aic{a b:Rw}{s:AS}(h:∀i:Nat,i<a.length->(ir s (i:Int)=true->a.getD i default=b.getD i default)):zk a b s=true:=decide_eq_true h
def a4e(n:Int)(l:List Rw)(i:Nat):Bool:=decide (((l.getD i default).length:Int)=n)&&!(l.getD i default).any (fun x=>decide (x<0))&&(decide (i=0)||ltZ (l.getD (i-1) default) (l.getD i default))
def tok(n:Int)(l:List Rw):Bool:=decide (0<=n/\n<=16/\l.length<=256)&&decide (∀i,i<l.length->a4e n l i=true)
def bax {n:Int} {l:List Rw} (h0:0<=n) (h1:n<=16) (h2:l.length<=256) (h:∀i,i<l.length->a4e n l i=true):tok n l=true:=by
 unfold tok;rw[decide_eq_true (show 0<=n/\n<=16/\l.length<=256 from ⟨h0,h1,h2⟩),decide_eq_true h];rfl
def j8(a b:Rw)(s:AS):Rw:=(List.range b.length).map fun(i:Nat)=>if ir s (i:Int)=true then a.getD i default else b.getD i default
end
section
open Go.Proofs
def b2g:a6 bnb 146:=wgx Tryz.func146
def anj:a6 bnb 145:=wgx Tryz.func145
def b8t:a6 bnb 86:=wgx Tryz.func86
def b7z:a6 bnb 84:=wgx Tryz.func84
end
section
open Go.Proofs
abbrev bxZ(a:PV):PV:=.vp 1 fun j=>[a].getD j .any
end
section
def zf(n:Int)(l m:List Fd):Int:=if cg n l=0 then(if 64<m.length then 3 else if m.all (inU n)=true then 0 else 1)else cg n l
section
variable {n:Int}{l m:List Fd}
end
def b6s {n:Int} {l:List Rw} {i:Nat} (h1:((l.getD i default).length:Int)=n) (h2:(l.getD i default).any (fun x=>decide (x<0))=false) (h3:i=0\/ltZ (l.getD (i-1) default) (l.getD i default)=true):a4e n l i=true:=by
 unfold a4e;rw[decide_eq_true h1,h2]
 rcases h3 with h3|h3
 · rw[decide_eq_true h3];rfl
 rw[h3];simp
end
section
def bhv(a b:Rw)(s:AS)(i:Nat):Rw:=(List.range b.length).map fun(j:Nat)=>if j<i/\ir s (j:Int)=true then a.getD j default else b.getD j default
def t8(a b:Rw)(s:AS):(j8 a b s).length=b.length:=by unfold j8;simp
end
section
open Go.Proofs Go.RowKit Go.Sort
structure CpZ (l:List Rw) (k p q:Nat) (m:List Rw):Prop where
 len:m.length=l.length
 kq:k<q
 pq:p<q
 ql:q<=l.length
 pre:m.take p=j6 (l.take q)
 high:∀j,q-1<=j->m.getD j default=l.getD j default
section
variable {l:List Rw}
theorem CpZ.start {k:Nat} (h1:1<=k) (hk:k<l.length) (h:∀j,0<j->j<k->¬l.getD j default=l.getD (j-1) default) (hd:l.getD k default=l.getD (k-1) default):CpZ l k k (k+1) l :=
 ⟨rfl,by omega,by omega,by omega,by rw[jj bmq hk,if_pos hd.symm,bjn,su bmq h],fun _ _=>rfl⟩
theorem CpZ.skip {k p q:Nat} {m:List Rw} (h:CpZ l k p q m) (hq:q<l.length) (he:m.getD q default=m.getD (q-1) default):CpZ l k p (q+1) m:=by
 have hk:=h.kq;refine⟨h.len,by omega,by have:=h.pq;omega,hq, ?_,fun j hj=>h.high j bmq⟩;rw[h.high q bmq,h.high (q-1) bmq]at he;rw[jj bmq hq,if_pos he.symm,bjn,h.pre]
theorem CpZ.keep {k p q:Nat} {m:List Rw} (h:CpZ l k p q m) (hq:q<l.length) (he:¬m.getD q default=m.getD (q-1) default):CpZ l k (p+1) (q+1) (m.set p (m.getD q default)):=by
 have hk:=h.kq;have hp:=h.pq;have hl:=h.len;refine⟨by simp[hl],by omega,by omega,hq, ?_,fun j hj=>by rw[getD_set_ne' bmq];exact h.high j bmq⟩;have e:=h.high q bmq;rw[e,h.high (q-1) bmq]at he;rw[jj bmq hq,if_neg (fun e=>he e.symm),<- h.pre,ar (by simp[hl];omega),lm bmq,e];congr 1;rw[List.take_set,bm4 bn4]
def srZ(l:List Rw):List Rw:=l.mergeSort fun x y=>!ltZ y x
def b3c {r:Rw} (h:(l.any fun x=>decide (x=r))=false):r∉l:=fun e=>by
 rw[bl4]at h;exact h r e (decide_eq_true rfl)
end
end
section
abbrev nM(l:List Rw):Nat->Nat:=fun i=>(l.getD i default).length
abbrev y6(l:List Rw):Nat->Nat->Int:=fun i r=>(l.getD i default).getD r default
abbrev mg(M:Nat->Nat->Int):Nat->Nat->Nat->PV:=fun i r _=>.raw (.int .i64 (M i r))
abbrev hiI(x y:Int):Int:=if x<y then y else x
abbrev loI(x y:Int):Int:=if y<x then y else x
def bgt(M:Nat->Nat->Int)(hi lo:Int)(i k:Nat):Nat->Nat->Int:=fun i' r=>if(i'<i\/(i'=i/\r<k))/\M i' r=hi then lo else M i' r
def eqM(M:Nat->Nat->Int)(a b j:Nat):Nat->Nat->Int:=fun i r=>if M i r=hiI (M a j) (M b j)then loI (M a j) (M b j)else M i r
def eqMs(M:Nat->Nat->Int)(a b:Nat)(js:List Nat):Nat->Nat->Int:=js.foldl (fun M j=>eqM M a b j) M
def gi(l:List Rw)(M:Nat->Nat->Int):List Rw:=(List.range l.length).map fun i=>(List.range (l.getD i default).length).map (M i)
def a1m(l:List Rw)(M:Nat->Nat->Int):(gi l M).length=l.length:=by unfold gi;simp
def atb {l:List Rw} {M:Nat->Nat->Int} {i:Nat} (h:i<l.length):(gi l M).getD i default=(List.range (l.getD i default).length).map (M i):=by
 unfold gi;rw[bir,bjl,bkj h];rfl
def awb {M:Nat->Nat->Int} {a b j:Nat} (h:M a j=M b j):eqM M a b j=M:=by
 funext i r;unfold eqM;have e1:hiI (M a j) (M b j)=M b j:=by unfold hiI;rw[if_neg bmq,h]
 have e2:loI (M a j) (M b j)=M b j:=by unfold loI;rw[if_neg bmq,h]
 rw[e1,e2];by_cases e:M i r=M b j
 · rw[if_pos e,e]
 rw[if_neg e]
end
section
def a57(n:Int)(l:List Rw)(row:Rw):Int×List Rw×Int:=if 256<(dh (l++[row])).length then(0,[],3) else(n,dh (l++[row]),0)
def fdE(n:Int)(l:List Rw)(a b:Nat)(x:Fd):Int×List Rw×Int:=if zk (l.getD a default) (l.getD b default) x.lhs=true then(n,dh (gi l (eqMs (y6 l) a b (bc x.rhs))),0) else(0,[],1)
def mvE(n:Int)(l:List Rw)(a b:Nat)(x:Fd):Int×List Rw×Int:=if zk (l.getD a default) (l.getD b default) x.lhs=true then a57 n l (j8 (l.getD a default) (l.getD b default) (x.lhs|||x.rhs)) else(0,[],1)
def a14 {n:Int} {l:List Rw} (h:tok n l=true):0<=n/\n<=16/\l.length<=256/\∀i,i<l.length->(l.getD i default).length=n.toNat:=by
 unfold tok at h;rw[biw,decide_eq_true_iff,decide_eq_true_iff]at h;obtain⟨⟨h0,h1,h2⟩,h3⟩:=h;refine⟨h0,h1,h2,fun i hi=>?_⟩;have:=h3 i hi;unfold a4e at this;rw[biw,biw,decide_eq_true_iff]at this;omega
def an0 {n:Int} (h0:0<=n) (h1:n<=16) {x:Fd} (h:inU n x=true) {j:Nat} (hj:j∈bc x.rhs):j<n.toNat:=by
 obtain⟨_,h3⟩:=(am8 h0 h1).1 h;obtain⟨h4,h5⟩:=un.1 hj;have h6:x.rhs>>>n.toNat=0:=(a1f (n:=n.toNat) bmq).1 (by unfold aj at h3;rwa [bjw bmq]at h3)
 rcases bmn j n.toNat with h|h
 · exact h
 rw[auc.1 h6 j h4 h]at h5;cases h5
end
section
def a42 (P:Nat->Nat->Nat->Bool) (I L:Nat):Option (Nat×Nat×Nat) :=
 (List.range I).findSome? fun i=>(List.range L).findSome? fun a=>((List.range L).find? fun b=>P i a b).map fun b=>(i,a,b)
def yb(l:List Rw)(x:Fd)(a b:Nat):Bool:=zk (l.getD a default) (l.getD b default) x.lhs&&!zk (l.getD a default) (l.getD b default) x.rhs
def vt(l:List Rw)(x:Fd)(a b:Nat):Bool:=zk (l.getD a default) (l.getD b default) x.lhs&&!(l.any fun r=>decide (r=j8 (l.getD a default) (l.getD b default) (x.lhs|||x.rhs)))
section
variable {l:List Rw}{x:Fd}{a b:Nat}
end
abbrev St:=Bool×Nat×Nat×Nat
abbrev St.pc(s:St):PC:=.agg [.raw (.bool s.1), .raw (.int .i64 (s.2.1:Int)), .raw (.int .i64 (s.2.2.1:Int)), .raw (.int .i64 (s.2.2.2:Int))]
def yf (l:List Rw) (p m:List Fd):Option St :=
 match a42 (fun i a b=>yb l (p.getD i default) a b) p.length l.length with
 |some x=>some (false,x)
 |none=>(a42 (fun i a b=>vt l (m.getD i default) a b) m.length l.length).map fun x=>(true,x)
end
section
def stV(n:Int)(i:Nat)(p:AS)(c:Nat):Int:=if ir p (c:Int)=true then(c:Int)else n+(i:Int)*n+(c:Int)
def stT(n:Int)(i:Nat)(p:AS)(k:Nat):Rw:=(List.range n.toNat).map fun c=>if c<k then stV n i p c else 0
def stR(n:Int)(i:Nat)(p:AS):Rw:=(List.range n.toNat).map fun c=>stV n i p c
def md(n:Int)(ps:List AS):List Rw:=(List.range ps.length).map fun i=>stR n i (ps.getD i default)
def b3d(n:Int)(i:Nat)(p:AS):(stR n i p).length=n.toNat:=by unfold stR;simp
def uq (n:Int) (ps:List AS):Int×List Rw×Int :=
 if n<0\/16<n then(0,[],7)else if 64<ps.length then(0,[],3)else if ps.all (fun p=>decide (p>>>n.toNat=0))=true then(n,dh (md n ps),0) else(0,[],1)
end
section
def a1b(n:Int):Rw:=(List.range n.toNat).map fun(i:Nat)=>(i:Int)
def b94 {n:Int} {i:Nat} {p:AS} {k:Nat} (h:k<n.toNat):(stR n i p).getD k default=stV n i p k:=by
 unfold stR;rw[bir,bjl,bkj h];rfl
def bak(l:List Rw)(x:Fd)(a b:Nat):Bool:=zk (l.getD a default) (l.getD b default) x.lhs&&!(l.any fun r=>decide (r=j8 (l.getD a default) (l.getD b default) x.rhs))
end
section
def Wel(n:Int)(l:List Rw):Prop:=∀r,r∈l->r.length=n.toNat/\∀z,z∈r->0<=z
section
variable {l:List Rw}
def a6j {i:Nat} (h:i<l.length):l.getD i default∈l:=by
 rw[bir,bik h];exact bin h
def w9 {n:Int} (h:tok n l=true):Wel n l:=by
 obtain⟨h0,h1,h2,h3⟩:=a14 h;unfold tok at h;rw[biw,decide_eq_true_iff,decide_eq_true_iff]at h;rintro r hr;obtain⟨i,hi,rfl⟩:=bj7 hr;have e:l.getD i default=l[i]:=by rw[bir,bik hi];rfl
 rw[<- e];refine⟨h3 i hi,fun z hz=>?_⟩;have:=h.2 i hi;unfold a4e at this;rw[biw,biw]at this;have h4:=this.1.2;rw[bjq,bl4]at h4;have:=h4 z hz;rw[decide_eq_true_iff]at this;omega
def b0t{n:Int}(h:tok n l=true):p9 l:=by
 unfold tok at h;rw[biw,decide_eq_true_iff,decide_eq_true_iff]at h
 have hs:∀d i:Nat,i+d+1<l.length->ltZ (l.getD i default) (l.getD (i+d+1) default)=true:=by
  intro d
  induction d with
  | zero =>
   intro i hi;have:=h.2 (i+1) hi;unfold a4e at this;rw[biw,bjx,decide_eq_true_iff]at this
   rcases this.2 with h5|h5
   · omega
   exact h5
  | succ d ih =>
   intro i hi;have h1:=ih i bmq;have:=h.2 (i+d+1+1) bmq;unfold a4e at this;rw[biw,bjx,decide_eq_true_iff]at this
   rcases this.2 with h5|h5
   · omega
   exact y8 h1 h5
 unfold p9;rw[bji];intro i j hi hj hij;obtain⟨d,rfl⟩:∃d,j=i+d+1:=⟨j-i-1,by omega⟩;have:=hs d i hj;rwa [bir,bik hi,bir,bik hj]at this
def as4{n:Int}(h0:0<=n)(h1:n<=16)(h2:l.length<=256)(hw:Wel n l)(ho:p9 l):tok n l=true:=by
 refine bax h0 h1 h2 fun i hi=>?_;obtain⟨h3,h4⟩:=hw _ (a6j hi);refine b6s bmq ?_ ?_
 · rw [bl4]
   intro z hz;have:=h4 z hz;rw[decide_eq_true_iff];omega
 rcases bka i with h|h
 · exact .inl h
 right;have:=bji.1 ho (i-1) i bmq hi bmq;rw[bir,bik bmq,bir,bik hi];exact this
def aer {n:Int} (h0:0<=n) (h1:n<=16) (h2:(dh l).length<=256) (hw:Wel n l):tok n (dh l)=true :=
 as4 h0 h1 h2 (fun r hr=>hw r (fw.1 hr)) (sh l)
def inV(l:List Rw)(M:Nat->Nat->Int)(z:Int):Prop:=∃i r,i<l.length/\r<(l.getD i default).length/\M i r=z
def an9{z:Int}:inV l (y6 l) z<->∃r,r∈l/\z∈r:=by
 constructor
 · rintro ⟨i,r,hi,hr,rfl⟩
   refine⟨_,a6j hi, ?_⟩;show(l.getD i default).getD r default∈_;rw[bir (l:=l.getD i default),bik hr];exact bin hr
 rintro⟨r,hr,hz⟩;obtain⟨i,hi,rfl⟩:=bj7 hr;obtain⟨k,hk,rfl⟩:=bj7 hz;have e:l.getD i default=l[i]:=by rw[bir,bik hi];rfl
 refine⟨i,k,hi,by rw[e];exact hk, ?_⟩;show(l.getD i default).getD k default=_;rw[e,bir,bik hk];rfl
def a9a{M:Nat->Nat->Int}{z:Int}:(∃r,r∈gi l M/\z∈r)<->inV l M z:=by
 constructor
 · rintro ⟨r,hr,hz⟩
   unfold gi at hr;rw[bj3]at hr;obtain⟨i,hi,rfl⟩:=hr;rw[bj3]at hz;obtain⟨k,hk,rfl⟩:=hz;exact⟨i,k,bje.1 hi,bje.1 hk,rfl⟩
 rintro⟨i,k,hi,hk,rfl⟩;refine⟨(List.range (l.getD i default).length).map (M i), ?_,bj3.2 ⟨k,bje.2 hk,rfl⟩⟩;unfold gi;exact bj3.2 ⟨i,bje.2 hi,rfl⟩
end
section
variable {l:List Rw}{a b:Nat}(ha:a<l.length)(hb:b<l.length)
theorem ape(x y:Int):loI x y=x\/loI x y=y:=by unfold loI;split<;>simp
theorem az5(x y:Int):hiI x y=x\/hiI x y=y:=by unfold hiI;split<;>simp
include ha hb in
theorem bcs {M:Nat->Nat->Int} {j:Nat} (hja:j<(l.getD a default).length) (hjb:j<(l.getD b default).length) {z:Int} (h:inV l (eqM M a b j) z):inV l M z:=by
 obtain⟨i,r,hi,hr,he⟩:=h;unfold eqM at he;split at he
 · rcases ape (M a j) (M b j)with h|h
   · exact⟨a,j,ha,hja,by rw[<- he,h]⟩
   exact⟨b,j,hb,hjb,by rw[<- he,h]⟩
 exact⟨i,r,hi,hr,he⟩
include ha hb in
theorem ajf:∀{js:List Nat} {M:Nat->Nat->Int},(∀j,j∈js->j<(l.getD a default).length/\j<(l.getD b default).length)->∀{z:Int},inV l (eqMs M a b js) z->inV l M z
 | [],_,_,_,h=>h
 |j::js,M,hj,z,h=>bcs ha hb (hj j bmu).1 (hj j bmu).2 (ajf (js:=js) (M:=eqM M a b j) (fun k hk=>hj k (by simp[hk])) h)
include ha hb in
theorem aeh:∀{js:List Nat} {M:Nat->Nat->Int},(∀j,j∈js->j<(l.getD a default).length/\j<(l.getD b default).length)->(∃j,j∈js/\¬M a j=M b j)->∃z,inV l M z/\¬inV l (eqMs M a b js) z
 | [],_,_,⟨_,h,_⟩=>by simp at h
 | j :: js,M,hj,⟨k,hk,hne⟩=>by
  by_cases e:M a j=M b j
  · have e2:eqMs M a b (j::js)=eqMs M a b js:=by
     show eqMs (eqM M a b j) a b js=_;rw[awb e]
    rw[e2];refine aeh (fun k hk=>hj k (by simp[hk])) ⟨k, ?_,hne⟩
    rcases biv.1 hk with h|h
    · subst h;exact absurd e hne
    exact h
  refine⟨hiI (M a j) (M b j), ?_,fun h=>?_⟩
  · rcases az5 (M a j) (M b j)with h|h
    · exact⟨a,j,ha,(hj j bmu).1,h.symm⟩
    exact⟨b,j,hb,(hj j bmu).2,h.symm⟩
  obtain⟨i,r,hi,hr,he⟩:=ajf ha hb (fun k hk=>hj k (by simp[hk])) (show inV l (eqMs (eqM M a b j) a b js) _ from h);unfold eqM at he;split at he
  · unfold hiI loI at he
    split at he<;>split at he<;>omega
  rename_i h2;exact h2 he
end
def aks(Z:List Int)(l:List Rw):Nat:=Z.countP fun z=>l.any fun r=>decide (z∈r)
def muC(Z:List Int)(l:List Rw):Nat:=aks Z l*300+(300-l.length)
def Cov(Z:List Int)(l:List Rw):Prop:=∀r,r∈l->∀z,z∈r->z∈Z
def w5 {l:List Rw} {z:Int}:(l.any fun r=>decide (z∈r))=true<->∃r,r∈l/\z∈r:=by
 rw[blh];exact⟨fun⟨r,h,h2⟩=>⟨r,h,of_decide_eq_true h2⟩,fun⟨r,h,h2⟩=>⟨r,h,decide_eq_true h2⟩⟩
def countP_lt' {p q:Int->Bool}:∀{Z:List Int},(∀z,p z=true->q z=true)->(∃z,z∈Z/\q z=true/\p z=false)->Z.countP p<Z.countP q
 | [],_,⟨_,h,_⟩=>by simp at h
 | x :: Z,h,⟨z,hz,hq,hp⟩=>by
  have hm:Z.countP p<=Z.countP q:=List.countP_mono_left fun z _=>h z;rw[bm5,bm5]
  rcases biv.1 hz with rfl|hz
  · rw [hq,hp]
    simp only[if_true,blp,if_false];omega
  have:=countP_lt' (Z:=Z) h ⟨z,hz,hq,hp⟩;by_cases e:p x=true
  · rw[e,h x e];omega
  rw[if_neg e];omega
def b0p {Z:List Int} {l l':List Rw} (h:∀z,(∃r,r∈l'/\z∈r)->∃r,r∈l/\z∈r) (h2:∃z,z∈Z/\(∃r,r∈l/\z∈r)/\¬ ∃r,r∈l'/\z∈r):aks Z l'<aks Z l:=by
 refine countP_lt' (fun z hz=>w5.2 (h z (w5.1 hz))) ?_;obtain⟨z,h3,h4,h5⟩:=h2;exact⟨z,h3,w5.2 h4,by rw[bj5];exact fun e=>h5 (w5.1 e)⟩
def b1q {Z:List Int} {l l':List Rw} (h:∀z,(∃r,r∈l'/\z∈r)->∃r,r∈l/\z∈r):aks Z l'<=aks Z l :=
 List.countP_mono_left fun z _ hz=>w5.2 (h z (w5.1 hz))
end
section
def ah4 {r:Rw}:∀{l:List Rw},r∉l->(kf r l).length=l.length+1
 | [],_=>rfl
 | y::l,h=>by
  unfold kf;have h1:¬r=y:=fun e=>h (by rw[e];simp);have h2:=ah4 (l:=l) (r:=r) fun e=>h (by simp[e]);rw[if_neg h1];split
  · simp
  simp only[bjv];omega
def as3 {l:List Rw} {r:Rw} (ho:p9 l):dh (l++[r])=kf r l:=by
 have e:l=dh l:=aue ho fun _=>Iff.rfl
 have:dh (l++[r])=kf r (dh l):=by
  unfold dh;rw[bj8];rfl
 rw[this,<- e]
section
variable {n:Int}{l:List Rw}{a b:Nat}{x:Fd}
abbrev fdL(l:List Rw)(a b:Nat)(x:Fd):List Rw:=dh (gi l (eqMs (y6 l) a b (bc x.rhs)))
def azp(hT:tok n l=true)(hu:inU n x=true)(ha:a<l.length)(hb:b<l.length)(hs:yb l x a b=true) :
 fdE n l a b x=(n,fdL l a b x,0)/\tok n (fdL l a b x)=true/\(∀z,(∃r,r∈fdL l a b x/\z∈r)->∃r,r∈l/\z∈r)/\∀Z,Cov Z l->muC Z (fdL l a b x)<muC Z l:=by
 obtain⟨h0,h1,h2,h3⟩:=a14 hT;have hw:=w9 hT;unfold yb at hs;rw[biw,bjq]at hs;obtain⟨hl,hr⟩:=hs
 have hj:∀j,j∈bc x.rhs->j<(l.getD a default).length/\j<(l.getD b default).length:=fun j hj=>by
  have:=an0 h0 h1 hu hj;exact⟨by rw[h3 a ha];exact this,by rw[h3 b hb];exact this⟩
 have hV:∀z,(∃r,r∈fdL l a b x/\z∈r)->∃r,r∈l/\z∈r:=fun z ⟨r,hr,hz⟩=>an9.1 (ajf ha hb hj (a9a.1 ⟨r,fw.1 hr,hz⟩));have hlen:(fdL l a b x).length<=l.length:=bj2 (aqo _) (blo (a1m _ _));refine⟨if_pos hl,aer h0 h1 (bj2 hlen h2) (fun r hr=>⟨?_,fun z hz=>?_⟩),hV,fun Z hZ=>?_⟩
 · unfold gi at hr
   rw[bj3]at hr;obtain⟨i,hi,rfl⟩:=hr;rw[bjf,blc];exact h3 i (bje.1 hi)
 · obtain ⟨r2,h5,h6⟩:=hV z ⟨r,fw.2 hr,hz⟩
   exact(hw r2 h5).2 z h6
 have hne:∃j,j∈bc x.rhs/\¬y6 l a j=y6 l b j:=by
  apply Classical.byContradiction;intro hno;rw[aic]at hr
  · cases hr
  intro i hi hh;apply Classical.byContradiction;intro e
  have hi2:i<32:=by
   have:=h3 a ha;omega
  rw[tc hi2]at hh;exact hno ⟨i,un.2 ⟨hi2,hh⟩,e⟩
 obtain⟨z,hz1,hz2⟩:=aeh ha hb hj hne;have hz3:=an9.1 hz1;have:=b0p (Z:=Z) hV ⟨z,by obtain⟨r,h7,h8⟩:=hz3;exact hZ r h7 z h8,hz3,fun⟨r,h7,h8⟩=>hz2 (a9a.1 ⟨r,fw.1 h7,h8⟩)⟩;unfold muC;omega
abbrev mvL(l:List Rw)(a b:Nat)(x:Fd):List Rw:=dh (l++[j8 (l.getD a default) (l.getD b default) (x.lhs|||x.rhs)])
def baw(hT:tok n l=true)(ha:a<l.length)(hb:b<l.length)(hs:vt l x a b=true) :
 mvE n l a b x=(0,[],3)\/(mvE n l a b x=(n,mvL l a b x,0)/\tok n (mvL l a b x)=true/\(∀z,(∃r,r∈mvL l a b x/\z∈r)->∃r,r∈l/\z∈r)/\∀Z,Cov Z l->muC Z (mvL l a b x)<muC Z l):=by
 obtain⟨h0,h1,h2,h3⟩:=a14 hT;have hw:=w9 hT;unfold vt at hs;rw[biw,bjq]at hs;obtain⟨hl,hr⟩:=hs;have hno:=b3c hr;have hE:mvE n l a b x=a57 n l (j8 (l.getD a default) (l.getD b default) (x.lhs|||x.rhs)):=if_pos hl;by_cases hbig:256<(mvL l a b x).length
 · left
   rw[hE];exact if_pos hbig
 right
 have hmem:∀z,z∈j8 (l.getD a default) (l.getD b default) (x.lhs|||x.rhs)->z∈l.getD a default\/z∈l.getD b default:=fun z hz=>by
  unfold j8 at hz;rw[bj3]at hz;obtain⟨i,hi,rfl⟩:=hz;have hi:=bje.1 hi;have hi2:i<(l.getD a default).length:=by rw[h3 a ha,<- h3 b hb];exact hi
  split
  · left
    rw[bir (l:=l.getD a default),bik hi2];exact bin hi2
  right;rw[bir (l:=l.getD b default),bik hi];exact bin hi
 have hV:∀z,(∃r,r∈mvL l a b x/\z∈r)->∃r,r∈l/\z∈r:=fun z ⟨r,hr,hz⟩=>by
  rcases bj1.1 (fw.1 hr)with h|h
  · exact⟨r,h,hz⟩
  rw[bjb]at h;subst h
  rcases hmem z hz with h|h
  · exact⟨_,a6j ha,h⟩
  exact⟨_,a6j hb,h⟩
 refine⟨by rw[hE];exact if_neg hbig,aer h0 h1 (Nat.le_of_not_lt fun e=>hbig e) (fun r hr=>⟨?_,fun z hz=>?_⟩),hV,fun Z hZ=>?_⟩
 · rcases bj1.1 hr with h|h
   · exact(hw r h).1
   rw[bjb]at h;subst h;rw[t8];exact h3 b hb
 · obtain ⟨r2,h5,h6⟩:=hV z ⟨r,fw.2 hr,hz⟩
   exact(hw r2 h5).2 z h6
 have e:(mvL l a b x).length=l.length+1:=by
  show(dh _).length=_;rw[as3 (b0t hT),ah4 hno]
 have:=b1q (Z:=Z) hV;unfold muC;omega
end
def av7(l:List Rw)(p m:List Fd)(s:St):Prop:=s.2.2.1<l.length/\s.2.2.2<l.length/\((s.1=false/\s.2.1<p.length/\yb l (p.getD s.2.1 default) s.2.2.1 s.2.2.2=true)\/(s.1=true/\s.2.1<m.length/\vt l (m.getD s.2.1 default) s.2.2.1 s.2.2.2=true))
def jc(n:Int)(l:List Rw)(p m:List Fd)(s:St):Int×List Rw×Int:=if s.1=true then mvE n l s.2.2.1 s.2.2.2 (m.getD s.2.1 default)else fdE n l s.2.2.1 s.2.2.2 (p.getD s.2.1 default)
def b5w{n:Int}{l:List Rw}{p m:List Fd}{s:St}(hT:tok n l=true)(hp:p.all (inU n)=true)(h:av7 l p m s) :
 jc n l p m s=(0,[],3)\/∃l',jc n l p m s=(n,l',0)/\tok n l'=true/\(∀Z,Cov Z l->Cov Z l'/\muC Z l'<muC Z l):=by
 obtain⟨ha,hb,h|h⟩:=h
 · obtain ⟨h1,h2,h3⟩:=h
   have hu:inU n (p.getD s.2.1 default)=true:=bjr.1 hp _ (by rw[bir,bik h2];exact bin h2);obtain⟨e,h4,h5,h6⟩:=azp hT hu ha hb h3;exact .inr ⟨_,by unfold jc;rw[if_neg (by rw[h1];decide)];exact e,h4,fun Z hZ=>⟨fun r hr z hz=>by obtain⟨r2,h7,h8⟩:=h5 z ⟨r,hr,hz⟩;exact hZ r2 h7 z h8,h6 Z hZ⟩⟩
 obtain⟨h1,h2,h3⟩:=h
 rcases baw hT ha hb h3 with e|⟨e,h4,h5,h6⟩
 · exact .inl (by unfold jc;rw[if_pos h1];exact e)
 exact .inr ⟨_,by unfold jc;rw[if_pos h1];exact e,h4,fun Z hZ=>⟨fun r hr z hz=>by obtain⟨r2,h7,h8⟩:=h5 z ⟨r,hr,hz⟩;exact hZ r2 h7 z h8,h6 Z hZ⟩⟩
def xm:Nat->Int->List Rw->List Fd->List Fd->List St->List St×(Int×List Rw)×Int
 |0,_,_,_,_,_=>([],(0,[]),0)
 | f + 1,n,l,p,m,acc =>
  match yf l p m with
  |none=>(acc,(n,l),0)
  | some s=>match jc n l p m s with
   |(n',l',e)=>if e=0 then xm f n' l' p m (acc++[s]) else([],(0,[]),e)
def aop {f:Nat} {n:Int} {l:List Rw} {p m:List Fd} {acc:List St} (hf:0<f) (h:yf l p m=none):xm f n l p m acc=(acc,(n,l),0):=by
 obtain⟨g,rfl⟩:∃g,f=g+1:=⟨f-1,by omega⟩;unfold xm;rw[h]
end
section
open Go.Proofs
abbrev St.c(s:St):Nat->PV:=fun j=>[.raw (.bool s.1), .raw (.int .i64 (s.2.1:Int)), .raw (.int .i64 (s.2.2.1:Int)), .raw (.int .i64 (s.2.2.2:Int))].getD j .any
abbrev stl(l:List St):PV:=psl 4 St.c l
abbrev ckE(n:Int)(l:List Rw)(p m:List Fd):Int:=if tok n l=true then zf n p m else 1
def a9j(F:Nat)(n:Int)(l:List Rw)(p m:List Fd):List St×(Int×List Rw)×Int:=if ckE n l p m=0 then xm F n l p m [] else([],(0,[]),ckE n l p m)
def auu(l:List Rw):Cov l.flatten l:=fun r hr z hz=>List.mem_flatten.2 ⟨r,hr,hz⟩
structure StI (F:Nat) (n:Int) (l:List Rw) (p m:List Fd) (x:Nat×List Rw×List St):Prop where
 t:tok n x.2.1=true
 c:Cov l.flatten x.2.1
 u:muC l.flatten x.2.1<x.1
 b:x.2.2.length+x.1<=F
 e:xm x.1 n x.2.1 p m x.2.2=xm F n l p m []
theorem StI.start{F:Nat}{n:Int}{l:List Rw}{p m:List Fd}(hT:tok n l=true)(hF:muC l.flatten l<F):StI F n l p m (F,l,[]):=⟨hT,auu l,hF,by simp,rfl⟩
theorem StI.fin {F:Nat} {n:Int} {l:List Rw} {p m:List Fd} {x:Nat×List Rw×List St} (h:StI F n l p m x) (hS:yf x.2.1 p m=none):xm F n l p m []=(x.2.2,(n,x.2.1),0):=by
 have hu:=h.u;rw[<- h.e,aop bmq hS]
end
section
abbrev FU:Nat:=1300000
abbrev yx(n:Int)(x:Fd):List AS:=[x.lhs|||x.rhs,x.lhs|||(aj n&&&~~~x.rhs)]
def bgd(n:Int)(p m:List Fd)(x:Fd):Bool×Int :=
 if zf n p m=0 then
  if inU n x=true then
   if (uq n (yx n x)).2.2=0 then
    if(a9j FU (uq n (yx n x)).1 (uq n (yx n x)).2.1 p m).2.2=0 then((a9j FU (uq n (yx n x)).1 (uq n (yx n x)).2.1 p m).2.1.2.any (fun r=>decide (r=a1b n)),0)
    else(false,(a9j FU (uq n (yx n x)).1 (uq n (yx n x)).2.1 p m).2.2)
   else(false,(uq n (yx n x)).2.2)
  else(false,1)
 else(false,zf n p m)
end
section
open Go.Proofs
def muK(p:List Fd)(k:Nat):Bool:=decide (p.length<=k)
def ixK(p:List Fd)(k:Nat):Nat:=if p.length<=k then k-p.length else k
def chE(l:List Rw)(p m:List Fd)(s:St):Bool:=if s.1=true then bak l (m.getD s.2.1 default) s.2.2.1 s.2.2.2 else yb l (p.getD s.2.1 default) s.2.2.1 s.2.2.2
def bcc(l:List Rw)(p m:List Fd)(k a b:Nat):Bool:=decide (a≠b)&&chE l p m (muK p k,ixK p k,a,b)
def bfs(l:List Rw)(p m:List Fd):Option St:=(a42 (bcc l p m) (p.length+m.length) l.length).map fun x=>(muK p x.1,ixK p x.1,x.2.1,x.2.2)
section
variable {l:List Rw}{p m:List Fd}{k a b:Nat}
end
end
section
def ax8(l:List Rw)(p m:List Fd)(mu:Bool)(i a b:Int):Prop:=a<0\/(l.length:Int)<=a\/b<0\/(l.length:Int)<=b\/a=b\/i<0\/(mu=true/\(m.length:Int)<=i)\/(mu=false/\(p.length:Int)<=i)
instance (l:List Rw)(p m:List Fd)(mu:Bool)(i a b:Int):Decidable (ax8 l p m mu i a b):=by unfold ax8;infer_instance
def b66 (n:Int) (l:List Rw) (p m:List Fd) (mu:Bool) (i a b:Int):Int×List Rw×Int :=
 if ckE n l p m=0 then if ax8 l p m mu i a b then(0,[],1)else jc n l p m (mu,i.toNat,a.toNat,b.toNat) else(0,[],ckE n l p m)
section
variable {n:Int}{l:List Rw}{p m:List Fd}{mu:Bool}{i a b:Int}
end
end
end Go.Hx
