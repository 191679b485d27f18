/- A part of the proof: Lw Hx26 Hx25 Ch1 Ch2 X1 X2 Ch3 Ch4 Ch5 Ch6 Ch7 Ch8 Ch9 Ch10 Ch11 Ch12 Ch13 Ch14 Ch19 Ch21. -/
import Derived.Deep.DeepHandedRow
import Derived.OpenShut
import Derived.ProofKit
import Derived.Shelf.SlLaysF
import Derived.Shelf.SlSortCmp.NoneTotal
import Derived.Test.YtmoggbnlhllhaaaGreatDoorCards
import Derived.Test.YtmoggbnlhllhaaaGreatDoorProg
import Derived.Test.YtmoggbnlhllhaaaGreatDoorRows
import Derived.Test.YtmoggbnlhllhaaaGreatDoorTie
import Derived.WalkKit
import Derived.Test.YtmoggbnlhllhaaaGreatDoorUx18
set_option linter.all false
set_option maxRecDepth 100000
namespace Go.Hx
section
open Go.Proofs Go.ChangeShapes Go.WideShapes Go.ChangeAt Go.RowKit
def own:ownKnob bqh.godebug=none:=by kernel_rfl
def b9u : bqh.globalNamed "math/bits.deBruijn32tab" = some 0 := by kernel_rfl
def azq:(bqh.globals[0]?).map (·.type)=some 278:=by kernel_rfl
def ax9:bqh.cellsOf 278=32:=by kernel_rfl
def bcj:bqh.cellsOf 5=1:=by kernel_rfl
def aj2:List Int:=[0,1,28,2,29,14,24,3,30,22,20,15,25,17,4,8,31,27,13,23,21,19,16,7,26,12,18,6,11,5,10,9]
def bf8 {W : World} (h : laidMetH bqh [("math/bits.deBruijn32tab", YtmoggbnlhllhaaaGreatDoor.Rows.laid_math_bits_deBruijn32tab)] W) : qs (ec W) := by
 have ht : Lib.TabIs bqh W "math/bits.deBruijn32tab" .u8 aj2 := Lib.tabIs_of_head (rest := []) b9u azq Tryz.underlying278 Tryz.underlying5 bcj ax9 h;intro b off v hv;unfold xv ud at hv;split at hv
 · have hlt:off<32:=by
    rcases bpk off 32 with h|h
    · exact h
    rw[bps (by simpa using h)]at hv;cases hv
   have hc:=ht.cell b9u off hlt
   have e:v=.int .u8 (aj2.getD off 0):=by
    have:(aj2.map fun z=>Value.int .u8 z)[off]? = some v:=hv;rw[bn1]at this;rw[bm7]
    cases hz:aj2[off]? with
    |none=>rw[hz]at this;cases this
    |some z=>rw[hz]at this;exact(Option.some.inj this).symm
   rw[e];unfold World.cell? at hc;unfold gw ec;split at hc
   · rename_i c t fr hh
     rw[hh];simpa using hc
   cases hc
 cases hv
noncomputable def laidWorld (os:Os):World :=
 { World.holding bqh os ⟨#[],#[],[]⟩with heap:=(World.holding bqh os ⟨#[],#[],[]⟩).heap.modify 0 fun
  | .cells _ t frozen=>.cells (aj2.map fun z=>Value.int .u8 z).toArray t frozen
  |o=>o }
end
section
open Go.Proofs Go.Proofs.YtmoggbnlhllhaaaGreatDoor
open Go.RowKit Go.ChangeShapes Go.WideShapes Go.ChangeAt
section
variable {H:Type}
def a7g {d:DataW H} {l:List (DataW H)} (h:d∈l):Rows.uptoBulk d<=Rows.uptoBulkAll l:=by
 induction l with
 |nil=>cases h
 | cons x r ih =>
  rw[Rows.uptoBulkAll]
  rcases bm9.1 h with e|e
  · subst e;omega
  have:=ih e;omega
def b2t (d:DataW H):1<=Rows.uptoBulk d:=by
 cases d with
 |lit l=>cases l<;>simp[Rows.uptoBulk]
 |_=>simp[Rows.uptoBulk]
def b0h (l:List (DataW H)):l.length<=Rows.uptoBulkAll l:=by
 induction l with
 |nil=>simp
 |cons x r ih=>have:=b2t x;rw[Rows.uptoBulkAll,bna];omega
def ayb {l r:List (DataW H)} {d:DataW H} (h:d∈l):Rows.uptoBulk d<=Rows.uptoBulk (.slice l r):=by
 have:=a7g h;rw[Rows.uptoBulk];omega
def b3y {l:List (DataW H)} {d:DataW H} (h:d∈l):Rows.uptoBulk d<=Rows.uptoBulk (.agg l):=by
 have:=a7g h;rw[Rows.uptoBulk];omega
def b3u (l r:List (DataW H)):l.length<=Rows.uptoBulk (.slice l r):=by
 have:=b0h l;rw[Rows.uptoBulk];omega
end
def RdB (P:Program) (t:TypeId) (n:Nat) {α:Type} (c:α->Nat->PV) (B:Nat->α->Prop):Prop :=
 ∀ (H:Type) (enc:TypeId×Value->H) (w:World) (sp:Nat->Bool) (held:Bool) (fuel:Nat) (cs:List Value) (x:DataW H×List MemPlace),DataW.trod enc P w 0 sp held fuel t cs=some x ->
  cs.length=n/\∃a:α,B (Rows.uptoBulk x.1) a/\∀j,j<n->∃v,cs[j]? = some v/\aq (ec w) (c a j) v
section
variable {P:Program}{t e:TypeId}
theorem Rd.toB {n:Nat} {α:Type} {c:α->Nat->PV} (h:Rd P t n c):RdB P t n c fun _ _=>True:=by
 intro H enc w sp held fuel cs x hx;obtain⟨h1,a,h2⟩:=h _ enc w sp held fuel cs x hx;exact⟨h1,a,trivial,h2⟩
section
variable {α:Type}{B:Nat->α->Prop}{c:α->Nat->PV}
theorem RdB.co {n:Nat} {β:Type} {c':β->Nat->PV} {B':Nat->β->Prop} (h:RdB P t n c B) (f:α->β) (hB:∀b a,B b a->B' b (f a)) (hc:∀a j,j<n->CoP (c a j) (c' (f a) j)):RdB P t n c' B':=by
 intro H enc w sp held fuel cs x hx;obtain⟨h1,a,h0,h2⟩:=h _ enc w sp held fuel cs x hx;refine⟨h1,f a,hB _ _ h0,fun j hj=>?_⟩;obtain⟨v,h3,h4⟩:=h2 j hj;exact⟨v,h3,hc a j hj _ _ h4⟩
def atb{s:Nat}[Inhabited α](mono:∀b b' x,b<=b'->B b x->B b' x)(ht:P.underlying t=some (.slice e))(hc:P.cellsOf e=s)(hs:0<s)(h:RdB P e s c B):RdB P t 1 (azr s c) (fun b l=>l.length<=b/\∀i,i<l.length->B b (l.getD i default)):=by
 classical
 intro H enc w sp held fuel cs x hx
 rcases DataW.trod_slice ht hx with⟨rfl,_⟩|⟨a,len,cap,elems,rest,n,rfl,rfl,rfl,hb,hl,hm,hlen,hel,_,_⟩
 · refine ⟨rfl,[],⟨bm3 _,fun i hi=>absurd hi (bm6 i)⟩,fun j hj=>?_⟩
   obtain rfl:j=0:=by omega
   exact⟨_,rfl,none,0,rfl,bm1 _,bm3 _,(fun hh=>by cases hh),fun hh=>absurd hh (boj 0)⟩
 have each:∀i,i<len->∃q:α,B (Rows.uptoBulk (DataW.slice (elems.map (·.1)) (rest.map (·.1)))) q/\∀j,j<s->∃v,w.cell? (a.add (i*s+j))=some v/\aq (ec w) (c q j) v:=by
  intro i hi;have h1:=hel i hi;rw[hc]at h1;rw[blz bpw]at h1;obtain⟨cs',h2,h3⟩:=Option.bind_eq_some_iff.1 h1;obtain⟨_,h4,h5⟩:=World.cells?_some h2;obtain⟨_,q,h9,h6⟩:=h _ enc w sp held n cs' _ h3;refine⟨q,mono _ _ q (ayb (List.mem_map_of_mem (bma _))) h9,fun j hj=>?_⟩;obtain⟨v,h7,h8⟩:=h6 j hj;refine⟨v, ?_,h8⟩;have:=h5 j hj;rw[h7]at this;rw[<- this];congr 1;unfold Addr.add;by_cases hj0:j=0
  · subst hj0
    simp
  by_cases hi0:i*s=0
  · simp[hi0,hj0]
  have:¬(i*s+j=0):=by omega
  simp only[hj0,hi0,this,if_false];congr 1;omega
 refine⟨rfl,(List.range len).map fun i=>if hi:i<len then Classical.choose (each i hi)else default,⟨?_,fun i hi=>?_⟩,fun j hj=>?_⟩
 · rw [bn0,bpc,<- hlen]
   have:=b3u (elems.map (·.1)) (rest.map (·.1));rw[bn0]at this;exact this
 · have hi:i<len:=by simpa using hi
   have hch:=(Classical.choose_spec (each i hi)).1;have e:((List.range len).map fun i=>if hi:i<len then Classical.choose (each i hi)else default).getD i default=Classical.choose (each i hi):=by simp[List.getD,hi]
   rw[e];exact hch
 obtain rfl:j=0:=by omega
 refine⟨_,rfl,some a,cap,by simp,by simpa using hl,hm,(fun hh=>by cases hh),fun hn=>?_⟩;have hn:0<len:=by simpa using hn
 have hspot:a.spot=none:=by
  obtain⟨q,_,hq⟩:=each 0 hn;obtain⟨v,hv,_⟩:=hq 0 hs;have:a.add (0*s+0)=a:=by simp[Addr.add]
  rw[this]at hv;unfold World.cell? at hv;split at hv
  · split at hv
    · cases hv
    rename_i hsp;simpa using hsp
  cases hv
 refine⟨a.block,a.off, ?_,fun i j hi hj=>?_⟩
 · obtain ⟨b,o,spo⟩:=a
   simp only at hspot;subst hspot;rfl
 have hi:i<len:=by simpa using hi
 have hch:=(Classical.choose_spec (each i hi)).2;obtain⟨v,hv,hr⟩:=hch j hj;refine⟨v, ?_, ?_⟩
 · unfold World.cell? at hv
   have hblk:(a.add (i*s+j)).block=a.block:=by unfold Addr.add;split<;>rfl
   have hoff:(a.add (i*s+j)).off=a.off+(i*s+j):=by
    unfold Addr.add;split
    · rename_i h0;rw[h0];rfl
    rfl
   rw[hblk,hoff]at hv;unfold gw ec;split at hv
   · rename_i hb'
     rw[hb'];split at hv
     · cases hv
     exact hv
   cases hv
 have:lf c ((List.range len).map fun i=>if hi:i<len then Classical.choose (each i hi)else default) i j=c (Classical.choose (each i hi)) j:=by
  unfold lf;simp[List.getD,hi]
 rw[this];exact hr
def asd {H:Type} {enc:TypeId×Value->H} {w:World} {sp:Nat->Bool} {held:Bool} {fuel:Nat} {cs:List Value} {x:DataW H×List MemPlace} {fs:Array Field} (ht:P.underlying t=some (.struct fs)) (h:DataW.trod enc P w 0 sp held fuel t cs=some x) :
 cs.length=P.cellsOf t/\∃n,∀(i:Nat) (f:Field),fs[i]? = some f->∃y,DataW.trod enc P w 0 sp held n f.type ((cs.drop f.offset).take (P.cellsOf f.type))=some y/\Rows.uptoBulk y.1<=Rows.uptoBulk x.1:=by
 obtain⟨xs,n,_,rfl,h1,h2,h3⟩:=DataW.trod_struct ht h;refine⟨h1,n,fun i f hf=>?_⟩;have:=h3 i f hf;rw[this];have hi:i<xs.length:=by rw[h2];exact(bm5.1 hf).1
 exact⟨_,blz hi,b3y (List.mem_map_of_mem (bma hi))⟩
def a4w {H:Type} {enc:TypeId×Value->H} {w:World} {sp:Nat->Bool} {held:Bool} {n off s b:Nat} {ft:TypeId} {cs:List Value} {y:DataW H×List MemPlace} (mono:∀b b' x,b<=b'->B b x->B b' x) (h:RdB P ft s c B) (hy:DataW.trod enc P w 0 sp held n ft ((cs.drop off).take (P.cellsOf ft))=some y/\Rows.uptoBulk y.1<=b):
 ∃a:α,B b a/\∀j,j<s->∃v,cs[off+j]? = some v/\aq (ec w) (c a j) v:=by
 obtain⟨h1,a,h0,h2⟩:=h _ enc w sp held n _ y hy.1;refine⟨a,mono _ _ a hy.2 h0,fun j hj=>?_⟩;obtain⟨v,h3,h4⟩:=h2 j hj;refine⟨v, ?_,h4⟩;rw[bnb]at h3;split at h3
 · rwa [bpo]at h3
 cases h3
end
end
section
variable {P:Program}{t e:TypeId}
def akv {m:Imm} {c:Nat->PV}:∀{n:Nat} {us:List Value} {k:Nat},us.length=n->(∀j,j<n->∃v,us[j]? = some v/\aq m (c (k+j)) v)->f0 m ((List.range' k n).map c) us
 |0,[],_,_,_=>trivial
 | n+1,u::us,k,hl,h=>by
  obtain⟨v,h1,h2⟩:=h 0 bpw;simp only[List.getElem?_cons_zero,bly]at h1;subst h1;refine⟨h2,akv (n:=n) (k:=k+1) (by simpa using hl) fun j hj=>?_⟩;obtain⟨v,h3,h4⟩:=h (j+1) bpw;refine⟨v,by simpa using h3, ?_⟩;rwa [show k+1+j=k+(j+1) by omega]
 |0,_::_,_,h,_=>by cases h
 |_+1,[],_,h,_=>by cases h
def apv {H:Type} {enc:TypeId×Value->H} {W:World} {cs:Array Value} {d:DataW H} {ps:List MemPlace} {n:Nat} {α:Type} {c:α->Nat->PV} {B:Nat->α->Prop} (h:RdB P t n c B) (hd:DataW.Trod enc P W 0 (fun _=>true) true t (.agg cs) d ps) :
 ∃a:α,B (Rows.uptoBulk d) a/\jm (ec W) (.agg ((List.range' 0 n).map (c a))) (.agg cs):=by
 obtain⟨fuel,hf⟩:=hd;obtain⟨hl,a,h0,ha⟩:=h _ enc W _ _ fuel _ _ hf;refine⟨a,h0,cs.toList,by simp,akv hl fun j hj=>?_⟩;rw[bn9];exact ha j hj
end
end
section
open Go.RowKit
section
variable {w0:World}{nt:Nat}{c:Ctx}{s:S}{a:Act}{w:World}
section
variable {g:Nat->Nat->Nat->PV}{m:Nat->Nat}
theorem apw {base:Nat} {o:ap} {id:Nat} {e et:TypeId} {es:Nat} (hes:0<es) (hb:c.blk id=noB) (hv:∃ad,c.own id=.slice ad 0 0):dq base c o w id (.nest e et es 0 m g none):=by
 obtain⟨ad,hv⟩:=hv;refine⟨hes,bm3 _,fun i hi=>absurd hi (bm6 i),fun b=>?_,fun i b hi=>absurd hi (bm6 i),fun i hi=>absurd hi (bm6 i), .inl ⟨rfl,ad,hv⟩⟩;rw[hb,hv];constructor
 · exact fun h=>h.elim
 rintro(h|⟨i,hi,_⟩)
 · cases ad<;>simp[au]at h
 grind
variable {f:Nat->Nat->PV}
def a3g {imm:Imm} {s':Nat} {u:Value} (h:aq imm (.sl 0 s' true f) u):∃ad,u=.slice ad 0 0:=by
 obtain⟨ad,cap,rfl,_,_,hc,_⟩:=h;simp_all
def fv(m:Nat->Nat)(n k:Nat):Nat->Nat:=fun i=>bif Nat.beq i n then k else m i
def fw(g:Nat->Nat->Nat->PV)(n:Nat)(f:Nat->Nat->PV):Nat->Nat->Nat->PV:=fun i=>bif Nat.beq i n then f else g i
def su(m:Nat->Nat)(n k:Nat):fv m n k n=k:=by simp[fv]
def rz {n k i:Nat} (h:i≠n):fv m n k i=m i:=by
 have:Nat.beq i n=false:=by rw[bmh];exact fun hb=>h (bmt hb)
 simp[fv,this]
def ano(g:Nat->Nat->Nat->PV)(n:Nat)(f:Nat->Nat->PV):fw g n f n=f:=by simp[fw]
def ahl {n i:Nat} (h:i≠n):fw g n f i=g i:=by
 have:Nat.beq i n=false:=by rw[bmh];exact fun hb=>h (bmt hb)
 simp[fw,this]
def a5o{v:Value}{b:Nat}(h:au v=some b):cg v=some b:=by
 unfold au at h;split at h
 · split at h
   · cases h
   exact h
 cases h
theorem ag.absorb(h:ag w0 nt c s a w){id id' k n:Nat}{e et:TypeId}{es:Nat}(ho:s.o id=some (.nest e et es n m g (some (id',k))))(ho':s.o id'=some (.arr true es et k f)):
 ∃c',c'.old=c.old/\ag w0 nt c' ((s.setO id (some (.nest e et es (n+1) (fv m n k) (fw g n f) none))).setO id' none) a w:=by
 have hne:id'≠id:=by rintro rfl;rw[ho]at ho';cases ho'
 have hnk:jt 0 c s.o w id e et es n m g (some (id',k)):=h.objs id _ ho;obtain⟨q0,q1,q5⟩:=h.objs id' _ ho'
 have hcb:∀b,au (c.own id')=some b->c.blk id' b:=fun b hb=>by
  rcases q5 with⟨q6,_⟩|⟨q7,_,q8⟩
  · rw[q6];exact a5o hb
  obtain⟨ad,cap,r1,_,_,r4,_⟩:=q8
  rcases q7 with q7|q7
  · cases q7
  subst q7;rw[r1,r4 rfl]at hb;cases ad<;>simp[au]at hb
 have hrow:(k=0/\∃a,c.own id'=.slice a 0 0)\/∃ys,w.ownsRow 0 et es (c.own id') k ys/\∀r j,r<k->j<es->∃x,ys[r*es+j]? = some x/\aq c.imm (f r j) x:=by
  rcases q5 with⟨q6,xs,q7,q8⟩|⟨q6,q7,q8⟩
  · grind
  rcases q6 with q6|q6
  · cases q6
  subst q6;exact .inl ⟨rfl,a3g q8⟩
 let o':ap:=((s.setO id (some (.nest e et es (n+1) (fv m n k) (fw g n f) none))).setO id' none).o
 have oid:o' id=some (.nest e et es (n+1) (fv m n k) (fw g n f) none):=by
  show(if id=id' then _ else if id=id then _ else _)=_
  grind
 have oid':o' id'=none:=by
  show(if id'=id' then _ else _)=_
  grind
 have oelse:∀q,q≠id->q≠id'->o' q=s.o q:=fun q h1 h2=>by
  show(if q=id' then _ else if q=id then _ else _)=_
  grind
 let c':Ctx:={ old:=c.old,imm:=c.imm,tab:=c.tab,own:=c.own,blk:=fun q=>if q=id then(fun b=>c.blk id b\/au (c.own id')=some b)else c.blk q,rows:=fun q=>if q=id then(fun i=>if i=n then c.own id' else c.rows id i)else c.rows q }
 have rlt:∀i,i<n->c'.rows id i=c.rows id i:=fun i hi=>by
  grind
 have rn:c'.rows id n=c.own id':=by
  grind
 have hevo:∀q,Evo c s.o c' o' q:=fun q=>by
  by_cases h1:q=id
  · subst h1
    refine .inr (.inr ⟨_,_,1,e,n+1,n+1,ho,rfl,oid,rfl,bm1 _,fun _=>rfl,fun e2 et2 es2 n2 m2 g2 pd2 hb2=>?_⟩);cases hb2;refine⟨_,_,_,_,_,_,rfl,bpg _,fun i hi=>⟨by rw[rz bpw];exact bm1 _,fun _=>rlt i hi⟩⟩
  by_cases h2:q=id'
  · subst h2;exact .inl oid'
  exact Evo.of_same (oelse q h1 h2) rfl (by show(if q=id then _ else _)=_;rw[if_neg h1])
 have bid:∀q,q≠id->c'.blk q=c.blk q:=fun q hq=>by show(if q=id then _ else _)=_;rw[if_neg hq]
 have bself:∀b,c'.blk id b<->(c.blk id b\/au (c.own id')=some b):=fun b=>by
  grind
 have hold:∀q ob,o' q=some ob->q≠id->q≠id'/\s.o q=some ob:=fun q ob hq h1=>by
  grind
 have whose:∀b,c'.blk id b->c.blk id b\/c.blk id' b:=fun b hb=>((bself b).1 hb).imp (fun z=>z) (hcb b);refine⟨c',rfl,⟨h.defers,h.size,h.below,fun d x hx=>(h.tmps d x hx).evo (Imm.le.refl c.imm) fun q _=>hevo q,fun q ob hq=>?_,fun q q' ob ob' b hq hq' hb hb'=>?_,h.imm,fun q ob b hq hb=>?_,h.was,h.frm,fun q ob b hq hb=>?_,fun q hq=>(h.fixed q hq).trans (hevo q)⟩⟩
 · by_cases h1:q=id
   · subst h1
     have hq:o' q=some ob:=hq;rw[oid]at hq;cases hq;have hlen:=hnk.len;simp only[mj]at hlen;refine⟨hnk.pos,hlen,fun i hi=>?_,fun b=>?_,fun i b hi hb=>?_,fun i hi=>?_, .inr ?_⟩
     · by_cases hin:i=n
       · subst hin;rw[su];exact q1
       rw[rz hin];exact hnk.lens i bpw
     · rw [bself,hnk.blks]
       constructor
       · rintro ((h2|⟨i,hi,h2⟩)|h2)
         · exact .inl h2
         · grind
         exact .inr ⟨n,by omega,by rw[rn];exact h2⟩
       grind
     · have far:∀b,au (c.own id')=some b->¬c.blk q b:=fun b h2 h3=>hne (h.inj id' q _ _ b ho' ho (hcb b h2) h3)
       by_cases hin:i=n
       · subst hin
         rw[rn]at hb;refine⟨fun h2=>far b hb ((hnk.blks b).2 (.inl h2)),fun i' hi' h2=>?_⟩;by_cases hin':i'=i
         · exact hin'
         rw[rlt i' bpw]at h2;exact(far b hb ((hnk.blks b).2 (.inr ⟨i',by omega,h2⟩))).elim
       rw[rlt i bpw]at hb;obtain⟨h2,h3⟩:=hnk.apart i b bpw hb;refine⟨h2,fun i' hi' h4=>?_⟩;by_cases hin':i'=n
       · subst hin'
         rw[rn]at h4;exact(far b h4 ((hnk.blks b).2 (.inr ⟨i,by omega,hb⟩))).elim
       grind
     · by_cases hin:i=n
       · subst hin
         rw[rn,su,ano];exact hrow
       rw[rlt i bpw,rz hin,ahl hin];exact hnk.row i bpw
     rcases hnk.top with⟨h2,_⟩|⟨xs,t1,t2,t3⟩
     · simp[mj]at h2
     refine⟨xs,t1,fun i hi=>?_,fun p hp=>by cases hp⟩;by_cases hin:i=n
     · subst hin
       obtain⟨x,hx,hxr⟩:=t3 _ rfl;obtain⟨_,_,hr3⟩:=hxr;rw[rn,hx,(hr3 _ _ _ _ ho' rfl).2 rfl]
     grind
   obtain⟨h2,h3⟩:=hold q ob hq h1;exact(h.objs q ob h3).keep (Imm.le.refl c.imm) rfl (bid q h1) (fun j _=>hevo j) (fun b _=>rfl) (by show(if q=id then _ else _)=_;rw[if_neg h1])
 · by_cases h1:q=id
   · by_cases h2:q'=id
     · rw[h1,h2]
     obtain⟨h3,h4⟩:=hold q' ob' hq' h2;rw[bid q' h2]at hb';subst h1
     rcases whose b hb with h5|h5
     · exact h.inj q q' _ _ b ho h4 h5 hb'
     exact(h3 (h.inj q' id' _ _ b h4 ho' hb' h5)).elim
   obtain⟨h3,h4⟩:=hold q ob hq h1;rw[bid q h1]at hb;by_cases h2:q'=id
   · subst h2
     rcases whose b hb' with h5|h5
     · exact h.inj q q' _ _ b h4 ho hb h5
     exact(h3 (h.inj q id' _ _ b h4 ho' hb h5)).elim
   obtain⟨h5,h6⟩:=hold q' ob' hq' h2;rw[bid q' h2]at hb';exact h.inj q q' _ _ b h4 h6 hb hb'
 · by_cases h1:q=id
   · subst h1
     rcases whose b hb with h5|h5
     · exact h.sep q _ b ho h5
     exact h.sep id' _ b ho' h5
   rw[bid q h1]at hb;exact h.sep q ob b (hold q ob hq h1).2 hb
 by_cases h1:q=id
 · subst h1
   rcases whose b hb with h5|h5
   · exact h.fsep q _ b ho h5
   exact h.fsep id' _ b ho' h5
 rw[bid q h1]at hb;exact h.fsep q ob b (hold q ob hq h1).2 hb
def a3a(es:Nat)(m:Nat->Nat)(g:Nat->Nat->Nat->PV):Nat->Nat->PV:=fun i _=>.sl (m i) es false (g i)
end
open Classical in
noncomputable def thinImm (c:Ctx) (w:World) (id n:Nat):Imm:=fun b=>if ∃i,i<n/\au (c.rows id i)=some b then w.heap[b]? else c.imm b
theorem ag.thin(h:ag w0 nt c s a w){id n:Nat}{e et:TypeId}{es:Nat}{m:Nat->Nat}{g:Nat->Nat->Nat->PV}(ho:s.o id=some (.nest e et es n m g none)) :
 ∃c',c'.old=c.old/\ag w0 nt c' (s.setO id (some (.arr true 1 e n (a3a es m g)))) a w:=by
 have hnk:jt 0 c s.o w id e et es n m g none:=h.objs id _ ho;have hin:∀b,(∃i,i<n/\au (c.rows id i)=some b)->c.blk id b:=fun b hb=>(hnk.blks b).2 (.inr hb)
 have hle:Imm.le c.imm (thinImm c w id n):=fun b ob hb=>by
  unfold thinImm;by_cases hk:∃i,i<n/\au (c.rows id i)=some b
  · rw[h.sep id _ b ho (hin b hk)]at hb;cases hb
  grind
 let ob':aa:=.arr true 1 e n (a3a es m g)
 let bk:Nat->Prop:=fun b=>au (c.own id)=some b
 let c':Ctx:={ old:=c.old,imm:=thinImm c w id n,tab:=c.tab.mono hle,own:=c.own,blk:=fun q=>if q=id then bk else c.blk q,rows:=c.rows }
 have oid:(s.setO id (some ob')).o id=some ob':=by show(if id=id then _ else _)=_;rw[if_pos rfl]
 have oelse:∀q,q≠id->(s.setO id (some ob')).o q=s.o q:=fun q hq=>by show(if q=id then _ else _)=_;rw[if_neg hq]
 have hevo:∀q,Evo c s.o c' (s.setO id (some ob')).o q:=fun q=>by
  by_cases h1:q=id
  · subst h1
    exact .inr (.inr ⟨_, .arr true 1 e n (a3a es m g),1,e,n,n,ho,rfl,oid,rfl,bm1 _,fun _=>rfl,fun _ _ _ _ _ _ _ hb=>by cases hb⟩)
  exact Evo.of_same (oelse q h1) rfl rfl
 have bid:∀q,q≠id->c'.blk q=c.blk q:=fun q hq=>by show(if q=id then _ else _)=_;rw[if_neg hq]
 have bself:c'.blk id=bk:=by show(if id=id then _ else _)=_;rw[if_pos rfl]
 have whose:∀b,c'.blk id b->c.blk id b:=fun b hb=>by
  rw[bself]at hb;exact(hnk.blks b).2 (.inl hb)
 have hrowP:∀i,i<n->aq (thinImm c w id n) (.sl (m i) es false (g i)) (c.rows id i):=fun i hi=>by
  obtain⟨ad,cap,q1,q2,q3⟩:=afc (h.objs id _ ho) hi;refine⟨ad,cap,q1,q2,q3,(fun hh=>by cases hh),fun hm=>?_⟩;obtain⟨b,cap',ys,r1,r2,_,r3⟩:=aah (h.objs id _ ho) hi hm;rw[q1]at r1;simp only[Value.slice.injEq,true_and]at r1;obtain⟨rfl,rfl⟩:=r1;refine⟨b,0,rfl,fun r j hr hj=>?_⟩;obtain⟨x,_,hx,hxr⟩:=r3 r j hr hj;refine⟨x, ?_,aq.mono hle hxr⟩;rw[bn9];unfold gw thinImm;rw[if_pos ⟨i,hi,r2⟩];unfold World.cell? at hx
  grind
 refine⟨c',rfl,⟨h.defers.keep (fun _ _=>rfl) (fun D hD hd=>?_),h.size,h.below,fun d x hx=>(h.tmps d x hx).evo hle fun q _=>hevo q,fun q ob hq=>?_,fun q q' ob ob2 b hq hq' hb hb'=>?_,fun b ob hb=>?_,fun q ob b hq hb=>?_,fun b hb=>?_,h.frm,fun q ob b hq hb=>?_,fun q hq=>(h.fixed q hq).trans (hevo q)⟩⟩
 · show thinImm c w id n D=none
   unfold thinImm
   rw [if_neg fun hk=>by
    obtain⟨x1,hc,hdt⟩:=(h.objs id _ ho).data (hin D hk);rw[hd]at hc;cases hc
    cases hdt]
   exact hD
 · by_cases h1:q=id
   · subst h1
     rw[oid]at hq;cases hq;refine⟨Nat.one_pos,hnk.len, ?_⟩
     have hplain:n=0/\(∃ad,c.own q=.slice ad 0 0)->(c'.blk q=ep (c.own q)/\∃xs,w.ownsRow 0 e 1 (c.own q) n xs/\∀i j,i<n->j<1->∃x,xs[i*1+j]? = some x/\aq c'.imm (a3a es m g i j) x) \/
      ((true=false\/n=0)/\c'.blk q=noB/\aq c'.imm (.sl n 1 true (a3a es m g)) (c.own q)):=by
      rintro⟨rfl,ad,hv⟩;refine .inr ⟨.inr rfl, ?_, ?_⟩
      · rw [bself]
        funext b;show(au (c.own q)=some b)=False;rw[hv];cases ad<;>simp[au]
      rw[hv];exact⟨ad,0,rfl,bm1 _,bm3 _,fun _=>rfl,fun hh=>absurd hh (boj 0)⟩
     rcases hnk.top with⟨h2,h3⟩|⟨xs,t1,t2,_⟩
     · grind
     have t1:w.ownsRow 0 e 1 (c.own q) n xs:=t1
     rcases fh t1 with r0|⟨b,cap,rv,rb⟩
     · grind
     refine .inl ⟨?_,xs,t1,fun i j hi hj=>?_⟩
     · rw [bself]
       funext b';show(au (c.own q)=some b')=(cg (c.own q)=some b');rw[rb,rv];rfl
     obtain rfl:j=0:=by omega
     exact⟨_,by simpa using t2 i hi,hrowP i hi⟩
   rw[oelse q h1]at hq;exact(h.objs q ob hq).keep hle rfl (bid q h1) (fun j _=>hevo j) (fun b _=>rfl) rfl
 · by_cases h1:q=id
   · by_cases h2:q'=id
     · rw[h1,h2]
     rw[oelse q' h2]at hq';rw[bid q' h2]at hb';subst h1;exact h.inj q q' _ _ b ho hq' (whose b hb) hb'
   rw[oelse q h1]at hq;rw[bid q h1]at hb;by_cases h2:q'=id
   · subst h2
     exact h.inj q q' _ _ b hq ho hb (whose b hb')
   rw[oelse q' h2]at hq';rw[bid q' h2]at hb';exact h.inj q q' _ _ b hq hq' hb hb'
 · have hb:thinImm c w id n b=some ob:=hb
   unfold thinImm at hb;split at hb
   · exact hb
   exact h.imm b ob hb
 · show thinImm c w id n b=none
   unfold thinImm;by_cases h1:q=id
   · subst h1
     rw[bself]at hb;rw[if_neg fun⟨i,hi,hk⟩=>(hnk.apart i b hi hk).1 hb];exact h.sep q _ b ho ((hnk.blks b).2 (.inl hb))
   rw[oelse q h1]at hq;rw[bid q h1]at hb;rw[if_neg fun hk=>h1 (h.inj q id _ _ b hq ho hb (hin b hk))];exact h.sep q ob b hq hb
 · show thinImm c w id n b=c.old.1 b
   unfold thinImm;rw[if_neg fun hk=>hb (h.fsep id _ b ho (hin b hk))];exact h.was b hb
 by_cases h1:q=id
 · subst h1
   exact h.fsep q _ b ho (whose b hb)
 rw[oelse q h1]at hq;rw[bid q h1]at hb;exact h.fsep q ob b hq hb
end
section
variable {ro:Option Nat}{P:Program}{nt:Nat}{st:HSt}{Q:Exit->HSt->Prop}
theorem aft {c:Code} (d id:Nat) {s':Nat} {f':Nat->Nat->PV} (e et:TypeId) (es:Nat) (m:Nat->Nat) (g:Nat->Nat->Nat->PV) (hs:0<es) (hd:b6 st.t d=some (br (.sl 0 s' true f'))) (hn:jz id st=true)
 (h:HW (ro:=ro) P nt c ⟨(d,some (.v (.one (.ref id 0))))::st.t,(id,some (.nest e et es 0 m g none))::st.o⟩ Q):HW (ro:=ro) P nt c st Q:=by
 obtain⟨hnm,hno⟩:=ed hn;refine wc ⟨st.t,(id,some (.nest e et es 0 m g none))::st.o⟩ d (.v (.one (.ref id 0))) (fun w0 m0 a w hr=>?_) h;obtain⟨cc,hold,hrr⟩:=hr;have hx:aq cc.imm (.sl 0 s' true f') (a.tmps.getD d undef):=hrr.tmps d _ hd;have hfresh:=hrr.fresh id hnm hno (.nest e et es 0 m g none) w (a.tmps.getD d undef) noB (Grw.refl w none) (fun b hb=>hb.elim) (apw hs bpz (by simpa using a3g hx));refine⟨_, ?_,by rw[ig];exact hfresh, ?_⟩
 · exact hold
 rw[ig];refine⟨aq.oneCell hx,fun l=>by simp[S.setO],fun ob1 s1 e1 n1 ho hd1=>?_⟩
 grind
def ap7 {c:Code} (id:Nat) {n:Nat} {e et:TypeId} {es:Nat} {m:Nat->Nat} {g:Nat->Nat->Nat->PV} (ho:b6 st.o id=some (.nest e et es n m g none))
 (h:HW (ro:=ro) P nt c ⟨st.t,(id,some (.arr true 1 e n (a3a es m g)))::st.o⟩ Q):HW (ro:=ro) P nt c st Q:=fun w0 m0 a w hr=>by
 obtain⟨cc,hold,hrr⟩:=hr;obtain⟨c',h1,h2⟩:=hrr.thin ho;refine h w0 m0 a w ⟨c',h1.trans hold, ?_⟩;rw[ig];exact h2
end
end
section
abbrev Rw:=List Int
def ltZ:Rw->Rw->Bool
 | [],[]=>false
 | [],_::_=>true
 |_::_,[]=>false
 |x::a,y::b=>if x=y then ltZ a b else decide (x<y)
def a80:∀a:Rw,ltZ a a=false
 | []=>rfl
 |x::a=>by unfold ltZ;rw[if_pos rfl];exact a80 a
def zz:∀{a b c:Rw},ltZ a b=true->ltZ b c=true->ltZ a c=true
 | [],[],_,h,_=>by cases h
 | [],_::_,[],_,k=>by cases k
 | [],_::_,_::_,_,_=>rfl
 |_::_,[],_,h,_=>by cases h
 |_::_,_::_,[],_,k=>by cases k
 | x :: a,y::b,z::c,h,k=>by
  unfold ltZ at *;by_cases hxy:x=y
  · rw [if_pos hxy]at h
    subst hxy;by_cases hyz:x=z
    · rw [if_pos hyz]at k ⊢
      exact zz h k
    rw[if_neg hyz]at k ⊢;exact k
  rw[if_neg hxy]at h;have h:=of_decide_eq_true h;by_cases hyz:y=z
  · subst hyz
    rw[if_neg hxy];exact decide_eq_true h
  rw[if_neg hyz]at k;have k:=of_decide_eq_true k;rw[if_neg bpw];exact decide_eq_true bpw
def ao8:∀{a b:Rw},a≠b->ltZ a b=true\/ltZ b a=true
 | [],[],h=>absurd rfl h
 | [],_::_,_=>.inl rfl
 |_::_,[],_=>.inr rfl
 | x :: a,y::b,h=>by
  unfold ltZ;by_cases hxy:x=y
  · subst hxy
    rw[if_pos rfl,if_pos rfl];exact ao8 fun e=>h (by rw[e])
  rw[if_neg hxy,if_neg (Ne.symm hxy),decide_eq_true_iff,decide_eq_true_iff];omega
def zC:Int->Nat->PV:=fun z _=>.raw (.int .i64 z)
abbrev zl(r:Rw):PV:=psl 1 zC r
def rC:Rw->Nat->PV:=fun r _=>zl r
abbrev rl(l:List Rw):PV:=psl 1 rC l
def ay6 {a b:Rw} (h:ltZ a b=true):ltZ b a=false:=by
 rw[bmh];intro k;have:=zz h k;rw[a80]at this;cases this
def qi(l:List Rw):Prop:=l.Pairwise fun a b=>ltZ a b=true
def a8n:∀{l k:List Rw},qi l->qi k->(∀x,x∈l<->x∈k)->l=k
 | [],[],_,_,_=>rfl
 | [],y::k,_,_,h=>absurd ((h y).2 (bmp ..)) bpz
 |x::l,[],_,_,h=>absurd ((h x).1 (bmp ..)) bpz
 | x :: l,y::k,hl,hk,h=>by
  obtain⟨h1,h2⟩:=bmn.1 hl;obtain⟨k1,k2⟩:=bmn.1 hk
  have e:x=y:=by
   rcases bm9.1 ((h x).1 (bmp ..))with e|hx
   · exact e
   rcases bm9.1 ((h y).2 (bmp ..))with e|hy
   · exact e.symm
   have:=ay6 (k1 x hx);rw[h1 y hy]at this;cases this
  subst e;congr 1;refine a8n h2 k2 fun z=>?_;constructor
  · intro hz
    rcases bm9.1 ((h z).1 (bmr _ hz))with e|hz'
    · subst e
      have:=h1 z hz;rw[a80]at this;cases this
    exact hz'
  intro hz
  rcases bm9.1 ((h z).2 (bmr _ hz))with e|hz'
  · subst e
    have:=k1 z hz;rw[a80]at this;cases this
  exact hz'
def kp (x:Rw):List Rw->List Rw
 | []=>[x]
 |y::l=>if x=y then y::l else if ltZ x y=true then x::y::l else y::kp x l
def aad{x z:Rw}:∀{l:List Rw},z∈kp x l<->z=x\/z∈l
 | []=>by simp[kp]
 | y :: l=>by
  unfold kp;split
  · rename_i e
    subst e;simp
  split
  · simp
  rw[bm9,aad,bm9];constructor
  · rintro(h|h|h)<;>simp[h]
  rintro(h|h|h)<;>simp[h]
def afv{x:Rw}:∀{l:List Rw},qi l->qi (kp x l)
 | [],_=>by simp[kp,qi]
 | y :: l,h=>by
  obtain⟨h1,h2⟩:=bmn.1 h;unfold kp;split
  · exact h
  split
  · rename_i hxy
    refine bmn.2 ⟨fun z hz=>?_,h⟩
    rcases bm9.1 hz with rfl|hz
    · exact hxy
    exact zz hxy (h1 z hz)
  rename_i hne hxy;refine bmn.2 ⟨fun z hz=>?_,afv h2⟩
  rcases aad.1 hz with rfl|hz
  · exact(ao8 hne).resolve_left hxy
  exact h1 z hz
def dv(l:List Rw):List Rw:=l.foldl (fun o x=>kp x o) []
def a4t:∀{l o:List Rw},qi o->qi (l.foldl (fun o x=>kp x o) o)/\∀z,z∈l.foldl (fun o x=>kp x o) o<->z∈o\/z∈l
 | [],o,h=>⟨h,fun z=>by simp⟩
 | x::l,o,h=>by
  obtain⟨h1,h2⟩:=a4t (l:=l) (afv (x:=x) h);refine⟨h1,fun z=>?_⟩;show z∈l.foldl (fun o x=>kp x o) (kp x o)<->_;rw[h2 z,aad,bm9];constructor
  · rintro((h|h)|h)<;>simp[h]
  rintro(h|h|h)<;>simp[h]
def tf(l:List Rw):qi (dv l):=(a4t (o:=[]) List.Pairwise.nil).1
def gm {l:List Rw} {z:Rw}:z∈dv l<->z∈l:=by
 show z∈l.foldl (fun o x=>kp x o) []<->_;rw[(a4t (l:=l) (o:=[]) List.Pairwise.nil).2 z];simp
def ayu{l k:List Rw}(hk:qi k)(h:∀z,z∈k<->z∈l):k=dv l:=a8n hk (tf l) fun z=>by rw[h z,gm]
def bls(l:List Rw)(k:Nat)(r:Rw):List Rw:=l.take k++r::l.drop k
def akx (x:Rw):∀l:List Rw,(kp x l).length<=l.length+1
 | []=>by simp[kp]
 | y::l=>by
  unfold kp;have:=akx x l;split
  · simp
  split
  · simp
  simp only[bna];omega
def avn(l:List Rw):(dv l).length<=l.length:=by
 have:∀(l o:List Rw),(l.foldl (fun o x=>kp x o) o).length<=o.length+l.length:=by
  intro l
  induction l with
  |nil=>intro o;simp
  | cons x l ih =>
   intro o;have h1:=ih (kp x o);have h2:=akx x o;simp only[bnq,bna];omega
 have h:=this l [];simpa [dv]using h
end
section
abbrev pZ(r:Rw):PC:=.one (zl r)
abbrev pR(l:List Rw):PC:=.one (rl l)
abbrev pT(n:Int)(l:List Rw):PC:=.agg [.raw (.int .i64 n),rl l]
def bla(a b:Rw):Int:=if a=b then 0 else if ltZ a b=true then -1 else 1
def a09(a b:Rw)(s:AS):Bool:=decide (∀i:Nat,i<a.length->(io s (i:Int)=true->a.getD i default=b.getD i default))
def al2{a b:Rw}{s:AS}(h:∀i:Nat,i<a.length->(io s (i:Int)=true->a.getD i default=b.getD i default)):a09 a b s=true:=decide_eq_true h
def bdr {s:AS} {i:Nat} (h:i<32):cu .and .u32 ((asI s).fdiv (2^(min i 32))) 1=1<->io s (i:Int)=true:=by
 rw[<- b1r (s:=s) (i:=(i:Int)) bpw bpw,decide_eq_true_iff];rfl
def a4b(n:Int)(l:List Rw)(i:Nat):Bool:=decide (((l.getD i default).length:Int)=n)&&!(l.getD i default).any (fun x=>decide (x<0))&&(decide (i=0)||ltZ (l.getD (i-1) default) (l.getD i default))
def tok(n:Int)(l:List Rw):Bool:=decide (0<=n/\n<=16/\l.length<=256)&&decide (∀i,i<l.length->a4b n l i=true)
def bcz {n:Int} {l:List Rw} (h0:0<=n) (h1:n<=16) (h2:l.length<=256) (h:∀i,i<l.length->a4b n l i=true):tok n l=true:=by
 unfold tok;rw[decide_eq_true (show 0<=n/\n<=16/\l.length<=256 from ⟨h0,h1,h2⟩),decide_eq_true h];rfl
def jc(a b:Rw)(s:AS):Rw:=(List.range b.length).map fun(i:Nat)=>if io s (i:Int)=true then a.getD i default else b.getD i default
end
section
open Go.Proofs
def b4f:a6 bqh 146:=wgx Tryz.func146
def b5n:a6 bqh 145:=wgx Tryz.func145
def b7z:a6 bqh 86:=wgx Tryz.func86
end
section
open Go.Proofs
abbrev bxZ(a:PV):PV:=.vp 1 fun j=>[a].getD j .any
end
section
def a0l(n:Int)(l m:List Fd):Int:=if cn n l=0 then(if 64<m.length then 3 else if m.all (inU n)=true then 0 else 1)else cn n l
section
variable {n:Int}{l m:List Fd}
end
def bax {n:Int} {l:List Rw} {i:Nat} (h1:((l.getD i default).length:Int)=n) (h2:(l.getD i default).any (fun x=>decide (x<0))=false) (h3:i=0\/ltZ (l.getD (i-1) default) (l.getD i default)=true):a4b n l i=true:=by
 unfold a4b;rw[decide_eq_true h1,h2]
 rcases h3 with h3|h3
 · rw[decide_eq_true h3];rfl
 rw[h3];simp
end
section
def bjz(a b:Rw)(s:AS)(i:Nat):Rw:=(List.range b.length).map fun(j:Nat)=>if j<i/\io s (j:Int)=true then a.getD j default else b.getD j default
def ua(a b:Rw)(s:AS):(jc a b s).length=b.length:=by unfold jc;simp
end
section
open Go.Proofs Go.RowKit Go.Sort
structure CpZ (l:List Rw) (k p q:Nat) (m:List Rw):Prop where
 len:m.length=l.length
 kq:k<q
 pq:p<q
 ql:q<=l.length
 pre:m.take p=jg (l.take q)
 high:∀j,q-1<=j->m.getD j default=l.getD j default
section
variable {l:List Rw}
theorem CpZ.start {k:Nat} (h1:1<=k) (hk:k<l.length) (h:∀j,0<j->j<k->¬l.getD j default=l.getD (j-1) default) (hd:l.getD k default=l.getD (k-1) default):CpZ l k k (k+1) l :=
 ⟨rfl,by omega,by omega,by omega,by rw[jp bpw hk,if_pos hd.symm,bmv,uz bpw h],fun _ _=>rfl⟩
theorem CpZ.skip {k p q:Nat} {m:List Rw} (h:CpZ l k p q m) (hq:q<l.length) (he:m.getD q default=m.getD (q-1) default):CpZ l k p (q+1) m:=by
 have hk:=h.kq;refine⟨h.len,by omega,by have:=h.pq;omega,hq, ?_,fun j hj=>h.high j bpw⟩;rw[h.high q bpw,h.high (q-1) bpw]at he;rw[jp bpw hq,if_pos he.symm,bmv,h.pre]
theorem CpZ.keep {k p q:Nat} {m:List Rw} (h:CpZ l k p q m) (hq:q<l.length) (he:¬m.getD q default=m.getD (q-1) default):CpZ l k (p+1) (q+1) (m.set p (m.getD q default)):=by
 have hk:=h.kq;have hp:=h.pq;have hl:=h.len;refine⟨by simp[hl],by omega,by omega,hq, ?_,fun j hj=>by rw[getD_set_ne' bpw];exact h.high j bpw⟩;have e:=h.high q bpw;rw[e,h.high (q-1) bpw]at he;rw[jp bpw hq,if_neg (fun e=>he e.symm),<- h.pre,ax (by simp[hl];omega),md bpw,e];congr 1;rw[List.take_set,bpm bqa]
def srZ(l:List Rw):List Rw:=l.mergeSort fun x y=>!ltZ y x
def b4w {r:Rw} (h:(l.any fun x=>decide (x=r))=false):r∉l:=fun e=>by
 rw[boa]at h;exact h r e (decide_eq_true rfl)
end
end
section
abbrev nM(l:List Rw):Nat->Nat:=fun i=>(l.getD i default).length
abbrev zd(l:List Rw):Nat->Nat->Int:=fun i r=>(l.getD i default).getD r default
abbrev mg(M:Nat->Nat->Int):Nat->Nat->Nat->PV:=fun i r _=>.raw (.int .i64 (M i r))
abbrev hiI(x y:Int):Int:=if x<y then y else x
abbrev loI(x y:Int):Int:=if y<x then y else x
def bkr(M:Nat->Nat->Int)(hi lo:Int)(i k:Nat):Nat->Nat->Int:=fun i' r=>if(i'<i\/(i'=i/\r<k))/\M i' r=hi then lo else M i' r
def eqM(M:Nat->Nat->Int)(a b j:Nat):Nat->Nat->Int:=fun i r=>if M i r=hiI (M a j) (M b j)then loI (M a j) (M b j)else M i r
def eqMs(M:Nat->Nat->Int)(a b:Nat)(js:List Nat):Nat->Nat->Int:=js.foldl (fun M j=>eqM M a b j) M
def i6(l:List Rw)(M:Nat->Nat->Int):List Rw:=(List.range l.length).map fun i=>(List.range (l.getD i default).length).map (M i)
def a3t(l:List Rw)(M:Nat->Nat->Int):(i6 l M).length=l.length:=by unfold i6;simp
def atr {l:List Rw} {M:Nat->Nat->Int} {i:Nat} (h:i<l.length):(i6 l M).getD i default=(List.range (l.getD i default).length).map (M i):=by
 unfold i6;rw[bm7,bn1,bo0 h];rfl
def axx {M:Nat->Nat->Int} {a b j:Nat} (h:M a j=M b j):eqM M a b j=M:=by
 funext i r;unfold eqM;have e1:hiI (M a j) (M b j)=M b j:=by unfold hiI;rw[if_neg bpw,h]
 have e2:loI (M a j) (M b j)=M b j:=by unfold loI;rw[if_neg bpw,h]
 rw[e1,e2];by_cases e:M i r=M b j
 · rw[if_pos e,e]
 rw[if_neg e]
end
section
def a5j(n:Int)(l:List Rw)(row:Rw):Int×List Rw×Int:=if 256<(dv (l++[row])).length then(0,[],3) else(n,dv (l++[row]),0)
def fdE(n:Int)(l:List Rw)(a b:Nat)(x:Fd):Int×List Rw×Int:=if a09 (l.getD a default) (l.getD b default) x.lhs=true then(n,dv (i6 l (eqMs (zd l) a b (bc x.rhs))),0) else(0,[],1)
def mvE(n:Int)(l:List Rw)(a b:Nat)(x:Fd):Int×List Rw×Int:=if a09 (l.getD a default) (l.getD b default) x.lhs=true then a5j n l (jc (l.getD a default) (l.getD b default) (x.lhs|||x.rhs)) else(0,[],1)
def a1g {n:Int} {l:List Rw} (h:tok n l=true):0<=n/\n<=16/\l.length<=256/\∀i,i<l.length->(l.getD i default).length=n.toNat:=by
 unfold tok at h;rw[bm8,decide_eq_true_iff,decide_eq_true_iff]at h;obtain⟨⟨h0,h1,h2⟩,h3⟩:=h;refine⟨h0,h1,h2,fun i hi=>?_⟩;have:=h3 i hi;unfold a4b at this;rw[bm8,bm8,decide_eq_true_iff]at this;omega
def apc {n:Int} (h0:0<=n) (h1:n<=16) {x:Fd} (h:inU n x=true) {j:Nat} (hj:j∈bc x.rhs):j<n.toNat:=by
 obtain⟨_,h3⟩:=(apb h0 h1).1 h;obtain⟨h4,h5⟩:=wg.1 hj;have h6:x.rhs>>>n.toNat=0:=(a3y (n:=n.toNat) bpw).1 (by unfold ah at h3;rwa [bne bpw]at h3)
 rcases bpk j n.toNat with h|h
 · exact h
 rw[ayf.1 h6 j h4 h]at h5;cases h5
end
section
def a5v (P:Nat->Nat->Nat->Bool) (I L:Nat):Option (Nat×Nat×Nat) :=
 (List.range I).findSome? fun i=>(List.range L).findSome? fun a=>((List.range L).find? fun b=>P i a b).map fun b=>(i,a,b)
def zt(l:List Rw)(x:Fd)(a b:Nat):Bool:=a09 (l.getD a default) (l.getD b default) x.lhs&&!a09 (l.getD a default) (l.getD b default) x.rhs
def x8(l:List Rw)(x:Fd)(a b:Nat):Bool:=a09 (l.getD a default) (l.getD b default) x.lhs&&!(l.any fun r=>decide (r=jc (l.getD a default) (l.getD b default) (x.lhs|||x.rhs)))
section
variable {l:List Rw}{x:Fd}{a b:Nat}
end
abbrev St:=Bool×Nat×Nat×Nat
abbrev St.pc(s:St):PC:=.agg [.raw (.bool s.1), .raw (.int .i64 (s.2.1:Int)), .raw (.int .i64 (s.2.2.1:Int)), .raw (.int .i64 (s.2.2.2:Int))]
def zr (l:List Rw) (p m:List Fd):Option St :=
 match a5v (fun i a b=>zt l (p.getD i default) a b) p.length l.length with
 |some x=>some (false,x)
 |none=>(a5v (fun i a b=>x8 l (m.getD i default) a b) m.length l.length).map fun x=>(true,x)
end
section
def stV(n:Int)(i:Nat)(p:AS)(c:Nat):Int:=if io p (c:Int)=true then(c:Int)else n+(i:Int)*n+(c:Int)
def stT(n:Int)(i:Nat)(p:AS)(k:Nat):Rw:=(List.range n.toNat).map fun c=>if c<k then stV n i p c else 0
def stR(n:Int)(i:Nat)(p:AS):Rw:=(List.range n.toNat).map fun c=>stV n i p c
def my(n:Int)(ps:List AS):List Rw:=(List.range ps.length).map fun i=>stR n i (ps.getD i default)
def b5u(n:Int)(i:Nat)(p:AS):(stR n i p).length=n.toNat:=by unfold stR;simp
def w8 (n:Int) (ps:List AS):Int×List Rw×Int :=
 if n<0\/16<n then(0,[],7)else if 64<ps.length then(0,[],3)else if ps.all (fun p=>decide (p>>>n.toNat=0))=true then(n,dv (my n ps),0) else(0,[],1)
end
section
def a14(n:Int):Rw:=(List.range n.toNat).map fun(i:Nat)=>(i:Int)
def bc8 {n:Int} {i:Nat} {p:AS} {k:Nat} (h:k<n.toNat):(stR n i p).getD k default=stV n i p k:=by
 unfold stR;rw[bm7,bn1,bo0 h];rfl
def bex(l:List Rw)(x:Fd)(a b:Nat):Bool:=a09 (l.getD a default) (l.getD b default) x.lhs&&!(l.any fun r=>decide (r=jc (l.getD a default) (l.getD b default) x.rhs))
end
section
def Wel(n:Int)(l:List Rw):Prop:=∀r,r∈l->r.length=n.toNat/\∀z,z∈r->0<=z
section
variable {l:List Rw}
def a83 {i:Nat} (h:i<l.length):l.getD i default∈l:=by
 rw[bm7,blz h];exact bma h
def xn {n:Int} (h:tok n l=true):Wel n l:=by
 obtain⟨h0,h1,h2,h3⟩:=a1g h;unfold tok at h;rw[bm8,decide_eq_true_iff,decide_eq_true_iff]at h;rintro r hr;obtain⟨i,hi,rfl⟩:=bmj hr;have e:l.getD i default=l[i]:=by rw[bm7,blz hi];rfl
 rw[<- e];refine⟨h3 i hi,fun z hz=>?_⟩;have:=h.2 i hi;unfold a4b at this;rw[bm8,bm8]at this;have h4:=this.1.2;rw[bn8,boa]at h4;have:=h4 z hz;rw[decide_eq_true_iff]at this;omega
def b61{n:Int}(h:tok n l=true):qi l:=by
 unfold tok at h;rw[bm8,decide_eq_true_iff,decide_eq_true_iff]at h
 have hs:∀d i:Nat,i+d+1<l.length->ltZ (l.getD i default) (l.getD (i+d+1) default)=true:=by
  intro d
  induction d with
  | zero =>
   intro i hi;have:=h.2 (i+1) hi;unfold a4b at this;rw[bm8,bnf,decide_eq_true_iff]at this
   rcases this.2 with h5|h5
   · omega
   exact h5
  | succ d ih =>
   intro i hi;have h1:=ih i bpw;have:=h.2 (i+d+1+1) bpw;unfold a4b at this;rw[bm8,bnf,decide_eq_true_iff]at this
   rcases this.2 with h5|h5
   · omega
   exact zz h1 h5
 unfold qi;rw[bn5];intro i j hi hj hij;obtain⟨d,rfl⟩:∃d,j=i+d+1:=⟨j-i-1,by omega⟩;have:=hs d i hj;rwa [bm7,blz hi,bm7,blz hj]at this
def asq{n:Int}(h0:0<=n)(h1:n<=16)(h2:l.length<=256)(hw:Wel n l)(ho:qi l):tok n l=true:=by
 refine bcz h0 h1 h2 fun i hi=>?_;obtain⟨h3,h4⟩:=hw _ (a83 hi);refine bax bpw ?_ ?_
 · rw [boa]
   intro z hz;have:=h4 z hz;rw[decide_eq_true_iff];omega
 rcases bnp i with h|h
 · exact .inl h
 right;have:=bn5.1 ho (i-1) i bpw hi bpw;rw[bm7,blz bpw,bm7,blz hi];exact this
def ag4 {n:Int} (h0:0<=n) (h1:n<=16) (h2:(dv l).length<=256) (hw:Wel n l):tok n (dv l)=true :=
 asq h0 h1 h2 (fun r hr=>hw r (gm.1 hr)) (tf l)
def inV(l:List Rw)(M:Nat->Nat->Int)(z:Int):Prop:=∃i r,i<l.length/\r<(l.getD i default).length/\M i r=z
def ana{z:Int}:inV l (zd l) z<->∃r,r∈l/\z∈r:=by
 constructor
 · rintro ⟨i,r,hi,hr,rfl⟩
   refine⟨_,a83 hi, ?_⟩;show(l.getD i default).getD r default∈_;rw[bm7 (l:=l.getD i default),blz hr];exact bma hr
 rintro⟨r,hr,hz⟩;obtain⟨i,hi,rfl⟩:=bmj hr;obtain⟨k,hk,rfl⟩:=bmj hz;have e:l.getD i default=l[i]:=by rw[bm7,blz hi];rfl
 refine⟨i,k,hi,by rw[e];exact hk, ?_⟩;show(l.getD i default).getD k default=_;rw[e,bm7,blz hk];rfl
def a8z{M:Nat->Nat->Int}{z:Int}:(∃r,r∈i6 l M/\z∈r)<->inV l M z:=by
 constructor
 · rintro ⟨r,hr,hz⟩
   unfold i6 at hr;rw[bml]at hr;obtain⟨i,hi,rfl⟩:=hr;rw[bml]at hz;obtain⟨k,hk,rfl⟩:=hz;exact⟨i,k,bmm.1 hi,bmm.1 hk,rfl⟩
 rintro⟨i,k,hi,hk,rfl⟩;refine⟨(List.range (l.getD i default).length).map (M i), ?_,bml.2 ⟨k,bmm.2 hk,rfl⟩⟩;unfold i6;exact bml.2 ⟨i,bmm.2 hi,rfl⟩
end
section
variable {l:List Rw}{a b:Nat}(ha:a<l.length)(hb:b<l.length)
theorem apy(x y:Int):loI x y=x\/loI x y=y:=by unfold loI;split<;>simp
theorem b1m(x y:Int):hiI x y=x\/hiI x y=y:=by unfold hiI;split<;>simp
include ha hb in
theorem bf3 {M:Nat->Nat->Int} {j:Nat} (hja:j<(l.getD a default).length) (hjb:j<(l.getD b default).length) {z:Int} (h:inV l (eqM M a b j) z):inV l M z:=by
 obtain⟨i,r,hi,hr,he⟩:=h;unfold eqM at he;split at he
 · rcases apy (M a j) (M b j)with h|h
   · exact⟨a,j,ha,hja,by rw[<- he,h]⟩
   exact⟨b,j,hb,hjb,by rw[<- he,h]⟩
 exact⟨i,r,hi,hr,he⟩
include ha hb in
theorem ajp:∀{js:List Nat} {M:Nat->Nat->Int},(∀j,j∈js->j<(l.getD a default).length/\j<(l.getD b default).length)->∀{z:Int},inV l (eqMs M a b js) z->inV l M z
 | [],_,_,_,h=>h
 |j::js,M,hj,z,h=>bf3 ha hb (hj j bpz).1 (hj j bpz).2 (ajp (js:=js) (M:=eqM M a b j) (fun k hk=>hj k (by simp[hk])) h)
include ha hb in
theorem ag2:∀{js:List Nat} {M:Nat->Nat->Int},(∀j,j∈js->j<(l.getD a default).length/\j<(l.getD b default).length)->(∃j,j∈js/\¬M a j=M b j)->∃z,inV l M z/\¬inV l (eqMs M a b js) z
 | [],_,_,⟨_,h,_⟩=>by simp at h
 | j :: js,M,hj,⟨k,hk,hne⟩=>by
  by_cases e:M a j=M b j
  · have e2:eqMs M a b (j::js)=eqMs M a b js:=by
     show eqMs (eqM M a b j) a b js=_;rw[axx e]
    rw[e2];refine ag2 (fun k hk=>hj k (by simp[hk])) ⟨k, ?_,hne⟩
    rcases bm9.1 hk with h|h
    · subst h;exact absurd e hne
    exact h
  refine⟨hiI (M a j) (M b j), ?_,fun h=>?_⟩
  · rcases b1m (M a j) (M b j)with h|h
    · exact⟨a,j,ha,(hj j bpz).1,h.symm⟩
    exact⟨b,j,hb,(hj j bpz).2,h.symm⟩
  obtain⟨i,r,hi,hr,he⟩:=ajp ha hb (fun k hk=>hj k (by simp[hk])) (show inV l (eqMs (eqM M a b j) a b js) _ from h);unfold eqM at he;split at he
  · unfold hiI loI at he
    split at he<;>split at he<;>omega
  rename_i h2;exact h2 he
end
def ai1(Z:List Int)(l:List Rw):Nat:=Z.countP fun z=>l.any fun r=>decide (z∈r)
def muC(Z:List Int)(l:List Rw):Nat:=ai1 Z l*300+(300-l.length)
def Cov(Z:List Int)(l:List Rw):Prop:=∀r,r∈l->∀z,z∈r->z∈Z
def xy {l:List Rw} {z:Int}:(l.any fun r=>decide (z∈r))=true<->∃r,r∈l/\z∈r:=by
 rw[boh];exact⟨fun⟨r,h,h2⟩=>⟨r,h,of_decide_eq_true h2⟩,fun⟨r,h,h2⟩=>⟨r,h,decide_eq_true h2⟩⟩
def countP_lt' {p q:Int->Bool}:∀{Z:List Int},(∀z,p z=true->q z=true)->(∃z,z∈Z/\q z=true/\p z=false)->Z.countP p<Z.countP q
 | [],_,⟨_,h,_⟩=>by simp at h
 | x :: Z,h,⟨z,hz,hq,hp⟩=>by
  have hm:Z.countP p<=Z.countP q:=List.countP_mono_left fun z _=>h z;rw[boz,boz]
  rcases bm9.1 hz with rfl|hz
  · rw [hq,hp]
    simp only[if_true,bp6,if_false];omega
  have:=countP_lt' (Z:=Z) h ⟨z,hz,hq,hp⟩;by_cases e:p x=true
  · rw[e,h x e];omega
  rw[if_neg e];omega
def b48 {Z:List Int} {l l':List Rw} (h:∀z,(∃r,r∈l'/\z∈r)->∃r,r∈l/\z∈r) (h2:∃z,z∈Z/\(∃r,r∈l/\z∈r)/\¬ ∃r,r∈l'/\z∈r):ai1 Z l'<ai1 Z l:=by
 refine countP_lt' (fun z hz=>xy.2 (h z (xy.1 hz))) ?_;obtain⟨z,h3,h4,h5⟩:=h2;exact⟨z,h3,xy.2 h4,by rw[bmh];exact fun e=>h5 (xy.1 e)⟩
def b45 {Z:List Int} {l l':List Rw} (h:∀z,(∃r,r∈l'/\z∈r)->∃r,r∈l/\z∈r):ai1 Z l'<=ai1 Z l :=
 List.countP_mono_left fun z _ hz=>xy.2 (h z (xy.1 hz))
end
section
def ajj {r:Rw}:∀{l:List Rw},r∉l->(kp r l).length=l.length+1
 | [],_=>rfl
 | y::l,h=>by
  unfold kp;have h1:¬r=y:=fun e=>h (by rw[e];simp);have h2:=ajj (l:=l) (r:=r) fun e=>h (by simp[e]);rw[if_neg h1];split
  · simp
  simp only[bna];omega
def avv {l:List Rw} {r:Rw} (ho:qi l):dv (l++[r])=kp r l:=by
 have e:l=dv l:=ayu ho fun _=>Iff.rfl
 have:dv (l++[r])=kp r (dv l):=by
  unfold dv;rw[bmo];rfl
 rw[this,<- e]
section
variable {n:Int}{l:List Rw}{a b:Nat}{x:Fd}
abbrev fdL(l:List Rw)(a b:Nat)(x:Fd):List Rw:=dv (i6 l (eqMs (zd l) a b (bc x.rhs)))
def b0n(hT:tok n l=true)(hu:inU n x=true)(ha:a<l.length)(hb:b<l.length)(hs:zt l x a b=true) :
 fdE n l a b x=(n,fdL l a b x,0)/\tok n (fdL l a b x)=true/\(∀z,(∃r,r∈fdL l a b x/\z∈r)->∃r,r∈l/\z∈r)/\∀Z,Cov Z l->muC Z (fdL l a b x)<muC Z l:=by
 obtain⟨h0,h1,h2,h3⟩:=a1g hT;have hw:=xn hT;unfold zt at hs;rw[bm8,bn8]at hs;obtain⟨hl,hr⟩:=hs
 have hj:∀j,j∈bc x.rhs->j<(l.getD a default).length/\j<(l.getD b default).length:=fun j hj=>by
  have:=apc h0 h1 hu hj;exact⟨by rw[h3 a ha];exact this,by rw[h3 b hb];exact this⟩
 have hV:∀z,(∃r,r∈fdL l a b x/\z∈r)->∃r,r∈l/\z∈r:=fun z ⟨r,hr,hz⟩=>ana.1 (ajp ha hb hj (a8z.1 ⟨r,gm.1 hr,hz⟩));have hlen:(fdL l a b x).length<=l.length:=bme (avn _) (bp5 (a3t _ _));refine⟨if_pos hl,ag4 h0 h1 (bme hlen h2) (fun r hr=>⟨?_,fun z hz=>?_⟩),hV,fun Z hZ=>?_⟩
 · unfold i6 at hr
   rw[bml]at hr;obtain⟨i,hi,rfl⟩:=hr;rw[bn0,bpc];exact h3 i (bmm.1 hi)
 · obtain ⟨r2,h5,h6⟩:=hV z ⟨r,gm.2 hr,hz⟩
   exact(hw r2 h5).2 z h6
 have hne:∃j,j∈bc x.rhs/\¬zd l a j=zd l b j:=by
  apply Classical.byContradiction;intro hno;rw[al2]at hr
  · cases hr
  intro i hi hh;apply Classical.byContradiction;intro e
  have hi2:i<32:=by
   have:=h3 a ha;omega
  rw[s5 hi2]at hh;exact hno ⟨i,wg.2 ⟨hi2,hh⟩,e⟩
 obtain⟨z,hz1,hz2⟩:=ag2 ha hb hj hne;have hz3:=ana.1 hz1;have:=b48 (Z:=Z) hV ⟨z,by obtain⟨r,h7,h8⟩:=hz3;exact hZ r h7 z h8,hz3,fun⟨r,h7,h8⟩=>hz2 (a8z.1 ⟨r,gm.1 h7,h8⟩)⟩;unfold muC;omega
abbrev mvL(l:List Rw)(a b:Nat)(x:Fd):List Rw:=dv (l++[jc (l.getD a default) (l.getD b default) (x.lhs|||x.rhs)])
def bde(hT:tok n l=true)(ha:a<l.length)(hb:b<l.length)(hs:x8 l x a b=true) :
 mvE n l a b x=(0,[],3)\/(mvE n l a b x=(n,mvL l a b x,0)/\tok n (mvL l a b x)=true/\(∀z,(∃r,r∈mvL l a b x/\z∈r)->∃r,r∈l/\z∈r)/\∀Z,Cov Z l->muC Z (mvL l a b x)<muC Z l):=by
 obtain⟨h0,h1,h2,h3⟩:=a1g hT;have hw:=xn hT;unfold x8 at hs;rw[bm8,bn8]at hs;obtain⟨hl,hr⟩:=hs;have hno:=b4w hr;have hE:mvE n l a b x=a5j n l (jc (l.getD a default) (l.getD b default) (x.lhs|||x.rhs)):=if_pos hl;by_cases hbig:256<(mvL l a b x).length
 · left
   rw[hE];exact if_pos hbig
 right
 have hmem:∀z,z∈jc (l.getD a default) (l.getD b default) (x.lhs|||x.rhs)->z∈l.getD a default\/z∈l.getD b default:=fun z hz=>by
  unfold jc at hz;rw[bml]at hz;obtain⟨i,hi,rfl⟩:=hz;have hi:=bmm.1 hi;have hi2:i<(l.getD a default).length:=by rw[h3 a ha,<- h3 b hb];exact hi
  split
  · left
    rw[bm7 (l:=l.getD a default),blz hi2];exact bma hi2
  right;rw[bm7 (l:=l.getD b default),blz hi];exact bma hi
 have hV:∀z,(∃r,r∈mvL l a b x/\z∈r)->∃r,r∈l/\z∈r:=fun z ⟨r,hr,hz⟩=>by
  rcases bmg.1 (gm.1 hr)with h|h
  · exact⟨r,h,hz⟩
  rw[bmu]at h;subst h
  rcases hmem z hz with h|h
  · exact⟨_,a83 ha,h⟩
  exact⟨_,a83 hb,h⟩
 refine⟨by rw[hE];exact if_neg hbig,ag4 h0 h1 (bpt fun e=>hbig e) (fun r hr=>⟨?_,fun z hz=>?_⟩),hV,fun Z hZ=>?_⟩
 · rcases bmg.1 hr with h|h
   · exact(hw r h).1
   rw[bmu]at h;subst h;rw[ua];exact h3 b hb
 · obtain ⟨r2,h5,h6⟩:=hV z ⟨r,gm.2 hr,hz⟩
   exact(hw r2 h5).2 z h6
 have e:(mvL l a b x).length=l.length+1:=by
  show(dv _).length=_;rw[avv (b61 hT),ajj hno]
 have:=b45 (Z:=Z) hV;unfold muC;omega
end
def azd(l:List Rw)(p m:List Fd)(s:St):Prop:=s.2.2.1<l.length/\s.2.2.2<l.length/\((s.1=false/\s.2.1<p.length/\zt l (p.getD s.2.1 default) s.2.2.1 s.2.2.2=true)\/(s.1=true/\s.2.1<m.length/\x8 l (m.getD s.2.1 default) s.2.2.1 s.2.2.2=true))
def jj(n:Int)(l:List Rw)(p m:List Fd)(s:St):Int×List Rw×Int:=if s.1=true then mvE n l s.2.2.1 s.2.2.2 (m.getD s.2.1 default)else fdE n l s.2.2.1 s.2.2.2 (p.getD s.2.1 default)
def bcs{n:Int}{l:List Rw}{p m:List Fd}{s:St}(hT:tok n l=true)(hp:p.all (inU n)=true)(h:azd l p m s) :
 jj n l p m s=(0,[],3)\/∃l',jj n l p m s=(n,l',0)/\tok n l'=true/\(∀Z,Cov Z l->Cov Z l'/\muC Z l'<muC Z l):=by
 obtain⟨ha,hb,h|h⟩:=h
 · obtain ⟨h1,h2,h3⟩:=h
   have hu:inU n (p.getD s.2.1 default)=true:=bms.1 hp _ (by rw[bm7,blz h2];exact bma h2);obtain⟨e,h4,h5,h6⟩:=b0n hT hu ha hb h3;exact .inr ⟨_,by unfold jj;rw[if_neg (by rw[h1];decide)];exact e,h4,fun Z hZ=>⟨fun r hr z hz=>by obtain⟨r2,h7,h8⟩:=h5 z ⟨r,hr,hz⟩;exact hZ r2 h7 z h8,h6 Z hZ⟩⟩
 obtain⟨h1,h2,h3⟩:=h
 rcases bde hT ha hb h3 with e|⟨e,h4,h5,h6⟩
 · exact .inl (by unfold jj;rw[if_pos h1];exact e)
 exact .inr ⟨_,by unfold jj;rw[if_pos h1];exact e,h4,fun Z hZ=>⟨fun r hr z hz=>by obtain⟨r2,h7,h8⟩:=h5 z ⟨r,hr,hz⟩;exact hZ r2 h7 z h8,h6 Z hZ⟩⟩
def ye:Nat->Int->List Rw->List Fd->List Fd->List St->List St×(Int×List Rw)×Int
 |0,_,_,_,_,_=>([],(0,[]),0)
 | f + 1,n,l,p,m,acc =>
  match zr l p m with
  |none=>(acc,(n,l),0)
  | some s=>match jj n l p m s with
   |(n',l',e)=>if e=0 then ye f n' l' p m (acc++[s]) else([],(0,[]),e)
def aqw {f:Nat} {n:Int} {l:List Rw} {p m:List Fd} {acc:List St} (hf:0<f) (h:zr l p m=none):ye f n l p m acc=(acc,(n,l),0):=by
 obtain⟨g,rfl⟩:∃g,f=g+1:=⟨f-1,by omega⟩;unfold ye;rw[h]
end
section
open Go.Proofs
abbrev St.c(s:St):Nat->PV:=fun j=>[.raw (.bool s.1), .raw (.int .i64 (s.2.1:Int)), .raw (.int .i64 (s.2.2.1:Int)), .raw (.int .i64 (s.2.2.2:Int))].getD j .any
abbrev stl(l:List St):PV:=psl 4 St.c l
abbrev ckE(n:Int)(l:List Rw)(p m:List Fd):Int:=if tok n l=true then a0l n p m else 1
def aaw(F:Nat)(n:Int)(l:List Rw)(p m:List Fd):List St×(Int×List Rw)×Int:=if ckE n l p m=0 then ye F n l p m [] else([],(0,[]),ckE n l p m)
def azk(l:List Rw):Cov l.flatten l:=fun r hr z hz=>List.mem_flatten.2 ⟨r,hr,hz⟩
structure StI (F:Nat) (n:Int) (l:List Rw) (p m:List Fd) (x:Nat×List Rw×List St):Prop where
 t:tok n x.2.1=true
 c:Cov l.flatten x.2.1
 u:muC l.flatten x.2.1<x.1
 b:x.2.2.length+x.1<=F
 e:ye x.1 n x.2.1 p m x.2.2=ye F n l p m []
theorem StI.start{F:Nat}{n:Int}{l:List Rw}{p m:List Fd}(hT:tok n l=true)(hF:muC l.flatten l<F):StI F n l p m (F,l,[]):=⟨hT,azk l,hF,by simp,rfl⟩
theorem StI.fin {F:Nat} {n:Int} {l:List Rw} {p m:List Fd} {x:Nat×List Rw×List St} (h:StI F n l p m x) (hS:zr x.2.1 p m=none):ye F n l p m []=(x.2.2,(n,x.2.1),0):=by
 have hu:=h.u;rw[<- h.e,aqw bpw hS]
end
section
abbrev FU:Nat:=1300000
abbrev a03(n:Int)(x:Fd):List AS:=[x.lhs|||x.rhs,x.lhs|||(ah n&&&~~~x.rhs)]
def bjc(n:Int)(p m:List Fd)(x:Fd):Bool×Int :=
 if a0l n p m=0 then
  if inU n x=true then
   if (w8 n (a03 n x)).2.2=0 then
    if(aaw FU (w8 n (a03 n x)).1 (w8 n (a03 n x)).2.1 p m).2.2=0 then((aaw FU (w8 n (a03 n x)).1 (w8 n (a03 n x)).2.1 p m).2.1.2.any (fun r=>decide (r=a14 n)),0)
    else(false,(aaw FU (w8 n (a03 n x)).1 (w8 n (a03 n x)).2.1 p m).2.2)
   else(false,(w8 n (a03 n x)).2.2)
  else(false,1)
 else(false,a0l n p m)
end
section
open Go.Proofs
def muK(p:List Fd)(k:Nat):Bool:=decide (p.length<=k)
def ixK(p:List Fd)(k:Nat):Nat:=if p.length<=k then k-p.length else k
def chE(l:List Rw)(p m:List Fd)(s:St):Bool:=if s.1=true then bex l (m.getD s.2.1 default) s.2.2.1 s.2.2.2 else zt l (p.getD s.2.1 default) s.2.2.1 s.2.2.2
def bdp(l:List Rw)(p m:List Fd)(k a b:Nat):Bool:=decide (a≠b)&&chE l p m (muK p k,ixK p k,a,b)
def bj2(l:List Rw)(p m:List Fd):Option St:=(a5v (bdp l p m) (p.length+m.length) l.length).map fun x=>(muK p x.1,ixK p x.1,x.2.1,x.2.2)
section
variable {l:List Rw}{p m:List Fd}{k a b:Nat}
end
end
section
def axu(l:List Rw)(p m:List Fd)(mu:Bool)(i a b:Int):Prop:=a<0\/(l.length:Int)<=a\/b<0\/(l.length:Int)<=b\/a=b\/i<0\/(mu=true/\(m.length:Int)<=i)\/(mu=false/\(p.length:Int)<=i)
instance (l:List Rw)(p m:List Fd)(mu:Bool)(i a b:Int):Decidable (axu l p m mu i a b):=by unfold axu;infer_instance
def bb1 (n:Int) (l:List Rw) (p m:List Fd) (mu:Bool) (i a b:Int):Int×List Rw×Int :=
 if ckE n l p m=0 then if axu l p m mu i a b then(0,[],1)else jj n l p m (mu,i.toNat,a.toNat,b.toNat) else(0,[],ckE n l p m)
section
variable {n:Int}{l:List Rw}{p m:List Fd}{mu:Bool}{i a b:Int}
end
end
end Go.Hx
