/- A part of the proof: Lw Hx26 Hx25 Ch1 Ch2 X1 X2 Ch3 X3. -/
import Derived.Deep.DeepHandedRow
import Derived.OpenShut
import Derived.ProofKit
import Derived.Test.YtnlcekpflogjkaaGreatDoorCards
import Derived.Test.YtnlcekpflogjkaaGreatDoorRows
import Derived.Test.YtnlcekpflogjkaaGreatDoorTie
import Derived.WalkKit
import Derived.Test.YtnlcekpflogjkaaGreatDoorTy19
set_option linter.all false
set_option maxRecDepth 100000
set_option maxHeartbeats 1000000
namespace Go.Hx
section
open Go.Proofs Go.ChangeShapes Go.WideShapes Go.ChangeAt Go.RowKit
def own:ownKnob bxn.godebug=none:=by kernel_rfl
def bj7 : bxn.globalNamed "math/bits.deBruijn32tab" = some 1 := by kernel_rfl
def b7w:(bxn.globals[1]?).map (·.type)=some 292:=by kernel_rfl
def b5r:bxn.cellsOf 292=32:=by kernel_rfl
def bhp:bxn.cellsOf 5=1:=by kernel_rfl
def aom:List Int:=[0,1,28,2,29,14,24,3,30,22,20,15,25,17,4,8,31,27,13,23,21,19,16,7,26,12,18,6,11,5,10,9]
def bn8 {W : World} (h : laidMetH bxn [("math/bits.deBruijn32tab", YtnlcekpflogjkaaGreatDoor.Rows.laid_math_bits_deBruijn32tab)] W) : vq (fw W) := by
 have ht : Lib.TabIs bxn W "math/bits.deBruijn32tab" .u8 aom := Lib.tabIs_of_head (rest := []) bj7 b7w Tryz.underlying292 Tryz.underlying5 bhp b5r h;intro b off v hv;unfold zd wa at hv;split at hv
 · have hlt:off<32:=by
    rcases bwf off 32 with h|h
    · exact h
    rw[bwr (by simpa using h)]at hv;cases hv
   have hc:=ht.cell bj7 off hlt
   have e:v=.int .u8 (aom.getD off 0):=by
    have:(aom.map fun z=>Value.int .u8 z)[off]? = some v:=hv;rw[btf]at this;rw[bsv]
    cases hz:aom[off]? with
    |none=>rw[hz]at this;cases this
    |some z=>rw[hz]at this;exact(Option.some.inj this).symm
   rw[e];unfold World.cell? at hc;unfold j2 fw;split at hc
   · rename_i c t fr hh
     rw[hh];simpa using hc
   cases hc
 cases hv
noncomputable def laidWorld (os:Os):World :=
 { World.holding bxn os ⟨#[],#[],[]⟩with heap:=(World.holding bxn os ⟨#[],#[],[]⟩).heap.modify 1 fun
  | .cells _ t frozen=>.cells (aom.map fun z=>Value.int .u8 z).toArray t frozen
  |o=>o }
end
section
open Go.Proofs Go.Proofs.YtnlcekpflogjkaaGreatDoor
open Go.RowKit Go.ChangeShapes Go.WideShapes Go.ChangeAt
section
variable {H:Type}
def a95 {d:DataW H} {l:List (DataW H)} (h:d∈l):Rows.uptoBulk d<=Rows.uptoBulkAll l:=by
 induction l with
 |nil=>cases h
 | cons x r ih =>
  rw[Rows.uptoBulkAll]
  rcases bt7.1 h with e|e
  · subst e;omega
  have:=ih e;omega
def bcg (d:DataW H):1<=Rows.uptoBulk d:=by
 cases d with
 |lit l=>cases l<;>simp[Rows.uptoBulk]
 |_=>simp[Rows.uptoBulk]
def b59 (l:List (DataW H)):l.length<=Rows.uptoBulkAll l:=by
 induction l with
 |nil=>simp
 |cons x r ih=>have:=bcg x;rw[Rows.uptoBulkAll,bto];omega
def b50 {l r:List (DataW H)} {d:DataW H} (h:d∈l):Rows.uptoBulk d<=Rows.uptoBulk (.slice l r):=by
 have:=a95 h;rw[Rows.uptoBulk];omega
def bd6 {l:List (DataW H)} {d:DataW H} (h:d∈l):Rows.uptoBulk d<=Rows.uptoBulk (.agg l):=by
 have:=a95 h;rw[Rows.uptoBulk];omega
def bd9 (l r:List (DataW H)):l.length<=Rows.uptoBulk (.slice l r):=by
 have:=b59 l;rw[Rows.uptoBulk];omega
end
def RdB (P:Program) (t:TypeId) (n:Nat) {α:Type} (c:α->Nat->PV) (B:Nat->α->Prop):Prop :=
 ∀ (H:Type) (enc:TypeId×Value->H) (w:World) (sp:Nat->Bool) (held:Bool) (fuel:Nat) (cs:List Value) (x:DataW H×List MemPlace),DataW.trod enc P w 0 sp held fuel t cs=some x ->
  cs.length=n/\∃a:α,B (Rows.uptoBulk x.1) a/\∀j,j<n->∃v,cs[j]? = some v/\aq (fw w) (c a j) v
section
variable {P:Program}{t e:TypeId}
theorem Rd.toB {n:Nat} {α:Type} {c:α->Nat->PV} (h:Rd P t n c):RdB P t n c fun _ _=>True:=by
 intro H enc w sp held fuel cs x hx;obtain⟨h1,a,h2⟩:=h _ enc w sp held fuel cs x hx;exact⟨h1,a,trivial,h2⟩
section
variable {α:Type}{B:Nat->α->Prop}{c:α->Nat->PV}
theorem RdB.co {n:Nat} {β:Type} {c':β->Nat->PV} {B':Nat->β->Prop} (h:RdB P t n c B) (f:α->β) (hB:∀b a,B b a->B' b (f a)) (hc:∀a j,j<n->CoP (c a j) (c' (f a) j)):RdB P t n c' B':=by
 intro H enc w sp held fuel cs x hx;obtain⟨h1,a,h0,h2⟩:=h _ enc w sp held fuel cs x hx;refine⟨h1,f a,hB _ _ h0,fun j hj=>?_⟩;obtain⟨v,h3,h4⟩:=h2 j hj;exact⟨v,h3,hc a j hj _ _ h4⟩
def ajl{s:Nat}[Inhabited α](mono:∀b b' x,b<=b'->B b x->B b' x)(ht:P.underlying t=some (.slice e))(hc:P.cellsOf e=s)(hs:0<s)(h:RdB P e s c B):RdB P t 1 (awl s c) (fun b l=>l.length<=b/\∀i,i<l.length->B b (l.getD i default)):=by
 classical
 intro H enc w sp held fuel cs x hx
 rcases DataW.trod_slice ht hx with⟨rfl,_⟩|⟨a,len,cap,elems,rest,n,rfl,rfl,rfl,hb,hl,hm,hlen,hel,_,_⟩
 · refine ⟨rfl,[],⟨bsx _,fun i hi=>absurd hi (bt1 i)⟩,fun j hj=>?_⟩
   obtain rfl:j=0:=by omega
   exact⟨_,rfl,none,0,rfl,bsw _,bsx _,(fun hh=>by cases hh),fun hh=>absurd hh (bvd 0)⟩
 have each:∀i,i<len->∃q:α,B (Rows.uptoBulk (DataW.slice (elems.map (·.1)) (rest.map (·.1)))) q/\∀j,j<s->∃v,w.cell? (a.add (i*s+j))=some v/\aq (fw w) (c q j) v:=by
  intro i hi;have h1:=hel i hi;rw[hc]at h1;rw[bsu bww]at h1;obtain⟨cs',h2,h3⟩:=Option.bind_eq_some_iff.1 h1;obtain⟨_,h4,h5⟩:=World.cells?_some h2;obtain⟨_,q,h9,h6⟩:=h _ enc w sp held n cs' _ h3;refine⟨q,mono _ _ q (b50 (List.mem_map_of_mem (bta _))) h9,fun j hj=>?_⟩;obtain⟨v,h7,h8⟩:=h6 j hj;refine⟨v, ?_,h8⟩;have:=h5 j hj;rw[h7]at this;rw[<- this];congr 1;unfold Addr.add;by_cases hj0:j=0
  · subst hj0
    simp
  by_cases hi0:i*s=0
  · simp[hi0,hj0]
  have:¬(i*s+j=0):=by omega
  simp only[hj0,hi0,this,if_false];congr 1;omega
 refine⟨rfl,(List.range len).map fun i=>if hi:i<len then Classical.choose (each i hi)else default,⟨?_,fun i hi=>?_⟩,fun j hj=>?_⟩
 · rw [btn,bwq,<- hlen]
   have:=bd9 (elems.map (·.1)) (rest.map (·.1));rw[btn]at this;exact this
 · have hi:i<len:=by simpa using hi
   have hch:=(Classical.choose_spec (each i hi)).1;have e:((List.range len).map fun i=>if hi:i<len then Classical.choose (each i hi)else default).getD i default=Classical.choose (each i hi):=by simp[List.getD,hi]
   rw[e];exact hch
 obtain rfl:j=0:=by omega
 refine⟨_,rfl,some a,cap,by simp,by simpa using hl,hm,(fun hh=>by cases hh),fun hn=>?_⟩;have hn:0<len:=by simpa using hn
 have hspot:a.spot=none:=by
  obtain⟨q,_,hq⟩:=each 0 hn;obtain⟨v,hv,_⟩:=hq 0 hs;have:a.add (0*s+0)=a:=by simp[Addr.add]
  rw[this]at hv;unfold World.cell? at hv;split at hv
  · split at hv
    · cases hv
    rename_i hsp;simpa using hsp
  cases hv
 refine⟨a.block,a.off, ?_,fun i j hi hj=>?_⟩
 · obtain ⟨b,o,spo⟩:=a
   simp only at hspot;subst hspot;rfl
 have hi:i<len:=by simpa using hi
 have hch:=(Classical.choose_spec (each i hi)).2;obtain⟨v,hv,hr⟩:=hch j hj;refine⟨v, ?_, ?_⟩
 · unfold World.cell? at hv
   have hblk:(a.add (i*s+j)).block=a.block:=by unfold Addr.add;split<;>rfl
   have hoff:(a.add (i*s+j)).off=a.off+(i*s+j):=by
    unfold Addr.add;split
    · rename_i h0;rw[h0];rfl
    rfl
   rw[hblk,hoff]at hv;unfold j2 fw;split at hv
   · rename_i hb'
     rw[hb'];split at hv
     · cases hv
     exact hv
   cases hv
 have:lf c ((List.range len).map fun i=>if hi:i<len then Classical.choose (each i hi)else default) i j=c (Classical.choose (each i hi)) j:=by
  unfold lf;simp[List.getD,hi]
 rw[this];exact hr
def a5z {H:Type} {enc:TypeId×Value->H} {w:World} {sp:Nat->Bool} {held:Bool} {fuel:Nat} {cs:List Value} {x:DataW H×List MemPlace} {fs:Array Field} (ht:P.underlying t=some (.struct fs)) (h:DataW.trod enc P w 0 sp held fuel t cs=some x) :
 cs.length=P.cellsOf t/\∃n,∀(i:Nat) (f:Field),fs[i]? = some f->∃y,DataW.trod enc P w 0 sp held n f.type ((cs.drop f.offset).take (P.cellsOf f.type))=some y/\Rows.uptoBulk y.1<=Rows.uptoBulk x.1:=by
 obtain⟨xs,n,_,rfl,h1,h2,h3⟩:=DataW.trod_struct ht h;refine⟨h1,n,fun i f hf=>?_⟩;have:=h3 i f hf;rw[this];have hi:i<xs.length:=by rw[h2];exact(bt3.1 hf).1
 exact⟨_,bsu hi,bd6 (List.mem_map_of_mem (bta hi))⟩
def rh {H:Type} {enc:TypeId×Value->H} {w:World} {sp:Nat->Bool} {held:Bool} {n off s b:Nat} {ft:TypeId} {cs:List Value} {y:DataW H×List MemPlace} (mono:∀b b' x,b<=b'->B b x->B b' x) (h:RdB P ft s c B) (hy:DataW.trod enc P w 0 sp held n ft ((cs.drop off).take (P.cellsOf ft))=some y/\Rows.uptoBulk y.1<=b):
 ∃a:α,B b a/\∀j,j<s->∃v,cs[off+j]? = some v/\aq (fw w) (c a j) v:=by
 obtain⟨h1,a,h0,h2⟩:=h _ enc w sp held n _ y hy.1;refine⟨a,mono _ _ a hy.2 h0,fun j hj=>?_⟩;obtain⟨v,h3,h4⟩:=h2 j hj;refine⟨v, ?_,h4⟩;rw[btx]at h3;split at h3
 · rwa [bvz]at h3
 cases h3
end
end
section
variable {P:Program}{t e:TypeId}
def apn {m:Imm} {c:Nat->PV}:∀{n:Nat} {us:List Value} {k:Nat},us.length=n->(∀j,j<n->∃v,us[j]? = some v/\aq m (c (k+j)) v)->fl m ((List.range' k n).map c) us
 |0,[],_,_,_=>trivial
 | n+1,u::us,k,hl,h=>by
  obtain⟨v,h1,h2⟩:=h 0 bww;simp only[List.getElem?_cons_zero,bst]at h1;subst h1;refine⟨h2,apn (n:=n) (k:=k+1) (by simpa using hl) fun j hj=>?_⟩;obtain⟨v,h3,h4⟩:=h (j+1) bww;refine⟨v,by simpa using h3, ?_⟩;rwa [show k+1+j=k+(j+1) by omega]
 |0,_::_,_,h,_=>by cases h
 |_+1,[],_,h,_=>by cases h
def atg {H:Type} {enc:TypeId×Value->H} {W:World} {cs:Array Value} {d:DataW H} {ps:List MemPlace} {n:Nat} {α:Type} {c:α->Nat->PV} {B:Nat->α->Prop} (h:RdB P t n c B) (hd:DataW.Trod enc P W 0 (fun _=>true) true t (.agg cs) d ps) :
 ∃a:α,B (Rows.uptoBulk d) a/\lq (fw W) (.agg ((List.range' 0 n).map (c a))) (.agg cs):=by
 obtain⟨fuel,hf⟩:=hd;obtain⟨hl,a,h0,ha⟩:=h _ enc W _ _ fuel _ _ hf;refine⟨a,h0,cs.toList,by simp,apn hl fun j hj=>?_⟩;rw[btk];exact ha j hj
end
end
section
open Go.RowKit
section
variable {w0:World}{nt:Nat}{c:Ctx}{s:S}{a:Act}{w:World}
section
variable {g:Nat->Nat->Nat->PV}{m:Nat->Nat}
theorem aeh {base:Nat} {o:au} {id:Nat} {e et:TypeId} {es:Nat} (hes:0<es) (hb:c.blk id=noB) (hv:∃ad,c.own id=.slice ad 0 0):eg base c o w id (.nest e et es 0 m g none):=by
 obtain⟨ad,hv⟩:=hv;refine⟨hes,bsx _,fun i hi=>absurd hi (bt1 i),fun b=>?_,fun i b hi=>absurd hi (bt1 i),fun i hi=>absurd hi (bt1 i), .inl ⟨rfl,ad,hv⟩⟩;rw[hb,hv];constructor
 · exact fun h=>h.elim
 rintro(h|⟨i,hi,_⟩)
 · cases ad<;>simp[az]at h
 grind
variable {f:Nat->Nat->PV}
def yk {imm:Imm} {s':Nat} {u:Value} (h:aq imm (.sl 0 s' true f) u):∃ad,u=.slice ad 0 0:=by
 obtain⟨ad,cap,rfl,_,_,hc,_⟩:=h;simp_all
def fk(m:Nat->Nat)(n k:Nat):Nat->Nat:=fun i=>bif Nat.beq i n then k else m i
def fv(g:Nat->Nat->Nat->PV)(n:Nat)(f:Nat->Nat->PV):Nat->Nat->Nat->PV:=fun i=>bif Nat.beq i n then f else g i
def s6(m:Nat->Nat)(n k:Nat):fk m n k n=k:=by simp[fk]
def qw {n k i:Nat} (h:i≠n):fk m n k i=m i:=by
 have:Nat.beq i n=false:=by rw[btb];exact fun hb=>h (btw hb)
 simp[fk,this]
def agu(g:Nat->Nat->Nat->PV)(n:Nat)(f:Nat->Nat->PV):fv g n f n=f:=by simp[fv]
def acp {n i:Nat} (h:i≠n):fv g n f i=g i:=by
 have:Nat.beq i n=false:=by rw[btb];exact fun hb=>h (btw hb)
 simp[fv,this]
def a7m{v:Value}{b:Nat}(h:az v=some b):cu v=some b:=by
 unfold az at h;split at h
 · split at h
   · cases h
   exact h
 cases h
theorem ah.absorb(h:ah w0 nt c s a w){id id' k n:Nat}{e et:TypeId}{es:Nat}(ho:s.o id=some (.nest e et es n m g (some (id',k))))(ho':s.o id'=some (.arr true es et k f)):
 ∃c',c'.old=c.old/\ah w0 nt c' ((s.setO id (some (.nest e et es (n+1) (fk m n k) (fv g n f) none))).setO id' none) a w:=by
 have hne:id'≠id:=by rintro rfl;rw[ho]at ho';cases ho'
 have hnk:lm 0 c s.o w id e et es n m g (some (id',k)):=h.objs id _ ho;obtain⟨q0,q1,q5⟩:=h.objs id' _ ho'
 have hcb:∀b,az (c.own id')=some b->c.blk id' b:=fun b hb=>by
  rcases q5 with⟨q6,_⟩|⟨q7,_,q8⟩
  · rw[q6];exact a7m hb
  obtain⟨ad,cap,r1,_,_,r4,_⟩:=q8
  rcases q7 with q7|q7
  · cases q7
  subst q7;rw[r1,r4 rfl]at hb;cases ad<;>simp[az]at hb
 have hrow:(k=0/\∃a,c.own id'=.slice a 0 0)\/∃ys,w.ownsRow 0 et es (c.own id') k ys/\∀r j,r<k->j<es->∃x,ys[r*es+j]? = some x/\aq c.imm (f r j) x:=by
  rcases q5 with⟨q6,xs,q7,q8⟩|⟨q6,q7,q8⟩
  · grind
  rcases q6 with q6|q6
  · cases q6
  subst q6;exact .inl ⟨rfl,yk q8⟩
 let o':au:=((s.setO id (some (.nest e et es (n+1) (fk m n k) (fv g n f) none))).setO id' none).o
 have oid:o' id=some (.nest e et es (n+1) (fk m n k) (fv g n f) none):=by
  show(if id=id' then _ else if id=id then _ else _)=_
  grind
 have oid':o' id'=none:=by
  show(if id'=id' then _ else _)=_
  grind
 have oelse:∀q,q≠id->q≠id'->o' q=s.o q:=fun q h1 h2=>by
  show(if q=id' then _ else if q=id then _ else _)=_
  grind
 let c':Ctx:={ old:=c.old,imm:=c.imm,tab:=c.tab,own:=c.own,blk:=fun q=>if q=id then(fun b=>c.blk id b\/az (c.own id')=some b)else c.blk q,rows:=fun q=>if q=id then(fun i=>if i=n then c.own id' else c.rows id i)else c.rows q }
 have rlt:∀i,i<n->c'.rows id i=c.rows id i:=fun i hi=>by
  grind
 have rn:c'.rows id n=c.own id':=by
  grind
 have hevo:∀q,Evo c s.o c' o' q:=fun q=>by
  by_cases h1:q=id
  · subst h1
    refine .inr (.inr ⟨_,_,1,e,n+1,n+1,ho,rfl,oid,rfl,bsw _,fun _=>rfl,fun e2 et2 es2 n2 m2 g2 pd2 hb2=>?_⟩);cases hb2;refine⟨_,_,_,_,_,_,rfl,bwd _,fun i hi=>⟨by rw[qw bww];exact bsw _,fun _=>rlt i hi⟩⟩
  by_cases h2:q=id'
  · subst h2;exact .inl oid'
  exact Evo.of_same (oelse q h1 h2) rfl (by show(if q=id then _ else _)=_;rw[if_neg h1])
 have bid:∀q,q≠id->c'.blk q=c.blk q:=fun q hq=>by show(if q=id then _ else _)=_;rw[if_neg hq]
 have bself:∀b,c'.blk id b<->(c.blk id b\/az (c.own id')=some b):=fun b=>by
  grind
 have hold:∀q ob,o' q=some ob->q≠id->q≠id'/\s.o q=some ob:=fun q ob hq h1=>by
  grind
 have whose:∀b,c'.blk id b->c.blk id b\/c.blk id' b:=fun b hb=>((bself b).1 hb).imp (fun z=>z) (hcb b);refine⟨c',rfl,⟨h.defers,h.size,h.below,fun d x hx=>(h.tmps d x hx).evo (Imm.le.refl c.imm) fun q _=>hevo q,fun q ob hq=>?_,fun q q' ob ob' b hq hq' hb hb'=>?_,h.imm,fun q ob b hq hb=>?_,h.was,h.frm,fun q ob b hq hb=>?_,fun q hq=>(h.fixed q hq).trans (hevo q)⟩⟩
 · by_cases h1:q=id
   · subst h1
     have hq:o' q=some ob:=hq;rw[oid]at hq;cases hq;have hlen:=hnk.len;simp only[ni]at hlen;refine⟨hnk.pos,hlen,fun i hi=>?_,fun b=>?_,fun i b hi hb=>?_,fun i hi=>?_, .inr ?_⟩
     · by_cases hin:i=n
       · subst hin;rw[s6];exact q1
       rw[qw hin];exact hnk.lens i bww
     · rw [bself,hnk.blks]
       constructor
       · rintro ((h2|⟨i,hi,h2⟩)|h2)
         · exact .inl h2
         · grind
         exact .inr ⟨n,by omega,by rw[rn];exact h2⟩
       grind
     · have far:∀b,az (c.own id')=some b->¬c.blk q b:=fun b h2 h3=>hne (h.inj id' q _ _ b ho' ho (hcb b h2) h3)
       by_cases hin:i=n
       · subst hin
         rw[rn]at hb;refine⟨fun h2=>far b hb ((hnk.blks b).2 (.inl h2)),fun i' hi' h2=>?_⟩;by_cases hin':i'=i
         · exact hin'
         rw[rlt i' bww]at h2;exact(far b hb ((hnk.blks b).2 (.inr ⟨i',by omega,h2⟩))).elim
       rw[rlt i bww]at hb;obtain⟨h2,h3⟩:=hnk.apart i b bww hb;refine⟨h2,fun i' hi' h4=>?_⟩;by_cases hin':i'=n
       · subst hin'
         rw[rn]at h4;exact(far b h4 ((hnk.blks b).2 (.inr ⟨i,by omega,hb⟩))).elim
       grind
     · by_cases hin:i=n
       · subst hin
         rw[rn,s6,agu];exact hrow
       rw[rlt i bww,qw hin,acp hin];exact hnk.row i bww
     rcases hnk.top with⟨h2,_⟩|⟨xs,t1,t2,t3⟩
     · simp[ni]at h2
     refine⟨xs,t1,fun i hi=>?_,fun p hp=>by cases hp⟩;by_cases hin:i=n
     · subst hin
       obtain⟨x,hx,hxr⟩:=t3 _ rfl;obtain⟨_,_,hr3⟩:=hxr;rw[rn,hx,(hr3 _ _ _ _ ho' rfl).2 rfl]
     grind
   obtain⟨h2,h3⟩:=hold q ob hq h1;exact(h.objs q ob h3).keep (Imm.le.refl c.imm) rfl (bid q h1) (fun j _=>hevo j) (fun b _=>rfl) (by show(if q=id then _ else _)=_;rw[if_neg h1])
 · by_cases h1:q=id
   · by_cases h2:q'=id
     · rw[h1,h2]
     obtain⟨h3,h4⟩:=hold q' ob' hq' h2;rw[bid q' h2]at hb';subst h1
     rcases whose b hb with h5|h5
     · exact h.inj q q' _ _ b ho h4 h5 hb'
     exact(h3 (h.inj q' id' _ _ b h4 ho' hb' h5)).elim
   obtain⟨h3,h4⟩:=hold q ob hq h1;rw[bid q h1]at hb;by_cases h2:q'=id
   · subst h2
     rcases whose b hb' with h5|h5
     · exact h.inj q q' _ _ b h4 ho hb h5
     exact(h3 (h.inj q id' _ _ b h4 ho' hb h5)).elim
   obtain⟨h5,h6⟩:=hold q' ob' hq' h2;rw[bid q' h2]at hb';exact h.inj q q' _ _ b h4 h6 hb hb'
 · by_cases h1:q=id
   · subst h1
     rcases whose b hb with h5|h5
     · exact h.sep q _ b ho h5
     exact h.sep id' _ b ho' h5
   rw[bid q h1]at hb;exact h.sep q ob b (hold q ob hq h1).2 hb
 by_cases h1:q=id
 · subst h1
   rcases whose b hb with h5|h5
   · exact h.fsep q _ b ho h5
   exact h.fsep id' _ b ho' h5
 rw[bid q h1]at hb;exact h.fsep q ob b (hold q ob hq h1).2 hb
def a18(es:Nat)(m:Nat->Nat)(g:Nat->Nat->Nat->PV):Nat->Nat->PV:=fun i _=>.sl (m i) es false (g i)
end
open Classical in
noncomputable def thinImm (c:Ctx) (w:World) (id n:Nat):Imm:=fun b=>if ∃i,i<n/\az (c.rows id i)=some b then w.heap[b]? else c.imm b
theorem ah.thin(h:ah w0 nt c s a w){id n:Nat}{e et:TypeId}{es:Nat}{m:Nat->Nat}{g:Nat->Nat->Nat->PV}(ho:s.o id=some (.nest e et es n m g none)) :
 ∃c',c'.old=c.old/\ah w0 nt c' (s.setO id (some (.arr true 1 e n (a18 es m g)))) a w:=by
 have hnk:lm 0 c s.o w id e et es n m g none:=h.objs id _ ho;have hin:∀b,(∃i,i<n/\az (c.rows id i)=some b)->c.blk id b:=fun b hb=>(hnk.blks b).2 (.inr hb)
 have hle:Imm.le c.imm (thinImm c w id n):=fun b ob hb=>by
  unfold thinImm;by_cases hk:∃i,i<n/\az (c.rows id i)=some b
  · rw[h.sep id _ b ho (hin b hk)]at hb;cases hb
  grind
 let ob':a7:=.arr true 1 e n (a18 es m g)
 let bk:Nat->Prop:=fun b=>az (c.own id)=some b
 let c':Ctx:={ old:=c.old,imm:=thinImm c w id n,tab:=c.tab.mono hle,own:=c.own,blk:=fun q=>if q=id then bk else c.blk q,rows:=c.rows }
 have oid:(s.setO id (some ob')).o id=some ob':=by show(if id=id then _ else _)=_;rw[if_pos rfl]
 have oelse:∀q,q≠id->(s.setO id (some ob')).o q=s.o q:=fun q hq=>by show(if q=id then _ else _)=_;rw[if_neg hq]
 have hevo:∀q,Evo c s.o c' (s.setO id (some ob')).o q:=fun q=>by
  by_cases h1:q=id
  · subst h1
    exact .inr (.inr ⟨_, .arr true 1 e n (a18 es m g),1,e,n,n,ho,rfl,oid,rfl,bsw _,fun _=>rfl,fun _ _ _ _ _ _ _ hb=>by cases hb⟩)
  exact Evo.of_same (oelse q h1) rfl rfl
 have bid:∀q,q≠id->c'.blk q=c.blk q:=fun q hq=>by show(if q=id then _ else _)=_;rw[if_neg hq]
 have bself:c'.blk id=bk:=by show(if id=id then _ else _)=_;rw[if_pos rfl]
 have whose:∀b,c'.blk id b->c.blk id b:=fun b hb=>by
  rw[bself]at hb;exact(hnk.blks b).2 (.inl hb)
 have hrowP:∀i,i<n->aq (thinImm c w id n) (.sl (m i) es false (g i)) (c.rows id i):=fun i hi=>by
  obtain⟨ad,cap,q1,q2,q3⟩:=ak9 (h.objs id _ ho) hi;refine⟨ad,cap,q1,q2,q3,(fun hh=>by cases hh),fun hm=>?_⟩;obtain⟨b,cap',ys,r1,r2,_,r3⟩:=ac0 (h.objs id _ ho) hi hm;rw[q1]at r1;simp only[Value.slice.injEq,true_and]at r1;obtain⟨rfl,rfl⟩:=r1;refine⟨b,0,rfl,fun r j hr hj=>?_⟩;obtain⟨x,_,hx,hxr⟩:=r3 r j hr hj;refine⟨x, ?_,aq.mono hle hxr⟩;rw[btk];unfold j2 thinImm;rw[if_pos ⟨i,hi,r2⟩];unfold World.cell? at hx
  grind
 refine⟨c',rfl,⟨h.defers.keep (fun _ _=>rfl) (fun D hD hd=>?_),h.size,h.below,fun d x hx=>(h.tmps d x hx).evo hle fun q _=>hevo q,fun q ob hq=>?_,fun q q' ob ob2 b hq hq' hb hb'=>?_,fun b ob hb=>?_,fun q ob b hq hb=>?_,fun b hb=>?_,h.frm,fun q ob b hq hb=>?_,fun q hq=>(h.fixed q hq).trans (hevo q)⟩⟩
 · show thinImm c w id n D=none
   unfold thinImm
   rw [if_neg fun hk=>by
    obtain⟨x1,hc,hdt⟩:=(h.objs id _ ho).data (hin D hk);rw[hd]at hc;cases hc
    cases hdt]
   exact hD
 · by_cases h1:q=id
   · subst h1
     rw[oid]at hq;cases hq;refine⟨Nat.one_pos,hnk.len, ?_⟩
     have hplain:n=0/\(∃ad,c.own q=.slice ad 0 0)->(c'.blk q=ew (c.own q)/\∃xs,w.ownsRow 0 e 1 (c.own q) n xs/\∀i j,i<n->j<1->∃x,xs[i*1+j]? = some x/\aq c'.imm (a18 es m g i j) x) \/
      ((true=false\/n=0)/\c'.blk q=noB/\aq c'.imm (.sl n 1 true (a18 es m g)) (c.own q)):=by
      rintro⟨rfl,ad,hv⟩;refine .inr ⟨.inr rfl, ?_, ?_⟩
      · rw [bself]
        funext b;show(az (c.own q)=some b)=False;rw[hv];cases ad<;>simp[az]
      rw[hv];exact⟨ad,0,rfl,bsw _,bsx _,fun _=>rfl,fun hh=>absurd hh (bvd 0)⟩
     rcases hnk.top with⟨h2,h3⟩|⟨xs,t1,t2,_⟩
     · grind
     have t1:w.ownsRow 0 e 1 (c.own q) n xs:=t1
     rcases gk t1 with r0|⟨b,cap,rv,rb⟩
     · grind
     refine .inl ⟨?_,xs,t1,fun i j hi hj=>?_⟩
     · rw [bself]
       funext b';show(az (c.own q)=some b')=(cu (c.own q)=some b');rw[rb,rv];rfl
     obtain rfl:j=0:=by omega
     exact⟨_,by simpa using t2 i hi,hrowP i hi⟩
   rw[oelse q h1]at hq;exact(h.objs q ob hq).keep hle rfl (bid q h1) (fun j _=>hevo j) (fun b _=>rfl) rfl
 · by_cases h1:q=id
   · by_cases h2:q'=id
     · rw[h1,h2]
     rw[oelse q' h2]at hq';rw[bid q' h2]at hb';subst h1;exact h.inj q q' _ _ b ho hq' (whose b hb) hb'
   rw[oelse q h1]at hq;rw[bid q h1]at hb;by_cases h2:q'=id
   · subst h2
     exact h.inj q q' _ _ b hq ho hb (whose b hb')
   rw[oelse q' h2]at hq';rw[bid q' h2]at hb';exact h.inj q q' _ _ b hq hq' hb hb'
 · have hb:thinImm c w id n b=some ob:=hb
   unfold thinImm at hb;split at hb
   · exact hb
   exact h.imm b ob hb
 · show thinImm c w id n b=none
   unfold thinImm;by_cases h1:q=id
   · subst h1
     rw[bself]at hb;rw[if_neg fun⟨i,hi,hk⟩=>(hnk.apart i b hi hk).1 hb];exact h.sep q _ b ho ((hnk.blks b).2 (.inl hb))
   rw[oelse q h1]at hq;rw[bid q h1]at hb;rw[if_neg fun hk=>h1 (h.inj q id _ _ b hq ho hb (hin b hk))];exact h.sep q ob b hq hb
 · show thinImm c w id n b=c.old.1 b
   unfold thinImm;rw[if_neg fun hk=>hb (h.fsep id _ b ho (hin b hk))];exact h.was b hb
 by_cases h1:q=id
 · subst h1
   exact h.fsep q _ b ho (whose b hb)
 rw[oelse q h1]at hq;rw[bid q h1]at hb;exact h.fsep q ob b hq hb
end
section
variable {ro:Option Nat}{P:Program}{nt:Nat}{st:HSt}{Q:Exit->HSt->Prop}
theorem aji {c:Code} (d id:Nat) {s':Nat} {f':Nat->Nat->PV} (e et:TypeId) (es:Nat) (m:Nat->Nat) (g:Nat->Nat->Nat->PV) (hs:0<es) (hd:ay st.t d=some (bp (.sl 0 s' true f'))) (hn:jp id st=true)
 (h:HW (ro:=ro) P nt c ⟨(d,some (.v (.one (.ref id 0))))::st.t,(id,some (.nest e et es 0 m g none))::st.o⟩ Q):HW (ro:=ro) P nt c st Q:=by
 obtain⟨hnm,hno⟩:=ek hn;refine ve ⟨st.t,(id,some (.nest e et es 0 m g none))::st.o⟩ d (.v (.one (.ref id 0))) (fun w0 m0 a w hr=>?_) h;obtain⟨cc,hold,hrr⟩:=hr;have hx:aq cc.imm (.sl 0 s' true f') (a.tmps.getD d undef):=hrr.tmps d _ hd;have hfresh:=hrr.fresh id hnm hno (.nest e et es 0 m g none) w (a.tmps.getD d undef) noB (Grw.refl w none) (fun b hb=>hb.elim) (aeh hs bx0 (by simpa using yk hx));refine⟨_, ?_,by rw[ja];exact hfresh, ?_⟩
 · exact hold
 rw[ja];refine⟨aq.oneCell hx,fun l=>by simp[S.setO],fun ob1 s1 e1 n1 ho hd1=>?_⟩
 grind
section
variable {g:Nat->Nat->Nat->PV}
theorem b2y {c:Code} (id id':Nat) {k n:Nat} {e et:TypeId} {es:Nat} {m:Nat->Nat} {f:Nat->Nat->PV} (ho:ay st.o id=some (.nest e et es n m g (some (id',k)))) (ho':ay st.o id'=some (.arr true es et k f)) (h:HW (ro:=ro) P nt c ⟨st.t,(id',none)::(id,some (.nest e et es (n+1) (fk m n k) (fv g n f) none))::st.o⟩ Q):HW (ro:=ro) P nt c st Q:=fun w0 m0 a w hr=>by
 obtain⟨cc,hold,hrr⟩:=hr;obtain⟨c',h1,h2⟩:=hrr.absorb ho ho';refine h w0 m0 a w ⟨c',h1.trans hold, ?_⟩;have e1:=u7 ⟨st.t,(id,some (.nest e et es (n+1) (fk m n k) (fv g n f) none))::st.o⟩ id';rw[ja]at e1
 grind
def ais {c:Code} (id:Nat) {n:Nat} {e et:TypeId} {es:Nat} {m:Nat->Nat} (ho:ay st.o id=some (.nest e et es n m g none)) (h:HW (ro:=ro) P nt c ⟨st.t,(id,some (.arr true 1 e n (a18 es m g)))::st.o⟩ Q):HW (ro:=ro) P nt c st Q:=fun w0 m0 a w hr=>by
 obtain⟨cc,hold,hrr⟩:=hr;obtain⟨c',h1,h2⟩:=hrr.thin ho;refine h w0 m0 a w ⟨c',h1.trans hold, ?_⟩;rw[ja];exact h2
end
end
section
variable {f':Nat->Nat->PV}
theorem aec {nt:Nat} {st:HSt} {w0:World} {m0:Old} {a:Act} {w:World} (bx off id:Nat) {s':Nat} {l:List HV} (e et:TypeId) (es:Nat) (m:Nat->Nat) (g:Nat->Nat->Nat->PV) (hs:0<es) (hb:ay st.o bx=some (.box l)) (hl:l[off]? = some (.p (.sl 0 s' true f'))) (hn:jp id st=true) (hne:Nat.beq bx id=false) (hr:Rel w0 m0 nt st.den a w):Rel w0 m0 nt (HSt.den ⟨st.t,(bx,some (.box (bo l off [.ref id 0])))::(id,some (.nest e et es 0 m g none))::st.o⟩) a w:=by
 obtain⟨hnm,hno⟩:=ek hn;obtain⟨cc,hold,hrr⟩:=hr;have hbi:bx≠id:=by rintro rfl;simp at hne
 obtain⟨b0,C0,e0,p1,p2,p3,p4,p5⟩:=hrr.objs bx _ hb;obtain⟨u,hu,hur⟩:=p5.get off _ hl;have hx:aq cc.imm (.sl 0 s' true f') u:=hur;have hfresh:=hrr.fresh id hnm hno (.nest e et es 0 m g none) w u noB (Grw.refl w none) (fun b hb=>hb.elim) (aeh hs bx0 (by simpa using yk hx));rw[<- ja]at hfresh
 have hb':(HSt.den ⟨st.t,(id,some (.nest e et es 0 m g none))::st.o⟩).o bx=some (.box l):=by
  simp only[HSt.den,aw,hbi,if_false];exact hb
 have hevo:∀(c1:Ctx),c1.own=(fun k=>if k=id then u else cc.own k)->Evo { old:=cc.old,imm:=cc.imm,tab:=cc.tab,own:=fun k=>if k=id then u else cc.own k,blk:=fun k=>if k=id then noB else cc.blk k,rows:=cc.rows } (HSt.den ⟨st.t,(id,some (.nest e et es 0 m g none))::st.o⟩).o c1 ((HSt.den ⟨st.t,(id,some (.nest e et es 0 m g none))::st.o⟩).setO bx (some (.box (bo l off [.ref id 0])))).o bx:=fun c1 h1 =>
  .inr (.inl ⟨l,bo l off [.ref id 0],hb',by simp[S.setO],by rw[h1]⟩)
 have hown:(fun k=>if k=bx then(fun k=>if k=id then u else cc.own k) bx else(fun k=>if k=id then u else cc.own k) k)=fun k=>if k=id then u else cc.own k:=by
  grind
 have hw:=hfresh.write bx (.box l) hb' (.box (bo l off [.ref id 0])) w ((fun k=>if k=id then u else cc.own k) bx) ((fun k=>if k=id then noB else cc.blk k) bx) none (Grw.refl w _) (fun _ e=>by cases e) (hevo _ (by exact hown)) (fun b hb=>.inl hb) (by
  refine⟨b0,C0,e0,by simpa [hbi]using p1,by simpa [hbi]using p2,p3,p4, ?_⟩;have hoff:off<l.length:=(buw.1 hl).1;have hcl:=p5.length;refine bf.of_get ?_ fun k x u' hx' hu'=>?_
  · simp only[bo,bsy,bt4,bvh,bub];omega
  have hx2:=hx';unfold bo at hx2;rw[db l [HV.ref id 0] off k bxc]at hx2;by_cases hk:k=off
  · subst hk
    simp at hx2;subst hx2;rw[hu]at hu';simp only[bst]at hu';subst hu';refine⟨aq.oneCell hx,fun l2=>by simp[S.setO,HSt.den,aw,Ne.symm hbi],fun ob1 s1 e1 n1 ho hd1=>?_⟩
    grind
  rw[if_neg bxc]at hx2;obtain⟨u2,hu2,hr2⟩:=p5.get k x hx2;rw[hu']at hu2;simp only[bst]at hu2;subst hu2;refine bj.evo (c:=cc) (o:=st.den.o) (Imm.le.refl cc.imm) (fun j hj=>?_) hr2
  have hji:j≠id:=by
   rintro rfl;exact hnm.2.1 bx _ hb ⟨x,List.mem_of_getElem? hx2,hj⟩
  by_cases hjb:j=bx
  · subst hjb;exact .inr (.inl ⟨l,bo l off [.ref id 0],hb,by simp[S.setO],by simp[hji]⟩)
  exact Evo.of_same (by simp[S.setO,hjb,HSt.den,aw,hji]) (by simp[hjb,hji]))
 have e:HSt.den ⟨st.t,(bx,some (.box (bo l off [.ref id 0])))::(id,some (.nest e et es 0 m g none))::st.o⟩=(HSt.den ⟨st.t,(id,some (.nest e et es 0 m g none))::st.o⟩).setO bx (some (.box (bo l off [.ref id 0]))):=by
  unfold HSt.den S.setO;simp only[S.mk.injEq,true_and];funext k;simp only[aw]
 rw[e];exact⟨_,(by exact hold),hw⟩
def aiw{ro:Option Nat}{P:Program}{nt:Nat}{st:HSt}{Q:Exit->HSt->Prop}{c:Code}(bx off id:Nat){s':Nat}{l:List HV}(e et:TypeId)(es:Nat)(m:Nat->Nat)(g:Nat->Nat->Nat->PV)(hs:0<es)(hb:ay st.o bx=some (.box l))(hl:l[off]? = some (.p (.sl 0 s' true f')))(hn:jp id st=true)(hne:Nat.beq bx id=false)(h:HW (ro:=ro) P nt c ⟨st.t,(bx,some (.box (bo l off [.ref id 0])))::(id,some (.nest e et es 0 m g none))::st.o⟩ Q):HW (ro:=ro) P nt c st Q:=fun w0 m0 a w hr=>h w0 m0 a w (aec bx off id e et es m g hs hb hl hn hne hr)
end
end
section
abbrev Rw:=List Int
def ltZ:Rw->Rw->Bool
 | [],[]=>false
 | [],_::_=>true
 |_::_,[]=>false
 |x::a,y::b=>if x=y then ltZ a b else decide (x<y)
def wv:∀a:Rw,ltZ a a=false
 | []=>rfl
 |x::a=>by unfold ltZ;rw[if_pos rfl];exact wv a
def oe:∀{a b c:Rw},ltZ a b=true->ltZ b c=true->ltZ a c=true
 | [],[],_,h,_=>by cases h
 | [],_::_,[],_,k=>by cases k
 | [],_::_,_::_,_,_=>rfl
 |_::_,[],_,h,_=>by cases h
 |_::_,_::_,[],_,k=>by cases k
 | x :: a,y::b,z::c,h,k=>by
  unfold ltZ at *;by_cases hxy:x=y
  · rw [if_pos hxy]at h
    subst hxy;by_cases hyz:x=z
    · rw [if_pos hyz]at k ⊢
      exact oe h k
    rw[if_neg hyz]at k ⊢;exact k
  rw[if_neg hxy]at h;have h:=of_decide_eq_true h;by_cases hyz:y=z
  · subst hyz
    rw[if_neg hxy];exact decide_eq_true h
  rw[if_neg hyz]at k;have k:=of_decide_eq_true k;rw[if_neg bww];exact decide_eq_true bww
def a42:∀{a b:Rw},a≠b->ltZ a b=true\/ltZ b a=true
 | [],[],h=>absurd rfl h
 | [],_::_,_=>.inl rfl
 |_::_,[],_=>.inr rfl
 | x :: a,y::b,h=>by
  unfold ltZ;by_cases hxy:x=y
  · subst hxy
    rw[if_pos rfl,if_pos rfl];exact a42 fun e=>h (by rw[e])
  rw[if_neg hxy,if_neg (Ne.symm hxy),decide_eq_true_iff,decide_eq_true_iff];omega
def zC:Int->Nat->PV:=fun z _=>.raw (.int .i64 z)
abbrev zl(r:Rw):PV:=psl 1 zC r
def rC:Rw->Nat->PV:=fun r _=>zl r
abbrev rl(l:List Rw):PV:=psl 1 rC l
def b74 {a b:Rw} (h:ltZ a b=true):ltZ b a=false:=by
 rw[btb];intro k;have:=oe h k;rw[wv]at this;cases this
def sm(l:List Rw):Prop:=l.Pairwise fun a b=>ltZ a b=true
def aax:∀{l k:List Rw},sm l->sm k->(∀x,x∈l<->x∈k)->l=k
 | [],[],_,_,_=>rfl
 | [],y::k,_,_,h=>absurd ((h y).2 (bu5 ..)) bx0
 |x::l,[],_,_,h=>absurd ((h x).1 (bu5 ..)) bx0
 | x :: l,y::k,hl,hk,h=>by
  obtain⟨h1,h2⟩:=bty.1 hl;obtain⟨k1,k2⟩:=bty.1 hk
  have e:x=y:=by
   rcases bt7.1 ((h x).1 (bu5 ..))with e|hx
   · exact e
   rcases bt7.1 ((h y).2 (bu5 ..))with e|hy
   · exact e.symm
   have:=b74 (k1 x hx);rw[h1 y hy]at this;cases this
  subst e;congr 1;refine aax h2 k2 fun z=>?_;constructor
  · intro hz
    rcases bt7.1 ((h z).1 (btp _ hz))with e|hz'
    · subst e
      have:=h1 z hz;rw[wv]at this;cases this
    exact hz'
  intro hz
  rcases bt7.1 ((h z).2 (btp _ hz))with e|hz'
  · subst e
    have:=k1 z hz;rw[wv]at this;cases this
  exact hz'
def ly (x:Rw):List Rw->List Rw
 | []=>[x]
 |y::l=>if x=y then y::l else if ltZ x y=true then x::y::l else y::ly x l
def acm{x z:Rw}:∀{l:List Rw},z∈ly x l<->z=x\/z∈l
 | []=>by simp[ly]
 | y :: l=>by
  unfold ly;split
  · rename_i e
    subst e;simp
  split
  · simp
  rw[bt7,acm,bt7];constructor
  · rintro(h|h|h)<;>simp[h]
  rintro(h|h|h)<;>simp[h]
def ak4{x:Rw}:∀{l:List Rw},sm l->sm (ly x l)
 | [],_=>by simp[ly,sm]
 | y :: l,h=>by
  obtain⟨h1,h2⟩:=bty.1 h;unfold ly;split
  · exact h
  split
  · rename_i hxy
    refine bty.2 ⟨fun z hz=>?_,h⟩
    rcases bt7.1 hz with rfl|hz
    · exact hxy
    exact oe hxy (h1 z hz)
  rename_i hne hxy;refine bty.2 ⟨fun z hz=>?_,ak4 h2⟩
  rcases acm.1 hz with rfl|hz
  · exact(a42 hne).resolve_left hxy
  exact h1 z hz
def bn(l:List Rw):List Rw:=l.foldl (fun o x=>ly x o) []
def a7g:∀{l o:List Rw},sm o->sm (l.foldl (fun o x=>ly x o) o)/\∀z,z∈l.foldl (fun o x=>ly x o) o<->z∈o\/z∈l
 | [],o,h=>⟨h,fun z=>by simp⟩
 | x::l,o,h=>by
  obtain⟨h1,h2⟩:=a7g (l:=l) (ak4 (x:=x) h);refine⟨h1,fun z=>?_⟩;show z∈l.foldl (fun o x=>ly x o) (ly x o)<->_;rw[h2 z,acm,bt7];constructor
  · rintro((h|h)|h)<;>simp[h]
  rintro(h|h|h)<;>simp[h]
def vd(l:List Rw):sm (bn l):=(a7g (o:=[]) List.Pairwise.nil).1
def gt {l:List Rw} {z:Rw}:z∈bn l<->z∈l:=by
 show z∈l.foldl (fun o x=>ly x o) []<->_;rw[(a7g (l:=l) (o:=[]) List.Pairwise.nil).2 z];simp
def aqx{l k:List Rw}(hk:sm k)(h:∀z,z∈k<->z∈l):k=bn l:=aax hk (vd l) fun z=>by rw[h z,gt]
def bs3(l:List Rw)(k:Nat)(r:Rw):List Rw:=l.take k++r::l.drop k
def ap2 (x:Rw):∀l:List Rw,(ly x l).length<=l.length+1
 | []=>by simp[ly]
 | y::l=>by
  unfold ly;have:=ap2 x l;split
  · simp
  split
  · simp
  simp only[bto];omega
def ajf(l:List Rw):(bn l).length<=l.length:=by
 have:∀(l o:List Rw),(l.foldl (fun o x=>ly x o) o).length<=o.length+l.length:=by
  intro l
  induction l with
  |nil=>intro o;simp
  | cons x l ih =>
   intro o;have h1:=ih (ly x o);have h2:=ap2 x o;simp only[bvl,bto];omega
 have h:=this l [];simpa [bn]using h
end
section
abbrev pZ(r:Rw):PC:=.one (zl r)
abbrev pR(l:List Rw):PC:=.one (rl l)
abbrev pT(n:Int)(l:List Rw):PC:=.agg [.raw (.int .i64 n),rl l]
def b0t:∀{a b:Rw} {i:Nat},i<a.length->i<b.length->(∀j,j<i->a.getD j default=b.getD j default)->¬a.getD i default=b.getD i default->ltZ a b=decide (a.getD i default<b.getD i default)
 | [],_,_,h,_,_,_=>by simp at h
 |_::_,[],_,_,h,_,_=>by simp at h
 | x::a,y::b,0,_,_,_,hn=>by
  have:¬x=y:=hn;unfold ltZ;rw[if_neg this];rfl
 | x::a,y::b,i+1,ha,hb,h,hn=>by
  have e:x=y:=h 0 bww;unfold ltZ;rw[if_pos e];exact b0t (by simpa using ha) (by simpa using hb) (fun j hj=>h (j+1) bww) hn
def ah0:∀{a b:Rw},(∀j,j<a.length->j<b.length->a.getD j default=b.getD j default)->ltZ a b=decide (a.length<b.length)
 | [],[],_=>rfl
 | [],_::_,_=>by simp[ltZ]
 |_::_,[],_=>by simp[ltZ]
 | x::a,y::b,h=>by
  have e:x=y:=h 0 bx0 bx0;unfold ltZ;rw[if_pos e,ah0 fun j h1 h2=>h (j+1) (by simpa using h1) (by simpa using h2)];simp
def sq(a b:Rw):Int:=if a=b then 0 else if ltZ a b=true then -1 else 1
section
variable {a b:Rw}{i:Nat}
def bey (ha:i<a.length) (hb:i<b.length) (h:∀j,j<i->a.getD j default=b.getD j default) (hn:¬gj (a.getD i default) (b.getD i default)=0):gj (a.getD i default) (b.getD i default)=sq a b:=by
 have hne:¬a.getD i default=b.getD i default:=fun e=>hn (by unfold gj;rw[if_neg bww,if_neg bww]);unfold gj sq;rw[if_neg (fun e:a=b=>hne (by rw[e])),b0t ha hb h hne];simp only[decide_eq_true_eq];split
 · rfl
 rw[if_pos bww]
def bjy {a b:Int} (h:gj a b=0):a=b:=by
 unfold gj at h;split at h
 · omega
 split at h<;>omega
def b9n (ha:i<a.length) (hb:¬i<b.length) (h:∀j,j<i->a.getD j default=b.getD j default):(1:Int)=sq a b:=by
 unfold sq;rw[if_neg (fun e:a=b=>by subst e;omega),ah0 fun j h1 h2=>h j bww,if_neg (by simp only[decide_eq_true_eq];omega)]
def bcc (hl:a.length<b.length) (h:∀j,j<a.length->a.getD j default=b.getD j default):(-1:Int)=sq a b:=by
 unfold sq;rw[if_neg (fun e:a=b=>by subst e;omega),ah0 fun j h1 h2=>h j h1,if_pos (by simp only[decide_eq_true_eq];omega)]
def bci (hl:a.length<=b.length) (hl2:¬a.length<b.length) (h:∀j,j<a.length->a.getD j default=b.getD j default):(0:Int)=sq a b:=by
 unfold sq;rw[if_pos (o8 bww h)]
def boa(h:a.length=b.length)(hI:∀j,j<a.length->decide (a.getD j default=b.getD j default)=true):a=b:=o8 h fun j hj=>of_decide_eq_true (hI j hj)
def bgv{a b:Nat}(h:∀j,j<a->j<b):a<=b:=bwu fun e=>bvd _ (h b e)
def ou(a b:Rw)(s:AS):Bool:=decide (∀i:Nat,i<a.length->(bu s (i:Int)=true->a.getD i default=b.getD i default))
def bga{s:AS}(hi:i<a.length)(h:bu s (i:Int)=true)(hn:¬a.getD i default=b.getD i default):ou a b s=false:=decide_eq_false fun e=>hn (e i hi h)
def a7z{s:AS}(h:∀i:Nat,i<a.length->(bu s (i:Int)=true->a.getD i default=b.getD i default)):ou a b s=true:=decide_eq_true h
def sa {s:AS} (h:i<32):ct .and .u32 ((asI s).fdiv (2^(min i 32))) 1=1<->bu s (i:Int)=true:=by
 rw[<- al8 (s:=s) (i:=(i:Int)) bww bww,decide_eq_true_iff];rfl
def qt(n:Int)(l:List Rw)(i:Nat):Bool:=decide (((l.getD i default).length:Int)=n)&&!(l.getD i default).any (fun x=>decide (x<0))&&(decide (i=0)||ltZ (l.getD (i-1) default) (l.getD i default))
def tok(n:Int)(l:List Rw):Bool:=decide (0<=n/\n<=16/\l.length<=256)&&decide (∀i,i<l.length->qt n l i=true)
def b87 {n:Int} {l:List Rw} (h0:0<=n) (h1:n<=16) (h2:l.length<=256) (h:∀i,i<l.length->qt n l i=true):tok n l=true:=by
 unfold tok;rw[decide_eq_true (show 0<=n/\n<=16/\l.length<=256 from ⟨h0,h1,h2⟩),decide_eq_true h];rfl
def aqe {n:Int} {l:List Rw} (h:¬(0<=n/\n<=16/\l.length<=256)):tok n l=false:=by
 unfold tok;rw[decide_eq_false h];rfl
def avl {n:Int} {l:List Rw} (hi:i<l.length) (h:qt n l i=false):tok n l=false:=by
 unfold tok;rw[decide_eq_false (fun e:∀i,i<l.length->qt n l i=true=>by rw[e i hi]at h;cases h),Bool.and_false]
def ej(a b:Rw)(s:AS):Rw:=(List.range b.length).map fun(i:Nat)=>if bu s (i:Int)=true then a.getD i default else b.getD i default
end
end
section
open Go.Proofs
def boh(l:List Int)(g k:Nat)(caps:Nat->PV)(V:Int->Bool)(hg:goodFn bxn g)(hV:∀x,a6 bxn g (pI x::gq caps k 0) (ae [pB (V x)])):a6 bxn 260 [pP (zl l),pP (.fn g k caps)] (ae [pI (idx V l)]):=by
 refine hpx (nt:=19) Tryz.func260 ?_;refine d5 ?_;refine cw 0 rfl fun hn=>?_;refine w_3 ?_;refine cg (ι:=Unit) kn km (fun _i=>⟨[],[]⟩) (fun _i=>idx V l=-1) ?_ ?_
 ·
  refine w_7 ?_;refine ai (ι:=Nat) (ka 0 (ka 1 (ka 7 kn))) km (fun i=>⟨[(8,some (vI i))],[]⟩) (fun i=>i<=l.length/\(∀j,j<i->V (l.getD j default)=false)) (fun i=>l.length-i) (0) (⟨bsx _,bv⟩) kk ?_;rintro i ⟨hi,hI⟩;refine w_5 ?_;refine hcd ?_ ?_<;>intro h0
  ·
   refine j5 ?_;refine rc rfl rfl rfl rfl rfl rfl hg (hV (l.getD i default)) (CoL.refl _) rfl rfl ?_;refine cj ?_;refine hcb ?_ ?_<;>intro h1
   · refine v_5 ?_;exact⟨cci (tn (i:=i) bww hI h1).symm,trivial⟩
   refine w_5 ?_;refine lpz (i+1) kk ?_;exact⟨by show i+1<=_;omega,bc hI (h1)⟩
  refine ck ?_;refine⟨(), ?_, ?_⟩
  · exact tj fun j hj=>hI j bww
  exact⟨trivial,trivial⟩
 rintro _ hj;refine v_4 ?_;exact⟨cci hj.symm,trivial⟩
def bp5(l:List Rw)(g k:Nat)(caps:Nat->PV)(V:Rw->Bool)(hg:goodFn bxn g)(hV:∀x,a6 bxn g (pZ x::gq caps k 0) (ae [pB (V x)])):a6 bxn 191 [pP (rl l),pP (.fn g k caps)] (ae [pI (idx V l)]):=by
 refine hpx (nt:=19) Tryz.func191 ?_;refine d5 ?_;refine cw 0 rfl fun hn=>?_;refine w_3 ?_;refine cg (ι:=Unit) kn km (fun _i=>⟨[],[]⟩) (fun _i=>idx V l=-1) ?_ ?_
 ·
  refine w_7 ?_;refine ai (ι:=Nat) (ka 0 (ka 1 (ka 7 kn))) km (fun i=>⟨[(8,some (vI i))],[]⟩) (fun i=>i<=l.length/\(∀j,j<i->V (l.getD j default)=false)) (fun i=>l.length-i) (0) (⟨bsx _,bv⟩) kk ?_;rintro i ⟨hi,hI⟩;refine w_5 ?_;refine hcd ?_ ?_<;>intro h0
  ·
   refine j5 ?_;refine rc rfl rfl rfl rfl rfl rfl hg (hV (l.getD i default)) (CoL.refl _) rfl rfl ?_;refine cj ?_;refine hcb ?_ ?_<;>intro h1
   · refine v_5 ?_;exact⟨cci (tn (i:=i) bww hI h1).symm,trivial⟩
   refine w_5 ?_;refine lpz (i+1) kk ?_;exact⟨by show i+1<=_;omega,bc hI (h1)⟩
  refine ck ?_;refine⟨(), ?_, ?_⟩
  · exact tj fun j hj=>hI j bww
  exact⟨trivial,trivial⟩
 rintro _ hj;refine v_4 ?_;exact⟨cci hj.symm,trivial⟩
def bpw (l:List Int) (g k:Nat) (caps:Nat->PV) (V:Int->Bool) (hg:goodFn bxn g) (hV:∀x,a6 bxn g (pI x::gq caps k 0) (ae [pB (V x)])):a6 bxn 233 [pP (zl l),pP (.fn g k caps)] (ae [pB (l.any V)]):=by
 refine hpx (nt:=9) Tryz.func233 ?_;refine w_8 ?_;refine qcx (wgx Tryz.func260) (boh l g k caps V hg hV) ?_;refine v_3 ?_;exact⟨ccb a0i,trivial⟩
def boq (l:List Rw) (g k:Nat) (caps:Nat->PV) (V:Rw->Bool) (hg:goodFn bxn g) (hV:∀x,a6 bxn g (pZ x::gq caps k 0) (ae [pB (V x)])):a6 bxn 143 [pP (rl l),pP (.fn g k caps)] (ae [pB (l.any V)]):=by
 refine hpx (nt:=9) Tryz.func143 ?_;refine w_8 ?_;refine qcx (wgx Tryz.func191) (bp5 l g k caps V hg hV) ?_;refine v_3 ?_;exact⟨ccb a0i,trivial⟩
def aij:goodFn bxn 145:=wgx Tryz.func145
def b7b(a b:Rw):a6 bxn 145 [pZ a,pZ b] (ae [pB (decide (a=b))]):=by
 refine hpx (nt:=26) Tryz.func145 ?_;refine d5 ?_;refine cw 0 rfl fun hn0=>?_;refine cw 1 rfl fun hn1=>?_;refine fh ?_;refine hcn ?_ ?_<;>intro h0
 · refine v_4 ?_;exact⟨ccb (decide_eq_false fun e=>by subst e;omega).symm,trivial⟩
 refine dn ?_;refine cg (ι:=Unit) kn km (fun _i=>⟨[],[]⟩) (fun _i=>a=b) ?_ ?_
 ·
  refine w_7 ?_;refine ai (ι:=Nat) (ka 0 (ka 1 (ka 12 kn))) km (fun i=>⟨[(13,some (vI i))],[]⟩) (fun i=>i<=a.length/\(∀j,j<i->decide (a.getD j default=b.getD j default)=true)) (fun i=>a.length-i) (0) (⟨bsx _,bv⟩) kk ?_;rintro i ⟨hi,hI⟩;refine w_5 ?_;refine hcd ?_ ?_<;>intro h1
  ·
   refine a5y ?_;refine hcn ?_ ?_<;>intro h2
   · refine v_4 ?_;exact⟨ccb (decide_eq_false fun e=>by subst e;simp_all).symm,trivial⟩
   refine w_5 ?_;refine lpz (i+1) kk ?_;exact⟨by show i+1<=_;omega,bc hI (decide_eq_true bxa)⟩
  refine ck ?_;refine⟨(), ?_, ?_⟩
  · exact boa bww fun j hj=>hI j bww
  exact⟨trivial,trivial⟩
 rintro _ hj;refine v_4 ?_;exact⟨ccb (decide_eq_true hj).symm,trivial⟩
def b8r(a b:Rw):a6 bxn 198 [pZ a,pZ b] (ae [pI (sq a b)]):=by
 refine hpx (nt:=36) Tryz.func198 ?_;refine d5 ?_;refine cw 0 rfl fun hn0=>?_;refine cw 1 rfl fun hn1=>?_;refine w_3 ?_;refine cg (ι:=Unit) (ka 0 (ka 1 kn)) km (fun _i=>⟨[],[]⟩) (fun _i=>∀j,j<a.length->j<b.length/\a.getD j default=b.getD j default) ?_ ?_
 ·
  refine w_7 ?_;refine ai (ι:=Nat) (ka 0 (ka 1 (ka 9 (ka 10 kn)))) km (fun i=>⟨[(11,some (vI i))],[]⟩) (fun i=>i<=a.length/\(∀j,j<i->j<b.length/\a.getD j default=b.getD j default)) (fun i=>a.length-i) (0) (⟨bsx _,bv⟩) kk ?_;rintro i ⟨hi,hI⟩;refine w_5 ?_;refine hcd ?_ ?_<;>intro h0
  ·
   refine air ?_;refine hcd ?_ ?_<;>intro h1
   · refine v_4 ?_;exact⟨cci (b9n (i:=i) bww bww fun j hj=>(hI j hj).2),trivial⟩
   refine jo ?_;refine qcx aiv (avi (a.getD i default) (b.getD i default)) ?_;refine w_7 ?_;refine hcn ?_ ?_<;>intro h2
   · refine v_5 ?_;exact⟨cci (bey (i:=i) bww bww (fun j hj=>(hI j hj).2) bwx),trivial⟩
   refine w_5 ?_;refine lpz (i+1) kk ?_;exact⟨by show i+1<=_;omega,bc hI (⟨by omega,bjy bwx⟩)⟩
  refine ck ?_;refine⟨(), ?_, ?_⟩
  · exact fun j hj=>hI j bww
  exact kk
 rintro _ hj;refine w_9 ?_;refine hcd ?_ ?_<;>intro h3
 · refine v_4 ?_;exact⟨cci (bcc bww fun j h=>(hj j h).2),trivial⟩
 refine v_5 ?_;exact⟨cci (bci (bgv fun j h=>(hj j h).1) bww fun j h=>(hj j h).2),trivial⟩
end
section
open Go.Proofs
abbrev bxZ(a:PV):PV:=.vp 1 fun j=>[a].getD j .any
def bjd (r row:Rw):a6 bxn 144 [pZ r,pP (bxZ (zl row))] (ae [pB (decide (r=row))]):=by
 refine hpx (nt:=7) Tryz.func144 ?_;refine w_8 ?_;refine qcx aij (b7b _ _) ?_;refine v_2 ?_;exact CoL.refl _
def ank:goodFn bxn 94:=wgx Tryz.func94
def awc (n:Int) (l:List Rw) (row:Rw):a6 bxn 94 [pT n l,pZ row] (ae [pB (l.any fun r=>decide (r=row))]):=by
 refine hpx (nt:=9) Tryz.func94 ?_;refine sx7 ?_;refine m9 0 ?_;refine m9 1 ?_;refine w_3 ?_;refine jb 3 rfl rfl rfl ?_;refine w_4 ?_;refine qcx (wgx Tryz.func143) (boq l 144 1 (fun i=>[bxZ (zl row)].getD i .any) (fun r=>decide (r=row)) (wgx Tryz.func144) (fun r=>bjd r row)) ?_;refine v_2 ?_;exact CoL.refl _
def bp4 (x:Int):a6 bxn 234 [pI x] (ae [pB (decide (x<0))]):=by
 refine hpx (nt:=5) Tryz.func234 ?_;refine da ?_;exact hx8 rfl rfl rfl (CoL.refl _)
def a3l:goodFn bxn 193:=wgx Tryz.func193
def a8h(a b:Rw)(s:AS)(h:b.length=a.length)(h16:a.length<=16):a6 bxn 193 [pZ a,pZ b,pA s] (ae [pB (ou a b s)]):=by
 refine hpx (nt:=30) Tryz.func193 ?_;refine d5 ?_;refine cw 0 rfl fun hn0=>?_;refine cw 1 rfl fun hn1=>?_;refine w_3 ?_;refine cg (ι:=Unit) kn km (fun _i=>⟨[],[]⟩) (fun _i=>ou a b s=true) ?_ ?_
 ·
  refine w_7 ?_;refine ai (ι:=Nat) (ka 0 (ka 1 (ka 2 (ka 9 kn)))) km (fun i=>⟨[(10,some (vI i))],[]⟩) (fun i=>i<=a.length/\(∀j:Nat,j<i->(bu s (j:Int)=true->a.getD j default=b.getD j default))) (fun i=>a.length-i) (0) (⟨bsx _,bv⟩) kk ?_;rintro i ⟨hi,hI⟩;refine w_5 ?_;refine hcd ?_ ?_<;>intro h0
  ·
   refine ov ?_;refine ak rfl rfl ?_ ?_<;>intro r1
   ·
    have h1:=tz1 r1;(iterate 9 refine qy ?_ (hg:=(gtt r1)));refine w_3 ?_;refine al _ rfl ?_ ?_<;>intro r2
    · have h2:=tz2 (dt (c5 r1 r2));refine v_4 ?_;exact⟨ccb (bga (i:=i) bww ((sa bww).1 bwx) bwx).symm,trivial⟩
    have h2:=tz1 (du (c5 r1 r2));refine w_5 ?_;refine lpz (i+1) kk ?_;exact⟨by show i+1<=_;omega,bc hI (fun hh=>by first|(exact absurd ((sa bww).2 hh) bwx)|assumption)⟩
   have h1:=tz2 r1;(iterate 9 refine k9 (gft r1) ?_);refine w_9 ?_;refine lpz (i+1) kk ?_
   exact⟨by show i+1<=_;omega,bc hI (fun hh=>by first|(exact absurd ((sa bww).2 hh) bwx)|assumption)⟩
  refine ck ?_;refine⟨(), ?_, ?_⟩
  · exact a7z fun j hj=>hI j bww
  exact⟨trivial,trivial⟩
 rintro _ hj;refine v_4 ?_;exact⟨ccb hj.symm,trivial⟩
end
section
def dc(n:Int)(l m:List Fd):Int:=if cb n l=0 then(if 64<m.length then 3 else if m.all (inU n)=true then 0 else 1)else cb n l
section
variable {n:Int}{l m:List Fd}
def bik(h:¬cb n l=0):cb n l=dc n l m:=by unfold dc;rw[if_neg h]
def bj0(h:cb n l=0)(h2:64<m.length):3=dc n l m:=by unfold dc;rw[if_pos h,if_pos h2]
def bg7 {i:Nat} (h:cb n l=0) (h2:¬64<m.length) (hi:i<m.length) (hu:¬inU n (m.getD i default)=true):1=dc n l m:=by
 unfold dc;rw[if_pos h,if_neg h2,if_neg (fun e=>absurd (afc (l:=m) (p:=inU n) hi (btb.2 hu)) (by rw[e];decide))]
def b21 (h:cb n l=0) (h2:¬64<m.length) (hu:∀j,j<m.length->inU n (m.getD j default)=true):0=dc n l m:=by
 unfold dc;rw[if_pos h,if_neg h2,if_pos (aey hu)]
def uv(h:dc n l m=0):0<=n/\n<=16/\l.length<=64/\l.all (inU n)=true/\m.length<=64/\m.all (inU n)=true:=by
 unfold dc at h;by_cases h1:cb n l=0
 · rw [if_pos h1]at h
   obtain⟨a,b,c,d⟩:=l4 h1;by_cases h2:64<m.length
   · rw[if_pos h2]at h;omega
   rw[if_neg h2]at h;by_cases h3:m.all (inU n)=true
   · exact⟨a,b,c,d,by omega,h3⟩
   rw[if_neg h3]at h;omega
 rw[if_neg h1]at h;exact absurd h h1
end
section
variable {l:List Rw}
def ann {n:Int} {i:Nat} (h1:((l.getD i default).length:Int)=n) (h2:(l.getD i default).any (fun x=>decide (x<0))=false) (h3:i=0\/ltZ (l.getD (i-1) default) (l.getD i default)=true):qt n l i=true:=by
 unfold qt;rw[decide_eq_true h1,h2]
 rcases h3 with h3|h3
 · rw[decide_eq_true h3];rfl
 rw[h3];simp
def av3{n:Int}{i:Nat}(h:¬((l.getD i default).length:Int)=n):qt n l i=false:=by unfold qt;rw[decide_eq_false h];rfl
def at9{n:Int}{i:Nat}(h:(l.getD i default).any (fun x=>decide (x<0))=true):qt n l i=false:=by unfold qt;rw[h];simp
def ah8 {n:Int} {i:Nat} (h0:0<i) (h:¬ltZ (l.getD (i-1) default) (l.getD i default)=true):qt n l i=false:=by
 unfold qt;rw[btb.2 h,decide_eq_false (by omega:¬i=0)];simp
def a5x{a b:Rw}:sq a b<0<->ltZ a b=true:=by
 unfold sq;by_cases e:a=b
 · subst e
   rw[if_pos rfl,wv];exact⟨fun h=>absurd h bww,fun h=>by cases h⟩
 rw[if_neg e];by_cases h:ltZ a b=true
 · rw[if_pos h];exact⟨fun _=>h,fun _=>by omega⟩
 rw[if_neg h];exact⟨fun h=>absurd h bww,fun h2=>absurd h2 h⟩
end
end
section
open Go.Proofs
def b9p (n:Int) (s:AS):a6 bxn 51 [pI n,pA s] (ae [pB (decide (sub s (aa n)))]):=by
 refine hpx (nt:=9) Tryz.func51 ?_;refine w_8 ?_;refine qcx ao9 (ap1 n) ?_;refine qcx (wgx Tryz.func111) (bnr _ _) ?_;refine v_2 ?_;exact CoL.refl _
def a8a:goodFn bxn 97:=wgx Tryz.func97
def a44(n:Int)(l m:List Fd):a6 bxn 97 [pI n,pP (fdl l),pP (fdl m)] (ae [pI (dc n l m)]):=by
 refine hpx (nt:=34) Tryz.func97 ?_;refine d5 ?_;refine cw 2 rfl fun hn2=>?_;refine w_8 ?_;refine qcx a2y (a8f n l) ?_;refine w_7 ?_;refine hcn ?_ ?_<;>intro h0
 · refine v_5 ?_;exact⟨cci (bik bwx),trivial⟩
 have hv0:cb n l=0:=by assumption
 obtain⟨hn0,hn16,_,_⟩:=l4 hv0;refine w_8 ?_;refine hcd ?_ ?_<;>intro h1
 · refine v_4 ?_;exact⟨cci (bj0 hv0 bww),trivial⟩
 refine dn ?_;refine cg (ι:=Unit) kn km (fun _i=>⟨[],[]⟩) (fun _i=>∀j,j<m.length->inU n (m.getD j default)=true) ?_ ?_
 ·
  refine w_7 ?_;refine ai (ι:=Nat) (ka 0 (ka 19 (ka 20 kn))) km (fun i=>⟨[(21,some (vI i))],[]⟩) (fun i=>i<=m.length/\(∀j,j<i->inU n (m.getD j default)=true)) (fun i=>m.length-i) (0) (⟨bsx _,bv⟩) kk ?_;rintro i ⟨hi,hI⟩;refine w_5 ?_;refine hcd ?_ ?_<;>intro h2
  ·
   refine w_7 ?_;refine m9 0 ?_;refine jo ?_;refine hcn ?_ ?_<;>intro h3
   · refine v_4 ?_;exact⟨cci (bg7 (i:=i) hv0 bww bww (fun e=>absurd (a9x.2 e) bwx)),trivial⟩
   refine w_5 ?_;refine lpz (i+1) kk ?_;exact⟨by show i+1<=_;omega,bc hI (a9x.1 bwx)⟩
  refine ck ?_;refine⟨(), ?_, ?_⟩
  · exact fun j hj=>hI j bww
  exact⟨trivial,trivial⟩
 rintro _ hj;refine v_4 ?_;exact⟨cci (b21 hv0 bww hj),trivial⟩
end
end Go.Hx
