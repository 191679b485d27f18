/- A part of the proof: Lw Hx26 Hx25 Ch1 Ch2 X1 X2 Ch3 X3. -/
import Derived.Deep.DeepHandedRow
import Derived.OpenShut
import Derived.ProofKit
import Derived.Test.YtnlcekpflogjkaaGreatDoorCards
import Derived.Test.YtnlcekpflogjkaaGreatDoorRows
import Derived.Test.YtnlcekpflogjkaaGreatDoorTie
import Derived.WalkKit
import Derived.Test.YtnlcekpflogjkaaGreatDoorTz21
set_option linter.all false
set_option maxRecDepth 100000
set_option maxHeartbeats 1000000
namespace Go.Hx
section
open Go.Proofs Go.ChangeShapes Go.WideShapes Go.ChangeAt Go.RowKit
def own:ownKnob bxr.godebug=none:=by kernel_rfl
def bfz : bxr.globalNamed "math/bits.deBruijn32tab" = some 1 := by kernel_rfl
def b6u:(bxr.globals[1]?).map (·.type)=some 292:=by kernel_rfl
def b6t:bxr.cellsOf 292=32:=by kernel_rfl
def bgw:bxr.cellsOf 5=1:=by kernel_rfl
def aoe:List Int:=[0,1,28,2,29,14,24,3,30,22,20,15,25,17,4,8,31,27,13,23,21,19,16,7,26,12,18,6,11,5,10,9]
def blu {W : World} (h : laidMetH bxr [("math/bits.deBruijn32tab", YtnlcekpflogjkaaGreatDoor.Rows.laid_math_bits_deBruijn32tab)] W) : tx (i9 W) := by
 have ht : Lib.TabIs bxr W "math/bits.deBruijn32tab" .u8 aoe := Lib.tabIs_of_head (rest := []) bfz b6u Tryz.underlying292 Tryz.underlying5 bgw b6t h;intro b off v hv;unfold a0c xd at hv;split at hv
 · have hlt:off<32:=by
    rcases bwr off 32 with h|h
    · exact h
    rw[bw7 (by simpa using h)]at hv;cases hv
   have hc:=ht.cell bfz off hlt
   have e:v=.int .u8 (aoe.getD off 0):=by
    have:(aoe.map fun z=>Value.int .u8 z)[off]? = some v:=hv;rw[btm]at this;rw[bt1]
    cases hz:aoe[off]? with
    |none=>rw[hz]at this;cases this
    |some z=>rw[hz]at this;exact(Option.some.inj this).symm
   rw[e];unfold World.cell? at hc;unfold ju i9;split at hc
   · rename_i c t fr hh
     rw[hh];simpa using hc
   cases hc
 cases hv
noncomputable def laidWorld (os:Os):World :=
 { World.holding bxr os ⟨#[],#[],[]⟩with heap:=(World.holding bxr os ⟨#[],#[],[]⟩).heap.modify 1 fun
  | .cells _ t frozen=>.cells (aoe.map fun z=>Value.int .u8 z).toArray t frozen
  |o=>o }
end
section
open Go.Proofs Go.Proofs.YtnlcekpflogjkaaGreatDoor
open Go.RowKit Go.ChangeShapes Go.WideShapes Go.ChangeAt
section
variable {H:Type}
def agf {d:DataW H} {l:List (DataW H)} (h:d∈l):Rows.uptoBulk d<=Rows.uptoBulkAll l:=by
 induction l with
 |nil=>cases h
 | cons x r ih =>
  rw[Rows.uptoBulkAll]
  rcases btd.1 h with e|e
  · subst e;omega
  have:=ih e;omega
def bf3 (d:DataW H):1<=Rows.uptoBulk d:=by
 cases d with
 |lit l=>cases l<;>simp[Rows.uptoBulk]
 |_=>simp[Rows.uptoBulk]
def b4h (l:List (DataW H)):l.length<=Rows.uptoBulkAll l:=by
 induction l with
 |nil=>simp
 |cons x r ih=>have:=bf3 x;rw[Rows.uptoBulkAll,bud];omega
def b6h {l r:List (DataW H)} {d:DataW H} (h:d∈l):Rows.uptoBulk d<=Rows.uptoBulk (.slice l r):=by
 have:=agf h;rw[Rows.uptoBulk];omega
def b97 {l:List (DataW H)} {d:DataW H} (h:d∈l):Rows.uptoBulk d<=Rows.uptoBulk (.agg l):=by
 have:=agf h;rw[Rows.uptoBulk];omega
def ba8 (l r:List (DataW H)):l.length<=Rows.uptoBulk (.slice l r):=by
 have:=b4h l;rw[Rows.uptoBulk];omega
end
def RdB (P:Program) (t:TypeId) (n:Nat) {α:Type} (c:α->Nat->PV) (B:Nat->α->Prop):Prop :=
 ∀ (H:Type) (enc:TypeId×Value->H) (w:World) (sp:Nat->Bool) (held:Bool) (fuel:Nat) (cs:List Value) (x:DataW H×List MemPlace),DataW.trod enc P w 0 sp held fuel t cs=some x ->
  cs.length=n/\∃a:α,B (Rows.uptoBulk x.1) a/\∀j,j<n->∃v,cs[j]? = some v/\au (i9 w) (c a j) v
section
variable {P:Program}{t e:TypeId}
theorem Rd.toB {n:Nat} {α:Type} {c:α->Nat->PV} (h:Rd P t n c):RdB P t n c fun _ _=>True:=by
 intro H enc w sp held fuel cs x hx;obtain⟨h1,a,h2⟩:=h _ enc w sp held fuel cs x hx;exact⟨h1,a,trivial,h2⟩
section
variable {α:Type}{B:Nat->α->Prop}{c:α->Nat->PV}
theorem RdB.co {n:Nat} {β:Type} {c':β->Nat->PV} {B':Nat->β->Prop} (h:RdB P t n c B) (f:α->β) (hB:∀b a,B b a->B' b (f a)) (hc:∀a j,j<n->CoP (c a j) (c' (f a) j)):RdB P t n c' B':=by
 intro H enc w sp held fuel cs x hx;obtain⟨h1,a,h0,h2⟩:=h _ enc w sp held fuel cs x hx;refine⟨h1,f a,hB _ _ h0,fun j hj=>?_⟩;obtain⟨v,h3,h4⟩:=h2 j hj;exact⟨v,h3,hc a j hj _ _ h4⟩
def b14{s:Nat}[Inhabited α](mono:∀b b' x,b<=b'->B b x->B b' x)(ht:P.underlying t=some (.slice e))(hc:P.cellsOf e=s)(hs:0<s)(h:RdB P e s c B):RdB P t 1 (bkx s c) (fun b l=>l.length<=b/\∀i,i<l.length->B b (l.getD i default)):=by
 classical
 intro H enc w sp held fuel cs x hx
 rcases DataW.trod_slice ht hx with⟨rfl,_⟩|⟨a,len,cap,elems,rest,n,rfl,rfl,rfl,hb,hl,hm,hlen,hel,_,_⟩
 · refine ⟨rfl,[],⟨bt6 _,fun i hi=>absurd hi (bt9 i)⟩,fun j hj=>?_⟩
   obtain rfl:j=0:=by omega
   exact⟨_,rfl,none,0,rfl,bt2 _,bt6 _,(fun hh=>by cases hh),fun hh=>absurd hh (bvy 0)⟩
 have each:∀i,i<len->∃q:α,B (Rows.uptoBulk (DataW.slice (elems.map (·.1)) (rest.map (·.1)))) q/\∀j,j<s->∃v,w.cell? (a.add (i*s+j))=some v/\au (i9 w) (c q j) v:=by
  intro i hi;have h1:=hel i hi;rw[hc]at h1;rw[bt0 bx5]at h1;obtain⟨cs',h2,h3⟩:=Option.bind_eq_some_iff.1 h1;obtain⟨_,h4,h5⟩:=World.cells?_some h2;obtain⟨_,q,h9,h6⟩:=h _ enc w sp held n cs' _ h3;refine⟨q,mono _ _ q (b6h (List.mem_map_of_mem (bti _))) h9,fun j hj=>?_⟩;obtain⟨v,h7,h8⟩:=h6 j hj;refine⟨v, ?_,h8⟩;have:=h5 j hj;rw[h7]at this;rw[<- this];congr 1;unfold Addr.add;by_cases hj0:j=0
  · subst hj0
    simp
  by_cases hi0:i*s=0
  · simp[hi0,hj0]
  have:¬(i*s+j=0):=by omega
  simp only[hj0,hi0,this,if_false];congr 1;omega
 refine⟨rfl,(List.range len).map fun i=>if hi:i<len then Classical.choose (each i hi)else default,⟨?_,fun i hi=>?_⟩,fun j hj=>?_⟩
 · rw [btw,bvz,<- hlen]
   have:=ba8 (elems.map (·.1)) (rest.map (·.1));rw[btw]at this;exact this
 · have hi:i<len:=by simpa using hi
   have hch:=(Classical.choose_spec (each i hi)).1;have e:((List.range len).map fun i=>if hi:i<len then Classical.choose (each i hi)else default).getD i default=Classical.choose (each i hi):=by simp[List.getD,hi]
   rw[e];exact hch
 obtain rfl:j=0:=by omega
 refine⟨_,rfl,some a,cap,by simp,by simpa using hl,hm,(fun hh=>by cases hh),fun hn=>?_⟩;have hn:0<len:=by simpa using hn
 have hspot:a.spot=none:=by
  obtain⟨q,_,hq⟩:=each 0 hn;obtain⟨v,hv,_⟩:=hq 0 hs;have:a.add (0*s+0)=a:=by simp[Addr.add]
  rw[this]at hv;unfold World.cell? at hv;split at hv
  · split at hv
    · cases hv
    rename_i hsp;simpa using hsp
  cases hv
 refine⟨a.block,a.off, ?_,fun i j hi hj=>?_⟩
 · obtain ⟨b,o,spo⟩:=a
   simp only at hspot;subst hspot;rfl
 have hi:i<len:=by simpa using hi
 have hch:=(Classical.choose_spec (each i hi)).2;obtain⟨v,hv,hr⟩:=hch j hj;refine⟨v, ?_, ?_⟩
 · unfold World.cell? at hv
   have hblk:(a.add (i*s+j)).block=a.block:=by unfold Addr.add;split<;>rfl
   have hoff:(a.add (i*s+j)).off=a.off+(i*s+j):=by
    unfold Addr.add;split
    · rename_i h0;rw[h0];rfl
    rfl
   rw[hblk,hoff]at hv;unfold ju i9;split at hv
   · rename_i hb'
     rw[hb'];split at hv
     · cases hv
     exact hv
   cases hv
 have:lf c ((List.range len).map fun i=>if hi:i<len then Classical.choose (each i hi)else default) i j=c (Classical.choose (each i hi)) j:=by
  unfold lf;simp[List.getD,hi]
 rw[this];exact hr
def aw3 {H:Type} {enc:TypeId×Value->H} {w:World} {sp:Nat->Bool} {held:Bool} {fuel:Nat} {cs:List Value} {x:DataW H×List MemPlace} {fs:Array Field} (ht:P.underlying t=some (.struct fs)) (h:DataW.trod enc P w 0 sp held fuel t cs=some x) :
 cs.length=P.cellsOf t/\∃n,∀(i:Nat) (f:Field),fs[i]? = some f->∃y,DataW.trod enc P w 0 sp held n f.type ((cs.drop f.offset).take (P.cellsOf f.type))=some y/\Rows.uptoBulk y.1<=Rows.uptoBulk x.1:=by
 obtain⟨xs,n,_,rfl,h1,h2,h3⟩:=DataW.trod_struct ht h;refine⟨h1,n,fun i f hf=>?_⟩;have:=h3 i f hf;rw[this];have hi:i<xs.length:=by rw[h2];exact(bt5.1 hf).1
 exact⟨_,bt0 hi,b97 (List.mem_map_of_mem (bti hi))⟩
def aj4 {H:Type} {enc:TypeId×Value->H} {w:World} {sp:Nat->Bool} {held:Bool} {n off s b:Nat} {ft:TypeId} {cs:List Value} {y:DataW H×List MemPlace} (mono:∀b b' x,b<=b'->B b x->B b' x) (h:RdB P ft s c B) (hy:DataW.trod enc P w 0 sp held n ft ((cs.drop off).take (P.cellsOf ft))=some y/\Rows.uptoBulk y.1<=b):
 ∃a:α,B b a/\∀j,j<s->∃v,cs[off+j]? = some v/\au (i9 w) (c a j) v:=by
 obtain⟨h1,a,h0,h2⟩:=h _ enc w sp held n _ y hy.1;refine⟨a,mono _ _ a hy.2 h0,fun j hj=>?_⟩;obtain⟨v,h3,h4⟩:=h2 j hj;refine⟨v, ?_,h4⟩;rw[bug]at h3;split at h3
 · rwa [bw6]at h3
 cases h3
end
end
section
variable {P:Program}{t e:TypeId}
def apn {m:Imm} {c:Nat->PV}:∀{n:Nat} {us:List Value} {k:Nat},us.length=n->(∀j,j<n->∃v,us[j]? = some v/\au m (c (k+j)) v)->f7 m ((List.range' k n).map c) us
 |0,[],_,_,_=>trivial
 | n+1,u::us,k,hl,h=>by
  obtain⟨v,h1,h2⟩:=h 0 bx5;simp only[List.getElem?_cons_zero,bsy]at h1;subst h1;refine⟨h2,apn (n:=n) (k:=k+1) (by simpa using hl) fun j hj=>?_⟩;obtain⟨v,h3,h4⟩:=h (j+1) bx5;refine⟨v,by simpa using h3, ?_⟩;rwa [show k+1+j=k+(j+1) by omega]
 |0,_::_,_,h,_=>by cases h
 |_+1,[],_,h,_=>by cases h
def bbx {H:Type} {enc:TypeId×Value->H} {W:World} {cs:Array Value} {d:DataW H} {ps:List MemPlace} {n:Nat} {α:Type} {c:α->Nat->PV} {B:Nat->α->Prop} (h:RdB P t n c B) (hd:DataW.Trod enc P W 0 (fun _=>true) true t (.agg cs) d ps) :
 ∃a:α,B (Rows.uptoBulk d) a/\j6 (i9 W) (.agg ((List.range' 0 n).map (c a))) (.agg cs):=by
 obtain⟨fuel,hf⟩:=hd;obtain⟨hl,a,h0,ha⟩:=h _ enc W _ _ fuel _ _ hf;refine⟨a,h0,cs.toList,by simp,apn hl fun j hj=>?_⟩;rw[bu1];exact ha j hj
end
end
section
open Go.RowKit
section
variable {w0:World}{nt:Nat}{c:Ctx}{s:S}{a:Act}{w:World}
section
variable {g:Nat->Nat->Nat->PV}{m:Nat->Nat}
theorem af4 {base:Nat} {o:ar} {id:Nat} {e et:TypeId} {es:Nat} (hes:0<es) (hb:c.blk id=noB) (hv:∃ad,c.own id=.slice ad 0 0):eu base c o w id (.nest e et es 0 m g none):=by
 obtain⟨ad,hv⟩:=hv;refine⟨hes,bt6 _,fun i hi=>absurd hi (bt9 i),fun b=>?_,fun i b hi=>absurd hi (bt9 i),fun i hi=>absurd hi (bt9 i), .inl ⟨rfl,ad,hv⟩⟩;rw[hb,hv];constructor
 · exact fun h=>h.elim
 rintro(h|⟨i,hi,_⟩)
 · cases ad<;>simp[b7]at h
 grind
variable {f:Nat->Nat->PV}
def zb {imm:Imm} {s':Nat} {u:Value} (h:au imm (.sl 0 s' true f) u):∃ad,u=.slice ad 0 0:=by
 obtain⟨ad,cap,rfl,_,_,hc,_⟩:=h;simp_all
def fw(m:Nat->Nat)(n k:Nat):Nat->Nat:=fun i=>bif Nat.beq i n then k else m i
def gk(g:Nat->Nat->Nat->PV)(n:Nat)(f:Nat->Nat->PV):Nat->Nat->Nat->PV:=fun i=>bif Nat.beq i n then f else g i
def se(m:Nat->Nat)(n k:Nat):fw m n k n=k:=by simp[fw]
def qz {n k i:Nat} (h:i≠n):fw m n k i=m i:=by
 have:Nat.beq i n=false:=by rw[btf];exact fun hb=>h (btx hb)
 simp[fw,this]
def ahi(g:Nat->Nat->Nat->PV)(n:Nat)(f:Nat->Nat->PV):gk g n f n=f:=by simp[gk]
def ad8 {n i:Nat} (h:i≠n):gk g n f i=g i:=by
 have:Nat.beq i n=false:=by rw[btf];exact fun hb=>h (btx hb)
 simp[gk,this]
def a7n{v:Value}{b:Nat}(h:b7 v=some b):ct v=some b:=by
 unfold b7 at h;split at h
 · split at h
   · cases h
   exact h
 cases h
theorem ah.absorb(h:ah w0 nt c s a w){id id' k n:Nat}{e et:TypeId}{es:Nat}(ho:s.o id=some (.nest e et es n m g (some (id',k))))(ho':s.o id'=some (.arr true es et k f)):
 ∃c',c'.old=c.old/\ah w0 nt c' ((s.setO id (some (.nest e et es (n+1) (fw m n k) (gk g n f) none))).setO id' none) a w:=by
 have hne:id'≠id:=by rintro rfl;rw[ho]at ho';cases ho'
 have hnk:mj 0 c s.o w id e et es n m g (some (id',k)):=h.objs id _ ho;obtain⟨q0,q1,q5⟩:=h.objs id' _ ho'
 have hcb:∀b,b7 (c.own id')=some b->c.blk id' b:=fun b hb=>by
  rcases q5 with⟨q6,_⟩|⟨q7,_,q8⟩
  · rw[q6];exact a7n hb
  obtain⟨ad,cap,r1,_,_,r4,_⟩:=q8
  rcases q7 with q7|q7
  · cases q7
  subst q7;rw[r1,r4 rfl]at hb;cases ad<;>simp[b7]at hb
 have hrow:(k=0/\∃a,c.own id'=.slice a 0 0)\/∃ys,w.ownsRow 0 et es (c.own id') k ys/\∀r j,r<k->j<es->∃x,ys[r*es+j]? = some x/\au c.imm (f r j) x:=by
  rcases q5 with⟨q6,xs,q7,q8⟩|⟨q6,q7,q8⟩
  · grind
  rcases q6 with q6|q6
  · cases q6
  subst q6;exact .inl ⟨rfl,zb q8⟩
 let o':ar:=((s.setO id (some (.nest e et es (n+1) (fw m n k) (gk g n f) none))).setO id' none).o
 have oid:o' id=some (.nest e et es (n+1) (fw m n k) (gk g n f) none):=by
  show(if id=id' then _ else if id=id then _ else _)=_
  grind
 have oid':o' id'=none:=by
  show(if id'=id' then _ else _)=_
  grind
 have oelse:∀q,q≠id->q≠id'->o' q=s.o q:=fun q h1 h2=>by
  show(if q=id' then _ else if q=id then _ else _)=_
  grind
 let c':Ctx:={ old:=c.old,imm:=c.imm,tab:=c.tab,own:=c.own,blk:=fun q=>if q=id then(fun b=>c.blk id b\/b7 (c.own id')=some b)else c.blk q,rows:=fun q=>if q=id then(fun i=>if i=n then c.own id' else c.rows id i)else c.rows q }
 have rlt:∀i,i<n->c'.rows id i=c.rows id i:=fun i hi=>by
  grind
 have rn:c'.rows id n=c.own id':=by
  grind
 have hevo:∀q,Evo c s.o c' o' q:=fun q=>by
  by_cases h1:q=id
  · subst h1
    refine .inr (.inr ⟨_,_,1,e,n+1,n+1,ho,rfl,oid,rfl,bt2 _,fun _=>rfl,fun e2 et2 es2 n2 m2 g2 pd2 hb2=>?_⟩);cases hb2;refine⟨_,_,_,_,_,_,rfl,bwo _,fun i hi=>⟨by rw[qz bx5];exact bt2 _,fun _=>rlt i hi⟩⟩
  by_cases h2:q=id'
  · subst h2;exact .inl oid'
  exact Evo.of_same (oelse q h1 h2) rfl (by show(if q=id then _ else _)=_;rw[if_neg h1])
 have bid:∀q,q≠id->c'.blk q=c.blk q:=fun q hq=>by show(if q=id then _ else _)=_;rw[if_neg hq]
 have bself:∀b,c'.blk id b<->(c.blk id b\/b7 (c.own id')=some b):=fun b=>by
  grind
 have hold:∀q ob,o' q=some ob->q≠id->q≠id'/\s.o q=some ob:=fun q ob hq h1=>by
  grind
 have whose:∀b,c'.blk id b->c.blk id b\/c.blk id' b:=fun b hb=>((bself b).1 hb).imp (fun z=>z) (hcb b);refine⟨c',rfl,⟨h.defers,h.size,h.below,fun d x hx=>(h.tmps d x hx).evo (Imm.le.refl c.imm) fun q _=>hevo q,fun q ob hq=>?_,fun q q' ob ob' b hq hq' hb hb'=>?_,h.imm,fun q ob b hq hb=>?_,h.was,h.frm,fun q ob b hq hb=>?_,fun q hq=>(h.fixed q hq).trans (hevo q)⟩⟩
 · by_cases h1:q=id
   · subst h1
     have hq:o' q=some ob:=hq;rw[oid]at hq;cases hq;have hlen:=hnk.len;simp only[nx]at hlen;refine⟨hnk.pos,hlen,fun i hi=>?_,fun b=>?_,fun i b hi hb=>?_,fun i hi=>?_, .inr ?_⟩
     · by_cases hin:i=n
       · subst hin;rw[se];exact q1
       rw[qz hin];exact hnk.lens i bx5
     · rw [bself,hnk.blks]
       constructor
       · rintro ((h2|⟨i,hi,h2⟩)|h2)
         · exact .inl h2
         · grind
         exact .inr ⟨n,by omega,by rw[rn];exact h2⟩
       grind
     · have far:∀b,b7 (c.own id')=some b->¬c.blk q b:=fun b h2 h3=>hne (h.inj id' q _ _ b ho' ho (hcb b h2) h3)
       by_cases hin:i=n
       · subst hin
         rw[rn]at hb;refine⟨fun h2=>far b hb ((hnk.blks b).2 (.inl h2)),fun i' hi' h2=>?_⟩;by_cases hin':i'=i
         · exact hin'
         rw[rlt i' bx5]at h2;exact(far b hb ((hnk.blks b).2 (.inr ⟨i',by omega,h2⟩))).elim
       rw[rlt i bx5]at hb;obtain⟨h2,h3⟩:=hnk.apart i b bx5 hb;refine⟨h2,fun i' hi' h4=>?_⟩;by_cases hin':i'=n
       · subst hin'
         rw[rn]at h4;exact(far b h4 ((hnk.blks b).2 (.inr ⟨i,by omega,hb⟩))).elim
       grind
     · by_cases hin:i=n
       · subst hin
         rw[rn,se,ahi];exact hrow
       rw[rlt i bx5,qz hin,ad8 hin];exact hnk.row i bx5
     rcases hnk.top with⟨h2,_⟩|⟨xs,t1,t2,t3⟩
     · simp[nx]at h2
     refine⟨xs,t1,fun i hi=>?_,fun p hp=>by cases hp⟩;by_cases hin:i=n
     · subst hin
       obtain⟨x,hx,hxr⟩:=t3 _ rfl;obtain⟨_,_,hr3⟩:=hxr;rw[rn,hx,(hr3 _ _ _ _ ho' rfl).2 rfl]
     grind
   obtain⟨h2,h3⟩:=hold q ob hq h1;exact(h.objs q ob h3).keep (Imm.le.refl c.imm) rfl (bid q h1) (fun j _=>hevo j) (fun b _=>rfl) (by show(if q=id then _ else _)=_;rw[if_neg h1])
 · by_cases h1:q=id
   · by_cases h2:q'=id
     · rw[h1,h2]
     obtain⟨h3,h4⟩:=hold q' ob' hq' h2;rw[bid q' h2]at hb';subst h1
     rcases whose b hb with h5|h5
     · exact h.inj q q' _ _ b ho h4 h5 hb'
     exact(h3 (h.inj q' id' _ _ b h4 ho' hb' h5)).elim
   obtain⟨h3,h4⟩:=hold q ob hq h1;rw[bid q h1]at hb;by_cases h2:q'=id
   · subst h2
     rcases whose b hb' with h5|h5
     · exact h.inj q q' _ _ b h4 ho hb h5
     exact(h3 (h.inj q id' _ _ b h4 ho' hb h5)).elim
   obtain⟨h5,h6⟩:=hold q' ob' hq' h2;rw[bid q' h2]at hb';exact h.inj q q' _ _ b h4 h6 hb hb'
 · by_cases h1:q=id
   · subst h1
     rcases whose b hb with h5|h5
     · exact h.sep q _ b ho h5
     exact h.sep id' _ b ho' h5
   rw[bid q h1]at hb;exact h.sep q ob b (hold q ob hq h1).2 hb
 by_cases h1:q=id
 · subst h1
   rcases whose b hb with h5|h5
   · exact h.fsep q _ b ho h5
   exact h.fsep id' _ b ho' h5
 rw[bid q h1]at hb;exact h.fsep q ob b (hold q ob hq h1).2 hb
def a2b(es:Nat)(m:Nat->Nat)(g:Nat->Nat->Nat->PV):Nat->Nat->PV:=fun i _=>.sl (m i) es false (g i)
end
open Classical in
noncomputable def thinImm (c:Ctx) (w:World) (id n:Nat):Imm:=fun b=>if ∃i,i<n/\b7 (c.rows id i)=some b then w.heap[b]? else c.imm b
theorem ah.thin(h:ah w0 nt c s a w){id n:Nat}{e et:TypeId}{es:Nat}{m:Nat->Nat}{g:Nat->Nat->Nat->PV}(ho:s.o id=some (.nest e et es n m g none)) :
 ∃c',c'.old=c.old/\ah w0 nt c' (s.setO id (some (.arr true 1 e n (a2b es m g)))) a w:=by
 have hnk:mj 0 c s.o w id e et es n m g none:=h.objs id _ ho;have hin:∀b,(∃i,i<n/\b7 (c.rows id i)=some b)->c.blk id b:=fun b hb=>(hnk.blks b).2 (.inr hb)
 have hle:Imm.le c.imm (thinImm c w id n):=fun b ob hb=>by
  unfold thinImm;by_cases hk:∃i,i<n/\b7 (c.rows id i)=some b
  · rw[h.sep id _ b ho (hin b hk)]at hb;cases hb
  grind
 let ob':aa:=.arr true 1 e n (a2b es m g)
 let bk:Nat->Prop:=fun b=>b7 (c.own id)=some b
 let c':Ctx:={ old:=c.old,imm:=thinImm c w id n,tab:=c.tab.mono hle,own:=c.own,blk:=fun q=>if q=id then bk else c.blk q,rows:=c.rows }
 have oid:(s.setO id (some ob')).o id=some ob':=by show(if id=id then _ else _)=_;rw[if_pos rfl]
 have oelse:∀q,q≠id->(s.setO id (some ob')).o q=s.o q:=fun q hq=>by show(if q=id then _ else _)=_;rw[if_neg hq]
 have hevo:∀q,Evo c s.o c' (s.setO id (some ob')).o q:=fun q=>by
  by_cases h1:q=id
  · subst h1
    exact .inr (.inr ⟨_, .arr true 1 e n (a2b es m g),1,e,n,n,ho,rfl,oid,rfl,bt2 _,fun _=>rfl,fun _ _ _ _ _ _ _ hb=>by cases hb⟩)
  exact Evo.of_same (oelse q h1) rfl rfl
 have bid:∀q,q≠id->c'.blk q=c.blk q:=fun q hq=>by show(if q=id then _ else _)=_;rw[if_neg hq]
 have bself:c'.blk id=bk:=by show(if id=id then _ else _)=_;rw[if_pos rfl]
 have whose:∀b,c'.blk id b->c.blk id b:=fun b hb=>by
  rw[bself]at hb;exact(hnk.blks b).2 (.inl hb)
 have hrowP:∀i,i<n->au (thinImm c w id n) (.sl (m i) es false (g i)) (c.rows id i):=fun i hi=>by
  obtain⟨ad,cap,q1,q2,q3⟩:=akf (h.objs id _ ho) hi;refine⟨ad,cap,q1,q2,q3,(fun hh=>by cases hh),fun hm=>?_⟩;obtain⟨b,cap',ys,r1,r2,_,r3⟩:=ad9 (h.objs id _ ho) hi hm;rw[q1]at r1;simp only[Value.slice.injEq,true_and]at r1;obtain⟨rfl,rfl⟩:=r1;refine⟨b,0,rfl,fun r j hr hj=>?_⟩;obtain⟨x,_,hx,hxr⟩:=r3 r j hr hj;refine⟨x, ?_,au.mono hle hxr⟩;rw[bu1];unfold ju thinImm;rw[if_pos ⟨i,hi,r2⟩];unfold World.cell? at hx
  grind
 refine⟨c',rfl,⟨h.defers.keep (fun _ _=>rfl) (fun D hD hd=>?_),h.size,h.below,fun d x hx=>(h.tmps d x hx).evo hle fun q _=>hevo q,fun q ob hq=>?_,fun q q' ob ob2 b hq hq' hb hb'=>?_,fun b ob hb=>?_,fun q ob b hq hb=>?_,fun b hb=>?_,h.frm,fun q ob b hq hb=>?_,fun q hq=>(h.fixed q hq).trans (hevo q)⟩⟩
 · show thinImm c w id n D=none
   unfold thinImm
   rw [if_neg fun hk=>by
    obtain⟨x1,hc,hdt⟩:=(h.objs id _ ho).data (hin D hk);rw[hd]at hc;cases hc
    cases hdt]
   exact hD
 · by_cases h1:q=id
   · subst h1
     rw[oid]at hq;cases hq;refine⟨Nat.one_pos,hnk.len, ?_⟩
     have hplain:n=0/\(∃ad,c.own q=.slice ad 0 0)->(c'.blk q=fm (c.own q)/\∃xs,w.ownsRow 0 e 1 (c.own q) n xs/\∀i j,i<n->j<1->∃x,xs[i*1+j]? = some x/\au c'.imm (a2b es m g i j) x) \/
      ((true=false\/n=0)/\c'.blk q=noB/\au c'.imm (.sl n 1 true (a2b es m g)) (c.own q)):=by
      rintro⟨rfl,ad,hv⟩;refine .inr ⟨.inr rfl, ?_, ?_⟩
      · rw [bself]
        funext b;show(b7 (c.own q)=some b)=False;rw[hv];cases ad<;>simp[b7]
      rw[hv];exact⟨ad,0,rfl,bt2 _,bt6 _,fun _=>rfl,fun hh=>absurd hh (bvy 0)⟩
     rcases hnk.top with⟨h2,h3⟩|⟨xs,t1,t2,_⟩
     · grind
     have t1:w.ownsRow 0 e 1 (c.own q) n xs:=t1
     rcases gw t1 with r0|⟨b,cap,rv,rb⟩
     · grind
     refine .inl ⟨?_,xs,t1,fun i j hi hj=>?_⟩
     · rw [bself]
       funext b';show(b7 (c.own q)=some b')=(ct (c.own q)=some b');rw[rb,rv];rfl
     obtain rfl:j=0:=by omega
     exact⟨_,by simpa using t2 i hi,hrowP i hi⟩
   rw[oelse q h1]at hq;exact(h.objs q ob hq).keep hle rfl (bid q h1) (fun j _=>hevo j) (fun b _=>rfl) rfl
 · by_cases h1:q=id
   · by_cases h2:q'=id
     · rw[h1,h2]
     rw[oelse q' h2]at hq';rw[bid q' h2]at hb';subst h1;exact h.inj q q' _ _ b ho hq' (whose b hb) hb'
   rw[oelse q h1]at hq;rw[bid q h1]at hb;by_cases h2:q'=id
   · subst h2
     exact h.inj q q' _ _ b hq ho hb (whose b hb')
   rw[oelse q' h2]at hq';rw[bid q' h2]at hb';exact h.inj q q' _ _ b hq hq' hb hb'
 · have hb:thinImm c w id n b=some ob:=hb
   unfold thinImm at hb;split at hb
   · exact hb
   exact h.imm b ob hb
 · show thinImm c w id n b=none
   unfold thinImm;by_cases h1:q=id
   · subst h1
     rw[bself]at hb;rw[if_neg fun⟨i,hi,hk⟩=>(hnk.apart i b hi hk).1 hb];exact h.sep q _ b ho ((hnk.blks b).2 (.inl hb))
   rw[oelse q h1]at hq;rw[bid q h1]at hb;rw[if_neg fun hk=>h1 (h.inj q id _ _ b hq ho hb (hin b hk))];exact h.sep q ob b hq hb
 · show thinImm c w id n b=c.old.1 b
   unfold thinImm;rw[if_neg fun hk=>hb (h.fsep id _ b ho (hin b hk))];exact h.was b hb
 by_cases h1:q=id
 · subst h1
   exact h.fsep q _ b ho (whose b hb)
 rw[oelse q h1]at hq;rw[bid q h1]at hb;exact h.fsep q ob b hq hb
end
section
variable {ro:Option Nat}{P:Program}{nt:Nat}{st:HSt}{Q:Exit->HSt->Prop}
theorem ak6 {c:Code} (d id:Nat) {s':Nat} {f':Nat->Nat->PV} (e et:TypeId) (es:Nat) (m:Nat->Nat) (g:Nat->Nat->Nat->PV) (hs:0<es) (hd:b5 st.t d=some (bp (.sl 0 s' true f'))) (hn:ku id st=true)
 (h:HW (ro:=ro) P nt c ⟨(d,some (.v (.one (.ref id 0))))::st.t,(id,some (.nest e et es 0 m g none))::st.o⟩ Q):HW (ro:=ro) P nt c st Q:=by
 obtain⟨hnm,hno⟩:=f3 hn;refine tc ⟨st.t,(id,some (.nest e et es 0 m g none))::st.o⟩ d (.v (.one (.ref id 0))) (fun w0 m0 a w hr=>?_) h;obtain⟨cc,hold,hrr⟩:=hr;have hx:au cc.imm (.sl 0 s' true f') (a.tmps.getD d undef):=hrr.tmps d _ hd;have hfresh:=hrr.fresh id hnm hno (.nest e et es 0 m g none) w (a.tmps.getD d undef) noB (Grw.refl w none) (fun b hb=>hb.elim) (af4 hs bx8 (by simpa using zb hx));refine⟨_, ?_,by rw[jm];exact hfresh, ?_⟩
 · exact hold
 rw[jm];refine⟨au.oneCell hx,fun l=>by simp[S.setO],fun ob1 s1 e1 n1 ho hd1=>?_⟩
 grind
section
variable {g:Nat->Nat->Nat->PV}
theorem ayu {c:Code} (id id':Nat) {k n:Nat} {e et:TypeId} {es:Nat} {m:Nat->Nat} {f:Nat->Nat->PV} (ho:b5 st.o id=some (.nest e et es n m g (some (id',k)))) (ho':b5 st.o id'=some (.arr true es et k f)) (h:HW (ro:=ro) P nt c ⟨st.t,(id',none)::(id,some (.nest e et es (n+1) (fw m n k) (gk g n f) none))::st.o⟩ Q):HW (ro:=ro) P nt c st Q:=fun w0 m0 a w hr=>by
 obtain⟨cc,hold,hrr⟩:=hr;obtain⟨c',h1,h2⟩:=hrr.absorb ho ho';refine h w0 m0 a w ⟨c',h1.trans hold, ?_⟩;have e1:=ub ⟨st.t,(id,some (.nest e et es (n+1) (fw m n k) (gk g n f) none))::st.o⟩ id';rw[jm]at e1
 grind
def ahy {c:Code} (id:Nat) {n:Nat} {e et:TypeId} {es:Nat} {m:Nat->Nat} (ho:b5 st.o id=some (.nest e et es n m g none)) (h:HW (ro:=ro) P nt c ⟨st.t,(id,some (.arr true 1 e n (a2b es m g)))::st.o⟩ Q):HW (ro:=ro) P nt c st Q:=fun w0 m0 a w hr=>by
 obtain⟨cc,hold,hrr⟩:=hr;obtain⟨c',h1,h2⟩:=hrr.thin ho;refine h w0 m0 a w ⟨c',h1.trans hold, ?_⟩;rw[jm];exact h2
end
end
section
variable {f':Nat->Nat->PV}
theorem aeq {nt:Nat} {st:HSt} {w0:World} {m0:Old} {a:Act} {w:World} (bx off id:Nat) {s':Nat} {l:List HV} (e et:TypeId) (es:Nat) (m:Nat->Nat) (g:Nat->Nat->Nat->PV) (hs:0<es) (hb:b5 st.o bx=some (.box l)) (hl:l[off]? = some (.p (.sl 0 s' true f'))) (hn:ku id st=true) (hne:Nat.beq bx id=false) (hr:Rel w0 m0 nt st.den a w):Rel w0 m0 nt (HSt.den ⟨st.t,(bx,some (.box (bm l off [.ref id 0])))::(id,some (.nest e et es 0 m g none))::st.o⟩) a w:=by
 obtain⟨hnm,hno⟩:=f3 hn;obtain⟨cc,hold,hrr⟩:=hr;have hbi:bx≠id:=by rintro rfl;simp at hne
 obtain⟨b0,C0,e0,p1,p2,p3,p4,p5⟩:=hrr.objs bx _ hb;obtain⟨u,hu,hur⟩:=p5.get off _ hl;have hx:au cc.imm (.sl 0 s' true f') u:=hur;have hfresh:=hrr.fresh id hnm hno (.nest e et es 0 m g none) w u noB (Grw.refl w none) (fun b hb=>hb.elim) (af4 hs bx8 (by simpa using zb hx));rw[<- jm]at hfresh
 have hb':(HSt.den ⟨st.t,(id,some (.nest e et es 0 m g none))::st.o⟩).o bx=some (.box l):=by
  simp only[HSt.den,ay,hbi,if_false];exact hb
 have hevo:∀(c1:Ctx),c1.own=(fun k=>if k=id then u else cc.own k)->Evo { old:=cc.old,imm:=cc.imm,tab:=cc.tab,own:=fun k=>if k=id then u else cc.own k,blk:=fun k=>if k=id then noB else cc.blk k,rows:=cc.rows } (HSt.den ⟨st.t,(id,some (.nest e et es 0 m g none))::st.o⟩).o c1 ((HSt.den ⟨st.t,(id,some (.nest e et es 0 m g none))::st.o⟩).setO bx (some (.box (bm l off [.ref id 0])))).o bx:=fun c1 h1 =>
  .inr (.inl ⟨l,bm l off [.ref id 0],hb',by simp[S.setO],by rw[h1]⟩)
 have hown:(fun k=>if k=bx then(fun k=>if k=id then u else cc.own k) bx else(fun k=>if k=id then u else cc.own k) k)=fun k=>if k=id then u else cc.own k:=by
  grind
 have hw:=hfresh.write bx (.box l) hb' (.box (bm l off [.ref id 0])) w ((fun k=>if k=id then u else cc.own k) bx) ((fun k=>if k=id then noB else cc.blk k) bx) none (Grw.refl w _) (fun _ e=>by cases e) (hevo _ (by exact hown)) (fun b hb=>.inl hb) (by
  refine⟨b0,C0,e0,by simpa [hbi]using p1,by simpa [hbi]using p2,p3,p4, ?_⟩;have hoff:off<l.length:=(bv1.1 hl).1;have hcl:=p5.length;refine bf.of_get ?_ fun k x u' hx' hu'=>?_
  · simp only[bm,bt8,btp,bvi,bv0];omega
  have hx2:=hx';unfold bm at hx2;rw[da l [HV.ref id 0] off k bxi]at hx2;by_cases hk:k=off
  · subst hk
    simp at hx2;subst hx2;rw[hu]at hu';simp only[bsy]at hu';subst hu';refine⟨au.oneCell hx,fun l2=>by simp[S.setO,HSt.den,ay,Ne.symm hbi],fun ob1 s1 e1 n1 ho hd1=>?_⟩
    grind
  rw[if_neg bxi]at hx2;obtain⟨u2,hu2,hr2⟩:=p5.get k x hx2;rw[hu']at hu2;simp only[bsy]at hu2;subst hu2;refine bh.evo (c:=cc) (o:=st.den.o) (Imm.le.refl cc.imm) (fun j hj=>?_) hr2
  have hji:j≠id:=by
   rintro rfl;exact hnm.2.1 bx _ hb ⟨x,List.mem_of_getElem? hx2,hj⟩
  by_cases hjb:j=bx
  · subst hjb;exact .inr (.inl ⟨l,bm l off [.ref id 0],hb,by simp[S.setO],by simp[hji]⟩)
  exact Evo.of_same (by simp[S.setO,hjb,HSt.den,ay,hji]) (by simp[hjb,hji]))
 have e:HSt.den ⟨st.t,(bx,some (.box (bm l off [.ref id 0])))::(id,some (.nest e et es 0 m g none))::st.o⟩=(HSt.den ⟨st.t,(id,some (.nest e et es 0 m g none))::st.o⟩).setO bx (some (.box (bm l off [.ref id 0]))):=by
  unfold HSt.den S.setO;simp only[S.mk.injEq,true_and];funext k;simp only[ay]
 rw[e];exact⟨_,(by exact hold),hw⟩
def aij{ro:Option Nat}{P:Program}{nt:Nat}{st:HSt}{Q:Exit->HSt->Prop}{c:Code}(bx off id:Nat){s':Nat}{l:List HV}(e et:TypeId)(es:Nat)(m:Nat->Nat)(g:Nat->Nat->Nat->PV)(hs:0<es)(hb:b5 st.o bx=some (.box l))(hl:l[off]? = some (.p (.sl 0 s' true f')))(hn:ku id st=true)(hne:Nat.beq bx id=false)(h:HW (ro:=ro) P nt c ⟨st.t,(bx,some (.box (bm l off [.ref id 0])))::(id,some (.nest e et es 0 m g none))::st.o⟩ Q):HW (ro:=ro) P nt c st Q:=fun w0 m0 a w hr=>h w0 m0 a w (aeq bx off id e et es m g hs hb hl hn hne hr)
end
end
section
abbrev Rw:=List Int
def ltZ:Rw->Rw->Bool
 | [],[]=>false
 | [],_::_=>true
 |_::_,[]=>false
 |x::a,y::b=>if x=y then ltZ a b else decide (x<y)
def wj:∀a:Rw,ltZ a a=false
 | []=>rfl
 |x::a=>by unfold ltZ;rw[if_pos rfl];exact wj a
def oi:∀{a b c:Rw},ltZ a b=true->ltZ b c=true->ltZ a c=true
 | [],[],_,h,_=>by cases h
 | [],_::_,[],_,k=>by cases k
 | [],_::_,_::_,_,_=>rfl
 |_::_,[],_,h,_=>by cases h
 |_::_,_::_,[],_,k=>by cases k
 | x :: a,y::b,z::c,h,k=>by
  unfold ltZ at *;by_cases hxy:x=y
  · rw [if_pos hxy]at h
    subst hxy;by_cases hyz:x=z
    · rw [if_pos hyz]at k ⊢
      exact oi h k
    rw[if_neg hyz]at k ⊢;exact k
  rw[if_neg hxy]at h;have h:=of_decide_eq_true h;by_cases hyz:y=z
  · subst hyz
    rw[if_neg hxy];exact decide_eq_true h
  rw[if_neg hyz]at k;have k:=of_decide_eq_true k;rw[if_neg bx5];exact decide_eq_true bx5
def a42:∀{a b:Rw},a≠b->ltZ a b=true\/ltZ b a=true
 | [],[],h=>absurd rfl h
 | [],_::_,_=>.inl rfl
 |_::_,[],_=>.inr rfl
 | x :: a,y::b,h=>by
  unfold ltZ;by_cases hxy:x=y
  · subst hxy
    rw[if_pos rfl,if_pos rfl];exact a42 fun e=>h (by rw[e])
  rw[if_neg hxy,if_neg (Ne.symm hxy),decide_eq_true_iff,decide_eq_true_iff];omega
def zC:Int->Nat->PV:=fun z _=>.raw (.int .i64 z)
abbrev zl(r:Rw):PV:=psl 1 zC r
def rC:Rw->Nat->PV:=fun r _=>zl r
abbrev rl(l:List Rw):PV:=psl 1 rC l
def b50 {a b:Rw} (h:ltZ a b=true):ltZ b a=false:=by
 rw[btf];intro k;have:=oi h k;rw[wj]at this;cases this
def vh(l:List Rw):Prop:=l.Pairwise fun a b=>ltZ a b=true
def aar:∀{l k:List Rw},vh l->vh k->(∀x,x∈l<->x∈k)->l=k
 | [],[],_,_,_=>rfl
 | [],y::k,_,_,h=>absurd ((h y).2 (buc ..)) bx8
 |x::l,[],_,_,h=>absurd ((h x).1 (buc ..)) bx8
 | x :: l,y::k,hl,hk,h=>by
  obtain⟨h1,h2⟩:=btz.1 hl;obtain⟨k1,k2⟩:=btz.1 hk
  have e:x=y:=by
   rcases btd.1 ((h x).1 (buc ..))with e|hx
   · exact e
   rcases btd.1 ((h y).2 (buc ..))with e|hy
   · exact e.symm
   have:=b50 (k1 x hx);rw[h1 y hy]at this;cases this
  subst e;congr 1;refine aar h2 k2 fun z=>?_;constructor
  · intro hz
    rcases btd.1 ((h z).1 (bub _ hz))with e|hz'
    · subst e
      have:=h1 z hz;rw[wj]at this;cases this
    exact hz'
  intro hz
  rcases btd.1 ((h z).2 (bub _ hz))with e|hz'
  · subst e
    have:=k1 z hz;rw[wj]at this;cases this
  exact hz'
def mr (x:Rw):List Rw->List Rw
 | []=>[x]
 |y::l=>if x=y then y::l else if ltZ x y=true then x::y::l else y::mr x l
def abn{x z:Rw}:∀{l:List Rw},z∈mr x l<->z=x\/z∈l
 | []=>by simp[mr]
 | y :: l=>by
  unfold mr;split
  · rename_i e
    subst e;simp
  split
  · simp
  rw[btd,abn,btd];constructor
  · rintro(h|h|h)<;>simp[h]
  rintro(h|h|h)<;>simp[h]
def ak3{x:Rw}:∀{l:List Rw},vh l->vh (mr x l)
 | [],_=>by simp[mr,vh]
 | y :: l,h=>by
  obtain⟨h1,h2⟩:=btz.1 h;unfold mr;split
  · exact h
  split
  · rename_i hxy
    refine btz.2 ⟨fun z hz=>?_,h⟩
    rcases btd.1 hz with rfl|hz
    · exact hxy
    exact oi hxy (h1 z hz)
  rename_i hne hxy;refine btz.2 ⟨fun z hz=>?_,ak3 h2⟩
  rcases abn.1 hz with rfl|hz
  · exact(a42 hne).resolve_left hxy
  exact h1 z hz
def ck(l:List Rw):List Rw:=l.foldl (fun o x=>mr x o) []
def a8b:∀{l o:List Rw},vh o->vh (l.foldl (fun o x=>mr x o) o)/\∀z,z∈l.foldl (fun o x=>mr x o) o<->z∈o\/z∈l
 | [],o,h=>⟨h,fun z=>by simp⟩
 | x::l,o,h=>by
  obtain⟨h1,h2⟩:=a8b (l:=l) (ak3 (x:=x) h);refine⟨h1,fun z=>?_⟩;show z∈l.foldl (fun o x=>mr x o) (mr x o)<->_;rw[h2 z,abn,btd];constructor
  · rintro((h|h)|h)<;>simp[h]
  rintro(h|h|h)<;>simp[h]
def a5o(l:List Rw):vh (ck l):=(a8b (o:=[]) List.Pairwise.nil).1
def ir {l:List Rw} {z:Rw}:z∈ck l<->z∈l:=by
 show z∈l.foldl (fun o x=>mr x o) []<->_;rw[(a8b (l:=l) (o:=[]) List.Pairwise.nil).2 z];simp
def ami{l k:List Rw}(hk:vh k)(h:∀z,z∈k<->z∈l):k=ck l:=aar hk (a5o l) fun z=>by rw[h z,ir]
def bs8(l:List Rw)(k:Nat)(r:Rw):List Rw:=l.take k++r::l.drop k
def ame (x:Rw):∀l:List Rw,(mr x l).length<=l.length+1
 | []=>by simp[mr]
 | y::l=>by
  unfold mr;have:=ame x l;split
  · simp
  split
  · simp
  simp only[bud];omega
def ak1(l:List Rw):(ck l).length<=l.length:=by
 have:∀(l o:List Rw),(l.foldl (fun o x=>mr x o) o).length<=o.length+l.length:=by
  intro l
  induction l with
  |nil=>intro o;simp
  | cons x l ih =>
   intro o;have h1:=ih (mr x o);have h2:=ame x o;simp only[bw1,bud];omega
 have h:=this l [];simpa [ck]using h
end
section
abbrev pZ(r:Rw):PC:=.one (zl r)
abbrev pR(l:List Rw):PC:=.one (rl l)
abbrev pT(n:Int)(l:List Rw):PC:=.agg [.raw (.int .i64 n),rl l]
def b0b:∀{a b:Rw} {i:Nat},i<a.length->i<b.length->(∀j,j<i->a.getD j default=b.getD j default)->¬a.getD i default=b.getD i default->ltZ a b=decide (a.getD i default<b.getD i default)
 | [],_,_,h,_,_,_=>by simp at h
 |_::_,[],_,_,h,_,_=>by simp at h
 | x::a,y::b,0,_,_,_,hn=>by
  have:¬x=y:=hn;unfold ltZ;rw[if_neg this];rfl
 | x::a,y::b,i+1,ha,hb,h,hn=>by
  have e:x=y:=h 0 bx5;unfold ltZ;rw[if_pos e];exact b0b (by simpa using ha) (by simpa using hb) (fun j hj=>h (j+1) bx5) hn
def ahr:∀{a b:Rw},(∀j,j<a.length->j<b.length->a.getD j default=b.getD j default)->ltZ a b=decide (a.length<b.length)
 | [],[],_=>rfl
 | [],_::_,_=>by simp[ltZ]
 |_::_,[],_=>by simp[ltZ]
 | x::a,y::b,h=>by
  have e:x=y:=h 0 bx8 bx8;unfold ltZ;rw[if_pos e,ahr fun j h1 h2=>h (j+1) (by simpa using h1) (by simpa using h2)];simp
def sv(a b:Rw):Int:=if a=b then 0 else if ltZ a b=true then -1 else 1
section
variable {a b:Rw}{i:Nat}
def ban (ha:i<a.length) (hb:i<b.length) (h:∀j,j<i->a.getD j default=b.getD j default) (hn:¬gq (a.getD i default) (b.getD i default)=0):gq (a.getD i default) (b.getD i default)=sv a b:=by
 have hne:¬a.getD i default=b.getD i default:=fun e=>hn (by unfold gq;rw[if_neg bx5,if_neg bx5]);unfold gq sv;rw[if_neg (fun e:a=b=>hne (by rw[e])),b0b ha hb h hne];simp only[decide_eq_true_eq];split
 · rfl
 rw[if_pos bx5]
def bjj {a b:Int} (h:gq a b=0):a=b:=by
 unfold gq at h;split at h
 · omega
 split at h<;>omega
def ba1 (ha:i<a.length) (hb:¬i<b.length) (h:∀j,j<i->a.getD j default=b.getD j default):(1:Int)=sv a b:=by
 unfold sv;rw[if_neg (fun e:a=b=>by subst e;omega),ahr fun j h1 h2=>h j bx5,if_neg (by simp only[decide_eq_true_eq];omega)]
def bf5 (hl:a.length<b.length) (h:∀j,j<a.length->a.getD j default=b.getD j default):(-1:Int)=sv a b:=by
 unfold sv;rw[if_neg (fun e:a=b=>by subst e;omega),ahr fun j h1 h2=>h j h1,if_pos (by simp only[decide_eq_true_eq];omega)]
def bdl (hl:a.length<=b.length) (hl2:¬a.length<b.length) (h:∀j,j<a.length->a.getD j default=b.getD j default):(0:Int)=sv a b:=by
 unfold sv;rw[if_pos (pl bx5 h)]
def bny(h:a.length=b.length)(hI:∀j,j<a.length->decide (a.getD j default=b.getD j default)=true):a=b:=pl h fun j hj=>of_decide_eq_true (hI j hj)
def bjr{a b:Nat}(h:∀j,j<a->j<b):a<=b:=bws fun e=>bvy _ (h b e)
def ov(a b:Rw)(s:AS):Bool:=decide (∀i:Nat,i<a.length->(en s (i:Int)=true->a.getD i default=b.getD i default))
def bj4{s:AS}(hi:i<a.length)(h:en s (i:Int)=true)(hn:¬a.getD i default=b.getD i default):ov a b s=false:=decide_eq_false fun e=>hn (e i hi h)
def ae3{s:AS}(h:∀i:Nat,i<a.length->(en s (i:Int)=true->a.getD i default=b.getD i default)):ov a b s=true:=decide_eq_true h
def ve {s:AS} (h:i<32):bu .and .u32 ((asI s).fdiv (2^(min i 32))) 1=1<->en s (i:Int)=true:=by
 rw[<- bmg (s:=s) (i:=(i:Int)) bx5 bx5,decide_eq_true_iff];rfl
def qq(n:Int)(l:List Rw)(i:Nat):Bool:=decide (((l.getD i default).length:Int)=n)&&!(l.getD i default).any (fun x=>decide (x<0))&&(decide (i=0)||ltZ (l.getD (i-1) default) (l.getD i default))
def tok(n:Int)(l:List Rw):Bool:=decide (0<=n/\n<=16/\l.length<=256)&&decide (∀i,i<l.length->qq n l i=true)
def b82 {n:Int} {l:List Rw} (h0:0<=n) (h1:n<=16) (h2:l.length<=256) (h:∀i,i<l.length->qq n l i=true):tok n l=true:=by
 unfold tok;rw[decide_eq_true (show 0<=n/\n<=16/\l.length<=256 from ⟨h0,h1,h2⟩),decide_eq_true h];rfl
def anq {n:Int} {l:List Rw} (h:¬(0<=n/\n<=16/\l.length<=256)):tok n l=false:=by
 unfold tok;rw[decide_eq_false h];rfl
def avb {n:Int} {l:List Rw} (hi:i<l.length) (h:qq n l i=false):tok n l=false:=by
 unfold tok;rw[decide_eq_false (fun e:∀i,i<l.length->qq n l i=true=>by rw[e i hi]at h;cases h),Bool.and_false]
def ij(a b:Rw)(s:AS):Rw:=(List.range b.length).map fun(i:Nat)=>if en s (i:Int)=true then a.getD i default else b.getD i default
end
end
section
open Go.Proofs
def bou(l:List Int)(g k:Nat)(caps:Nat->PV)(V:Int->Bool)(hg:goodFn bxr g)(hV:∀x,a7 bxr g (pI x::ic caps k 0) (ae [pB (V x)])):a7 bxr 260 [pP (zl l),pP (.fn g k caps)] (ae [pI (idx V l)]):=by
 refine hpx (nt:=19) Tryz.func260 ?_;refine dt ?_;refine e9 0 rfl fun hn=>?_;refine w_3 ?_;refine dp (ι:=Unit) kn km (fun _i=>⟨[],[]⟩) (fun _i=>idx V l=-1) ?_ ?_
 ·
  refine w_7 ?_;refine am (ι:=Nat) (ka 0 (ka 1 (ka 7 kn))) km (fun i=>⟨[(8,some (vI i))],[]⟩) (fun i=>i<=l.length/\(∀j,j<i->V (l.getD j default)=false)) (fun i=>l.length-i) (0) (⟨bt6 _,d5⟩) kk ?_;rintro i ⟨hi,hI⟩;refine w_5 ?_;refine hcd ?_ ?_<;>intro h0
  ·
   refine jk ?_;refine rc rfl rfl rfl rfl rfl rfl hg (hV (l.getD i default)) (CoL.refl _) rfl rfl ?_;refine dq ?_;refine hcb ?_ ?_<;>intro h1
   · refine v_5 ?_;exact⟨cci (vd (i:=i) bx5 hI h1).symm,trivial⟩
   refine w_5 ?_;refine lpz (i+1) kk ?_;exact⟨by show i+1<=_;omega,c6 hI (h1)⟩
  refine ek ?_;refine⟨(), ?_, ?_⟩
  · exact vq fun j hj=>hI j bx5
  exact⟨trivial,trivial⟩
 rintro _ hj;refine v_4 ?_;exact⟨cci hj.symm,trivial⟩
def bqg(l:List Rw)(g k:Nat)(caps:Nat->PV)(V:Rw->Bool)(hg:goodFn bxr g)(hV:∀x,a7 bxr g (pZ x::ic caps k 0) (ae [pB (V x)])):a7 bxr 191 [pP (rl l),pP (.fn g k caps)] (ae [pI (idx V l)]):=by
 refine hpx (nt:=19) Tryz.func191 ?_;refine dt ?_;refine e9 0 rfl fun hn=>?_;refine w_3 ?_;refine dp (ι:=Unit) kn km (fun _i=>⟨[],[]⟩) (fun _i=>idx V l=-1) ?_ ?_
 ·
  refine w_7 ?_;refine am (ι:=Nat) (ka 0 (ka 1 (ka 7 kn))) km (fun i=>⟨[(8,some (vI i))],[]⟩) (fun i=>i<=l.length/\(∀j,j<i->V (l.getD j default)=false)) (fun i=>l.length-i) (0) (⟨bt6 _,d5⟩) kk ?_;rintro i ⟨hi,hI⟩;refine w_5 ?_;refine hcd ?_ ?_<;>intro h0
  ·
   refine jk ?_;refine rc rfl rfl rfl rfl rfl rfl hg (hV (l.getD i default)) (CoL.refl _) rfl rfl ?_;refine dq ?_;refine hcb ?_ ?_<;>intro h1
   · refine v_5 ?_;exact⟨cci (vd (i:=i) bx5 hI h1).symm,trivial⟩
   refine w_5 ?_;refine lpz (i+1) kk ?_;exact⟨by show i+1<=_;omega,c6 hI (h1)⟩
  refine ek ?_;refine⟨(), ?_, ?_⟩
  · exact vq fun j hj=>hI j bx5
  exact⟨trivial,trivial⟩
 rintro _ hj;refine v_4 ?_;exact⟨cci hj.symm,trivial⟩
def bq7 (l:List Int) (g k:Nat) (caps:Nat->PV) (V:Int->Bool) (hg:goodFn bxr g) (hV:∀x,a7 bxr g (pI x::ic caps k 0) (ae [pB (V x)])):a7 bxr 233 [pP (zl l),pP (.fn g k caps)] (ae [pB (l.any V)]):=by
 refine hpx (nt:=9) Tryz.func233 ?_;refine w_8 ?_;refine qcx (wgx Tryz.func260) (bou l g k caps V hg hV) ?_;refine v_3 ?_;exact⟨ccb a6w,trivial⟩
def bq3 (l:List Rw) (g k:Nat) (caps:Nat->PV) (V:Rw->Bool) (hg:goodFn bxr g) (hV:∀x,a7 bxr g (pZ x::ic caps k 0) (ae [pB (V x)])):a7 bxr 143 [pP (rl l),pP (.fn g k caps)] (ae [pB (l.any V)]):=by
 refine hpx (nt:=9) Tryz.func143 ?_;refine w_8 ?_;refine qcx (wgx Tryz.func191) (bqg l g k caps V hg hV) ?_;refine v_3 ?_;exact⟨ccb a6w,trivial⟩
def ait:goodFn bxr 145:=wgx Tryz.func145
def b48(a b:Rw):a7 bxr 145 [pZ a,pZ b] (ae [pB (decide (a=b))]):=by
 refine hpx (nt:=26) Tryz.func145 ?_;refine dt ?_;refine e9 0 rfl fun hn0=>?_;refine e9 1 rfl fun hn1=>?_;refine gh ?_;refine hcn ?_ ?_<;>intro h0
 · refine v_4 ?_;exact⟨ccb (decide_eq_false fun e=>by subst e;omega).symm,trivial⟩
 refine fk ?_;refine dp (ι:=Unit) kn km (fun _i=>⟨[],[]⟩) (fun _i=>a=b) ?_ ?_
 ·
  refine w_7 ?_;refine am (ι:=Nat) (ka 0 (ka 1 (ka 12 kn))) km (fun i=>⟨[(13,some (vI i))],[]⟩) (fun i=>i<=a.length/\(∀j,j<i->decide (a.getD j default=b.getD j default)=true)) (fun i=>a.length-i) (0) (⟨bt6 _,d5⟩) kk ?_;rintro i ⟨hi,hI⟩;refine w_5 ?_;refine hcd ?_ ?_<;>intro h1
  ·
   refine am9 ?_;refine hcn ?_ ?_<;>intro h2
   · refine v_4 ?_;exact⟨ccb (decide_eq_false fun e=>by subst e;simp_all).symm,trivial⟩
   refine w_5 ?_;refine lpz (i+1) kk ?_;exact⟨by show i+1<=_;omega,c6 hI (decide_eq_true bxf)⟩
  refine ek ?_;refine⟨(), ?_, ?_⟩
  · exact bny bx5 fun j hj=>hI j bx5
  exact⟨trivial,trivial⟩
 rintro _ hj;refine v_4 ?_;exact⟨ccb (decide_eq_true hj).symm,trivial⟩
def b7y(a b:Rw):a7 bxr 198 [pZ a,pZ b] (ae [pI (sv a b)]):=by
 refine hpx (nt:=36) Tryz.func198 ?_;refine dt ?_;refine e9 0 rfl fun hn0=>?_;refine e9 1 rfl fun hn1=>?_;refine w_3 ?_;refine dp (ι:=Unit) (ka 0 (ka 1 kn)) km (fun _i=>⟨[],[]⟩) (fun _i=>∀j,j<a.length->j<b.length/\a.getD j default=b.getD j default) ?_ ?_
 ·
  refine w_7 ?_;refine am (ι:=Nat) (ka 0 (ka 1 (ka 9 (ka 10 kn)))) km (fun i=>⟨[(11,some (vI i))],[]⟩) (fun i=>i<=a.length/\(∀j,j<i->j<b.length/\a.getD j default=b.getD j default)) (fun i=>a.length-i) (0) (⟨bt6 _,d5⟩) kk ?_;rintro i ⟨hi,hI⟩;refine w_5 ?_;refine hcd ?_ ?_<;>intro h0
  ·
   refine a5u ?_;refine hcd ?_ ?_<;>intro h1
   · refine v_4 ?_;exact⟨cci (ba1 (i:=i) bx5 bx5 fun j hj=>(hI j hj).2),trivial⟩
   refine mq ?_;refine qcx ah3 (awr (a.getD i default) (b.getD i default)) ?_;refine w_7 ?_;refine hcn ?_ ?_<;>intro h2
   · refine v_5 ?_;exact⟨cci (ban (i:=i) bx5 bx5 (fun j hj=>(hI j hj).2) bx6),trivial⟩
   refine w_5 ?_;refine lpz (i+1) kk ?_;exact⟨by show i+1<=_;omega,c6 hI (⟨by omega,bjj bx6⟩)⟩
  refine ek ?_;refine⟨(), ?_, ?_⟩
  · exact fun j hj=>hI j bx5
  exact kk
 rintro _ hj;refine w_9 ?_;refine hcd ?_ ?_<;>intro h3
 · refine v_4 ?_;exact⟨cci (bf5 bx5 fun j h=>(hj j h).2),trivial⟩
 refine v_5 ?_;exact⟨cci (bdl (bjr fun j h=>(hj j h).1) bx5 fun j h=>(hj j h).2),trivial⟩
end
section
open Go.Proofs
abbrev bxZ(a:PV):PV:=.vp 1 fun j=>[a].getD j .any
def bkz (r row:Rw):a7 bxr 144 [pZ r,pP (bxZ (zl row))] (ae [pB (decide (r=row))]):=by
 refine hpx (nt:=7) Tryz.func144 ?_;refine w_8 ?_;refine qcx ait (b48 _ _) ?_;refine v_2 ?_;exact CoL.refl _
def b8k (n:Int) (l:List Rw) (row:Rw):a7 bxr 94 [pT n l,pZ row] (ae [pB (l.any fun r=>decide (r=row))]):=by
 refine hpx (nt:=9) Tryz.func94 ?_;refine sx7 ?_;refine m9 0 ?_;refine m9 1 ?_;refine w_3 ?_;refine ci 3 rfl rfl rfl ?_;refine w_4 ?_;refine qcx (wgx Tryz.func143) (bq3 l 144 1 (fun i=>[bxZ (zl row)].getD i .any) (fun r=>decide (r=row)) (wgx Tryz.func144) (fun r=>bkz r row)) ?_;refine v_2 ?_;exact CoL.refl _
def bpg (x:Int):a7 bxr 234 [pI x] (ae [pB (decide (x<0))]):=by
 refine hpx (nt:=5) Tryz.func234 ?_;refine cr ?_;exact hx8 rfl rfl rfl (CoL.refl _)
def a47:goodFn bxr 193:=wgx Tryz.func193
def a6s(a b:Rw)(s:AS)(h:b.length=a.length)(h16:a.length<=16):a7 bxr 193 [pZ a,pZ b,pA s] (ae [pB (ov a b s)]):=by
 refine hpx (nt:=30) Tryz.func193 ?_;refine dt ?_;refine e9 0 rfl fun hn0=>?_;refine e9 1 rfl fun hn1=>?_;refine w_3 ?_;refine dp (ι:=Unit) kn km (fun _i=>⟨[],[]⟩) (fun _i=>ov a b s=true) ?_ ?_
 ·
  refine w_7 ?_;refine am (ι:=Nat) (ka 0 (ka 1 (ka 2 (ka 9 kn)))) km (fun i=>⟨[(10,some (vI i))],[]⟩) (fun i=>i<=a.length/\(∀j:Nat,j<i->(en s (j:Int)=true->a.getD j default=b.getD j default))) (fun i=>a.length-i) (0) (⟨bt6 _,d5⟩) kk ?_;rintro i ⟨hi,hI⟩;refine w_5 ?_;refine hcd ?_ ?_<;>intro h0
  ·
   refine ss ?_;refine al rfl rfl ?_ ?_<;>intro r1
   ·
    have h1:=tz1 r1;(iterate 9 refine qy ?_ (hg:=(gtt r1)));refine w_3 ?_;refine ax _ rfl ?_ ?_<;>intro r2
    · have h2:=tz2 (cj (br r1 r2));refine v_4 ?_;exact⟨ccb (bj4 (i:=i) bx5 ((ve bx5).1 bx6) bx6).symm,trivial⟩
    have h2:=tz1 (cn (br r1 r2));refine w_5 ?_;refine lpz (i+1) kk ?_;exact⟨by show i+1<=_;omega,c6 hI (fun hh=>by first|(exact absurd ((ve bx5).2 hh) bx6)|assumption)⟩
   have h1:=tz2 r1;(iterate 9 refine k9 (gft r1) ?_);refine w_9 ?_;refine lpz (i+1) kk ?_
   exact⟨by show i+1<=_;omega,c6 hI (fun hh=>by first|(exact absurd ((ve bx5).2 hh) bx6)|assumption)⟩
  refine ek ?_;refine⟨(), ?_, ?_⟩
  · exact ae3 fun j hj=>hI j bx5
  exact⟨trivial,trivial⟩
 rintro _ hj;refine v_4 ?_;exact⟨ccb hj.symm,trivial⟩
end
section
def eo(n:Int)(l m:List Fd):Int:=if aw n l=0 then(if 64<m.length then 3 else if m.all (inU n)=true then 0 else 1)else aw n l
section
variable {n:Int}{l m:List Fd}
def bfn(h:¬aw n l=0):aw n l=eo n l m:=by unfold eo;rw[if_neg h]
def bh8(h:aw n l=0)(h2:64<m.length):3=eo n l m:=by unfold eo;rw[if_pos h,if_pos h2]
def bgg {i:Nat} (h:aw n l=0) (h2:¬64<m.length) (hi:i<m.length) (hu:¬inU n (m.getD i default)=true):1=eo n l m:=by
 unfold eo;rw[if_pos h,if_neg h2,if_neg (fun e=>absurd (awq (l:=m) (p:=inU n) hi (btf.2 hu)) (by rw[e];decide))]
def ax3 (h:aw n l=0) (h2:¬64<m.length) (hu:∀j,j<m.length->inU n (m.getD j default)=true):0=eo n l m:=by
 unfold eo;rw[if_pos h,if_neg h2,if_pos (av8 hu)]
def wq(h:eo n l m=0):0<=n/\n<=16/\l.length<=64/\l.all (inU n)=true/\m.length<=64/\m.all (inU n)=true:=by
 unfold eo at h;by_cases h1:aw n l=0
 · rw [if_pos h1]at h
   obtain⟨a,b,c,d⟩:=d9 h1;by_cases h2:64<m.length
   · rw[if_pos h2]at h;omega
   rw[if_neg h2]at h;by_cases h3:m.all (inU n)=true
   · exact⟨a,b,c,d,by omega,h3⟩
   rw[if_neg h3]at h;omega
 rw[if_neg h1]at h;exact absurd h h1
end
section
variable {l:List Rw}
def aof {n:Int} {i:Nat} (h1:((l.getD i default).length:Int)=n) (h2:(l.getD i default).any (fun x=>decide (x<0))=false) (h3:i=0\/ltZ (l.getD (i-1) default) (l.getD i default)=true):qq n l i=true:=by
 unfold qq;rw[decide_eq_true h1,h2]
 rcases h3 with h3|h3
 · rw[decide_eq_true h3];rfl
 rw[h3];simp
def atg{n:Int}{i:Nat}(h:¬((l.getD i default).length:Int)=n):qq n l i=false:=by unfold qq;rw[decide_eq_false h];rfl
def asy{n:Int}{i:Nat}(h:(l.getD i default).any (fun x=>decide (x<0))=true):qq n l i=false:=by unfold qq;rw[h];simp
def ag5 {n:Int} {i:Nat} (h0:0<i) (h:¬ltZ (l.getD (i-1) default) (l.getD i default)=true):qq n l i=false:=by
 unfold qq;rw[btf.2 h,decide_eq_false (by omega:¬i=0)];simp
def a5i{a b:Rw}:sv a b<0<->ltZ a b=true:=by
 unfold sv;by_cases e:a=b
 · subst e
   rw[if_pos rfl,wj];exact⟨fun h=>absurd h bx5,fun h=>by cases h⟩
 rw[if_neg e];by_cases h:ltZ a b=true
 · rw[if_pos h];exact⟨fun _=>h,fun _=>by omega⟩
 rw[if_neg h];exact⟨fun h=>absurd h bx5,fun h2=>absurd h2 h⟩
end
end
section
open Go.Proofs
def af0:goodFn bxr 97:=wgx Tryz.func97
def a9l(n:Int)(l m:List Fd):a7 bxr 97 [pI n,pP (fdl l),pP (fdl m)] (ae [pI (eo n l m)]):=by
 refine hpx (nt:=34) Tryz.func97 ?_;refine dt ?_;refine e9 2 rfl fun hn2=>?_;refine w_8 ?_;refine qcx qj (tg n l) ?_;refine w_7 ?_;refine hcn ?_ ?_<;>intro h0
 · refine v_5 ?_;exact⟨cci (bfn bx6),trivial⟩
 have hv0:aw n l=0:=by assumption
 obtain⟨hn0,hn16,_,_⟩:=d9 hv0;refine w_8 ?_;refine hcd ?_ ?_<;>intro h1
 · refine v_4 ?_;exact⟨cci (bh8 hv0 bx5),trivial⟩
 refine fk ?_;refine dp (ι:=Unit) kn km (fun _i=>⟨[],[]⟩) (fun _i=>∀j,j<m.length->inU n (m.getD j default)=true) ?_ ?_
 ·
  refine w_7 ?_;refine am (ι:=Nat) (ka 0 (ka 19 (ka 20 kn))) km (fun i=>⟨[(21,some (vI i))],[]⟩) (fun i=>i<=m.length/\(∀j,j<i->inU n (m.getD j default)=true)) (fun i=>m.length-i) (0) (⟨bt6 _,d5⟩) kk ?_;rintro i ⟨hi,hI⟩;refine w_5 ?_;refine hcd ?_ ?_<;>intro h2
  ·
   refine w_7 ?_;refine m9 0 ?_;refine mq ?_;refine hcn ?_ ?_<;>intro h3
   · refine v_4 ?_;exact⟨cci (bgg (i:=i) hv0 bx5 bx5 (fun e=>absurd (a93.2 e) bx6)),trivial⟩
   refine w_5 ?_;refine lpz (i+1) kk ?_;exact⟨by show i+1<=_;omega,c6 hI (a93.1 bx6)⟩
  refine ek ?_;refine⟨(), ?_, ?_⟩
  · exact fun j hj=>hI j bx5
  exact⟨trivial,trivial⟩
 rintro _ hj;refine v_4 ?_;exact⟨cci (ax3 hv0 bx5 hj),trivial⟩
end
end Go.Hx
