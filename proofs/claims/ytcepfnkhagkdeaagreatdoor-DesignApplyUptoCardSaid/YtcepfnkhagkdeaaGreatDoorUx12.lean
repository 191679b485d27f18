/- A part of the proof: Lw Hx26 Hx25 Ch1 Ch2 X1 X2 Ch3 X3 X4 Ch4 X5. -/
import Derived.Deep.DeepHandedRow
import Derived.OpenShut
import Derived.ProofKit
import Derived.Test.YtcepfnkhagkdeaaGreatDoorCards
import Derived.Test.YtcepfnkhagkdeaaGreatDoorRows
import Derived.Test.YtcepfnkhagkdeaaGreatDoorTie
import Derived.WalkKit
import Derived.Test.YtcepfnkhagkdeaaGreatDoorUx11
set_option linter.all false
open Go.Proofs.Tryz
set_option maxRecDepth 100000
set_option maxHeartbeats 1000000
namespace Go.Hx
section
open Go.Proofs Go.ChangeShapes Go.WideShapes Go.ChangeAt Go.RowKit
def own:ownKnob Ab.godebug=none:=by kernel_rfl
def IM : Ab.globalNamed "math/bits.deBruijn32tab" = some 0 := by kernel_rfl
def b6j:(Ab.globals[0]?).map (·.type)=some 211:=by kernel_rfl
def b6l:Ab.cellsOf 211=32:=by kernel_rfl
def Z7:Ab.cellsOf 5=1:=by kernel_rfl
def QC:List Int:=[0,1,28,2,29,14,24,3,30,22,20,15,25,17,4,8,31,27,13,23,21,19,16,7,26,12,18,6,11,5,10,9]
def Q3 {W : World} (h : laidMetH Ab [("math/bits.deBruijn32tab", YtcepfnkhagkdeaaGreatDoor.Rows.laid_math_bits_deBruijn32tab), ("math/bits.deBruijn64tab", YtcepfnkhagkdeaaGreatDoor.Rows.laid_math_bits_deBruijn64tab), ("internal/strconv.uint64pow10", YtcepfnkhagkdeaaGreatDoor.Rows.laid_internal_strconv_uint64pow10)] W) : vk (fg W) := by
 have ht : Lib.TabIs Ab W "math/bits.deBruijn32tab" .u8 QC := Lib.tabIs_of_head (rest := [("math/bits.deBruijn64tab", YtcepfnkhagkdeaaGreatDoor.Rows.laid_math_bits_deBruijn64tab), ("internal/strconv.uint64pow10", YtcepfnkhagkdeaaGreatDoor.Rows.laid_internal_strconv_uint64pow10)]) IM b6j underlying211 underlying5 Z7 b6l h;intro b off v hv;unfold Sy wn at hv;split at hv
 .have hlt:off<32:=by
   rcases Io off 32 with h|h
   .exact h
   rw[Nz (by simpa using h)]at hv;cases hv
  have hc:=ht.cell IM off hlt
  have e:v=.int .u8 (QC.getD off 0):=by
   have:(QC.map λz=>Value.int .u8 z)[off]? = some v:=hv;rw[Pe]at this;rw[Oc]
   cases hz:QC[off]? with
   |none=>rw[hz]at this;cases this
   |some z=>rw[hz]at this;exact(Option.some.inj this).symm
  rw[e];unfold World.cell? at hc;unfold gz fg;split at hc
  .rename_i c t fr hh
   rw[hh];simpa using hc
  cases hc
 cases hv
def R0:DataW Unit->Array Value
 | .agg l=>(l.map fun
  | .lit (.int k n)=>Value.int k n
  |_=>.bool false).toArray
 |_=>#[]
def QG (d:DataW Unit):Obj->Obj
 | .cells _ t frozen=>.cells (R0 d) t frozen
 |o=>o
noncomputable def Og (os:Os):World :=
 { World.holding Ab os ⟨#[],#[],[]⟩with heap:=(((World.holding Ab os ⟨#[],#[],[]⟩).heap.modify 0 (QG YtcepfnkhagkdeaaGreatDoor.Rows.laid_math_bits_deBruijn32tab)).modify 1 (QG YtcepfnkhagkdeaaGreatDoor.Rows.laid_internal_strconv_uint64pow10)).modify 3 (QG YtcepfnkhagkdeaaGreatDoor.Rows.laid_math_bits_deBruijn64tab) }
end
section
open Go.Proofs Go.Proofs.YtcepfnkhagkdeaaGreatDoor
open Go.RowKit Go.ChangeShapes Go.WideShapes Go.ChangeAt
section
variable {H:Type}
def wB {d:DataW H} {l:List (DataW H)} (h:d∈l):Rows.uptoBulk d<=Rows.uptoBulkAll l:=by
 induction l with
 |nil=>cases h
 | cons x r ih =>
  rw[Rows.uptoBulkAll]
  rcases Jd.1 h with e|e
  .subst e;omega
  have:=ih e;omega
def U8 (d:DataW H):1<=Rows.uptoBulk d:=by
 cases d with
 |lit l=>cases l<;>simp[Rows.uptoBulk]
 |_=>simp[Rows.uptoBulk]
def b2w (l:List (DataW H)):l.length<=Rows.uptoBulkAll l:=by
 induction l with
 |nil=>simp
 |cons x r ih=>have:=U8 x;rw[Rows.uptoBulkAll,Zf];omega
def b4n {l r:List (DataW H)} {d:DataW H} (h:d∈l):Rows.uptoBulk d<=Rows.uptoBulk (.slice l r):=by
 have:=wB h;rw[Rows.uptoBulk];omega
def CR {l:List (DataW H)} {d:DataW H} (h:d∈l):Rows.uptoBulk d<=Rows.uptoBulk (.agg l):=by
 have:=wB h;rw[Rows.uptoBulk];omega
def b9v (l r:List (DataW H)):l.length<=Rows.uptoBulk (.slice l r):=by
 have:=b2w l;rw[Rows.uptoBulk];omega
end
def Nk (P:Program) (t:TypeId) (n:Nat) {α:Type} (c:α->Nat->PV) (B:Nat->α->Prop):Prop :=
 ∀ (H:Type) (enc:TypeId×Value->H) (w:World) (sp:Nat->Bool) (held:Bool) (fuel:Nat) (cs:List Value) (x:DataW H×List MemPlace),DataW.trod enc P w 0 sp held fuel t cs=some x ->
  cs.length=n/\∃a:α,B (Rows.uptoBulk x.1) a/\∀j,j<n->∃v,cs[j]? = some v/\aq (fg w) (c a j) v
section
variable {P:Program}{t e:TypeId}
theorem Rd.toB {n:Nat} {α:Type} {c:α->Nat->PV} (h:Rd P t n c):Nk P t n c λ_ _=>True:=by
 intro H enc w sp held fuel cs x hx;obtain⟨h1,a,h2⟩:=h _ enc w sp held fuel cs x hx;exact⟨h1,a,Aa,h2⟩
section
variable {α:Type}{B:Nat->α->Prop}{c:α->Nat->PV}
theorem Nk.co {n:Nat} {β:Type} {c':β->Nat->PV} {B':Nat->β->Prop} (h:Nk P t n c B) (f:α->β) (hB:∀b a,B b a->B' b (f a)) (hc:∀a j,j<n->Fc (c a j) (c' (f a) j)):Nk P t n c' B':=by
 intro H enc w sp held fuel cs x hx;obtain⟨h1,a,h0,h2⟩:=h _ enc w sp held fuel cs x hx;refine⟨h1,f a,hB _ _ h0,λj hj=>?_⟩;obtain⟨v,h3,h4⟩:=h2 j hj;exact⟨v,h3,hc a j hj _ _ h4⟩
def xK{s:Nat}[Inhabited α](mono:∀b b' x,b<=b'->B b x->B b' x)(ht:P.underlying t=some (.slice e))(hc:P.cellsOf e=s)(hs:0<s)(h:Nk P e s c B):Nk P t 1 (Rz s c) (λb l=>l.length<=b/\∀i,i<l.length->B b (l.getD i default)):=by
 classical
 intro H enc w sp held fuel cs x hx
 rcases DataW.trod_slice ht hx with⟨rfl,_⟩|⟨a,len,cap,elems,rest,n,rfl,rfl,rfl,hb,hl,hm,hlen,hel,_,_⟩
 .refine ⟨rfl,[],⟨Zb _,λi hi=>Ea hi (Ud i)⟩,λj hj=>?_⟩
  obtain rfl:j=0:=by omega
  exact⟨_,rfl,none,0,rfl,Yb _,Zb _,(λhh=>by cases hh),λhh=>Ea hh (Pl 0)⟩
 have each:∀i,i<len->∃q:α,B (Rows.uptoBulk (DataW.slice (elems.map (·.1)) (rest.map (·.1)))) q/\∀j,j<s->∃v,w.cell? (a.add (i*s+j))=some v/\aq (fg w) (c q j) v:=by
  intro i hi;have h1:=hel i hi;rw[hc]at h1;rw[Hc Za]at h1;obtain⟨cs',h2,h3⟩:=Option.bind_eq_some_iff.1 h1;obtain⟨_,h4,h5⟩:=World.cells?_some h2;obtain⟨_,q,h9,h6⟩:=h _ enc w sp held n cs' _ h3;refine⟨q,mono _ _ q (b4n (List.mem_map_of_mem (De _))) h9,λj hj=>?_⟩;obtain⟨v,h7,h8⟩:=h6 j hj;refine⟨v, ?_,h8⟩;have:=h5 j hj;rw[h7]at this;rw[<- this];congr 1;unfold Addr.add;by_cases hj0:j=0
  .subst hj0
   simp
  by_cases hi0:i*s=0
  .simp[hi0,hj0]
  have:¬(i*s+j=0):=by omega
  simp only[hj0,hi0,this,Na];congr 1;omega
 refine⟨rfl,(List.range len).map λi=>if hi:i<len then Classical.choose (each i hi)else default,⟨?_,λi hi=>?_⟩,λj hj=>?_⟩
 .rw [Yd,Jm,<- hlen]
  have:=b9v (elems.map (·.1)) (rest.map (·.1));rw[Yd]at this;exact this
 .have hi:i<len:=by simpa using hi
  have hch:=(Classical.choose_spec (each i hi)).1;have e:((List.range len).map λi=>if hi:i<len then Classical.choose (each i hi)else default).getD i default=Classical.choose (each i hi):=by simp[List.getD,hi]
  rw[e];exact hch
 obtain rfl:j=0:=by omega
 refine⟨_,rfl,some a,cap,by simp,by simpa using hl,hm,(λhh=>by cases hh),λhn=>?_⟩;have hn:0<len:=by simpa using hn
 have hspot:a.spot=none:=by
  obtain⟨q,_,hq⟩:=each 0 hn;obtain⟨v,hv,_⟩:=hq 0 hs;have:a.add (0*s+0)=a:=by simp[Addr.add]
  rw[this]at hv;unfold World.cell? at hv;split at hv
  .split at hv
   .cases hv
   rename_i hsp;simpa using hsp
  cases hv
 refine⟨a.block,a.off, ?_,λi j hi hj=>?_⟩
 .obtain ⟨b,o,spo⟩:=a
  simp only at hspot;subst hspot;rfl
 have hi:i<len:=by simpa using hi
 have hch:=(Classical.choose_spec (each i hi)).2;obtain⟨v,hv,hr⟩:=hch j hj;refine⟨v, ?_, ?_⟩
 .unfold World.cell? at hv
  have hblk:(a.add (i*s+j)).block=a.block:=by unfold Addr.add;split<;>rfl
  have hoff:(a.add (i*s+j)).off=a.off+(i*s+j):=by
   unfold Addr.add;split
   .rename_i h0;rw[h0];rfl
   rfl
  rw[hblk,hoff]at hv;unfold gz fg;split at hv
  .rename_i hb'
   rw[hb'];split at hv
   .cases hv
   exact hv
  cases hv
 have:lf c ((List.range len).map λi=>if hi:i<len then Classical.choose (each i hi)else default) i j=c (Classical.choose (each i hi)) j:=by
  unfold lf;simp[List.getD,hi]
 rw[this];exact hr
def wV {H:Type} {enc:TypeId×Value->H} {w:World} {sp:Nat->Bool} {held:Bool} {fuel:Nat} {cs:List Value} {x:DataW H×List MemPlace} {fs:Array Field} (ht:P.underlying t=some (.struct fs)) (h:DataW.trod enc P w 0 sp held fuel t cs=some x) :
 cs.length=P.cellsOf t/\∃n,∀(i:Nat) (f:Field),fs[i]? = some f->∃y,DataW.trod enc P w 0 sp held n f.type ((cs.drop f.offset).take (P.cellsOf f.type))=some y/\Rows.uptoBulk y.1<=Rows.uptoBulk x.1:=by
 obtain⟨xs,n,_,rfl,h1,h2,h3⟩:=DataW.trod_struct ht h;refine⟨h1,n,λi f hf=>?_⟩;have:=h3 i f hf;rw[this];have hi:i<xs.length:=by rw[h2];exact(Le.1 hf).1
 exact⟨_,Hc hi,CR (List.mem_map_of_mem (De hi))⟩
def mt {H:Type} {enc:TypeId×Value->H} {w:World} {sp:Nat->Bool} {held:Bool} {n off s b:Nat} {ft:TypeId} {cs:List Value} {y:DataW H×List MemPlace} (mono:∀b b' x,b<=b'->B b x->B b' x) (h:Nk P ft s c B) (hy:DataW.trod enc P w 0 sp held n ft ((cs.drop off).take (P.cellsOf ft))=some y/\Rows.uptoBulk y.1<=b):
 ∃a:α,B b a/\∀j,j<s->∃v,cs[off+j]? = some v/\aq (fg w) (c a j) v:=by
 obtain⟨h1,a,h0,h2⟩:=h _ enc w sp held n _ y hy.1;refine⟨a,mono _ _ a hy.2 h0,λj hj=>?_⟩;obtain⟨v,h3,h4⟩:=h2 j hj;refine⟨v, ?_,h4⟩;rw[Ih]at h3;split at h3
 .rwa [Qo]at h3
 cases h3
def b9q {H:Type} {enc:TypeId×Value->H} {W:World} {v:Value} {d:DataW H} {ps:List MemPlace} (h:Nk P t 1 c B) (hc:v.cells.toList=[v]) (hd:DataW.Trod enc P W 0 (λ_=>true) true t v d ps):∃a:α,B (Rows.uptoBulk d) a/\aq (fg W) (c a 0) v:=by
 obtain⟨fuel,hf⟩:=hd;obtain⟨_,a,h0,ha⟩:=h _ enc W _ _ fuel _ _ hf;obtain⟨u,hu,hr⟩:=ha 0 Za;rw[hc]at hu;simp only[List.getElem?_cons_zero,Bb]at hu;subst hu;exact⟨a,h0,hr⟩
end
end
section
variable {P:Program}{t e:TypeId}
def b5v {H:Type} {enc:TypeId×Value->H} {w:World} {sp:Nat->Bool} {held:Bool} {fuel:Nat} {cs:List Value} {x:DataW H×List MemPlace} {k:Nat} (ht:P.underlying t=some (.array k e)) (h:DataW.trod enc P w 0 sp held fuel t cs=some x) :
 cs.length=P.cellsOf t/\∃n,∀i,i<k->∃y,DataW.trod enc P w 0 sp held n e ((cs.drop (i*P.cellsOf e)).take (P.cellsOf e))=some y/\Rows.uptoBulk y.1<=Rows.uptoBulk x.1:=by
 obtain⟨xs,n,_,rfl,h1,h2,h3⟩:=DataW.trod_array ht h;refine⟨h1,n,λi hi=>?_⟩;have:=h3 i hi;rw[this];have hi:i<xs.length:=by omega
 exact⟨_,Hc hi,CR (List.mem_map_of_mem (De hi))⟩
def qS {m:Dc} {c:Nat->PV}:∀{n:Nat} {us:List Value} {k:Nat},us.length=n->(∀j,j<n->∃v,us[j]? = some v/\aq m (c (k+j)) v)->fv m ((List.range' k n).map c) us
 |0,[],_,_,_=>trivial
 | n+1,u::us,k,hl,h=>by
  obtain⟨v,h1,h2⟩:=h 0 Za;simp only[List.getElem?_cons_zero,Bb]at h1;subst h1;refine⟨h2,qS (n:=n) (k:=k+1) (by simpa using hl) λj hj=>?_⟩;obtain⟨v,h3,h4⟩:=h (j+1) Za;refine⟨v,by simpa using h3, ?_⟩;rwa [show k+1+j=k+(j+1) by omega]
 |0,_::_,_,h,_=>by cases h
 |_+1,[],_,h,_=>by cases h
def KR {H:Type} {enc:TypeId×Value->H} {W:World} {cs:Array Value} {d:DataW H} {ps:List MemPlace} {n:Nat} {α:Type} {c:α->Nat->PV} {B:Nat->α->Prop} (h:Nk P t n c B) (hd:DataW.Trod enc P W 0 (λ_=>true) true t (.agg cs) d ps) :
 ∃a:α,B (Rows.uptoBulk d) a/\mr (fg W) (.agg ((List.range' 0 n).map (c a))) (.agg cs):=by
 obtain⟨fuel,hf⟩:=hd;obtain⟨hl,a,h0,ha⟩:=h _ enc W _ _ fuel _ _ hf;refine⟨a,h0,cs.toList,by simp,qS hl λj hj=>?_⟩;rw[Oe];exact ha j hj
end
end
section
open Go.RowKit
section
variable {w0:World}{nt:Nat}{c:Pc}{s:S}{a:Act}{w:World}
section
variable {g:Nat->Nat->Nat->PV}{m:Nat->Nat}
theorem uV {base:Nat} {o:av} {id:Nat} {e et:TypeId} {es:Nat} (hes:0<es) (hb:c.blk id=Cg) (hv:∃ad,c.own id=.slice ad 0 0):eq base c o w id (.nest e et es 0 m g none):=by
 obtain⟨ad,hv⟩:=hv;refine⟨hes,Zb _,λi hi=>Ea hi (Ud i),λb=>?_,λi b hi=>Ea hi (Ud i),λi hi=>Ea hi (Ud i), .inl ⟨rfl,ad,hv⟩⟩;rw[hb,hv];constructor
 .exactλh=>h.elim
 rintro(h|⟨i,hi,_⟩)
 .cases ad<;>simp[ay]at h
 grind
variable {f:Nat->Nat->PV}
def zg {imm:Dc} {s':Nat} {u:Value} (h:aq imm (.sl 0 s' true f) u):∃ad,u=.slice ad 0 0:=by
 obtain⟨ad,cap,rfl,_,_,hc,_⟩:=h;simp_all
def ju(m:Nat->Nat)(n k:Nat):Nat->Nat:=λi=>bif Nat.beq i n then k else m i
def om(g:Nat->Nat->Nat->PV)(n:Nat)(f:Nat->Nat->PV):Nat->Nat->Nat->PV:=λi=>bif Nat.beq i n then f else g i
def lB(m:Nat->Nat)(n k:Nat):ju m n k n=k:=by simp[ju]
def wc {n k i:Nat} (h:i≠n):ju m n k i=m i:=by
 have:Nat.beq i n=false:=by rw[Ie];exactλhb=>h (Vi hb)
 simp[ju,this]
def lI(g:Nat->Nat->Nat->PV)(n:Nat)(f:Nat->Nat->PV):om g n f n=f:=by simp[om]
def wJ {n i:Nat} (h:i≠n):om g n f i=g i:=by
 have:Nat.beq i n=false:=by rw[Ie];exactλhb=>h (Vi hb)
 simp[om,this]
def VW{v:Value}{b:Nat}(h:ay v=some b):d5 v=some b:=by
 unfold ay at h;split at h
 .split at h
  .cases h
  exact h
 cases h
theorem ah.absorb(h:ah w0 nt c s a w){id id' k n:Nat}{e et:TypeId}{es:Nat}(ho:s.o id=some (.nest e et es n m g (some (id',k))))(ho':s.o id'=some (.arr true es et k f)):
 ∃c',c'.old=c.old/\ah w0 nt c' ((s.setO id (some (.nest e et es (n+1) (ju m n k) (om g n f) none))).setO id' none) a w:=by
 have hne:id'≠id:=by rintro rfl;rw[ho]at ho';cases ho'
 have hnk:lh 0 c s.o w id e et es n m g (some (id',k)):=h.objs id _ ho;obtain⟨q0,q1,q5⟩:=h.objs id' _ ho'
 have We:∀b,ay (c.own id')=some b->c.blk id' b:=λb hb=>by
  rcases q5 with⟨q6,_⟩|⟨q7,_,q8⟩
  .rw[q6];exact VW hb
  obtain⟨ad,cap,r1,_,_,r4,_⟩:=q8
  rcases q7 with q7|q7
  .cases q7
  subst q7;rw[r1,r4 rfl]at hb;cases ad<;>simp[ay]at hb
 have hrow:(k=0/\∃a,c.own id'=.slice a 0 0)\/∃ys,w.ownsRow 0 et es (c.own id') k ys/\∀r j,r<k->j<es->∃x,ys[r*es+j]? = some x/\aq c.imm (f r j) x:=by
  rcases q5 with⟨q6,xs,q7,q8⟩|⟨q6,q7,q8⟩
  .grind
  rcases q6 with q6|q6
  .cases q6
  subst q6;exact .inl ⟨rfl,zg q8⟩
 let o':av:=((s.setO id (some (.nest e et es (n+1) (ju m n k) (om g n f) none))).setO id' none).o
 have oid:o' id=some (.nest e et es (n+1) (ju m n k) (om g n f) none):=by
  show(if id=id' then _ else if id=id then _ else _)=_
  grind
 have oid':o' id'=none:=by
  show(if id'=id' then _ else _)=_
  grind
 have oelse:∀q,q≠id->q≠id'->o' q=s.o q:=λq h1 h2=>by
  show(if q=id' then _ else if q=id then _ else _)=_
  grind
 let c':Pc:={ old:=c.old,imm:=c.imm,tab:=c.tab,own:=c.own,blk:=λq=>if q=id then(λb=>c.blk id b\/ay (c.own id')=some b)else c.blk q,rows:=λq=>if q=id then(λi=>if i=n then c.own id' else c.rows id i)else c.rows q }
 have rlt:∀i,i<n->c'.rows id i=c.rows id i:=λi hi=>by
  grind
 have rn:c'.rows id n=c.own id':=by
  grind
 have hevo:∀q,Vc c s.o c' o' q:=λq=>by
  by_cases h1:q=id
  .subst h1
   refine .inr (.inr ⟨_,_,1,e,n+1,n+1,ho,rfl,oid,rfl,Yb _,λ_=>rfl,λe2 et2 es2 n2 m2 g2 pd2 hb2=>?_⟩);cases hb2;refine⟨_,_,_,_,_,_,rfl,Hm _,λi hi=>⟨by rw[wc Za];exact Yb _,λ_=>rlt i hi⟩⟩
  by_cases h2:q=id'
  .subst h2;exact .inl oid'
  exact Vc.of_same (oelse q h1 h2) rfl (by show(if q=id then _ else _)=_;rw[Ca h1])
 have bid:∀q,q≠id->c'.blk q=c.blk q:=λq hq=>by show(if q=id then _ else _)=_;rw[Ca hq]
 have bself:∀b,c'.blk id b<->(c.blk id b\/ay (c.own id')=some b):=λb=>by
  grind
 have hold:∀q ob,o' q=some ob->q≠id->q≠id'/\s.o q=some ob:=λq ob hq h1=>by
  grind
 have whose:∀b,c'.blk id b->c.blk id b\/c.blk id' b:=λb hb=>((bself b).1 hb).imp (λz=>z) (We b);refine⟨c',rfl,⟨h.defers,h.size,h.below,λd x hx=>(h.tmps d x hx).evo (Dc.le.refl c.imm) λq _=>hevo q,λq ob hq=>?_,λq q' ob ob' b hq hq' hb hb'=>?_,h.imm,λq ob b hq hb=>?_,h.was,h.frm,λq ob b hq hb=>?_,λq hq=>(h.fixed q hq).trans (hevo q)⟩⟩
 .by_cases h1:q=id
  .subst h1
   have hq:o' q=some ob:=hq;rw[oid]at hq;cases hq;have hlen:=hnk.len;simp only[ng]at hlen;refine⟨hnk.pos,hlen,λi hi=>?_,λb=>?_,λi b hi hb=>?_,λi hi=>?_, .inr ?_⟩
   .by_cases hin:i=n
    .subst hin;rw[lB];exact q1
    rw[wc hin];exact hnk.lens i Za
   .rw [bself,hnk.blks]
    constructor
    .rintro ((h2|⟨i,hi,h2⟩)|h2)
     .exact .inl h2
     .grind
     exact .inr ⟨n,by omega,by rw[rn];exact h2⟩
    grind
   .have far:∀b,ay (c.own id')=some b->¬c.blk q b:=λb h2 h3=>hne (h.inj id' q _ _ b ho' ho (We b h2) h3)
    by_cases hin:i=n
    .subst hin
     rw[rn]at hb;refine⟨λh2=>far b hb ((hnk.blks b).2 (.inl h2)),λi' hi' h2=>?_⟩;by_cases hin':i'=i
     .exact hin'
     rw[rlt i' Za]at h2;exact(far b hb ((hnk.blks b).2 (.inr ⟨i',by omega,h2⟩))).elim
    rw[rlt i Za]at hb;obtain⟨h2,h3⟩:=hnk.apart i b Za hb;refine⟨h2,λi' hi' h4=>?_⟩;by_cases hin':i'=n
    .subst hin'
     rw[rn]at h4;exact(far b h4 ((hnk.blks b).2 (.inr ⟨i,by omega,hb⟩))).elim
    grind
   .by_cases hin:i=n
    .subst hin
     rw[rn,lB,lI];exact hrow
    rw[rlt i Za,wc hin,wJ hin];exact hnk.row i Za
   rcases hnk.top with⟨h2,_⟩|⟨xs,t1,t2,t3⟩
   .simp[ng]at h2
   refine⟨xs,t1,λi hi=>?_,λp hp=>by cases hp⟩;by_cases hin:i=n
   .subst hin
    obtain⟨x,hx,Be⟩:=t3 _ rfl;obtain⟨_,_,hr3⟩:=Be;rw[rn,hx,(hr3 _ _ _ _ ho' rfl).2 rfl]
   grind
  obtain⟨h2,h3⟩:=hold q ob hq h1;exact(h.objs q ob h3).keep (Dc.le.refl c.imm) rfl (bid q h1) (λj _=>hevo j) (λb _=>rfl) (by show(if q=id then _ else _)=_;rw[Ca h1])
 .by_cases h1:q=id
  .by_cases h2:q'=id
   .rw[h1,h2]
   obtain⟨h3,h4⟩:=hold q' ob' hq' h2;rw[bid q' h2]at hb';subst h1
   rcases whose b hb with h5|h5
   .exact h.inj q q' _ _ b ho h4 h5 hb'
   exact(h3 (h.inj q' id' _ _ b h4 ho' hb' h5)).elim
  obtain⟨h3,h4⟩:=hold q ob hq h1;rw[bid q h1]at hb;by_cases h2:q'=id
  .subst h2
   rcases whose b hb' with h5|h5
   .exact h.inj q q' _ _ b h4 ho hb h5
   exact(h3 (h.inj q id' _ _ b h4 ho' hb h5)).elim
  obtain⟨h5,h6⟩:=hold q' ob' hq' h2;rw[bid q' h2]at hb';exact h.inj q q' _ _ b h4 h6 hb hb'
 .by_cases h1:q=id
  .subst h1
   rcases whose b hb with h5|h5
   .exact h.sep q _ b ho h5
   exact h.sep id' _ b ho' h5
  rw[bid q h1]at hb;exact h.sep q ob b (hold q ob hq h1).2 hb
 by_cases h1:q=id
 .subst h1
  rcases whose b hb with h5|h5
  .exact h.fsep q _ b ho h5
  exact h.fsep id' _ b ho' h5
 rw[bid q h1]at hb;exact h.fsep q ob b (hold q ob hq h1).2 hb
def Cr(es:Nat)(m:Nat->Nat)(g:Nat->Nat->Nat->PV):Nat->Nat->PV:=λi _=>.sl (m i) es false (g i)
end
open Classical in
noncomputable def Gd (c:Pc) (w:World) (id n:Nat):Dc:=λb=>if ∃i,i<n/\ay (c.rows id i)=some b then w.heap[b]? else c.imm b
theorem ah.thin(h:ah w0 nt c s a w){id n:Nat}{e et:TypeId}{es:Nat}{m:Nat->Nat}{g:Nat->Nat->Nat->PV}(ho:s.o id=some (.nest e et es n m g none)) :
 ∃c',c'.old=c.old/\ah w0 nt c' (s.setO id (some (.arr true 1 e n (Cr es m g)))) a w:=by
 have hnk:lh 0 c s.o w id e et es n m g none:=h.objs id _ ho;have hin:∀b,(∃i,i<n/\ay (c.rows id i)=some b)->c.blk id b:=λb hb=>(hnk.blks b).2 (.inr hb)
 have hle:Dc.le c.imm (Gd c w id n):=λb ob hb=>by
  unfold Gd;by_cases hk:∃i,i<n/\ay (c.rows id i)=some b
  .rw[h.sep id _ b ho (hin b hk)]at hb;cases hb
  grind
 let ob':a8:=.arr true 1 e n (Cr es m g)
 let bk:Nat->Prop:=λb=>ay (c.own id)=some b
 let c':Pc:={ old:=c.old,imm:=Gd c w id n,tab:=c.tab.mono hle,own:=c.own,blk:=λq=>if q=id then bk else c.blk q,rows:=c.rows }
 have oid:(s.setO id (some ob')).o id=some ob':=by show(if id=id then _ else _)=_;rw[Ba rfl]
 have oelse:∀q,q≠id->(s.setO id (some ob')).o q=s.o q:=λq hq=>by show(if q=id then _ else _)=_;rw[Ca hq]
 have hevo:∀q,Vc c s.o c' (s.setO id (some ob')).o q:=λq=>by
  by_cases h1:q=id
  .subst h1
   exact .inr (.inr ⟨_, .arr true 1 e n (Cr es m g),1,e,n,n,ho,rfl,oid,rfl,Yb _,λ_=>rfl,λ_ _ _ _ _ _ _ hb=>by cases hb⟩)
  exact Vc.of_same (oelse q h1) rfl rfl
 have bid:∀q,q≠id->c'.blk q=c.blk q:=λq hq=>by show(if q=id then _ else _)=_;rw[Ca hq]
 have bself:c'.blk id=bk:=by show(if id=id then _ else _)=_;rw[Ba rfl]
 have whose:∀b,c'.blk id b->c.blk id b:=λb hb=>by
  rw[bself]at hb;exact(hnk.blks b).2 (.inl hb)
 have hrowP:∀i,i<n->aq (Gd c w id n) (.sl (m i) es false (g i)) (c.rows id i):=λi hi=>by
  obtain⟨ad,cap,q1,q2,q3⟩:=oV (h.objs id _ ho) hi;refine⟨ad,cap,q1,q2,q3,(λhh=>by cases hh),λhm=>?_⟩;obtain⟨b,cap',ys,r1,r2,_,r3⟩:=CJ (h.objs id _ ho) hi hm;rw[q1]at r1;simp only[Ka,true_and]at r1;obtain⟨rfl,rfl⟩:=r1;refine⟨b,0,rfl,λr j hr hj=>?_⟩;obtain⟨x,_,hx,Be⟩:=r3 r j hr hj;refine⟨x, ?_,aq.mono hle Be⟩;rw[Oe];unfold gz Gd;rw[Ba ⟨i,hi,r2⟩];unfold World.cell? at hx
  grind
 refine⟨c',rfl,⟨h.defers.keep (λ_ _=>rfl) (λD hD hd=>?_),h.size,h.below,λd x hx=>(h.tmps d x hx).evo hle λq _=>hevo q,λq ob hq=>?_,λq q' ob ob2 b hq hq' hb hb'=>?_,λb ob hb=>?_,λq ob b hq hb=>?_,λb hb=>?_,h.frm,λq ob b hq hb=>?_,λq hq=>(h.fixed q hq).trans (hevo q)⟩⟩
 .show Gd c w id n D=none
  unfold Gd
  rw [Ca λhk=>by
   obtain⟨x1,hc,hdt⟩:=(h.objs id _ ho).data (hin D hk);rw[hd]at hc;cases hc
   cases hdt]
  exact hD
 .by_cases h1:q=id
  .subst h1
   rw[oid]at hq;cases hq;refine⟨Nat.one_pos,hnk.len, ?_⟩
   have hplain:n=0/\(∃ad,c.own q=.slice ad 0 0)->(c'.blk q=fq (c.own q)/\∃xs,w.ownsRow 0 e 1 (c.own q) n xs/\∀i j,i<n->j<1->∃x,xs[i*1+j]? = some x/\aq c'.imm (Cr es m g i j) x) \/
    ((true=false\/n=0)/\c'.blk q=Cg/\aq c'.imm (.sl n 1 true (Cr es m g)) (c.own q)):=by
    rintro⟨rfl,ad,hv⟩;refine .inr ⟨.inr rfl, ?_, ?_⟩
    .rw [bself]
     funext b;show(ay (c.own q)=some b)=False;rw[hv];cases ad<;>simp[ay]
    rw[hv];exact⟨ad,0,rfl,Yb _,Zb _,λ_=>rfl,λhh=>Ea hh (Pl 0)⟩
   rcases hnk.top with⟨h2,h3⟩|⟨xs,t1,t2,_⟩
   .grind
   have t1:w.ownsRow 0 e 1 (c.own q) n xs:=t1
   rcases gh t1 with r0|⟨b,cap,rv,rb⟩
   .grind
   refine .inl ⟨?_,xs,t1,λi j hi hj=>?_⟩
   .rw [bself]
    funext b';show(ay (c.own q)=some b')=(d5 (c.own q)=some b');rw[rb,rv];rfl
   obtain rfl:j=0:=by omega
   exact⟨_,by simpa using t2 i hi,hrowP i hi⟩
  rw[oelse q h1]at hq;exact(h.objs q ob hq).keep hle rfl (bid q h1) (λj _=>hevo j) (λb _=>rfl) rfl
 .by_cases h1:q=id
  .by_cases h2:q'=id
   .rw[h1,h2]
   rw[oelse q' h2]at hq';rw[bid q' h2]at hb';subst h1;exact h.inj q q' _ _ b ho hq' (whose b hb) hb'
  rw[oelse q h1]at hq;rw[bid q h1]at hb;by_cases h2:q'=id
  .subst h2
   exact h.inj q q' _ _ b hq ho hb (whose b hb')
  rw[oelse q' h2]at hq';rw[bid q' h2]at hb';exact h.inj q q' _ _ b hq hq' hb hb'
 .have hb:Gd c w id n b=some ob:=hb
  unfold Gd at hb;split at hb
  .exact hb
  exact h.imm b ob hb
 .show Gd c w id n b=none
  unfold Gd;by_cases h1:q=id
  .subst h1
   rw[bself]at hb;rw[Ca λ⟨i,hi,hk⟩=>(hnk.apart i b hi hk).1 hb];exact h.sep q _ b ho ((hnk.blks b).2 (.inl hb))
  rw[oelse q h1]at hq;rw[bid q h1]at hb;rw[Ca λhk=>h1 (h.inj q id _ _ b hq ho hb (hin b hk))];exact h.sep q ob b hq hb
 .show Gd c w id n b=c.old.1 b
  unfold Gd;rw[Ca λhk=>hb (h.fsep id _ b ho (hin b hk))];exact h.was b hb
 by_cases h1:q=id
 .subst h1
  exact h.fsep q _ b ho (whose b hb)
 rw[oelse q h1]at hq;rw[bid q h1]at hb;exact h.fsep q ob b hq hb
end
section
variable {ro:Option Nat}{P:Program}{nt:Nat}{st:Qb}{Q:Exit->Qb->Prop}
theorem azm {c:Code} (d id:Nat) {s':Nat} {f':Nat->Nat->PV} (e et:TypeId) (es:Nat) (m:Nat->Nat) (g:Nat->Nat->Nat->PV) (hs:0<es) (hd:bo st.t d=some (bu (.sl 0 s' true f'))) (hn:qb id st=true)
 (h:HW (ro:=ro) P nt c ⟨(d,some (.v (.one (.ref id 0))))::st.t,(id,some (.nest e et es 0 m g none))::st.o⟩ Q):HW (ro:=ro) P nt c st Q:=by
 obtain⟨hnm,hno⟩:=jd hn;refine Cu ⟨st.t,(id,some (.nest e et es 0 m g none))::st.o⟩ d (.v (.one (.ref id 0))) (λw0 m0 a w hr=>?_) h;obtain⟨cc,hold,Db⟩:=hr;have hx:aq cc.imm (.sl 0 s' true f') (a.tmps.getD d undef):=Db.tmps d _ hd;have hfresh:=Db.fresh id hnm hno (.nest e et es 0 m g none) w (a.tmps.getD d undef) Cg (Wf.refl w none) (λb hb=>hb.elim) (uV hs Ec (by simpa using zg hx));refine⟨_, ?_,by rw[ip];exact hfresh, ?_⟩
 .exact hold
 rw[ip];refine⟨aq.oneCell hx,λl=>by simp[S.setO],λob1 s1 e1 n1 ho hd1=>?_⟩
 grind
section
variable {g:Nat->Nat->Nat->PV}
theorem qU {c:Code} (id id':Nat) {k n:Nat} {e et:TypeId} {es:Nat} {m:Nat->Nat} {f:Nat->Nat->PV} (ho:bo st.o id=some (.nest e et es n m g (some (id',k)))) (ho':bo st.o id'=some (.arr true es et k f)) (h:HW (ro:=ro) P nt c ⟨st.t,(id',none)::(id,some (.nest e et es (n+1) (ju m n k) (om g n f) none))::st.o⟩ Q):HW (ro:=ro) P nt c st Q:=λw0 m0 a w hr=>by
 obtain⟨cc,hold,Db⟩:=hr;obtain⟨c',h1,h2⟩:=Db.absorb ho ho';refine h w0 m0 a w ⟨c',h1.trans hold, ?_⟩;have e1:=w9 ⟨st.t,(id,some (.nest e et es (n+1) (ju m n k) (om g n f) none))::st.o⟩ id';rw[ip]at e1
 grind
def UQ {c:Code} (id:Nat) {n:Nat} {e et:TypeId} {es:Nat} {m:Nat->Nat} (ho:bo st.o id=some (.nest e et es n m g none)) (h:HW (ro:=ro) P nt c ⟨st.t,(id,some (.arr true 1 e n (Cr es m g)))::st.o⟩ Q):HW (ro:=ro) P nt c st Q:=λw0 m0 a w hr=>by
 obtain⟨cc,hold,Db⟩:=hr;obtain⟨c',h1,h2⟩:=Db.thin ho;refine h w0 m0 a w ⟨c',h1.trans hold, ?_⟩;rw[ip];exact h2
end
end
section
variable {f':Nat->Nat->PV}
theorem ae1 {nt:Nat} {st:Qb} {w0:World} {m0:Wm} {a:Act} {w:World} (bx off id:Nat) {s':Nat} {l:List HV} (e et:TypeId) (es:Nat) (m:Nat->Nat) (g:Nat->Nat->Nat->PV) (hs:0<es) (hb:bo st.o bx=some (.box l)) (hl:l[off]? = some (.p (.sl 0 s' true f'))) (hn:qb id st=true) (hne:Nat.beq bx id=false) (hr:Sf w0 m0 nt st.den a w):Sf w0 m0 nt (Qb.den ⟨st.t,(bx,some (.box (bj l off [.ref id 0])))::(id,some (.nest e et es 0 m g none))::st.o⟩) a w:=by
 obtain⟨hnm,hno⟩:=jd hn;obtain⟨cc,hold,Db⟩:=hr;have hbi:bx≠id:=by rintro rfl;simp at hne
 obtain⟨b0,C0,e0,p1,p2,p3,p4,p5⟩:=Db.objs bx _ hb;obtain⟨u,hu,hur⟩:=p5.get off _ hl;have hx:aq cc.imm (.sl 0 s' true f') u:=hur;have hfresh:=Db.fresh id hnm hno (.nest e et es 0 m g none) w u Cg (Wf.refl w none) (λb hb=>hb.elim) (uV hs Ec (by simpa using zg hx));rw[<- ip]at hfresh
 have hb':(Qb.den ⟨st.t,(id,some (.nest e et es 0 m g none))::st.o⟩).o bx=some (.box l):=by
  simp only[Qb.den,b9,hbi,Na];exact hb
 have hevo:∀(c1:Pc),c1.own=(λk=>if k=id then u else cc.own k)->Vc { old:=cc.old,imm:=cc.imm,tab:=cc.tab,own:=λk=>if k=id then u else cc.own k,blk:=λk=>if k=id then Cg else cc.blk k,rows:=cc.rows } (Qb.den ⟨st.t,(id,some (.nest e et es 0 m g none))::st.o⟩).o c1 ((Qb.den ⟨st.t,(id,some (.nest e et es 0 m g none))::st.o⟩).setO bx (some (.box (bj l off [.ref id 0])))).o bx:=λc1 h1 =>
  .inr (.inl ⟨l,bj l off [.ref id 0],hb',by simp[S.setO],by rw[h1]⟩)
 have hown:(λk=>if k=bx then(λk=>if k=id then u else cc.own k) bx else(λk=>if k=id then u else cc.own k) k)=λk=>if k=id then u else cc.own k:=by
  grind
 have hw:=hfresh.write bx (.box l) hb' (.box (bj l off [.ref id 0])) w ((λk=>if k=id then u else cc.own k) bx) ((λk=>if k=id then Cg else cc.blk k) bx) none (Wf.refl w _) (λ_ e=>by cases e) (hevo _ (by exact hown)) (λb hb=>.inl hb) (by
  refine⟨b0,C0,e0,by simpa [hbi]using p1,by simpa [hbi]using p2,p3,p4, ?_⟩;have hoff:off<l.length:=(On.1 hl).1;have hcl:=p5.length;refine b7.of_get ?_ λk x u' hx' hu'=>?_
  .simp only[bj,Uc,Ae,Ck,Yk];omega
  have hx2:=hx';unfold bj at hx2;rw[dt l [HV.ref id 0] off k Uh]at hx2;by_cases hk:k=off
  .subst hk
   simp at hx2;subst hx2;rw[hu]at hu';simp only[Bb]at hu';subst hu';refine⟨aq.oneCell hx,λl2=>by simp[S.setO,Qb.den,b9,Ne.symm hbi],λob1 s1 e1 n1 ho hd1=>?_⟩
   grind
  rw[Ca Uh]at hx2;obtain⟨u2,hu2,hr2⟩:=p5.get k x hx2;rw[hu']at hu2;simp only[Bb]at hu2;subst hu2;refine bc.evo (c:=cc) (o:=st.den.o) (Dc.le.refl cc.imm) (λj hj=>?_) hr2
  have hji:j≠id:=by
   rintro rfl;exact hnm.2.1 bx _ hb ⟨x,List.mem_of_getElem? hx2,hj⟩
  by_cases hjb:j=bx
  .subst hjb;exact .inr (.inl ⟨l,bj l off [.ref id 0],hb,by simp[S.setO],by simp[hji]⟩)
  exact Vc.of_same (by simp[S.setO,hjb,Qb.den,b9,hji]) (by simp[hjb,hji]))
 have e:Qb.den ⟨st.t,(bx,some (.box (bj l off [.ref id 0])))::(id,some (.nest e et es 0 m g none))::st.o⟩=(Qb.den ⟨st.t,(id,some (.nest e et es 0 m g none))::st.o⟩).setO bx (some (.box (bj l off [.ref id 0]))):=by
  unfold Qb.den S.setO;simp only[S.mk.injEq,true_and];funext k;simp only[b9]
 rw[e];exact⟨_,(by exact hold),hw⟩
def aih{ro:Option Nat}{P:Program}{nt:Nat}{st:Qb}{Q:Exit->Qb->Prop}{c:Code}(bx off id:Nat){s':Nat}{l:List HV}(e et:TypeId)(es:Nat)(m:Nat->Nat)(g:Nat->Nat->Nat->PV)(hs:0<es)(hb:bo st.o bx=some (.box l))(hl:l[off]? = some (.p (.sl 0 s' true f')))(hn:qb id st=true)(hne:Nat.beq bx id=false)(h:HW (ro:=ro) P nt c ⟨st.t,(bx,some (.box (bj l off [.ref id 0])))::(id,some (.nest e et es 0 m g none))::st.o⟩ Q):HW (ro:=ro) P nt c st Q:=λw0 m0 a w hr=>h w0 m0 a w (ae1 bx off id e et es m g hs hb hl hn hne hr)
end
end
section
abbrev Rw:=List Int
def He:Rw->Rw->Bool
 | [],[]=>false
 | [],_::_=>true
 |_::_,[]=>false
 |x::a,y::b=>if x=y then He a b else decide (x<y)
def xf:∀a:Rw,He a a=false
 | []=>rfl
 |x::a=>by unfold He;rw[Ba rfl];exact xf a
def l6:∀{a b c:Rw},He a b=true->He b c=true->He a c=true
 | [],[],_,h,_=>by cases h
 | [],_::_,[],_,k=>by cases k
 | [],_::_,_::_,_,_=>rfl
 |_::_,[],_,h,_=>by cases h
 |_::_,_::_,[],_,k=>by cases k
 | x :: a,y::b,z::c,h,k=>by
  unfold He at *;by_cases hxy:x=y
  .rw [Ba hxy]at h
   subst hxy;by_cases hyz:x=z
   .rw [Ba hyz]at k ⊢
    exact l6 h k
   rw[Ca hyz]at k ⊢;exact k
  rw[Ca hxy]at h;have h:=Ga h;by_cases hyz:y=z
  .subst hyz
   rw[Ca hxy];exact Fa h
  rw[Ca hyz]at k;have k:=Ga k;rw[Ca Za];exact Fa Za
def zq:∀{a b:Rw},a≠b->He a b=true\/He b a=true
 | [],[],h=>Ea rfl h
 | [],_::_,_=>.inl rfl
 |_::_,[],_=>.inr rfl
 | x :: a,y::b,h=>by
  unfold He;by_cases hxy:x=y
  .subst hxy
   rw[Ba rfl,Ba rfl];exact zq λe=>h (by rw[e])
  rw[Ca hxy,Ca (Ne.symm hxy),Ia,Ia];omega
def zC:Int->Nat->PV:=λz _=>.raw (.int .i64 z)
abbrev zl(r:Rw):PV:=Ff 1 zC r
def rC:Rw->Nat->PV:=λr _=>zl r
abbrev rl(l:List Rw):PV:=Ff 1 rC l
def b4z {a b:Rw} (h:He a b=true):He b a=false:=by
 rw[Ie];intro k;have:=l6 h k;rw[xf]at this;cases this
def ou(l:List Rw):Prop:=l.Pairwise λa b=>He a b=true
def xv:∀{l k:List Rw},ou l->ou k->(∀x,x∈l<->x∈k)->l=k
 | [],[],_,_,_=>rfl
 | [],y::k,_,_,h=>Ea ((h y).2 (Yh ..)) Ec
 |x::l,[],_,_,h=>Ea ((h x).1 (Yh ..)) Ec
 | x :: l,y::k,hl,hk,h=>by
  obtain⟨h1,h2⟩:=Hh.1 hl;obtain⟨k1,k2⟩:=Hh.1 hk
  have e:x=y:=by
   rcases Jd.1 ((h x).1 (Yh ..))with e|hx
   .exact e
   rcases Jd.1 ((h y).2 (Yh ..))with e|hy
   .exact e.symm
   have:=b4z (k1 x hx);rw[h1 y hy]at this;cases this
  subst e;congr 1;refine xv h2 k2 λz=>?_;constructor
  .intro hz
   rcases Jd.1 ((h z).1 (Jh _ hz))with e|hz'
   .subst e
    have:=h1 z hz;rw[xf]at this;cases this
   exact hz'
  intro hz
  rcases Jd.1 ((h z).2 (Jh _ hz))with e|hz'
  .subst e
   have:=k1 z hz;rw[xf]at this;cases this
  exact hz'
def kf (x:Rw):List Rw->List Rw
 | []=>[x]
 |y::l=>if x=y then y::l else if He x y=true then x::y::l else y::kf x l
def OB{x z:Rw}:∀{l:List Rw},z∈kf x l<->z=x\/z∈l
 | []=>by simp[kf]
 | y :: l=>by
  unfold kf;split
  .rename_i e
   subst e;simp
  split
  .simp
  rw[Jd,OB,Jd];constructor
  .rintro(h|h|h)<;>simp[h]
  rintro(h|h|h)<;>simp[h]
def tF{x:Rw}:∀{l:List Rw},ou l->ou (kf x l)
 | [],_=>by simp[kf,ou]
 | y :: l,h=>by
  obtain⟨h1,h2⟩:=Hh.1 h;unfold kf;split
  .exact h
  split
  .rename_i hxy
   refine Hh.2 ⟨λz hz=>?_,h⟩
   rcases Jd.1 hz with rfl|hz
   .exact hxy
   exact l6 hxy (h1 z hz)
  rename_i hne hxy;refine Hh.2 ⟨λz hz=>?_,tF h2⟩
  rcases OB.1 hz with rfl|hz
  .exact(zq hne).resolve_left hxy
  exact h1 z hz
def ax(l:List Rw):List Rw:=l.foldl (λo x=>kf x o) []
def uK:∀{l o:List Rw},ou o->ou (l.foldl (λo x=>kf x o) o)/\∀z,z∈l.foldl (λo x=>kf x o) o<->z∈o\/z∈l
 | [],o,h=>⟨h,λz=>by simp⟩
 | x::l,o,h=>by
  obtain⟨h1,h2⟩:=uK (l:=l) (tF (x:=x) h);refine⟨h1,λz=>?_⟩;show z∈l.foldl (λo x=>kf x o) (kf x o)<->_;rw[h2 z,OB,Jd];constructor
  .rintro((h|h)|h)<;>simp[h]
  rintro(h|h|h)<;>simp[h]
def go(l:List Rw):ou (ax l):=(uK (o:=[]) List.Pairwise.nil).1
section
variable {l:List Rw}
def gw {z:Rw}:z∈ax l<->z∈l:=by
 show z∈l.foldl (λo x=>kf x o) []<->_;rw[(uK (l:=l) (o:=[]) List.Pairwise.nil).2 z];simp
def jS{k:List Rw}(hk:ou k)(h:∀z,z∈k<->z∈l):k=ax l:=xv hk (go l) λz=>by rw[h z,gw]
def mb(l:List Rw)(k:Nat)(r:Rw):List Rw:=l.take k++r::l.drop k
variable {k:Nat}{r:Rw}
def n4(h:k<=l.length):(mb l k r).length=l.length+1:=by simp[mb];omega
def b6f:mb l l.length r=l++[r]:=by simp[mb]
def mF {i:Nat} (h:k<=l.length):(mb l k r)[i]? = if i<k then l[i]? else if i=k then some r else l[i-1]?:=by
 simp only[mb];by_cases h1:i<k
 .rw[Ba h1,Ul Uh,Ih,Ba h1]
 rw[Ca h1,Jk Uh,Ae,Gi h];by_cases h2:i=k
 .subst h2;simp
 rw[Ca h2];obtain⟨d,rfl⟩:∃d,i=k+1+d:=⟨i-k-1,by omega⟩;rw[show k+1+d-k=d+1 by omega,List.getElem?_cons_succ,Qo];congr 1;omega
def zP (h:k<=l.length):(mb l k r).getD k default=r:=by
 rw[Oc,mF h,Ca Za,Ba rfl];rfl
def kV (h0:0<k) (h:k<=l.length):(mb l k r).getD (k-1) default=l.getD (k-1) default:=by
 rw[Oc,mF h,Ba Za,Oc]
def b0c(h0:0<k)(h:k<=l.length):((mb l k r).set k (l.getD (k-1) default)).set (k-1) r=mb l (k-1) r:=by
 apply No;intro i;rw[mF Za,List.getElem?_set,List.getElem?_set,Ni,n4 h,mF h];by_cases h1:k-1=i
 .subst h1
  rw[Ba rfl,Ba Za,Ca Za,Ba rfl]
 rw[Ca h1];by_cases h2:k=i
 .subst h2
  rw[Ba rfl,Ba Za,Ca Za,Ca Za,List.getD,Hc Za];rfl
 rw[Ca h2];by_cases h3:i<k
 .rw[Ba h3,Ba Za]
 rw[Ca h3,Ca Za,Ca Za,Ca Za]
def axv{k' m':Nat}(h0:0<k)(hk:k<=l.length)(hk':k'=k)(hm':m'=k-1){n:Nat}(hn:n=l.length+1){e:TypeId}:
 Ic (.arr true 1 e n (er (er (lf rC (mb l k r)) k' 0 [lf rC (mb l k r) m' 0]) m' 0 [lf rC (mb l k r) k' 0])) (.arr true 1 e n (lf rC (mb l (k-1) r))):=by
 subst hk' hm';rw[<- b0c h0 hk];refine Q9 (λh=>h) (by rw[n4 hk];exact hn) (by rw[n4 hk];omega) (by rw[n4 hk];omega) rfl rfl (λj hj=>?_) (λj hj=>?_)
 .obtain rfl:j=0:=by omega
  exact Va (by show rC ((mb l k' r).getD (k'-1) default) 0=_;rw[kV h0 hk])
 obtain rfl:j=0:=by omega
 exact Va (by show rC ((mb l k' r).getD k' default) 0=_;rw[zP hk])
def NP {k' m':Nat} {b:Bool} (h0:0<k) (hk:k<=l.length) (h:He ((mb l k r).getD k' default) ((mb l k r).getD m' default)=b) (hk':k'=k) (hm':m'=k-1):He r (l.getD (k-1) default)=b:=by
 subst hk' hm';rwa [zP hk,kV h0 hk]at h
def b76 {j:Nat} (h:j<l.length):l.getD j default∈l:=by
 rw[Oc,Hc h];exact De h
def QU(hs:ou l)(hr:r∉l)(hk:k<=l.length)(h1:∀j,k<=j->j<l.length->He r (l.getD j default)=true)(h2:k=0\/¬He r (l.getD (k-1) default)=true):mb l k r=kf r l:=by
 refine xv ?_ (tF hs) λz=>?_
 .unfold ou mb
  rw[Jz];refine⟨hs.sublist (List.take_sublist _ _),Hh.2 ⟨λz hz=>?_,hs.sublist (List.drop_sublist _ _)⟩,λy hy z hz=>?_⟩
  .obtain ⟨j,hj,rfl⟩:=Fg hz
   rw[Ck]at hj;have:=h1 (k+j) Za Za;rwa [Oc,Hc Za,Xh,<- List.getElem_drop]at this
  have hyr:He y r=true:=by
   obtain⟨j,hj,rfl⟩:=Fg hy;rw[Ae]at hj
   rcases h2 with h2|h2
   .omega
   have hk1:k-1<l.length:=by omega
   have hlast:He (l.getD (k-1) default) r=true:=by
    rcases zq (a:=r) (b:=l.getD (k-1) default) (λe=>hr (e▸b76 hk1))with h|h
    .exact Ea h h2
    exact h
   rw[List.getElem_take];by_cases hjk:j=k-1
   .subst hjk
    rwa [Oc,Hc hk1,Xh]at hlast
   refine l6 ?_ hlast;rw[Oc,Hc hk1,Xh];exact Zk.1 hs j (k-1) Za hk1 Za
  rcases Jd.1 hz with rfl|hz
  .exact hyr
  have h3:He r z=true:=by
   obtain⟨j,hj,rfl⟩:=Fg hz;rw[Ck]at hj;have:=h1 (k+j) Za Za;rwa [Oc,Hc Za,Xh,<- List.getElem_drop]at this
  exact l6 hyr h3
 rw[OB];unfold mb;rw[Af,Jd];constructor
 .rintro (h|h|h)
  .exact .inr (List.mem_of_mem_take h)
  .exact .inl h
  exact .inr (List.mem_of_mem_drop h)
 rintro(h|h)
 .exact .inr (.inl h)
 rw[<- Lz k l,Af]at h
 rcases h with h|h
 .exact .inl h
 exact .inr (.inr h)
def wl(hs:ou l)(hr:r∈l):kf r l=l:=xv (tF hs) hs λz=>by
 rw[OB];constructor
 .rintro (rfl|h)
  .exact hr
  exact h
 exact .inr
def fj {i:Nat} (hi:i<l.length):ax (l.take (i+1))=kf (l.getD i default) (ax (l.take i)):=by
 unfold ax;rw[au hi,Oi];rfl
def jT (x:Rw):∀l:List Rw,(kf x l).length<=l.length+1
 | []=>by simp[kf]
 | y::l=>by
  unfold kf;have:=jT x l;split
  .simp
  split
  .simp
  simp only[Zf];omega
def BF(l:List Rw):(ax l).length<=l.length:=by
 have:∀(l o:List Rw),(l.foldl (λo x=>kf x o) o).length<=o.length+l.length:=by
  intro l
  induction l with
  |nil=>intro o;simp
  | cons x l ih =>
   intro o;have h1:=ih (kf x o);have h2:=jT x o;simp only[Im,Zf];omega
 have h:=this l [];simpa [ax]using h
end
end
section
abbrev pZ(r:Rw):PC:=.one (zl r)
abbrev pR(l:List Rw):PC:=.one (rl l)
abbrev pT(n:Int)(l:List Rw):PC:=.agg [.raw (.int .i64 n),rl l]
def bI:∀{a b:Rw} {i:Nat},i<a.length->i<b.length->(∀j,j<i->a.getD j default=b.getD j default)->¬a.getD i default=b.getD i default->He a b=decide (a.getD i default<b.getD i default)
 | [],_,_,h,_,_,_=>by simp at h
 |_::_,[],_,_,h,_,_=>by simp at h
 | x::a,y::b,0,_,_,_,hn=>by
  have:¬x=y:=hn;unfold He;rw[Ca this];rfl
 | x::a,y::b,i+1,ha,hb,h,hn=>by
  have e:x=y:=h 0 Za;unfold He;rw[Ba e];exact bI (by simpa using ha) (by simpa using hb) (λj hj=>h (j+1) Za) hn
def yE:∀{a b:Rw},(∀j,j<a.length->j<b.length->a.getD j default=b.getD j default)->He a b=decide (a.length<b.length)
 | [],[],_=>rfl
 | [],_::_,_=>by simp[He]
 |_::_,[],_=>by simp[He]
 | x::a,y::b,h=>by
  have e:x=y:=h 0 Ec Ec;unfold He;rw[Ba e,yE λj h1 h2=>h (j+1) (by simpa using h1) (by simpa using h2)];simp
def sj(a b:Rw):Int:=if a=b then 0 else if He a b=true then -1 else 1
section
variable {a b:Rw}{i:Nat}
def bby (ha:i<a.length) (hb:i<b.length) (h:∀j,j<i->a.getD j default=b.getD j default) (hn:¬kj (a.getD i default) (b.getD i default)=0):kj (a.getD i default) (b.getD i default)=sj a b:=by
 have hne:¬a.getD i default=b.getD i default:=λe=>hn (by unfold kj;rw[Ca Za,Ca Za]);unfold kj sj;rw[Ca (λe:a=b=>hne (by rw[e])),bI ha hb h hne];simp only[Ja];split
 .rfl
 rw[Ba Za]
def Z5 {a b:Int} (h:kj a b=0):a=b:=by
 unfold kj at h;split at h
 .omega
 split at h<;>omega
def b9f (ha:i<a.length) (hb:¬i<b.length) (h:∀j,j<i->a.getD j default=b.getD j default):(1:Int)=sj a b:=by
 unfold sj;rw[Ca (λe:a=b=>by subst e;omega),yE λj h1 h2=>h j Za,Ca (by simp only[Ja];omega)]
def bar (hl:a.length<b.length) (h:∀j,j<a.length->a.getD j default=b.getD j default):(-1:Int)=sj a b:=by
 unfold sj;rw[Ca (λe:a=b=>by subst e;omega),yE λj h1 h2=>h j h1,Ba (by simp only[Ja];omega)]
def bch (hl:a.length<=b.length) (hl2:¬a.length<b.length) (h:∀j,j<a.length->a.getD j default=b.getD j default):(0:Int)=sj a b:=by
 unfold sj;rw[Ba (ny Za h)]
def cO(h:a.length=b.length)(hI:∀j,j<a.length->decide (a.getD j default=b.getD j default)=true):a=b:=ny h λj hj=>Ga (hI j hj)
def P8{a b:Nat}(h:∀j,j<a->j<b):a<=b:=Fz λe=>Pl _ (h b e)
def ll(a b:Rw)(s:AS):Bool:=decide (∀i:Nat,i<a.length->(bw s (i:Int)=true->a.getD i default=b.getD i default))
def EP{s:AS}(hi:i<a.length)(h:bw s (i:Int)=true)(hn:¬a.getD i default=b.getD i default):ll a b s=false:=Ha λe=>hn (e i hi h)
def Cx{s:AS}(h:∀i:Nat,i<a.length->(bw s (i:Int)=true->a.getD i default=b.getD i default)):ll a b s=true:=Fa h
def oq {s:AS} (h:i<32):bq .and .u32 ((Hb s).fdiv (2^(min i 32))) 1=1<->bw s (i:Int)=true:=by
 rw[<- iD (s:=s) (i:=(i:Int)) Za Za,Ia];rfl
def pz(n:Int)(l:List Rw)(i:Nat):Bool:=decide (((l.getD i default).length:Int)=n)&&!(l.getD i default).any (λx=>decide (x<0))&&(decide (i=0)||He (l.getD (i-1) default) (l.getD i default))
def Bd(n:Int)(l:List Rw):Bool:=decide (0<=n/\n<=16/\l.length<=256)&&decide (∀i,i<l.length->pz n l i=true)
def lH {n:Int} {l:List Rw} (h0:0<=n) (h1:n<=16) (h2:l.length<=256) (h:∀i,i<l.length->pz n l i=true):Bd n l=true:=by
 unfold Bd;rw[Fa (show 0<=n/\n<=16/\l.length<=256 from ⟨h0,h1,h2⟩),Fa h];rfl
def Ix {n:Int} {l:List Rw} (h:¬(0<=n/\n<=16/\l.length<=256)):Bd n l=false:=by
 unfold Bd;rw[Ha h];rfl
def Nt {n:Int} {l:List Rw} (hi:i<l.length) (h:pz n l i=false):Bd n l=false:=by
 unfold Bd;rw[Ha (λe:∀i,i<l.length->pz n l i=true=>by rw[e i hi]at h;cases h),Bool.and_false]
def dz(a b:Rw)(s:AS):Rw:=(List.range b.length).map λ(i:Nat)=>if bw s (i:Int)=true then a.getD i default else b.getD i default
end
end
section
open Go.Proofs
def yZ(l:List Int)(g k:Nat)(caps:Nat->PV)(V:Int->Bool)(hg:goodFn Ab g)(hV:∀x,a6 Ab g (pI x::gu caps k 0) (a7 [pB (V x)])):a6 Ab 271 [pP (zl l),pP (.fn g k caps)] (a7 [pI (Ee V l)]):=by
 refine Nb (nt:=19) func271 ?_;refine cw ?_;refine cj 0 rfl λhn=>?_;refine Tb ?_;refine c6 (ι:=Unit) kn km (λ_i=>⟨[],[]⟩) (λ_i=>Ee V l=-1) ?_ ?_
 ·
  refine Jb ?_;refine aa (ι:=Nat) (ka 0 (ka 1 (ka 7 kn))) km (λi=>⟨[(8,some (vI i))],[]⟩) (λi=>i<=l.length/\(∀j,j<i->V (l.getD j default)=false)) (λi=>l.length-i) (0) (⟨Zb _,aw⟩) kk ?_;rintro i ⟨hi,hI⟩;refine Eb ?_;refine Kb ?_ ?_<;>intro h0
  ·
   refine jz ?_;refine rc rfl rfl rfl rfl rfl rfl hg (hV (l.getD i default)) Ta rfl rfl ?_;refine cn ?_;refine We ?_ ?_<;>intro h1
   .refine Dd ?_;exact⟨Sb (oi (i:=i) Za hI h1).symm,Aa⟩
   refine Eb ?_;refine Rb (i+1) kk ?_;exact⟨by show i+1<=_;omega,al hI (h1)⟩
  refine cg ?_;refine⟨(), ?_, ?_⟩
  .exact p8 λj hj=>hI j Za
  exact⟨Aa,Aa⟩
 rintro _ hj;refine Kc ?_;exact⟨Sb hj.symm,Aa⟩
def tY(l:List Rw)(g k:Nat)(caps:Nat->PV)(V:Rw->Bool)(hg:goodFn Ab g)(hV:∀x,a6 Ab g (pZ x::gu caps k 0) (a7 [pB (V x)])):a6 Ab 233 [pP (rl l),pP (.fn g k caps)] (a7 [pI (Ee V l)]):=by
 refine Nb (nt:=19) func233 ?_;refine cw ?_;refine cj 0 rfl λhn=>?_;refine Tb ?_;refine c6 (ι:=Unit) kn km (λ_i=>⟨[],[]⟩) (λ_i=>Ee V l=-1) ?_ ?_
 ·
  refine Jb ?_;refine aa (ι:=Nat) (ka 0 (ka 1 (ka 7 kn))) km (λi=>⟨[(8,some (vI i))],[]⟩) (λi=>i<=l.length/\(∀j,j<i->V (l.getD j default)=false)) (λi=>l.length-i) (0) (⟨Zb _,aw⟩) kk ?_;rintro i ⟨hi,hI⟩;refine Eb ?_;refine Kb ?_ ?_<;>intro h0
  ·
   refine jz ?_;refine rc rfl rfl rfl rfl rfl rfl hg (hV (l.getD i default)) Ta rfl rfl ?_;refine cn ?_;refine We ?_ ?_<;>intro h1
   .refine Dd ?_;exact⟨Sb (oi (i:=i) Za hI h1).symm,Aa⟩
   refine Eb ?_;refine Rb (i+1) kk ?_;exact⟨by show i+1<=_;omega,al hI (h1)⟩
  refine cg ?_;refine⟨(), ?_, ?_⟩
  .exact p8 λj hj=>hI j Za
  exact⟨Aa,Aa⟩
 rintro _ hj;refine Kc ?_;exact⟨Sb hj.symm,Aa⟩
def yY (l:List Int) (g k:Nat) (caps:Nat->PV) (V:Int->Bool) (hg:goodFn Ab g) (hV:∀x,a6 Ab g (pI x::gu caps k 0) (a7 [pB (V x)])):a6 Ab 255 [pP (zl l),pP (.fn g k caps)] (a7 [pB (l.any V)]):=by
 refine Nb (nt:=9) func255 ?_;refine Wb ?_;refine Fb (Ib func271) (yZ l g k caps V hg hV) ?_;refine Ef ?_;exact⟨Vb w4,Aa⟩
def LY (l:List Rw) (g k:Nat) (caps:Nat->PV) (V:Rw->Bool) (hg:goodFn Ab g) (hV:∀x,a6 Ab g (pZ x::gu caps k 0) (a7 [pB (V x)])):a6 Ab 200 [pP (rl l),pP (.fn g k caps)] (a7 [pB (l.any V)]):=by
 refine Nb (nt:=9) func200 ?_;refine Wb ?_;refine Fb (Ib func233) (tY l g k caps V hg hV) ?_;refine Ef ?_;exact⟨Vb w4,Aa⟩
def iJ:goodFn Ab 202:=Ib func202
def gG(a b:Rw):a6 Ab 202 [pZ a,pZ b] (a7 [pB (decide (a=b))]):=by
 refine Nb (nt:=26) func202 ?_;refine cw ?_;refine cj 0 rfl λhn0=>?_;refine cj 1 rfl λhn1=>?_;refine fy ?_;refine Sc ?_ ?_<;>intro h0
 .refine Kc ?_;exact⟨Vb (Ha λe=>by subst e;omega).symm,Aa⟩
 refine dj ?_;refine c6 (ι:=Unit) kn km (λ_i=>⟨[],[]⟩) (λ_i=>a=b) ?_ ?_
 ·
  refine Jb ?_;refine aa (ι:=Nat) (ka 0 (ka 1 (ka 12 kn))) km (λi=>⟨[(13,some (vI i))],[]⟩) (λi=>i<=a.length/\(∀j,j<i->decide (a.getD j default=b.getD j default)=true)) (λi=>a.length-i) (0) (⟨Zb _,aw⟩) kk ?_;rintro i ⟨hi,hI⟩;refine Eb ?_;refine Kb ?_ ?_<;>intro h1
  ·
   refine Nv ?_;refine Sc ?_ ?_<;>intro h2
   .refine Kc ?_;exact⟨Vb (Ha λe=>by subst e;simp_all).symm,Aa⟩
   refine Eb ?_;refine Rb (i+1) kk ?_;exact⟨by show i+1<=_;omega,al hI (Fa Qg)⟩
  refine cg ?_;refine⟨(), ?_, ?_⟩
  .exact cO Za λj hj=>hI j Za
  exact⟨Aa,Aa⟩
 rintro _ hj;refine Kc ?_;exact⟨Vb (Fa hj).symm,Aa⟩
def NZ(a b:Rw):a6 Ab 125 [pZ a,pZ b] (a7 [pB (decide (a=b))]):=by
 refine Nb (nt:=26) func125 ?_;refine cw ?_;refine cj 0 rfl λhn0=>?_;refine cj 1 rfl λhn1=>?_;refine fy ?_;refine Sc ?_ ?_<;>intro h0
 .refine Kc ?_;exact⟨Vb (Ha λe=>by subst e;omega).symm,Aa⟩
 refine dj ?_;refine c6 (ι:=Unit) kn km (λ_i=>⟨[],[]⟩) (λ_i=>a=b) ?_ ?_
 ·
  refine Eb ?_;refine aa (ι:=Nat) (ka 0 (ka 1 kn)) km (λi=>⟨[(5,some (vI i))],[]⟩) (λi=>i<=a.length/\(∀j,j<i->decide (a.getD j default=b.getD j default)=true)) (λi=>a.length-i) (0) (⟨Zb _,aw⟩) kk ?_;rintro i ⟨hi,hI⟩;refine Wb ?_;refine Kb ?_ ?_<;>intro h1
  ·
   refine qd ?_;refine Sc ?_ ?_<;>intro h2
   .refine Kc ?_;exact⟨Vb (Ha λe=>by subst e;simp_all).symm,Aa⟩
   refine Mb ?_;refine Rb (i+1) kk ?_;exact⟨by show i+1<=_;omega,al hI (Fa Qg)⟩
  refine cg ?_;refine⟨(), ?_, ?_⟩
  .exact cO Za λj hj=>hI j Za
  exact⟨Aa,Aa⟩
 rintro _ hj;refine Kc ?_;exact⟨Vb (Fa hj).symm,Aa⟩
def kO(a b:Rw):a6 Ab 252 [pZ a,pZ b] (a7 [pI (sj a b)]):=by
 refine Nb (nt:=36) func252 ?_;refine cw ?_;refine cj 0 rfl λhn0=>?_;refine cj 1 rfl λhn1=>?_;refine Tb ?_;refine c6 (ι:=Unit) (ka 0 (ka 1 kn)) km (λ_i=>⟨[],[]⟩) (λ_i=>∀j,j<a.length->j<b.length/\a.getD j default=b.getD j default) ?_ ?_
 ·
  refine Jb ?_;refine aa (ι:=Nat) (ka 0 (ka 1 (ka 9 (ka 10 kn)))) km (λi=>⟨[(11,some (vI i))],[]⟩) (λi=>i<=a.length/\(∀j,j<i->j<b.length/\a.getD j default=b.getD j default)) (λi=>a.length-i) (0) (⟨Zb _,aw⟩) kk ?_;rintro i ⟨hi,hI⟩;refine Eb ?_;refine Kb ?_ ?_<;>intro h0
  ·
   refine Sq ?_;refine Kb ?_ ?_<;>intro h1
   .refine Kc ?_;exact⟨Sb (b9f (i:=i) Za Za λj hj=>(hI j hj).2),Aa⟩
   refine jq ?_;refine Fb (Ib func241) (eO (a.getD i default) (b.getD i default)) ?_;refine Jb ?_;refine Sc ?_ ?_<;>intro h2
   .refine Dd ?_;exact⟨Sb (bby (i:=i) Za Za (λj hj=>(hI j hj).2) Gb),Aa⟩
   refine Eb ?_;refine Rb (i+1) kk ?_;exact⟨by show i+1<=_;omega,al hI (⟨by omega,Z5 Gb⟩)⟩
  refine cg ?_;refine⟨(), ?_, ?_⟩
  .exactλj hj=>hI j Za
  exact kk
 rintro _ hj;refine Cc ?_;refine Kb ?_ ?_<;>intro h3
 .refine Kc ?_;exact⟨Sb (bar Za λj h=>(hj j h).2),Aa⟩
 refine Dd ?_;exact⟨Sb (bch (P8 λj h=>(hj j h).1) Za λj h=>(hj j h).2),Aa⟩
def VN(a b:Rw):a6 Ab 217 [pZ a,pZ b] (a7 [pB (He a b)]):=by
 refine Nb (nt:=41) func217 ?_;refine cw ?_;refine cj 0 rfl λhn0=>?_;refine cj 1 rfl λhn1=>?_;refine Tb ?_;refine c6 (ι:=Unit) (ka 0 (ka 1 kn)) km (λ_i=>⟨[],[]⟩) (λ_i=>∀j,j<a.length->j<b.length->a.getD j default=b.getD j default) ?_ ?_
 ·
  refine Eb ?_;refine aa (ι:=Nat) (ka 0 (ka 1 kn)) km (λi=>⟨[(5,some (vI i))],[]⟩) (λi=>i<=a.length/\(∀j,j<i->j<b.length/\a.getD j default=b.getD j default)) (λi=>a.length-i) (0) (⟨Zb _,aw⟩) kk ?_;rintro i ⟨hi,hI⟩;refine Wb ?_;refine af rfl rfl ?_ ?_<;>intro r0
  ·
   have h0:=Bc r0;(iterate 4 refine qy ?_ (hg:=(Lc r0)));refine Cb ?_;refine aj _ rfl ?_ ?_<;>intro r1
   ·
    have h1:=Bc (bp r0 r1);refine qd ?_;refine Sc ?_ ?_<;>intro h2
    .refine rp ?_;exact Nc rfl rfl rfl (⟨Vb (bI (i:=i) Za Za (λj h=>(hI j h).2) Gb).symm,Aa⟩)
    refine Mb ?_;refine Rb (i+1) kk ?_;exact⟨by show i+1<=_;omega,al hI (⟨by omega,by assumption⟩)⟩
   have h1:=Ac (bp r0 r1);refine cg ?_;refine⟨(), ?_, ?_⟩
   .exactλj h1 h2=>(hI j Za).2
   exact kk
  have h0:=Ac r0;(iterate 4 refine k9 (Vd r0) ?_);refine Mc ?_;refine⟨(), ?_, ?_⟩
  .exactλj h1 h2=>(hI j Za).2
  exact kk
 rintro _ hj;refine sX ?_;exact⟨Vb (by rw[yE hj,decide_eq_decide];omega),Aa⟩
abbrev rM(a:PV):PV:=.vp 1 λj=>[a].getD j .any
def B8 (r row:Rw):a6 Ab 201 [pZ r,pP (rM (zl row))] (a7 [pB (decide (r=row))]):=by
 refine Nb (nt:=7) func201 ?_;refine Wb ?_;refine Fb iJ (gG _ _) ?_;refine Tf ?_;exact Ta
def nJ:goodFn Ab 148:=Ib func148
def VG (n:Int) (l:List Rw) (row:Rw):a6 Ab 148 [pT n l,pZ row] (a7 [pB (l.any λr=>decide (r=row))]):=by
 refine Nb (nt:=9) func148 ?_;refine Rc ?_;refine m9 0 ?_;refine m9 1 ?_;refine Tb ?_;refine eg 3 rfl rfl rfl ?_;refine Mc ?_;refine Fb (Ib func200) (LY l 201 1 (λi=>[rM (zl row)].getD i .any) (λr=>decide (r=row)) (Ib func201) (λr=>B8 r row)) ?_;refine Tf ?_;exact Ta
def RY (x:Int):a6 Ab 256 [pI x] (a7 [pB (decide (x<0))]):=by
 refine Nb (nt:=5) func256 ?_;refine ce ?_;exact Nc rfl rfl rfl Ta
def bB:goodFn Ab 176:=Ib func176
def aB(a b:Rw)(s:AS)(h:b.length=a.length)(h16:a.length<=16):a6 Ab 176 [pZ a,pZ b,pA s] (a7 [pB (ll a b s)]):=by
 refine Nb (nt:=28) func176 ?_;refine cw ?_;refine cj 0 rfl λhn0=>?_;refine cj 1 rfl λhn1=>?_;refine Tb ?_;refine c6 (ι:=Unit) kn km (λ_i=>⟨[],[]⟩) (λ_i=>ll a b s=true) ?_ ?_
 ·
  refine Eb ?_;refine aa (ι:=Nat) (ka 0 (ka 1 (ka 2 kn))) km (λi=>⟨[(7,some (vI i))],[]⟩) (λi=>i<=a.length/\(∀j:Nat,j<i->(bw s (j:Int)=true->a.getD j default=b.getD j default))) (λi=>a.length-i) (0) (⟨Zb _,aw⟩) kk ?_;rintro i ⟨hi,hI⟩;refine Wb ?_;refine Kb ?_ ?_<;>intro h0
  ·
   refine Jb ?_;refine Fb Gu (Dt s (i:Int)) ?_;refine qy ?_;refine af rfl rfl ?_ ?_<;>intro r1
   ·
    have h1:=r1;(iterate 9 refine qy ?_ (hg:=(Lc r1)));refine Tb ?_;refine aj _ rfl ?_ ?_<;>intro r2
    .have h2:=Ac (ct (bp r1 r2));refine Kc ?_;exact⟨Vb (EP (i:=i) Za Qg Qg).symm,Aa⟩
    have h2:=Bc (cu (bp r1 r2));refine Mb ?_;refine Rb (i+1) kk ?_;exact⟨by show i+1<=_;omega,al hI (λhh=>by simp_all)⟩
   have h1:=r1;(iterate 9 refine k9 (Vd r1) ?_);refine ce ?_;refine Rb (i+1) kk ?_
   exact⟨by show i+1<=_;omega,al hI (λhh=>by simp_all)⟩
  refine cg ?_;refine⟨(), ?_, ?_⟩
  .exact Cx λj hj=>hI j Za
  exact⟨Aa,Aa⟩
 rintro _ hj;refine Kc ?_;exact⟨Vb hj.symm,Aa⟩
def xB:goodFn Ab 235:=Ib func235
def SA(a b:Rw)(s:AS)(h:b.length=a.length)(h16:a.length<=16):a6 Ab 235 [pZ a,pZ b,pA s] (a7 [pB (ll a b s)]):=by
 refine Nb (nt:=30) func235 ?_;refine cw ?_;refine cj 0 rfl λhn0=>?_;refine cj 1 rfl λhn1=>?_;refine Tb ?_;refine c6 (ι:=Unit) kn km (λ_i=>⟨[],[]⟩) (λ_i=>ll a b s=true) ?_ ?_
 ·
  refine Jb ?_;refine aa (ι:=Nat) (ka 0 (ka 1 (ka 2 (ka 9 kn)))) km (λi=>⟨[(10,some (vI i))],[]⟩) (λi=>i<=a.length/\(∀j:Nat,j<i->(bw s (j:Int)=true->a.getD j default=b.getD j default))) (λi=>a.length-i) (0) (⟨Zb _,aw⟩) kk ?_;rintro i ⟨hi,hI⟩;refine Eb ?_;refine Kb ?_ ?_<;>intro h0
  ·
   refine qd ?_;refine af rfl rfl ?_ ?_<;>intro r1
   ·
    have h1:=Bc r1;(iterate 9 refine qy ?_ (hg:=(Lc r1)));refine Tb ?_;refine aj _ rfl ?_ ?_<;>intro r2
    .have h2:=Ac (ct (bp r1 r2));refine Kc ?_;exact⟨Vb (EP (i:=i) Za ((oq Za).1 Gb) Gb).symm,Aa⟩
    have h2:=Bc (cu (bp r1 r2));refine Eb ?_;refine Rb (i+1) kk ?_;exact⟨by show i+1<=_;omega,al hI (λhh=>by first|(exact Ea ((oq Za).2 hh) Gb)|assumption)⟩
   have h1:=Ac r1;(iterate 9 refine k9 (Vd r1) ?_);refine Cc ?_;refine Rb (i+1) kk ?_
   exact⟨by show i+1<=_;omega,al hI (λhh=>by first|(exact Ea ((oq Za).2 hh) Gb)|assumption)⟩
  refine cg ?_;refine⟨(), ?_, ?_⟩
  .exact Cx λj hj=>hI j Za
  exact⟨Aa,Aa⟩
 rintro _ hj;refine Kc ?_;exact⟨Vb hj.symm,Aa⟩
end
section
def c8(n:Int)(l m:List Fd):Int:=if br n l=0 then(if 64<m.length then 3 else if m.all (Ue n)=true then 0 else 1)else br n l
section
variable {n:Int}{l m:List Fd}
def nQ(h:¬br n l=0):br n l=c8 n l m:=by unfold c8;rw[Ca h]
def xP(h:br n l=0)(h2:64<m.length):3=c8 n l m:=by unfold c8;rw[Ba h,Ba h2]
def pH {i:Nat} (h:br n l=0) (h2:¬64<m.length) (hi:i<m.length) (hu:¬Ue n (m.getD i default)=true):1=c8 n l m:=by
 unfold c8;rw[Ba h,Ca h2,Ca (λe=>Ea (Tt (l:=m) (p:=Ue n) hi (Ie.2 hu)) (by rw[e];decide))]
def XH (h:br n l=0) (h2:¬64<m.length) (hu:∀j,j<m.length->Ue n (m.getD j default)=true):0=c8 n l m:=by
 unfold c8;rw[Ba h,Ca h2,Ba (Zq hu)]
def l8(h:c8 n l m=0):0<=n/\n<=16/\l.length<=64/\l.all (Ue n)=true/\m.length<=64/\m.all (Ue n)=true:=by
 unfold c8 at h;by_cases h1:br n l=0
 .rw [Ba h1]at h
  obtain⟨a,b,c,d⟩:=iq h1;by_cases h2:64<m.length
  .rw[Ba h2]at h;omega
  rw[Ca h2]at h;by_cases h3:m.all (Ue n)=true
  .exact⟨a,b,c,d,by omega,h3⟩
  rw[Ca h3]at h;omega
 rw[Ca h1]at h;exact Ea h h1
end
section
variable {l:List Rw}
def IA {n:Int} {i:Nat} (h1:((l.getD i default).length:Int)=n) (h2:(l.getD i default).any (λx=>decide (x<0))=false) (h3:i=0\/He (l.getD (i-1) default) (l.getD i default)=true):pz n l i=true:=by
 unfold pz;rw[Fa h1,h2]
 rcases h3 with h3|h3
 .rw[Fa h3];rfl
 rw[h3];simp
def aaq{n:Int}{i:Nat}(h:¬((l.getD i default).length:Int)=n):pz n l i=false:=by unfold pz;rw[Ha h];rfl
def SL{n:Int}{i:Nat}(h:(l.getD i default).any (λx=>decide (x<0))=true):pz n l i=false:=by unfold pz;rw[h];simp
def lX {n:Int} {i:Nat} (h0:0<i) (h:¬He (l.getD (i-1) default) (l.getD i default)=true):pz n l i=false:=by
 unfold pz;rw[Ie.2 h,Ha (by omega:¬i=0)];simp
def cF{a b:Rw}:sj a b<0<->He a b=true:=by
 unfold sj;by_cases e:a=b
 .subst e
  rw[Ba rfl,xf];exact⟨λh=>Ea h Za,λh=>by cases h⟩
 rw[Ca e];by_cases h:He a b=true
 .rw[Ba h];exact⟨λ_=>h,λ_=>by omega⟩
 rw[Ca h];exact⟨λh=>Ea h Za,λh2=>Ea h2 h⟩
end
end
section
open Go.Proofs
def GH:goodFn Ab 36:=Ib func36
def AI (n:Int) (s:AS):a6 Ab 36 [pI n,pA s] (a7 [pB (decide (sub s (ak n)))]):=by
 refine Nb (nt:=9) func36 ?_;refine Wb ?_;refine Fb vq (ve n) ?_;refine Fb OD (cD _ _) ?_;refine Tf ?_;exact Ta
def Ux:goodFn Ab 55:=Ib func55
def zt(n:Int)(l m:List Fd):a6 Ab 55 [pI n,pP (Ub l),pP (Ub m)] (a7 [pI (c8 n l m)]):=by
 refine Nb (nt:=34) func55 ?_;refine cw ?_;refine cj 2 rfl λhn2=>?_;refine Wb ?_;refine Fb Eu (Fu n l) ?_;refine Jb ?_;refine Sc ?_ ?_<;>intro h0
 .refine Dd ?_;exact⟨Sb (nQ Gb),Aa⟩
 have hv0:br n l=0:=by assumption
 obtain⟨hn0,hn16,_,_⟩:=iq hv0;refine Wb ?_;refine Kb ?_ ?_<;>intro h1
 .refine Kc ?_;exact⟨Sb (xP hv0 Za),Aa⟩
 refine dj ?_;refine c6 (ι:=Unit) kn km (λ_i=>⟨[],[]⟩) (λ_i=>∀j,j<m.length->Ue n (m.getD j default)=true) ?_ ?_
 ·
  refine Jb ?_;refine aa (ι:=Nat) (ka 0 (ka 19 (ka 20 kn))) km (λi=>⟨[(21,some (vI i))],[]⟩) (λi=>i<=m.length/\(∀j,j<i->Ue n (m.getD j default)=true)) (λi=>m.length-i) (0) (⟨Zb _,aw⟩) kk ?_;rintro i ⟨hi,hI⟩;refine Eb ?_;refine Kb ?_ ?_<;>intro h2
  ·
   refine Jb ?_;refine m9 0 ?_;refine jq ?_;refine Sc ?_ ?_<;>intro h3
   .refine Kc ?_;exact⟨Sb (pH (i:=i) hv0 Za Za (λe=>Ea (OE.2 e) Gb)),Aa⟩
   refine Eb ?_;refine Rb (i+1) kk ?_;exact⟨by show i+1<=_;omega,al hI (OE.1 Gb)⟩
  refine cg ?_;refine⟨(), ?_, ?_⟩
  .exactλj hj=>hI j Za
  exact⟨Aa,Aa⟩
 rintro _ hj;refine Kc ?_;exact⟨Sb (XH hv0 Za hj),Aa⟩
def GE:goodFn Ab 121:=Ib func121
def UE(n:Int)(l m:List Fd):a6 Ab 121 [pI n,pP (Ub l),pP (Ub m)] (a7 [pI (c8 n l m)]):=by
 refine Nb (nt:=42) func121 ?_;refine cw ?_;refine cj 2 rfl λhn2=>?_;refine Wb ?_;refine Fb (Ib func171) (bfa n l) ?_;refine Jb ?_;refine Sc ?_ ?_<;>intro h0
 .refine Dd ?_;exact⟨Sb (nQ Gb),Aa⟩
 have hv0:br n l=0:=by assumption
 obtain⟨hn0,hn16,_,_⟩:=iq hv0;refine Wb ?_;refine Kb ?_ ?_<;>intro h1
 .refine Kc ?_;exact⟨Sb (xP hv0 Za),Aa⟩
 refine dj ?_;refine c6 (ι:=Unit) kn km (λ_i=>⟨[],[]⟩) (λ_i=>∀j,j<m.length->Ue n (m.getD j default)=true) ?_ ?_
 ·
  refine Eb ?_;refine aa (ι:=Nat) (ka 0 (ka 2 kn)) km (λi=>⟨[(8,some (vI i))],[]⟩) (λi=>i<=m.length/\(∀j,j<i->Ue n (m.getD j default)=true)) (λi=>m.length-i) (0) (⟨Zb _,aw⟩) kk ?_;rintro i ⟨hi,hI⟩;refine Wb ?_;refine Kb ?_ ?_<;>intro h2
  ·
   refine dg ?_;refine Fb GH (AI n _) ?_;refine Cb ?_;refine af rfl rfl ?_ ?_<;>intro r3
   ·
    have h3:=ct r3;(iterate 8 refine k9 (Yc r3) ?_);refine Jb ?_
    exact Nc rfl rfl rfl (⟨Sb (pH (i:=i) hv0 Za Za (λe=>by rw[pw Za Za]at e;simp_all)),Aa⟩)
   have h3:=cu r3;(iterate 6 refine qy ?_ (hg:=(Jc r3)));refine Fb GH (AI n _) ?_ (hg:=(Jc r3));refine qy ?_ (hg:=(Jc r3));refine Cb ?_;refine aj _ rfl ?_ ?_<;>intro r4
   .have h4:=ct (ai r3 r4);refine Kc ?_;exact⟨Sb (pH (i:=i) hv0 Za Za (λe=>by rw[pw Za Za]at e;simp_all)),Aa⟩
   have h4:=cu (ai r3 r4);refine Mb ?_;refine Rb (i+1) kk ?_;exact⟨by show i+1<=_;omega,al hI ((pw Za Za).2 Qg)⟩
  refine cg ?_;refine⟨(), ?_, ?_⟩
  .exactλj hj=>hI j Za
  exact⟨Aa,Aa⟩
 rintro _ hj;refine Kc ?_;exact⟨Sb (XH hv0 Za hj),Aa⟩
def w5(i:Nat):((i:Int)-1).toNat=i-1:=by omega
def kC{p:Prop}(h:p:=by first|exact aaq Gb|exact SL Gb|exact lX Za (by simp_all [w5])):p:=h
def S9(n:Int)(l:List Rw):a6 Ab 234 [pT n l] (a7 [pB (Bd n l)]):=by
 refine Nb (nt:=50) func234 ?_;refine Rc ?_;refine m9 0 ?_;refine Cc ?_;refine af rfl rfl ?_ ?_<;>intro r0
 ·
  have h0:=Bc r0;(iterate 3 refine k9 (Yc r0) ?_);refine Cb ?_;(iterate 4 refine k9 rfl ?_);refine Jb ?_
  exact Nc rfl rfl rfl (⟨Vb (Ix Za).symm,Aa⟩)
 have h0:=Ac r0;(iterate 3 refine qy ?_ (hg:=(Jc r0)));refine Cb ?_;refine af rfl rfl ?_ ?_<;>intro r1
 ·
  have h1:=Bc (ai r0 r1);(iterate 4 refine k9 (Yc r1) ?_);refine Jb ?_
  exact Nc rfl rfl rfl (⟨Vb (Ix Za).symm,Aa⟩)
 have h1:=Ac (ai r0 r1);(iterate 4 refine qy ?_ (hg:=(Jc r1)));refine Cb ?_;refine aj _ rfl ?_ ?_<;>intro r2
 .have h2:=Bc (ai r1 r2);refine Kc ?_;exact⟨Vb (Ix Za).symm,Aa⟩
 have h2:=Ac (ai r1 r2);refine ce ?_;refine aa (ι:=Nat) (ka 1 (ka 20 (ka 21 kn))) (kb 0 km) (λi=>⟨[(22,some (vI i))],[]⟩) (λi=>i<=l.length/\(∀j,j<i->pz n l j=true)) (λi=>l.length-i) (0) (⟨Zb _,aw⟩) kk ?_;rintro i ⟨hi,hI⟩;refine Eb ?_;refine Kb ?_ ?_<;>intro h3
 ·
  refine oA ?_;refine af rfl rfl ?_ ?_<;>intro r4
  ·
   have h4:=Ac (ct r4);(iterate 2 refine k9 (Yc r4) ?_);refine Jb ?_
   exact Nc rfl rfl rfl (⟨Vb (Nt (i:=i) Za kC).symm,Aa⟩)
  have h4:=Bc (cu r4);refine qy ?_ (hg:=(Jc r4));refine Fb (Ib func255) (yY (l.getD i default) 256 0 (λ_=>.any) (λx=>decide (x<0)) (Ib func256) (λx=>RY x)) ?_ (hg:=(Jc r4));refine Cb ?_;refine aj _ rfl ?_ ?_<;>intro r5
  .have h5:=ai r4 r5;refine Kc ?_;exact⟨Vb (Nt (i:=i) Za kC).symm,Aa⟩
  have h5:=ai r4 r5;refine Mb ?_;refine af rfl rfl ?_ ?_<;>intro r6
  ·
   have h6:=Bc r6;(iterate 7 refine qy ?_ (hg:=(Lc r6)));refine Fb (Ib func252) (kO (l.getD ((i:Int)-1).toNat default) (l.getD i default)) ?_ (hg:=(Lc r6));refine qy ?_ (hg:=(Lc r6));refine Cb ?_
   refine aj _ rfl ?_ ?_<;>intro r7
   .have h7:=Bc (bp r6 r7);refine Kc ?_;exact⟨Vb (Nt (i:=i) Za (lX Za λe=>Ea (cF.2 e) (by simp only[w5]at *;omega))).symm,Aa⟩
   have h7:=Ac (bp r6 r7);refine Eb ?_;refine Rb (i+1) kk ?_;exact⟨by show i+1<=_;omega,al hI (IA Gb Gb (by first|(exact .inl Za)|(exact .inr (cF.1 (by simp only[w5]at *;omega)))))⟩
  have h6:=Ac r6;(iterate 9 refine k9 (Vd r6) ?_);refine Wb ?_;refine Rb (i+1) kk ?_
  exact⟨by show i+1<=_;omega,al hI (IA Gb Gb (by first|(exact .inl Za)|(exact .inr (cF.1 (by simp only[w5]at *;omega)))))⟩
 refine Dd ?_;exact⟨Vb (lH Za Za Za λj hj=>hI j Za).symm,Aa⟩
def fI:goodFn Ab 173:=Ib func173
def iK(n:Int)(l:List Rw):a6 Ab 173 [pT n l] (a7 [pB (Bd n l)]):=by
 refine Nb (nt:=69) func173 ?_;refine Rc ?_;refine m9 0 ?_;refine Cc ?_;refine af rfl rfl ?_ ?_<;>intro r0
 ·
  have h0:=Bc r0;(iterate 3 refine k9 (Yc r0) ?_);refine Cb ?_;(iterate 4 refine k9 rfl ?_);refine Jb ?_
  exact Nc rfl rfl rfl (⟨Vb (Ix Za).symm,Aa⟩)
 have h0:=Ac r0;(iterate 3 refine qy ?_ (hg:=(Jc r0)));refine Cb ?_;refine af rfl rfl ?_ ?_<;>intro r1
 ·
  have h1:=Bc (ai r0 r1);(iterate 4 refine k9 (Yc r1) ?_);refine Jb ?_
  exact Nc rfl rfl rfl (⟨Vb (Ix Za).symm,Aa⟩)
 have h1:=Ac (ai r0 r1);(iterate 4 refine qy ?_ (hg:=(Jc r1)));refine Cb ?_;refine aj _ rfl ?_ ?_<;>intro r2
 .have h2:=Bc (ai r1 r2);refine Kc ?_;exact⟨Vb (Ix Za).symm,Aa⟩
 have h2:=Ac (ai r1 r2);refine Jb ?_;refine aa (ι:=Nat) (ka 1 kn) (kb 0 km) (λi=>⟨[(3,some (vI i))],[]⟩) (λi=>i<=l.length/\(∀j,j<i->pz n l j=true)) (λi=>l.length-i) (0) (⟨Zb _,aw⟩) kk ?_;rintro i ⟨hi,hI⟩;refine Cc ?_;refine Kb ?_ ?_<;>intro h3
 ·
  refine qd ?_;refine af rfl rfl ?_ ?_<;>intro r4
  ·
   have h4:=Ac (ct r4);(iterate 3 refine k9 (Yc r4) ?_);(iterate 13 refine k9 rfl ?_);refine k9 (Yc r4) ?_;refine Wb ?_
   exact Nc rfl rfl rfl (⟨Vb (Nt (i:=i) Za kC).symm,Aa⟩)
  have h4:=Bc (cu r4);(iterate 3 refine qy ?_ (hg:=(Jc r4)));refine af rfl rfl ?_ ?_<;>intro r5
  ·
   have h5:=Bc r5;(iterate 11 refine qy ?_ (hg:=(Lc r5)));refine Fb (Ib func217) (VN (l.getD ((i:Int)-1).toNat default) (l.getD i default)) ?_ (hg:=(Lc r5));refine qy ?_ (hg:=(Lc r5));refine qy ?_ (hg:=(Jc r4));refine Tb ?_
   refine aj _ rfl ?_ ?_<;>intro r6
   .have h6:=ct (bp r5 (ai r4 r6));refine Kc ?_;exact⟨Vb (Nt (i:=i) Za kC).symm,Aa⟩
   have h6:=cu (bp r5 (ai r4 r6));refine Mb ?_;refine aa (ι:=Nat) (ka 1 (ka 3 kn)) (kb 0 km) (λk=>⟨[(4,some (vI k))],[]⟩) (λk=>k<=(l.getD i default).length/\(∀j,j<k->decide ((l.getD i default).getD j default<0)=false)) (λk=>(l.getD i default).length-k) (0) (⟨Zb _,aw⟩) kk ?_;rintro k ⟨hk,hK⟩;refine Wb ?_;refine Kb ?_ ?_<;>intro h7
   ·
    refine dg ?_;refine rq rfl rfl rfl rfl rfl ?_ (hp:=⟨rfl,by omega,by simp only[Qe];omega⟩);refine Tb ?_;refine Kb ?_ ?_<;>intro h8
    .refine Kc ?_;exact⟨Vb (Nt (i:=i) Za (SL (Ax (i:=k) Za (Fa Gb)))).symm,Aa⟩
    refine Mb ?_;refine Rb (k+1) kk ?_;exact⟨by show k+1<=_;omega,al hK (Ha Gb)⟩
   refine Mb ?_;refine Rb (i+1) kk ?_;exact⟨by show i+1<=_;omega,al hI (IA Gb (Kw λj hj=>hK j Za) (by first|(exact .inl Za)|(exact .inr (by simp_all [w5]))))⟩
  have h5:=Ac r5;(iterate 13 refine k9 (Vd r5) ?_);refine rq rfl rfl rfl rfl (Jc r4) ?_ (hp:=r5);refine Tb ?_;refine aj _ rfl (λe=>Bool.noConfusion ((sy r4 rfl).symm.trans e)) (λ_=>?_);refine Mb ?_
  refine aa (ι:=Nat) (ka 1 (ka 3 kn)) (kb 0 km) (λk=>⟨[(4,some (vI k))],[]⟩) (λk=>k<=(l.getD i default).length/\(∀j,j<k->decide ((l.getD i default).getD j default<0)=false)) (λk=>(l.getD i default).length-k) (0) (⟨Zb _,aw⟩) kk ?_;rintro k ⟨hk,hK⟩;refine Wb ?_;refine Kb ?_ ?_<;>intro h9
  ·
   refine dg ?_;refine rq rfl rfl rfl rfl rfl ?_ (hp:=⟨rfl,by omega,by simp only[Qe];omega⟩);refine Tb ?_;refine Kb ?_ ?_<;>intro h10
   .refine Kc ?_;exact⟨Vb (Nt (i:=i) Za (SL (Ax (i:=k) Za (Fa Gb)))).symm,Aa⟩
   refine Mb ?_;refine Rb (k+1) kk ?_;exact⟨by show k+1<=_;omega,al hK (Ha Gb)⟩
  refine Mb ?_;refine Rb (i+1) kk ?_;exact⟨by show i+1<=_;omega,al hI (IA Gb (Kw λj hj=>hK j Za) (by first|(exact .inl Za)|(exact .inr (by simp_all [w5]))))⟩
 refine Dd ?_;exact⟨Vb (lH Za Za Za λj hj=>hI j Za).symm,Aa⟩
def OI:goodFn Ab 203:=Ib func203
def AJ (n:Int) (l:List Rw) (p m:List Fd):a6 Ab 203 [pT n l,pP (Ub p),pP (Ub m)] (a7 [pI (if Bd n l=true then c8 n p m else 1)]):=by
 refine Nb (nt:=15) func203 ?_;refine Rc ?_;refine m9 0 ?_;refine Mb ?_;refine Fb (Ib func234) (S9 n l) ?_;refine Cb ?_;refine Xd ?_ ?_<;>intro h0
 .refine Kc ?_;exact⟨Sb (Ca Qg).symm,Aa⟩
 refine Jb ?_;refine Fb Ux (zt n p m) ?_;refine Tf ?_;exact⟨Sb (Ba Qg).symm,Aa⟩
def KH:goodFn Ab 77:=Ib func77
def JH(n:Int)(l:List Rw)(row:Rw):a6 Ab 77 [pT n l,pZ row] (a7 [pB (l.any λr=>decide (r=row))]):=by
 refine Nb (nt:=20) func77 ?_;refine Rc ?_;refine m9 0 ?_;refine Cb ?_;refine c6 (ι:=Unit) kn km (λ_i=>⟨[],[]⟩) (λ_i=>(l.any λr=>decide (r=row))=false) ?_ ?_
 ·
  refine cw ?_;refine DG 0 1 rfl rfl λhn=>?_;refine Mc ?_;refine aa (ι:=Nat) (ka 1 (ka 2 kn)) (kb 0 km) (λi=>⟨[(5,some (vI i))],[]⟩) (λi=>i<=l.length/\(∀j,j<i->decide (l.getD j default=row)=false)) (λi=>l.length-i) (0) (⟨Zb _,aw⟩) kk ?_;rintro i ⟨hi,hI⟩;refine Cc ?_;refine Kb ?_ ?_<;>intro h0
  ·
   refine dg ?_;refine Fb (Ib func125) (NZ (l.getD i default) row) ?_;refine cn ?_;refine We ?_ ?_<;>intro h1
   .refine Kc ?_;exact⟨Vb (Ax (p:=λr=>decide (r=row)) (i:=i) Za Gb).symm,Aa⟩
   refine Mb ?_;refine Rb (i+1) kk ?_;exact⟨by show i+1<=_;omega,al hI Gb⟩
  refine cg ?_;refine⟨(), ?_, ?_⟩
  .exact Kw λj hj=>hI j Za
  exact⟨Aa,Aa⟩
 rintro _ hj;refine Kc ?_;exact⟨Vb hj.symm,Aa⟩
end
section
def nb(a b:Rw)(s:AS)(i:Nat):Rw:=(List.range b.length).map λ(j:Nat)=>if j<i/\bw s (j:Int)=true then a.getD j default else b.getD j default
def tj(a b:Rw)(s:AS)(i:Nat):(nb a b s i).length=b.length:=by unfold nb;simp
section
variable {a b:Rw}{i:Nat}{s:AS}
def mJ {k:Nat} (hk:k<b.length):(nb a b s i).getD k default=if k<i/\bw s (k:Int)=true then a.getD k default else b.getD k default:=by
 unfold nb;rw[Oc,Pe,Hi hk];rfl
def BU (a b:Rw) (s:AS):b=nb a b s 0:=ny (tj a b s 0).symm λj hj=>by
 rw[mJ hj,Ca Za]
def LS (a b:Rw) (s:AS):nb a b s b.length=dz a b s:=by
 unfold nb dz;refine Mn λk hk=>?_;have:=Fe.1 hk;by_cases h:bw s (k:Int)=true
 .rw[Ba ⟨this,h⟩,Ba h]
 rw[Ca (λe=>h e.2),Ca h]
def D8(h:¬bw s (i:Int)=true):nb a b s i=nb a b s (i+1):=by
 unfold nb;refine Mn λk hk=>?_;by_cases h2:k<i/\bw s (k:Int)=true
 .rw[Ba h2,Ba ⟨by omega,h2.2⟩]
 rw [Ca h2, Ca λe => h2 ⟨by rcases Po (Iq e.1)with h3|h3
                            .exact h3
                            subst h3;exact Ea e.2 h,e.2⟩]
def B5(hi:i<b.length)(h:bw s (i:Int)=true):(nb a b s i).set i (a.getD i default)=nb a b s (i+1):=by
 refine ny (by rw[Ni,tj,tj]) λj hj=>?_;rw[Ni,tj]at hj;rw[mJ hj];by_cases e:j=i
 .subst e
  rw[j2 (by rw[tj];exact hj),Ba ⟨by omega,h⟩]
 rw[Gc e,mJ hj];by_cases h2:j<i/\bw s (j:Int)=true
 .rw[Ba h2,Ba ⟨by omega,h2.2⟩]
 rw[Ca h2,Ca λe2=>h2 ⟨by omega,e2.2⟩]
def lg(a b:Rw)(s:AS):(dz a b s).length=b.length:=by unfold dz;simp
def xe {n:Nat} {k:Nat} (hi:i<b.length) (h:bw s (i:Int)=true) (hn:n=b.length:=by rfl) (hk:k=i:=by rfl):
 Ic (.arr true 1 3 n (er (lf zC (nb a b s i)) k 0 [.raw (.int .i64 (a.getD i default))])) (.arr true 1 3 n (lf zC (nb a b s (i+1)))):=by
 rw[<- B5 hi h];exact QI (λh=>h) (hn.trans (tj a b s i).symm) hk (by rw[tj];exact hi) rfl
def wq {n:Nat} (h:¬bw s (i:Int)=true):Ic (.arr true 1 3 n (lf zC (nb a b s i))) (.arr true 1 3 n (lf zC (nb a b s (i+1)))):=by
 rw[<- D8 h];exact Ic.refl _
def ZG{n:Nat}{r:Rw}(h:r.length=n):Ob (.one (.sl n 1 false (lf zC r))) (pZ r):=by subst h;exact Sa
end
end
section
open Go.Proofs
def FI:goodFn Ab 254:=Ib func254
def nI(n:Nat)(c:Bool)(f:Nat->Nat->PV)(hn:n<=17592186044416) :
 dn Ab 254 [.one (.p (.sl n 1 c f))] [] (.v (.one (.ref 0 n))) [(0, .arr true 1 3 n f)] []:=by
 refine Eg (nt:=8) func254 ?_;refine Rc ?_;refine db true rfl rfl rfl rfl rfl trivial ?_;refine cn ?_;refine iB (ι:=Bool) (λc=>⟨[(0,some (bu (.sl n 1 c f)))],[]⟩) (λ_=>True) ?_ λc _=>?_
 .rcases Mj n with hz|h0
  .subst hz
   refine Qf 0 rfl λad cap hcap=>?_;refine Rc ?_;(iterate 2 refine db true rfl rfl rfl rfl rfl trivial ?_);refine cn ?_;refine aj ad.isNone rfl ?_ ?_<;>intro hc
   .refine Rc ?_
    refine db true rfl rfl rfl rfl rfl trivial ?_;refine cn ?_;refine d9 2 0 true 1 3 f Zc rfl (Wa rfl (.inr rfl) (λh=>h) λi j hi _=>Ea hi (Ud i)) (.inr rfl) rfl ?_;refine Db ?_;exact⟨_,_,rfl,Aa,Ua,uu⟩
   refine dj ?_;exact⟨false,Aa,⟨⟨_,rfl,Fc.raw_sl hcap⟩,Aa⟩,Aa⟩
  refine Rc ?_;refine db true rfl rfl rfl rfl rfl trivial ?_;refine db true rfl rfl rfl rfl rfl h0 ?_;refine cn ?_;refine aj false rfl (λhc=>by cases hc) (λhc=>?_);refine dj ?_;exact⟨c,Aa,tt,Aa⟩
 refine Rc ?_;refine zw 0 rfl rfl rfl rfl rfl rfl trivial ?_;refine db true rfl rfl rfl rfl rfl trivial ?_;refine Yx 0 true rfl rfl rfl rfl rfl rfl ⟨Aa,rfl,rfl,rfl, .inl rfl,by show 0+n<=9223372036854775807;omega,by show(0+n)*8<=140737488355328;omega,λ_=>.inl rfl⟩ ?_;refine db true rfl rfl rfl rfl rfl trivial ?_;refine cn ?_;refine Db ?_;refine⟨_,_,rfl,Aa,Xa (by show HR.v (.one (.ref 0 (0+n)))=_;rw[Oe]),⟨⟨_,rfl, ?_⟩,Aa⟩⟩;exact⟨λh=>h,rfl,rfl,(Oe n).symm,λi j _ _=>Va (by simp[ek])⟩
def b79 (n:Nat) (c:Bool) (f:Nat->Nat->PV) (hn:n<=17592186044416):a6 Ab 254 [.one (.sl n 1 c f)] (.v (.one (.sl n 1 false f))) :=
 dn.pure (args:=[.one (.sl n 1 c f)]) (l:=[.one (.ref 0 n)]) (nI n c f hn) rfl ⟨rfl,Aa⟩
def jJ:goodFn Ab 231:=Ib func231
def UR (n:Int) (l:List Rw) (hl:∀i,i<l.length->(l.getD i default).length<=17592186044416) (hl2:l.length<=5864062014805):dn Ab 231 [.agg [.p (.raw (.int .i64 n)), .p (rl l)]] [] (.v (.agg [.p (.raw (.int .i64 n)), .ref 901 l.length])) [(901, .arr true 1 89 l.length (lf rC l))] []:=by
 refine Eg (nt:=25) func231 ?_;refine Rc ?_;refine m9 0 ?_;refine m9 1 ?_;refine Mb ?_;refine m9 2 ?_;refine Cb ?_;refine ej 2 1 901 true 1 89 (lf rC l) Zc rfl rfl Ya (.inr rfl) rfl rfl ?_;refine Cc ?_;refine bz (ka 2 (ka 3 (ka 10 (ka 11 kn)))) (kb 1 km) (λi=>⟨[(12,some (vI i))],[(2,some (.box [.p (.raw (.int .i64 n)), .ref 901 i])),(901,some (.arr true 1 89 i (lf rC l)))]⟩) l.length kk ?_;rintro i hi;refine Eb ?_;refine Kb ?_ ?_<;>intro h0
 .refine jq ?_;refine Fb FI (b79 (l.getD i default).length false (lf zC (l.getD i default)) (hl i Za)) ?_;refine m9 3 ?_;refine Ed 4 true ?_;refine Wb ?_;exact Ld (i+1) ⟨tt,⟨u9,⟨_,rfl,(o0 (λh=>h) (λj hj=>by obtain rfl:j=0:=Za;exact Ra))⟩,uu⟩⟩
 obtain rfl:i=l.length:=by omega
 refine Mb ?_;refine Db ?_;exact⟨_,_,rfl,Uf,Ua,uu⟩
def b3z (n:Int) (l:List Rw) (hl:∀i,i<l.length->(l.getD i default).length<=17592186044416) (hl2:l.length<=5864062014805):a6 Ab 231 [pT n l] (a7 [pT n l]) :=
 dn.pure (args:=[pT n l]) (l:=[.agg [.p (.raw (.int .i64 n)), .ref 901 l.length]]) (UR n l hl hl2) rfl ⟨⟨Aa,rfl,Aa⟩,Aa⟩
def iP (a b:Rw) (s:AS) (h:a.length=b.length) (h16:b.length<=16):a6 Ab 238 [pZ a,pZ b,pA s] (a7 [pZ (dz a b s)]):=by
 refine Nb (nt:=30) func238 ?_;refine Jb ?_;refine Ke FI (nI b.length false (lf zC b) Za) trivial ?_;refine ce ?_;refine bz (ka 0 (ka 2 (ka 7 (ka 12 kn)))) km (λi=>⟨[(13,some (vI i))],[(0,some (.arr true 1 3 b.length (lf zC (nb a b s i))))]⟩) b.length ⟨tt,⟨⟨_,rfl,(Ic.of_eq (by rw[<- BU]))⟩,Aa⟩⟩ ?_;rintro i hi;refine Eb ?_;refine Kb ?_ ?_<;>intro h0
 ·
  refine qd ?_;refine Kb ?_ ?_<;>intro h1
  .refine rp ?_;exact Ld (i+1) ⟨tt,⟨⟨_,rfl,(by first|exact xe Za ((oq Za).1 Gb)|exact wq (λe=>Ea ((oq Za).2 e) Gb))⟩,Aa⟩⟩
  refine Eb ?_;exact Ld (i+1) ⟨tt,⟨⟨_,rfl,(by first|exact xe Za ((oq Za).1 Gb)|exact wq (λe=>Ea ((oq Za).2 e) Gb))⟩,Aa⟩⟩
 obtain rfl:i=b.length:=by omega
 refine Cb ?_;refine b5 7 rfl rfl rfl ?_;refine Kc ?_;exact⟨by rw[LS];exact ZG (lg a b s),Aa⟩
end
end Go.Hx
