/- A part of the proof: Hx21. -/
import Derived.ChangeArms
import Derived.OpenShut
import Derived.ProofKit
import Derived.WalkKit
import Derived.WideKeyArgs
import Derived.Test.YtcepfnkhagkdeaaGreatDoorUx05
set_option linter.all false
namespace Go.Hx
section
open Go.RowKit Go.ChangeShapes Go.WideShapes Go.ChangeAt
def Rd (P:Program) (t:TypeId) (n:Nat) {α:Type} (c:α->Nat->PV):Prop :=
 ∀ (H:Type) (enc:TypeId×Value->H) (w:World) (sp:Nat->Bool) (held:Bool) (fuel:Nat) (cs:List Value) (x:DataW H×List MemPlace),DataW.trod enc P w 0 sp held fuel t cs=some x ->
  cs.length=n/\∃a:α,∀j,j<n->∃v,cs[j]? = some v/\aq (fg w) (c a j) v
section
variable {P:Program}{t e:TypeId}
def buh(k:IntKind)(z:Int):Nat->PV:=λ_=>.raw (.int k z)
def aO(b:Bool):Nat->PV:=λ_=>.raw (.bool b)
def bsq(s:ByteArray):Nat->PV:=λ_=>.raw (.string s)
def O9 (ht:P.underlying t=some .bool):Rd P t 1 aO:=by
 intro H enc w sp held fuel cs x h;obtain⟨n,rfl,_⟩:=DataW.trod_bool ht h;refine⟨rfl,n,λj hj=>?_⟩;obtain rfl:j=0:=by omega
 exact⟨_,rfl,rfl,rfl⟩
def tX(u:UInt8):Nat->PV:=λ_=>.raw (.int .u8 (u.toNat:Int))
def KN (ht:P.underlying t=some (.int .u8)):Rd P t 1 tX:=by
 intro H enc w sp held fuel cs x h;obtain⟨n,rfl,_,hw⟩:=DataW.trod_int ht h;have hx:0<=n/\n<=255:=by simpa [Lit.wf,IntKind.min,IntKind.max,IntKind.signed,IntKind.bits]using hw
 refine⟨rfl,UInt8.ofNat n.toNat,λj hj=>?_⟩;obtain rfl:j=0:=by omega
 refine⟨_,rfl, ?_,rfl⟩
 have:(UInt8.ofNat n.toNat).toNat=n.toNat:=by
  rw[UInt8.toNat_ofNat'];omega
 rw[this];congr 1;omega
theorem Rd.co {n:Nat} {α β:Type} {c:α->Nat->PV} {c':β->Nat->PV} (h:Rd P t n c) (f:α->β) (hc:∀a j,j<n->Fc (c a j) (c' (f a) j)):Rd P t n c':=by
 intro H enc w sp held fuel cs x hx;obtain⟨h1,a,h2⟩:=h _ enc w sp held fuel cs x hx;refine⟨h1,f a,λj hj=>?_⟩;obtain⟨v,h3,h4⟩:=h2 j hj;exact⟨v,h3,hc a j hj _ _ h4⟩
def Rz{α:Type}[Inhabited α](s:Nat)(c:α->Nat->PV)(l:List α):Nat->PV:=λ_=>Ff s c l
def b7c{s:Nat}{α:Type}[Inhabited α]{c:α->Nat->PV}(ht:P.underlying t=some (.slice e))(hc:P.cellsOf e=s)(hs:0<s)(h:Rd P e s c):Rd P t 1 (Rz s c):=by
 classical
 intro H enc w sp held fuel cs x hx
 rcases DataW.trod_slice ht hx with⟨rfl,_⟩|⟨a,len,cap,elems,rest,n,rfl,rfl,_,hb,hl,hm,hlen,hel,_,_⟩
 .refine ⟨rfl,[],λj hj=>?_⟩
  obtain rfl:j=0:=by omega
  exact⟨_,rfl,none,0,rfl,Yb _,Zb _,(λhh=>by cases hh),λhh=>Ea hh (Pl 0)⟩
 have each:∀i,i<len->∃q:α,∀j,j<s->∃v,w.cell? (a.add (i*s+j))=some v/\aq (fg w) (c q j) v:=by
  intro i hi;have h1:=hel i hi;rw[hc]at h1;rw[Hc Za]at h1;obtain⟨cs',h2,h3⟩:=Option.bind_eq_some_iff.1 h1;obtain⟨_,h4,h5⟩:=World.cells?_some h2;obtain⟨_,q,h6⟩:=h _ enc w sp held n cs' _ h3;refine⟨q,λj hj=>?_⟩;obtain⟨v,h7,h8⟩:=h6 j hj;refine⟨v, ?_,h8⟩;have:=h5 j hj;rw[h7]at this;rw[<- this];congr 1;unfold Addr.add;by_cases hj0:j=0
  .subst hj0
   simp
  by_cases hi0:i*s=0
  .simp[hi0,hj0]
  have:¬(i*s+j=0):=by omega
  simp only[hj0,hi0,this,Na];congr 1;omega
 refine⟨rfl,(List.range len).map λi=>if hi:i<len then Classical.choose (each i hi)else default,λj hj=>?_⟩;obtain rfl:j=0:=by omega
 refine⟨_,rfl,some a,cap,by simp,by simpa using hl,hm,(λhh=>by cases hh),λhn=>?_⟩;have hn:0<len:=by simpa using hn
 have hspot:a.spot=none:=by
  obtain⟨q,hq⟩:=each 0 hn;obtain⟨v,hv,_⟩:=hq 0 hs;have:a.add (0*s+0)=a:=by simp[Addr.add]
  rw[this]at hv;unfold World.cell? at hv;split at hv
  .split at hv
   .cases hv
   rename_i hsp;simpa using hsp
  cases hv
 refine⟨a.block,a.off, ?_,λi j hi hj=>?_⟩
 .obtain ⟨b,o,spo⟩:=a
  simp only at hspot;subst hspot;rfl
 have hi:i<len:=by simpa using hi
 have hch:=Classical.choose_spec (each i hi);obtain⟨v,hv,hr⟩:=hch j hj;refine⟨v, ?_, ?_⟩
 .unfold World.cell? at hv
  have hblk:(a.add (i*s+j)).block=a.block:=by unfold Addr.add;split<;>rfl
  have hoff:(a.add (i*s+j)).off=a.off+(i*s+j):=by
   unfold Addr.add;split
   .rename_i h0;rw[h0];rfl
   rfl
  rw[hblk,hoff]at hv;unfold gz fg;split at hv
  .rename_i hb'
   rw[hb'];split at hv
   .cases hv
   exact hv
  cases hv
 have:lf c ((List.range len).map λi=>if hi:i<len then Classical.choose (each i hi)else default) i j=c (Classical.choose (each i hi)) j:=by
  unfold lf;simp[List.getD,hi]
 rw[this];exact hr
end
def aky {W W':World} (hb:Below W.heap.size W W') (may:MemPlace->Prop):W.keptBut W' may:=by
 refine⟨hb.os,hb.output,λi hi=>?_⟩;rw[hb.block i hi]
 cases W.heap[i]? with
 |none=>exact rfl
 |some o=>cases o<;>first|exact⟨rfl,rfl,rfl,λ_ _=>rfl⟩|exact .inr ⟨rfl,rfl⟩|exact rfl
def akw {W W':World} (hb:Below W.heap.size W W') (p:MemPlace) (hp:p.block<W.heap.size):W.sameAt W' p:=by
 cases p with
 |cell b off=>show W'.cell? _=W.cell? _;unfold World.cell?;rw[hb.block b hp]
 |map b=>exact hb.block b hp
section
variable {H:Type}{enc:TypeId×Value->H}{P:Program}
def bX (hl:laidOutB P=true) {W W':World} {sp':Nat->Bool}:∀{ts:List TypeId} {vs:List Value} {ds:List (DataW H)} {ps:List MemPlace},(∀t∈ts,P.readableRec t=true/\t<P.types.size)->DataW.TrodAll enc P W 0 (λ_=>true) true ts vs ds ps ->
 (∀p∈ps,W.sameAt W' p)->(∀p∈ps,sp' p.block=true)->DataW.TrodAll enc P W' 0 sp' true ts vs ds ps
 | [],[],[],ps,_,h,_,_=>h
 | t::ts,v::vs,d::ds,ps,ht,⟨p,q,h1,h2,e⟩,hs,hsp=>by
  subst e;refine⟨p,q,WideElems.Trod_stays hl (ht t Ec).1 (ht t Ec).2 h1 (λz hz=>hs z (by simp[hz])) (λz hz=>hsp z (by simp[hz])), ?_,rfl⟩;exact bX hl (λt ht'=>ht t (by simp[ht'])) h2 (λz hz=>hs z (by simp[hz])) (λz hz=>hsp z (by simp[hz]))
 | [],_::_,_,_,_,h,_,_=>h.elim
 | [],[],_::_,_,_,h,_,_=>h.elim
 |_::_,[],_,_,_,h,_,_=>h.elim
 |_::_,_::_,[],_,_,h,_,_=>h.elim
def b5x{f:Func}{s:ChangeSpec}{W W':World}{args:Array Value}{ds:List (DataW H)}{before:List MemPlace}{tb:TypeId}(hl:laidOutB P=true)(hpar:∀t∈f.params.toList,P.readableRec t=true/\t<P.types.size)
 (hres:f.resultTypes=#[tb]) (htb:P.underlying tb=some .bool) (hv:s.vars=[]) (hfn:s.fn H ds={ results:=[.lit (.bool true)],args:=ds })
 (hW:DataW.Whole enc P f.params.toList s.vars false W args.toList ds [] before) (hb:Below W.heap.size W W'):s.post enc P f false true false false W args (.bool true) W':=by
 have hW':=hW;have hlt:∀p∈before,p.block<W.heap.size:=λp hp=>hW.lt p hp;obtain⟨p,q,hA,hV,rfl,hfz,hnd⟩:=hW;rw[hv]at hV;obtain⟨_,rfl⟩:=trodVars_none hV;have hfn':s.fn H (ds++[])={ results:=[.lit (.bool true)],args:=ds }:=by rw[Mg];exact hfn
 have hargs:∀sp:Nat->Bool,(∀z∈p++[],sp z.block=true)->DataW.TrodAll enc P W' 0 sp true f.params.toList args.toList (s.fn H (ds++[])).args p:=λsp hsp=>by
  rw[hfn'];exact bX hl hpar hA (λz hz=>akw hb z (hlt z (by simpa using hz))) (λz hz=>hsp z (by simpa using hz))
 have hrs:∀(b:Nat) (sp:Nat->Bool) (hd:Bool),DataW.TrodAll enc P W' b sp hd f.resultTypes.toList ((Value.bool true).resultList f.resultTypes.size) (s.fn H (ds++[])).results []:=λb sp hd=>by
  rw[hfn',hres];exact trodAll_cons_mk (shut_bool htb _) trodAll_mk0
 have hok:∀(j:Nat) (t:TypeId) (r:Value),f.resultTypes[j]? = some t->((Value.bool true).resultList f.resultTypes.size)[j]? = some r->Value.okWide P W' .any 0 t r:=ok_one hres rfl (okWide_bool_mk htb _)
 have hvars:∀sp:Nat->Bool,(∀z∈p++[],sp z.block=true)->DataW.TrodVars enc P W' sp s.vars (s.fn H (ds++[])).vars []:=λsp _=>by
  rw[hfn',hv];exact rfl
 have hold:∀z∈p++[],(λb=>decide (b<W.heap.size)) z.block=true:=λz hz=>by simpa using hlt z hz
 refine⟨ds,[],p++[],[],p,[],hW',hrs _ _ _,hargs _ hold,hvars _ hold,World.keptBut_mono (λz hz=>⟨hz, ?_⟩) (aky hb (·∈p++[])),λ_=>?_⟩
 .exact Or.inr (by simpa using hz)
 refine⟨hok,_,_,([]++p)++[],⟨[]++p,[],trodAll_append (hargs _ (λ_ _=>rfl)) (hrs _ _ _),hvars _ (λ_ _=>rfl),rfl, ?_, ?_⟩, ?_⟩
 .intro b off hp
  have hp':MemPlace.cell b off∈p++[]:=by simpa using hp
  have:=hfz b off hp';unfold World.frozen? at this ⊢;rw[hb.block b (hlt _ hp')];exact this
 .intro ha;cases ha
 intro z hz _;simpa using hz
end
def ars {P:Program} {W:World} {r:Reach} {b:Nat} {t:TypeId} {v:Value} (ht:P.underlying t=some .bool) (h:Value.okWide P W r b t v):v.cells.toList=[v]:=by
 unfold Value.okWide at h;rw[ht]at h;unfold Cell.okWide at h;rw[ht]at h;cases v<;>first|rfl|(simp[Cell.ok,ht]at h)
def b1o {P:Program} {f:FuncId} {args:List PC} {us:List Value} {W:World} {R:Ending->World->Prop} (ht:vk (fg W)) (h:a6 P f args (a7 [.one (.raw (.bool true))])) (hr:ck (fg W) args us) (hR:∀W',Below W.heap.size W W'->R (.returned (.bool true)) W'):Calls P f us.toArray W R:=by
 refine(h W (fg W) us ht (λ_ _ hh=>hh) hr).mono ?_;rintro e w' ⟨v,imm',rfl,hv,_,_,hb⟩;obtain⟨rfl,_⟩:=hv;exact hR w' hb
end
end Go.Hx
