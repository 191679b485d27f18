/- A part of the proof: Hx21. -/
import Derived.ChangeArms
import Derived.OpenShut
import Derived.ProofKit
import Derived.WalkKit
import Derived.WideKeyArgs
import Derived.Test.YtnlcekpflogjkaaGreatDoorTz12
set_option linter.all false
namespace Go.Hx
section
open Go.RowKit Go.ChangeShapes Go.WideShapes Go.ChangeAt
def Rd (P:Program) (t:TypeId) (n:Nat) {α:Type} (c:α->Nat->PV):Prop :=
 ∀ (H:Type) (enc:TypeId×Value->H) (w:World) (sp:Nat->Bool) (held:Bool) (fuel:Nat) (cs:List Value) (x:DataW H×List MemPlace),DataW.trod enc P w 0 sp held fuel t cs=some x ->
  cs.length=n/\∃a:α,∀j,j<n->∃v,cs[j]? = some v/\au (i9 w) (c a j) v
section
variable {P:Program}{t e:TypeId}
def bsv(k:IntKind)(z:Int):Nat->PV:=fun _=>.raw (.int k z)
def bre(b:Bool):Nat->PV:=fun _=>.raw (.bool b)
def br3(s:ByteArray):Nat->PV:=fun _=>.raw (.string s)
def u8P(u:UInt8):Nat->PV:=fun _=>.raw (.int .u8 (u.toNat:Int))
def bnn (ht:P.underlying t=some (.int .u8)):Rd P t 1 u8P:=by
 intro H enc w sp held fuel cs x h;obtain⟨n,rfl,_,hw⟩:=DataW.trod_int ht h;have hx:0<=n/\n<=255:=by simpa [Lit.wf,IntKind.min,IntKind.max,IntKind.signed,IntKind.bits]using hw
 refine⟨rfl,UInt8.ofNat n.toNat,fun j hj=>?_⟩;obtain rfl:j=0:=by omega
 refine⟨_,rfl, ?_,rfl⟩
 have:(UInt8.ofNat n.toNat).toNat=n.toNat:=by
  rw[UInt8.toNat_ofNat'];omega
 rw[this];congr 1;omega
theorem Rd.co {n:Nat} {α β:Type} {c:α->Nat->PV} {c':β->Nat->PV} (h:Rd P t n c) (f:α->β) (hc:∀a j,j<n->CoP (c a j) (c' (f a) j)):Rd P t n c':=by
 intro H enc w sp held fuel cs x hx;obtain⟨h1,a,h2⟩:=h _ enc w sp held fuel cs x hx;refine⟨h1,f a,fun j hj=>?_⟩;obtain⟨v,h3,h4⟩:=h2 j hj;exact⟨v,h3,hc a j hj _ _ h4⟩
def bkx{α:Type}[Inhabited α](s:Nat)(c:α->Nat->PV)(l:List α):Nat->PV:=fun _=>psl s c l
def ay6 {H:Type} {enc:TypeId×Value->H} {w:World} {sp:Nat->Bool} {held:Bool} {fuel:Nat} {cs:List Value} {x:DataW H×List MemPlace} {fs:Array Field} (ht:P.underlying t=some (.struct fs)) (h:DataW.trod enc P w 0 sp held fuel t cs=some x) :
 cs.length=P.cellsOf t/\∃n,∀(i:Nat) (f:Field),fs[i]? = some f->∃y,DataW.trod enc P w 0 sp held n f.type ((cs.drop f.offset).take (P.cellsOf f.type))=some y:=by
 obtain⟨xs,n,_,_,h1,h2,h3⟩:=DataW.trod_struct ht h;refine⟨h1,n,fun i f hf=>?_⟩;have:=h3 i f hf;rw[this];have hi:i<xs.length:=by rw[h2];exact(bt5.1 hf).1
 exact⟨_,bt0 hi⟩
def ao9 {H:Type} {enc:TypeId×Value->H} {w:World} {sp:Nat->Bool} {held:Bool} {n off s:Nat} {ft:TypeId} {cs:List Value} {y:DataW H×List MemPlace} {α:Type} {c:α->Nat->PV} (h:Rd P ft s c) (hy:DataW.trod enc P w 0 sp held n ft ((cs.drop off).take (P.cellsOf ft))=some y) :
 ∃a:α,∀j,j<s->∃v,cs[off+j]? = some v/\au (i9 w) (c a j) v:=by
 obtain⟨h1,a,h2⟩:=h _ enc w sp held n _ y hy;refine⟨a,fun j hj=>?_⟩;obtain⟨v,h3,h4⟩:=h2 j hj;refine⟨v, ?_,h4⟩;rw[bug]at h3;split at h3
 · rwa [bw6]at h3
 cases h3
end
def akz {W W':World} (hb:Below W.heap.size W W') (may:MemPlace->Prop):W.keptBut W' may:=by
 refine⟨hb.os,hb.output,fun i hi=>?_⟩;rw[hb.block i hi]
 cases W.heap[i]? with
 |none=>exact rfl
 |some o=>cases o<;>first|exact⟨rfl,rfl,rfl,fun _ _=>rfl⟩|exact .inr ⟨rfl,rfl⟩|exact rfl
def akv {W W':World} (hb:Below W.heap.size W W') (p:MemPlace) (hp:p.block<W.heap.size):W.sameAt W' p:=by
 cases p with
 |cell b off=>show W'.cell? _=W.cell? _;unfold World.cell?;rw[hb.block b hp]
 |map b=>exact hb.block b hp
section
variable {H:Type}{enc:TypeId×Value->H}{P:Program}
def a6c (hl:laidOutB P=true) {W W':World} {sp':Nat->Bool}:∀{ts:List TypeId} {vs:List Value} {ds:List (DataW H)} {ps:List MemPlace},(∀t∈ts,P.readableRec t=true/\t<P.types.size)->DataW.TrodAll enc P W 0 (fun _=>true) true ts vs ds ps ->
 (∀p∈ps,W.sameAt W' p)->(∀p∈ps,sp' p.block=true)->DataW.TrodAll enc P W' 0 sp' true ts vs ds ps
 | [],[],[],ps,_,h,_,_=>h
 | t::ts,v::vs,d::ds,ps,ht,⟨p,q,h1,h2,e⟩,hs,hsp=>by
  subst e;refine⟨p,q,WideElems.Trod_stays hl (ht t bx8).1 (ht t bx8).2 h1 (fun z hz=>hs z (by simp[hz])) (fun z hz=>hsp z (by simp[hz])), ?_,rfl⟩;exact a6c hl (fun t ht'=>ht t (by simp[ht'])) h2 (fun z hz=>hs z (by simp[hz])) (fun z hz=>hsp z (by simp[hz]))
 | [],_::_,_,_,_,h,_,_=>h.elim
 | [],[],_::_,_,_,h,_,_=>h.elim
 |_::_,[],_,_,_,h,_,_=>h.elim
 |_::_,_::_,[],_,_,h,_,_=>h.elim
def b5y{f:Func}{s:ChangeSpec}{W W':World}{args:Array Value}{ds:List (DataW H)}{before:List MemPlace}{tb:TypeId}(hl:laidOutB P=true)(hpar:∀t∈f.params.toList,P.readableRec t=true/\t<P.types.size)
 (hres:f.resultTypes=#[tb]) (htb:P.underlying tb=some .bool) (hv:s.vars=[]) (hfn:s.fn H ds={ results:=[.lit (.bool true)],args:=ds })
 (hW:DataW.Whole enc P f.params.toList s.vars false W args.toList ds [] before) (hb:Below W.heap.size W W'):s.post enc P f false true false false W args (.bool true) W':=by
 have hW':=hW;have hlt:∀p∈before,p.block<W.heap.size:=fun p hp=>hW.lt p hp;obtain⟨p,q,hA,hV,rfl,hfz,hnd⟩:=hW;rw[hv]at hV;obtain⟨_,rfl⟩:=trodVars_none hV;have hfn':s.fn H (ds++[])={ results:=[.lit (.bool true)],args:=ds }:=by rw[btq];exact hfn
 have hargs:∀sp:Nat->Bool,(∀z∈p++[],sp z.block=true)->DataW.TrodAll enc P W' 0 sp true f.params.toList args.toList (s.fn H (ds++[])).args p:=fun sp hsp=>by
  rw[hfn'];exact a6c hl hpar hA (fun z hz=>akv hb z (hlt z (by simpa using hz))) (fun z hz=>hsp z (by simpa using hz))
 have hrs:∀(b:Nat) (sp:Nat->Bool) (hd:Bool),DataW.TrodAll enc P W' b sp hd f.resultTypes.toList ((Value.bool true).resultList f.resultTypes.size) (s.fn H (ds++[])).results []:=fun b sp hd=>by
  rw[hfn',hres];exact trodAll_cons_mk (shut_bool htb _) trodAll_mk0
 have hok:∀(j:Nat) (t:TypeId) (r:Value),f.resultTypes[j]? = some t->((Value.bool true).resultList f.resultTypes.size)[j]? = some r->Value.okWide P W' .any 0 t r:=ok_one hres rfl (okWide_bool_mk htb _)
 have hvars:∀sp:Nat->Bool,(∀z∈p++[],sp z.block=true)->DataW.TrodVars enc P W' sp s.vars (s.fn H (ds++[])).vars []:=fun sp _=>by
  rw[hfn',hv];exact rfl
 have hold:∀z∈p++[],(fun b=>decide (b<W.heap.size)) z.block=true:=fun z hz=>by simpa using hlt z hz
 refine⟨ds,[],p++[],[],p,[],hW',hrs _ _ _,hargs _ hold,hvars _ hold,World.keptBut_mono (fun z hz=>⟨hz, ?_⟩) (akz hb (·∈p++[])),fun _=>?_⟩
 · exact Or.inr (by simpa using hz)
 refine⟨hok,_,_,([]++p)++[],⟨[]++p,[],trodAll_append (hargs _ (fun _ _=>rfl)) (hrs _ _ _),hvars _ (fun _ _=>rfl),rfl, ?_, ?_⟩, ?_⟩
 · intro b off hp
   have hp':MemPlace.cell b off∈p++[]:=by simpa using hp
   have:=hfz b off hp';unfold World.frozen? at this ⊢;rw[hb.block b (hlt _ hp')];exact this
 · intro ha;cases ha
 intro z hz _;simpa using hz
end
def b1c {P:Program} {f:FuncId} {args:List PC} {us:List Value} {W:World} {R:Ending->World->Prop} (ht:tx (i9 W)) (h:a7 P f args (ae [.one (.raw (.bool true))])) (hr:cu (i9 W) args us) (hR:∀W',Below W.heap.size W W'->R (.returned (.bool true)) W'):Calls P f us.toArray W R:=by
 refine(h W (i9 W) us ht (fun _ _ hh=>hh) hr).mono ?_;rintro e w' ⟨v,imm',rfl,hv,_,_,hb⟩;obtain⟨rfl,_⟩:=hv;exact hR w' hb
end
end Go.Hx
