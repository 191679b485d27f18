/- A part of the proof: Hx13 Hx14 Hx15. -/
import Derived.Test.YtnlcekpflogjkaaGreatDoorTy10
set_option linter.all false
namespace Go.Hx
section
open Go.RowKit
def rt (ops:Array Oper) (j:Nat):List Nat :=
 match ops[j]? with
 |some o=>(o.after.toList.filter fun e=>Region.binds .any e).map (·.on)
 |none=>[]
def a4f (acc:List Nat):List Nat->Nat
 | []=>0
 |e::r=>a4f acc r|||2^e|||acc.getD e 0
def xu (ops:Array Oper):Nat->List Nat
 |0=>[]
 |n+1=>xu ops n++[a4f (xu ops n) (rt ops n)]
def pe (ops:Array Oper):∀n,(xu ops n).length=n
 |0=>rfl
 |n+1=>by simp[xu,pe ops n]
theorem yj (ops:Array Oper):∀n j,j<n->(xu ops n).getD j 0=a4f (xu ops j) (rt ops j)
 | n + 1,j,h=>by
  simp only[xu,bsv];by_cases hj:j<n
  · rw [bvb (by rw[pe];exact hj)]
    have:=yj ops n j hj
    grind
  have:j=n:=by omega
  subst this;rw[bv0 (by rw[pe];omega),pe];simp
theorem aeg (acc:List Nat) (i:Nat):∀l,(a4f acc l).testBit i=true->∃e∈l,e=i\/(acc.getD e 0).testBit i=true
 | [],h=>by simp[a4f]at h
 | e :: r,h=>by
  simp only[a4f,Nat.testBit_or,bud,Nat.testBit_two_pow,decide_eq_true_eq]at h
  rcases h with(h|h)|h
  · obtain ⟨e',he,hh⟩:=aeg acc i r h
    grind
  · grind
  grind
def aed(ops:Array Oper)(j i:Nat):Bool:=((xu ops (j+1)).getD j 0).testBit i
structure Inv (ops:Array Oper) (listed:Array Bool):Prop where
 size:listed.size=ops.size
 closed:∀j,listed.getD j false=true->∀e∈rt ops j,listed.getD e false=true
section
variable {listed:Array Bool}{ops:Array Oper}
def amn(inv:Inv ops listed):∀j,(∀e∈rt ops j,listed.getD e false=true)->∀i,aed ops j i=true->listed.getD i false=true:=by
 intro j
 induction j using Nat.strongRecOn with
 | _ j ih =>
  intro hd i hr;unfold aed at hr;rw[yj ops (j+1) j bww]at hr;obtain⟨e,he,hh⟩:=aeg _ i _ hr
  rcases hh with rfl|hh
  · exact hd e he
  by_cases hej:e<j
  · rw [yj ops j e hej]at hh
    refine ih e hej (fun e' he'=>inv.closed e (hd e he) e' he') i ?_;unfold aed;rw[yj ops (e+1) e bww];exact hh
  rw[bsv,bwr (by rw[pe];omega)]at hh;simp at hh
theorem mem_ready' {i:Nat}:i∈Region.ready .any ops listed<->(i<ops.size/\listed.getD i true=false/\∀e∈rt ops i,listed.getD e false=true):=by
 unfold Region.ready rt;simp only[bul,btj,bt5,bu4];constructor
 · rintro ⟨h1,h2,h3⟩
   refine⟨h1,h2, ?_⟩;rw[bue h1]at h3 ⊢;simp only[btr,bu9,Array.all_eq_true']at h3
   grind
 grind
def b4y(ops:Array Oper)(j d:Nat):Bool:=(rt ops j).any (Nat.beq d)
def b1p {j d:Nat} (h:b4y ops j d=false):d∉rt ops j:=by
 intro hm;unfold b4y at h;rw[buk]at h;exact h d hm bx0
def xo(ops:Array Oper)(x y:Tr):Bool:=!(Nat.beq x.i y.i)&&!b4y ops x.i y.i&&(aed ops y.i x.i||aek ops x y)
def a9z (ops:Array Oper):List Tr->Bool
 | []=>true
 |x::T=>T.all (xo ops x)&&a9z ops T
def afj(ops:Array Oper)(x:Tr):Bool:=Nat.blt x.i ops.size&&(rt ops x.i).all fun d=>Nat.blt d ops.size&&!(Nat.beq d x.i)
def adm (ops:Array Oper) (T:List Tr):Bool :=
 Nat.beq T.length ops.size&&(List.range ops.size).all (fun k=>T.any fun t=>Nat.beq t.i k)&&T.all (afj ops)&&a9z ops T
def a0d:∀{T:List Tr},a9z ops T=true->T.Pairwise fun x y=>xo ops x y=true
 | [],_=>List.Pairwise.nil
 | x::T,h=>by
  simp only[a9z,bt5,btl]at h;exact List.Pairwise.cons h.1 (a0d h.2)
end
section
variable {P:Program}{E:Env}{nt:Nat}{ops:Array Oper}{w0:World}{m0:Old}{sf:S}
def b2o (m j:Nat):(Array.replicate m false).getD j false=false:=by
 rcases bwf j m with h|h<;>simp[h]
def afa {l:Array Bool} {i:Nat} (hi:i<l.size):(l.getD i true=false)<->¬(l.getD i false=true):=by
 simp[hi]
section
variable {Q:Exit->Act->World->Prop}{ro:Option Nat}
theorem ahq (hE:d7 P E) {n:Nat} (hQ:∀a' w',Rel w0 m0 nt sf a' w'->Q .normal a' w'):
 ∀ (fuel:Nat) (listed:Array Bool) (T:List Tr) (s:S) (a:Act) (w:World),T.length=fuel->Inv ops listed->(∀i,i<ops.size->(listed.getD i true=false<->∃t∈T,t.i=i)) ->
  (∀t∈T,afj ops t=true)->(T.Pairwise fun x y=>xo ops x y=true)->nk P E nt ops T s sf->Rel w0 m0 nt s a w->wpAnyIn (rf ro) n P .any ops Q fuel listed a w:=by
 intro fuel
 induction fuel with
 | zero =>
  intro listed T s a w hl inv hun _ _ hT hr;have:T=[]:=bua hl;subst this;cases hT;refine⟨?_,hQ _ _ hr⟩
  cases hrd:Region.ready .any ops listed with
  |nil=>rfl
  | cons i r =>
   have hi:i∈Region.ready .any ops listed:=by rw[hrd];simp
   obtain⟨h1,h2,_⟩:=mem_ready'.1 hi
   grind
 | succ fuel ih =>
  intro listed T s a w hl inv hun hself hpw hT hr;refine⟨fun hnil=>?_,fun i hi=>?_⟩
  ·
   exfalso
   cases T with
   |nil=>simp at hl
   | cons x T =>
    have hs:=hself x bx0;simp only[afj,bt5,btl,bu4]at hs;obtain⟨hs1,hs2⟩:=hs;have hs1:x.i<ops.size:=by simpa [bvx]using hs1
    have hx:x.i∈Region.ready .any ops listed:=by
     refine mem_ready'.2 ⟨hs1,(hun x.i hs1).2 ⟨x,by simp,rfl⟩,fun d hd=>?_⟩;obtain⟨hd1,hd2⟩:=hs2 d hd;have hd1:d<ops.size:=by simpa [bvx]using hd1
     have hd2:d≠x.i:=by rintro rfl;simp at hd2
     apply Classical.byContradiction;intro hne;have hu:=(afa (by rw[inv.size];exact hd1)).2 hne;obtain⟨t,ht,hti⟩:=(hun d hd1).1 hu
     rcases bt7.1 ht with rfl|ht
     · grind
     have:=(bty.1 hpw).1 t ht;simp only[xo,bt5,bu4]at this;exact b1p this.1.2 (by rw[hti];exact hd)
    grind
  obtain⟨h1,h2,h3⟩:=mem_ready'.1 hi;obtain⟨y,hy,hyi⟩:=(hun i h1).1 h2;obtain⟨pre,post,rfl⟩:=List.append_of_mem hy
  have hpass:∀x∈pre,aek ops x y=true:=by
   intro x hx;have hp:xo ops x y=true:=(List.pairwise_append.1 hpw).2.2 x hx y bx0;simp only[xo,bt5,bud]at hp
   rcases hp.2 with hre|hpa
   · exfalso
     have hl:=amn inv y.i (by rw[hyi];exact h3) x.i hre;have hsx:=hself x (by simp[hx]);simp only[afj,bt5]at hsx;have hsx1:x.i<ops.size:=by simpa [bvx]using hsx.1
     grind
   exact hpa
  have hfront:=amg hT hpass
  cases hfront with
  | @cons iy an R O F o _ _ v wr _ hio he hR hO hF hrest =>
  have hyi':iy=i:=hyi;subst hyi';refine a7b hE he hr hio fun a' w' hr'=>?_;have hsub:List.Sublist (pre++post) (pre++(⟨iy,an,R,O,F⟩:Tr)::post):=(List.Sublist.refl pre).append (List.sublist_cons_self _ _);have hsz:iy<listed.size:=by rw[inv.size];exact h1
  refine ih (listed.setIfInBounds iy true) (pre++post) _ a' w' (by simp at hl ⊢;omega) ⟨by simp[inv.size],fun j hj e he=>?_⟩ (fun k hk=>?_) (fun t ht=>hself t (hsub.subset ht)) (hpw.sublist hsub) hrest hr'
  · by_cases hji:iy=j
    · subst hji
      exact getD_set_true (h3 e he)
    rw[getD_set_ne false hji]at hj;exact getD_set_true (inv.closed j hj e he)
  by_cases hki:iy=k
  · subst hki
    constructor
    · simp_all
    rintro⟨t,ht,hti⟩;exfalso
    rcases btd.1 ht with ht|ht
    · have hp:=(List.pairwise_append.1 hpw).2.2 t ht ⟨iy,an,R,O,F⟩ bx0
      simp only[xo,bt5,bu4]at hp;simp_all
    have hp:=(bty.1 (List.pairwise_append.1 hpw).2.1).1 t ht;simp only[xo,bt5,bu4]at hp;simp_all
  rw[getD_set_ne true hki,hun k hk]
  grind
def afo (hE:d7 P E) {n:Nat} (hm:P.follows .mixedOrders=true) {id:Nat} {T:List Tr} {s:S} {a:Act} {w:World} (hT:nk P E nt ops T s sf) (hc:adm ops T=true) (hr:Rel w0 m0 nt s a w) (hQ:∀a' w',Rel w0 m0 nt sf a' w'->Q .normal a' w'):(Code.region id ops true).wpIn (rf ro) n P Q a w:=by
 simp only[adm,bt5,btl]at hc;obtain⟨⟨⟨h1,h2⟩,h3⟩,h4⟩:=hc;refine wpIn_region_any hm ?_;refine ahq hE hQ ops.size _ T s a _ (by simpa using h1) ⟨by simp,fun j hj=>?_⟩ (fun i hi=>⟨fun _=>?_,fun _=>by simp[hi]⟩) h3 (a0d h4) hT ?_
 · rw[b2o]at hj;cases hj
 · simp_all
 obtain⟨c,hold,hr⟩:=hr;exact⟨c,hold,hr.drew⟩
def a4g (hE:d7 P E) {n:Nat} (hQ:∀a' w',Rel w0 m0 nt sf a' w'->Q .normal a' w'):∀(T:List Tr) (s:S) (a:Act) (w:World),nk P E nt ops T s sf->Rel w0 m0 nt s a w->wpOpsIn (rf ro) n P ops Q (T.map (·.i)) a w
 | [],s,a,w,hT,hr=>by
  cases hT;exact hQ _ _ hr
 | t::T,s,a,w,hT,hr=>by
  cases hT with
  |cons hi he hR hO hF hrest =>
  rw[buf,wpOpsIn_cons];exact a7b hE he hr hi fun a' w' hr'=>a4g hE hQ T _ a' w' hrest hr'
end
end
def ay {α:Type}:List (Nat×Option α)->Nat->Option α
 | [],_=>none
 |(e,x)::r,d=>bif Nat.beq e d then x else ay r d
structure HSt where
 t:List (Nat×Option HR)
 o:List (Nat×Option a7)
def HSt.den(st:HSt):S:=⟨ay st.t,ay st.o⟩
def HSt.after (st:HSt) (d:Option Tmp) (x:Option HR) (wr:Wr):HSt :=
 ⟨match d with|some d=>(d,x)::st.t|none=>st.t,wr++st.o⟩
theorem am7 (l:List (Nat×Option a7)):∀(wr:Wr),ay (wr++l)=fun k=>match j9 wr k with|some r=>r|none=>ay l k
 | []=>rfl
 | (e,x)::r=>by
  funext k;have ih:=congrFun (am7 l r) k;simp only[but,ay,j9]
  grind
def aw {α:Type} (e:Nat) (x:Option α) (l:List (Nat×Option α)):ay ((e,x)::l)=fun k=>if k=e then x else ay l k:=by
 funext k;simp only[ay];by_cases h:k=e
 · subst h;simp
 have:Nat.beq e k=false:=by
  rw[btb];intro hb;simp_all
 simp[h,this]
def mn (st:HSt) (d:Option Tmp) (x:Option HR) (wr:Wr):(st.after d x wr).den=st.den.after d x wr:=by
 unfold HSt.after HSt.den S.after S.putD S.setW S.put;cases d<;>simp[aw,am7]<;>rfl
def afv(id:Nat)(l:List Nat):Bool:=!(l.any (Nat.beq id))
def nmT (id:Nat):List (Nat×Option HR)->Bool
 | []=>true
 |(_,some x)::r=>afv id x.ids&&nmT id r
 |(_,none)::r=>nmT id r
def nmO (id:Nat):List (Nat×Option a7)->Bool
 | []=>true
 |(_,some x)::r=>afv id x.ids&&nmO id r
 |(_,none)::r=>nmO id r
section
variable {id:Nat}
def a52 {l:List Nat} (h:afv id l=true):id∉l:=by
 intro hm;simp only[afv,bu4]at h;rw[buk]at h;exact h id hm bx0
def a5v:∀{l:List (Nat×Option HR)},nmT id l=true->∀d x,ay l d=some x->¬x.men id
 | [],_,d,x,h=>by simp[ay]at h
 | (e,some y)::r,h,d,x,hl=>by
  simp only[nmT,bt5]at h;rw[aw]at hl;dsimp only at hl;split at hl
  · simp only [bst]at hl
    subst hl;exact fun hm=>a52 h.1 (HR.men_ids hm)
  exact a5v h.2 d x hl
 | (e,none)::r,h,d,x,hl=>by
  rw[aw]at hl;dsimp only at hl;split at hl
  · cases hl
  exact a5v (by simpa [nmT]using h) d x hl
def acb:∀{l:List (Nat×Option a7)},nmO id l=true->∀d x,ay l d=some x->¬x.men id
 | [],_,d,x,h=>by simp[ay]at h
 | (e,some y)::r,h,d,x,hl=>by
  simp only[nmO,bt5]at h;rw[aw]at hl;dsimp only at hl;split at hl
  · simp only [bst]at hl
    subst hl;exact fun hm=>a52 h.1 (a7.men_ids hm)
  exact acb h.2 d x hl
 | (e,none)::r,h,d,x,hl=>by
  rw[aw]at hl;dsimp only at hl;split at hl
  · cases hl
  exact acb (by simpa [nmO]using h) d x hl
def jp(id:Nat)(st:HSt):Bool:=Nat.blt id 1000&&nmT id st.t&&nmO id st.o&&(match ay st.o id with|none=>true|some _=>false)
theorem ek {st:HSt} (h:jp id st=true):NM st.den id/\st.den.o id=none:=by
 simp only[jp,bt5]at h;obtain⟨⟨⟨h0,h1⟩,h2⟩,h3⟩:=h;refine⟨⟨a5v h1,acb h2,by simpa [bvx]using h0⟩, ?_⟩;show ay st.o id=none
 grind
end
section
variable {P:Program}{E:Env}{nt:Nat}{ops:Array Oper}{i:Nat}{o:Oper}{st:HSt}{T:List Tr}{sf:S}
def abl(ex:Bool)(M:List Nat):Ann:=⟨0,false,ex, .tup [],[],[],M⟩
def Reg (P:Program) (E:Env) (nt:Nat) (ops:Array Oper) (L:List Nat) (st:HSt) (K:List Tr->HSt->Prop):Prop :=
 ∃T sf,T.map (·.i)=L/\nk P E nt ops T st.den (HSt.den sf)/\K T sf
variable {L:List Nat}{K:List Tr->HSt->Prop}
def cj(h:K [] st):Reg P E nt ops [] st K:=⟨[],st,rfl, .nil _,h⟩
section
variable {gb:Bool}
def c7 (ex:Bool) {out:Out} (hi:ops[i]? = some o) (hw:be ops st.den o=some gb) (hd:d6 nt o.dst=true) (hq':hq E ex st.den.o (ev st.den) o.op=some out) (hg:gb=true) (hp:out.pre) (hT:Reg P E nt ops L (st.after o.dst (some out.val) []) fun T sf=>K (⟨i,abl ex out.val.ids,looks st.den o,cq st.den o.dst [],gm E st.den o⟩::T) sf):Reg P E nt ops (i::L) st K:=by
 obtain⟨T,sf,h1,h2,h3⟩:=hT;exact⟨_,sf,by rw[<- h1];rfl, .cons hi (.quiet out (by rw[hw,hg]) hd hq' hp rfl) rfl (fun _ hk=>hk) (fun f hf=>⟨hf,by rw[hw,hg]⟩) (by rw[mn]at h2;exact h2),h3⟩
def ast (hi:ops[i]? = some o) (hw:be ops st.den o=some gb) (hd:d6 nt o.dst=true) (hg:gb=false) (hT:Reg P E nt ops L (st.after o.dst (some (.tup [])) []) fun T sf=>K (⟨i,abl true [],looks st.den o,cq st.den o.dst [],none⟩::T) sf):Reg P E nt ops (i::L) st K:=by
 obtain⟨T,sf,h1,h2,h3⟩:=hT;exact⟨_,sf,by rw[<- h1];rfl, .cons hi (.skip (by rw[hw,hg]) hd) rfl (fun _ hk=>hk) (by intro _ hf;cases hf) (by rw[mn]at h2;exact h2),h3⟩
def bia {out:Out} {id:Nat} (hi:ops[i]? = some o) (hw:be ops st.den o=some gb) (hd:d6 nt o.dst=true) (hq':yg E st.den.o (ev st.den) o.op=some (out,id)) (hg:gb=true) (hp:out.pre) (hT:Reg P E nt ops L (st.after o.dst (some out.val) [(id,none)]) fun T sf=>K (⟨i,⟨0,false,true, .tup [],[id],[],[]⟩,looks st.den o,cq st.den o.dst [(id,none)],none⟩::T) sf):Reg P E nt ops (i::L) st K:=by
 obtain⟨T,sf,h1,h2,h3⟩:=hT;exact⟨_,sf,by rw[<- h1];rfl, .cons hi (.cut out id (by rw[hw,hg]) hd hq' hp rfl) rfl (fun _ hk=>hk) (by intro _ hf;cases hf) (by rw[mn]at h2;exact h2),h3⟩
def wu (id:Nat) {nw:New} (hi:ops[i]? = some o) (hw:be ops st.den o=some gb) (hd:d6 nt o.dst=true) (hq':ha E (ev st.den) id o.op=some nw) (hn:jp id st=true) (hg:gb=true) (hp:nw.pre) (hT:Reg P E nt ops L (st.after o.dst (some nw.val) [(id,some nw.ob)]) fun T sf=>K (⟨i,⟨id,false,true, .tup [],[id],[id],nw.val.ids++nw.ob.ids⟩,looks st.den o,cq st.den o.dst [(id,some nw.ob)],none⟩::T) sf):Reg P E nt ops (i::L) st K:=by
 obtain⟨T,sf,h1,h2,h3⟩:=hT;exact⟨_,sf,by rw[<- h1];rfl, .cons hi (.make nw (by rw[hw,hg]) hd hq' hp (ek hn).1 (ek hn).2 rfl rfl rfl) rfl (fun _ hk=>hk) (by intro _ hf;cases hf) (by rw[mn]at h2;exact h2),h3⟩
def anc {u:Upd} (hi:ops[i]? = some o) (hw:be ops st.den o=some gb) (hd:d6 nt o.dst=true) (hq':hs E st.den.o (ev st.den) o.op=some u) (hg:gb=true) (hp:u.pre) (hT:Reg P E nt ops L (st.after o.dst none [(u.id,some u.ob)]) fun T sf=>K (⟨i,⟨0,false,true, .tup [],[u.id],[],u.ob.ids⟩,looks st.den o,cq st.den o.dst [(u.id,some u.ob)],gm E st.den o⟩::T) sf):Reg P E nt ops (i::L) st K:=by
 obtain⟨T,sf,h1,h2,h3⟩:=hT;exact⟨_,sf,by rw[<- h1];rfl, .cons hi (.store u (by rw[hw,hg]) hd hq' hp rfl (fun _ hk=>hk)) rfl (fun _ hk=>hk) (fun f hf=>⟨hf,by rw[hw,hg]⟩) (by rw[mn]at h2;exact h2),h3⟩
def zp (id:Nat) (wb:Bool) {u:App} (hi:ops[i]? = some o) (hw:be ops st.den o=some gb) (hd:d6 nt o.dst=true) (hq':hap E st.den.o (ev st.den) id wb o.op=some u) (hn:(!u.new||jp id st)=true) (hg:gb=true) (hp:u.pre) (hT:Reg P E nt ops L (st.after o.dst (some u.val) [(u.id,some u.ob)]) fun T sf=>K (⟨i,⟨id,wb,true, .tup [],[u.id],if u.new then[id] else[],u.val.ids++u.ob.ids⟩,looks st.den o,cq st.den o.dst [(u.id,some u.ob)],none⟩::T) sf):Reg P E nt ops (i::L) st K:=by
 obtain⟨T,sf,h1,h2,h3⟩:=hT;exact⟨_,sf,by rw[<- h1];rfl, .cons hi (.app u (by rw[hw,hg]) hd hq' hp (fun h=>ek (by rw[h]at hn;simpa using hn)) rfl (fun h=>by simp[h]) rfl) rfl (fun _ hk=>hk) (by intro _ hf;cases hf) (by rw[mn]at h2;exact h2),h3⟩
def bad {sr ds:TypeId} {x:Operand} {b:ByteArray} (hi:ops[i]? = some o) (hw:be ops st.den o=some gb) (hd:d6 nt o.dst=true) (ho:o.op=.convert sr ds x) (hcv:afq E (ev st.den) sr ds x=some b) (hg:gb=true) (hp:b.size<=maxLen) (hT:Reg P E nt ops L (st.after o.dst (some (.v (.one (.p (.sl b.size 1 false (aw0 b)))))) []) fun T sf=>K (⟨i,⟨0,false,true, .tup [],[],[],[]⟩,looks st.den o,cq st.den o.dst [],none⟩::T) sf):Reg P E nt ops (i::L) st K:=by
 obtain⟨T,sf,h1,h2,h3⟩:=hT;exact⟨_,sf,by rw[<- h1];rfl, .cons hi (.conv sr ds x b (by rw[hw,hg]) hd ho hcv hp rfl) rfl (fun _ hk=>hk) (by intro _ hf;cases hf) (by rw[mn]at h2;exact h2),h3⟩
def asj {cl:Call} {f:FuncId} {fst caps args vs:List PC} {p:Prop} {b:Bool} {res:PR} (hi:ops[i]? = some o) (hw:be ops st.den o=some gb) (hd:d6 nt o.dst=true) (ho:o.op=.call cl) (hc:callee (ev st.den) cl=some (f,fst,caps)) (hv:ll st.den.o (ev st.den) cl.args.toList=some (p,vs,b)) (hf:goodFn P f) (hpure:a6 P f args res) (hco:CoL (fst++(vs++caps)) args) (hg:gb=true) (hp:p) (hb:(!b||res.flat)=true) (hT:Reg P E nt ops L (st.after o.dst (some res.toH) []) fun T sf=>K (⟨i,⟨0,false,true,res,[],[],[]⟩,looks st.den o,cq st.den o.dst [],none⟩::T) sf):Reg P E nt ops (i::L) st K:=by
 obtain⟨T,sf,h1,h2,h3⟩:=hT;exact⟨_,sf,by rw[<- h1];rfl,   .cons hi (.call cl f fst caps args p vs b (by rw[hw,hg]) hd ho hc hf hv hp hco hpure hb rfl) rfl (fun _ hk=>hk) (by intro _ hf;cases hf) (by rw[mn]at h2;exact h2),h3⟩
end
end
def HW {ro:Option Nat} (P:Program) (nt:Nat) (c:Code) (st:HSt) (Q:Exit->HSt->Prop):Prop :=
 ∀w0 m0 a w,Rel w0 m0 nt st.den a w->c.wpIn (rf ro) 0 P (fun e a' w'=>∃st':HSt,Q e st'/\Rel w0 m0 nt st'.den a' w') a w
def sj:List (Nat×Option HR)->List (Nat×Option HR)->Prop
 | [],_=>True
 |(d,some x)::r,l=>(∃y,ay l d=some y/\CoR y x)/\sj r l
 |(_,none)::r,l=>sj r l
def uf:List (Nat×Option a7)->List (Nat×Option a7)->Prop
 | [],_=>True
 |(d,some x)::r,l=>(∃y,ay l d=some y/\CoO y x)/\uf r l
 |(_,none)::r,l=>uf r l
def Sub(st st':HSt):Prop:=sj st.t st'.t/\uf st.o st'.o
def a1w:∀{l l':List (Nat×Option HR)},sj l l'->∀d x,ay l d=some x->∃y,ay l' d=some y/\CoR y x
 | [],_,_,d,x,h=>by simp[ay]at h
 | (e,some y)::r,l',h,d,x,hl=>by
  rw[aw]at hl;dsimp only at hl;split at hl
  · rename_i he;subst he;simp only[bst]at hl;subst hl;exact h.1
  exact a1w h.2 d x hl
 | (e,none)::r,l',h,d,x,hl=>by
  rw[aw]at hl;dsimp only at hl;split at hl
  · cases hl
  exact a1w (l:=r) h d x hl
def a6w:∀{l l':List (Nat×Option a7)},uf l l'->∀d x,ay l d=some x->∃y,ay l' d=some y/\CoO y x
 | [],_,_,d,x,h=>by simp[ay]at h
 | (e,some y)::r,l',h,d,x,hl=>by
  rw[aw]at hl;dsimp only at hl;split at hl
  · rename_i he;subst he;simp only[bst]at hl;subst hl;exact h.1
  exact a6w h.2 d x hl
 | (e,none)::r,l',h,d,x,hl=>by
  rw[aw]at hl;dsimp only at hl;split at hl
  · cases hl
  exact a6w (l:=r) h d x hl
section
variable {ro:Option Nat}{P:Program}{E:Env}{nt:Nat}{st st':HSt}{Q Q':Exit->HSt->Prop}{w0:World}{m0:Old}{a:Act}{w:World}
theorem Rel.sub (hs:Sub st' st) (h:Rel w0 m0 nt st.den a w):Rel w0 m0 nt st'.den a w:=by
 obtain⟨c,hold,h⟩:=h;exact⟨c,hold,h.relax _ (fun d x hx=>a1w hs.1 d x hx) (fun d x hx=>a6w hs.2 d x hx)⟩
section
variable {c:Code}
def auj (h:HW (ro:=ro) P nt c st Q) (hq:∀e st,Q e st->Q' e st):HW (ro:=ro) P nt c st Q' :=
 fun w0 m0 a w hr=>wpIn_mono (h w0 m0 a w hr) fun e a w ⟨st',hQ,hr⟩=>⟨st',hq _ _ hQ,hr⟩
def b22(st':HSt)(hs:Sub st' st)(h:HW (ro:=ro) P nt c st' Q):HW (ro:=ro) P nt c st Q:=fun w0 m0 a w hr=>h w0 m0 a w (hr.sub hs)
def dn(h:Q .normal st):HW (ro:=ro) P nt .skip st Q:=fun _ _ _ _ hr=>wpIn_skip ⟨st,h,hr⟩
variable {id:Nat}
def ck(h:Q (.exit id) st):HW (ro:=ro) P nt (.exit id) st Q:=fun _ _ _ _ hr=>wpIn_exit ⟨st,h,hr⟩
def ae5(h:Q .ret st):HW (ro:=ro) P nt .ret st Q:=fun _ _ _ _ hr=>wpIn_ret ⟨st,h,hr⟩
def bhj {ro:Option Nat} (P:Program) (nt:Nat) (y:Code) (Q:Exit->HSt->Prop):Exit->HSt->Prop
 | .normal,st=>HW (ro:=ro) P nt y st Q
 |e,st=>Q e st
def d5 {x y:Code} (h:HW (ro:=ro) P nt x st (bhj (ro:=ro) P nt y Q)):HW (ro:=ro) P nt (.seq x y) st Q:=fun w0 m0 a w hr=>by
 refine wpIn_seq (wpIn_mono (h w0 m0 a w hr) fun e a' w' ⟨st',hQ,hr'⟩=>?_);cases e<;>simp only[Exit.then]<;>first|exact hQ w0 m0 a' w' hr'|exact⟨st',hQ,hr'⟩
def al {c:Operand} {x y:Code} (b:Bool) (hc:ev st.den c=some (.v (.one (.p (.raw (.bool b)))))) (ht:b=true->HW (ro:=ro) P nt x st Q) (hf:b=false->HW (ro:=ro) P nt y st Q):HW (ro:=ro) P nt (.cond c x y) st Q:=fun w0 m0 a w hr=>by
 obtain⟨cc,hold,hrr⟩:=hr;obtain⟨e1,_⟩:=af hrr hc;exact wpIn_cond_split e1 (fun hb=>ht hb w0 m0 a w ⟨cc,hold,hrr⟩) (fun hb=>hf hb w0 m0 a w ⟨cc,hold,hrr⟩)
def b20 (id:Nat) (Q:Exit->HSt->Prop):Exit->HSt->Prop
 | .exit id',st=>if id'=id then Q .normal st else Q (.exit id') st
 |e,st=>Q e st
theorem a4s (h:HW (ro:=ro) P nt c st (b20 id Q)):HW (ro:=ro) P nt (.block id c) st Q:=fun w0 m0 a w hr=>by
 refine wpIn_block (wpIn_mono (h w0 m0 a w hr) fun e a' w' ⟨st',hQ,hr'⟩=>?_);cases e<;>simp only[Exit.inBlock]<;>try exact⟨st',hQ,hr'⟩
 rename_i id';simp only[b20]at hQ
 grind
def ao5{F:Fence}{m:Nat}{QQ:Exit->Act->World->Prop}(I:Nat->Act->World->Prop)(n0:Nat){a:Act}{w:World}(h₀:I n0 a w)(round:∀n a w,I n a w->c.wpIn F m P (Exit.then (fun a' w'=>∃m,m<n/\I m a' w') QQ) a w):(Code.loop c).wpIn F m P QQ a w:=by
 intro b k cs hro hb hr
 have key:∀n a w,I n a w->∃e a' w',QQ e a' w'/\ArrivesIn (Machine.fenced P F) P (lone (b.atR a (.code c::.inLoop c::k)) cs w) b k cs e a' w':=by
  intro n
  induction n using Nat.strongRecOn with
  | _ n ih =>
   intro a w hI;obtain⟨e,a₁,w₁,hq,harr⟩:=round n a w hI b (.inLoop c::k) cs hro hb hr
   cases e with
   | normal =>
    obtain⟨m,hlt,hI₁⟩:=hq;obtain⟨e₂,a₂,w₂,hq₂,harr₂⟩:=ih m hlt a₁ w₁ hI₁;exact⟨e₂,a₂,w₂,hq₂, .of_steps (StepsIn.trans harr (.one (fenced_calm hb hr rfl) stepR_inLoop)) harr₂⟩
   |exit id=>exact⟨_,a₁,w₁,hq, .pass (x:=.inLoop c) rfl (fun _ _=>.inl bx0) harr⟩
   |goto l=>exact⟨_,a₁,w₁,hq, .pass (x:=.inLoop c) rfl (fun _ _=>.inl bx0) harr⟩
   |ret=>exact⟨_,a₁,w₁,hq, .pass (x:=.inLoop c) rfl (fun _ _=>.inl bx0) harr⟩
   |panic ch=>exact⟨_,a₁,w₁,hq, .pass (x:=.inLoop c) rfl (fun _ _=>.inl bx0) harr⟩
   |outgrown=>exact⟨_,a₁,w₁,hq, .pass (x:=.inLoop c) rfl (fun _ _=>.inl bx0) harr⟩
 obtain⟨e,a',w',hq,harr⟩:=key n0 a w h₀;exact⟨e,a',w',hq, .of_steps (.one (fenced_calm hb hr rfl) stepR_loop) harr⟩
def al2 {ι:Type} (I:ι->HSt) (p:ι->Prop) (μ:ι->Nat) (i:ι) (Q:Exit->HSt->Prop):Exit->HSt->Prop
 | .normal,st=>∃i',p i'/\μ i'<μ i/\Sub (I i') st
 |e,st=>Q e st
def bfb {ι:Type} {body:Code} (I:ι->HSt) (p:ι->Prop) (μ:ι->Nat) (i0:ι) (h0:p i0) (hs:Sub (I i0) st) (round:∀i,p i->HW (ro:=ro) P nt body (I i) (al2 I p μ i Q)):HW (ro:=ro) P nt (.loop body) st Q:=fun w0 m0 a w hr=>by
 refine ao5 (fun n a w=>∃i,p i/\μ i=n/\Rel w0 m0 nt (I i).den a w) (μ i0) ⟨i0,h0,rfl,hr.sub hs⟩ ?_;rintro n a w ⟨i,hp,rfl,hr⟩;refine wpIn_mono (round i hp w0 m0 a w hr) fun e a' w' ⟨st',hQ,hr'⟩=>?_;cases e<;>simp only[Exit.then]<;>try exact⟨st',hQ,hr'⟩
 obtain⟨i',hp',hlt,hsub⟩:=hQ;exact⟨μ i',hlt,i',hp',rfl,hr'.sub hsub⟩
def ak8 (hE:d7 P E) {ops:Array Oper} (h:Reg P E nt ops (List.range ops.size) st fun _ sf=>Q .normal sf):HW (ro:=ro) P nt (.region id ops false) st Q:=fun w0 m0 a w hr=>by
 obtain⟨T,sf,hl,hT,h⟩:=h;refine wpIn_region ?_;rw[<- hl];exact a4g hE (fun a' w' hr'=>⟨sf,h,hr'⟩) T _ a w hT hr
def bc0 (hE:d7 P E) (hm:P.follows .mixedOrders=true) {ops:Array Oper} (L:List Nat) (h:Reg P E nt ops L st fun T sf=>adm ops T=true/\Q .normal sf):HW (ro:=ro) P nt (.region id ops true) st Q:=fun w0 m0 a w hr=>by
 obtain⟨T,sf,hl,hT,hc,h⟩:=h;exact afo hE hm hT hc hr fun a' w' hr'=>⟨sf,h,hr'⟩
def a0e (E:Env) (s:S):List ResultVar->Option (Prop×List HC)
 | []=>some (True,[])
 | .tmp t::r =>
  match s.t t,a0e E s r with
  |some (.v cc),some (p,l)=>some (p,cc::l)
  |_,_=>none
 | .cell ad ty::r =>
  match nn E s.o (ev s) ty (.tmp ad),a0e E s r with
  |some ⟨p1, .v cc⟩,some (p,l)=>some (p1/\p,cc::l)
  |_,_=>none
def rg (o:au):List HC->Option (Prop×List PC)
 | []=>some (True,[])
 | x::r =>
  match a1b o x,rg o r with
  |some (p,y,_),some (q,ys)=>some (p/\q,y::ys)
  |_,_=>none
def ae:List PC->PR
 | [x]=>.v x
 |l=>.tup l
def afm (E:Env) (st:HSt) (rs:List ResultVar) (res:List PC):Prop :=
 ∃p l q vs,a0e E st.den rs=some (p,l)/\p/\rg st.den.o l=some (q,vs)/\q/\CoL vs res
def aak {t:TypeId} {u v:Value} (h:(Instr.loadAt t u).run P w=.ok v w):∃ad,u=.pointer (some ad)/\(loadVar t ad).run P w=.ok v w:=by
 cases u<;>try(simp[Instr.loadAt,Instr.sureAddr]at h;done)
 rename_i ad
 cases ad with
 |none=>simp[Instr.loadAt,Instr.sureAddr]at h
 |some ad=>exact⟨ad,rfl,by simpa [Instr.loadAt,Instr.sureAddr]using h⟩
def yr (hE:d7 P E) {c:Ctx} {s:S} (h:ah w0 nt c s a w) (F:ResultVar->Sem Value) (F1:∀t,F (.tmp t)=pure (a.tmps.getD t undef)) (F2:∀ad t,F (.cell ad t)=do loadVar t (<- asAddr (a.tmps.getD ad undef))) :
 ∀{rs:List ResultVar} {p:Prop} {l:List HC},a0e E s rs=some (p,l)->p->∃vs:List Value,(rs.mapM F).run P w=.ok vs w/\c6 c s.o l vs
 | [],p,l,hr,_=>by
  simp only[a0e,bst,bt2]at hr;obtain⟨_,rfl⟩:=hr;exact⟨[],by simp,trivial⟩
 | .tmp t::r,p,l,hr,hp=>by
  simp only[a0e]at hr;split at hr<;>try(cases hr;done)
  rename_i cc p1 l1 ht hr1;simp only[bst,bt2]at hr;obtain⟨rfl,rfl⟩:=hr;obtain⟨vs,h1,h2⟩:=yr hE h F F1 F2 hr1 hp;refine⟨a.tmps.getD t undef::vs, ?_,h.tmps t _ ht,h2⟩;simp_all
 | .cell ad ty::r,p,l,hr,hp=>by
  simp only[a0e]at hr;split at hr<;>try(cases hr;done)
  rename_i p1 cc p2 l2 hld hr1;simp only[bst,bt2]at hr;obtain⟨rfl,rfl⟩:=hr;obtain⟨v,hv,hvr⟩:=a8q hE h hld hp.1;obtain⟨ad',he,hlv⟩:=aak hv;have he':a.tmps.getD ad undef=.pointer (some ad'):=he;obtain⟨vs,h1,h2⟩:=yr hE h F F1 F2 hr1 hp.2;refine⟨v::vs, ?_,hvr,h2⟩;rw[List.mapM_cons,F2,he'];simp only[asAddr,bu3,buh,bth,hlv,h1]
def qh {c:Ctx} {s:S} (h:ah w0 nt c s a w) {m:Imm} (hm:a0u w0 c w m):∀{l:List HC} {us:List Value} {p:Prop} {vs:List PC},c6 c s.o l us->rg s.o l=some (p,vs)->p->d8 m vs us
 | [],[],p,vs,_,hv,_=>by
  simp only[rg,bst,bt2]at hv;obtain⟨_,rfl⟩:=hv;trivial
 | x::l,u::us,p,vs,hr,hv,hp=>by
  simp only[rg]at hv;split at hv<;>try(cases hv;done)
  rename_i p1 y b q ys h1 h2;simp only[bst,bt2]at hv;obtain⟨rfl,rfl⟩:=hv;exact⟨(aat h hm hr.1 h1 hp.1).1,qh h hm hr.2 h2 hp.2⟩
 | [],_::_,_,_,hr,_,_=>hr.elim
 |_::_,[],_,_,hr,_,_=>hr.elim
theorem Rel.strike {P:Program} {nt:Nat} {st:S} {w0:World} {m0:Old} {fn:Func} {R:Ending->World->Prop}:∀{l:List Deferred} {a:Act} {w:World},a.defers=l->Rel w0 m0 nt st a w ->
 (∀w',Rel w0 m0 nt st { a with defers:=[] } w'->∃v,(results fn a.tmps).run P w'=.ok v w'/\R (.returned v) w')->LeavesInM (rf none) 0 P fn a.tmps R l .returning w
 | [],a,w,hl,hr,h=>by
  obtain⟨tm,ds⟩:=a;simp only at hl;subst hl;obtain⟨v,h1,h2⟩:=h w hr;exact⟨v,h1,h2⟩
 | d :: l,a,w,hl,hr,h=>by
  obtain⟨tm,ds⟩:=a;simp only at hl;subst hl;obtain⟨c,hold,hrc⟩:=hr;obtain⟨hpw,hds⟩:=hrc.defers;obtain⟨D,rfl,h2,h3,h4,h5⟩:=hds d bx0;refine⟨by simp, .inl ⟨D,_,rfl,run_takeDeferred h2, ?_⟩⟩
  have hne:∀b,b≠D->(w.putObj D (.deferred none)).heap[b]? = w.heap[b]?:=fun b hb=>by
   show(w.heap.setIfInBounds D _)[b]? = _
   grind
  refine Rel.strike (a:={ tmps:=tm,defers:=l }) (w:=w.putObj D (.deferred none)) rfl ⟨c,hold,⟨(bty.1 hpw).2,fun d' hd'=>?_⟩,hrc.size, ?_,hrc.tmps,fun id ob ho=>?_,hrc.inj,fun b ob hb=>?_,hrc.sep,hrc.was,fun b ob hb=>?_,hrc.fsep,hrc.fixed⟩ h
  · obtain ⟨D',rfl,g2,g3⟩:=hds d' (by simp[hd'])
    refine⟨D',rfl,(hne D' fun e=>(bty.1 hpw).1 _ hd' (by rw[e])).trans g2,g3⟩
  · have hb:=hrc.below
    exact⟨hb.os,hb.tape,hb.output,by show _<=(w.heap.setIfInBounds D _).size;rw[Array.size_setIfInBounds];exact hb.size,fun k hk=>absurd hk (bt1 k),hb.drawn⟩
  · refine (hrc.objs id ob ho).keep (Imm.le.refl _) rfl rfl (fun _ _=>Evo.refl _ _ _) fun b hb=>hne b fun e=>?_
    obtain⟨x1,hc,hdt⟩:=(hrc.objs id ob ho).data hb;rw[e,h2]at hc;cases hc;cases hdt
  · refine (hne b fun e=>?_).trans (hrc.imm b ob hb)
    grind
  refine(hne b fun e=>?_).trans (hrc.frm b ob hb)
  grind
def a4o:Nat->List PC->List (Nat×Option HR)
 |_,[]=>[]
 |i,x::r=>(i,some (.v x.toH))::a4o (i+1) r
theorem afk:∀(l:List PC) (i d:Nat) (r:HR),ay (a4o i l) d=some r->∃x,i<=d/\l[d-i]? = some x/\r=.v x.toH
 | [],i,d,r,h=>by simp[a4o,ay]at h
 | x::l,i,d,r,h=>by
  simp only[a4o]at h;rw[aw]at h;dsimp only at h;split at h
  · grind
  rename_i hd;obtain⟨y,h1,h2,h3⟩:=afk l (i+1) d r h
  grind
theorem b3o (hE:d7 P E) {f:FuncId} {fn:Func} {body:Code} {args res:List PC} (hf:P.funcs[f]? = some fn) (hb:fn.body=some body) (hn:fn.ntmps=nt) (hl:args.length<=nt)
 (h:HW (ro:=none) P nt body ⟨a4o 0 args,[]⟩ fun e st=>(e=.normal\/e=.ret)/\afm E st fn.results.toList res):a6 P f args (ae res):=by
 intro w imm us htab himm hargs;refine(callsIn_wide (n:=0)).1 (callsIn_of_wp_marks hf hb trivial ?_ rfl);have hul:=hargs.length
 let a0:Act:={ tmps:=us.toArray++Array.replicate (fn.ntmps-us.toArray.size) undef,defers:=[] }
 have hrel:Rel w (imm,fw w,(fun _=>undef),(fun _=>none),fun _ _=>undef) nt (HSt.den ⟨a4o 0 args,[]⟩) a0 w:=by
  refine⟨{ old:=(imm,fw w,(fun _=>undef),(fun _=>none),fun _ _=>undef),imm:=imm,tab:=htab,own:=fun _=>undef,blk:=fun _=>noB,rows:=fun _ _=>undef },rfl,th.nil _ _ _ _, ?_,Below.refl _ _,fun d x hx=>?_,fun id ob ho=>?_,fun i i' ob ob' b ho=>?_,himm,fun id ob b ho=>?_,fun b _=>rfl,fun b ob hb=>hb,fun id ob b ho=>?_,fun id _=>.inl rfl⟩
  · grind
  · obtain ⟨y,_,hy,rfl⟩:=afk args 0 d x hx
    simp only[Nat.sub_zero]at hy;obtain⟨u,hu,hr⟩:=hargs.get d y hy;have hd:d<us.length:=(buw.1 hu).1
    have:a0.tmps.getD d undef=u:=by
     have e1:a0.tmps[d]? = some u:=by
      grind
     simp_all
    rw[this];exact fu.of_P hr
  · simp[HSt.den,ay]at ho
  · simp[HSt.den,ay]at ho
  · simp[HSt.den,ay]at ho
  simp[HSt.den,ay]at ho
 refine wpIn_mono (h w (imm,fw w,(fun _=>undef),(fun _=>none),fun _ _=>undef) a0 w hrel) fun e a' w1 ⟨st',⟨hex,hres⟩,hr1⟩=>?_
 suffices key:LeavesInM (rf none) 0 P fn a'.tmps _ a'.defers .returning w1 by
  rcases hex with rfl|rfl<;>exact key
 refine Rel.strike rfl hr1 fun w' hr'=>?_;obtain⟨c,hold,hrc⟩:=hr';obtain⟨p,l,q,vs,h1,h2,h3,h4,h5⟩:=hres
 have hfrm:∀b,b<w.heap.size->c.frm b≠none/\w'.heap[b]? = w.heap[b]?:=fun b hb=>by
  have e1:c.frm b=some w.heap[b]:=by
   show c.old.2.1 b=_;rw[hold];exact bue hb
  refine⟨by rw[e1];simp, ?_⟩;rw[hrc.frm b _ e1,bue hb]
 have hwas:∀b,b<w.heap.size->c.imm b=imm b:=fun b hb=>by
  rw[hrc.was b (hfrm b hb).1,hold]
 have hseen:a0u w c w' (fun b=>if b<w.heap.size then imm b else w'.heap[b]?):=by
  refine⟨fun b ob hbo=>?_,fun b hb _=>?_⟩
  · by_cases hlt:b<w.heap.size
    · grind
    simp only[hlt,if_false];exact hrc.imm b ob hbo
  grind
 have hrv:∃v,(results fn a'.tmps).run P w'=.ok v w'/\tl (fun b=>if b<w.heap.size then imm b else w'.heap[b]?) (ae res) v:=by
  let F:ResultVar->Sem Value:=fun | .tmp t=>pure (a'.tmps.getD t undef) | .cell ad t=>do loadVar t (<- asAddr (a'.tmps.getD ad undef))
  obtain⟨uvs,hrun,hrep⟩:=yr hE hrc F (fun _=>rfl) (fun _ _=>rfl) h1 h2;have hF:results fn a'.tmps=(do let vs <- fn.results.mapM F;pure (if h:vs.size=1 then vs[0]else .tuple vs)):=rfl;rw[hF,Array.mapM_eq_mapM_toList,bu3,Sem.run_map];have hview:=CoL.sound h5 (qh hrc hseen hrep h3 h4);rw[hrun];simp only[bth,buh];refine⟨_,rfl, ?_⟩
  match res,uvs,hview with
  | [x],[u],hv=>simp only[ae,tl];simpa using hv.1
  | [],[],hv=>exact⟨[],by simp,trivial⟩
  |x::y::r,u::v::t,hv=>exact⟨u::v::t,by simp,hv⟩
  | [],_::_,hv=>exact hv.elim
  | [_],[],hv=>exact hv.elim
  | [_],_::_::_,hv=>exact hv.2.elim
  |_::_::_,[],hv=>exact hv.elim
  |_::_::_,[_],hv=>exact hv.2.elim
 obtain⟨v,hv1,hv2⟩:=hrv
 have hfin:(∃v_1 imm',Ending.returned v=Ending.returned v_1/\tl imm' (ae res) v_1/\(∀b,b<w.heap.size->imm' b=imm b)/\(∀b ob,imm' b=some ob->w'.heap[b]? = some ob)/\Below w.heap.size w w'):=by
  refine⟨v,_,rfl,hv2,fun b hb=>by simp[hb],fun b ob hbo=>?_,⟨hrc.below.os,hrc.below.tape,hrc.below.output,hrc.below.size,fun k hk=>(hfrm k hk).2,hrc.below.drawn⟩⟩
  grind
 grind
end
end
end
section
open Go.RowKit
section
variable {ro:Option Nat}{P:Program}{nt:Nat}{st:HSt}{Q:Exit->HSt->Prop}
def u7 (st:HSt) (id:Nat):(HSt.den ⟨st.t,(id,none)::st.o⟩)=st.den.setO id none:=by
 unfold HSt.den S.setO;simp[aw]
section
variable {c:Code}
def ve(st1:HSt)(d:Nat)(x:HR)(hs:∀w0 m0 a w,Rel w0 m0 nt st.den a w->∃cc,cc.old=m0/\ah w0 nt cc st1.den a w/\ar cc st1.den.o x (a.tmps.getD d undef))(h:HW (ro:=ro) P nt c ⟨(d,some x)::st1.t,st1.o⟩ Q):HW (ro:=ro) P nt c st Q:=fun w0 m0 a w hr=>by
 obtain⟨cc,hold,hrr,hx⟩:=hs w0 m0 a w hr;refine h w0 m0 a w ⟨cc,hold,hrr.defers,hrr.size,hrr.below,fun k y hy=>?_,hrr.objs,hrr.inj,hrr.imm,hrr.sep,hrr.was,hrr.frm,hrr.fsep,hrr.fixed⟩;simp only[HSt.den]at hy;rw[aw]at hy;dsimp only at hy;split at hy
 · rename_i hk
   subst hk;simp only[bst]at hy;subst hy;exact hx
 exact hrr.tmps k y hy
variable {id:Nat}
def bh (d:Nat) {n n' s:Nat} {wr:Bool} {e:TypeId} {f:Nat->Nat->PV} (hd:ay st.t d=some (.v (.one (.ref id n)))) (ho:ay st.o id=some (.arr wr s e n' f)) (hn:n'=n) (h:HW (ro:=ro) P nt c ⟨(d,some (bp (.sl n s false f)))::st.t,(id,none)::st.o⟩ Q):HW (ro:=ro) P nt c st Q:=by
 subst hn;refine ve ⟨st.t,(id,none)::st.o⟩ d (bp (.sl n' s false f)) (fun w0 m0 a w hr=>?_) h;obtain⟨cc,hold,hrr⟩:=hr;refine⟨_, ?_,by rw[u7];exact hrr.freeze ho, ?_⟩
 · exact hold
 obtain⟨_,_,h3⟩:=hrr.tmps d _ hd;have:=(h3 _ _ _ _ ho rfl).2 rfl;rw[this];exact ru hrr ho
def jb (d:Nat) {l:List HV} {ps:List PV} (hd:ay st.t d=some (.v (.one (.ptr id 0)))) (ho:ay st.o id=some (.box l)) (hp:md l=some ps) (h:HW (ro:=ro) P nt c ⟨(d,some (bp (.vp ps.length fun j=>ps.getD j .any)))::st.t,(id,none)::st.o⟩ Q):HW (ro:=ro) P nt c st Q:=by
 refine ve ⟨st.t,(id,none)::st.o⟩ d _ (fun w0 m0 a w hr=>?_) h;obtain⟨cc,hold,hrr⟩:=hr;refine⟨_, ?_,by rw[u7];exact hrr.freeze ho, ?_⟩
 · exact hold
 obtain⟨_,_,h3⟩:=hrr.tmps d _ hd;obtain⟨b,hb,hu⟩:=h3 l ho;rw[hu,<- hb];exact awh hrr ho hp
def fm(bx off:Nat){n n' s:Nat}{wr:Bool}{e:TypeId}{f:Nat->Nat->PV}{l:List HV}(hb:ay st.o bx=some (.box l))(hl:l[off]? = some (.ref id n))(ho:ay st.o id=some (.arr wr s e n' f))(hn:n'=n)(hne:Nat.beq bx id=false)(h:HW (ro:=ro) P nt c ⟨st.t,(bx,some (.box (bo l off [.p (.sl n s false f)])))::(id,none)::st.o⟩ Q):HW (ro:=ro) P nt c st Q:=fun w0 m0 a w hr=>by
 subst hn;obtain⟨cc,hold,hrr⟩:=hr;have hbi:bx≠id:=by rintro rfl;simp at hne
 have hfr:=hrr.freeze (id:=id) ho;rw[<- u7]at hfr
 have hb':(HSt.den ⟨st.t,(id,none)::st.o⟩).o bx=some (.box l):=by
  simp only[HSt.den,aw,hbi,if_false];exact hb
 refine h w0 m0 a w ?_
 have hw:=hfr.write bx (.box l) hb' (.box (bo l off [.p (.sl n' s false f)])) w (cc.own bx) (cc.blk bx) none (Grw.refl w _) (fun _ e=>by cases e) (.inr (.inl ⟨l,bo l off [.p (.sl n' s false f)],hb',by simp[S.setO],by simp⟩)) (fun b hb=>.inl hb) (by
  obtain⟨b,C,ee,q1,q2,q3,q4,q5⟩:=hfr.objs bx _ hb';refine⟨b,C,ee,by simpa using q1,by simpa using q2,q3,q4, ?_⟩;have hoff:off<l.length:=(buw.1 hl).1;have hcl:=q5.length;refine bf.of_get ?_ fun k x u hx hu=>?_
  · simp only[bo,bsy,bt4,bvh,bub];omega
  have hx':=hx;unfold bo at hx';rw[db l [HV.p (.sl n' s false f)] off k bxc]at hx';by_cases hk:k=off
  · subst hk
    simp at hx';subst hx';obtain⟨b0,C0,e0,p1,p2,p3,p4,p5⟩:=hrr.objs bx _ hb
    have hbb:b0=b:=by
     have q2':cc.blk bx=zt b:=q2;have q3':zt b b0:=by rw[<- q2',p2];rfl
     exact q3'
    subst hbb
    have hCC:C0=C:=by
     rw[q4]at p4;simp only[bst,Obj.cells.injEq]at p4;exact p4.1.symm
    subst hCC;obtain⟨u',hu',hr'⟩:=p5.get k _ hl;rw[hu]at hu';simp only[bst]at hu';subst hu';obtain⟨_,_,h3⟩:=hr';have:=(h3 _ _ _ _ ho rfl).2 rfl;rw[this];exact ru hrr ho
  rw[if_neg bxc]at hx';obtain⟨u',hu',hr'⟩:=q5.get k x hx';rw[hu]at hu';simp only[bst]at hu';subst hu';refine bj.evo ?_ (fun j _=>?_) hr'
  · exact Imm.le.refl (frozenImm cc w id)
  by_cases hj:j=bx
  · subst hj;exact .inr (.inl ⟨l,bo l off [.p (.sl n' s false f)],hb',by simp[S.setO],by simp⟩)
  exact Evo.of_same (by simp[S.setO,hj]) (by simp[hj]))
 have e:HSt.den ⟨st.t,(bx,some (.box (bo l off [.p (.sl n' s false f)])))::(id,none)::st.o⟩=(HSt.den ⟨st.t,(id,none)::st.o⟩).setO bx (some (.box (bo l off [.p (.sl n' s false f)]))):=by
  unfold HSt.den S.setO;simp only[S.mk.injEq,true_and];funext k;simp only[aw]
 rw[e];exact⟨_,(by exact hold),hw⟩
def aft(x:Nat){s s2 n n2:Nat}{e e2:TypeId}{ob:a7}{y:PV}{ms:List Nat}{g:Nat->Nat->HV}(g':Nat->Nat->PV)(hb:ay st.o x=some (.arrh s2 e2 n2 ms g))(ho:ay st.o id=some ob)(hdim:ob.dim=some (s,e,n))(hfz:∀{w0:World} {nt:Nat} {c:Ctx} {s:S} {a:Act} {w:World},ah w0 nt c s a w->s.o id=some ob->aq (frozenImm c w id) y (c.own id))(hne:Nat.beq x id=false)(hg:∀i j,i<n2->j<s2->(∃k,g i j=.ref id k/\k=n/\CoP y (g' i j))\/CoH (g i j) (.p (g' i j)))(h:HW (ro:=ro) P nt c ⟨st.t,(x,some (.arr true s2 e2 n2 g'))::(id,none)::st.o⟩ Q):HW (ro:=ro) P nt c st Q:=fun w0 m0 a w hr=>by
 obtain⟨cc,hold,hrr⟩:=hr;have hbi:x≠id:=by rintro rfl;simp at hne
 have hfr:=hrr.freeze (id:=id) ho;rw[<- u7]at hfr
 have hb':(HSt.den ⟨st.t,(id,none)::st.o⟩).o x=some (.arrh s2 e2 n2 ms g):=by
  simp only[HSt.den,aw,hbi,if_false];exact hb
 refine h w0 m0 a w ?_
 have hevo:Evo { old:=cc.old,imm:=frozenImm cc w id,tab:=om hrr ho,own:=cc.own,blk:=cc.blk,rows:=cc.rows } (HSt.den ⟨st.t,(id,none)::st.o⟩).o { old:=cc.old,imm:=frozenImm cc w id,tab:=om hrr ho,own:=fun k=>if k=x then cc.own x else cc.own k,blk:=fun k=>if k=x then cc.blk x else cc.blk k,rows:=cc.rows } ((HSt.den ⟨st.t,(id,none)::st.o⟩).setO x (some (.arr true s2 e2 n2 g'))).o x :=
  .inr (.inr ⟨_, .arr true s2 e2 n2 g',s2,e2,n2,n2,hb',rfl,by simp[S.setO],rfl,bsw _,fun _=>by simp,fun _ _ _ _ _ _ _ hb=>by cases hb⟩)
 have hw:=hfr.write x _ hb' (.arr true s2 e2 n2 g') w (cc.own x) (cc.blk x) none (Grw.refl w _) (fun _ e=>by cases e) hevo (fun b hb=>.inl hb) (by
  obtain⟨q0,q1,qm,q2⟩:=hrr.objs x _ hb;refine⟨q0,q1, ?_⟩
  rcases q2 with⟨q3,xs,q4,q5⟩|⟨rfl,q3,q4⟩
  · refine .inl ⟨by simpa using q3,xs,by simpa using q4,fun i j hi hj=>?_⟩
    obtain⟨v,hv,hrv⟩:=q5 i j hi hj;refine⟨v,hv, ?_⟩;show aq (frozenImm cc w id) (g' i j) v
    rcases hg i j hi hj with⟨k,hk,rfl,hco⟩|hco
    · rw [hk]at hrv
      obtain⟨_,_,h3⟩:=hrv;rw[(h3 _ _ _ _ ho hdim).2 rfl];exact hco _ _ (hfz hrr ho)
    exact aq.mono (ug hrr ho) (bj.co hco hrv)
  refine .inr ⟨.inr rfl,by simpa using q3, ?_⟩;have:=aq.mono (ug hrr ho) q4
  simpa using CoP.sl rfl (.inl rfl) (fun h=>h) (fun i j hi _=>by omega) _ _ this)
 have e:HSt.den ⟨st.t,(x,some (.arr true s2 e2 n2 g'))::(id,none)::st.o⟩=(HSt.den ⟨st.t,(id,none)::st.o⟩).setO x (some (.arr true s2 e2 n2 g')):=by
  unfold HSt.den S.setO;simp only[S.mk.injEq,true_and];funext k;simp only[aw]
 rw[e];exact⟨_,(by exact hold),hw⟩
def ae4(x:Nat){s2 n n2:Nat}{kk:KK}{e2:TypeId}{f:MK->Option PV}{ms:List Nat}{g:Nat->Nat->HV}(g':Nat->Nat->PV)(hb:ay st.o x=some (.arrh s2 e2 n2 ms g))(ho:ay st.o id=some (.mp kk n f))(hne:Nat.beq x id=false)(hg:∀i j,i<n2->j<s2->(∃k,g i j=.ref id k/\k=0/\CoP (mpP kk n f) (g' i j))\/CoH (g i j) (.p (g' i j)))(h:HW (ro:=ro) P nt c ⟨st.t,(x,some (.arr true s2 e2 n2 g'))::(id,none)::st.o⟩ Q):HW (ro:=ro) P nt c st Q:=aft x g' hb ho rfl (fun hr ho=>b1w hr ho) hne hg h
end
end
end
section
open Go.RowKit
def wg(l:List Nat)(k:Nat):Bool:=l.any (Nat.beq k)
def od{l:List Nat}{k:Nat}:wg l k=true<->k∈l:=by
 unfold wg;rw[bu1];constructor
 · rintro ⟨x,hx,hb⟩
   rw[btw hb];exact hx
 exact fun h=>⟨k,h,by simp⟩
def abw (W:List Nat) (id:Nat):List (Nat×Option a7)->Bool
 | []=>true
 |(e,some x)::r=>(wg W e||afv id x.ids)&&abw W id r
 |(_,none)::r=>abw W id r
def a87{W:List Nat}{id:Nat}:∀{l:List (Nat×Option a7)},abw W id l=true->∀d x,d∉W->ay l d=some x->¬x.men id
 | [],_,d,x,_,h=>by simp[ay]at h
 | (e,some y)::r,h,d,x,hd,hl=>by
  simp only[abw,bt5,bud]at h;rw[aw]at hl;dsimp only at hl;split at hl
  · rename_i he
    subst he;simp only[bst]at hl;subst hl
    rcases h.1 with h1|h1
    · exact absurd (od.1 h1) hd
    exact fun hm=>a52 h1 (a7.men_ids hm)
  exact a87 h.2 d x hd hl
 | (e,none)::r,h,d,x,hd,hl=>by
  rw[aw]at hl;dsimp only at hl;split at hl
  · cases hl
  exact a87 (l:=r) (by simpa [abw]using h) d x hd hl
def isNone(x:Option a7):Bool:=match x with|none=>true|some _=>false
def fcB (o1 o2:List (Nat×a7)) (res:HR) (fx:List Nat) (st:HSt):Bool :=
 ((keys o2).all fun id=>(wg fx id&&wg (keys o1) id)||(Nat.blt id 1000&&nmT id st.t&&abw (keys o1++keys o2) id st.o&&(wg (keys o1) id||isNone (ay st.o id)))) &&
 ((adj o2).all (wg (keys o2))&&res.ids.all (wg (keys o2)))
def aqh:List (Nat×a7)->au->Prop
 | [],_=>True
 |(id,ob)::r,o=>(∃ob',o id=some ob'/\CoO ob' ob)/\aqh r o
def a6q{o:au}:∀{l:List (Nat×a7)},aqh l o->∀id ob,lk l id=some ob->∃ob',o id=some ob'/\CoO ob' ob
 | (e,x)::l,h,id,ob,hl=>by
  simp only[lk]at hl;by_cases hk:e=id
  · subst hk
    simp only[Nat.beq_refl,cond_true,bst]at hl;subst hl;exact h.1
  have:Nat.beq e id=false:=by
   rw[btb];exact fun hb=>hk (btw hb)
  rw[this]at hl;exact a6q h.2 id ob (by simpa using hl)
section
variable {P:Program}{E:Env}{nt:Nat}{ops:Array Oper}{i:Nat}{o:Oper}{st:HSt}{L:List Nat}{K:List Tr->HSt->Prop}
def ano(o1 o2:List (Nat×a7))(fx:List Nat):List Nat:=(keys o2).filter fun id=>!(wg fx id&&wg (keys o1) id)
def j7{cl:Call}{f:FuncId}{caps:List HC}{args hcs:List HC}{o1 o2:List (Nat×a7)}{res:HR}{fx:List Nat}{gb:Bool}(hi:ops[i]? = some o)(hw:be ops st.den o=some gb)(hd:d6 nt o.dst=true)(ho:o.op=.call cl)
 (hc:wn (ev st.den) cl=some (f,caps)) (hv:tc (ev st.den) cl.args.toList=some hcs) (hf:goodFn P f) (hfun:d9 P f args o1 res o2 fx) (hco:v6 (hcs++caps) args) (hsub:aqh o1 st.den.o) (hB:fcB o1 o2 res fx st=true) (hg:gb=true)
 (hT:Reg P E nt ops L (st.after o.dst (some res) (a08 o1 o2)) fun T sf=>K (⟨i,⟨0,false,true, .tup [],keys o1++keys o2,ano o1 o2 fx,res.ids++adj o2⟩,looks st.den o,cq st.den o.dst (a08 o1 o2),none⟩::T) sf):Reg P E nt ops (i::L) st K:=by
 obtain⟨T,sf,h1,h2,h3⟩:=hT;simp only[fcB,bt5,btl]at hB;obtain⟨b1,b2,b3⟩:=hB
 have key:∀id∈keys o2,id∉fx\/id∉keys o1->id<1000/\nmT id st.t=true/\abw (keys o1++keys o2) id st.o=true/\(id∈keys o1\/ay st.o id=none):=by
  intro id hid hor;have:=b1 id hid;simp only[bud,bt5]at this
  rcases this with⟨q1,q2⟩|⟨⟨⟨q1,q2⟩,q3⟩,q4⟩
  · rcases hor with e|e
    · exact absurd (od.1 q1) e
    exact absurd (od.1 q2) e
  refine⟨by simpa [bvx]using q1,q2,q3, ?_⟩
  rcases q4 with q4|q4
  · exact .inl (od.1 q4)
  refine .inr ?_
  cases hl:ay st.o id with
  |none=>rfl
  |some x=>rw[hl]at q4;cases q4
 refine⟨_,sf,by rw[<- h1];rfl, .cons hi (.fcall cl f caps args hcs o1 o2 res fx (by rw[hw,hg]) hd ho hc hf hv hco hfun (a6q hsub) (fun id h2 h1=>?_) (fun id h2 h1=>?_) (fun id ob hid k hk=>?_) (fun k hk=>?_) rfl (fun id h2 h1=>?_) rfl) rfl (fun _ hk=>hk) (by intro _ hf;cases hf) (by rw[mn]at h2;exact h2),h3⟩
 · rcases(key id h2 (.inr h1)).2.2.2 with e|e
   · exact absurd e h1
   exact e
 · obtain ⟨q1,q2,q3,_⟩:=key id h2 h1
   exact⟨a5v q2,fun d x hd hx=>a87 q3 d x hd hx,q1⟩
 · have hmem:∀{l:List (Nat×a7)},lk l id=some ob->(id,ob)∈l:=by
    intro l
    induction l with
    |nil=>intro h;cases h
    | cons p l ih =>
     obtain⟨e,x⟩:=p;intro h;simp only[lk]at h
     cases hb:Nat.beq e id with
     | true =>
      rw[hb]at h;simp only[cond_true,bst]at h;rw[<- btw hb,h];exact bu5
     | false =>
      rw[hb]at h;exact btp _ (ih (by simpa using h))
   exact od.1 (b2 k (abp (hmem hid) (a7.men_ids hk)))
 · exact od.1 (b3 k (HR.men_ids hk))
 refine bul.2 ⟨h2, ?_⟩;simp only[bu4,bw7]
 rcases h1 with e|e
 · exact .inl (by rw[btb];exact fun hb=>e (od.1 hb))
 exact .inr (by rw[btb];exact fun hb=>e (od.1 hb))
end
def a13:Nat->List HC->List (Nat×Option HR)
 |_,[]=>[]
 |i,x::r=>(i,some (.v x))::a13 (i+1) r
def aeq:∀(l:List HC) (i d:Nat) (r:HR),ay (a13 i l) d=some r->∃x,i<=d/\l[d-i]? = some x/\r=.v x
 | [],i,d,r,h=>by simp[a13,ay]at h
 | x :: l,i,d,r,h=>by
  simp only[a13]at h;rw[aw]at h;dsimp only at h;split at h
  · rename_i hd
    subst hd;simp only[bst]at h;exact⟨x,bsw _,by simp,h.symm⟩
  rename_i hd;obtain⟨y,h1,h2,h3⟩:=aeq l (i+1) d r h;refine⟨y,by omega, ?_,h3⟩;rw[show d-i=(d-(i+1))+1 by omega];simpa using h2
def aa1(l:List (Nat×a7)):List (Nat×Option a7):=l.map fun p=>(p.1,some p.2)
def adu:∀(l:List (Nat×a7)),ay (aa1 l)=lk l
 | []=>rfl
 | (e,x)::r=>by
  funext k;have:=congrFun (adu r) k;unfold aa1 at this ⊢;simp only[buf,ay,lk];rw[this]
def axg:List HC->HR
 | [x]=>.v x
 |l=>.tup l
def bj5 (E:Env) (st:HSt) (rs:List ResultVar) (res:HR) (o2:List (Nat×a7)):Prop :=
 ∃p l,a0e E st.den rs=some (p,l)/\p/\CoR (axg l) res/\aqh o2 st.den.o
section
variable {P:Program}{E:Env}{nt:Nat}
def bcz(hE:d7 P E){f:FuncId}{fn:Func}{body:Code}{args:List HC}{o1 o2:List (Nat×a7)}{res:HR}{fx:List Nat}(hf:P.funcs[f]? = some fn)(hb:fn.body=some body)(hn:fn.ntmps=nt)(hl:args.length<=nt)
 (hfx:fx.all (Nat.ble 1000)=true) (h:HW (ro:=none) P nt body ⟨a13 0 args,aa1 o1⟩ fun e st=>(e=.normal\/e=.ret)/\bj5 E st fn.results.toList res o2):d9 P f args o1 res o2 fx:=by
 classical
 intro w c us hm hargs;refine(callsIn_wide (n:=0)).1 (callsIn_of_wp_marks hf hb trivial ?_ rfl)
 have hul:us.length=args.length:=by
  have:∀{xs:List HC} {us:List Value},c6 c (lk o1) xs us->us.length=xs.length:=by
   intro xs
   induction xs with
   |nil=>intro us hh;cases us with|nil=>rfl|cons=>exact hh.elim
   |cons x xs ih=>intro us hh;cases us with|nil=>exact hh.elim|cons u us=>simp[ih hh.2]
  exact this hargs
 let a0:Act:={ tmps:=us.toArray++Array.replicate (fn.ntmps-us.toArray.size) undef,defers:=[] }
 let frm:Imm:=fun b=>if(∃id ob,lk o1 id=some ob/\c.blk id b)then none else w.heap[b]?
 let old:Old:=(c.imm,frm,c.own,lk o1,c.rows)
 have hden:(HSt.den ⟨a13 0 args,aa1 o1⟩).o=lk o1:=adu o1
 have hrel:Rel w old nt (HSt.den ⟨a13 0 args,aa1 o1⟩) a0 w:=by
  refine⟨{ old:=old,imm:=c.imm,tab:=c.tab,own:=c.own,blk:=c.blk,rows:=c.rows },rfl,th.nil _ _ _ _, ?_,Below.refl _ _,fun d x hx=>?_,fun id ob ho=>?_,fun i i' ob ob' b ho ho'=>?_,hm.imm,fun id ob b ho=>?_,fun b _=>rfl,fun b ob hbo=>?_,fun id ob b ho hbb=>?_,fun id _=>?_⟩
  · simp only[a0,bwb,Array.size_replicate,bu0,hn];omega
  · obtain ⟨y,_,hy,rfl⟩:=aeq args 0 d x hx
    simp only[Nat.sub_zero]at hy;obtain⟨u,hu,hr⟩:=hargs.get d y hy;have hd:d<us.length:=(buw.1 hu).1
    have:a0.tmps.getD d undef=u:=by
     have e1:a0.tmps[d]? = some u:=by
      simp only[a0];rw[Array.getElem?_append_left (by simpa using hd)];simpa using hu
     rw[Array.getD_eq_getD_getElem?,e1];rfl
    rw[this,hden];exact fu.evo (c:=c) (o:=lk o1) (Imm.le.refl c.imm) (fun _ _=>Evo.of_same rfl rfl) hr
  · rw [hden]at ho ⊢
    exact(hm.objs id ob ho).keep (Imm.le.refl c.imm) rfl rfl (fun _ _=>Evo.of_same rfl rfl) fun _ _=>rfl
  · rw [hden]at ho ho'
    exact hm.inj i i' ob ob' b ho ho'
  · rw [hden]at ho
    exact hm.sep id ob b ho
  · have hbo:frm b=some ob:=hbo
    simp only[frm]at hbo;split at hbo
    · cases hbo
    exact hbo
  · rw [hden]at ho
    show frm b=none;simp only[frm];rw[if_pos ⟨id,ob,ho,hbb⟩]
  rw[hden];exact Evo.of_same rfl rfl
 refine wpIn_mono (h w old a0 w hrel) fun e a' w1 ⟨st',⟨hex,hres⟩,hr1⟩=>?_
 suffices key:LeavesInM (rf none) 0 P fn a'.tmps _ a'.defers .returning w1 by
  rcases hex with rfl|rfl<;>exact key
 refine Rel.strike rfl hr1 fun w' hr'=>?_;obtain⟨c',hold,hrc⟩:=hr';obtain⟨p,l,h1,h2,h3,h4⟩:=hres;have hsub:=a6q h4;have hrc2:=hrc.relax ⟨fun _=>none,lk o2⟩ (fun d x hx=>by cases hx) hsub
 have hnf:∀b,b<w.heap.size->(∀id ob,lk o1 id=some ob->¬c.blk id b)->c'.frm b=some w.heap[b]!/\w.heap[b]? = some w.heap[b]!:=fun b hb hno=>by
  have e2:w.heap[b]? = some w.heap[b]!:=by simp[hb]
  refine⟨?_,e2⟩;show c'.old.2.1 b=_;rw[hold];show frm b=_;simp only[frm];rw[if_neg (fun⟨id,ob,q1,q2⟩=>hno id ob q1 q2)];exact e2
 have hrv:∃v,(results fn a'.tmps).run P w'=.ok v w'/\ar c' (lk o2) res v:=by
  let F:ResultVar->Sem Value:=fun | .tmp t=>pure (a'.tmps.getD t undef) | .cell ad t=>do loadVar t (<- asAddr (a'.tmps.getD ad undef))
  obtain⟨uvs,hrun,hrep⟩:=yr hE hrc F (fun _=>rfl) (fun _ _=>rfl) h1 h2;have hF:results fn a'.tmps=(do let vs <- fn.results.mapM F;pure (if h:vs.size=1 then vs[0]else .tuple vs)):=rfl;rw[hF,Array.mapM_eq_mapM_toList,bu3,Sem.run_map];have hview:c6 c' (lk o2) l uvs:=c6.evo (Imm.le.refl c'.imm) (fun k _=>a6s hsub k) hrep;rw[hrun];simp only[bth,buh];refine⟨_,rfl,ar.co h3 ?_⟩
  match l,uvs,hview with
  | [x],[u],hv=>simp only[axg,ar];simpa using hv.1
  | [],[],hv=>exact⟨[],by simp,trivial⟩
  |x::y::r,u::v::t,hv=>exact⟨u::v::t,by simp,hv⟩
  | [],_::_,hv=>exact hv.elim
  | [_],[],hv=>exact hv.elim
  | [_],_::_::_,hv=>exact hv.2.elim
  |_::_::_,[],hv=>exact hv.elim
  |_::_::_,[_],hv=>exact hv.2.elim
 obtain⟨v,hv1,hv2⟩:=hrv
 have hfin:(∃v_1 c'_1,Ending.returned v=Ending.returned v_1/\ar c'_1 (lk o2) res v_1/\Mem c'_1 (lk o2) w'/\Below 0 w w' /\
  (∀b,b<w.heap.size->(∀id ob,lk o1 id=some ob->¬c.blk id b)->w'.heap[b]? = w.heap[b]?/\c'_1.imm b=c.imm b) /\
  (∀id ob b,lk o2 id=some ob->c'_1.blk id b->w.heap.size<=b\/∃id0 ob0,lk o1 id0=some ob0/\c.blk id0 b) /\
  (∀id∈fx,Evo c (lk o1) c'_1 (lk o2) id)):=by
  refine⟨v,c',rfl,hv2,⟨hrc2.objs,hrc2.inj,hrc2.imm,hrc2.sep⟩,hrc.below,fun b hb hno=>?_,fun id ob b ho hbb=>?_,fun id hid=>?_⟩
  · obtain ⟨e1,e2⟩:=hnf b hb hno
    refine⟨by rw[hrc.frm b _ e1,e2], ?_⟩;rw[hrc.was b (by rw[e1];simp),hold]
  · have e:=hrc2.fsep id ob b ho hbb
    by_cases hfoot:∃id0 ob0,lk o1 id0=some ob0/\c.blk id0 b
    · exact .inr hfoot
    refine .inl ?_
    have e':frm b=none:=by
     have:c'.old.2.1 b=none:=e;rw[hold]at this;exact this
    simp only[frm]at e';rw[if_neg hfoot]at e';exact bwu fun hlt=>by simp[hlt]at e'
  have e:=hrc2.fixed id (bt0 (btl.1 hfx id hid));unfold Evo Ctx.start at e;unfold Evo;rw[hold]at e;exact e
 exact⟨v,hv1,hfin⟩
end
end
end Go.Hx
