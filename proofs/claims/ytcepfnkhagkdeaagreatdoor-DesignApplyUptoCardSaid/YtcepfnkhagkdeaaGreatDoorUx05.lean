/- A part of the proof: Hx13 Hx14 Hx15 Hx16 Hx17 Hx18. -/
import Derived.Test.YtcepfnkhagkdeaaGreatDoorUx04
set_option linter.all false
namespace Go.Hx
section
open Go.RowKit
def s6 (ops:Array Oper) (j:Nat):List Nat :=
 match ops[j]? with
 |some o=>(o.after.toList.filter λe=>Region.binds .any e).map (·.on)
 |none=>[]
def Jx (acc:List Nat):List Nat->Nat
 | []=>0
 |e::r=>Jx acc r|||2^e|||acc.getD e 0
def y5 (ops:Array Oper):Nat->List Nat
 |0=>[]
 |n+1=>y5 ops n++[Jx (y5 ops n) (s6 ops n)]
def pi (ops:Array Oper):∀n,(y5 ops n).length=n
 |0=>rfl
 |n+1=>by simp[y5,pi ops n]
theorem za (ops:Array Oper):∀n j,j<n->(y5 ops n).getD j 0=Jx (y5 ops j) (s6 ops j)
 | n + 1,j,h=>by
  simp only[y5,Oc];by_cases hj:j<n
  .rw [Ul (by rw[pi];exact hj)]
   have:=za ops n j hj
   grind
  have:j=n:=by omega
  subst this;rw[Jk (by rw[pi];omega),pi];simp
theorem FV (acc:List Nat) (i:Nat):∀l,(Jx acc l).testBit i=true->∃e∈l,e=i\/(acc.getD e 0).testBit i=true
 | [],h=>by simp[Jx]at h
 | e :: r,h=>by
  simp only[Jx,Nat.testBit_or,Kj,Nat.testBit_two_pow,Ja]at h
  rcases h with(h|h)|h
  .obtain ⟨e',he,hh⟩:=FV acc i r h
   grind
  .grind
  grind
def uD(ops:Array Oper)(j i:Nat):Bool:=((y5 ops (j+1)).getD j 0).testBit i
structure qX (ops:Array Oper) (listed:Array Bool):Prop where
 size:listed.size=ops.size
 closed:∀j,listed.getD j false=true->∀e∈s6 ops j,listed.getD e false=true
section
variable {listed:Array Bool}{ops:Array Oper}
def anp(inv:qX ops listed):∀j,(∀e∈s6 ops j,listed.getD e false=true)->∀i,uD ops j i=true->listed.getD i false=true:=by
 intro j
 induction j using Nat.strongRecOn with
 | _ j ih =>
  intro hd i hr;unfold uD at hr;rw[za ops (j+1) j Za]at hr;obtain⟨e,he,hh⟩:=FV _ i _ hr
  rcases hh with rfl|hh
  .exact hd e he
  by_cases hej:e<j
  .rw [za ops j e hej]at hh
   refine ih e hej (λe' he'=>inv.closed e (hd e he) e' he') i ?_;unfold uD;rw[za ops (e+1) e Za];exact hh
  rw[Oc,Nz (by rw[pi];omega)]at hh;simp at hh
theorem Dg {i:Nat}:i∈Region.ready .any ops listed<->(i<ops.size/\listed.getD i true=false/\∀e∈s6 ops i,listed.getD e false=true):=by
 unfold Region.ready s6;simp only[Jo,Fe,Od,Nh];constructor
 .rintro ⟨h1,h2,h3⟩
  refine⟨h1,h2, ?_⟩;rw[Km h1]at h3 ⊢;simp only[Vf,Xh,Array.all_eq_true']at h3
  grind
 grind
def vG(ops:Array Oper)(j d:Nat):Bool:=(s6 ops j).any (Nat.beq d)
def b04 {j d:Nat} (h:vG ops j d=false):d∉s6 ops j:=by
 intro hm;unfold vG at h;rw[Dk]at h;exact h d hm Ec
def yf(ops:Array Oper)(x y:Tr):Bool:=!(Nat.beq x.i y.i)&&!vG ops x.i y.i&&(uD ops y.i x.i||wA ops x y)
def SE (ops:Array Oper):List Tr->Bool
 | []=>true
 |x::T=>T.all (yf ops x)&&SE ops T
def GD(ops:Array Oper)(x:Tr):Bool:=Nat.blt x.i ops.size&&(s6 ops x.i).all λd=>Nat.blt d ops.size&&!(Nat.beq d x.i)
def RD (ops:Array Oper) (T:List Tr):Bool :=
 Nat.beq T.length ops.size&&(List.range ops.size).all (λk=>T.any λt=>Nat.beq t.i k)&&T.all (GD ops)&&SE ops T
def oX:∀{T:List Tr},SE ops T=true->T.Pairwise λx y=>yf ops x y=true
 | [],_=>List.Pairwise.nil
 | x::T,h=>by
  simp only[SE,Od,Ze]at h;exact List.Pairwise.cons h.1 (oX h.2)
end
section
variable {P:Program}{E:Xc}{nt:Nat}{ops:Array Oper}{w0:World}{m0:Wm}{sf:S}
def b2l (m j:Nat):(Array.replicate m false).getD j false=false:=by
 rcases Io j m with h|h<;>simp[h]
def afh {l:Array Bool} {i:Nat} (hi:i<l.size):(l.getD i true=false)<->¬(l.getD i false=true):=by
 simp[hi]
section
variable {Q:Exit->Act->World->Prop}{ro:Option Nat}
theorem ah3 (hE:dl P E) {n:Nat} (hQ:∀a' w',Sf w0 m0 nt sf a' w'->Q .normal a' w'):
 ∀ (fuel:Nat) (listed:Array Bool) (T:List Tr) (s:S) (a:Act) (w:World),T.length=fuel->qX ops listed->(∀i,i<ops.size->(listed.getD i true=false<->∃t∈T,t.i=i)) ->
  (∀t∈T,GD ops t=true)->(T.Pairwise λx y=>yf ops x y=true)->nf P E nt ops T s sf->Sf w0 m0 nt s a w->wpAnyIn (rf ro) n P .any ops Q fuel listed a w:=by
 intro fuel
 induction fuel with
 | zero =>
  intro listed T s a w hl inv hun _ _ hT hr;have:T=[]:=Vl hl;subst this;cases hT;refine⟨?_,hQ _ _ hr⟩
  cases hrd:Region.ready .any ops listed with
  |nil=>rfl
  | cons i r =>
   have hi:i∈Region.ready .any ops listed:=by rw[hrd];simp
   obtain⟨h1,h2,_⟩:=Dg.1 hi
   grind
 | succ fuel ih =>
  intro listed T s a w hl inv hun hself hpw hT hr;refine⟨λhnil=>?_,λi hi=>?_⟩
  ·
   exfalso
   cases T with
   |nil=>simp at hl
   | cons x T =>
    have hs:=hself x Ec;simp only[GD,Od,Ze,Nh]at hs;obtain⟨hs1,hs2⟩:=hs;have hs1:x.i<ops.size:=by simpa [Eo]using hs1
    have hx:x.i∈Region.ready .any ops listed:=by
     refine Dg.2 ⟨hs1,(hun x.i hs1).2 ⟨x,by simp,rfl⟩,λd hd=>?_⟩;obtain⟨hd1,hd2⟩:=hs2 d hd;have hd1:d<ops.size:=by simpa [Eo]using hd1
     have hd2:d≠x.i:=by rintro rfl;simp at hd2
     apply La;intro hne;have hu:=(afh (by rw[inv.size];exact hd1)).2 hne;obtain⟨t,ht,hti⟩:=(hun d hd1).1 hu
     rcases Jd.1 ht with rfl|ht
     .grind
     have:=(Hh.1 hpw).1 t ht;simp only[yf,Od,Nh]at this;exact b04 this.1.2 (by rw[hti];exact hd)
    grind
  obtain⟨h1,h2,h3⟩:=Dg.1 hi;obtain⟨y,hy,hyi⟩:=(hun i h1).1 h2;obtain⟨pre,post,rfl⟩:=List.append_of_mem hy
  have hpass:∀x∈pre,wA ops x y=true:=by
   intro x hx;have hp:yf ops x y=true:=(Jz.1 hpw).2.2 x hx y Ec;simp only[yf,Od,Kj]at hp
   rcases hp.2 with hre|hpa
   .exfalso
    have hl:=anp inv y.i (by rw[hyi];exact h3) x.i hre;have hsx:=hself x (by simp[hx]);simp only[GD,Od]at hsx;have hsx1:x.i<ops.size:=by simpa [Eo]using hsx.1
    grind
   exact hpa
  have hfront:=kU hT hpass
  cases hfront with
  | @cons iy an R O F o _ _ v wr _ hio he hR hO hF hrest =>
  have hyi':iy=i:=hyi;subst hyi';refine NK hE he hr hio λa' w' hr'=>?_;have hsub:List.Sublist (pre++post) (pre++(⟨iy,an,R,O,F⟩:Tr)::post):=(List.Sublist.refl pre).append (List.sublist_cons_self _ _);have hsz:iy<listed.size:=by rw[inv.size];exact h1
  refine ih (listed.setIfInBounds iy true) (pre++post) _ a' w' (by simp at hl ⊢;omega) ⟨by simp[inv.size],λj hj e he=>?_⟩ (λk hk=>?_) (λt ht=>hself t (hsub.subset ht)) (hpw.sublist hsub) hrest hr'
  .by_cases hji:iy=j
   .subst hji
    exact getD_set_true (h3 e he)
   rw[getD_set_ne false hji]at hj;exact getD_set_true (inv.closed j hj e he)
  by_cases hki:iy=k
  .subst hki
   constructor
   .simp_all
   rintro⟨t,ht,hti⟩;exfalso
   rcases Af.1 ht with ht|ht
   .have hp:=(Jz.1 hpw).2.2 t ht ⟨iy,an,R,O,F⟩ Ec
    simp only[yf,Od,Nh]at hp;simp_all
   have hp:=(Hh.1 (Jz.1 hpw).2.1).1 t ht;simp only[yf,Od,Nh]at hp;simp_all
  rw[getD_set_ne true hki,hun k hk]
  grind
def aen (hE:dl P E) {n:Nat} (hm:P.follows .mixedOrders=true) {id:Nat} {T:List Tr} {s:S} {a:Act} {w:World} (hT:nf P E nt ops T s sf) (hc:RD ops T=true) (hr:Sf w0 m0 nt s a w) (hQ:∀a' w',Sf w0 m0 nt sf a' w'->Q .normal a' w'):(Code.region id ops true).wpIn (rf ro) n P Q a w:=by
 simp only[RD,Od,Ze]at hc;obtain⟨⟨⟨h1,h2⟩,h3⟩,h4⟩:=hc;refine wpIn_region_any hm ?_;refine ah3 hE hQ ops.size _ T s a _ (by simpa using h1) ⟨by simp,λj hj=>?_⟩ (λi hi=>⟨λ_=>?_,λ_=>by simp[hi]⟩) h3 (oX h4) hT ?_
 .rw[b2l]at hj;cases hj
 .simp_all
 obtain⟨c,hold,hr⟩:=hr;exact⟨c,hold,hr.drew⟩
def eX (hE:dl P E) {n:Nat} (hQ:∀a' w',Sf w0 m0 nt sf a' w'->Q .normal a' w'):∀(T:List Tr) (s:S) (a:Act) (w:World),nf P E nt ops T s sf->Sf w0 m0 nt s a w->wpOpsIn (rf ro) n P ops Q (T.map (·.i)) a w
 | [],s,a,w,hT,hr=>by
  cases hT;exact hQ _ _ hr
 | t::T,s,a,w,hT,hr=>by
  cases hT with
  |cons hi he hR hO hF hrest =>
  rw[Wh,wpOpsIn_cons];exact NK hE he hr hi λa' w' hr'=>eX hE hQ T _ a' w' hrest hr'
end
end
def bo {α:Type}:List (Nat×Option α)->Nat->Option α
 | [],_=>none
 |(e,x)::r,d=>bif Nat.beq e d then x else bo r d
structure Qb where
 t:List (Nat×Option HR)
 o:List (Nat×Option a8)
def Qb.den(st:Qb):S:=⟨bo st.t,bo st.o⟩
def Qb.after (st:Qb) (d:Option Tmp) (x:Option HR) (wr:Wr):Qb :=
 ⟨match d with|some d=>(d,x)::st.t|none=>st.t,wr++st.o⟩
theorem rS (l:List (Nat×Option a8)):∀(wr:Wr),bo (wr++l)=λk=>match jb wr k with|some r=>r|none=>bo l k
 | []=>rfl
 | (e,x)::r=>by
  funext k;have ih:=congrFun (rS l r) k;simp only[Ql,bo,jb]
  grind
def b9 {α:Type} (e:Nat) (x:Option α) (l:List (Nat×Option α)):bo ((e,x)::l)=λk=>if k=e then x else bo l k:=by
 funext k;simp only[bo];by_cases h:k=e
 .subst h;simp
 have:Nat.beq e k=false:=by
  rw[Ie];intro hb;simp_all
 simp[h,this]
def mi (st:Qb) (d:Option Tmp) (x:Option HR) (wr:Wr):(st.after d x wr).den=st.den.after d x wr:=by
 unfold Qb.after Qb.den S.after S.putD S.setW S.put;cases d<;>simp[b9,rS]<;>rfl
def yA(id:Nat)(l:List Nat):Bool:=!(l.any (Nat.beq id))
def Bo (id:Nat):List (Nat×Option HR)->Bool
 | []=>true
 |(_,some x)::r=>yA id x.ids&&Bo id r
 |(_,none)::r=>Bo id r
def Qu (id:Nat):List (Nat×Option a8)->Bool
 | []=>true
 |(_,some x)::r=>yA id x.ids&&Qu id r
 |(_,none)::r=>Qu id r
section
variable {id:Nat}
def wL {l:List Nat} (h:yA id l=true):id∉l:=by
 intro hm;simp only[yA,Nh]at h;rw[Dk]at h;exact h id hm Ec
def WE:∀{l:List (Nat×Option HR)},Bo id l=true->∀d x,bo l d=some x->¬x.men id
 | [],_,d,x,h=>by simp[bo]at h
 | (e,some y)::r,h,d,x,hl=>by
  simp only[Bo,Od]at h;rw[b9]at hl;dsimp only at hl;split at hl
  .simp only [Bb]at hl
   subst hl;exactλhm=>wL h.1 (HR.men_ids hm)
  exact WE h.2 d x hl
 | (e,none)::r,h,d,x,hl=>by
  rw[b9]at hl;dsimp only at hl;split at hl
  .cases hl
  exact WE (by simpa [Bo]using h) d x hl
def SJ:∀{l:List (Nat×Option a8)},Qu id l=true->∀d x,bo l d=some x->¬x.men id
 | [],_,d,x,h=>by simp[bo]at h
 | (e,some y)::r,h,d,x,hl=>by
  simp only[Qu,Od]at h;rw[b9]at hl;dsimp only at hl;split at hl
  .simp only [Bb]at hl
   subst hl;exactλhm=>wL h.1 (a8.men_ids hm)
  exact SJ h.2 d x hl
 | (e,none)::r,h,d,x,hl=>by
  rw[b9]at hl;dsimp only at hl;split at hl
  .cases hl
  exact SJ (by simpa [Qu]using h) d x hl
def qb(id:Nat)(st:Qb):Bool:=Nat.blt id 1000&&Bo id st.t&&Qu id st.o&&(match bo st.o id with|none=>true|some _=>false)
theorem jd {st:Qb} (h:qb id st=true):NM st.den id/\st.den.o id=none:=by
 simp only[qb,Od]at h;obtain⟨⟨⟨h0,h1⟩,h2⟩,h3⟩:=h;refine⟨⟨WE h1,SJ h2,by simpa [Eo]using h0⟩, ?_⟩;show bo st.o id=none
 grind
end
section
variable {P:Program}{E:Xc}{nt:Nat}{ops:Array Oper}{i:Nat}{o:Oper}{st:Qb}{T:List Tr}{sf:S}
def Us(ex:Bool)(M:List Nat):Tp:=⟨0,false,ex, .tup [],[],[],M⟩
def Td (P:Program) (E:Xc) (nt:Nat) (ops:Array Oper) (L:List Nat) (st:Qb) (K:List Tr->Qb->Prop):Prop :=
 ∃T sf,T.map (·.i)=L/\nf P E nt ops T st.den (Qb.den sf)/\K T sf
variable {L:List Nat}{K:List Tr->Qb->Prop}
def cn(h:K [] st):Td P E nt ops [] st K:=⟨[],st,rfl, .nil _,h⟩
section
variable {gb:Bool}
def db (ex:Bool) {out:Ge} (hi:ops[i]? = some o) (hw:b6 ops st.den o=some gb) (hd:dc nt o.dst=true) (hq':hq E ex st.den.o (ev st.den) o.op=some out) (hg:gb=true) (hp:out.pre) (hT:Td P E nt ops L (st.after o.dst (some out.val) []) λT sf=>K (⟨i,Us ex out.val.ids,looks st.den o,d8 st.den o.dst [],gf E st.den o⟩::T) sf):Td P E nt ops (i::L) st K:=by
 obtain⟨T,sf,h1,h2,h3⟩:=hT;exact⟨_,sf,by rw[<- h1];rfl, .cons hi (.quiet out (by rw[hw,hg]) hd hq' hp rfl) rfl (λ_ hk=>hk) (λf hf=>⟨hf,by rw[hw,hg]⟩) (by rw[mi]at h2;exact h2),h3⟩
def DR (hi:ops[i]? = some o) (hw:b6 ops st.den o=some gb) (hd:dc nt o.dst=true) (hg:gb=false) (hT:Td P E nt ops L (st.after o.dst (some (.tup [])) []) λT sf=>K (⟨i,Us true [],looks st.den o,d8 st.den o.dst [],none⟩::T) sf):Td P E nt ops (i::L) st K:=by
 obtain⟨T,sf,h1,h2,h3⟩:=hT;exact⟨_,sf,by rw[<- h1];rfl, .cons hi (.skip (by rw[hw,hg]) hd) rfl (λ_ hk=>hk) (by intro _ hf;cases hf) (by rw[mi]at h2;exact h2),h3⟩
def B6 {out:Ge} {id:Nat} (hi:ops[i]? = some o) (hw:b6 ops st.den o=some gb) (hd:dc nt o.dst=true) (hq':zi E st.den.o (ev st.den) o.op=some (out,id)) (hg:gb=true) (hp:out.pre) (hT:Td P E nt ops L (st.after o.dst (some out.val) [(id,none)]) λT sf=>K (⟨i,⟨0,false,true, .tup [],[id],[],[]⟩,looks st.den o,d8 st.den o.dst [(id,none)],none⟩::T) sf):Td P E nt ops (i::L) st K:=by
 obtain⟨T,sf,h1,h2,h3⟩:=hT;exact⟨_,sf,by rw[<- h1];rfl, .cons hi (.cut out id (by rw[hw,hg]) hd hq' hp rfl) rfl (λ_ hk=>hk) (by intro _ hf;cases hf) (by rw[mi]at h2;exact h2),h3⟩
def zw (id:Nat) {nw:Uy} (hi:ops[i]? = some o) (hw:b6 ops st.den o=some gb) (hd:dc nt o.dst=true) (hq':ha E (ev st.den) id o.op=some nw) (hn:qb id st=true) (hg:gb=true) (hp:nw.pre) (hT:Td P E nt ops L (st.after o.dst (some nw.val) [(id,some nw.ob)]) λT sf=>K (⟨i,⟨id,false,true, .tup [],[id],[id],nw.val.ids++nw.ob.ids⟩,looks st.den o,d8 st.den o.dst [(id,some nw.ob)],none⟩::T) sf):Td P E nt ops (i::L) st K:=by
 obtain⟨T,sf,h1,h2,h3⟩:=hT;exact⟨_,sf,by rw[<- h1];rfl, .cons hi (.make nw (by rw[hw,hg]) hd hq' hp (jd hn).1 (jd hn).2 rfl rfl rfl) rfl (λ_ hk=>hk) (by intro _ hf;cases hf) (by rw[mi]at h2;exact h2),h3⟩
def XS {u:Bj} (hi:ops[i]? = some o) (hw:b6 ops st.den o=some gb) (hd:dc nt o.dst=true) (hq':hs E st.den.o (ev st.den) o.op=some u) (hg:gb=true) (hp:u.pre) (hT:Td P E nt ops L (st.after o.dst none [(u.id,some u.ob)]) λT sf=>K (⟨i,⟨0,false,true, .tup [],[u.id],[],u.ob.ids⟩,looks st.den o,d8 st.den o.dst [(u.id,some u.ob)],gf E st.den o⟩::T) sf):Td P E nt ops (i::L) st K:=by
 obtain⟨T,sf,h1,h2,h3⟩:=hT;exact⟨_,sf,by rw[<- h1];rfl, .cons hi (.store u (by rw[hw,hg]) hd hq' hp rfl (λ_ hk=>hk)) rfl (λ_ hk=>hk) (λf hf=>⟨hf,by rw[hw,hg]⟩) (by rw[mi]at h2;exact h2),h3⟩
def Yx (id:Nat) (wb:Bool) {u:Bl} (hi:ops[i]? = some o) (hw:b6 ops st.den o=some gb) (hd:dc nt o.dst=true) (hq':Ei E st.den.o (ev st.den) id wb o.op=some u) (hn:(!u.new||qb id st)=true) (hg:gb=true) (hp:u.pre) (hT:Td P E nt ops L (st.after o.dst (some u.val) [(u.id,some u.ob)]) λT sf=>K (⟨i,⟨id,wb,true, .tup [],[u.id],if u.new then[id] else[],u.val.ids++u.ob.ids⟩,looks st.den o,d8 st.den o.dst [(u.id,some u.ob)],none⟩::T) sf):Td P E nt ops (i::L) st K:=by
 obtain⟨T,sf,h1,h2,h3⟩:=hT;exact⟨_,sf,by rw[<- h1];rfl, .cons hi (.app u (by rw[hw,hg]) hd hq' hp (λh=>jd (by rw[h]at hn;simpa using hn)) rfl (λh=>by simp[h]) rfl) rfl (λ_ hk=>hk) (by intro _ hf;cases hf) (by rw[mi]at h2;exact h2),h3⟩
def R9 {sr ds:TypeId} {x:Operand} {b:ByteArray} (hi:ops[i]? = some o) (hw:b6 ops st.den o=some gb) (hd:dc nt o.dst=true) (ho:o.op=.convert sr ds x) (Xd:DA E (ev st.den) sr ds x=some b) (hg:gb=true) (hp:b.size<=maxLen) (hT:Td P E nt ops L (st.after o.dst (some (.v (.one (.p (.sl b.size 1 false (xC b)))))) []) λT sf=>K (⟨i,⟨0,false,true, .tup [],[],[],[]⟩,looks st.den o,d8 st.den o.dst [],none⟩::T) sf):Td P E nt ops (i::L) st K:=by
 obtain⟨T,sf,h1,h2,h3⟩:=hT;exact⟨_,sf,by rw[<- h1];rfl, .cons hi (.conv sr ds x b (by rw[hw,hg]) hd ho Xd hp rfl) rfl (λ_ hk=>hk) (by intro _ hf;cases hf) (by rw[mi]at h2;exact h2),h3⟩
def tR {cl:Call} {f:FuncId} {fst caps args vs:List PC} {p:Prop} {b:Bool} {res:PR} (hi:ops[i]? = some o) (hw:b6 ops st.den o=some gb) (hd:dc nt o.dst=true) (ho:o.op=.call cl) (hc:callee (ev st.den) cl=some (f,fst,caps)) (hv:lq st.den.o (ev st.den) cl.args.toList=some (p,vs,b)) (hf:goodFn P f) (hpure:a6 P f args res) (hco:Sg (fst++(vs++caps)) args) (hg:gb=true) (hp:p) (hb:(!b||res.flat)=true) (hT:Td P E nt ops L (st.after o.dst (some res.toH) []) λT sf=>K (⟨i,⟨0,false,true,res,[],[],[]⟩,looks st.den o,d8 st.den o.dst [],none⟩::T) sf):Td P E nt ops (i::L) st K:=by
 obtain⟨T,sf,h1,h2,h3⟩:=hT;exact⟨_,sf,by rw[<- h1];rfl,   .cons hi (.call cl f fst caps args p vs b (by rw[hw,hg]) hd ho hc (.inl ⟨hf,hpure⟩) hv hp hco trivial hb rfl) rfl (λ_ hk=>hk) (by intro _ hf;cases hf) (by rw[mi]at h2;exact h2),h3⟩
end
end
def HW {ro:Option Nat} (P:Program) (nt:Nat) (c:Code) (st:Qb) (Q:Exit->Qb->Prop):Prop :=
 ∀w0 m0 a w,Sf w0 m0 nt st.den a w->c.wpIn (rf ro) 0 P (λe a' w'=>∃st':Qb,Q e st'/\Sf w0 m0 nt st'.den a' w') a w
def sn:List (Nat×Option HR)->List (Nat×Option HR)->Prop
 | [],_=>True
 |(d,some x)::r,l=>(∃y,bo l d=some y/\Rg y x)/\sn r l
 |(_,none)::r,l=>sn r l
def u7:List (Nat×Option a8)->List (Nat×Option a8)->Prop
 | [],_=>True
 |(d,some x)::r,l=>(∃y,bo l d=some y/\Ic y x)/\u7 r l
 |(_,none)::r,l=>u7 r l
def Ii(st st':Qb):Prop:=sn st.t st'.t/\u7 st.o st'.o
def sF:∀{l l':List (Nat×Option HR)},sn l l'->∀d x,bo l d=some x->∃y,bo l' d=some y/\Rg y x
 | [],_,_,d,x,h=>by simp[bo]at h
 | (e,some y)::r,l',h,d,x,hl=>by
  rw[b9]at hl;dsimp only at hl;split at hl
  .rename_i he;subst he;simp only[Bb]at hl;subst hl;exact h.1
  exact sF h.2 d x hl
 | (e,none)::r,l',h,d,x,hl=>by
  rw[b9]at hl;dsimp only at hl;split at hl
  .cases hl
  exact sF (l:=r) h d x hl
def HK:∀{l l':List (Nat×Option a8)},u7 l l'->∀d x,bo l d=some x->∃y,bo l' d=some y/\Ic y x
 | [],_,_,d,x,h=>by simp[bo]at h
 | (e,some y)::r,l',h,d,x,hl=>by
  rw[b9]at hl;dsimp only at hl;split at hl
  .rename_i he;subst he;simp only[Bb]at hl;subst hl;exact h.1
  exact HK h.2 d x hl
 | (e,none)::r,l',h,d,x,hl=>by
  rw[b9]at hl;dsimp only at hl;split at hl
  .cases hl
  exact HK (l:=r) h d x hl
section
variable {ro:Option Nat}{P:Program}{E:Xc}{nt:Nat}{st st':Qb}{Q Q':Exit->Qb->Prop}{w0:World}{m0:Wm}{a:Act}{w:World}
theorem Sf.sub (hs:Ii st' st) (h:Sf w0 m0 nt st.den a w):Sf w0 m0 nt st'.den a w:=by
 obtain⟨c,hold,h⟩:=h;exact⟨c,hold,h.relax _ (λd x hx=>sF hs.1 d x hx) (λd x hx=>HK hs.2 d x hx)⟩
section
variable {c:Code}
def CQ (h:HW (ro:=ro) P nt c st Q) (hq:∀e st,Q e st->Q' e st):HW (ro:=ro) P nt c st Q' :=
 λw0 m0 a w hr=>wpIn_mono (h w0 m0 a w hr) λe a w ⟨st',hQ,hr⟩=>⟨st',hq _ _ hQ,hr⟩
def TO(st':Qb)(hs:Ii st' st)(h:HW (ro:=ro) P nt c st' Q):HW (ro:=ro) P nt c st Q:=λw0 m0 a w hr=>h w0 m0 a w (hr.sub hs)
def dj(h:Q .normal st):HW (ro:=ro) P nt .skip st Q:=λ_ _ _ _ hr=>wpIn_skip ⟨st,h,hr⟩
variable {id:Nat}
def cg(h:Q (.exit id) st):HW (ro:=ro) P nt (.exit id) st Q:=λ_ _ _ _ hr=>wpIn_exit ⟨st,h,hr⟩
def AD(h:Q .ret st):HW (ro:=ro) P nt .ret st Q:=λ_ _ _ _ hr=>wpIn_ret ⟨st,h,hr⟩
def tN {ro:Option Nat} (P:Program) (nt:Nat) (y:Code) (Q:Exit->Qb->Prop):Exit->Qb->Prop
 | .normal,st=>HW (ro:=ro) P nt y st Q
 |e,st=>Q e st
def cw {x y:Code} (h:HW (ro:=ro) P nt x st (tN (ro:=ro) P nt y Q)):HW (ro:=ro) P nt (.seq x y) st Q:=λw0 m0 a w hr=>by
 refine wpIn_seq (wpIn_mono (h w0 m0 a w hr) λe a' w' ⟨st',hQ,hr'⟩=>?_);cases e<;>simp only[Exit.then]<;>first|exact hQ w0 m0 a' w' hr'|exact⟨st',hQ,hr'⟩
def aj {c:Operand} {x y:Code} (b:Bool) (hc:ev st.den c=some (.v (.one (.p (.raw (.bool b)))))) (ht:b=true->HW (ro:=ro) P nt x st Q) (hf:b=false->HW (ro:=ro) P nt y st Q):HW (ro:=ro) P nt (.cond c x y) st Q:=λw0 m0 a w hr=>by
 obtain⟨cc,hold,Db⟩:=hr;obtain⟨e1,_⟩:=ae Db hc;exact wpIn_cond_split e1 (λhb=>ht hb w0 m0 a w ⟨cc,hold,Db⟩) (λhb=>hf hb w0 m0 a w ⟨cc,hold,Db⟩)
def UP (id:Nat) (Q:Exit->Qb->Prop):Exit->Qb->Prop
 | .exit id',st=>if id'=id then Q .normal st else Q (.exit id') st
 |e,st=>Q e st
theorem aF (h:HW (ro:=ro) P nt c st (UP id Q)):HW (ro:=ro) P nt (.block id c) st Q:=λw0 m0 a w hr=>by
 refine wpIn_block (wpIn_mono (h w0 m0 a w hr) λe a' w' ⟨st',hQ,hr'⟩=>?_);cases e<;>simp only[Exit.inBlock]<;>try exact⟨st',hQ,hr'⟩
 rename_i id';simp only[UP]at hQ
 grind
def an8{F:Fence}{m:Nat}{QQ:Exit->Act->World->Prop}(I:Nat->Act->World->Prop)(n0:Nat){a:Act}{w:World}(h₀:I n0 a w)(round:∀n a w,I n a w->c.wpIn F m P (Exit.then (λa' w'=>∃m,m<n/\I m a' w') QQ) a w):(Code.loop c).wpIn F m P QQ a w:=by
 intro b k cs hro hb hr
 have key:∀n a w,I n a w->∃e a' w',QQ e a' w'/\ArrivesIn (Machine.fenced P F) P (lone (b.atR a (.code c::.inLoop c::k)) cs w) b k cs e a' w':=by
  intro n
  induction n using Nat.strongRecOn with
  | _ n ih =>
   intro a w hI;obtain⟨e,a₁,w₁,hq,harr⟩:=round n a w hI b (.inLoop c::k) cs hro hb hr
   cases e with
   | normal =>
    obtain⟨m,hlt,hI₁⟩:=hq;obtain⟨e₂,a₂,w₂,hq₂,harr₂⟩:=ih m hlt a₁ w₁ hI₁;exact⟨e₂,a₂,w₂,hq₂, .of_steps (StepsIn.trans harr (.one (fenced_calm hb hr rfl) stepR_inLoop)) harr₂⟩
   |exit id=>exact⟨_,a₁,w₁,hq, .pass (x:=.inLoop c) rfl (λ_ _=>.inl Ec) harr⟩
   |goto l=>exact⟨_,a₁,w₁,hq, .pass (x:=.inLoop c) rfl (λ_ _=>.inl Ec) harr⟩
   |ret=>exact⟨_,a₁,w₁,hq, .pass (x:=.inLoop c) rfl (λ_ _=>.inl Ec) harr⟩
   |panic ch=>exact⟨_,a₁,w₁,hq, .pass (x:=.inLoop c) rfl (λ_ _=>.inl Ec) harr⟩
   |outgrown=>exact⟨_,a₁,w₁,hq, .pass (x:=.inLoop c) rfl (λ_ _=>.inl Ec) harr⟩
 obtain⟨e,a',w',hq,harr⟩:=key n0 a w h₀;exact⟨e,a',w',hq, .of_steps (.one (fenced_calm hb hr rfl) stepR_loop) harr⟩
def fD {ι:Type} (I:ι->Qb) (p:ι->Prop) (μ:ι->Nat) (i:ι) (Q:Exit->Qb->Prop):Exit->Qb->Prop
 | .normal,st=>∃i',p i'/\μ i'<μ i/\Ii (I i') st
 |e,st=>Q e st
def bev {ι:Type} {body:Code} (I:ι->Qb) (p:ι->Prop) (μ:ι->Nat) (i0:ι) (h0:p i0) (hs:Ii (I i0) st) (round:∀i,p i->HW (ro:=ro) P nt body (I i) (fD I p μ i Q)):HW (ro:=ro) P nt (.loop body) st Q:=λw0 m0 a w hr=>by
 refine an8 (λn a w=>∃i,p i/\μ i=n/\Sf w0 m0 nt (I i).den a w) (μ i0) ⟨i0,h0,rfl,hr.sub hs⟩ ?_;rintro n a w ⟨i,hp,rfl,hr⟩;refine wpIn_mono (round i hp w0 m0 a w hr) λe a' w' ⟨st',hQ,hr'⟩=>?_;cases e<;>simp only[Exit.then]<;>try exact⟨st',hQ,hr'⟩
 obtain⟨i',hp',hlt,hsub⟩:=hQ;exact⟨μ i',hlt,i',hp',rfl,hr'.sub hsub⟩
def KU (hE:dl P E) {ops:Array Oper} (h:Td P E nt ops (List.range ops.size) st λ_ sf=>Q .normal sf):HW (ro:=ro) P nt (.region id ops false) st Q:=λw0 m0 a w hr=>by
 obtain⟨T,sf,hl,hT,h⟩:=h;refine wpIn_region ?_;rw[<- hl];exact eX hE (λa' w' hr'=>⟨sf,h,hr'⟩) T _ a w hT hr
def HQ (hE:dl P E) (hm:P.follows .mixedOrders=true) {ops:Array Oper} (L:List Nat) (h:Td P E nt ops L st λT sf=>RD ops T=true/\Q .normal sf):HW (ro:=ro) P nt (.region id ops true) st Q:=λw0 m0 a w hr=>by
 obtain⟨T,sf,hl,hT,hc,h⟩:=h;exact aen hE hm hT hc hr λa' w' hr'=>⟨sf,h,hr'⟩
def Qm (E:Xc) (s:S):List ResultVar->Option (Prop×List HC)
 | []=>some (True,[])
 | .tmp t::r =>
  match s.t t,Qm E s r with
  |some (.v cc),some (p,l)=>some (p,cc::l)
  |_,_=>none
 | .cell ad ty::r =>
  match nx E s.o (ev s) ty (.tmp ad),Qm E s r with
  |some ⟨p1, .v cc⟩,some (p,l)=>some (p1/\p,cc::l)
  |_,_=>none
def qt (o:av):List HC->Option (Prop×List PC)
 | []=>some (True,[])
 | x::r =>
  match Lr o x,qt o r with
  |some (p,y,_),some (q,ys)=>some (p/\q,y::ys)
  |_,_=>none
def a7:List PC->PR
 | [x]=>.v x
 |l=>.tup l
def sA (E:Xc) (st:Qb) (rs:List ResultVar) (res:List PC):Prop :=
 ∃p l q vs,Qm E st.den rs=some (p,l)/\p/\qt st.den.o l=some (q,vs)/\q/\Sg vs res
def ab8 {t:TypeId} {u v:Value} (h:(Instr.loadAt t u).run P w=.ok v w):∃ad,u=.pointer (some ad)/\(loadVar t ad).run P w=.ok v w:=by
 cases u<;>try(simp[Instr.loadAt,Instr.sureAddr]at h;done)
 rename_i ad
 cases ad with
 |none=>simp[Instr.loadAt,Instr.sureAddr]at h
 |some ad=>exact⟨ad,rfl,by simpa [Instr.loadAt,Instr.sureAddr]using h⟩
def z8 (hE:dl P E) {c:Pc} {s:S} (h:ah w0 nt c s a w) (F:ResultVar->Sem Value) (F1:∀t,F (.tmp t)=pure (a.tmps.getD t undef)) (F2:∀ad t,F (.cell ad t)=do loadVar t (<- asAddr (a.tmps.getD ad undef))) :
 ∀{rs:List ResultVar} {p:Prop} {l:List HC},Qm E s rs=some (p,l)->p->∃vs:List Value,(rs.mapM F).run P w=.ok vs w/\cb c s.o l vs
 | [],p,l,hr,_=>by
  simp only[Qm,Bb,Tc]at hr;obtain⟨_,rfl⟩:=hr;exact⟨[],by simp,Aa⟩
 | .tmp t::r,p,l,hr,hp=>by
  simp only[Qm]at hr;split at hr<;>try(cases hr;done)
  rename_i cc p1 l1 ht hr1;simp only[Bb,Tc]at hr;obtain⟨rfl,rfl⟩:=hr;obtain⟨vs,h1,h2⟩:=z8 hE h F F1 F2 hr1 hp;refine⟨a.tmps.getD t undef::vs, ?_,h.tmps t _ ht,h2⟩;simp_all
 | .cell ad ty::r,p,l,hr,hp=>by
  simp only[Qm]at hr;split at hr<;>try(cases hr;done)
  rename_i p1 cc p2 l2 hld hr1;simp only[Bb,Tc]at hr;obtain⟨rfl,rfl⟩:=hr;obtain⟨v,hv,hvr⟩:=RW hE h hld hp.1;obtain⟨ad',he,hlv⟩:=ab8 hv;have he':a.tmps.getD ad undef=.pointer (some ad'):=he;obtain⟨vs,h1,h2⟩:=z8 hE h F F1 F2 hr1 hp.2;refine⟨v::vs, ?_,hvr,h2⟩;rw[List.mapM_cons,F2,he'];simp only[asAddr,Nf,Mh,Rf,hlv,h1]
def rg {c:Pc} {s:S} (h:ah w0 nt c s a w) {m:Dc} (hm:Mm w0 c w m):∀{l:List HC} {us:List Value} {p:Prop} {vs:List PC},cb c s.o l us->qt s.o l=some (p,vs)->p->ck m vs us
 | [],[],p,vs,_,hv,_=>by
  simp only[qt,Bb,Tc]at hv;obtain⟨_,rfl⟩:=hv;trivial
 | x::l,u::us,p,vs,hr,hv,hp=>by
  simp only[qt]at hv;split at hv<;>try(cases hv;done)
  rename_i p1 y b q ys h1 h2;simp only[Bb,Tc]at hv;obtain⟨rfl,rfl⟩:=hv;exact⟨(DW h hm hr.1 h1 hp.1).1,rg h hm hr.2 h2 hp.2⟩
 | [],_::_,_,_,hr,_,_=>hr.elim
 |_::_,[],_,_,hr,_,_=>hr.elim
theorem Sf.strike {P:Program} {nt:Nat} {st:S} {w0:World} {m0:Wm} {fn:Func} {R:Ending->World->Prop}:∀{l:List Deferred} {a:Act} {w:World},a.defers=l->Sf w0 m0 nt st a w ->
 (∀w',Sf w0 m0 nt st { a with defers:=[] } w'->∃v,(results fn a.tmps).run P w'=.ok v w'/\R (.returned v) w')->LeavesInM (rf none) 0 P fn a.tmps R l .returning w
 | [],a,w,hl,hr,h=>by
  obtain⟨tm,ds⟩:=a;simp only at hl;subst hl;obtain⟨v,h1,h2⟩:=h w hr;exact⟨v,h1,h2⟩
 | d :: l,a,w,hl,hr,h=>by
  obtain⟨tm,ds⟩:=a;simp only at hl;subst hl;obtain⟨c,hold,hrc⟩:=hr;obtain⟨hpw,hds⟩:=hrc.defers;obtain⟨D,rfl,h2,h3,h4,h5⟩:=hds d Ec;refine⟨by simp, .inl ⟨D,_,rfl,run_takeDeferred h2, ?_⟩⟩
  have hne:∀b,b≠D->(w.putObj D (.deferred none)).heap[b]? = w.heap[b]?:=λb hb=>by
   show(w.heap.setIfInBounds D _)[b]? = _
   grind
  refine Sf.strike (a:={ tmps:=tm,defers:=l }) (w:=w.putObj D (.deferred none)) rfl ⟨c,hold,⟨(Hh.1 hpw).2,λd' hd'=>?_⟩,hrc.size, ?_,hrc.tmps,λid ob ho=>?_,hrc.inj,λb ob hb=>?_,hrc.sep,hrc.was,λb ob hb=>?_,hrc.fsep,hrc.fixed⟩ h
  .obtain ⟨D',rfl,g2,g3⟩:=hds d' (by simp[hd'])
   refine⟨D',rfl,(hne D' λe=>(Hh.1 hpw).1 _ hd' (by rw[e])).trans g2,g3⟩
  .have hb:=hrc.below
   exact⟨hb.os,hb.tape,hb.output,by show _<=(w.heap.setIfInBounds D _).size;rw[Array.size_setIfInBounds];exact hb.size,λk hk=>Ea hk (Ud k),hb.drawn⟩
  .refine (hrc.objs id ob ho).keep (Dc.le.refl _) rfl rfl (λ_ _=>Vc.refl _ _ _) λb hb=>hne b λe=>?_
   obtain⟨x1,hc,hdt⟩:=(hrc.objs id ob ho).data hb;rw[e,h2]at hc;cases hc;cases hdt
  .refine (hne b λe=>?_).trans (hrc.imm b ob hb)
   grind
  refine(hne b λe=>?_).trans (hrc.frm b ob hb)
  grind
def Qt:Nat->List PC->List (Nat×Option HR)
 |_,[]=>[]
 |i,x::r=>(i,some (.v x.toH))::Qt (i+1) r
theorem fW:∀(l:List PC) (i d:Nat) (r:HR),bo (Qt i l) d=some r->∃x,i<=d/\l[d-i]? = some x/\r=.v x.toH
 | [],i,d,r,h=>by simp[Qt,bo]at h
 | x::l,i,d,r,h=>by
  simp only[Qt]at h;rw[b9]at h;dsimp only at h;split at h
  .grind
  rename_i hd;obtain⟨y,h1,h2,h3⟩:=fW l (i+1) d r h
  grind
theorem b3d (hE:dl P E) {f:FuncId} {fn:Func} {body:Code} {args res:List PC} (hf:P.funcs[f]? = some fn) (hb:fn.body=some body) (hn:fn.ntmps=nt) (hl:args.length<=nt)
 (h:HW (ro:=none) P nt body ⟨Qt 0 args,[]⟩ λe st=>(e=.normal\/e=.ret)/\sA E st fn.results.toList res):a6 P f args (a7 res):=by
 intro w imm us htab himm hargs;refine(callsIn_wide (n:=0)).1 (callsIn_of_wp_marks hf hb trivial ?_ rfl);have hul:=hargs.length
 let a0:Act:={ tmps:=us.toArray++Array.replicate (fn.ntmps-us.toArray.size) undef,defers:=[] }
 have hrel:Sf w (imm,fg w,(λ_=>undef),(λ_=>none),λ_ _=>undef) nt (Qb.den ⟨Qt 0 args,[]⟩) a0 w:=by
  refine⟨{ old:=(imm,fg w,(λ_=>undef),(λ_=>none),λ_ _=>undef),imm:=imm,tab:=htab,own:=λ_=>undef,blk:=λ_=>Cg,rows:=λ_ _=>undef },rfl,vg.nil _ _ _ _, ?_,Below.refl _ _,λd x hx=>?_,λid ob ho=>?_,λi i' ob ob' b ho=>?_,himm,λid ob b ho=>?_,λb _=>rfl,λb ob hb=>hb,λid ob b ho=>?_,λid _=>.inl rfl⟩
  .grind
  .obtain ⟨y,_,hy,rfl⟩:=fW args 0 d x hx
   simp only[Ho]at hy;obtain⟨u,hu,hr⟩:=hargs.get d y hy;have hd:d<us.length:=(On.1 hu).1
   have:a0.tmps.getD d undef=u:=by
    have e1:a0.tmps[d]? = some u:=by
     grind
    simp_all
   rw[this];exact gp.of_P hr
  .simp[Qb.den,bo]at ho
  .simp[Qb.den,bo]at ho
  .simp[Qb.den,bo]at ho
  simp[Qb.den,bo]at ho
 refine wpIn_mono (h w (imm,fg w,(λ_=>undef),(λ_=>none),λ_ _=>undef) a0 w hrel) λe a' w1 ⟨st',⟨hex,hres⟩,hr1⟩=>?_
 suffices key:LeavesInM (rf none) 0 P fn a'.tmps _ a'.defers .returning w1 by
  rcases hex with rfl|rfl<;>exact key
 refine Sf.strike rfl hr1 λw' hr'=>?_;obtain⟨c,hold,hrc⟩:=hr';obtain⟨p,l,q,vs,h1,h2,h3,h4,h5⟩:=hres
 have hfrm:∀b,b<w.heap.size->c.frm b≠none/\w'.heap[b]? = w.heap[b]?:=λb hb=>by
  have e1:c.frm b=some w.heap[b]:=by
   show c.old.2.1 b=_;rw[hold];exact Km hb
  refine⟨by rw[e1];simp, ?_⟩;rw[hrc.frm b _ e1,Km hb]
 have hwas:∀b,b<w.heap.size->c.imm b=imm b:=λb hb=>by
  rw[hrc.was b (hfrm b hb).1,hold]
 have hseen:Mm w c w' (λb=>if b<w.heap.size then imm b else w'.heap[b]?):=by
  refine⟨λb ob hbo=>?_,λb hb _=>?_⟩
  .by_cases hlt:b<w.heap.size
   .grind
   simp only[hlt,Na];exact hrc.imm b ob hbo
  grind
 have hrv:∃v,(results fn a'.tmps).run P w'=.ok v w'/\qj (λb=>if b<w.heap.size then imm b else w'.heap[b]?) (a7 res) v:=by
  let F:ResultVar->Sem Value:=λ| .tmp t=>pure (a'.tmps.getD t undef) | .cell ad t=>do loadVar t (<- asAddr (a'.tmps.getD ad undef))
  obtain⟨uvs,hrun,hrep⟩:=z8 hE hrc F (λ_=>rfl) (λ_ _=>rfl) h1 h2;have hF:results fn a'.tmps=(do let vs <- fn.results.mapM F;pure (if h:vs.size=1 then vs[0]else .tuple vs)):=rfl;rw[hF,Array.mapM_eq_mapM_toList,Nf,Sem.run_map];have hview:=Sg.sound h5 (rg hrc hseen hrep h3 h4);rw[hrun];simp only[Rf,Mh];refine⟨_,rfl, ?_⟩
  match res,uvs,hview with
  | [x],[u],hv=>simp only[a7,qj];simpa using hv.1
  | [],[],hv=>exact⟨[],by simp,Aa⟩
  |x::y::r,u::v::t,hv=>exact⟨u::v::t,by simp,hv⟩
  | [],_::_,hv=>exact hv.elim
  | [_],[],hv=>exact hv.elim
  | [_],_::_::_,hv=>exact hv.2.elim
  |_::_::_,[],hv=>exact hv.elim
  |_::_::_,[_],hv=>exact hv.2.elim
 obtain⟨v,hv1,hv2⟩:=hrv
 have hfin:(∃v_1 imm',Ending.returned v=Ending.returned v_1/\qj imm' (a7 res) v_1/\(∀b,b<w.heap.size->imm' b=imm b)/\(∀b ob,imm' b=some ob->w'.heap[b]? = some ob)/\Below w.heap.size w w'):=by
  refine⟨v,_,rfl,hv2,λb hb=>by simp[hb],λb ob hbo=>?_,⟨hrc.below.os,hrc.below.tape,hrc.below.output,hrc.below.size,λk hk=>(hfrm k hk).2,hrc.below.drawn⟩⟩
  grind
 grind
end
end
end
section
open Go.RowKit
section
variable {ro:Option Nat}{P:Program}{nt:Nat}{st:Qb}{Q:Exit->Qb->Prop}
def w9 (st:Qb) (id:Nat):(Qb.den ⟨st.t,(id,none)::st.o⟩)=st.den.setO id none:=by
 unfold Qb.den S.setO;simp[b9]
section
variable {c:Code}
def Cu(st1:Qb)(d:Nat)(x:HR)(hs:∀w0 m0 a w,Sf w0 m0 nt st.den a w->∃cc,cc.old=m0/\ah w0 nt cc st1.den a w/\ap cc st1.den.o x (a.tmps.getD d undef))(h:HW (ro:=ro) P nt c ⟨(d,some x)::st1.t,st1.o⟩ Q):HW (ro:=ro) P nt c st Q:=λw0 m0 a w hr=>by
 obtain⟨cc,hold,Db,hx⟩:=hs w0 m0 a w hr;refine h w0 m0 a w ⟨cc,hold,Db.defers,Db.size,Db.below,λk y hy=>?_,Db.objs,Db.inj,Db.imm,Db.sep,Db.was,Db.frm,Db.fsep,Db.fixed⟩;simp only[Qb.den]at hy;rw[b9]at hy;dsimp only at hy;split at hy
 .rename_i hk
  subst hk;simp only[Bb]at hy;subst hy;exact hx
 exact Db.tmps k y hy
def b5 (d:Nat) {id n n' s:Nat} {wr:Bool} {e:TypeId} {f:Nat->Nat->PV} (hd:bo st.t d=some (.v (.one (.ref id n)))) (ho:bo st.o id=some (.arr wr s e n' f)) (hn:n'=n) (h:HW (ro:=ro) P nt c ⟨(d,some (bu (.sl n s false f)))::st.t,(id,none)::st.o⟩ Q):HW (ro:=ro) P nt c st Q:=by
 subst hn;refine Cu ⟨st.t,(id,none)::st.o⟩ d (bu (.sl n' s false f)) (λw0 m0 a w hr=>?_) h;obtain⟨cc,hold,Db⟩:=hr;refine⟨_, ?_,by rw[w9];exact Db.freeze ho, ?_⟩
 .exact hold
 obtain⟨_,_,h3⟩:=Db.tmps d _ hd;have:=(h3 _ _ _ _ ho rfl).2 rfl;rw[this];exact s8 Db ho
def eg (d:Nat) {id:Nat} {l:List HV} {ps:List PV} (hd:bo st.t d=some (.v (.one (.ptr id 0)))) (ho:bo st.o id=some (.box l)) (hp:mj l=some ps) (h:HW (ro:=ro) P nt c ⟨(d,some (bu (.vp ps.length λj=>ps.getD j .any)))::st.t,(id,none)::st.o⟩ Q):HW (ro:=ro) P nt c st Q:=by
 refine Cu ⟨st.t,(id,none)::st.o⟩ d _ (λw0 m0 a w hr=>?_) h;obtain⟨cc,hold,Db⟩:=hr;refine⟨_, ?_,by rw[w9];exact Db.freeze ho, ?_⟩
 .exact hold
 obtain⟨_,_,h3⟩:=Db.tmps d _ hd;obtain⟨b,hb,hu⟩:=h3 l ho;rw[hu,<- hb];exact awl Db ho hp
def f8(bx off:Nat){id n n' s:Nat}{wr:Bool}{e:TypeId}{f:Nat->Nat->PV}{l:List HV}(hb:bo st.o bx=some (.box l))(hl:l[off]? = some (.ref id n))(ho:bo st.o id=some (.arr wr s e n' f))(hn:n'=n)(hne:Nat.beq bx id=false)(h:HW (ro:=ro) P nt c ⟨st.t,(bx,some (.box (bj l off [.p (.sl n s false f)])))::(id,none)::st.o⟩ Q):HW (ro:=ro) P nt c st Q:=λw0 m0 a w hr=>by
 subst hn;obtain⟨cc,hold,Db⟩:=hr;have hbi:bx≠id:=by rintro rfl;simp at hne
 have hfr:=Db.freeze (id:=id) ho;rw[<- w9]at hfr
 have hb':(Qb.den ⟨st.t,(id,none)::st.o⟩).o bx=some (.box l):=by
  simp only[Qb.den,b9,hbi,Na];exact hb
 refine h w0 m0 a w ?_
 have hw:=hfr.write bx (.box l) hb' (.box (bj l off [.p (.sl n' s false f)])) w (cc.own bx) (cc.blk bx) none (Wf.refl w _) (λ_ e=>by cases e) (.inr (.inl ⟨l,bj l off [.p (.sl n' s false f)],hb',by simp[S.setO],by simp⟩)) (λb hb=>.inl hb) (by
  obtain⟨b,C,ee,q1,q2,q3,q4,q5⟩:=hfr.objs bx _ hb';refine⟨b,C,ee,by simpa using q1,by simpa using q2,q3,q4, ?_⟩;have hoff:off<l.length:=(On.1 hl).1;have hcl:=q5.length;refine b7.of_get ?_ λk x u hx hu=>?_
  .simp only[bj,Uc,Ae,Ck,Yk];omega
  have hx':=hx;unfold bj at hx';rw[dt l [HV.p (.sl n' s false f)] off k Uh]at hx';by_cases hk:k=off
  .subst hk
   simp at hx';subst hx';obtain⟨b0,C0,e0,p1,p2,p3,p4,p5⟩:=Db.objs bx _ hb
   have hbb:b0=b:=by
    have q2':cc.blk bx=yn b:=q2;have q3':yn b b0:=by rw[<- q2',p2];rfl
    exact q3'
   subst hbb
   have hCC:C0=C:=by
    rw[q4]at p4;simp only[Bb,Obj.cells.injEq]at p4;exact p4.1.symm
   subst hCC;obtain⟨u',hu',hr'⟩:=p5.get k _ hl;rw[hu]at hu';simp only[Bb]at hu';subst hu';obtain⟨_,_,h3⟩:=hr';have:=(h3 _ _ _ _ ho rfl).2 rfl;rw[this];exact s8 Db ho
  rw[Ca Uh]at hx';obtain⟨u',hu',hr'⟩:=q5.get k x hx';rw[hu]at hu';simp only[Bb]at hu';subst hu';refine bc.evo ?_ (λj _=>?_) hr'
  .exact Dc.le.refl (Pb cc w id)
  by_cases hj:j=bx
  .subst hj;exact .inr (.inl ⟨l,bj l off [.p (.sl n' s false f)],hb',by simp[S.setO],by simp⟩)
  exact Vc.of_same (by simp[S.setO,hj]) (by simp[hj]))
 have e:Qb.den ⟨st.t,(bx,some (.box (bj l off [.p (.sl n' s false f)])))::(id,none)::st.o⟩=(Qb.den ⟨st.t,(id,none)::st.o⟩).setO bx (some (.box (bj l off [.p (.sl n' s false f)]))):=by
  unfold Qb.den S.setO;simp only[S.mk.injEq,true_and];funext k;simp only[b9]
 rw[e];exact⟨_,(by exact hold),hw⟩
end
end
end
section
open Go.RowKit
def wj(l:List Nat)(k:Nat):Bool:=l.any (Nat.beq k)
def oc{l:List Nat}{k:Nat}:wj l k=true<->k∈l:=by
 unfold wj;rw[Yf];constructor
 .rintro ⟨x,hx,hb⟩
  rw[Vi hb];exact hx
 exactλh=>⟨k,h,by simp⟩
def Xs (W:List Nat) (id:Nat):List (Nat×Option a8)->Bool
 | []=>true
 |(e,some x)::r=>(wj W e||yA id x.ids)&&Xs W id r
 |(_,none)::r=>Xs W id r
def gL{W:List Nat}{id:Nat}:∀{l:List (Nat×Option a8)},Xs W id l=true->∀d x,d∉W->bo l d=some x->¬x.men id
 | [],_,d,x,_,h=>by simp[bo]at h
 | (e,some y)::r,h,d,x,hd,hl=>by
  simp only[Xs,Od,Kj]at h;rw[b9]at hl;dsimp only at hl;split at hl
  .rename_i he
   subst he;simp only[Bb]at hl;subst hl
   rcases h.1 with h1|h1
   .exact Ea (oc.1 h1) hd
   exactλhm=>wL h1 (a8.men_ids hm)
  exact gL h.2 d x hd hl
 | (e,none)::r,h,d,x,hd,hl=>by
  rw[b9]at hl;dsimp only at hl;split at hl
  .cases hl
  exact gL (l:=r) (by simpa [Xs]using h) d x hd hl
def isNone(x:Option a8):Bool:=match x with|none=>true|some _=>false
def UF (o1 o2:List (Nat×a8)) (res:HR) (fx:List Nat) (st:Qb):Bool :=
 ((dx o2).all λid=>(wj fx id&&wj (dx o1) id)||(Nat.blt id 1000&&Bo id st.t&&Xs (dx o1++dx o2) id st.o&&(wj (dx o1) id||isNone (bo st.o id)))) &&
 ((Bt o2).all (wj (dx o2))&&res.ids.all (wj (dx o2)))
def Xz:List (Nat×a8)->av->Prop
 | [],_=>True
 |(id,ob)::r,o=>(∃ob',o id=some ob'/\Ic ob' ob)/\Xz r o
def yK{o:av}:∀{l:List (Nat×a8)},Xz l o->∀id ob,lk l id=some ob->∃ob',o id=some ob'/\Ic ob' ob
 | (e,x)::l,h,id,ob,hl=>by
  simp only[lk]at hl;by_cases hk:e=id
  .subst hk
   simp only[Nat.beq_refl,cond_true,Bb]at hl;subst hl;exact h.1
  have:Nat.beq e id=false:=by
   rw[Ie];exactλhb=>hk (Vi hb)
  rw[this]at hl;exact yK h.2 id ob (by simpa using hl)
section
variable {P:Program}{E:Xc}{nt:Nat}{ops:Array Oper}{i:Nat}{o:Oper}{st:Qb}{L:List Nat}{K:List Tr->Qb->Prop}
def zS(o1 o2:List (Nat×a8))(fx:List Nat):List Nat:=(dx o2).filter λid=>!(wj fx id&&wj (dx o1) id)
def ke{cl:Call}{f:FuncId}{caps:List HC}{args hcs:List HC}{o1 o2:List (Nat×a8)}{res:HR}{fx:List Nat}{gb:Bool}(hi:ops[i]? = some o)(hw:b6 ops st.den o=some gb)(hd:dc nt o.dst=true)(ho:o.op=.call cl)
 (hc:wv (ev st.den) cl=some (f,caps)) (hv:tg (ev st.den) cl.args.toList=some hcs) (hf:goodFn P f) (hfun:dn P f args o1 res o2 fx) (hco:vz (hcs++caps) args) (hsub:Xz o1 st.den.o) (hB:UF o1 o2 res fx st=true) (hg:gb=true)
 (hT:Td P E nt ops L (st.after o.dst (some res) (Rm o1 o2)) λT sf=>K (⟨i,⟨0,false,true, .tup [],dx o1++dx o2,zS o1 o2 fx,res.ids++Bt o2⟩,looks st.den o,d8 st.den o.dst (Rm o1 o2),none⟩::T) sf):Td P E nt ops (i::L) st K:=by
 obtain⟨T,sf,h1,h2,h3⟩:=hT;simp only[UF,Od,Ze]at hB;obtain⟨b1,b2,b3⟩:=hB
 have key:∀id∈dx o2,id∉fx\/id∉dx o1->id<1000/\Bo id st.t=true/\Xs (dx o1++dx o2) id st.o=true/\(id∈dx o1\/bo st.o id=none):=by
  intro id hid hor;have:=b1 id hid;simp only[Kj,Od]at this
  rcases this with⟨q1,q2⟩|⟨⟨⟨q1,q2⟩,q3⟩,q4⟩
  .rcases hor with e|e
   .exact Ea (oc.1 q1) e
   exact Ea (oc.1 q2) e
  refine⟨by simpa [Eo]using q1,q2,q3, ?_⟩
  rcases q4 with q4|q4
  .exact .inl (oc.1 q4)
  refine .inr ?_
  cases hl:bo st.o id with
  |none=>rfl
  |some x=>rw[hl]at q4;cases q4
 refine⟨_,sf,by rw[<- h1];rfl, .cons hi (.fcall cl f caps args hcs o1 o2 res fx (by rw[hw,hg]) hd ho hc hf hv hco hfun (yK hsub) (λid h2 h1=>?_) (λid h2 h1=>?_) (λid ob hid k hk=>?_) (λk hk=>?_) rfl (λid h2 h1=>?_) rfl) rfl (λ_ hk=>hk) (by intro _ hf;cases hf) (by rw[mi]at h2;exact h2),h3⟩
 .rcases(key id h2 (.inr h1)).2.2.2 with e|e
  .exact Ea e h1
  exact e
 .obtain ⟨q1,q2,q3,_⟩:=key id h2 h1
  exact⟨WE q2,λd x hd hx=>gL q3 d x hd hx,q1⟩
 .have hmem:∀{l:List (Nat×a8)},lk l id=some ob->(id,ob)∈l:=by
   intro l
   induction l with
   |nil=>intro h;cases h
   | cons p l ih =>
    obtain⟨e,x⟩:=p;intro h;simp only[lk]at h
    cases hb:Nat.beq e id with
    | true =>
     rw[hb]at h;simp only[cond_true,Bb]at h;rw[<- Vi hb,h];exact Yh
    | false =>
     rw[hb]at h;exact Jh _ (ih (by simpa using h))
  exact oc.1 (b2 k (nK (hmem hid) (a8.men_ids hk)))
 .exact oc.1 (b3 k (HR.men_ids hk))
 refine Jo.2 ⟨h2, ?_⟩;simp only[Nh,Mz]
 rcases h1 with e|e
 .exact .inl (by rw[Ie];exactλhb=>e (oc.1 hb))
 exact .inr (by rw[Ie];exactλhb=>e (oc.1 hb))
end
def Jr:Nat->List HC->List (Nat×Option HR)
 |_,[]=>[]
 |i,x::r=>(i,some (.v x))::Jr (i+1) r
def KV:∀(l:List HC) (i d:Nat) (r:HR),bo (Jr i l) d=some r->∃x,i<=d/\l[d-i]? = some x/\r=.v x
 | [],i,d,r,h=>by simp[Jr,bo]at h
 | x :: l,i,d,r,h=>by
  simp only[Jr]at h;rw[b9]at h;dsimp only at h;split at h
  .rename_i hd
   subst hd;simp only[Bb]at h;exact⟨x,Yb _,by simp,h.symm⟩
  rename_i hd;obtain⟨y,h1,h2,h3⟩:=KV l (i+1) d r h;refine⟨y,by omega, ?_,h3⟩;rw[show d-i=(d-(i+1))+1 by omega];simpa using h2
def Mw(l:List (Nat×a8)):List (Nat×Option a8):=l.map λp=>(p.1,some p.2)
def SV:∀(l:List (Nat×a8)),bo (Mw l)=lk l
 | []=>rfl
 | (e,x)::r=>by
  funext k;have:=congrFun (SV r) k;unfold Mw at this ⊢;simp only[Wh,bo,lk];rw[this]
def DC:List HC->HR
 | [x]=>.v x
 |l=>.tup l
def kN (E:Xc) (st:Qb) (rs:List ResultVar) (res:HR) (o2:List (Nat×a8)):Prop :=
 ∃p l,Qm E st.den rs=some (p,l)/\p/\Rg (DC l) res/\Xz o2 st.den.o
section
variable {P:Program}{E:Xc}{nt:Nat}
def bf3(hE:dl P E){f:FuncId}{fn:Func}{body:Code}{args:List HC}{o1 o2:List (Nat×a8)}{res:HR}{fx:List Nat}(hf:P.funcs[f]? = some fn)(hb:fn.body=some body)(hn:fn.ntmps=nt)(hl:args.length<=nt)
 (Eg:fx.all (Nat.ble 1000)=true) (h:HW (ro:=none) P nt body ⟨Jr 0 args,Mw o1⟩ λe st=>(e=.normal\/e=.ret)/\kN E st fn.results.toList res o2):dn P f args o1 res o2 fx:=by
 classical
 intro w c us hm hargs;refine(callsIn_wide (n:=0)).1 (callsIn_of_wp_marks hf hb trivial ?_ rfl)
 have hul:us.length=args.length:=by
  have:∀{xs:List HC} {us:List Value},cb c (lk o1) xs us->us.length=xs.length:=by
   intro xs
   induction xs with
   |nil=>intro us hh;cases us with|nil=>rfl|cons=>exact hh.elim
   |cons x xs ih=>intro us hh;cases us with|nil=>exact hh.elim|cons u us=>simp[ih hh.2]
  exact this hargs
 let a0:Act:={ tmps:=us.toArray++Array.replicate (fn.ntmps-us.toArray.size) undef,defers:=[] }
 let frm:Dc:=λb=>if(∃id ob,lk o1 id=some ob/\c.blk id b)then none else w.heap[b]?
 let old:Wm:=(c.imm,frm,c.own,lk o1,c.rows)
 have hden:(Qb.den ⟨Jr 0 args,Mw o1⟩).o=lk o1:=SV o1
 have hrel:Sf w old nt (Qb.den ⟨Jr 0 args,Mw o1⟩) a0 w:=by
  refine⟨{ old:=old,imm:=c.imm,tab:=c.tab,own:=c.own,blk:=c.blk,rows:=c.rows },rfl,vg.nil _ _ _ _, ?_,Below.refl _ _,λd x hx=>?_,λid ob ho=>?_,λi i' ob ob' b ho ho'=>?_,hm.imm,λid ob b ho=>?_,λb _=>rfl,λb ob hbo=>?_,λid ob b ho hbb=>?_,λid _=>?_⟩
  .simp only[a0,Bv,Array.size_replicate,Pi,hn];omega
  .obtain ⟨y,_,hy,rfl⟩:=KV args 0 d x hx
   simp only[Ho]at hy;obtain⟨u,hu,hr⟩:=hargs.get d y hy;have hd:d<us.length:=(On.1 hu).1
   have:a0.tmps.getD d undef=u:=by
    have e1:a0.tmps[d]? = some u:=by
     simp only[a0];rw[Array.getElem?_append_left (by simpa using hd)];simpa using hu
    rw[Array.getD_eq_getD_getElem?,e1];rfl
   rw[this,hden];exact gp.evo (c:=c) (o:=lk o1) (Dc.le.refl c.imm) (λ_ _=>Vc.of_same rfl rfl) hr
  .rw [hden]at ho ⊢
   exact(hm.objs id ob ho).keep (Dc.le.refl c.imm) rfl rfl (λ_ _=>Vc.of_same rfl rfl) λ_ _=>rfl
  .rw [hden]at ho ho'
   exact hm.inj i i' ob ob' b ho ho'
  .rw [hden]at ho
   exact hm.sep id ob b ho
  .have hbo:frm b=some ob:=hbo
   simp only[frm]at hbo;split at hbo
   .cases hbo
   exact hbo
  .rw [hden]at ho
   show frm b=none;simp only[frm];rw[Ba ⟨id,ob,ho,hbb⟩]
  rw[hden];exact Vc.of_same rfl rfl
 refine wpIn_mono (h w old a0 w hrel) λe a' w1 ⟨st',⟨hex,hres⟩,hr1⟩=>?_
 suffices key:LeavesInM (rf none) 0 P fn a'.tmps _ a'.defers .returning w1 by
  rcases hex with rfl|rfl<;>exact key
 refine Sf.strike rfl hr1 λw' hr'=>?_;obtain⟨c',hold,hrc⟩:=hr';obtain⟨p,l,h1,h2,h3,h4⟩:=hres;have hsub:=yK h4;have hrc2:=hrc.relax ⟨λ_=>none,lk o2⟩ (λd x hx=>by cases hx) hsub
 have hnf:∀b,b<w.heap.size->(∀id ob,lk o1 id=some ob->¬c.blk id b)->c'.frm b=some w.heap[b]!/\w.heap[b]? = some w.heap[b]!:=λb hb hno=>by
  have e2:w.heap[b]? = some w.heap[b]!:=by simp[hb]
  refine⟨?_,e2⟩;show c'.old.2.1 b=_;rw[hold];show frm b=_;simp only[frm];rw[Ca (λ⟨id,ob,q1,q2⟩=>hno id ob q1 q2)];exact e2
 have hrv:∃v,(results fn a'.tmps).run P w'=.ok v w'/\ap c' (lk o2) res v:=by
  let F:ResultVar->Sem Value:=λ| .tmp t=>pure (a'.tmps.getD t undef) | .cell ad t=>do loadVar t (<- asAddr (a'.tmps.getD ad undef))
  obtain⟨uvs,hrun,hrep⟩:=z8 hE hrc F (λ_=>rfl) (λ_ _=>rfl) h1 h2;have hF:results fn a'.tmps=(do let vs <- fn.results.mapM F;pure (if h:vs.size=1 then vs[0]else .tuple vs)):=rfl;rw[hF,Array.mapM_eq_mapM_toList,Nf,Sem.run_map];have hview:cb c' (lk o2) l uvs:=cb.evo (Dc.le.refl c'.imm) (λk _=>fL hsub k) hrep;rw[hrun];simp only[Rf,Mh];refine⟨_,rfl,ap.co h3 ?_⟩
  match l,uvs,hview with
  | [x],[u],hv=>simp only[DC,ap];simpa using hv.1
  | [],[],hv=>exact⟨[],by simp,Aa⟩
  |x::y::r,u::v::t,hv=>exact⟨u::v::t,by simp,hv⟩
  | [],_::_,hv=>exact hv.elim
  | [_],[],hv=>exact hv.elim
  | [_],_::_::_,hv=>exact hv.2.elim
  |_::_::_,[],hv=>exact hv.elim
  |_::_::_,[_],hv=>exact hv.2.elim
 obtain⟨v,hv1,hv2⟩:=hrv
 have hfin:(∃v_1 c'_1,Ending.returned v=Ending.returned v_1/\ap c'_1 (lk o2) res v_1/\Ll c'_1 (lk o2) w'/\Below 0 w w' /\
  (∀b,b<w.heap.size->(∀id ob,lk o1 id=some ob->¬c.blk id b)->w'.heap[b]? = w.heap[b]?/\c'_1.imm b=c.imm b) /\
  (∀id ob b,lk o2 id=some ob->c'_1.blk id b->w.heap.size<=b\/∃id0 ob0,lk o1 id0=some ob0/\c.blk id0 b) /\
  (∀id∈fx,Vc c (lk o1) c'_1 (lk o2) id)):=by
  refine⟨v,c',rfl,hv2,⟨hrc2.objs,hrc2.inj,hrc2.imm,hrc2.sep⟩,hrc.below,λb hb hno=>?_,λid ob b ho hbb=>?_,λid hid=>?_⟩
  .obtain ⟨e1,e2⟩:=hnf b hb hno
   refine⟨by rw[hrc.frm b _ e1,e2], ?_⟩;rw[hrc.was b (by rw[e1];simp),hold]
  .have e:=hrc2.fsep id ob b ho hbb
   by_cases hfoot:∃id0 ob0,lk o1 id0=some ob0/\c.blk id0 b
   .exact .inr hfoot
   refine .inl ?_
   have e':frm b=none:=by
    have:c'.old.2.1 b=none:=e;rw[hold]at this;exact this
   simp only[frm]at e';rw[Ca hfoot]at e';exact Fz λhlt=>by simp[hlt]at e'
  have e:=hrc2.fixed id (Re (Ze.1 Eg id hid));unfold Vc Pc.start at e;unfold Vc;rw[hold]at e;exact e
 exact⟨v,hv1,hfin⟩
end
end
section
open Go.RowKit
section
variable {ro:Option Nat}{P:Program}{E:Xc}{nt:Nat}{st:Qb}{Q:Exit->Qb->Prop}{w0:World}{m0:Wm}{a:Act}{w:World}
def ip (st:Qb) (id:Nat) (ob:a8):(Qb.den ⟨st.t,(id,some ob)::st.o⟩)=st.den.setO id (some ob):=by
 unfold Qb.den S.setO;simp[b9]
def jG {ι:Type} (I:ι->Qb) (p:ι->Prop) (Q:Exit->Qb->Prop):Exit->Qb->Prop
 | .normal,st=>∃i,p i/\Ii (I i) st
 |e,st=>Q e st
def iB {ι:Type} {x y:Code} (I:ι->Qb) (p:ι->Prop) (h1:HW (ro:=ro) P nt x st (jG I p Q)) (h2:∀i,p i->HW (ro:=ro) P nt y (I i) Q):HW (ro:=ro) P nt (.seq x y) st Q:=by
 refine cw (CQ h1 λe st' h=>?_);cases e<;>try exact h
 obtain⟨i,hp,hs⟩:=h;exact TO (I i) hs (h2 i hp)
def Qf {c:Code}(d:Nat){s:Nat}{cl:Bool}{f:Nat->Nat->PV}(hd:bo st.t d=some (bu (.sl 0 s cl f)))(h:∀ad cap,cap<=maxLen->HW (ro:=ro) P nt c ⟨(d,some (bu (.raw (.slice ad 0 cap))))::st.t,st.o⟩ Q):HW (ro:=ro) P nt c st Q:=λw0 m0 a w hr=>by
 obtain⟨cc,hold,Db⟩:=hr;obtain⟨ad,cap,e1,_,hcap,_⟩:=Db.tmps d _ hd;refine h ad cap hcap w0 m0 a w ⟨cc,hold,Db.defers,Db.size,Db.below,λk x hx=>?_,Db.objs,Db.inj,Db.imm,Db.sep,Db.was,Db.frm,Db.fsep,Db.fixed⟩;simp only[Qb.den]at hx;rw[b9]at hx;dsimp only at hx;split at hx
 .rename_i hk
  subst hk;simp only[Bb]at hx;subst hx;exact⟨e1,rfl⟩
 exact Db.tmps k x hx
def d9 {c:Code} (d id:Nat) (wr:Bool) {n s':Nat} {f':Nat->Nat->PV} (s:Nat) (e:TypeId) (f:Nat->Nat->PV) (hs:0<s) (hd:bo st.t d=some (bu (.sl n s' true f'))) (hco:Fc (.sl n s' true f') (.sl n s true f)) (hwr:wr=false\/n=0) (hn:qb id st=true)
 (h:HW (ro:=ro) P nt c ⟨(d,some (.v (.one (.ref id n))))::st.t,(id,some (.arr wr s e n f))::st.o⟩ Q):HW (ro:=ro) P nt c st Q:=by
 obtain⟨hnm,hno⟩:=jd hn;refine Cu ⟨st.t,(id,some (.arr wr s e n f))::st.o⟩ d (.v (.one (.ref id n))) (λw0 m0 a w hr=>?_) h;obtain⟨cc,hold,Db⟩:=hr;have hx:aq cc.imm (.sl n s true f) (a.tmps.getD d undef):=hco _ _ (Db.tmps d _ hd);have hnm':n<=maxLen:=by obtain⟨ad,cap,_,q1,q2,_⟩:=hx;omega
 have hfresh:=Db.fresh id hnm hno (.arr wr s e n f) w (a.tmps.getD d undef) Cg (Wf.refl w none) (λb hb=>hb.elim)
  ⟨hs,hnm', .inr ⟨hwr,by simp,by simpa using hx⟩⟩
 refine⟨_, ?_,by rw[ip];exact hfresh, ?_⟩
 .exact hold
 rw[ip];refine⟨aq.oneCell hx,λl=>by simp[S.setO],λob1 s1 e1 n1 ho hd1=>?_⟩;simp only[S.setO,Ma,Bb]at ho;subst ho;simp only[a8.dim,Bb,Tc]at hd1;obtain⟨rfl,rfl,rfl⟩:=hd1;exact⟨Yb _,λ_=>by simp⟩
end
def Bn(x y k:Nat):Nat:=bif Nat.beq k x then y else bif Nat.beq k y then x else k
def P4 (x y k:Nat):Bn x y k=if k=x then y else if k=y then x else k:=by
 unfold Bn;by_cases h1:k=x
 .simp[h1]
 have e1:Nat.beq k x=false:=by rw[Ie];exactλhb=>h1 (Vi hb)
 by_cases h2:k=y
 .simp[h2]
 have e2:Nat.beq k y=false:=by rw[Ie];exactλhb=>h2 (Vi hb)
 simp[e1,e2,h1,h2]
def bd7(x y k:Nat):Bn x y (Bn x y k)=k:=by
 simp only[P4];by_cases h1:k=x
 .subst h1
  by_cases h2:y=k
  .simp[h2]
  simp[h2]
 by_cases h2:k=y
 .subst h2;simp[h1]
 simp[h1,h2]
def HV.ren (r:Nat->Nat):HV->HV
 | .p x=>.p x
 | .ref id n=>.ref (r id) n
 | .ptr id off=>.ptr (r id) off
 | .eptr id n i j=>.eptr (r id) n i j
 | .win id n i m=>.win (r id) n i m
 | .clo g k caps=>.clo g k λi=>(caps i).ren r
 | .row id i k=>.row (r id) i k
 | .rptr id i k a j=>.rptr (r id) i k a j
 | .pin id n ad cap=>.pin (r id) n ad cap
def CC (r:Nat->Nat):List HV->List HV
 | []=>[]
 |x::l=>x.ren r::CC r l
def HC.ren (r:Nat->Nat):HC->HC
 | .one h=>.one (h.ren r)
 | .agg l=>.agg (CC r l)
def EA (r:Nat->Nat):List HC->List HC
 | []=>[]
 |x::l=>x.ren r::EA r l
def HR.ren (r:Nat->Nat):HR->HR
 | .v x=>.v (x.ren r)
 | .tup l=>.tup (EA r l)
def renN (r:Nat->Nat):List Nat->List Nat
 | []=>[]
 |x::l=>r x::renN r l
def a8.ren (r:Nat->Nat):a8->a8
 | .mp kk n f=>.mp kk n f
 | .bld fr T e l=>.bld fr T e l
 | .ex d v b x=>.ex d v b x
 | .bun B=>.bun B
 | .opq s e n R=>.opq s e n R
 | .box l=>.box (CC r l)
 | .arr wr s e n f=>.arr wr s e n f
 | .arrh s e n ms f=>.arrh s e n (renN r ms) λi j=>(f i j).ren r
 | .nest e et es n m g none=>.nest e et es n m g none
 | .nest e et es n m g (some p)=>.nest e et es n m g (some (r p.1,p.2))
def a8.ren_dim (r:Nat->Nat) (x:a8):(x.ren r).dim=x.dim:=by
 cases x with
 |nest e et es n m g pd=>cases pd<;>rfl
 |_=>rfl
def Jp (r:Nat->Nat):List (Nat×a8)->List (Nat×a8)
 | []=>[]
 |(id,ob)::l=>(r id,ob.ren r)::Jp r l
def Pc.ren(c:Pc)(r:Nat->Nat):Pc:={ old:=c.old,imm:=c.imm,tab:=c.tab,own:=λk=>c.own (r k),blk:=λk=>c.blk (r k),rows:=λk=>c.rows (r k) }
section
variable {r:Nat->Nat}{c:Pc}{o o':av}
def GA(hr:∀k,r (r k)=k):∀(l:List (Nat×a8)) (k:Nat),lk (Jp r l) (r k)=(lk l k).map (a8.ren r)
 | [],k=>rfl
 | (e,x)::l,k=>by
  simp only[Jp,lk];by_cases h:e=k
  .subst h;simp
  have e1:Nat.beq e k=false:=by rw[Ie];exactλhb=>h (Vi hb)
  have e2:Nat.beq (r e) (r k)=false:=by
   rw[Ie];intro hb;have:=Da r (Vi hb);rw[hr,hr]at this;exact h this
  rw[e1,e2];simpa using GA hr l k
theorem HV.ren_men {r:Nat->Nat} (hr:∀k,r (r k)=k) {h:HV} {k:Nat}:(h.ren r).men k<->h.men (r k):=by
 have key:∀id,k=r id<->r k=id:=λid=>⟨λe=>by rw[e,hr],λe=>by rw[<- e,hr]⟩
 induction h with
 |clo g n caps ih=>exact exists_congr λi=>and_congr Oa (ih i)
 |_=>simp only[HV.ren,HV.men]<;>exact key _
def aK {r:Nat->Nat} (hr:∀k,r (r k)=k):∀{l:List Nat} {k:Nat},k∈renN r l<->r k∈l
 | [],k=>by simp[renN]
 | x::l,k=>by
  simp only[renN,Jd,aK hr (l:=l)];exact or_congr ⟨λe=>by rw[e,hr],λe=>by rw[<- e,hr]⟩ Oa
def bc.ren(ho:∀k,o' (r k)=(o k).map (a8.ren r)){h:HV}{u:Value}:bc c o' (h.ren r) u<->bc (c.ren r) o h u:=by
 have hbox:∀id,(∀l,o' (r id)≠some (.box l))<->∀l,o id≠some (.box l):=λid=>by
  rw[ho]
  cases hid:o id with
  |none=>simp
  | some ob =>
   cases ob with
   |nest e et es n m g pd=>cases pd<;>simp[a8.ren]
   |_=>simp[a8.ren]
 have hnest:∀id (Q:TypeId->TypeId->Nat->Nat->(Nat->Nat)->(Nat->Nat->Nat->PV)->Prop),(∀e et es n m g pd,o' (r id)=some (.nest e et es n m g pd)->Q e et es n m g)<->∀e et es n m g pd,o id=some (.nest e et es n m g pd)->Q e et es n m g:=λid Q=>by
  rw[ho];constructor
  .intro h e et es n m g pd hid
   rw[hid]at h
   cases pd with
   |none=>exact h _ _ _ _ _ _ none rfl
   |some p=>exact h _ _ _ _ _ _ (some (r p.1,p.2)) rfl
  intro h e et es n m g pd hid
  cases ho1:o id with
  |none=>rw[ho1]at hid;cases hid
  | some ob =>
   rw[ho1]at hid h
   cases ob with
   | nest e0 et0 es0 n0 m0 g0 pd0 =>
    cases pd0 with
    |none=>simp only[Vf,a8.ren,Bb,a8.nest.injEq]at hid;obtain⟨rfl,rfl,rfl,rfl,rfl,rfl,_⟩:=hid;exact h _ _ _ _ _ _ _ rfl
    |some p=>simp only[Vf,a8.ren,Bb,a8.nest.injEq]at hid;obtain⟨rfl,rfl,rfl,rfl,rfl,rfl,_⟩:=hid;exact h _ _ _ _ _ _ _ rfl
   |_=>simp[a8.ren]at hid
 have hdim:∀id (Q:Nat->TypeId->Nat->Prop),(∀ob s e n,o' (r id)=some ob->ob.dim=some (s,e,n)->Q s e n)<->∀ob s e n,o id=some ob->ob.dim=some (s,e,n)->Q s e n:=λid Q=>by
  rw[ho]
  cases hid:o id with
  |none=>simp
  | some ob =>
   constructor
   .rintro g ob1 s e n h1 h2
    simp only[Bb]at h1;subst h1;exact g _ s e n rfl (by rw[a8.ren_dim];exact h2)
   rintro g ob1 s e n h1 h2;simp only[Vf,Bb]at h1;subst h1;exact g _ s e n rfl (by rw[a8.ren_dim]at h2;exact h2)
 induction h generalizing u with
 |p x=>exact Oa
 | clo g k caps ih =>
  simp only[HV.ren,bc];exact exists_congr λcs=>and_congr Oa (and_congr Oa (forall_congr' λi=>forall_congr' λhi=>exists_congr λx=>and_congr Oa (ih i)))
 | ref id k =>
  simp only[HV.ren,bc];exact and_congr Oa (and_congr (hbox id) (hdim id _))
 | ptr id off =>
  simp only[HV.ren,bc];refine and_congr Oa (and_congr ?_ ?_)
  .rw [ho]
   cases hid:o id with
   |none=>simp
   | some ob =>
    constructor
    .rintro g ob1 d h1 h2
     simp only[Bb]at h1;subst h1;exact g _ d rfl (by rw[a8.ren_dim];exact h2)
    rintro g ob1 d h1 h2;simp only[Vf,Bb]at h1;subst h1;exact g _ d rfl (by rw[a8.ren_dim]at h2;exact h2)
  rw[ho]
  cases hid:o id with
  |none=>simp
  | some ob =>
   cases ob with
   |nest e et es n m g pd=>cases pd<;>simp[a8.ren]
   |_=>simp[a8.ren,Pc.ren]
 | eptr id k i j =>
  simp only[HV.ren,bc];exact and_congr Oa (and_congr (hbox id) (hdim id _))
 | win id k i m =>
  simp only[HV.ren,bc];exact and_congr Oa (and_congr (hbox id) (hdim id _))
 | row id i k =>
  simp only[HV.ren,bc];exact and_congr Oa (hnest id λe et es n m g=>i<n/\k<=m i/\(k=m i->u=c.rows (r id) i))
 | pin id k ad cap =>
  simp only[HV.ren,bc];exact and_congr Oa (and_congr (hbox id) (hdim id _))
 | rptr id i k a j =>
  simp only[HV.ren,bc];exact and_congr Oa (hnest id λe et es n m g=>i<n/\k<=m i/\(k=m i->a<k->∃b off cap,c.rows (r id) i=.slice (some ⟨b,off,none⟩) k cap/\u=.pointer (some ⟨b,off+(a*es+j),none⟩)))
def b7.ren (ho:∀k,o' (r k)=(o k).map (a8.ren r)):∀{xs:List HV} {us:List Value},b7 c o' (CC r xs) us<->b7 (c.ren r) o xs us
 | [],[]=>Oa
 |_::_,_::_=>and_congr (bc.ren ho) (b7.ren ho)
 | [],_::_=>Oa
 |_::_,[]=>Oa
def gp.ren (ho:∀k,o' (r k)=(o k).map (a8.ren r)) {x:HC} {u:Value}:gp c o' (x.ren r) u<->gp (c.ren r) o x u:=by
 cases x with
 |one h=>exact bc.ren ho
 |agg l=>exact exists_congr λus=>and_congr Oa (b7.ren ho)
def cb.ren (ho:∀k,o' (r k)=(o k).map (a8.ren r)):∀{xs:List HC} {us:List Value},cb c o' (EA r xs) us<->cb (c.ren r) o xs us
 | [],[]=>Oa
 |_::_,_::_=>and_congr (gp.ren ho) (cb.ren ho)
 | [],_::_=>Oa
 |_::_,[]=>Oa
def ap.ren (ho:∀k,o' (r k)=(o k).map (a8.ren r)) {x:HR} {u:Value}:ap c o' (x.ren r) u<->ap (c.ren r) o x u:=by
 cases x with
 |v x=>exact gp.ren ho
 |tup l=>exact exists_congr λus=>and_congr Oa (cb.ren ho)
def eq.ren(hr:∀k,r (r k)=k)(ho:∀k,o' (r k)=(o k).map (a8.ren r)){base:Nat}{w:World}{id:Nat}{ob:a8}:eq base c o' w (r id) (ob.ren r)<->eq base (c.ren r) o w id ob:=by
 cases ob with
 |mp kk n f=>exact Oa
 |bld fr T e l=>exact Oa
 |ex d v b x=>exact Oa
 |bun B=>exact Oa
 |opq s e n R=>exact Oa
 | nest e et es n m g pd =>
  cases pd with
  |none=>exact⟨λ⟨q1,q2,q3,q4,q5,q6,q7⟩=>⟨q1,q2,q3,q4,q5,q6,q7.imp (λz=>z) λ⟨xs,q7,q8,_⟩=>⟨xs,q7,q8,λp hp=>by cases hp⟩⟩,λ⟨q1,q2,q3,q4,q5,q6,q7⟩=>⟨q1,q2,q3,q4,q5,q6,q7.imp (λz=>z) λ⟨xs,q7,q8,_⟩=>⟨xs,q7,q8,λp hp=>by cases hp⟩⟩⟩
  | some p =>
   refine⟨λ⟨q1,q2,q3,q4,q5,q6,q7⟩=>⟨q1,q2,q3,q4,q5,q6,q7.imp (λz=>z) λ⟨xs,q7,q8,q9⟩=>⟨xs,q7,q8,λp' hp=>?_⟩⟩,λ⟨q1,q2,q3,q4,q5,q6,q7⟩=>⟨q1,q2,q3,q4,q5,q6,q7.imp (λz=>z) λ⟨xs,q7,q8,q9⟩=>⟨xs,q7,q8,λp' hp=>?_⟩⟩⟩
   .cases hp
    obtain⟨x,hx,hr⟩:=q9 _ rfl;exact⟨x,hx,(bc.ren ho (h:=.ref p.1 p.2)).1 hr⟩
   cases hp;obtain⟨x,hx,hr⟩:=q9 _ rfl;exact⟨x,hx,(bc.ren ho (h:=.ref p.1 p.2)).2 hr⟩
 | box l =>
  simp only[a8.ren,eq,b7.ren ho];exact Oa
 |arr wr s e n f=>exact Oa
 | arrh s e n ms f =>
  simp only[a8.ren,eq,bc.ren ho];refine and_congr Oa (and_congr Oa (and_congr ?_ Oa));constructor
  .intro g i j k hi hj hk
   have:=g i j (r k) hi hj ((HV.ren_men hr).2 (by rw[hr];exact hk));rw[aK hr,hr]at this;exact this
  intro g i j k hi hj hk;exact(aK hr).2 (g i j (r k) hi hj ((HV.ren_men hr).1 hk))
theorem Ll.ren (hr:∀k,r (r k)=k) (ho:∀k,o' (r k)=(o k).map (a8.ren r)) {w:World}:Ll c o' w<->Ll (c.ren r) o w:=by
 have back:∀id ob,o id=some ob->o' (r id)=some (ob.ren r):=λid ob h=>by rw[ho,h];rfl
 have forth:∀id ob,o' id=some ob->∃ob',o (r id)=some ob'/\ob=ob'.ren r:=λid ob h=>by
  have:=ho (r id);rw[hr,h]at this
  cases hid:o (r id) with
  |none=>rw[hid]at this;cases this
  |some ob'=>rw[hid]at this;exact⟨ob',rfl,by simpa using this⟩
 constructor
 .intro h
  refine⟨λid ob hob=>(eq.ren hr ho).1 (h.objs _ _ (back id ob hob)),λi i' ob ob' b h1 h2 h3 h4=>?_,h.imm,λid ob b h1 h2=>h.sep _ _ b (back id ob h1) h2⟩;have:=h.inj _ _ _ _ b (back i ob h1) (back i' ob' h2) h3 h4;have:=Da r this;rwa [hr,hr]at this
 intro h;refine⟨λid ob hob=>?_,λi i' ob ob' b h1 h2 h3 h4=>?_,h.imm,λid ob b h1 h2=>?_⟩
 .obtain ⟨ob',q1,rfl⟩:=forth id ob hob
  have:=(eq.ren hr ho).2 (h.objs _ _ q1);rwa [hr]at this
 .obtain ⟨x,q1,_⟩:=forth i ob h1
  obtain⟨x',q1',_⟩:=forth i' ob' h2;have:=h.inj _ _ _ _ b q1 q1' (by show c.blk (r (r i)) b;rw[hr];exact h3) (by show c.blk (r (r i')) b;rw[hr];exact h4);have:=Da r this;rwa [hr,hr]at this
 obtain⟨x,q1,_⟩:=forth id ob h1;exact h.sep _ _ b q1 (by show c.blk (r (r id)) b;rw[hr];exact h2)
end
section
variable {r:Nat->Nat}
def ET:∀{l:List Nat} {k:Nat},k∈renN r l->∃j∈l,k=r j
 | x::l,k,h=>by
  rcases Jd.1 h with h|h
  .exact⟨x,by simp,h⟩
  obtain⟨j,hj,e⟩:=ET h;exact⟨j,by simp[hj],e⟩
theorem Pc.ren_ren (hr:∀k,r (r k)=k) (c:Pc):(c.ren r).ren r=c:=by
 unfold Pc.ren;simp[hr]
def dn.ren{P:Program}(hr:∀k,r (r k)=k){f:FuncId}{args:List HC}{o1 o2:List (Nat×a8)}{res:HR}{fx:List Nat}(h:dn P f args o1 res o2 fx):dn P f (EA r args) (Jp r o1) (res.ren r) (Jp r o2) (renN r fx):=by
 intro w c us hm hargs;have ho1:=GA hr o1;have ho2:=GA hr o2;refine(h w (c.ren r) us ((Ll.ren hr ho1).1 hm) ((cb.ren ho1).1 hargs)).mono ?_;rintro e w' ⟨v,c',rfl,h1,h2,h3,h4,h5,h6⟩
 have forth:∀(l:List (Nat×a8)) id ob,lk (Jp r l) id=some ob->∃ob',lk l (r id)=some ob'/\ob=ob'.ren r:=λl id ob h=>by
  have:=GA hr l (r id);rw[hr,h]at this
  cases hid:lk l (r id) with
  |none=>rw[hid]at this;cases this
  |some ob'=>rw[hid]at this;exact⟨ob',rfl,by simpa using this⟩
 have back:∀(l:List (Nat×a8)) id ob,lk l id=some ob->lk (Jp r l) (r id)=some (ob.ren r):=λl id ob h=>by rw[GA hr,h];rfl
 have hcc:=Pc.ren_ren hr c';refine⟨v,c'.ren r,rfl,(ap.ren ho2).2 (by rw[hcc];exact h1),(Ll.ren hr ho2).2 (by rw[hcc];exact h2),h3,λb hb hno=>h4 b hb λid ob hid hbk=>hno (r id) _ (back o1 id ob hid) hbk,λid ob b hid hbk=>?_,λid hid=>?_⟩
 .obtain ⟨x,q1,_⟩:=forth o2 id ob hid
  rcases h5 (r id) x b q1 hbk with e|⟨i0,ob0,e1,e2⟩
  .exact .inl e
  exact .inr ⟨r i0,_,back o1 i0 ob0 e1,e2⟩
 obtain⟨j,hj,rfl⟩:=ET hid
 rcases h6 j hj with e|⟨l,l',e1,e2,e3⟩|⟨oa,ob',s,e,n,n',e1,e1',e2,e2',e3,e4,e5⟩
 .exact .inl (by rw[ho2,e];rfl)
 .exact .inr (.inl ⟨_,_,back o1 j _ e1,back o2 j _ e2,by show c'.own (r (r j))=_;rw[hr];exact e3⟩)
 exact .inr (.inr ⟨_,_,s,e,n,n',back o1 j _ e1,by rw[a8.ren_dim];exact e1',back o2 j _ e2,by rw[a8.ren_dim];exact e2',e3,λhn=>by show c'.own (r (r j))=_;rw[hr];exact e4 hn,λea et es na ma ga pd hb=>by
  obtain ⟨pd',hb'⟩:∃pd',ob'=.nest ea et es na ma ga pd':=by
   cases ob' with
   | nest e0 et0 es0 n0 m0 g0 pd0 =>
    cases pd0 with
    |none=>simp only[a8.ren,a8.nest.injEq]at hb;obtain⟨rfl,rfl,rfl,rfl,rfl,rfl,_⟩:=hb;exact⟨_,rfl⟩
    |some p=>simp only[a8.ren,a8.nest.injEq]at hb;obtain⟨rfl,rfl,rfl,rfl,rfl,rfl,_⟩:=hb;exact⟨_,rfl⟩
   |_=>simp[a8.ren]at hb
  obtain⟨e0,et0,n0,m0,g0,pd0,r1,r2,r3⟩:=e5 _ _ _ _ _ _ _ hb';subst r1;refine⟨e0,et0,n0,m0,g0,pd0.map λp=>(r p.1,p.2),by cases pd0<;>rfl,r2,λi hi=>⟨(r3 i hi).1,λhm=>?_⟩⟩;show c'.rows (r (r j)) i=_;rw[hr]
  exact(r3 i hi).2 hm⟩)
def dn.swap{P:Program}(x y:Nat){f:FuncId}{args:List HC}{o1 o2:List (Nat×a8)}{res:HR}{fx:List Nat}(h:dn P f args o1 res o2 fx):dn P f (EA (Bn x y) args) (Jp (Bn x y) o1) (res.ren (Bn x y)) (Jp (Bn x y) o2) (renN (Bn x y) fx):=h.ren (bd7 x y)
end
end
section
open Go.RowKit
def dn.pure{P:Program}{f:FuncId}{args:List PC}{l:List HC}{o2:List (Nat×a8)}{q:Prop}{vs:List PC}(h:dn P f (args.map PC.toH) [] (DC l) o2 [])(hv:qt (lk o2) l=some (q,vs))(hq:q):a6 P f args (a7 vs):=by
 intro w imm us htab himm hargs
 let c:Pc:={ old:=(imm,fg w,(λ_=>undef),(λ_=>none),λ_ _=>undef),imm:=imm,tab:=htab,own:=λ_=>undef,blk:=λ_=>Cg,rows:=λ_ _=>undef }
 have hmem:Ll c (lk []) w:=⟨(λid ob ho=>by cases ho),(λi i' ob ob' b ho=>by cases ho),himm,(λid ob b ho=>by cases ho)⟩;refine(h w c us hmem (cb.of_P hargs)).mono ?_;rintro e w' ⟨v,c',rfl,hr,hm,hb,hfr,hbk,_⟩;have hfr':∀b,b<w.heap.size->w'.heap[b]? = w.heap[b]?/\c'.imm b=imm b:=λb hlt=>hfr b hlt λid ob ho=>by cases ho
 let c2:Pc:={ old:=(imm,fg w,c'.own,lk o2,c'.rows),imm:=c'.imm,tab:=c'.tab,own:=c'.own,blk:=c'.blk,rows:=c'.rows }
 have hfn:∀b,c2.frm b≠none->b<w.heap.size:=λb hne=>by
  have hne:w.heap[b]?≠none:=hne;exact Nat.lt_of_not_le λhle=>hne (Rs hle)
 have hrel:ah w 0 c2 ⟨λ_=>none,lk o2⟩ { tmps:=#[],defers:=[] } w':=by
  refine⟨vg.nil _ _ _ _,rfl,hb,(λd x hx=>by cases hx),λid ob ho=>?_,hm.inj,hm.imm,hm.sep,λb hne=>(hfr' b (hfn b hne)).2,λb ob hbo=>?_,λid ob b ho hbb=>?_,λid _=>Vc.of_same rfl rfl⟩
  .exact(hm.objs id ob ho).keep (Dc.le.refl c'.imm) rfl rfl (λ_ _=>Vc.of_same rfl rfl) λ_ _=>rfl
  .have hbo:w.heap[b]? = some ob:=hbo
   rw[(hfr' b (Le.1 hbo).1).1];exact hbo
  show w.heap[b]? = none
  rcases hbk id ob b ho hbb with e|⟨_,_,e,_⟩
  .exact Rs e
  cases e
 let m:Dc:=λb=>if b<w.heap.size then imm b else w'.heap[b]?
 have hseen:Mm w c2 w' m:=by
  refine⟨λb ob hbo=>?_,λb hb' _=>?_⟩
  .have hbo:c'.imm b=some ob:=hbo
   by_cases hlt:b<w.heap.size
   .simp only [m,hlt,Ma]
    rw[<- (hfr' b hlt).2];exact hbo
   simp only[m,hlt,Na];exact hm.imm b ob hbo
  have hb':w.heap[b]? = none:=hb';have:¬b<w.heap.size:=λhlt=>by simp[hlt]at hb'
  simp[m,this]
 have hrep:ap c2 (lk o2) (DC l) v:=ap.evo (c:=c') (o:=lk o2) (Dc.le.refl c'.imm) (λ_ _=>Vc.of_same rfl rfl) hr;refine⟨v,m,rfl, ?_,λb hlt=>by simp[m,hlt],λb ob hbo=>?_,⟨hb.os,hb.tape,hb.output,hb.size,λk hk=>(hfr' k hk).1,hb.drawn⟩⟩
 .match l,hv,hrep with
  | [],hv,hrep =>
   obtain⟨us',rfl,hl⟩:=hrep;simp only[qt,Bb,Tc]at hv;obtain⟨_,rfl⟩:=hv;exact⟨us',rfl,by cases us' with|nil=>trivial|cons=>exact hl.elim⟩
  | [x],hv,hrep =>
   have hl:cb c2 (lk o2) [x] [v]:=⟨hrep,Aa⟩;have:=rg hrel hseen hl hv hq
   match vs,this with
   | [y],this=>exact this.1
   | [],this=>exact this.elim
   |_::_::_,this=>exact this.2.elim
  | x :: y::r,hv,hrep =>
   obtain⟨us',rfl,hl⟩:=hrep;have:=rg hrel hseen hl hv hq
   match vs,us',this with
   |a::b::t,us',this=>exact⟨us',rfl,this⟩
   | [],us',this=>cases us' with|nil=>exact hl.elim|cons=>exact this.elim
   | [a],us',this =>
    match us',hl,this with
    | [],hl,_=>exact hl.elim
    | [_],hl,_=>exact hl.2.elim
    |_::_::_,_,this=>exact this.2.elim
 by_cases hlt:b<w.heap.size
 .simp only [m,hlt,Ma]at hbo
  rw[(hfr' b hlt).1];exact himm b ob hbo
 simpa [m,hlt]using hbo
end
section
open Go.RowKit
section
variable {ro:Option Nat}{P:Program}{E:Xc}{nt:Nat}{ops:Array Oper}{i:Nat}{o:Oper}{st:Qb}{T:List Tr}{sf:S}{L:List Nat}{K:List Tr->Qb->Prop}
def b0u (b:ByteArray) (i:Nat):0<=c5 b i/\c5 b i<=255:=by
 unfold c5;have:=(b.data.toList.getD i 0).toNat_lt;omega
def uH (b:ByteArray) (i:Nat):(l3 true .i64 (c5 b i)).1:=by
 have:=b0u b i;simp only[l3,Nl,yw,Un];omega
section
variable {gb:Bool}
def rq {out:Ge} (hi:ops[i]? = some o) (hw:b6 ops st.den o=some gb) (hd:dc nt o.dst=true) (hq':hq E true st.den.o (ev st.den) o.op=some out) (hg:gb=true) (hT:Td P E nt ops L (st.after o.dst (some out.val) []) λT sf=>K (⟨i,Us true out.val.ids,looks st.den o,d8 st.den o.dst [],gf E st.den o⟩::T) sf) (hp:out.pre:=by first|exact trivial|(simp only[l3,Nl,yw,Un];omega)|exact uH _ _|exact⟨Aa,Aa⟩|exact⟨Aa,Re rfl⟩|(try dsimp only)<;>((repeat' apply And.intro)<;>first|trivial|rfl|omega|(simp only[ep,bh];omega)|assumption|exact Re rfl)):
 Td P E nt ops (i::L) st K:=db true hi hw hd hq' hg hp hT
def Vr {out:Ge} (hi:ops[i]? = some o) (hw:b6 ops st.den o=some gb) (hd:dc nt o.dst=true) (hq':hq E false st.den.o (ev st.den) o.op=some out) (hg:gb=true) (hT:Td P E nt ops L (st.after o.dst (some out.val) []) λT sf=>K (⟨i,Us false out.val.ids,looks st.den o,d8 st.den o.dst [],gf E st.den o⟩::T) sf) (hp:out.pre:=by first|exact trivial|(simp only[l3,Nl,yw,Un];omega)|exact uH _ _|exact⟨Aa,Aa⟩|exact⟨Aa,Re rfl⟩|(try dsimp only)<;>((repeat' apply And.intro)<;>first|trivial|rfl|omega|(simp only[ep,bh];omega)|assumption|exact Re rfl)):
 Td P E nt ops (i::L) st K:=db false hi hw hd hq' hg hp hT
def rm(id:Nat){nw:Uy}(hi:ops[i]? = some o)(hw:b6 ops st.den o=some gb)(hd:dc nt o.dst=true)(hq':ha E (ev st.den) id o.op=some nw)(hn:qb id st=true)(hg:gb=true)(hT:Td P E nt ops L (st.after o.dst (some nw.val) [(id,some nw.ob)]) λT sf=>K (⟨i,⟨id,false,true, .tup [],[id],[id],nw.val.ids++nw.ob.ids⟩,looks st.den o,d8 st.den o.dst [(id,some nw.ob)],none⟩::T) sf)(hp:nw.pre:=by first|exact trivial|(try dsimp only)<;>((repeat' apply And.intro)<;>first|trivial|rfl|omega|assumption)):Td P E nt ops (i::L) st K:=zw id hi hw hd hq' hn hg hp hT
def rs{u:Bj}(hi:ops[i]? = some o)(hw:b6 ops st.den o=some gb)(hd:dc nt o.dst=true)(hq':hs E st.den.o (ev st.den) o.op=some u)(hg:gb=true)(hT:Td P E nt ops L (st.after o.dst none [(u.id,some u.ob)]) λT sf=>K (⟨i,⟨0,false,true, .tup [],[u.id],[],u.ob.ids⟩,looks st.den o,d8 st.den o.dst [(u.id,some u.ob)],gf E st.den o⟩::T) sf)(hp:u.pre:=by first|exact Re rfl|(try dsimp only)<;>((repeat' apply And.intro)<;>first|trivial|rfl|omega|(simp only[ep,bh];omega)|assumption|exact Re rfl)):Td P E nt ops (i::L) st K:=XS hi hw hd hq' hg hp hT
def ra(id:Nat)(wb:Bool){u:Bl}(hi:ops[i]? = some o)(hw:b6 ops st.den o=some gb)(hd:dc nt o.dst=true)(hq':Ei E st.den.o (ev st.den) id wb o.op=some u)(hn:(!u.new||qb id st)=true)(hg:gb=true)(hT:Td P E nt ops L (st.after o.dst (some u.val) [(u.id,some u.ob)]) λT sf=>K (⟨i,⟨id,wb,true, .tup [],[u.id],if u.new then[id] else[],u.val.ids++u.ob.ids⟩,looks st.den o,d8 st.den o.dst [(u.id,some u.ob)],none⟩::T) sf)(hp:u.pre:=by(try dsimp only)<;>((repeat' apply And.intro)<;>first|trivial|rfl|assumption|omega|(simp only[Qe];omega)|(simp only[ep,bh];omega)|exact Or.inl rfl|exact Or.inr rfl|exact(λ_=>Or.inl rfl)|exact(λ_=>Or.inr (Re rfl))|exact Re rfl|(intro h;cases h;done))):Td P E nt ops (i::L) st K:=Yx id wb hi hw hd hq' hn hg hp hT
variable {b:Bool}
def rc{cl:Call}{f:FuncId}{fst caps args vs:List PC}{p:Prop}{res:PR}(hi:ops[i]? = some o)(hw:b6 ops st.den o=some gb)(hd:dc nt o.dst=true)(ho:o.op=.call cl)(hc:callee (ev st.den) cl=some (f,fst,caps))(hv:lq st.den.o (ev st.den) cl.args.toList=some (p,vs,b))(hf:goodFn P f)(hpure:a6 P f args res)(hco:Sg (fst++(vs++caps)) args)(hb:(!b||res.flat)=true)(hg:gb=true)(hT:Td P E nt ops L (st.after o.dst (some res.toH) []) λT sf=>K (⟨i,⟨0,false,true,res,[],[],[]⟩,looks st.den o,d8 st.den o.dst [],none⟩::T) sf)(hp:p:=by(try dsimp only)<;>((repeat' apply And.intro)<;>first|trivial|rfl|omega|assumption)):Td P E nt ops (i::L) st K:=tR hi hw hd ho hc hv hf hpure hco hg hp hb hT
def rv{sr ds:TypeId}{x:Operand}{b:ByteArray}(hi:ops[i]? = some o)(hw:b6 ops st.den o=some gb)(hd:dc nt o.dst=true)(ho:o.op=.convert sr ds x)(Xd:DA E (ev st.den) sr ds x=some b)(hg:gb=true)(hT:Td P E nt ops L (st.after o.dst (some (.v (.one (.p (.sl b.size 1 false (xC b)))))) []) λT sf=>K (⟨i,⟨0,false,true, .tup [],[],[],[]⟩,looks st.den o,d8 st.den o.dst [],none⟩::T) sf)(hp:b.size<=maxLen:=by first|assumption|(unfold maxLen;omega)):Td P E nt ops (i::L) st K:=R9 hi hw hd ho Xd hg hp hT
def rk(hi:ops[i]? = some o)(hw:b6 ops st.den o=some gb)(hd:dc nt o.dst=true)(hg:gb=false)(hT:Td P E nt ops L (st.after o.dst (some (.tup [])) []) λT sf=>K (⟨i,Us true [],looks st.den o,d8 st.den o.dst [],none⟩::T) sf):Td P E nt ops (i::L) st K:=DR hi hw hd hg hT
def JC{out:Ge}{id:Nat}(hi:ops[i]? = some o)(hw:b6 ops st.den o=some gb)(hd:dc nt o.dst=true)(hq':zi E st.den.o (ev st.den) o.op=some (out,id))(hg:gb=true)(hT:Td P E nt ops L (st.after o.dst (some out.val) [(id,none)]) λT sf=>K (⟨i,⟨0,false,true, .tup [],[id],[],[]⟩,looks st.den o,d8 st.den o.dst [(id,none)],none⟩::T) sf)(hp:out.pre:=by(try dsimp only)<;>((repeat' apply And.intro)<;>first|trivial|rfl|omega|(simp only[ep,bh];omega)|assumption|exact Re rfl)):Td P E nt ops (i::L) st K:=B6 hi hw hd hq' hg hp hT
def af {w:Bool} (hi:ops[i]? = some o) (hw:b6 ops st.den o=some (b==w)) (ht:b=true->Td P E nt ops (i::L) st K) (hf:b=false->Td P E nt ops (i::L) st K):Td P E nt ops (i::L) st K:=by
 cases hb:b with
 |true=>exact ht hb
 |false=>exact hf hb
def Lc(h:b=true):(b==true)=true:=by subst h;rfl
def Jc(h:b=false):(b==false)=true:=by subst h;rfl
def Yc(h:b=true):(b==false)=false:=by subst h;rfl
def Vd(h:b=false):(b==true)=false:=by subst h;rfl
end
end
def a6.eat{P:Program}{f:FuncId}{args:List PC}{res:PR}{hcs:List HC}{o1:List (Nat×a8)}{q:Prop}{vs:List PC}(h:a6 P f args res)(hv:qt (lk o1) hcs=some (q,vs))(hq:q)(hco:Sg vs args):dn P f hcs o1 res.toH [] []:=by
 classical
 intro w c us hm hargs
 let own:Nat->Prop:=λb=>∃id ob,lk o1 id=some ob/\c.blk id b
 let frm:Dc:=λb=>if own b then none else w.heap[b]?
 let c2:Pc:={ old:=(c.imm,frm,c.own,lk o1,c.rows),imm:=c.imm,tab:=c.tab,own:=c.own,blk:=c.blk,rows:=c.rows }
 have hrel:ah w 0 c2 ⟨λ_=>none,lk o1⟩ { tmps:=#[],defers:=[] } w:=by
  refine⟨vg.nil _ _ _ _,rfl,Below.refl _ _,(λd x hx=>by cases hx),λid ob ho=>?_,hm.inj,hm.imm,hm.sep,λb _=>rfl,λb ob hbo=>?_,λid ob b ho hbb=>?_,λid _=>Vc.of_same rfl rfl⟩
  .exact(hm.objs id ob ho).keep (Dc.le.refl c.imm) rfl rfl (λ_ _=>Vc.of_same rfl rfl) λ_ _=>rfl
  .have hbo:frm b=some ob:=hbo
   simp only[frm]at hbo;split at hbo
   .cases hbo
   exact hbo
  show frm b=none;simp only[frm];rw[Ba ⟨id,ob,ho,hbb⟩]
 let m:Dc:=λb=>if own b then w.heap[b]? else c.imm b
 have hseen:Mm w c2 w m:=by
  refine⟨λb ob hbo=>?_,λb hb' hlt=>?_⟩
  .have hbo:c.imm b=some ob:=hbo
   have:¬own b:=λ⟨id,ob2,h1,h2⟩=>by rw[hm.sep id ob2 b h1 h2]at hbo;cases hbo
   simp only[m,this,Na];exact hbo
  have hb':frm b=none:=hb';by_cases ho:own b
  .simp[m,ho]
  simp only[frm,ho,Na]at hb';have:¬b<w.heap.size:=λhlt=>by simp[hlt]at hb'
  exact Ea hlt this
 have hrep:cb c2 (lk o1) hcs us:=cb.evo (c:=c) (c':=c2) (o:=lk o1) (o':=lk o1) (Dc.le.refl c.imm) (λ_ _=>Vc.of_same rfl rfl) hargs;have hview:=Sg.sound hco (rg hrel hseen hrep hv hq)
 have hmm:∀b ob,m b=some ob->w.heap[b]? = some ob:=λb ob hbo=>by
  simp only[m]at hbo;split at hbo
  .exact hbo
  exact hm.imm b ob hbo
 have hlem:Dc.le c.imm m:=λb ob hb=>by
  by_cases hb':own b
  .obtain ⟨id,ob2,h1,h2⟩:=hb'
   rw[hm.sep id ob2 b h1 h2]at hb;cases hb
  simp only[m,hb',Na];exact hb
 refine(h w m us (c.tab.mono hlem) hmm hview).mono ?_;rintro e w' ⟨v,imm',rfl,h1,h2,h3,h4⟩;refine⟨v,{ old:=c.old,imm:=imm',tab:=(c.tab.mono hlem).mono (λb ob hb=>by rw[h2 b (Le.1 (hmm b ob hb)).1];exact hb),own:=c.own,blk:=c.blk,rows:=c.rows },rfl,ap.of_P h1,⟨(λid ob ho=>by cases ho),(λi i' ob ob' b ho=>by cases ho),h3,(λid ob b ho=>by cases ho)⟩,h4.mono (Zb _),λb hb hno=>?_,(λid ob b ho=>by cases ho),λid hid=>by cases hid⟩;have hnb:¬own b:=λ⟨id,ob2,h1,h2⟩=>hno id ob2 h1 h2;exact⟨h4.block b hb,by show imm' b=_;rw[h2 b hb];simp[m,hnb]⟩
section
variable {b v x y:Bool}
def ai(h:b=false)(e:(bif b then x else y)=v):y=v:=by subst h;exact e
def bp(h:b=true)(e:(bif b then x else y)=v):x=v:=by subst h;exact e
def sy(h:b=false)(e:y=v):(bif b then x else y)=v:=by subst h;exact e
def dq(h:b=true)(e:x=v):(bif b then x else y)=v:=by subst h;exact e
def ct(e:(!x)=true):x=false:=by simpa using e
def cu(e:(!x)=false):x=true:=by simpa using e
def Hd{k:IntKind}{a b:Int}(h:a=b):Rg (bu (.raw (.int k a))) (bu (.raw (.int k b))):=Xa (by rw[h])
def Jf{a:Bool}(h:a=b):Rg (bu (.raw (.bool a))) (bu (.raw (.bool b))):=Xa (by rw[h])
def oM{a b:ByteArray}(h:a=b):Rg (bu (.raw (.string a))) (bu (.raw (.string b))):=Xa (by rw[h])
theorem Ob.of_eq{x y:PC}(h:x=y):Ob x y:=h▸Ob.refl x
theorem Sg.of_eq{x y:List PC}(h:x=y):Sg x y:=h▸Sg.refl x
def Sb{k:IntKind}{a b:Int}(h:a=b):Ob (.one (.raw (.int k a))) (.one (.raw (.int k b))):=Ob.of_eq (by rw[h])
def Vb{a:Bool}(h:a=b):Ob (.one (.raw (.bool a))) (.one (.raw (.bool b))):=Ob.of_eq (by rw[h])
theorem Ob.one{x y:PV}(h:Fc x y):Ob (.one x) (.one y):=h
def Oq:List PV->List PV->Prop
 | [],[]=>True
 |x::xs,y::ys=>Fc x y/\Oq xs ys
 |_,_=>False
def Oq.refl:∀(l:List PV),Oq l l
 | []=>trivial
 |x::l=>⟨Fc.refl x,Oq.refl l⟩
def Oq.sound {m:Dc}:∀{xs ys:List PV} {us:List Value},Oq xs ys->fv m xs us->fv m ys us
 | [],[],[],_,_=>trivial
 |_::_,_::_,_::_,h,k=>⟨h.1 _ _ k.1,Oq.sound h.2 k.2⟩
 | [],_::_,_,h,_=>h.elim
 |_::_,[],_,h,_=>h.elim
 | [],[],_::_,_,h=>h.elim
 |_::_,_::_,[],_,h=>h.elim
theorem Ob.agg {l l':List PV} (h:Oq l l'):Ob (.agg l) (.agg l'):=by
 rintro m u ⟨us,e,hl⟩;exact⟨us,e,h.sound hl⟩
def lf{α:Type}[Inhabited α](c:α->Nat->PV)(l:List α):Nat->Nat->PV:=λi j=>c (l.getD i default) j
def Ff{α:Type}[Inhabited α](s:Nat)(c:α->Nat->PV)(l:List α):PV:=.sl l.length s false (lf c l)
variable {k s:Nat}{α:Type}{c:α->Nat->PV}{l:List α}
def vE [Inhabited α] {cl:Bool} (hk:k<=l.length):Fc (.sl k s cl (lf c l)) (Ff s c (l.take k)):=by
 refine Wa (by simp[hk]) (.inl rfl) (λh=>by cases h) λi j hi hj=>Va ?_;simp only[lf,List.getD,Ih,hi,Ma]
def bdd [Inhabited α] {cl:Bool}:Fc (.sl (l.length-k) s cl (λi j=>lf c l (k+i) j)) (Ff s c (l.drop k)):=by
 refine Wa Ec (.inl rfl) (λh=>by cases h) λi j hi hj=>Va ?_;simp only[lf,List.getD,Qo]
variable {wr':Bool}
def HH[Inhabited α]{wr:Bool}{e:TypeId}{m:Nat}{g:Nat->Nat->PV}(l':List α)(hw:wr'=true->wr=true)(hm:m=l'.length)(hg:∀i j,i<l'.length->j<s->Fc (g i j) (lf c l' i j)):
 Ic (.arr wr s e (l.length+m) (ek l.length (lf c l) g)) (.arr wr' s e (l++l').length (lf c (l++l'))):=by
 subst hm;refine⟨hw,rfl,rfl,by simp,λi j hi hj=>?_⟩;unfold ek;by_cases h:i<l.length
 .rw [Ba h]
  refine Va ?_;simp only[lf,List.getD,Ul h]
 rw[Ca h];have:=hg (i-l.length) j Za hj;have e:lf c (l++l') i j=lf c l' (i-l.length) j:=by simp only[lf,List.getD,Jk (Fz h)]
 rw[e];exact this
def o0 [Inhabited α] {wr:Bool} {i:Nat} {e:TypeId} {g:Nat->Nat->PV} (hw:wr'=true->wr=true) (hg:∀j,j<s->Fc (g 0 j) (lf c l i j)):
 Ic (.arr wr s e (i+1) (ek i (lf c l) g)) (.arr wr' s e (i+1) (lf c l)):=by
 refine⟨hw,rfl,rfl,rfl,λa j ha hj=>?_⟩;unfold ek;by_cases h:a<i
 .rw[Ba h];exact Ra
 obtain rfl:a=i:=by omega
 rw[Ca h,Dq];exact hg j hj
def Au{s':Nat}{cl:Bool}{f f':Nat->Nat->PV}:Fc (.sl 0 s cl f) (.sl 0 s' false f'):=Wa rfl (.inr rfl) (λh=>by cases h) λi j hi _=>Ea hi (Ud i)
def oU [Inhabited α] {i j:Nat} {x:α} (h:i=k) (hi:i<l.length):lf c (l.set k x) i j=c x j:=by
 subst h;simp[lf,List.getD,hi]
def iV [Inhabited α] {i j:Nat} {x:α} (h:¬i=k):lf c (l.set k x) i j=lf c l i j:=by
 simp only[lf,List.getD,List.getElem?_set_ne (Ne.symm h)]
def VB (l:List (List α)) (i:Nat) (h:i<l.length):(l.take (i+1)).flatten=(l.take i).flatten++l.getD i default:=by
 rw[YF h,List.flatten_append];simp[List.getD,Hc h]
def WW (l:List (List α)) (i:Nat) (h:i<l.length):(l.take i).flatten.length+(l.getD i default).length<=l.flatten.length:=by
 have:l.flatten.length=(l.take (i+1)).flatten.length+(l.drop (i+1)).flatten.length:=by
  rw[<- Uc,<- List.flatten_append,Lz]
 rw[this,VB l i h,Uc];omega
variable {P:Nat->Prop}
def BX (h0:P 0) (h1:P 1):∀j,j<2->P j:=λj hj=>by
 rcases j with _|_|j
 .exact h0
 .exact h1
 omega
def iM (h0:P 0) (h1:P 1) (h2:P 2):∀j,j<3->P j:=λj hj=>by
 rcases j with _|_|_|j
 .exact h0
 .exact h1
 .exact h2
 omega
def bse(i0:Nat)(h:HV)(f:Nat->Nat->PV):Nat->Nat->HV:=λi j=>if i=i0/\j=1 then h else .p (f i j)
def Q9 [Inhabited α] {wr:Bool} {n m:Nat} {e:TypeId} {x y:α} {ps qs:List PV} (hw:wr'=true->wr=true) (hn:n=l.length) (hk:k<l.length) (hm:m<l.length) (hp:ps.length=s) (hq:qs.length=s) (h1:∀j,j<s->Fc (ps.getD j .any) (c x j)) (h2:∀j,j<s->Fc (qs.getD j .any) (c y j)):
 Ic (.arr wr s e n (er (er (lf c l) k 0 ps) m 0 qs)) (.arr wr' s e n (lf c ((l.set k x).set m y))):=by
 refine⟨hw,rfl,rfl,rfl,λi j hi hj=>?_⟩;unfold er;by_cases hm':i=m
 .rw[Ba ⟨hm',Zb _,by omega⟩,oU hm' Uh,Ho];exact h2 j hj
 rw[Ca Za,iV hm'];by_cases hk':i=k
 .rw[Ba ⟨hk',Zb _,by omega⟩,oU hk' Za,Ho];exact h1 j hj
 rw[Ca Za,iV hk'];exact Ra
def al {i:Nat} (h:∀j,j<i->P j) (hn:P i):∀j,j<i+1->P j:=λj hj=>by
 rcases Nat.lt_succ_iff_lt_or_eq.1 hj with h1|rfl
 .exact h j h1
 exact hn
def aw:∀j,j<0->P j:=λj hj=>Ea hj (Ud j)
end
section
variable {α:Type}[Inhabited α]{p:α->Bool}{l:List α}{i:Nat}
def Tt (hi:i<l.length) (h:p (l.getD i default)=false):l.all p=false:=by
 rw[List.all_eq_false];refine⟨l[i],De hi, ?_⟩;simp only[List.getD,Hc hi,Xh]at h;simp[h]
def Zq (h:∀j,j<l.length->p (l.getD j default)=true):l.all p=true:=by
 rw[Ze];intro x hx;obtain⟨j,hj,rfl⟩:=Fg hx;have:=h j hj;simpa only [List.getD,Hc hj,Xh]using this
def Ax (hi:i<l.length) (h:p (l.getD i default)=true):l.any p=true:=by
 rw[Yf];refine⟨l[i],De hi, ?_⟩;simpa only [List.getD,Hc hi,Xh]using h
def Kw (h:∀j,j<l.length->p (l.getD j default)=false):l.any p=false:=by
 rw[Dk];intro x hx;obtain⟨j,hj,rfl⟩:=Fg hx;have:=h j hj;simp only[List.getD,Hc hj,Xh]at this;simp[this]
def Ee(p:α->Bool)(l:List α):Int:=match l.findIdx? p with|some i=>i|none=>-1
def oi (hi:i<l.length) (hb:∀j,j<i->p (l.getD j default)=false) (h:p (l.getD i default)=true):Ee p l=i:=by
 have:l.findIdx? p=some i:=by
  rw[Kv];refine⟨hi, ?_,λj hj=>?_⟩
  .simpa only [List.getD,Hc hi,Xh]using h
  have:=hb j hj;simp only[List.getD,Hc (Nat.lt_trans hj hi),Xh]at this;simp[this]
 simp[Ee,this]
def p8 (h:∀j,j<l.length->p (l.getD j default)=false):Ee p l=-1:=by
 have:l.findIdx? p=none:=by
  rw[uC];intro x hx;obtain⟨j,hj,rfl⟩:=Fg hx;have:=h j hj;simpa only [List.getD,Hc hj,Xh]using this
 simp[Ee,this]
def ny {l l':List α} (hl:l.length=l'.length) (h:∀j,j<l.length->l.getD j default=l'.getD j default):l=l':=by
 refine Ez hl λj h1 h2=>?_;have:=h j h1;simpa only [List.getD,Hc h1,Hc h2,Xh]using this
end
def Qb.app(a b:Qb):Qb:=⟨a.t++b.t,a.o++b.o⟩
def rK:∀{a b l:List (Nat×Option HR)},sn a l->sn b l->sn (a++b) l
 | [],_,_,_,h=>h
 |(_,some _)::_,_,_,h,k=>⟨h.1,rK h.2 k⟩
 |(_,none)::r,b,l,h,k=>rK (a:=r) (b:=b) (l:=l) h k
def eK:∀{a b l:List (Nat×Option a8)},u7 a l->u7 b l->u7 (a++b) l
 | [],_,_,_,h=>h
 |(_,some _)::_,_,_,h,k=>⟨h.1,eK h.2 k⟩
 |(_,none)::r,b,l,h,k=>eK (a:=r) (b:=b) (l:=l) h k
theorem Ii.app{a b st:Qb}(h:Ii a st)(k:Ii b st):Ii (a.app b) st:=⟨rK h.1 k.1,eK h.2 k.2⟩
section
variable {ro:Option Nat}{P:Program}{nt:Nat}{st:Qb}{Q:Exit->Qb->Prop}
def cS {ι:Type} {body:Code} (K:Qb) (hK:Ii K st) (J:ι->Qb) (p:ι->Prop) (μ:ι->Nat) (i0:ι) (h0:p i0) (hs:Ii (J i0) st) (round:∀i,p i->HW (ro:=ro) P nt body ((J i).app K) (fD (λi=>(J i).app K) p μ i Q)):HW (ro:=ro) P nt (.loop body) st Q :=
 bev (λi=>(J i).app K) p μ i0 h0 (hs.app hK) round
def eT {ι:Type} {x y:Code} (K:Qb) (hK:Ii K st) (J:ι->Qb) (p:ι->Prop) (h1:HW (ro:=ro) P nt x st (jG (λi=>(J i).app K) p Q)) (h2:∀i,p i->HW (ro:=ro) P nt y ((J i).app K) Q):HW (ro:=ro) P nt (.seq x y) st Q :=
 iB (λi=>(J i).app K) p h1 h2
section
variable {c:Code}
def pF(K:Qb)(hK:Ii K st)(h:HW (ro:=ro) P nt c K Q):HW (ro:=ro) P nt c st Q:=TO K hK h
def ej(bx off id:Nat)(wr:Bool){n s':Nat}{f':Nat->Nat->PV}{l:List HV}(s:Nat)(e:TypeId)(f:Nat->Nat->PV)(hs:0<s)(hb:bo st.o bx=some (.box l))(hl:l[off]? = some (.p (.sl n s' true f')))(hco:Fc (.sl n s' true f') (.sl n s true f))(hwr:wr=false\/n=0)(hn:qb id st=true)(hne:Nat.beq bx id=false)(h:HW (ro:=ro) P nt c ⟨st.t,(bx,some (.box (bj l off [.ref id n])))::(id,some (.arr wr s e n f))::st.o⟩ Q):HW (ro:=ro) P nt c st Q:=λw0 m0 a w hr=>by
 obtain⟨hnm,hno⟩:=jd hn;obtain⟨cc,hold,Db⟩:=hr;have hbi:bx≠id:=by rintro rfl;simp at hne
 obtain⟨b0,C0,e0,p1,p2,p3,p4,p5⟩:=Db.objs bx _ hb;obtain⟨u,hu,hur⟩:=p5.get off _ hl;have hx:aq cc.imm (.sl n s true f) u:=hco _ _ hur;have hnm':n<=maxLen:=by obtain⟨ad,cap,_,q1,q2,_⟩:=hx;omega
 have hfresh:=Db.fresh id hnm hno (.arr wr s e n f) w u Cg (Wf.refl w none) (λb hb=>hb.elim) ⟨hs,hnm', .inr ⟨hwr,by simp,by simpa using hx⟩⟩;rw[<- ip]at hfresh
 have hb':(Qb.den ⟨st.t,(id,some (.arr wr s e n f))::st.o⟩).o bx=some (.box l):=by
  simp only[Qb.den,b9,hbi,Na];exact hb
 refine h w0 m0 a w ?_
 have hevo:∀(c1:Pc),c1.own=(λk=>if k=id then u else cc.own k)->Vc { old:=cc.old,imm:=cc.imm,tab:=cc.tab,own:=λk=>if k=id then u else cc.own k,blk:=λk=>if k=id then Cg else cc.blk k,rows:=cc.rows } (Qb.den ⟨st.t,(id,some (.arr wr s e n f))::st.o⟩).o c1 ((Qb.den ⟨st.t,(id,some (.arr wr s e n f))::st.o⟩).setO bx (some (.box (bj l off [.ref id n])))).o bx:=λc1 h1 =>
  .inr (.inl ⟨l,bj l off [.ref id n],hb',by simp[S.setO],by rw[h1]⟩)
 have hown:(λk=>if k=bx then(λk=>if k=id then u else cc.own k) bx else(λk=>if k=id then u else cc.own k) k)=λk=>if k=id then u else cc.own k:=by
  funext k;by_cases hk:k=bx
  .subst hk;simp
  simp[hk]
 have hw:=hfresh.write bx (.box l) hb' (.box (bj l off [.ref id n])) w ((λk=>if k=id then u else cc.own k) bx) ((λk=>if k=id then Cg else cc.blk k) bx) none (Wf.refl w _) (λ_ e=>by cases e) (hevo _ (by exact hown)) (λb hb=>.inl hb) (by
  refine⟨b0,C0,e0,by simpa [hbi]using p1,by simpa [hbi]using p2,p3,p4, ?_⟩;have hoff:off<l.length:=(On.1 hl).1;have hcl:=p5.length;refine b7.of_get ?_ λk x u' hx' hu'=>?_
  .simp only[bj,Uc,Ae,Ck,Yk];omega
  have hx2:=hx';unfold bj at hx2;rw[dt l [HV.ref id n] off k Uh]at hx2;by_cases hk:k=off
  .subst hk
   simp at hx2;subst hx2;rw[hu]at hu';simp only[Bb]at hu';subst hu';refine⟨aq.oneCell hx,λl2=>by simp[S.setO,Qb.den,b9,Ne.symm hbi],λob1 s1 e1 n1 ho hd1=>?_⟩;simp only[S.setO,Qb.den,b9,Ne.symm hbi,Na,Ma,Bb]at ho;subst ho;simp only[a8.dim,Bb,Tc]at hd1;obtain⟨rfl,rfl,rfl⟩:=hd1;exact⟨Yb _,λ_=>by simp[Ne.symm hbi]⟩
  rw[Ca Uh]at hx2;obtain⟨u2,hu2,hr2⟩:=p5.get k x hx2;rw[hu']at hu2;simp only[Bb]at hu2;subst hu2;refine bc.evo (c:=cc) (o:=st.den.o) (Dc.le.refl cc.imm) (λj hj=>?_) hr2
  have hji:j≠id:=by
   rintro rfl;exact hnm.2.1 bx _ hb ⟨x,List.mem_of_getElem? hx2,hj⟩
  by_cases hjb:j=bx
  .subst hjb;exact .inr (.inl ⟨l,bj l off [.ref id n],hb,by simp[S.setO],by simp[hji]⟩)
  exact Vc.of_same (by simp[S.setO,hjb,Qb.den,b9,hji]) (by simp[hjb,hji]))
 have e:Qb.den ⟨st.t,(bx,some (.box (bj l off [.ref id n])))::(id,some (.arr wr s e n f))::st.o⟩=(Qb.den ⟨st.t,(id,some (.arr wr s e n f))::st.o⟩).setO bx (some (.box (bj l off [.ref id n]))):=by
  unfold Qb.den S.setO;simp only[S.mk.injEq,true_and];funext k;simp only[b9]
 rw[e];exact⟨_,(by exact hold),hw⟩
variable {f:Nat->Nat->PV}
def cj (d:Nat) {n s:Nat} {cl:Bool} (hd:bo st.t d=some (bu (.sl n s cl f))) (h:n<=9223372036854775807->HW (ro:=ro) P nt c st Q):HW (ro:=ro) P nt c st Q:=λw0 m0 a w hr=>by
 have hr':=hr;obtain⟨cc,hold,Db⟩:=hr';obtain⟨ad,cap,_,h1,h2,_⟩:=Db.tmps d _ hd;exact h (by simp only[maxLen]at h2;omega) w0 m0 a w hr
def DG (id off:Nat) {n s:Nat} {cl:Bool} {l:List HV} (hb:bo st.o id=some (.box l)) (hl:l[off]? = some (.p (.sl n s cl f))) (h:n<=9223372036854775807->HW (ro:=ro) P nt c st Q):HW (ro:=ro) P nt c st Q:=λw0 m0 a w hr=>by
 have hr':=hr;obtain⟨cc,hold,Db⟩:=hr';obtain⟨b,C,e,_,_,_,_,q5⟩:=Db.objs id _ hb;obtain⟨u,_,ad,cap,_,h1,h2,_⟩:=q5.get off _ hl;exact h (by simp only[maxLen]at h2;omega) w0 m0 a w hr
def Xw (id:Nat) {n s:Nat} {wr:Bool} {e:TypeId} (hb:bo st.o id=some (.arr wr s e n f)) (h:n<=9223372036854775807->HW (ro:=ro) P nt c st Q):HW (ro:=ro) P nt c st Q:=λw0 m0 a w hr=>by
 have hr':=hr;obtain⟨cc,hold,Db⟩:=hr';have:=(Db.objs id _ hb).2.1;exact h (by simp only[maxLen]at this;omega) w0 m0 a w hr
end
end
end
end Go.Hx
