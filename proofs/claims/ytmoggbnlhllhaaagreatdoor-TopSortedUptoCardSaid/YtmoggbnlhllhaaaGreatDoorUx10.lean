/- A part of the proof: Hx13 Hx14 Hx15. -/
import Derived.Test.YtmoggbnlhllhaaaGreatDoorUx09
set_option linter.all false
namespace Go.Hx
section
open Go.RowKit
def qa (ops:Array Oper) (j:Nat):List Nat :=
 match ops[j]? with
 |some o=>(o.after.toList.filter fun e=>Region.binds .any e).map (·.on)
 |none=>[]
def a1v (acc:List Nat):List Nat->Nat
 | []=>0
 |e::r=>a1v acc r|||2^e|||acc.getD e 0
def vu (ops:Array Oper):Nat->List Nat
 |0=>[]
 |n+1=>vu ops n++[a1v (vu ops n) (qa ops n)]
def nx (ops:Array Oper):∀n,(vu ops n).length=n
 |0=>rfl
 |n+1=>by simp[vu,nx ops n]
theorem xf (ops:Array Oper):∀n j,j<n->(vu ops n).getD j 0=a1v (vu ops j) (qa ops j)
 | n + 1,j,h=>by
  simp only[vu,bm7];by_cases hj:j<n
  · rw [bpd (by rw[nx];exact hj)]
    have:=xf ops n j hj
    grind
  have:j=n:=by omega
  subst this;rw[boo (by rw[nx];omega),nx];simp
theorem acf (acc:List Nat) (i:Nat):∀l,(a1v acc l).testBit i=true->∃e∈l,e=i\/(acc.getD e 0).testBit i=true
 | [],h=>by simp[a1v]at h
 | e :: r,h=>by
  simp only[a1v,Nat.testBit_or,bnf,Nat.testBit_two_pow,decide_eq_true_eq]at h
  rcases h with(h|h)|h
  · obtain ⟨e',he,hh⟩:=acf acc i r h
    grind
  · grind
  grind
def ab5(ops:Array Oper)(j i:Nat):Bool:=((vu ops (j+1)).getD j 0).testBit i
structure Inv (ops:Array Oper) (listed:Array Bool):Prop where
 size:listed.size=ops.size
 closed:∀j,listed.getD j false=true->∀e∈qa ops j,listed.getD e false=true
section
variable {listed:Array Bool}{ops:Array Oper}
def aja(inv:Inv ops listed):∀j,(∀e∈qa ops j,listed.getD e false=true)->∀i,ab5 ops j i=true->listed.getD i false=true:=by
 intro j
 induction j using Nat.strongRecOn with
 | _ j ih =>
  intro hd i hr;unfold ab5 at hr;rw[xf ops (j+1) j bpw]at hr;obtain⟨e,he,hh⟩:=acf _ i _ hr
  rcases hh with rfl|hh
  · exact hd e he
  by_cases hej:e<j
  · rw [xf ops j e hej]at hh
    refine ih e hej (fun e' he'=>inv.closed e (hd e he) e' he') i ?_;unfold ab5;rw[xf ops (e+1) e bpw];exact hh
  rw[bm7,bps (by rw[nx];omega)]at hh;simp at hh
theorem mem_ready' {i:Nat}:i∈Region.ready .any ops listed<->(i<ops.size/\listed.getD i true=false/\∀e∈qa ops i,listed.getD e false=true):=by
 unfold Region.ready qa;simp only[bnl,bmm,bm8,bn8];constructor
 · rintro ⟨h1,h2,h3⟩
   refine⟨h1,h2, ?_⟩;rw[bno h1]at h3 ⊢;simp only[bmq,bnu,Array.all_eq_true']at h3
   grind
 grind
def ax8(ops:Array Oper)(j d:Nat):Bool:=(qa ops j).any (Nat.beq d)
def avj {j d:Nat} (h:ax8 ops j d=false):d∉qa ops j:=by
 intro hm;unfold ax8 at h;rw[boa]at h;exact h d hm bpz
def vv(ops:Array Oper)(x y:Tr):Bool:=!(Nat.beq x.i y.i)&&!ax8 ops x.i y.i&&(ab5 ops y.i x.i||ab9 ops x y)
def a6y (ops:Array Oper):List Tr->Bool
 | []=>true
 |x::T=>T.all (vv ops x)&&a6y ops T
def aba(ops:Array Oper)(x:Tr):Bool:=Nat.blt x.i ops.size&&(qa ops x.i).all fun d=>Nat.blt d ops.size&&!(Nat.beq d x.i)
def ack (ops:Array Oper) (T:List Tr):Bool :=
 Nat.beq T.length ops.size&&(List.range ops.size).all (fun k=>T.any fun t=>Nat.beq t.i k)&&T.all (aba ops)&&a6y ops T
def yo:∀{T:List Tr},a6y ops T=true->T.Pairwise fun x y=>vv ops x y=true
 | [],_=>List.Pairwise.nil
 | x::T,h=>by
  simp only[a6y,bm8,bms]at h;exact List.Pairwise.cons h.1 (yo h.2)
end
section
variable {P:Program}{E:Env}{nt:Nat}{ops:Array Oper}{w0:World}{m0:Old}{sf:S}
def av3 (m j:Nat):(Array.replicate m false).getD j false=false:=by
 rcases bpk j m with h|h<;>simp[h]
def aco {l:Array Bool} {i:Nat} (hi:i<l.size):(l.getD i true=false)<->¬(l.getD i false=true):=by
 simp[hi]
section
variable {Q:Exit->Act->World->Prop}{ro:Option Nat}
theorem acv (hE:ck P E) {n:Nat} (hQ:∀a' w',Rel w0 m0 nt sf a' w'->Q .normal a' w'):
 ∀ (fuel:Nat) (listed:Array Bool) (T:List Tr) (s:S) (a:Act) (w:World),T.length=fuel->Inv ops listed->(∀i,i<ops.size->(listed.getD i true=false<->∃t∈T,t.i=i)) ->
  (∀t∈T,aba ops t=true)->(T.Pairwise fun x y=>vv ops x y=true)->mi P E nt ops T s sf->Rel w0 m0 nt s a w->wpAnyIn (rf ro) n P .any ops Q fuel listed a w:=by
 intro fuel
 induction fuel with
 | zero =>
  intro listed T s a w hl inv hun _ _ hT hr;have:T=[]:=bns hl;subst this;cases hT;refine⟨?_,hQ _ _ hr⟩
  cases hrd:Region.ready .any ops listed with
  |nil=>rfl
  | cons i r =>
   have hi:i∈Region.ready .any ops listed:=by rw[hrd];simp
   obtain⟨h1,h2,_⟩:=mem_ready'.1 hi
   grind
 | succ fuel ih =>
  intro listed T s a w hl inv hun hself hpw hT hr;refine⟨fun hnil=>?_,fun i hi=>?_⟩
  ·
   exfalso
   cases T with
   |nil=>simp at hl
   | cons x T =>
    have hs:=hself x bpz;simp only[aba,bm8,bms,bn8]at hs;obtain⟨hs1,hs2⟩:=hs;have hs1:x.i<ops.size:=by simpa [bob]using hs1
    have hx:x.i∈Region.ready .any ops listed:=by
     refine mem_ready'.2 ⟨hs1,(hun x.i hs1).2 ⟨x,by simp,rfl⟩,fun d hd=>?_⟩;obtain⟨hd1,hd2⟩:=hs2 d hd;have hd1:d<ops.size:=by simpa [bob]using hd1
     have hd2:d≠x.i:=by rintro rfl;simp at hd2
     apply Classical.byContradiction;intro hne;have hu:=(aco (by rw[inv.size];exact hd1)).2 hne;obtain⟨t,ht,hti⟩:=(hun d hd1).1 hu
     rcases bm9.1 ht with rfl|ht
     · grind
     have:=(bmn.1 hpw).1 t ht;simp only[vv,bm8,bn8]at this;exact avj this.1.2 (by rw[hti];exact hd)
    grind
  obtain⟨h1,h2,h3⟩:=mem_ready'.1 hi;obtain⟨y,hy,hyi⟩:=(hun i h1).1 h2;obtain⟨pre,post,rfl⟩:=List.append_of_mem hy
  have hpass:∀x∈pre,ab9 ops x y=true:=by
   intro x hx;have hp:vv ops x y=true:=(List.pairwise_append.1 hpw).2.2 x hx y bpz;simp only[vv,bm8,bnf]at hp
   rcases hp.2 with hre|hpa
   · exfalso
     have hl:=aja inv y.i (by rw[hyi];exact h3) x.i hre;have hsx:=hself x (by simp[hx]);simp only[aba,bm8]at hsx;have hsx1:x.i<ops.size:=by simpa [bob]using hsx.1
     grind
   exact hpa
  have hfront:=aia hT hpass
  cases hfront with
  | @cons iy an R O F o _ _ v wr _ hio he hR hO hF hrest =>
  have hyi':iy=i:=hyi;subst hyi';refine a4i hE he hr hio fun a' w' hr'=>?_;have hsub:List.Sublist (pre++post) (pre++(⟨iy,an,R,O,F⟩:Tr)::post):=(List.Sublist.refl pre).append (List.sublist_cons_self _ _);have hsz:iy<listed.size:=by rw[inv.size];exact h1
  refine ih (listed.setIfInBounds iy true) (pre++post) _ a' w' (by simp at hl ⊢;omega) ⟨by simp[inv.size],fun j hj e he=>?_⟩ (fun k hk=>?_) (fun t ht=>hself t (hsub.subset ht)) (hpw.sublist hsub) hrest hr'
  · by_cases hji:iy=j
    · subst hji
      exact getD_set_true (h3 e he)
    rw[getD_set_ne false hji]at hj;exact getD_set_true (inv.closed j hj e he)
  by_cases hki:iy=k
  · subst hki
    constructor
    · simp_all
    rintro⟨t,ht,hti⟩;exfalso
    rcases bmg.1 ht with ht|ht
    · have hp:=(List.pairwise_append.1 hpw).2.2 t ht ⟨iy,an,R,O,F⟩ bpz
      simp only[vv,bm8,bn8]at hp;simp_all
    have hp:=(bmn.1 (List.pairwise_append.1 hpw).2.1).1 t ht;simp only[vv,bm8,bn8]at hp;simp_all
  rw[getD_set_ne true hki,hun k hk]
  grind
def acp (hE:ck P E) {n:Nat} (hm:P.follows .mixedOrders=true) {id:Nat} {T:List Tr} {s:S} {a:Act} {w:World} (hT:mi P E nt ops T s sf) (hc:ack ops T=true) (hr:Rel w0 m0 nt s a w) (hQ:∀a' w',Rel w0 m0 nt sf a' w'->Q .normal a' w'):(Code.region id ops true).wpIn (rf ro) n P Q a w:=by
 simp only[ack,bm8,bms]at hc;obtain⟨⟨⟨h1,h2⟩,h3⟩,h4⟩:=hc;refine wpIn_region_any hm ?_;refine acv hE hQ ops.size _ T s a _ (by simpa using h1) ⟨by simp,fun j hj=>?_⟩ (fun i hi=>⟨fun _=>?_,fun _=>by simp[hi]⟩) h3 (yo h4) hT ?_
 · rw[av3]at hj;cases hj
 · simp_all
 obtain⟨c,hold,hr⟩:=hr;exact⟨c,hold,hr.drew⟩
def a1s (hE:ck P E) {n:Nat} (hQ:∀a' w',Rel w0 m0 nt sf a' w'->Q .normal a' w'):∀(T:List Tr) (s:S) (a:Act) (w:World),mi P E nt ops T s sf->Rel w0 m0 nt s a w->wpOpsIn (rf ro) n P ops Q (T.map (·.i)) a w
 | [],s,a,w,hT,hr=>by
  cases hT;exact hQ _ _ hr
 | t::T,s,a,w,hT,hr=>by
  cases hT with
  |cons hi he hR hO hF hrest =>
  rw[bnr,wpOpsIn_cons];exact a4i hE he hr hi fun a' w' hr'=>a1s hE hQ T _ a' w' hrest hr'
end
end
def b6 {α:Type}:List (Nat×Option α)->Nat->Option α
 | [],_=>none
 |(e,x)::r,d=>bif Nat.beq e d then x else b6 r d
structure HSt where
 t:List (Nat×Option HR)
 o:List (Nat×Option aa)
def HSt.den(st:HSt):S:=⟨b6 st.t,b6 st.o⟩
def HSt.after (st:HSt) (d:Option Tmp) (x:Option HR) (wr:Wr):HSt :=
 ⟨match d with|some d=>(d,x)::st.t|none=>st.t,wr++st.o⟩
theorem aj5 (l:List (Nat×Option aa)):∀(wr:Wr),b6 (wr++l)=fun k=>match gn wr k with|some r=>r|none=>b6 l k
 | []=>rfl
 | (e,x)::r=>by
  funext k;have ih:=congrFun (aj5 l r) k;simp only[bog,b6,gn]
  grind
def az {α:Type} (e:Nat) (x:Option α) (l:List (Nat×Option α)):b6 ((e,x)::l)=fun k=>if k=e then x else b6 l k:=by
 funext k;simp only[b6];by_cases h:k=e
 · subst h;simp
 have:Nat.beq e k=false:=by
  rw[bmh];intro hb;simp_all
 simp[h,this]
def lx (st:HSt) (d:Option Tmp) (x:Option HR) (wr:Wr):(st.after d x wr).den=st.den.after d x wr:=by
 unfold HSt.after HSt.den S.after S.putD S.setW S.put;cases d<;>simp[az,aj5]<;>rfl
def abz(id:Nat)(l:List Nat):Bool:=!(l.any (Nat.beq id))
def nmT (id:Nat):List (Nat×Option HR)->Bool
 | []=>true
 |(_,some x)::r=>abz id x.ids&&nmT id r
 |(_,none)::r=>nmT id r
def nmO (id:Nat):List (Nat×Option aa)->Bool
 | []=>true
 |(_,some x)::r=>abz id x.ids&&nmO id r
 |(_,none)::r=>nmO id r
section
variable {id:Nat}
def a3p {l:List Nat} (h:abz id l=true):id∉l:=by
 intro hm;simp only[abz,bn8]at h;rw[boa]at h;exact h id hm bpz
def yc:∀{l:List (Nat×Option HR)},nmT id l=true->∀d x,b6 l d=some x->¬x.men id
 | [],_,d,x,h=>by simp[b6]at h
 | (e,some y)::r,h,d,x,hl=>by
  simp only[nmT,bm8]at h;rw[az]at hl;dsimp only at hl;split at hl
  · simp only [bly]at hl
    subst hl;exact fun hm=>a3p h.1 (HR.men_ids hm)
  exact yc h.2 d x hl
 | (e,none)::r,h,d,x,hl=>by
  rw[az]at hl;dsimp only at hl;split at hl
  · cases hl
  exact yc (by simpa [nmT]using h) d x hl
def a9u:∀{l:List (Nat×Option aa)},nmO id l=true->∀d x,b6 l d=some x->¬x.men id
 | [],_,d,x,h=>by simp[b6]at h
 | (e,some y)::r,h,d,x,hl=>by
  simp only[nmO,bm8]at h;rw[az]at hl;dsimp only at hl;split at hl
  · simp only [bly]at hl
    subst hl;exact fun hm=>a3p h.1 (aa.men_ids hm)
  exact a9u h.2 d x hl
 | (e,none)::r,h,d,x,hl=>by
  rw[az]at hl;dsimp only at hl;split at hl
  · cases hl
  exact a9u (by simpa [nmO]using h) d x hl
def jz(id:Nat)(st:HSt):Bool:=Nat.blt id 1000&&nmT id st.t&&nmO id st.o&&(match b6 st.o id with|none=>true|some _=>false)
theorem ed {st:HSt} (h:jz id st=true):NM st.den id/\st.den.o id=none:=by
 simp only[jz,bm8]at h;obtain⟨⟨⟨h0,h1⟩,h2⟩,h3⟩:=h;refine⟨⟨yc h1,a9u h2,by simpa [bob]using h0⟩, ?_⟩;show b6 st.o id=none
 grind
end
section
variable {P:Program}{E:Env}{nt:Nat}{ops:Array Oper}{i:Nat}{o:Oper}{st:HSt}{T:List Tr}{sf:S}
def a9o(ex:Bool)(M:List Nat):Ann:=⟨0,false,ex, .tup [],[],[],M⟩
def Reg (P:Program) (E:Env) (nt:Nat) (ops:Array Oper) (L:List Nat) (st:HSt) (K:List Tr->HSt->Prop):Prop :=
 ∃T sf,T.map (·.i)=L/\mi P E nt ops T st.den (HSt.den sf)/\K T sf
variable {L:List Nat}{K:List Tr->HSt->Prop}
def d5(h:K [] st):Reg P E nt ops [] st K:=⟨[],st,rfl, .nil _,h⟩
section
variable {gb:Bool}
def fb (ex:Bool) {out:Out} (hi:ops[i]? = some o) (hw:b5 ops st.den o=some gb) (hd:cj nt o.dst=true) (hq':hq E ex st.den.o (ev st.den) o.op=some out) (hg:gb=true) (hp:out.pre) (hT:Reg P E nt ops L (st.after o.dst (some out.val) []) fun T sf=>K (⟨i,a9o ex out.val.ids,looks st.den o,cb st.den o.dst [],f8 E st.den o⟩::T) sf):Reg P E nt ops (i::L) st K:=by
 obtain⟨T,sf,h1,h2,h3⟩:=hT;exact⟨_,sf,by rw[<- h1];rfl, .cons hi (.quiet out (by rw[hw,hg]) hd hq' hp rfl) rfl (fun _ hk=>hk) (fun f hf=>⟨hf,by rw[hw,hg]⟩) (by rw[lx]at h2;exact h2),h3⟩
def apu (hi:ops[i]? = some o) (hw:b5 ops st.den o=some gb) (hd:cj nt o.dst=true) (hg:gb=false) (hT:Reg P E nt ops L (st.after o.dst (some (.tup [])) []) fun T sf=>K (⟨i,a9o true [],looks st.den o,cb st.den o.dst [],none⟩::T) sf):Reg P E nt ops (i::L) st K:=by
 obtain⟨T,sf,h1,h2,h3⟩:=hT;exact⟨_,sf,by rw[<- h1];rfl, .cons hi (.skip (by rw[hw,hg]) hd) rfl (fun _ hk=>hk) (by intro _ hf;cases hf) (by rw[lx]at h2;exact h2),h3⟩
def bcl {out:Out} {id:Nat} (hi:ops[i]? = some o) (hw:b5 ops st.den o=some gb) (hd:cj nt o.dst=true) (hq':xc E st.den.o (ev st.den) o.op=some (out,id)) (hg:gb=true) (hp:out.pre) (hT:Reg P E nt ops L (st.after o.dst (some out.val) [(id,none)]) fun T sf=>K (⟨i,⟨0,false,true, .tup [],[id],[],[]⟩,looks st.den o,cb st.den o.dst [(id,none)],none⟩::T) sf):Reg P E nt ops (i::L) st K:=by
 obtain⟨T,sf,h1,h2,h3⟩:=hT;exact⟨_,sf,by rw[<- h1];rfl, .cons hi (.cut out id (by rw[hw,hg]) hd hq' hp rfl) rfl (fun _ hk=>hk) (by intro _ hf;cases hf) (by rw[lx]at h2;exact h2),h3⟩
def a7k (id:Nat) {nw:New} (hi:ops[i]? = some o) (hw:b5 ops st.den o=some gb) (hd:cj nt o.dst=true) (hq':ha E (ev st.den) id o.op=some nw) (hn:jz id st=true) (hg:gb=true) (hp:nw.pre) (hT:Reg P E nt ops L (st.after o.dst (some nw.val) [(id,some nw.ob)]) fun T sf=>K (⟨i,⟨id,false,true, .tup [],[id],[id],nw.val.ids++nw.ob.ids⟩,looks st.den o,cb st.den o.dst [(id,some nw.ob)],none⟩::T) sf):Reg P E nt ops (i::L) st K:=by
 obtain⟨T,sf,h1,h2,h3⟩:=hT;exact⟨_,sf,by rw[<- h1];rfl, .cons hi (.make nw (by rw[hw,hg]) hd hq' hp (ed hn).1 (ed hn).2 rfl rfl rfl) rfl (fun _ hk=>hk) (by intro _ hf;cases hf) (by rw[lx]at h2;exact h2),h3⟩
def ahu {u:Upd} (hi:ops[i]? = some o) (hw:b5 ops st.den o=some gb) (hd:cj nt o.dst=true) (hq':hs E st.den.o (ev st.den) o.op=some u) (hg:gb=true) (hp:u.pre) (hT:Reg P E nt ops L (st.after o.dst none [(u.id,some u.ob)]) fun T sf=>K (⟨i,⟨0,false,true, .tup [],[u.id],[],u.ob.ids⟩,looks st.den o,cb st.den o.dst [(u.id,some u.ob)],f8 E st.den o⟩::T) sf):Reg P E nt ops (i::L) st K:=by
 obtain⟨T,sf,h1,h2,h3⟩:=hT;exact⟨_,sf,by rw[<- h1];rfl, .cons hi (.store u (by rw[hw,hg]) hd hq' hp rfl (fun _ hk=>hk)) rfl (fun _ hk=>hk) (fun f hf=>⟨hf,by rw[hw,hg]⟩) (by rw[lx]at h2;exact h2),h3⟩
def acb (id:Nat) (wb:Bool) {u:App} (hi:ops[i]? = some o) (hw:b5 ops st.den o=some gb) (hd:cj nt o.dst=true) (hq':hap E st.den.o (ev st.den) id wb o.op=some u) (hn:(!u.new||jz id st)=true) (hg:gb=true) (hp:u.pre) (hT:Reg P E nt ops L (st.after o.dst (some u.val) [(u.id,some u.ob)]) fun T sf=>K (⟨i,⟨id,wb,true, .tup [],[u.id],if u.new then[id] else[],u.val.ids++u.ob.ids⟩,looks st.den o,cb st.den o.dst [(u.id,some u.ob)],none⟩::T) sf):Reg P E nt ops (i::L) st K:=by
 obtain⟨T,sf,h1,h2,h3⟩:=hT;exact⟨_,sf,by rw[<- h1];rfl, .cons hi (.app u (by rw[hw,hg]) hd hq' hp (fun h=>ed (by rw[h]at hn;simpa using hn)) rfl (fun h=>by simp[h]) rfl) rfl (fun _ hk=>hk) (by intro _ hf;cases hf) (by rw[lx]at h2;exact h2),h3⟩
def b2y {sr ds:TypeId} {x:Operand} {b:ByteArray} (hi:ops[i]? = some o) (hw:b5 ops st.den o=some gb) (hd:cj nt o.dst=true) (ho:o.op=.convert sr ds x) (hcv:ac6 E (ev st.den) sr ds x=some b) (hg:gb=true) (hp:b.size<=maxLen) (hT:Reg P E nt ops L (st.after o.dst (some (.v (.one (.p (.sl b.size 1 false (ar1 b)))))) []) fun T sf=>K (⟨i,⟨0,false,true, .tup [],[],[],[]⟩,looks st.den o,cb st.den o.dst [],none⟩::T) sf):Reg P E nt ops (i::L) st K:=by
 obtain⟨T,sf,h1,h2,h3⟩:=hT;exact⟨_,sf,by rw[<- h1];rfl, .cons hi (.conv sr ds x b (by rw[hw,hg]) hd ho hcv hp rfl) rfl (fun _ hk=>hk) (by intro _ hf;cases hf) (by rw[lx]at h2;exact h2),h3⟩
def ap9 {cl:Call} {f:FuncId} {fst caps args vs:List PC} {p:Prop} {b:Bool} {res:PR} (hi:ops[i]? = some o) (hw:b5 ops st.den o=some gb) (hd:cj nt o.dst=true) (ho:o.op=.call cl) (hc:callee (ev st.den) cl=some (f,fst,caps)) (hv:ju st.den.o (ev st.den) cl.args.toList=some (p,vs,b)) (hf:a6 P f) (hpure:a7 P f args res) (hco:CoL (fst++(vs++caps)) args) (hg:gb=true) (hp:p) (hb:(!b||res.flat)=true) (hT:Reg P E nt ops L (st.after o.dst (some res.toH) []) fun T sf=>K (⟨i,⟨0,false,true,res,[],[],[]⟩,looks st.den o,cb st.den o.dst [],none⟩::T) sf):Reg P E nt ops (i::L) st K:=by
 obtain⟨T,sf,h1,h2,h3⟩:=hT;exact⟨_,sf,by rw[<- h1];rfl,   .cons hi (.call cl f fst caps args p vs b (by rw[hw,hg]) hd ho hc (.inl ⟨hf,hpure⟩) hv hp hco trivial hb rfl) rfl (fun _ hk=>hk) (by intro _ hf;cases hf) (by rw[lx]at h2;exact h2),h3⟩
end
end
def HW {ro:Option Nat} (P:Program) (nt:Nat) (c:Code) (st:HSt) (Q:Exit->HSt->Prop):Prop :=
 ∀w0 m0 a w,Rel w0 m0 nt st.den a w->c.wpIn (rf ro) 0 P (fun e a' w'=>∃st':HSt,Q e st'/\Rel w0 m0 nt st'.den a' w') a w
def qf:List (Nat×Option HR)->List (Nat×Option HR)->Prop
 | [],_=>True
 |(d,some x)::r,l=>(∃y,b6 l d=some y/\CoR y x)/\qf r l
 |(_,none)::r,l=>qf r l
def rt:List (Nat×Option aa)->List (Nat×Option aa)->Prop
 | [],_=>True
 |(d,some x)::r,l=>(∃y,b6 l d=some y/\CoO y x)/\rt r l
 |(_,none)::r,l=>rt r l
def Sub(st st':HSt):Prop:=qf st.t st'.t/\rt st.o st'.o
def wd:∀{l l':List (Nat×Option HR)},qf l l'->∀d x,b6 l d=some x->∃y,b6 l' d=some y/\CoR y x
 | [],_,_,d,x,h=>by simp[b6]at h
 | (e,some y)::r,l',h,d,x,hl=>by
  rw[az]at hl;dsimp only at hl;split at hl
  · rename_i he;subst he;simp only[bly]at hl;subst hl;exact h.1
  exact wd h.2 d x hl
 | (e,none)::r,l',h,d,x,hl=>by
  rw[az]at hl;dsimp only at hl;split at hl
  · cases hl
  exact wd (l:=r) h d x hl
def zw:∀{l l':List (Nat×Option aa)},rt l l'->∀d x,b6 l d=some x->∃y,b6 l' d=some y/\CoO y x
 | [],_,_,d,x,h=>by simp[b6]at h
 | (e,some y)::r,l',h,d,x,hl=>by
  rw[az]at hl;dsimp only at hl;split at hl
  · rename_i he;subst he;simp only[bly]at hl;subst hl;exact h.1
  exact zw h.2 d x hl
 | (e,none)::r,l',h,d,x,hl=>by
  rw[az]at hl;dsimp only at hl;split at hl
  · cases hl
  exact zw (l:=r) h d x hl
section
variable {ro:Option Nat}{P:Program}{E:Env}{nt:Nat}{st st':HSt}{Q Q':Exit->HSt->Prop}{w0:World}{m0:Old}{a:Act}{w:World}
theorem Rel.sub (hs:Sub st' st) (h:Rel w0 m0 nt st.den a w):Rel w0 m0 nt st'.den a w:=by
 obtain⟨c,hold,h⟩:=h;exact⟨c,hold,h.relax _ (fun d x hx=>wd hs.1 d x hx) (fun d x hx=>zw hs.2 d x hx)⟩
section
variable {c:Code}
def aon (h:HW (ro:=ro) P nt c st Q) (hq:∀e st,Q e st->Q' e st):HW (ro:=ro) P nt c st Q' :=
 fun w0 m0 a w hr=>wpIn_mono (h w0 m0 a w hr) fun e a w ⟨st',hQ,hr⟩=>⟨st',hq _ _ hQ,hr⟩
def aue(st':HSt)(hs:Sub st' st)(h:HW (ro:=ro) P nt c st' Q):HW (ro:=ro) P nt c st Q:=fun w0 m0 a w hr=>h w0 m0 a w (hr.sub hs)
def ej(h:Q .normal st):HW (ro:=ro) P nt .skip st Q:=fun _ _ _ _ hr=>wpIn_skip ⟨st,h,hr⟩
variable {id:Nat}
def dz(h:Q (.exit id) st):HW (ro:=ro) P nt (.exit id) st Q:=fun _ _ _ _ hr=>wpIn_exit ⟨st,h,hr⟩
def abr(h:Q .ret st):HW (ro:=ro) P nt .ret st Q:=fun _ _ _ _ hr=>wpIn_ret ⟨st,h,hr⟩
def b9d {ro:Option Nat} (P:Program) (nt:Nat) (y:Code) (Q:Exit->HSt->Prop):Exit->HSt->Prop
 | .normal,st=>HW (ro:=ro) P nt y st Q
 |e,st=>Q e st
def eq {x y:Code} (h:HW (ro:=ro) P nt x st (b9d (ro:=ro) P nt y Q)):HW (ro:=ro) P nt (.seq x y) st Q:=fun w0 m0 a w hr=>by
 refine wpIn_seq (wpIn_mono (h w0 m0 a w hr) fun e a' w' ⟨st',hQ,hr'⟩=>?_);cases e<;>simp only[Exit.then]<;>first|exact hQ w0 m0 a' w' hr'|exact⟨st',hQ,hr'⟩
def aw {c:Operand} {x y:Code} (b:Bool) (hc:ev st.den c=some (.v (.one (.p (.raw (.bool b)))))) (ht:b=true->HW (ro:=ro) P nt x st Q) (hf:b=false->HW (ro:=ro) P nt y st Q):HW (ro:=ro) P nt (.cond c x y) st Q:=fun w0 m0 a w hr=>by
 obtain⟨cc,hold,hrr⟩:=hr;obtain⟨e1,_⟩:=ae hrr hc;exact wpIn_cond_split e1 (fun hb=>ht hb w0 m0 a w ⟨cc,hold,hrr⟩) (fun hb=>hf hb w0 m0 a w ⟨cc,hold,hrr⟩)
def asm (id:Nat) (Q:Exit->HSt->Prop):Exit->HSt->Prop
 | .exit id',st=>if id'=id then Q .normal st else Q (.exit id') st
 |e,st=>Q e st
theorem a2c (h:HW (ro:=ro) P nt c st (asm id Q)):HW (ro:=ro) P nt (.block id c) st Q:=fun w0 m0 a w hr=>by
 refine wpIn_block (wpIn_mono (h w0 m0 a w hr) fun e a' w' ⟨st',hQ,hr'⟩=>?_);cases e<;>simp only[Exit.inBlock]<;>try exact⟨st',hQ,hr'⟩
 rename_i id';simp only[asm]at hQ
 grind
def a4f{F:Fence}{m:Nat}{QQ:Exit->Act->World->Prop}(I:Nat->Act->World->Prop)(n0:Nat){a:Act}{w:World}(h₀:I n0 a w)(round:∀n a w,I n a w->c.wpIn F m P (Exit.then (fun a' w'=>∃m,m<n/\I m a' w') QQ) a w):(Code.loop c).wpIn F m P QQ a w:=by
 intro b k cs hro hb hr
 have key:∀n a w,I n a w->∃e a' w',QQ e a' w'/\ArrivesIn (Machine.fenced P F) P (lone (b.atR a (.code c::.inLoop c::k)) cs w) b k cs e a' w':=by
  intro n
  induction n using Nat.strongRecOn with
  | _ n ih =>
   intro a w hI;obtain⟨e,a₁,w₁,hq,harr⟩:=round n a w hI b (.inLoop c::k) cs hro hb hr
   cases e with
   | normal =>
    obtain⟨m,hlt,hI₁⟩:=hq;obtain⟨e₂,a₂,w₂,hq₂,harr₂⟩:=ih m hlt a₁ w₁ hI₁;exact⟨e₂,a₂,w₂,hq₂, .of_steps (StepsIn.trans harr (.one (fenced_calm hb hr rfl) stepR_inLoop)) harr₂⟩
   |exit id=>exact⟨_,a₁,w₁,hq, .pass (x:=.inLoop c) rfl (fun _ _=>.inl bpz) harr⟩
   |goto l=>exact⟨_,a₁,w₁,hq, .pass (x:=.inLoop c) rfl (fun _ _=>.inl bpz) harr⟩
   |ret=>exact⟨_,a₁,w₁,hq, .pass (x:=.inLoop c) rfl (fun _ _=>.inl bpz) harr⟩
   |panic ch=>exact⟨_,a₁,w₁,hq, .pass (x:=.inLoop c) rfl (fun _ _=>.inl bpz) harr⟩
   |outgrown=>exact⟨_,a₁,w₁,hq, .pass (x:=.inLoop c) rfl (fun _ _=>.inl bpz) harr⟩
 obtain⟨e,a',w',hq,harr⟩:=key n0 a w h₀;exact⟨e,a',w',hq, .of_steps (.one (fenced_calm hb hr rfl) stepR_loop) harr⟩
def aha {ι:Type} (I:ι->HSt) (p:ι->Prop) (μ:ι->Nat) (i:ι) (Q:Exit->HSt->Prop):Exit->HSt->Prop
 | .normal,st=>∃i',p i'/\μ i'<μ i/\Sub (I i') st
 |e,st=>Q e st
def b5x {ι:Type} {body:Code} (I:ι->HSt) (p:ι->Prop) (μ:ι->Nat) (i0:ι) (h0:p i0) (hs:Sub (I i0) st) (round:∀i,p i->HW (ro:=ro) P nt body (I i) (aha I p μ i Q)):HW (ro:=ro) P nt (.loop body) st Q:=fun w0 m0 a w hr=>by
 refine a4f (fun n a w=>∃i,p i/\μ i=n/\Rel w0 m0 nt (I i).den a w) (μ i0) ⟨i0,h0,rfl,hr.sub hs⟩ ?_;rintro n a w ⟨i,hp,rfl,hr⟩;refine wpIn_mono (round i hp w0 m0 a w hr) fun e a' w' ⟨st',hQ,hr'⟩=>?_;cases e<;>simp only[Exit.then]<;>try exact⟨st',hQ,hr'⟩
 obtain⟨i',hp',hlt,hsub⟩:=hQ;exact⟨μ i',hlt,i',hp',rfl,hr'.sub hsub⟩
def afd (hE:ck P E) {ops:Array Oper} (h:Reg P E nt ops (List.range ops.size) st fun _ sf=>Q .normal sf):HW (ro:=ro) P nt (.region id ops false) st Q:=fun w0 m0 a w hr=>by
 obtain⟨T,sf,hl,hT,h⟩:=h;refine wpIn_region ?_;rw[<- hl];exact a1s hE (fun a' w' hr'=>⟨sf,h,hr'⟩) T _ a w hT hr
def b1y (hE:ck P E) (hm:P.follows .mixedOrders=true) {ops:Array Oper} (L:List Nat) (h:Reg P E nt ops L st fun T sf=>ack ops T=true/\Q .normal sf):HW (ro:=ro) P nt (.region id ops true) st Q:=fun w0 m0 a w hr=>by
 obtain⟨T,sf,hl,hT,hc,h⟩:=h;exact acp hE hm hT hc hr fun a' w' hr'=>⟨sf,h,hr'⟩
def yh (E:Env) (s:S):List ResultVar->Option (Prop×List HC)
 | []=>some (True,[])
 | .tmp t::r =>
  match s.t t,yh E s r with
  |some (.v cc),some (p,l)=>some (p,cc::l)
  |_,_=>none
 | .cell ad ty::r =>
  match n7 E s.o (ev s) ty (.tmp ad),yh E s r with
  |some ⟨p1, .v cc⟩,some (p,l)=>some (p1/\p,cc::l)
  |_,_=>none
def oj (o:ap):List HC->Option (Prop×List PC)
 | []=>some (True,[])
 | x::r =>
  match yz o x,oj o r with
  |some (p,y,_),some (q,ys)=>some (p/\q,y::ys)
  |_,_=>none
def af:List PC->PR
 | [x]=>.v x
 |l=>.tup l
def ace (E:Env) (st:HSt) (rs:List ResultVar) (res:List PC):Prop :=
 ∃p l q vs,yh E st.den rs=some (p,l)/\p/\oj st.den.o l=some (q,vs)/\q/\CoL vs res
def a86 {t:TypeId} {u v:Value} (h:(Instr.loadAt t u).run P w=.ok v w):∃ad,u=.pointer (some ad)/\(loadVar t ad).run P w=.ok v w:=by
 cases u<;>try(simp[Instr.loadAt,Instr.sureAddr]at h;done)
 rename_i ad
 cases ad with
 |none=>simp[Instr.loadAt,Instr.sureAddr]at h
 |some ad=>exact⟨ad,rfl,by simpa [Instr.loadAt,Instr.sureAddr]using h⟩
def x4 (hE:ck P E) {c:Ctx} {s:S} (h:ag w0 nt c s a w) (F:ResultVar->Sem Value) (F1:∀t,F (.tmp t)=pure (a.tmps.getD t undef)) (F2:∀ad t,F (.cell ad t)=do loadVar t (<- asAddr (a.tmps.getD ad undef))) :
 ∀{rs:List ResultVar} {p:Prop} {l:List HC},yh E s rs=some (p,l)->p->∃vs:List Value,(rs.mapM F).run P w=.ok vs w/\bu c s.o l vs
 | [],p,l,hr,_=>by
  simp only[yh,bly,bm4]at hr;obtain⟨_,rfl⟩:=hr;exact⟨[],by simp,trivial⟩
 | .tmp t::r,p,l,hr,hp=>by
  simp only[yh]at hr;split at hr<;>try(cases hr;done)
  rename_i cc p1 l1 ht hr1;simp only[bly,bm4]at hr;obtain⟨rfl,rfl⟩:=hr;obtain⟨vs,h1,h2⟩:=x4 hE h F F1 F2 hr1 hp;refine⟨a.tmps.getD t undef::vs, ?_,h.tmps t _ ht,h2⟩;simp_all
 | .cell ad ty::r,p,l,hr,hp=>by
  simp only[yh]at hr;split at hr<;>try(cases hr;done)
  rename_i p1 cc p2 l2 hld hr1;simp only[bly,bm4]at hr;obtain⟨rfl,rfl⟩:=hr;obtain⟨v,hv,hvr⟩:=a4h hE h hld hp.1;obtain⟨ad',he,hlv⟩:=a86 hv;have he':a.tmps.getD ad undef=.pointer (some ad'):=he;obtain⟨vs,h1,h2⟩:=x4 hE h F F1 F2 hr1 hp.2;refine⟨v::vs, ?_,hvr,h2⟩;rw[List.mapM_cons,F2,he'];simp only[asAddr,bmz,bnh,bmf,hlv,h1]
def pf {c:Ctx} {s:S} (h:ag w0 nt c s a w) {m:Imm} (hm:yd w0 c w m):∀{l:List HC} {us:List Value} {p:Prop} {vs:List PC},bu c s.o l us->oj s.o l=some (p,vs)->p->bz m vs us
 | [],[],p,vs,_,hv,_=>by
  simp only[oj,bly,bm4]at hv;obtain⟨_,rfl⟩:=hv;trivial
 | x::l,u::us,p,vs,hr,hv,hp=>by
  simp only[oj]at hv;split at hv<;>try(cases hv;done)
  rename_i p1 y b q ys h1 h2;simp only[bly,bm4]at hv;obtain⟨rfl,rfl⟩:=hv;exact⟨(a8q h hm hr.1 h1 hp.1).1,pf h hm hr.2 h2 hp.2⟩
 | [],_::_,_,_,hr,_,_=>hr.elim
 |_::_,[],_,_,hr,_,_=>hr.elim
theorem Rel.strike {P:Program} {nt:Nat} {st:S} {w0:World} {m0:Old} {fn:Func} {R:Ending->World->Prop}:∀{l:List Deferred} {a:Act} {w:World},a.defers=l->Rel w0 m0 nt st a w ->
 (∀w',Rel w0 m0 nt st { a with defers:=[] } w'->∃v,(results fn a.tmps).run P w'=.ok v w'/\R (.returned v) w')->LeavesInM (rf none) 0 P fn a.tmps R l .returning w
 | [],a,w,hl,hr,h=>by
  obtain⟨tm,ds⟩:=a;simp only at hl;subst hl;obtain⟨v,h1,h2⟩:=h w hr;exact⟨v,h1,h2⟩
 | d :: l,a,w,hl,hr,h=>by
  obtain⟨tm,ds⟩:=a;simp only at hl;subst hl;obtain⟨c,hold,hrc⟩:=hr;obtain⟨hpw,hds⟩:=hrc.defers;obtain⟨D,rfl,h2,h3,h4,h5⟩:=hds d bpz;refine⟨by simp, .inl ⟨D,_,rfl,run_takeDeferred h2, ?_⟩⟩
  have hne:∀b,b≠D->(w.putObj D (.deferred none)).heap[b]? = w.heap[b]?:=fun b hb=>by
   show(w.heap.setIfInBounds D _)[b]? = _
   grind
  refine Rel.strike (a:={ tmps:=tm,defers:=l }) (w:=w.putObj D (.deferred none)) rfl ⟨c,hold,⟨(bmn.1 hpw).2,fun d' hd'=>?_⟩,hrc.size, ?_,hrc.tmps,fun id ob ho=>?_,hrc.inj,fun b ob hb=>?_,hrc.sep,hrc.was,fun b ob hb=>?_,hrc.fsep,hrc.fixed⟩ h
  · obtain ⟨D',rfl,g2,g3⟩:=hds d' (by simp[hd'])
    refine⟨D',rfl,(hne D' fun e=>(bmn.1 hpw).1 _ hd' (by rw[e])).trans g2,g3⟩
  · have hb:=hrc.below
    exact⟨hb.os,hb.tape,hb.output,by show _<=(w.heap.setIfInBounds D _).size;rw[Array.size_setIfInBounds];exact hb.size,fun k hk=>absurd hk (bm6 k),hb.drawn⟩
  · refine (hrc.objs id ob ho).keep (Imm.le.refl _) rfl rfl (fun _ _=>Evo.refl _ _ _) fun b hb=>hne b fun e=>?_
    obtain⟨x1,hc,hdt⟩:=(hrc.objs id ob ho).data hb;rw[e,h2]at hc;cases hc;cases hdt
  · refine (hne b fun e=>?_).trans (hrc.imm b ob hb)
    grind
  refine(hne b fun e=>?_).trans (hrc.frm b ob hb)
  grind
def zm:Nat->List PC->List (Nat×Option HR)
 |_,[]=>[]
 |i,x::r=>(i,some (.v x.toH))::zm (i+1) r
theorem a3v:∀(l:List PC) (i d:Nat) (r:HR),b6 (zm i l) d=some r->∃x,i<=d/\l[d-i]? = some x/\r=.v x.toH
 | [],i,d,r,h=>by simp[zm,b6]at h
 | x::l,i,d,r,h=>by
  simp only[zm]at h;rw[az]at h;dsimp only at h;split at h
  · grind
  rename_i hd;obtain⟨y,h1,h2,h3⟩:=a3v l (i+1) d r h
  grind
theorem ayk (hE:ck P E) {f:FuncId} {fn:Func} {body:Code} {args res:List PC} (hf:P.funcs[f]? = some fn) (hb:fn.body=some body) (hn:fn.ntmps=nt) (hl:args.length<=nt)
 (h:HW (ro:=none) P nt body ⟨zm 0 args,[]⟩ fun e st=>(e=.normal\/e=.ret)/\ace E st fn.results.toList res):a7 P f args (af res):=by
 intro w imm us htab himm hargs;refine(callsIn_wide (n:=0)).1 (callsIn_of_wp_marks hf hb trivial ?_ rfl);have hul:=hargs.length
 let a0:Act:={ tmps:=us.toArray++Array.replicate (fn.ntmps-us.toArray.size) undef,defers:=[] }
 have hrel:Rel w (imm,ec w,(fun _=>undef),(fun _=>none),fun _ _=>undef) nt (HSt.den ⟨zm 0 args,[]⟩) a0 w:=by
  refine⟨{ old:=(imm,ec w,(fun _=>undef),(fun _=>none),fun _ _=>undef),imm:=imm,tab:=htab,own:=fun _=>undef,blk:=fun _=>noB,rows:=fun _ _=>undef },rfl,py.nil _ _ _ _, ?_,Below.refl _ _,fun d x hx=>?_,fun id ob ho=>?_,fun i i' ob ob' b ho=>?_,himm,fun id ob b ho=>?_,fun b _=>rfl,fun b ob hb=>hb,fun id ob b ho=>?_,fun id _=>.inl rfl⟩
  · grind
  · obtain ⟨y,_,hy,rfl⟩:=a3v args 0 d x hx
    simp only[Nat.sub_zero]at hy;obtain⟨u,hu,hr⟩:=hargs.get d y hy;have hd:d<us.length:=(bnn.1 hu).1
    have:a0.tmps.getD d undef=u:=by
     have e1:a0.tmps[d]? = some u:=by
      grind
     simp_all
    rw[this];exact ey.of_P hr
  · simp[HSt.den,b6]at ho
  · simp[HSt.den,b6]at ho
  · simp[HSt.den,b6]at ho
  simp[HSt.den,b6]at ho
 refine wpIn_mono (h w (imm,ec w,(fun _=>undef),(fun _=>none),fun _ _=>undef) a0 w hrel) fun e a' w1 ⟨st',⟨hex,hres⟩,hr1⟩=>?_
 suffices key:LeavesInM (rf none) 0 P fn a'.tmps _ a'.defers .returning w1 by
  rcases hex with rfl|rfl<;>exact key
 refine Rel.strike rfl hr1 fun w' hr'=>?_;obtain⟨c,hold,hrc⟩:=hr';obtain⟨p,l,q,vs,h1,h2,h3,h4,h5⟩:=hres
 have hfrm:∀b,b<w.heap.size->c.frm b≠none/\w'.heap[b]? = w.heap[b]?:=fun b hb=>by
  have e1:c.frm b=some w.heap[b]:=by
   show c.old.2.1 b=_;rw[hold];exact bno hb
  refine⟨by rw[e1];simp, ?_⟩;rw[hrc.frm b _ e1,bno hb]
 have hwas:∀b,b<w.heap.size->c.imm b=imm b:=fun b hb=>by
  rw[hrc.was b (hfrm b hb).1,hold]
 have hseen:yd w c w' (fun b=>if b<w.heap.size then imm b else w'.heap[b]?):=by
  refine⟨fun b ob hbo=>?_,fun b hb _=>?_⟩
  · by_cases hlt:b<w.heap.size
    · grind
    simp only[hlt,if_false];exact hrc.imm b ob hbo
  grind
 have hrv:∃v,(results fn a'.tmps).run P w'=.ok v w'/\oe (fun b=>if b<w.heap.size then imm b else w'.heap[b]?) (af res) v:=by
  let F:ResultVar->Sem Value:=fun | .tmp t=>pure (a'.tmps.getD t undef) | .cell ad t=>do loadVar t (<- asAddr (a'.tmps.getD ad undef))
  obtain⟨uvs,hrun,hrep⟩:=x4 hE hrc F (fun _=>rfl) (fun _ _=>rfl) h1 h2;have hF:results fn a'.tmps=(do let vs <- fn.results.mapM F;pure (if h:vs.size=1 then vs[0]else .tuple vs)):=rfl;rw[hF,Array.mapM_eq_mapM_toList,bmz,Sem.run_map];have hview:=CoL.sound h5 (pf hrc hseen hrep h3 h4);rw[hrun];simp only[bmf,bnh];refine⟨_,rfl, ?_⟩
  match res,uvs,hview with
  | [x],[u],hv=>simp only[af,oe];simpa using hv.1
  | [],[],hv=>exact⟨[],by simp,trivial⟩
  |x::y::r,u::v::t,hv=>exact⟨u::v::t,by simp,hv⟩
  | [],_::_,hv=>exact hv.elim
  | [_],[],hv=>exact hv.elim
  | [_],_::_::_,hv=>exact hv.2.elim
  |_::_::_,[],hv=>exact hv.elim
  |_::_::_,[_],hv=>exact hv.2.elim
 obtain⟨v,hv1,hv2⟩:=hrv
 have hfin:(∃v_1 imm',Ending.returned v=Ending.returned v_1/\oe imm' (af res) v_1/\(∀b,b<w.heap.size->imm' b=imm b)/\(∀b ob,imm' b=some ob->w'.heap[b]? = some ob)/\Below w.heap.size w w'):=by
  refine⟨v,_,rfl,hv2,fun b hb=>by simp[hb],fun b ob hbo=>?_,⟨hrc.below.os,hrc.below.tape,hrc.below.output,hrc.below.size,fun k hk=>(hfrm k hk).2,hrc.below.drawn⟩⟩
  grind
 grind
end
end
end
section
open Go.RowKit
section
variable {ro:Option Nat}{P:Program}{nt:Nat}{st:HSt}{Q:Exit->HSt->Prop}
def a32 (st:HSt) (id:Nat):(HSt.den ⟨st.t,(id,none)::st.o⟩)=st.den.setO id none:=by
 unfold HSt.den S.setO;simp[az]
section
variable {c:Code}
def wc(st1:HSt)(d:Nat)(x:HR)(hs:∀w0 m0 a w,Rel w0 m0 nt st.den a w->∃cc,cc.old=m0/\ag w0 nt cc st1.den a w/\ak cc st1.den.o x (a.tmps.getD d undef))(h:HW (ro:=ro) P nt c ⟨(d,some x)::st1.t,st1.o⟩ Q):HW (ro:=ro) P nt c st Q:=fun w0 m0 a w hr=>by
 obtain⟨cc,hold,hrr,hx⟩:=hs w0 m0 a w hr;refine h w0 m0 a w ⟨cc,hold,hrr.defers,hrr.size,hrr.below,fun k y hy=>?_,hrr.objs,hrr.inj,hrr.imm,hrr.sep,hrr.was,hrr.frm,hrr.fsep,hrr.fixed⟩;simp only[HSt.den]at hy;rw[az]at hy;dsimp only at hy;split at hy
 · rename_i hk
   subst hk;simp only[bly]at hy;subst hy;exact hx
 exact hrr.tmps k y hy
def be (d:Nat) {id n n' s:Nat} {wr:Bool} {e:TypeId} {f:Nat->Nat->PV} (hd:b6 st.t d=some (.v (.one (.ref id n)))) (ho:b6 st.o id=some (.arr wr s e n' f)) (hn:n'=n) (h:HW (ro:=ro) P nt c ⟨(d,some (br (.sl n s false f)))::st.t,(id,none)::st.o⟩ Q):HW (ro:=ro) P nt c st Q:=by
 subst hn;refine wc ⟨st.t,(id,none)::st.o⟩ d (br (.sl n' s false f)) (fun w0 m0 a w hr=>?_) h;obtain⟨cc,hold,hrr⟩:=hr;refine⟨_, ?_,by rw[a32];exact hrr.freeze ho, ?_⟩
 · exact hold
 obtain⟨_,_,h3⟩:=hrr.tmps d _ hd;have:=(h3 _ _ _ _ ho rfl).2 rfl;rw[this];exact a2w hrr ho
def c8 (d:Nat) {id:Nat} {l:List HV} {ps:List PV} (hd:b6 st.t d=some (.v (.one (.ptr id 0)))) (ho:b6 st.o id=some (.box l)) (hp:lw l=some ps) (h:HW (ro:=ro) P nt c ⟨(d,some (br (.vp ps.length fun j=>ps.getD j .any)))::st.t,(id,none)::st.o⟩ Q):HW (ro:=ro) P nt c st Q:=by
 refine wc ⟨st.t,(id,none)::st.o⟩ d _ (fun w0 m0 a w hr=>?_) h;obtain⟨cc,hold,hrr⟩:=hr;refine⟨_, ?_,by rw[a32];exact hrr.freeze ho, ?_⟩
 · exact hold
 obtain⟨_,_,h3⟩:=hrr.tmps d _ hd;obtain⟨b,hb,hu⟩:=h3 l ho;rw[hu,<- hb];exact aq4 hrr ho hp
def j2(bx off:Nat){id n n' s:Nat}{wr:Bool}{e:TypeId}{f:Nat->Nat->PV}{l:List HV}(hb:b6 st.o bx=some (.box l))(hl:l[off]? = some (.ref id n))(ho:b6 st.o id=some (.arr wr s e n' f))(hn:n'=n)(hne:Nat.beq bx id=false)(h:HW (ro:=ro) P nt c ⟨st.t,(bx,some (.box (bn l off [.p (.sl n s false f)])))::(id,none)::st.o⟩ Q):HW (ro:=ro) P nt c st Q:=fun w0 m0 a w hr=>by
 subst hn;obtain⟨cc,hold,hrr⟩:=hr;have hbi:bx≠id:=by rintro rfl;simp at hne
 have hfr:=hrr.freeze (id:=id) ho;rw[<- a32]at hfr
 have hb':(HSt.den ⟨st.t,(id,none)::st.o⟩).o bx=some (.box l):=by
  simp only[HSt.den,az,hbi,if_false];exact hb
 refine h w0 m0 a w ?_
 have hw:=hfr.write bx (.box l) hb' (.box (bn l off [.p (.sl n' s false f)])) w (cc.own bx) (cc.blk bx) none (Grw.refl w _) (fun _ e=>by cases e) (.inr (.inl ⟨l,bn l off [.p (.sl n' s false f)],hb',by simp[S.setO],by simp⟩)) (fun b hb=>.inl hb) (by
  obtain⟨b,C,ee,q1,q2,q3,q4,q5⟩:=hfr.objs bx _ hb';refine⟨b,C,ee,by simpa using q1,by simpa using q2,q3,q4, ?_⟩;have hoff:off<l.length:=(bnn.1 hl).1;have hcl:=q5.length;refine b7.of_get ?_ fun k x u hx hu=>?_
  · simp only[bn,bm2,bmw,bpj,bod];omega
  have hx':=hx;unfold bn at hx';rw[d4 l [HV.p (.sl n' s false f)] off k bqa]at hx';by_cases hk:k=off
  · subst hk
    simp at hx';subst hx';obtain⟨b0,C0,e0,p1,p2,p3,p4,p5⟩:=hrr.objs bx _ hb
    have hbb:b0=b:=by
     have q2':cc.blk bx=wk b:=q2;have q3':wk b b0:=by rw[<- q2',p2];rfl
     exact q3'
    subst hbb
    have hCC:C0=C:=by
     rw[q4]at p4;simp only[bly,Obj.cells.injEq]at p4;exact p4.1.symm
    subst hCC;obtain⟨u',hu',hr'⟩:=p5.get k _ hl;rw[hu]at hu';simp only[bly]at hu';subst hu';obtain⟨_,_,h3⟩:=hr';have:=(h3 _ _ _ _ ho rfl).2 rfl;rw[this];exact a2w hrr ho
  rw[if_neg bqa]at hx';obtain⟨u',hu',hr'⟩:=q5.get k x hx';rw[hu]at hu';simp only[bly]at hu';subst hu';refine b9.evo ?_ (fun j _=>?_) hr'
  · exact Imm.le.refl (frozenImm cc w id)
  by_cases hj:j=bx
  · subst hj;exact .inr (.inl ⟨l,bn l off [.p (.sl n' s false f)],hb',by simp[S.setO],by simp⟩)
  exact Evo.of_same (by simp[S.setO,hj]) (by simp[hj]))
 have e:HSt.den ⟨st.t,(bx,some (.box (bn l off [.p (.sl n' s false f)])))::(id,none)::st.o⟩=(HSt.den ⟨st.t,(id,none)::st.o⟩).setO bx (some (.box (bn l off [.p (.sl n' s false f)]))):=by
  unfold HSt.den S.setO;simp only[S.mk.injEq,true_and];funext k;simp only[az]
 rw[e];exact⟨_,(by exact hold),hw⟩
end
end
end
section
open Go.RowKit
def um(l:List Nat)(k:Nat):Bool:=l.any (Nat.beq k)
def j6{l:List Nat}{k:Nat}:um l k=true<->k∈l:=by
 unfold um;rw[boh];constructor
 · rintro ⟨x,hx,hb⟩
   rw[bmt hb];exact hx
 exact fun h=>⟨k,h,by simp⟩
def a9g (W:List Nat) (id:Nat):List (Nat×Option aa)->Bool
 | []=>true
 |(e,some x)::r=>(um W e||abz id x.ids)&&a9g W id r
 |(_,none)::r=>a9g W id r
def a4y{W:List Nat}{id:Nat}:∀{l:List (Nat×Option aa)},a9g W id l=true->∀d x,d∉W->b6 l d=some x->¬x.men id
 | [],_,d,x,_,h=>by simp[b6]at h
 | (e,some y)::r,h,d,x,hd,hl=>by
  simp only[a9g,bm8,bnf]at h;rw[az]at hl;dsimp only at hl;split at hl
  · rename_i he
    subst he;simp only[bly]at hl;subst hl
    rcases h.1 with h1|h1
    · exact absurd (j6.1 h1) hd
    exact fun hm=>a3p h1 (aa.men_ids hm)
  exact a4y h.2 d x hd hl
 | (e,none)::r,h,d,x,hd,hl=>by
  rw[az]at hl;dsimp only at hl;split at hl
  · cases hl
  exact a4y (l:=r) (by simpa [a9g]using h) d x hd hl
def isNone(x:Option aa):Bool:=match x with|none=>true|some _=>false
def fcB (o1 o2:List (Nat×aa)) (res:HR) (fx:List Nat) (st:HSt):Bool :=
 ((keys o2).all fun id=>(um fx id&&um (keys o1) id)||(Nat.blt id 1000&&nmT id st.t&&a9g (keys o1++keys o2) id st.o&&(um (keys o1) id||isNone (b6 st.o id)))) &&
 ((a9x o2).all (um (keys o2))&&res.ids.all (um (keys o2)))
def aeh:List (Nat×aa)->ap->Prop
 | [],_=>True
 |(id,ob)::r,o=>(∃ob',o id=some ob'/\CoO ob' ob)/\aeh r o
def ze{o:ap}:∀{l:List (Nat×aa)},aeh l o->∀id ob,lk l id=some ob->∃ob',o id=some ob'/\CoO ob' ob
 | (e,x)::l,h,id,ob,hl=>by
  simp only[lk]at hl;by_cases hk:e=id
  · subst hk
    simp only[Nat.beq_refl,cond_true,bly]at hl;subst hl;exact h.1
  have:Nat.beq e id=false:=by
   rw[bmh];exact fun hb=>hk (bmt hb)
  rw[this]at hl;exact ze h.2 id ob (by simpa using hl)
section
variable {P:Program}{E:Env}{nt:Nat}{ops:Array Oper}{i:Nat}{o:Oper}{st:HSt}{L:List Nat}{K:List Tr->HSt->Prop}
def ak0(o1 o2:List (Nat×aa))(fx:List Nat):List Nat:=(keys o2).filter fun id=>!(um fx id&&um (keys o1) id)
def nj{cl:Call}{f:FuncId}{caps:List HC}{args hcs:List HC}{o1 o2:List (Nat×aa)}{res:HR}{fx:List Nat}{gb:Bool}(hi:ops[i]? = some o)(hw:b5 ops st.den o=some gb)(hd:cj nt o.dst=true)(ho:o.op=.call cl)
 (hc:ul (ev st.den) cl=some (f,caps)) (hv:qu (ev st.den) cl.args.toList=some hcs) (hf:a6 P f) (hfun:dg P f args o1 res o2 fx) (hco:tw (hcs++caps) args) (hsub:aeh o1 st.den.o) (hB:fcB o1 o2 res fx st=true) (hg:gb=true)
 (hT:Reg P E nt ops L (st.after o.dst (some res) (ww o1 o2)) fun T sf=>K (⟨i,⟨0,false,true, .tup [],keys o1++keys o2,ak0 o1 o2 fx,res.ids++a9x o2⟩,looks st.den o,cb st.den o.dst (ww o1 o2),none⟩::T) sf):Reg P E nt ops (i::L) st K:=by
 obtain⟨T,sf,h1,h2,h3⟩:=hT;simp only[fcB,bm8,bms]at hB;obtain⟨b1,b2,b3⟩:=hB
 have key:∀id∈keys o2,id∉fx\/id∉keys o1->id<1000/\nmT id st.t=true/\a9g (keys o1++keys o2) id st.o=true/\(id∈keys o1\/b6 st.o id=none):=by
  intro id hid hor;have:=b1 id hid;simp only[bnf,bm8]at this
  rcases this with⟨q1,q2⟩|⟨⟨⟨q1,q2⟩,q3⟩,q4⟩
  · rcases hor with e|e
    · exact absurd (j6.1 q1) e
    exact absurd (j6.1 q2) e
  refine⟨by simpa [bob]using q1,q2,q3, ?_⟩
  rcases q4 with q4|q4
  · exact .inl (j6.1 q4)
  refine .inr ?_
  cases hl:b6 st.o id with
  |none=>rfl
  |some x=>rw[hl]at q4;cases q4
 refine⟨_,sf,by rw[<- h1];rfl, .cons hi (.fcall cl f caps args hcs o1 o2 res fx (by rw[hw,hg]) hd ho hc hf hv hco hfun (ze hsub) (fun id h2 h1=>?_) (fun id h2 h1=>?_) (fun id ob hid k hk=>?_) (fun k hk=>?_) rfl (fun id h2 h1=>?_) rfl) rfl (fun _ hk=>hk) (by intro _ hf;cases hf) (by rw[lx]at h2;exact h2),h3⟩
 · rcases(key id h2 (.inr h1)).2.2.2 with e|e
   · exact absurd e h1
   exact e
 · obtain ⟨q1,q2,q3,_⟩:=key id h2 h1
   exact⟨yc q2,fun d x hd hx=>a4y q3 d x hd hx,q1⟩
 · have hmem:∀{l:List (Nat×aa)},lk l id=some ob->(id,ob)∈l:=by
    intro l
    induction l with
    |nil=>intro h;cases h
    | cons p l ih =>
     obtain⟨e,x⟩:=p;intro h;simp only[lk]at h
     cases hb:Nat.beq e id with
     | true =>
      rw[hb]at h;simp only[cond_true,bly]at h;rw[<- bmt hb,h];exact bmp
     | false =>
      rw[hb]at h;exact bmr _ (ih (by simpa using h))
   exact j6.1 (b2 k (a2u (hmem hid) (aa.men_ids hk)))
 · exact j6.1 (b3 k (HR.men_ids hk))
 refine bnl.2 ⟨h2, ?_⟩;simp only[bn8,bp7]
 rcases h1 with e|e
 · exact .inl (by rw[bmh];exact fun hb=>e (j6.1 hb))
 exact .inr (by rw[bmh];exact fun hb=>e (j6.1 hb))
end
def zx:Nat->List HC->List (Nat×Option HR)
 |_,[]=>[]
 |i,x::r=>(i,some (.v x))::zx (i+1) r
def ab4:∀(l:List HC) (i d:Nat) (r:HR),b6 (zx i l) d=some r->∃x,i<=d/\l[d-i]? = some x/\r=.v x
 | [],i,d,r,h=>by simp[zx,b6]at h
 | x :: l,i,d,r,h=>by
  simp only[zx]at h;rw[az]at h;dsimp only at h;split at h
  · rename_i hd
    subst hd;simp only[bly]at h;exact⟨x,bm1 _,by simp,h.symm⟩
  rename_i hd;obtain⟨y,h1,h2,h3⟩:=ab4 l (i+1) d r h;refine⟨y,by omega, ?_,h3⟩;rw[show d-i=(d-(i+1))+1 by omega];simpa using h2
def kf(l:List (Nat×aa)):List (Nat×Option aa):=l.map fun p=>(p.1,some p.2)
def xe:∀(l:List (Nat×aa)),b6 (kf l)=lk l
 | []=>rfl
 | (e,x)::r=>by
  funext k;have:=congrFun (xe r) k;unfold kf at this ⊢;simp only[bnr,b6,lk];rw[this]
def aq7:List HC->HR
 | [x]=>.v x
 |l=>.tup l
def b7e (E:Env) (st:HSt) (rs:List ResultVar) (res:HR) (o2:List (Nat×aa)):Prop :=
 ∃p l,yh E st.den rs=some (p,l)/\p/\CoR (aq7 l) res/\aeh o2 st.den.o
section
variable {P:Program}{E:Env}{nt:Nat}
def b6b(hE:ck P E){f:FuncId}{fn:Func}{body:Code}{args:List HC}{o1 o2:List (Nat×aa)}{res:HR}{fx:List Nat}(hf:P.funcs[f]? = some fn)(hb:fn.body=some body)(hn:fn.ntmps=nt)(hl:args.length<=nt)
 (hfx:fx.all (Nat.ble 1000)=true) (h:HW (ro:=none) P nt body ⟨zx 0 args,kf o1⟩ fun e st=>(e=.normal\/e=.ret)/\b7e E st fn.results.toList res o2):dg P f args o1 res o2 fx:=by
 classical
 intro w c us hm hargs;refine(callsIn_wide (n:=0)).1 (callsIn_of_wp_marks hf hb trivial ?_ rfl)
 have hul:us.length=args.length:=by
  have:∀{xs:List HC} {us:List Value},bu c (lk o1) xs us->us.length=xs.length:=by
   intro xs
   induction xs with
   |nil=>intro us hh;cases us with|nil=>rfl|cons=>exact hh.elim
   |cons x xs ih=>intro us hh;cases us with|nil=>exact hh.elim|cons u us=>simp[ih hh.2]
  exact this hargs
 let a0:Act:={ tmps:=us.toArray++Array.replicate (fn.ntmps-us.toArray.size) undef,defers:=[] }
 let frm:Imm:=fun b=>if(∃id ob,lk o1 id=some ob/\c.blk id b)then none else w.heap[b]?
 let old:Old:=(c.imm,frm,c.own,lk o1,c.rows)
 have hden:(HSt.den ⟨zx 0 args,kf o1⟩).o=lk o1:=xe o1
 have hrel:Rel w old nt (HSt.den ⟨zx 0 args,kf o1⟩) a0 w:=by
  refine⟨{ old:=old,imm:=c.imm,tab:=c.tab,own:=c.own,blk:=c.blk,rows:=c.rows },rfl,py.nil _ _ _ _, ?_,Below.refl _ _,fun d x hx=>?_,fun id ob ho=>?_,fun i i' ob ob' b ho ho'=>?_,hm.imm,fun id ob b ho=>?_,fun b _=>rfl,fun b ob hbo=>?_,fun id ob b ho hbb=>?_,fun id _=>?_⟩
  · simp only[a0,bov,Array.size_replicate,bnk,hn];omega
  · obtain ⟨y,_,hy,rfl⟩:=ab4 args 0 d x hx
    simp only[Nat.sub_zero]at hy;obtain⟨u,hu,hr⟩:=hargs.get d y hy;have hd:d<us.length:=(bnn.1 hu).1
    have:a0.tmps.getD d undef=u:=by
     have e1:a0.tmps[d]? = some u:=by
      simp only[a0];rw[Array.getElem?_append_left (by simpa using hd)];simpa using hu
     rw[Array.getD_eq_getD_getElem?,e1];rfl
    rw[this,hden];exact ey.evo (c:=c) (o:=lk o1) (Imm.le.refl c.imm) (fun _ _=>Evo.of_same rfl rfl) hr
  · rw [hden]at ho ⊢
    exact(hm.objs id ob ho).keep (Imm.le.refl c.imm) rfl rfl (fun _ _=>Evo.of_same rfl rfl) fun _ _=>rfl
  · rw [hden]at ho ho'
    exact hm.inj i i' ob ob' b ho ho'
  · rw [hden]at ho
    exact hm.sep id ob b ho
  · have hbo:frm b=some ob:=hbo
    simp only[frm]at hbo;split at hbo
    · cases hbo
    exact hbo
  · rw [hden]at ho
    show frm b=none;simp only[frm];rw[if_pos ⟨id,ob,ho,hbb⟩]
  rw[hden];exact Evo.of_same rfl rfl
 refine wpIn_mono (h w old a0 w hrel) fun e a' w1 ⟨st',⟨hex,hres⟩,hr1⟩=>?_
 suffices key:LeavesInM (rf none) 0 P fn a'.tmps _ a'.defers .returning w1 by
  rcases hex with rfl|rfl<;>exact key
 refine Rel.strike rfl hr1 fun w' hr'=>?_;obtain⟨c',hold,hrc⟩:=hr';obtain⟨p,l,h1,h2,h3,h4⟩:=hres;have hsub:=ze h4;have hrc2:=hrc.relax ⟨fun _=>none,lk o2⟩ (fun d x hx=>by cases hx) hsub
 have hnf:∀b,b<w.heap.size->(∀id ob,lk o1 id=some ob->¬c.blk id b)->c'.frm b=some w.heap[b]!/\w.heap[b]? = some w.heap[b]!:=fun b hb hno=>by
  have e2:w.heap[b]? = some w.heap[b]!:=by simp[hb]
  refine⟨?_,e2⟩;show c'.old.2.1 b=_;rw[hold];show frm b=_;simp only[frm];rw[if_neg (fun⟨id,ob,q1,q2⟩=>hno id ob q1 q2)];exact e2
 have hrv:∃v,(results fn a'.tmps).run P w'=.ok v w'/\ak c' (lk o2) res v:=by
  let F:ResultVar->Sem Value:=fun | .tmp t=>pure (a'.tmps.getD t undef) | .cell ad t=>do loadVar t (<- asAddr (a'.tmps.getD ad undef))
  obtain⟨uvs,hrun,hrep⟩:=x4 hE hrc F (fun _=>rfl) (fun _ _=>rfl) h1 h2;have hF:results fn a'.tmps=(do let vs <- fn.results.mapM F;pure (if h:vs.size=1 then vs[0]else .tuple vs)):=rfl;rw[hF,Array.mapM_eq_mapM_toList,bmz,Sem.run_map];have hview:bu c' (lk o2) l uvs:=bu.evo (Imm.le.refl c'.imm) (fun k _=>a62 hsub k) hrep;rw[hrun];simp only[bmf,bnh];refine⟨_,rfl,ak.co h3 ?_⟩
  match l,uvs,hview with
  | [x],[u],hv=>simp only[aq7,ak];simpa using hv.1
  | [],[],hv=>exact⟨[],by simp,trivial⟩
  |x::y::r,u::v::t,hv=>exact⟨u::v::t,by simp,hv⟩
  | [],_::_,hv=>exact hv.elim
  | [_],[],hv=>exact hv.elim
  | [_],_::_::_,hv=>exact hv.2.elim
  |_::_::_,[],hv=>exact hv.elim
  |_::_::_,[_],hv=>exact hv.2.elim
 obtain⟨v,hv1,hv2⟩:=hrv
 have hfin:(∃v_1 c'_1,Ending.returned v=Ending.returned v_1/\ak c'_1 (lk o2) res v_1/\Mem c'_1 (lk o2) w'/\Below 0 w w' /\
  (∀b,b<w.heap.size->(∀id ob,lk o1 id=some ob->¬c.blk id b)->w'.heap[b]? = w.heap[b]?/\c'_1.imm b=c.imm b) /\
  (∀id ob b,lk o2 id=some ob->c'_1.blk id b->w.heap.size<=b\/∃id0 ob0,lk o1 id0=some ob0/\c.blk id0 b) /\
  (∀id∈fx,Evo c (lk o1) c'_1 (lk o2) id)):=by
  refine⟨v,c',rfl,hv2,⟨hrc2.objs,hrc2.inj,hrc2.imm,hrc2.sep⟩,hrc.below,fun b hb hno=>?_,fun id ob b ho hbb=>?_,fun id hid=>?_⟩
  · obtain ⟨e1,e2⟩:=hnf b hb hno
    refine⟨by rw[hrc.frm b _ e1,e2], ?_⟩;rw[hrc.was b (by rw[e1];simp),hold]
  · have e:=hrc2.fsep id ob b ho hbb
    by_cases hfoot:∃id0 ob0,lk o1 id0=some ob0/\c.blk id0 b
    · exact .inr hfoot
    refine .inl ?_
    have e':frm b=none:=by
     have:c'.old.2.1 b=none:=e;rw[hold]at this;exact this
    simp only[frm]at e';rw[if_neg hfoot]at e';exact bpt fun hlt=>by simp[hlt]at e'
  have e:=hrc2.fixed id (bm0 (bms.1 hfx id hid));unfold Evo Ctx.start at e;unfold Evo;rw[hold]at e;exact e
 exact⟨v,hv1,hfin⟩
end
end
end Go.Hx
