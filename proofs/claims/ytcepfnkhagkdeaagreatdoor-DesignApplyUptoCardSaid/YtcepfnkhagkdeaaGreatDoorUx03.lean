/- A part of the proof: Hx9 Hx9b Hx9c. -/
import Derived.Test.YtcepfnkhagkdeaaGreatDoorUx02
set_option linter.all false
namespace Go.Hx
section
open Go.RowKit
section
variable {P:Program}{E:Xc}{w0:World}{nt:Nat}{c:Pc}{s:S}{a:Act}{w:World}
def ek(n:Nat)(f g:Nat->Nat->PV):Nat->Nat->PV:=λi j=>if i<n then f i j else g (i-n) j
def ze (o:av) (id:Nat):HV->Option (Prop×Nat×Nat×(Nat->Nat->PV))
 | .p (.sl m sz _ g)=>some (True,m,sz,g)
 | .p (.raw (.slice _ 0 _))=>some (True,0,1,λ_ _=>.any)
 | .ref id' m =>
  match Nat.beq id id',o id' with
  |false,some (.arr _ sz _ m' g)=>some (m'=m,m,sz,g)
  |_,_=>none
 |_=>none
def th(E:Xc)(o:av)(id:Nat)(n:Nat)(wb:Bool)(el:TypeId)(y:HV):Option Bj :=
 match E el,o id,ze o id y with
 | some ei,some (.arr wr sz el' n' f),some (p,m,sz',g) =>
  match ei.zero with
  | some z =>
   match decide (z.length=ei.size) with
   |true=>some ⟨p/\n'=n/\el'=el/\ei.size=sz/\(sz'=sz\/m=0)/\n+m<=9223372036854775807/\(n+m)*ei.bytes<=140737488355328/\(wb=true->wr=true\/0<m),id, .arr wb sz el (n+m) (ek n f g)⟩
   |false=>none
  |none=>none
 |_,_,_=>none
def ru(n:Nat)(f g:Nat->Nat->HV):Nat->Nat->HV:=λi j=>if i<n then f i j else g (i-n) j
def Xq(o:av)(id:Nat)(y:HV):Option (Prop×Nat×Nat×List Nat×(Nat->Nat->HV)) :=
 match ze o id y with
 |some (p,m,sz,g)=>some (p,m,sz,[],λi j=>.p (g i j))
 | none =>
  match y with
  | .ref id' m =>
   match Nat.beq id id',o id' with
   |false,some (.arrh sz _ m' ms g)=>some (m'=m,m,sz,ms,g)
   |_,_=>none
  |_=>none
def Zt(E:Xc)(o:av)(id:Nat)(n:Nat)(el:TypeId)(y:HV):Option Bj :=
 match E el,o id,Xq o id y with
 | some ei,some (.arrh sz el' n' ms f),some (p,m,sz',ms',g) =>
  match ei.zero with
  | some z =>
   match decide (z.length=ei.size) with
   |true=>some ⟨p/\n'=n/\el'=el/\ei.size=sz/\(sz'=sz\/m=0)/\n+m<=9223372036854775807/\(n+m)*ei.bytes<=140737488355328,id, .arrh sz el (n+m) (ms'++ms) (ru n f g)⟩
   |false=>none
  |none=>none
 |_,_,_=>none
def Ft(E:Xc)(o:av)(id:Nat)(n:Nat)(el:TypeId)(y:HV):Option Bj :=
 match E el,o id,Xq o id y with
 | some ei,some (.nest e et es n' m g none),some (p,1,sz',ms',gg) =>
  match gg 0 0 with
  | .ref id' k =>
   match ei.zero with
   | some z =>
    match decide (z.length=ei.size) with
    |true=>some ⟨p/\n'=n/\e=el/\ei.size=1/\sz'=1/\n+1<=9223372036854775807/\(n+1)*ei.bytes<=140737488355328,id, .nest e et es n' m g (some (id',k))⟩
    |false=>none
   |none=>none
  |_=>none
 |_,_,_=>none
structure Bl where
 pre:Prop
 val:HR
 id:Nat
 ob:a8
 new:Bool
def Ru(f:Nat->Nat->PV)(p j m:Nat):Nat->Nat->PV:=λa b=>if p<=a/\a<p+m then f (a-p+j) b else f a b
def tl(f:Nat->Nat->PV)(i m:Nat)(z:List Value):Nat->Nat->PV:=λa b=>if i<=a/\a<i+m then io (z.getD b (.bool false))else f a b
def Ut (E:Xc) (o:av) (el:TypeId) (id n i k:Nat):HV->Option Bl
 | .win id2 n2 j m =>
  match Nat.beq id2 id,E el,o id with
  |true,some ei,some (.arr true sz el' n' f)=>some ⟨n'=n/\n2=n/\ei.size=sz/\i+k+m<=n, .v (.one (.win id n i (k+m))),id, .arr true sz el' n' (Ru f (i+k) j m),false⟩
  |_,_,_=>none
 |_=>none
def Xv (o:av) (z:List Value) (size:Nat):HV->Option Bl
 | .win id n i m =>
  match o id with
  |some (.arr true sz el n' f)=>some ⟨n'=n/\size=sz, .tup [],id, .arr true sz el n' (tl f i m z),false⟩
  |_=>none
 |_=>none
def IB(E:Xc)(o:av)(e:Ev):List Operand->List TypeId->Option Bl
 | [x],[t] =>
  match E t with
  | some ti =>
   match ti.k with
   | .slice el =>
    match E el with
    | some ei =>
     match ei.zero with
     | some z =>
      match re z,decide (z.length=ei.size) with
      | true,true =>
       match e x with
       |some (.v (.one h))=>Xv o z ei.size h
       |_=>none
      |_,_=>none
     |none=>none
    |none=>none
   |_=>none
  |none=>none
 |_,_=>none
def yz(E:Xc)(o:av)(id:Nat)(wb:Bool)(el:TypeId)(hy:HV):HV->Option Bl
 | .win id1 n i k=>Ut E o el id1 n i k hy
 | .pin id1 n ad cap =>
  match th E o id1 n wb el hy with
  | some u =>
   match u.ob with
   | .arr _ _ _ k _=>some ⟨u.pre/\k<=cap, .v (.one (.pin id1 k ad cap)),id1,u.ob,false⟩
   |_=>none
  |none=>none
 | .ref id1 n =>
  match th E o id1 n wb el hy with
  | some u =>
   match u.ob with
   | .arr _ _ _ k _=>some ⟨u.pre, .v (.one (.ref id1 k)),id1,u.ob,false⟩
   |_=>none
  | none =>
   match Zt E o id1 n el hy with
   | some u =>
    match u.ob with
    | .arrh _ _ k _ _=>some ⟨u.pre, .v (.one (.ref id1 k)),id1,u.ob,false⟩
    |_=>none
   | none =>
    match Ft E o id1 n el hy with
    |some u=>some ⟨u.pre, .v (.one (.ref id1 (n+1))),id1,u.ob,false⟩
    |none=>none
 | .p (.sl n sz true f) =>
  match E el with
  | some ei =>
   match th E (λk=>if k=id then some (.arr false ei.size el n f)else o k) id n wb el hy with
   | some u =>
    match u.ob with
    | .arr _ _ _ k _=>some ⟨u.pre/\(n=0\/sz=ei.size)/\0<ei.size/\n<=9223372036854775807, .v (.one (.ref id k)),id,u.ob,true⟩
    |_=>none
   |none=>none
  |none=>none
 |_=>none
def Ww(E:Xc)(o:av)(id:Nat)(wb:Bool)(t:TypeId)(x y:Option HR):Option Bl :=
 match E t with
 | some i =>
  match i.k with
  | .slice el =>
   match x with
   | some (.v (.one hx)) =>
    match y with
    |some (.v (.one hy))=>yz E o id wb el hy hx
    |_=>none
   |_=>none
  |_=>none
 |none=>none
def nE (E:Xc) (o:av) (e:Ev) (id:Nat) (wb:Bool):List Operand->List TypeId->Option Bl
 | [x,y],[t,t']=>match Nat.beq t t' with|true=>Ww E o id wb t (e x) (e y)|false=>none
 |_,_=>none
def Ei (E:Xc) (o:av) (e:Ev) (id:Nat) (wb:Bool):Op->Option Bl
 | .call c =>
  match c.callee with
  | .builtin .append=>nE E o e id wb c.args.toList c.argTypes.toList
  | .builtin .clear=>IB E o e c.args.toList c.argTypes.toList
  |_=>none
 |_=>none
def qi (w:World) (t ty e:TypeId) (i:TypeInfo) (ht:P.underlying t=some (.slice e)) (hi:P.info? e=some i) (ad A:Option Addr) (n cap c:Nat) (h:n<=cap) :
 (Builtin.append_ #[t,t] ty #[.slice ad n cap, .slice A 0 c]).run P w=.ok (.slice ad n cap) w:=by
 have hf:(Builtin.firstCells i.size 0 (.slice A 0 c)).run P w=.ok #[] w:=by
  cases A with
  |none=>simp[Builtin.firstCells]
  |some b=>simp[Builtin.firstCells,loadCells,loadCellsFrom]
 cases ad<;>simp[Builtin.append_,run_underlying ht,sizeOf,typeInfo,hi,Builtin.lenOf,h,hf,storeCells]
section
variable {n sz:Nat}
theorem lJ {i j:Nat} (hi:i<n) (hj:j<sz):i*sz+j<n*sz:=by
 have:(i+1)*sz<=n*sz:=Ve _ Za
 grind
variable {g:Nat->Nat->PV}{m:Nat}
theorem ZW {F:Nat->Option Value} (hsz:0<sz) (hF:∀i j,i<m->j<sz->∃x,F (i*sz+j)=some x/\aq c.imm (g i j) x):
 ∃news:List Value,news.length=m*sz/\(∀(k:Nat) u,news[k]? = some u->F k=some u)/\(∀i j,i<m->j<sz->∃x,news[i*sz+j]? = some x/\aq c.imm (g i j) x)/\∀u∈news,u.oneCell'=true:=by
 have hk:∀k,k<m*sz->∃x,F k=some x/\aq c.imm (g (k/sz) (k%sz)) x:=λk hk=>by
  have:=hF (k/sz) (k%sz) (by rw[oC hsz];exact hk) (Gm _ hsz);rwa [Nat.div_add_mod']at this
 refine⟨(List.range (m*sz)).map λk=>(F k).getD undef,by simp,λk u hu=>?_,λi j hi hj=>?_,λu hu=>?_⟩
 .grind
 .obtain ⟨x,hx,hr⟩:=hF i j hi hj
  refine⟨x, ?_,hr⟩;rw[Pe,Hi (lJ hi hj)];simp[hx]
 obtain⟨k,hkm,rfl⟩:=Ad.1 hu;obtain⟨x,hx,hr⟩:=hk k (Fe.1 hkm);simp only[hx,Xh];exact aq.oneCell hr
variable {f:Nat->Nat->PV}
theorem UT (h:ah w0 nt c s a w) {cap:Nat} {cl:Bool} {ad:Option Addr} (hsz:0<sz) (hr:aq c.imm (.sl n sz cl f) (.slice ad n cap)):
 ∃ news:List Value,news.length=n*sz/\(∀u∈news,u.oneCell'=true)/\(∀i j,i<n->j<sz->∃x,news[i*sz+j]? = some x/\aq c.imm (f i j) x) /\
  ((n=0/\news=[])\/∃b,ad=some b/\∀(k:Nat) u,news[k]? = some u->w.cell? (b.add k)=some u):=by
 obtain⟨ad',cap',e,_,_,_,hc⟩:=hr;simp only[Ka,true_and]at e;obtain⟨rfl,rfl⟩:=e
 rcases Mj n with h0|h0
 .simp_all
 obtain⟨b,off,rfl,hcell⟩:=hc h0
 obtain ⟨news,h1,h2,h3,h4⟩:=ZW (c:=c) (F:=λk=>w.cell? ((⟨b,off,none⟩:Addr).add k)) hsz (λi j hi hj=>by
  obtain⟨x,hx,hr⟩:=hcell i j hi hj
  exact⟨x,by rw[add_lit];exact xi h hx,hr⟩)
 grind
variable {id:Nat}
def vK(h:ah w0 nt c s a w){wr:Bool}{e:TypeId}(ho:s.o id=some (.arr wr sz e n f)):
 ∃ ad cap,c.own id=.slice ad n cap/\n<=cap/\∃news:List Value,news.length=n*sz/\(∀u∈news,u.oneCell'=true)/\(∀i j,i<n->j<sz->∃x,news[i*sz+j]? = some x/\aq c.imm (f i j) x) /\
  ((n=0/\news=[])\/∃b,ad=some b/\∀(k:Nat) u,news[k]? = some u->w.cell? (b.add k)=some u):=by
 obtain⟨h0,h1,h5⟩:=h.objs id _ ho
 rcases h5 with⟨h6,xs,h2,h4⟩|⟨h6,h7,h8⟩
 .rcases h2.2 with⟨hv,hz⟩|⟨g,cap,cur,hv,_,hheap,hcap,_,hcs,htake⟩
  .simp_all
  refine⟨_,cap,hv,hcap,xs,h2.1,λu hu=>?_,h4, .inr ⟨_,rfl,h2.cells (g:=g) (by rw[hv];rfl)⟩⟩;obtain⟨k,hk,hku⟩:=Fg hu;have hk':k<n*sz:=by rw[<- h2.1];exact hk
  obtain⟨x,hx,hr⟩:=h4 (k/sz) (k%sz) (by rw[oC h0];exact hk') (Gm _ h0);rw[Nat.div_add_mod',Hc hk]at hx;simp only[Bb]at hx;rw[<- hku,hx];exact aq.oneCell hr
 have h8':=h8;obtain⟨ad,cap,hv,hc1,_⟩:=h8;rw[hv]at h8';obtain⟨news,g1,g2,g3,g4⟩:=UT h h0 h8';exact⟨ad,cap,hv,hc1,news,g1,g2,g3,g4⟩
variable {u:Value}{y:HV}
theorem AL (h:ah w0 nt c s a w) (hu:bc c s.o y u) {p:Prop} (hs:ze s.o id y=some (p,m,sz,g)) (hp:p) (hsz:0<sz):
 ∃ ad cap,u=.slice ad m cap/\∃news:List Value,news.length=m*sz/\(∀u∈news,u.oneCell'=true)/\(∀i j,i<m->j<sz->∃x,news[i*sz+j]? = some x/\aq c.imm (g i j) x) /\
  ((m=0/\news=[])\/∃b,ad=some b/\∀(k:Nat) u,news[k]? = some u->w.cell? (b.add k)=some u):=by
 unfold ze at hs;split at hs
 .rename_i m' sz' cl g'
  simp only[Bb,Tc]at hs;obtain⟨_,rfl,rfl,rfl⟩:=hs;have hu':aq c.imm (.sl m' sz' cl g') u:=hu;obtain⟨ad,cap,hv,_⟩:=hu;rw[hv]at hu';obtain⟨news,g1,g2,g3,g4⟩:=UT h hsz hu'
  grind
 .rename_i ad cap
  simp only[Bb,Tc]at hs;obtain⟨_,rfl,rfl,rfl⟩:=hs;obtain⟨rfl,_⟩:=hu;simp_all
 .rename_i id' m'
  split at hs<;>try(cases hs;done)
  rename_i wr sz' el m2 g' hid ho;simp only[Bb,Tc]at hs;obtain⟨rfl,rfl,rfl,rfl⟩:=hs;obtain rfl:m2=m':=hp;obtain⟨_,_,h3⟩:=hu;obtain⟨ad,cap,hv,hc,news,g1,g2,g3,g4⟩:=vK h ho;have:=(h3 _ _ _ _ ho rfl).2 rfl
  grind
 cases hs
theorem zK (h:ah w0 nt c s a w) (hu:bc c s.o y u) {p:Prop} (hs:ze s.o id y=some (p,m,sz,g)) (hp:p):∃ad cap,u=.slice ad m cap:=by
 unfold ze at hs;split at hs
 .simp only [Bb,Tc]at hs
  obtain⟨_,rfl,rfl,rfl⟩:=hs;obtain⟨ad,cap,hv,_⟩:=hu
  grind
 .rename_i ad cap
  simp only[Bb,Tc]at hs;obtain⟨_,rfl,rfl,rfl⟩:=hs;obtain⟨rfl,_⟩:=hu
  grind
 .split at hs<;>try(cases hs;done)
  rename_i wr sz' el m2 g' hid ho;simp only[Bb,Tc]at hs;obtain⟨rfl,rfl,rfl,rfl⟩:=hs;obtain rfl:m2=_:=hp;obtain⟨_,_,h3⟩:=hu;obtain⟨ad,cap,hv,hc,_⟩:=vK h ho;exact⟨ad,cap,((h3 _ _ _ _ ho rfl).2 rfl).trans hv⟩
 cases hs
theorem kT {xs news:List Value} (hxl:xs.length=n*sz) (hx:∀i j,i<n->j<sz->∃x,xs[i*sz+j]? = some x/\aq c.imm (f i j) x) (hg:∀i j,i<m->j<sz->∃x,news[i*sz+j]? = some x/\aq c.imm (g i j) x):∀i j,i<n+m->j<sz->∃x,(xs++news)[i*sz+j]? = some x/\aq c.imm (ek n f g i j) x:=by
 intro i j hi hj;unfold ek;by_cases h:i<n
 .grind
 have hle:n*sz<=i*sz:=Ve _ Za;rw[Ca h,Jk (by rw[hxl];omega),hxl];have e:i*sz+j-n*sz=(i-n)*sz+j:=by rw[Nat.sub_mul];omega
 rw[e];exact hg (i-n) j Za hj
variable {el t ty:TypeId}{vy:Value}
theorem IL (hE:dl P E) (h:ah w0 nt c s a w) {wb:Bool} {u:Bj} (hy:bc c s.o y vy) (ht:P.underlying t=some (.slice el)) (hq':th E s.o id n wb el y=some u) (hp:u.pre):
 ∃v w' c' k sz f',(Builtin.append_ #[t,t] ty #[c.own id,vy]).run P w=.ok v w'/\u.id=id/\u.ob=.arr wb sz el k f'/\(c'.old=c.old/\ah w0 nt c' (s.setO u.id (some u.ob)) a w')/\ap c' (s.setO u.id (some u.ob)).o (.v (.one (.ref id k))) v:=by
 unfold th at hq';split at hq'<;>try(cases hq';done)
 rename_i ei wr sz el' n' f p m sz' g hei hob hsrc;split at hq'<;>try(cases hq';done)
 rename_i z hz;split at hq'<;>try(cases hq';done)
 rename_i hzl;have hzl:=Ga hzl;simp only[Bb]at hq';subst hq';obtain⟨p1,rfl,rfl,hsz,hsz',hmax,hbytes,hwb⟩:=hp;obtain⟨ie,de,e1,e2,e3,e4,e5,e6,_⟩:=az (hE el' ei hei);rw[hz]at e6;have h0:=(h.objs id _ hob).1
 cases hiz:ie.zero with
 |none=>rw[hiz]at e6;cases e6
 | some zv =>
  rw[hiz]at e6;simp only[Vf,Bb]at e6;have hzs:zv.cells.size=sz:=by rw[<- Zh,<- e6,hzl,hsz]
  obtain⟨ad,cap,hown,hcap,xs,hxl,hx1,Be,hxc⟩:=vK h hob;have hmaxn:n'+m<=maxLen:=by simp only[maxLen];omega
  have fin:∀(v:Value) (w':World) (bk:Nat->Prop) (row:Option Nat),Wf w w' row->(∀b,row=some b->c.blk id b)->(m=0->v=c.own id)->(∀b,bk b->c.blk id b\/w.heap.size<=b)->(∃ad' cap',v=.slice ad' (n'+m) cap') ->
   eq 0 { old:=c.old,imm:=c.imm,tab:=c.tab,own:=λk=>if k=id then v else c.own k,blk:=λk=>if k=id then bk else c.blk k,rows:=c.rows } (s.setO id (some (.arr wb sz el' (n'+m) (ek n' f g)))).o w' id (.arr wb sz el' (n'+m) (ek n' f g)) ->
   ∃c',(c'.old=c.old/\ah w0 nt c' (s.setO id (some (.arr wb sz el' (n'+m) (ek n' f g)))) a w')/\ap c' (s.setO id (some (.arr wb sz el' (n'+m) (ek n' f g)))).o (.v (.one (.ref id (n'+m)))) v:=by
   intro v w' bk row hg hrow hm hbk hv hok;refine⟨_,⟨(by rfl),h.write id _ hob _ w' v bk row hg hrow (.inr (.inr ⟨_, .arr wb sz el' (n'+m) (ek n' f g),sz,el',n',n'+m,hob,rfl,by simp[S.setO],rfl,by omega,λe=>by simp[hm Za],λ_ _ _ _ _ _ _ hb=>by cases hb⟩)) hbk hok⟩, ?_,λl=>by simp[S.setO],λob2 s2 e2 n2 ho2 hd2=>?_⟩
   .obtain⟨_,_,rfl⟩:=hv;rfl
   simp only[S.setO,Ma,Bb]at ho2;subst ho2;simp only[a8.dim,Bb,Tc]at hd2
   grind
  rcases Mj m with hm0|hm0
  .subst hm0
   obtain⟨A,cA,rfl⟩:=zK h hy hsrc p1;have hrun:=qi (P:=P) w t ty el' ie ht e1 ad A n' cap cA hcap;rw[<- hown]at hrun
   obtain ⟨c',hc',hv'⟩:=fin (c.own id) w (c.blk id) none (Wf.refl w _) (λ_ e=>by cases e) (λ_=>rfl) (λb hb=>.inl hb) ⟨ad,cap,hown⟩ (by
    obtain⟨g0,g1,g5⟩:=h.objs id _ hob;refine⟨g0,g1, ?_⟩;have happ:∀i j,i<n'->ek n' f g i j=f i j:=λi j hi=>by simp[ek,hi]
    rcases g5 with⟨g6,ys,g2,g4⟩|⟨g6,g7,ad2,cap2,g8,g9,g10,g11,g12⟩
    .grind
    refine .inr ⟨?_,by simpa using g7,ad2,cap2,by simpa using g8,g9,g10,g11,λhn=>?_⟩
    .grind
    obtain⟨b,off,hbo,hcell⟩:=g12 hn
    exact ⟨b,off,hbo,λi j hi hj=>by
     have hi':i<n':=hi;rw[happ i j hi']
     exact hcell i j hi' hj⟩)
   grind
  have hsz'':sz'=sz:=by omega
  subst hsz'';obtain⟨A,cA,rfl,news,hnl,hn1,hnr,hnc⟩:=AL h hy hsrc p1 h0
  obtain ⟨b,rfl,hncell⟩:∃b,A=some b/\∀(k:Nat) u,news[k]? = some u->w.cell? (b.add k)=some u:=by
   grind
  have hxx:=kT hxl Be hnr
  have owned:∀base:Nat,base<=w.heap.size->0<=base->∀(v0:Value) (xs:List Value),v0=c.own id->w.ownsRow base el' sz' v0 n' xs->(∀i j,i<n'->j<sz'->∃x,xs[i*sz'+j]? = some x/\aq c.imm (f i j) x)->c.blk id=fq v0 ->
   ∃ v w' c' k sz f',(Builtin.append_ #[t,t] ty #[c.own id, .slice (some b) m cA]).run P w=.ok v w'/\id=id/\a8.arr wb sz' el' (n'+m) (ek n' f g)=.arr wb sz el' k f' /\
    (c'.old=c.old/\ah w0 nt c' (s.setO id (some (.arr wb sz' el' (n'+m) (ek n' f g)))) a w')/\ap c' (s.setO id (some (.arr wb sz' el' (n'+m) (ek n' f g)))).o (.v (.one (.ref id k))) v:=by
   intro base hbase hb0 v0 xs hv0 hrow Be hblk;obtain⟨v',w',hrun,hown',hgrow0,_,hat⟩:=run_append_own_at (P:=P) w base t ty el' ie zv sz' ie.bytes ht e1 hiz (by rw[<- e4];exact hsz) rfl hzs h0 v0 n' xs hrow b m cA news hnl hncell hn1 hmaxn (by rw[<- e5];exact hbytes) hbase;have hgrow:=Wf.mk hgrow0 (xz _ hrun);rw[hv0]at hrun
   have hob':∀v:Value,(∃ad k cap,v=.slice ad k cap)->v.ownBlock=d5 v:=by
    rintro v ⟨ad,k,cap,rfl⟩;cases ad<;>rfl
   have hform:∃ad' cap',v'=.slice ad' (n'+m) cap':=by
    rcases hown'.2 with⟨hv,hz⟩|⟨g,cap,cur,hv,_⟩
    .omega
    grind
   have e0:v0.ownBlock=d5 v0:=hob' v0 ⟨ad,n',cap,by rw[hv0,hown]⟩;have e1':v'.ownBlock=d5 v':=hob' v' ⟨_,_,_,hform.choose_spec.choose_spec⟩
   obtain ⟨c',hc',hv'⟩:=fin v' w' (fq v') v0.ownBlock hgrow (λb hb=>by rw[hblk];exact e0.symm.trans hb) (λh=>by omega) (λbb hbb=>by
    have hbb:d5 v'=some bb:=hbb;rw[<- e1']at hbb
    rcases hat with h1|h1
    .left;rw[hblk];exact e0.symm.trans (h1.symm.trans hbb)
    .right;rw[h1]at hbb;simp only[Bb]at hbb;omega) hform
    ⟨h0,hmaxn, .inl ⟨by simp,xs++news,by
     simp only[Ma];refine⟨hown'.1, ?_⟩
     rcases hown'.2 with hv|⟨g,cap,cur,hv,hg,r⟩
     .exact .inl hv
     exact .inr ⟨g,cap,cur,hv,by omega,r⟩,kT hrow.1 Be hnr⟩⟩
   grind
  obtain⟨g0,g1,g5⟩:=h.objs id _ hob
  rcases g5 with⟨g6,ys,g2,g4⟩|⟨g6,g7,g8⟩
  .exact owned 0 (Zb _) (Yb _) (c.own id) ys rfl g2 g4 g6
  obtain⟨ad2,cap2,g8',g9,g10,g11,g12⟩:=g8;have hc2:cap2=n':=g11 rfl;rw[hown]at g8';simp only[Ka,true_and]at g8';obtain⟨rfl,rfl⟩:=g8';subst hc2
  rcases ad with _|ba
  ·
   have hn0:cap=0:=by
    grind
   subst hn0;refine owned 0 (Zb _) (Yb _) (c.own id) [] rfl ?_ (λi j hi=>by omega) (by rw[g7,hown];exact(RU rfl).symm);rw[hown];exact Dv w _ _ _
  have hxcell:∀(k:Nat) u,xs[k]? = some u->w.cell? (ba.add k)=some u:=by
   grind
  have hr:=run_append_grow (P:=P) w t ty el' ie zv ht e1 hiz ba cap cap xs (by rw[<- e4,hsz];exact hxl) hxcell b m cA news (by rw[<- e4,hsz];exact hnl) hncell Za (by simp only[maxLen]at hmaxn;omega) (growslice_fits Za (by rw[<- e5];exact hbytes));rw[<- hown]at hr;have hge:=grownCap_ge w (cap+m) cap el';have hcm:grownCap w (cap+m) cap el'<=maxLen:=grownCap_le_maxLen w (cap+m) cap el' hmaxn;have hlen:(xs++news).length=(cap+m)*sz':=by rw[Uc,hxl,hnl,Mf]
  obtain ⟨c',hc',hv'⟩:=fin (.slice (some ⟨w.heap.size,0,none⟩) (cap+m) (grownCap w (cap+m) cap el')) (w.drew.alloc (.cells (xs.toArray++news.toArray++Builtin.zeroCells zv.cells (grownCap w (cap+m) cap el'-(cap+m))) el')) (fq (.slice (some ⟨w.heap.size,0,none⟩) (cap+m) (grownCap w (cap+m) cap el'))) none ⟨⟨rfl,rfl,rfl,by simp,λk hk _=>heap_alloc_old w.drew _ k hk⟩,Hm _⟩ (λ_ e=>by cases e) (λh=>by omega)
   (λbb hbb=>.inr (by simp only[fq,d5,Bb]at hbb;omega)) ⟨_,_,rfl⟩
   ⟨h0,hmaxn, .inl ⟨by simp,xs++news,by
    simp only[Ma];refine⟨hlen, .inr ⟨w.heap.size,_,_,rfl,Zb _,heap_alloc_new w.drew _,hge,hcm, ?_, ?_⟩⟩
    .simp only [Bv,Pi,size_zeroCells,hzs,hxl,hnl,<- Mf]
     congr 1;omega
    simp only[Array.toList_append,Ug];rw[<- Ug,<- hlen]
    exact List.take_left,hxx⟩⟩
  grind
def b4c(hE:dl P E)(h:ah w0 nt c s a w){wb:Bool}{u:Bj}(hy:bc c s.o y vy)(ht:P.underlying t=some (.slice el))(hq':th E s.o id n wb el y=some u)(hp:u.pre){ad:Option Addr}{cap k:Nat}{f':Nat->Nat->PV}(hown:c.own id=.slice ad n cap)(hob':u.ob=.arr wb sz el k f')(hk:k<=cap){v:Value}{w':World}(hrun:(Builtin.append_ #[t,t] ty #[c.own id,vy]).run P w=.ok v w'):v=.slice ad k cap:=by
 unfold th at hq';split at hq'<;>try(cases hq';done)
 rename_i ei wr sz2 el' n' f p m sz' g hei hob hsrc;split at hq'<;>try(cases hq';done)
 rename_i z hz;split at hq'<;>try(cases hq';done)
 simp only[Bb]at hq';subst hq';obtain⟨p1,rfl,rfl,hsz,hsz',hmax,hbytes,hwb⟩:=hp;simp only[a8.arr.injEq]at hob';obtain⟨_,rfl,_,rfl,_⟩:=hob';obtain⟨ie,de,e1,e2,e3,e4,e5,e6,_⟩:=az (hE el' ei hei);obtain⟨h0,h1,h5⟩:=h.objs id _ hob
 rcases Mj m with hm0|hm0
 .subst hm0
  obtain⟨A,cA,rfl⟩:=zK h hy hsrc p1;have hcap:n'<=cap:=by omega
  have:=qi (P:=P) w t ty el' ie ht e1 ad A n' cap cA hcap;rw[hown,this]at hrun;simp only[Result.ok.injEq]at hrun;exact hrun.1.symm
 have hsz'':sz'=sz2:=by omega
 subst hsz'';obtain⟨A,cA,rfl,news,hnl,hn1,hnr,hnc⟩:=AL h hy hsrc p1 h0
 obtain ⟨b,rfl,hncell⟩:∃b,A=some b/\∀(k:Nat) u,news[k]? = some u->w.cell? (b.add k)=some u:=by
  rcases hnc with⟨h1,_⟩|h1
  .omega
  exact h1
 rcases h5 with⟨h6,xs,h2,h4⟩|⟨h6,h7,h8⟩
 .obtain ⟨hxl,hrow⟩:=h2
  rcases hrow with⟨hv0,hz0⟩|⟨gb,cap',cur,hown',hbase,hheap,hnc',hcm,hcs,htake⟩
  .rw [hown]at hv0
   simp only[Ka]at hv0;omega
  rw[hown]at hown';simp only[Ka,true_and]at hown';obtain⟨rfl,rfl⟩:=hown';have hmul:n'*sz'+m*sz'<=cap*sz':=by rw[<- Mf];exact Ve _ hk
  have hst:=run_storeCells_at P gb (n'*sz') el' news 0 cur w hheap (by rw[hnl,hcs];omega) hn1;simp only[Fi]at hst;have hfc:=run_firstCells_some (P:=P) (w:=w) ei.size m b m cA news (by rw[hnl,hsz]) hncell;rw[<- hsz]at hst;rw[hown]at hrun;simp[Builtin.append_,run_underlying ht,sizeOf,typeInfo,e1,<- e4,Builtin.lenOf,hk,hfc,add_lit,hst]at hrun;exact hrun.1.symm
 obtain⟨ad2,cap2,r1,r2,r3,r4,r5⟩:=h8;rw[hown]at r1;simp only[Ka,true_and]at r1;obtain⟨rfl,rfl⟩:=r1;have:=r4 rfl;omega
variable {ms:List Nat}
def lL(h:ah w0 nt c s a w){e:TypeId}{f:Nat->Nat->HV}(ho:s.o id=some (.arrh sz e n ms f)):
 ∃ ad cap,c.own id=.slice ad n cap/\n<=cap/\∃news:List Value,news.length=n*sz/\(∀u∈news,u.oneCell'=true)/\(∀i j,i<n->j<sz->∃x,news[i*sz+j]? = some x/\bc c s.o (f i j) x) /\
  ((n=0/\news=[])\/∃b,ad=some b/\∀(k:Nat) u,news[k]? = some u->w.cell? (b.add k)=some u):=by
 obtain⟨h0,h1,h7,h5⟩:=h.objs id _ ho
 rcases h5 with⟨h6,xs,h2,h4⟩|⟨rfl,h6,ad,cap,hv,hc1,_⟩
 .rcases h2.2 with⟨hv,hz⟩|⟨g,cap,cur,hv,_,hheap,hcap,_,hcs,htake⟩
  .simp_all
  refine⟨_,cap,hv,hcap,xs,h2.1,λu hu=>?_,h4, .inr ⟨_,rfl,h2.cells (g:=g) (by rw[hv];rfl)⟩⟩;obtain⟨k,hk,hku⟩:=Fg hu;have hk':k<n*sz:=by rw[<- h2.1];exact hk
  obtain⟨x,hx,hr⟩:=h4 (k/sz) (k%sz) (by rw[oC h0];exact hk') (Gm _ h0);rw[Nat.div_add_mod',Hc hk]at hx;simp only[Bb]at hx;rw[<- hku,hx];exact bc.oneCell hr
 simp_all
def UV(h:ah w0 nt c s a w)(hu:bc c s.o y u){p:Prop}{g:Nat->Nat->HV}(hs:Xq s.o id y=some (p,m,sz,ms,g))(hp:p)(hsz:0<sz):
 (∀i j k,i<m->j<sz->(g i j).men k->k∈ms)/\∃ad cap,u=.slice ad m cap/\∃news:List Value,news.length=m*sz/\(∀u∈news,u.oneCell'=true)/\(∀i j,i<m->j<sz->∃x,news[i*sz+j]? = some x/\bc c s.o (g i j) x) /\
  ((m=0/\news=[])\/∃b,ad=some b/\∀(k:Nat) u,news[k]? = some u->w.cell? (b.add k)=some u):=by
 unfold Xq at hs;split at hs
 .rename_i p' m' sz' g' hs'
  simp only[Bb,Tc]at hs;obtain⟨rfl,rfl,rfl,rfl,rfl⟩:=hs;exact⟨λi j k _ _ hk=>hk.elim,AL h hu hs' hp hsz⟩
 split at hs<;>try(cases hs;done)
 rename_i id' m' _;split at hs<;>try(cases hs;done)
 rename_i sz' el m2 ms' g' hid ho;simp only[Bb,Tc]at hs;obtain⟨rfl,rfl,rfl,rfl,rfl⟩:=hs;obtain rfl:m2=m':=hp;obtain⟨_,_,h3⟩:=hu;obtain⟨ad,cap,hv,hc,news,g1,g2,g3,g4⟩:=lL h ho;have:=(h3 _ _ _ _ ho rfl).2 rfl;exact⟨(h.objs id' _ ho).2.2.1,ad,cap,this.trans hv,news,g1,g2,g3,g4⟩
theorem HT {o:av} {f g:Nat->Nat->HV} {xs news:List Value} (hxl:xs.length=n*sz) (hx:∀i j,i<n->j<sz->∃x,xs[i*sz+j]? = some x/\bc c o (f i j) x) (hg:∀i j,i<m->j<sz->∃x,news[i*sz+j]? = some x/\bc c o (g i j) x):∀i j,i<n+m->j<sz->∃x,(xs++news)[i*sz+j]? = some x/\bc c o (ru n f g i j) x:=by
 intro i j hi hj;unfold ru;by_cases h:i<n
 .grind
 have hle:n*sz<=i*sz:=Ve _ Za;rw[Ca h,Jk (by rw[hxl];omega),hxl];have e:i*sz+j-n*sz=(i-n)*sz+j:=by rw[Nat.sub_mul];omega
 rw[e];exact hg (i-n) j Za hj
theorem b49 {f g:Nat->Nat->HV} {ms':List Nat} (hf:∀i j k,i<n->j<sz->(f i j).men k->k∈ms) (hg:∀i j k,i<m->j<sz->(g i j).men k->k∈ms'):
 ∀i j k,i<n+m->j<sz->(ru n f g i j).men k->k∈ms'++ms:=by
 intro i j k hi hj hk;unfold ru at hk
 grind
def api(hE:dl P E)(h:ah w0 nt c s a w){u:Bj}(hy:bc c s.o y vy)(ht:P.underlying t=some (.slice el))(hq':Zt E s.o id n el y=some u)(hp:u.pre):
 ∃v w' c' k sz ms f',(Builtin.append_ #[t,t] ty #[c.own id,vy]).run P w=.ok v w'/\u.id=id/\u.ob=.arrh sz el k ms f'/\(c'.old=c.old/\ah w0 nt c' (s.setO u.id (some u.ob)) a w')/\ap c' (s.setO u.id (some u.ob)).o (.v (.one (.ref id k))) v:=by
 unfold Zt at hq';split at hq'<;>try(cases hq';done)
 rename_i ei sz el' n' ms f p m sz' ms' g hei hob hsrc;split at hq'<;>try(cases hq';done)
 rename_i z hz;split at hq'<;>try(cases hq';done)
 rename_i hzl;have hzl:=Ga hzl;simp only[Bb]at hq';subst hq';obtain⟨p1,rfl,rfl,hsz,hsz',hmax,hbytes⟩:=hp;obtain⟨ie,de,e1,e2,e3,e4,e5,e6,_⟩:=az (hE el' ei hei);rw[hz]at e6;obtain⟨h0,hnmax,hms,hrows⟩:=h.objs id _ hob
 cases hiz:ie.zero with
 |none=>rw[hiz]at e6;cases e6
 | some zv =>
  rw[hiz]at e6;simp only[Vf,Bb]at e6;have hzs:zv.cells.size=sz:=by rw[<- Zh,<- e6,hzl,hsz]
  obtain⟨ad,cap,hown,hcap,xs,hxl,hx1,Be,hxc⟩:=lL h hob;have hmaxn:n'+m<=maxLen:=by simp only[maxLen];omega
  have fin:∀(v:Value) (w':World) (bk:Nat->Prop) (row:Option Nat),Wf w w' row->(∀b,row=some b->c.blk id b)->(m=0->v=c.own id)->(∀b,bk b->c.blk id b\/w.heap.size<=b)->(∃ad' cap',v=.slice ad' (n'+m) cap') ->
   (∀c':Pc,c'.imm=c.imm->c'.own=(λk=>if k=id then v else c.own k)->c'.blk=(λk=>if k=id then bk else c.blk k)->(∀(x:HV) (u:Value),bc c s.o x u->bc c' (s.setO id (some (.arrh sz el' (n'+m) (ms'++ms) (ru n' f g)))).o x u) ->
    eq 0 c' (s.setO id (some (.arrh sz el' (n'+m) (ms'++ms) (ru n' f g)))).o w' id (.arrh sz el' (n'+m) (ms'++ms) (ru n' f g))) ->
   ∃c',(c'.old=c.old/\ah w0 nt c' (s.setO id (some (.arrh sz el' (n'+m) (ms'++ms) (ru n' f g)))) a w')/\ap c' (s.setO id (some (.arrh sz el' (n'+m) (ms'++ms) (ru n' f g)))).o (.v (.one (.ref id (n'+m)))) v:=by
   intro v w' bk row hg hrow hm hbk hv hok
   have hevo:Vc c s.o { old:=c.old,imm:=c.imm,tab:=c.tab,own:=λk=>if k=id then v else c.own k,blk:=λk=>if k=id then bk else c.blk k,rows:=c.rows } (s.setO id (some (.arrh sz el' (n'+m) (ms'++ms) (ru n' f g)))).o id :=
    .inr (.inr ⟨_, .arrh sz el' (n'+m) (ms'++ms) (ru n' f g),sz,el',n',n'+m,hob,rfl,by simp[S.setO],rfl,by omega,λe=>by simp[hm Za],λ_ _ _ _ _ _ _ hb=>by cases hb⟩)
   refine⟨{ old:=c.old,imm:=c.imm,tab:=c.tab,own:=λk=>if k=id then v else c.own k,blk:=λk=>if k=id then bk else c.blk k,rows:=c.rows },⟨(by rfl),h.write id _ hob _ w' v bk row hg hrow hevo hbk (hok _ rfl rfl rfl λx u hxu=>?_)⟩, ?_,λl=>by simp[S.setO],λob2 s2 e2 n2 ho2 hd2=>?_⟩
   .refine bc.evo (c:=c) (o:=s.o) (Dc.le.refl c.imm) (λk _=>?_) hxu
    by_cases hk:k=id
    .subst hk;exact hevo
    exact Vc.of_same (by simp[S.setO,hk]) (by simp[hk])
   .obtain⟨_,_,rfl⟩:=hv;rfl
   simp only[S.setO,Ma,Bb]at ho2;subst ho2;simp only[a8.dim,Bb,Tc]at hd2;obtain⟨rfl,rfl,rfl⟩:=hd2;exact⟨Yb _,λ_=>by simp⟩
  rcases Mj m with hm0|hm0
  .subst hm0
   obtain ⟨A,cA,rfl⟩:∃ad cap,vy=.slice ad 0 cap:=by
    unfold Xq at hsrc;split at hsrc
    .rename_i q1 q2 q3 q4 hs'
     simp only[Bb,Tc]at hsrc;obtain⟨rfl,rfl,_⟩:=hsrc;exact zK h hy hs' p1
    split at hsrc<;>try(cases hsrc;done)
    rename_i id' m' _;split at hsrc<;>try(cases hsrc;done)
    rename_i q1 q2 q3 q4 q5 q6 ho;simp only[Bb,Tc]at hsrc;obtain⟨rfl,rfl,_⟩:=hsrc;obtain rfl:q3=0:=p1;obtain⟨_,_,h3⟩:=hy;obtain⟨ad,cap,hv,_⟩:=lL h ho;exact⟨ad,cap,((h3 _ _ _ _ ho rfl).2 rfl).trans hv⟩
   have hrun:=qi (P:=P) w t ty el' ie ht e1 ad A n' cap cA hcap;rw[<- hown]at hrun
   obtain ⟨c',hc',hv'⟩:=fin (c.own id) w (c.blk id) none (Wf.refl w _) (λ_ e=>by cases e) (λ_=>rfl) (λb hb=>.inl hb) ⟨ad,cap,hown⟩ (λc' hi ho hb hrep=>by
    refine⟨h0,hnmax,λi j k hi hj hk=>?_, ?_⟩
    .have hi':i<n':=hi
     unfold ru at hk;rw[Ba hi']at hk;exact Bh _ (hms i j k hi' hj hk)
    rcases hrows with⟨g6,ys,g2,g4⟩|⟨g6,g7,g8⟩
    .exact .inl ⟨by simp[hb,ho,g6],ys,by simpa [ho]using g2,λi j hi hj=>by
      have hi':i<n':=hi;obtain⟨x,hx,hr⟩:=g4 i j hi' hj;unfold ru;rw[Ba hi']
      exact⟨x,hx,hrep _ _ hr⟩⟩
    exact .inr ⟨by show n'+0=0;omega,by simp[hb,g7],by rw[hi];simpa [ho]using g8⟩)
   exact⟨_,w,c',n'+0,sz,_,_,hrun,rfl,rfl,hc',hv'⟩
  have hsz'':sz'=sz:=by omega
  subst hsz'';obtain⟨hgm,A,cA,rfl,news,hnl,hn1,hnr,hnc⟩:=UV h hy hsrc p1 h0
  obtain ⟨b,rfl,hncell⟩:∃b,A=some b/\∀(k:Nat) u,news[k]? = some u->w.cell? (b.add k)=some u:=by
   rcases hnc with⟨h1,_⟩|h1
   .omega
   exact h1
  have hmen:=b49 (sz:=sz') hms hgm
  have owned:∀(v0:Value) (xs:List Value),v0=c.own id->w.ownsRow 0 el' sz' v0 n' xs->(∀i j,i<n'->j<sz'->∃x,xs[i*sz'+j]? = some x/\bc c s.o (f i j) x)->c.blk id=fq v0 ->
   ∃ v w' c' k sz ms2 f',(Builtin.append_ #[t,t] ty #[c.own id, .slice (some b) m cA]).run P w=.ok v w'/\id=id/\a8.arrh sz' el' (n'+m) (ms'++ms) (ru n' f g)=.arrh sz el' k ms2 f' /\
    (c'.old=c.old/\ah w0 nt c' (s.setO id (some (.arrh sz' el' (n'+m) (ms'++ms) (ru n' f g)))) a w')/\ap c' (s.setO id (some (.arrh sz' el' (n'+m) (ms'++ms) (ru n' f g)))).o (.v (.one (.ref id k))) v:=by
   intro v0 xs hv0 hrow Be hblk;obtain⟨v',w',hrun,hown',hgrow0,_,hat⟩:=run_append_own_at (P:=P) w 0 t ty el' ie zv sz' ie.bytes ht e1 hiz (by rw[<- e4];exact hsz) rfl hzs h0 v0 n' xs hrow b m cA news hnl hncell hn1 hmaxn (by rw[<- e5];exact hbytes) (Zb _);have hgrow:=Wf.mk hgrow0 (xz _ hrun);rw[hv0]at hrun
   have hob':∀v:Value,(∃ad k cap,v=.slice ad k cap)->v.ownBlock=d5 v:=by
    rintro v ⟨ad,k,cap,rfl⟩;cases ad<;>rfl
   have hform:∃ad' cap',v'=.slice ad' (n'+m) cap':=by
    rcases hown'.2 with⟨hv,hz⟩|⟨g,cap,cur,hv,_⟩
    .omega
    exact⟨_,_,hv⟩
   have e0:v0.ownBlock=d5 v0:=hob' v0 ⟨ad,n',cap,by rw[hv0,hown]⟩;have e1':v'.ownBlock=d5 v':=hob' v' ⟨_,_,_,hform.choose_spec.choose_spec⟩
   obtain ⟨c',hc',hv'⟩:=fin v' w' (fq v') v0.ownBlock hgrow (λb hb=>by rw[hblk];exact e0.symm.trans hb) (λh=>by omega) (λbb hbb=>by
    have hbb:d5 v'=some bb:=hbb;rw[<- e1']at hbb
    rcases hat with h1|h1
    .left;rw[hblk];exact e0.symm.trans (h1.symm.trans hbb)
    .right;rw[h1]at hbb;simp only[Bb]at hbb;omega) hform (λc' hi ho hb hrep =>
    ⟨h0,hmaxn,hmen, .inl ⟨by simp[hb,ho],xs++news,by
     simp only[ho,Ma]
     exact hown',λi j hi hj=>by
      obtain⟨x,hx,hr⟩:=HT hrow.1 Be hnr i j hi hj
      exact⟨x,hx,hrep _ _ hr⟩⟩⟩)
   exact⟨v',w',c',n'+m,sz',_,_,hrun,rfl,rfl,hc',hv'⟩
  rcases hrows with⟨g6,ys,g2,g4⟩|⟨rfl,g7,g8⟩
  .exact owned (c.own id) ys rfl g2 g4 g6
  obtain⟨ad2,cap2,g8',g9,g10,g11,g12⟩:=g8;have hc2:cap2=0:=g11 rfl;rw[hown]at g8';simp only[Ka,true_and]at g8';obtain⟨rfl,rfl⟩:=g8';subst hc2;have hxs0:xs=[]:=Vl Za;subst hxs0
  rcases ad with _|ba
  .refine owned (c.own id) [] rfl ?_ (λi j hi=>by omega) (by rw[g7,hown];exact(RU rfl).symm)
   rw[hown];exact Dv w _ _ _
  have hr:=run_append_grow (P:=P) w t ty el' ie zv ht e1 hiz ba 0 0 [] Ec (λk u hk=>by simp at hk) b m cA news (by rw[<- e4,hsz];exact hnl) hncell Za (by simp only[maxLen]at hmaxn;omega) (growslice_fits Za (by rw[<- e5];exact hbytes));rw[<- hown]at hr;have hge:=grownCap_ge w (0+m) 0 el';have hcm:grownCap w (0+m) 0 el'<=maxLen:=grownCap_le_maxLen w (0+m) 0 el' hmaxn;have hlen:([]++news:List Value).length=(0+m)*sz':=by rw[Uc,hnl];simp
  obtain ⟨c',hc',hv'⟩:=fin (.slice (some ⟨w.heap.size,0,none⟩) (0+m) (grownCap w (0+m) 0 el')) (w.drew.alloc (.cells (([]:List Value).toArray++news.toArray++Builtin.zeroCells zv.cells (grownCap w (0+m) 0 el'-(0+m))) el')) (fq (.slice (some ⟨w.heap.size,0,none⟩) (0+m) (grownCap w (0+m) 0 el'))) none ⟨⟨rfl,rfl,rfl,by simp,λk hk _=>heap_alloc_old w.drew _ k hk⟩,Hm _⟩ (λ_ e=>by cases e) (λh=>by omega)
   (λbb hbb=>.inr (by simp only[fq,d5,Bb]at hbb;omega)) ⟨_,_,rfl⟩ (λc' hi ho hb hrep =>
   ⟨h0,hmaxn,hmen, .inl ⟨by simp[hb,ho],[]++news,by
    simp only[ho,Ma];refine⟨hlen, .inr ⟨w.heap.size,_,_,rfl,Zb _,heap_alloc_new w.drew _,hge,hcm, ?_, ?_⟩⟩
    .simp only [Bv,Pi,size_zeroCells,hzs,hnl,Nn]
     rw[Oe,<- Mf];congr 1;omega
    simp only[Array.toList_append,Ug];rw[<- Ug,<- hlen]
    exact List.take_left,λi j hi hj=>by
    obtain⟨x,hx,hr⟩:=HT (xs:=[]) Ec Be hnr i j hi hj
    exact⟨x,hx,hrep _ _ hr⟩⟩⟩)
  exact⟨_,_,c',0+m,sz',_,_,hr,rfl,rfl,hc',hv'⟩
def Ky {i:Nat} (hu:bc c s.o (.win id n i m) u) {ob:a8} {e:TypeId} (ho:s.o id=some ob) (hd:ob.dim=some (sz,e,n)):
 ∃ad ad' cap,c.own id=.slice ad n cap/\u=.slice ad' m (cap-i)/\i+m<=n/\n<=cap/\cap<=maxLen/\(i<cap->ad'=ad.map (·.add (i*sz))):=(hu.2.2 _ _ _ _ ho hd).2 rfl
theorem rV {ob:a8} (ho:s.o id=some ob):s.setO id (some ob)=s:=by
 unfold S.setO
 cases s with
 | mk t o =>
  simp only[S.mk.injEq,true_and]
  grind
theorem GW (h:ah w0 nt c s a w) (hob:s.o id=some (.arr true sz el n f)) (hn:0<n):
 ∃ g cap,c.own id=.slice (some ⟨g,0,none⟩) n cap/\0<sz/\(∀i j,i<n->j<sz->∃x,w.cell? ⟨g,i*sz+j,none⟩=some x/\aq c.imm (f i j) x) /\
  ∀ (p:Nat) (news:List Value) (f':Nat->Nat->PV),p+news.length<=n*sz->(∀v∈news,v.oneCell'=true) ->
   (∀i j,i<n->j<sz->(p<=i*sz+j/\i*sz+j<p+news.length->∃x,news[i*sz+j-p]? = some x/\aq c.imm (f' i j) x)/\(¬(p<=i*sz+j/\i*sz+j<p+news.length)->f' i j=f i j)) ->
   ∃w' c',(storeCells ⟨g,p,none⟩ news).run P w=.ok () w'/\c'.old=c.old/\c'.own id=c.own id/\ah w0 nt c' (s.setO id (some (.arr true sz el n f'))) a w':=by
 obtain⟨h0,h1,h5⟩:=h.objs id _ hob
 obtain ⟨h6,xs,h2,h4⟩:c.blk id=fq (c.own id)/\∃xs,w.ownsRow 0 el sz (c.own id) n xs/\∀i j,i<n->j<sz->∃x,xs[i*sz+j]? = some x/\aq c.imm (f i j) x:=by
  grind
 have hcells:=λg hg=>h2.cells (g:=g) hg;obtain⟨hxl,hrow⟩:=h2
 rcases hrow with⟨_,hz⟩|⟨g,cap,cur,hown,hbase,hheap,hnc,hcm,hcs,htake⟩
 .omega
 have hlt2:n*sz<=cap*sz:=Ve _ hnc;have hblk:c.blk id g:=by rw[h6,hown];rfl
 refine⟨g,cap,hown,h0,λi j hi hj=>?_,λp news f' hlen hone hf=>?_⟩
 .obtain ⟨x,hx,hr⟩:=h4 i j hi hj
  refine⟨x, ?_,hr⟩;have:=hcells g (by rw[hown];rfl) _ x hx;rwa [add_lit,Oe]at this
 have hst:=run_storeCells_at P g p el news 0 cur w hheap (by simp[hcs];omega) hone;simp only[Fi]at hst
 refine ⟨_,_,hst,(by rfl), ?own,h.write id _ hob (.arr true sz el n f') (w.setRow g (cur.toList.take p++news++cur.toList.drop (p+news.length)).toArray) (c.own id) (c.blk id) (some g) (o4 _ _ _) (λb' hb'=>by cases hb';exact hblk) (.inr (.inr ⟨_, .arr true sz el n f',sz,el,n,n,hob,rfl,by simp[S.setO],rfl,Yb _,λ_=>by simp,λ_ _ _ _ _ _ _ hb=>by cases hb⟩)) (λb hb=>.inl hb)
  ⟨h0,h1, .inl ⟨by simpa using h6,xs.take p++news++xs.drop (p+news.length), ?_,λq r hq hr=>?_⟩⟩⟩
 case own=>simp
 .refine ⟨?_, .inr ⟨g,cap,_,by simpa using hown,hbase,setRow_heap w g cur _ el _ hheap,hnc,hcm, ?_, ?_⟩⟩
  .grind
  .grind
  apply No;intro k;have hcl':cur.toList.length=cap*sz:=by simpa using hcs
  rw[Ih,List.toList_toArray];have e1:=dt cur.toList news p k Za;have e2:=dt xs news p k Za
  grind
 have hq:q<n:=hq;have hr:r<sz:=hr;have e2:=dt xs news p (q*sz+r) Za;rw[e2]
 grind
theorem AU {i a b:Nat} (hb:b<sz):(i*sz<=a*sz+b/\a*sz+b<i*sz+m*sz)<->(i<=a/\a<i+m):=by
 constructor
 .rintro ⟨h1,h2⟩
  constructor
  .apply La
   intro h;have:(a+1)*sz<=i*sz:=Ve _ Za
   grind
  apply La;intro h;have:(i+m)*sz<=a*sz:=Ve _ Za
  grind
 rintro⟨h1,h2⟩;have e1:i*sz<=a*sz:=Ve _ h1;have e2:(a+1)*sz<=(i+m)*sz:=Ve _ h2
 grind
theorem agy (hE:dl P E) (h:ah w0 nt c s a w) {args:List Operand} {tys:List TypeId} {u:Bl} (hq':IB E s.o (ev s) args tys=some u) (hp:u.pre):
 ∃w' c',(Builtin.clear_ tys.toArray ty (args.map a.eval).toArray).run P w=.ok (.tuple #[]) w'/\(c'.old=c.old/\ah w0 nt c' (s.setO u.id (some u.ob)) a w')/\u.val=.tup []:=by
 unfold IB at hq';split at hq'<;>try(cases hq';done)
 rename_i x t;split at hq'<;>try(cases hq';done)
 rename_i ti hti;split at hq'<;>try(cases hq';done)
 rename_i el hk;split at hq'<;>try(cases hq';done)
 rename_i ei hei;split at hq'<;>try(cases hq';done)
 rename_i z hz;split at hq'<;>try(cases hq';done)
 rename_i hone hdec;have hzl:=Ga hdec;split at hq'<;>try(cases hq';done)
 rename_i hv hx;unfold Xv at hq';split at hq'<;>try(cases hq';done)
 rename_i id n i m;split at hq'<;>try(cases hq';done)
 rename_i sz el' n' f hob;simp only[Bb]at hq';subst hq';obtain⟨rfl,hs⟩:=hp;subst hs;obtain⟨ii,d,h1,h2,h3,_⟩:=az (hE t ti hti);obtain rfl:=ez (h3.symm.trans hk);obtain⟨ie,de,e1,e2,e3,e4,e5,e6,_⟩:=az (hE el ei hei);rw[hz]at e6;obtain⟨ad,ad',cap,q1,q2,q3,q4,q5,q6⟩:=Ky (ae h hx) hob rfl
 cases hiz:ie.zero with
 |none=>rw[hiz]at e6;cases e6
 | some zv =>
  rw[hiz]at e6;simp only[Vf,Bb]at e6;have hzz:zv.cells=z.toArray:=by rw[e6]
  have hzv:∀w,(zeroValue el).run P w=.ok zv w:=λw=>by simp[zeroValue,typeInfo,e1,hiz]
  rcases Mj m with hm|hm
  .subst hm
   refine⟨w,c, ?_,⟨rfl, ?_⟩,rfl⟩
   .cases ad'<;>simp[Builtin.clear_,q2,run_underlying h2]
   have hset:tl f i 0 z=f:=by
    funext a b;unfold tl
    grind
   show ah w0 nt c (s.setO id (some (.arr true ei.size el' n' (tl f i 0 z)))) a w;rw[hset,rV hob];exact h
  obtain⟨g,cap',hown,hsz,hcell,hwr⟩:=GW (P:=P) h hob Za;rw[hown]at q1;simp only[Ka,true_and]at q1;obtain⟨rfl,rfl⟩:=q1;obtain rfl:=q6 Za;simp only[Vf,add_lit,Oe]at q2;have hzlen:((Builtin.zeroCells zv.cells m).toList).length=m*ei.size:=by simp[Builtin.zeroCells,hzz,hzl]
  have hzat:∀k,k<m*ei.size->(Builtin.zeroCells zv.cells m).toList[k]? = some (z.getD (k%ei.size) (.bool false)):=by
   intro k hk';have hmod:=Gm k hsz;simp only[Builtin.zeroCells,hzz,Pi,hzl,Mo,Array.toList_range,Pe,Hi hk',Vf]
   grind
  obtain ⟨w',c',hst,hold,_,hr⟩:=hwr (i*ei.size) (Builtin.zeroCells zv.cells m).toList (tl f i m z) (by rw[hzlen,<- Mf];exact Ve _ q3) (by
   intro v hv;obtain⟨k,hk',hvk⟩:=Fg hv;have hk2:k<m*ei.size:=by rw[<- hzlen];exact hk'
   have:=hzat k hk2;rw[Hc hk',hvk]at this;simp only[Bb]at this;have hmod:=Gm k hsz;rw[this,Oc,Hc Za]
   exact jt hone _ (De _)) (λa b ha hb=>by
   rw[hzlen,AU hb];unfold tl;refine⟨λhc=>?_,λhc=>by rw[Ca hc]⟩;rw[Ba hc];obtain⟨d,rfl⟩:∃d,a=i+d:=⟨a-i,by omega⟩;have e:(i+d)*ei.size+b-i*ei.size=d*ei.size+b:=by rw[Mf];omega
   rw[e,hzat _ (lJ Za hb),(ZQ hb).2];refine⟨_,rfl, ?_⟩;rw[Oc,Hc Za]
   exact oz _ _ (jt hone _ (De _)))
  refine⟨w',c', ?_,⟨hold,hr⟩,rfl⟩;obtain⟨m',rfl⟩:∃m',m=m'+1:=⟨m-1,by omega⟩;simp[Builtin.clear_,q2,run_underlying h2,hzv,hst]
def as0(hE:dl P E)(h:ah w0 nt c s a w)(ht:P.underlying t=some (.slice el)){i k:Nat}{hy:HV}{vx:Value}{u:Bl}(hx:bc c s.o (.win id n i k) vx)(hyr:bc c s.o hy vy)(hq':Ut E s.o el id n i k hy=some u)(hp:u.pre):
 ∃v w' c',(Builtin.append_ #[t,t] ty #[vx,vy]).run P w=.ok v w'/\(c'.old=c.old/\ah w0 nt c' (s.setO u.id (some u.ob)) a w')/\ap c' (s.setO u.id (some u.ob)).o u.val v:=by
 unfold Ut at hq';split at hq'<;>try(cases hq';done)
 rename_i id2 n2 j m;split at hq'<;>try(cases hq';done)
 rename_i ei sz el' n' f hbeq hei hob;have hid:=Vi hbeq;subst hid;simp only[Bb]at hq';subst hq';obtain⟨rfl,rfl,hs,hle⟩:=hp;subst hs;obtain⟨ie,de,e1,e2,e3,e4,e5,e6,_⟩:=az (hE el ei hei);obtain⟨ad,ad',cap,q1,q2,q3,q4,q5,q6⟩:=Ky hx hob rfl;obtain⟨ad2,ad2',cap2,r1,r2,r3,r4,r5,r6⟩:=Ky hyr hob rfl;rw[q1]at r1;simp only[Ka,true_and]at r1;obtain⟨rfl,rfl⟩:=r1
 have hres:∀(c':Pc) (f':Nat->Nat->PV),c'.own id2=c.own id2->ap c' (s.setO id2 (some (.arr true ei.size el' n2 f'))).o (.v (.one (.win id2 n2 i (k+m)))) (.slice ad' (k+m) (cap-i)):=by
  intro c' f' ho';refine⟨rfl,λl=>by simp[S.setO],λob2 s2 e2 n2 ho2 hd2=>?_⟩;simp only[S.setO,Ma,Bb]at ho2;subst ho2;simp only[a8.dim,Bb,Tc]at hd2;obtain⟨rfl,rfl,rfl⟩:=hd2;exact⟨Yb _,λ_=>⟨ad,ad',cap,ho'.trans q1,rfl,by omega,q4,q5,q6⟩⟩
 rcases Mj m with hm|hm
 .subst hm
  rw[q2,r2];refine⟨_,w,c,qi (P:=P) w t ty el ie ht e1 ad' ad2' k (cap-i) (cap-j) Za,⟨rfl, ?_⟩, ?_⟩
  .have hset:Ru f (i+k) j 0=f:=by
    funext a b;unfold Ru;rw[Ca Za]
   show ah w0 nt c (s.setO id2 (some (.arr true ei.size el' n2 (Ru f (i+k) j 0)))) a w;rw[hset,rV hob];exact h
  exact hres c _ rfl
 obtain⟨g,cap',hown,hsz,hcell,hwr⟩:=GW (P:=P) h hob Za;rw[hown]at q1;simp only[Ka,true_and]at q1;obtain⟨rfl,rfl⟩:=q1;obtain rfl:=q6 Za;obtain rfl:=r6 Za;simp only[Vf,add_lit,Oe]at q2 r2 hres
 obtain ⟨news,hnl,hn1,hnr,hnc⟩:=ZW (c:=c) (m:=m) (sz:=ei.size) (g:=λa b=>f (j+a) b) (F:=λx=>w.cell? ⟨g,j*ei.size+x,none⟩) hsz (λa b ha hb=>by
  obtain⟨x,hx,hr⟩:=hcell (j+a) b Za hb;refine⟨x, ?_,hr⟩;rw[Mf,Xk]at hx
  exact hx)
 obtain ⟨w',c',hst,hold,hown',hr⟩:=hwr ((i+k)*ei.size) news (Ru f (i+k) j m) (by rw[hnl,<- Mf];exact Ve _ hle) hnc (λa b ha hb=>by
  rw[hnl,AU hb];unfold Ru;refine⟨λhc=>?_,λhc=>by rw[Ca hc]⟩;rw[Ba hc];obtain⟨d,rfl⟩:∃d,a=i+k+d:=⟨a-(i+k),by omega⟩;have e:(i+k+d)*ei.size+b-(i+k)*ei.size=d*ei.size+b:=by rw[Mf (i+k) d];omega
  rw[e];obtain⟨x,hx,hr⟩:=hnr d b Za hb
  exact⟨x,hx,by rw[show i+k+d-(i+k)+j=j+d by omega];exact hr⟩)
 rw[q2,r2];have hfc:=run_firstCells_some (P:=P) (w:=w) ei.size m ⟨g,j*ei.size,none⟩ m (cap'-j) news hnl (λk v hk=>by rw[add_lit];exact hn1 k v hk);refine⟨.slice (some ⟨g,i*ei.size,none⟩) (k+m) (cap'-i),w',c', ?_,⟨hold,hr⟩,hres c' _ (hown'.trans rfl)⟩;have hrm:k+m<=cap'-i:=by omega
 have hst':(storeCells ⟨g,i*ei.size+k*ei.size,none⟩ news).run P w=.ok () w':=by rw[<- Mf];exact hst
 simp[Builtin.append_,run_underlying ht,sizeOf,typeInfo,e1,<- e4,Builtin.lenOf,hrm,hfc,add_lit,hst']
theorem ax8(hE:dl P E)(h:ah w0 nt c s a w){u:Bj}(hy:bc c s.o y vy)(ht:P.underlying t=some (.slice el))(hq':Ft E s.o id n el y=some u)(hp:u.pre):
 ∃v w' c',(Builtin.append_ #[t,t] ty #[c.own id,vy]).run P w=.ok v w'/\(c'.old=c.old/\ah w0 nt c' (s.setO id (some u.ob)) a w')/\ap c' (s.setO id (some u.ob)).o (.v (.one (.ref id (n+1)))) v:=by
 unfold Ft at hq';split at hq'<;>try(cases hq';done)
 rename_i ei e et es n' m g p sz' ms' gg hei hob hsrc;split at hq'<;>try(cases hq';done)
 rename_i id' k hgg;split at hq'<;>try(cases hq';done)
 rename_i z hz;split at hq'<;>try(cases hq';done)
 rename_i hdec;have hzl:=Ga hdec;simp only[Bb]at hq';subst hq';obtain⟨p1,rfl,rfl,hsz,rfl,hmax,hbytes⟩:=hp;obtain⟨ie,de,e1,e2,e3,e4,e5,e6,_⟩:=az (hE e ei hei);rw[hz]at e6
 cases hiz:ie.zero with
 |none=>rw[hiz]at e6;cases e6
 | some zv =>
  rw[hiz]at e6;simp only[Vf,Bb]at e6;have hzs:zv.cells.size=1:=by rw[<- Zh,<- e6,hzl,hsz]
  have hmaxn:n'+1<=maxLen:=by simp only[maxLen];omega
  have hnk:lh 0 c s.o w id e et es n' m g none:=h.objs id _ hob;obtain⟨hgm,A,cA,rfl,news,hnl,hn1,hnr,hnc⟩:=UV h hy hsrc p1 (Nat.one_pos)
  obtain ⟨b,rfl,hncell⟩:∃b,A=some b/\∀(k:Nat) u,news[k]? = some u->w.cell? (b.add k)=some u:=by
   grind
  obtain ⟨v',w',row,xs,hrun,hgrow,hrow,hown',hat,hxl,t2⟩:∃v' w' row xs,(Builtin.append_ #[t,t] ty #[c.own id, .slice (some b) 1 cA]).run P w=.ok v' w'/\Wf w w' row/\(∀b,row=some b->ay (c.own id)=some b)/\w'.ownsRow 0 e 1 v' (n'+1) (xs++news) /\
   (∀b,d5 v'=some b->ay (c.own id)=some b\/w.heap.size<=b)/\xs.length=n'/\∀i,i<n'->xs[i]? = some (c.rows id i):=by
   have hnil:n'=0/\(∃a,c.own id=.slice a 0 0)->∃v' w' row xs,(Builtin.append_ #[t,t] ty #[c.own id, .slice (some b) 1 cA]).run P w=.ok v' w'/\Wf w w' row/\(∀b,row=some b->ay (c.own id)=some b)/\w'.ownsRow 0 e 1 v' (n'+1) (xs++news) /\
    (∀b,d5 v'=some b->ay (c.own id)=some b\/w.heap.size<=b)/\xs.length=n'/\∀i,i<n'->xs[i]? = some (c.rows id i):=by
    rintro⟨rfl,a0,ha⟩
    cases a0 with
    | none =>
     obtain⟨v',w',hrun,hown',hgrow0,_,hat⟩:=run_append_own_at (P:=P) w 0 t ty e ie zv 1 ie.bytes ht e1 hiz (by rw[<- e4];exact hsz) rfl hzs Nat.one_pos (c.own id) 0 [] (by rw[ha];exact Dv w _ _ _) b 1 cA news hnl hncell hn1 hmaxn (by rw[<- e5];exact hbytes) (Zb _);refine⟨v',w',none,[],hrun,⟨?_,xz _ hrun⟩,(λb e=>by cases e),hown',λb' hb'=>?_,rfl,λi hi=>by omega⟩
     .rw [ha]at hgrow0
      exact hgrow0
     have e1':v'.ownBlock=d5 v':=by
      rcases hown'.2 with⟨hv,hz⟩|⟨g,cap,cur,hv,_⟩
      .omega
      rw[hv];rfl
     rw[<- e1']at hb'
     rcases hat with h1|h1
     .rw[h1,ha]at hb';cases hb'
     grind
    | some ba =>
     have hr:=run_append_grow (P:=P) w t ty e ie zv ht e1 hiz ba 0 0 [] Ec (λk u hk=>by simp at hk) b 1 cA news (by rw[<- e4,hsz];exact hnl) hncell Za Za (growslice_fits Za (by rw[<- e5];exact hbytes));rw[<- ha]at hr;have hge:=grownCap_ge w (0+1) 0 e;have hcm:grownCap w (0+1) 0 e<=maxLen:=grownCap_le_maxLen w (0+1) 0 e hmaxn;refine⟨_,_,none,[],hr,⟨⟨rfl,rfl,rfl,by simp,λk hk _=>heap_alloc_old w.drew _ k hk⟩,Hm _⟩,(λb e=>by cases e),⟨by rw[Kn];exact hnl, .inr ⟨w.heap.size,_,_,rfl,Zb _,heap_alloc_new w.drew _,hge,hcm, ?_, ?_⟩⟩,λb' hb'=>.inr ?_,rfl,λi hi=>by omega⟩
     .simp only [Bv,Pi,size_zeroCells,hzs,hnl,Nn]
      omega
     .grind
     simp only[d5,Bb]at hb';omega
   rcases hnk.top with r0|⟨xs,t1,t2,_⟩
   .exact hnil r0
   have t1:w.ownsRow 0 e 1 (c.own id) n' xs:=t1
   rcases gh t1 with r0|⟨b0,cap0,rv,rb⟩
   .exact hnil r0
   obtain⟨v',w',hrun,hown',hgrow0,_,hat⟩:=run_append_own_at (P:=P) w 0 t ty e ie zv 1 ie.bytes ht e1 hiz (by rw[<- e4];exact hsz) rfl hzs Nat.one_pos (c.own id) n' xs t1 b 1 cA news hnl hncell hn1 hmaxn (by rw[<- e5];exact hbytes) (Zb _);have e0:(c.own id).ownBlock=some b0:=by rw[rv];rfl
   refine⟨v',w',(c.own id).ownBlock,xs,hrun,⟨hgrow0,xz _ hrun⟩,λb' hb'=>by rw[e0]at hb';rw[rb];exact hb',hown',λb' hb'=>?_,by rw[t1.1];omega,t2⟩
   have e1':v'.ownBlock=d5 v':=by
    rcases hown'.2 with⟨hv,hz⟩|⟨g,cap,cur,hv,_⟩
    .omega
    rw[hv];rfl
   grind
  have hform:∃ad' cap',v'=.slice ad' (n'+1) cap':=by
   rcases hown'.2 with⟨hv,hz⟩|⟨g,cap,cur,hv,_⟩
   .omega
   grind
  have Xd:ay v'=d5 v':=by
   rcases gh hown' with⟨hz,_⟩|⟨b',cap',rv,rb⟩
   .omega
   rw[rb,rv];rfl
  have hinner:∀i b',i<n'->ay (c.rows id i)=some b'->b'<w.heap.size:=λi b' hi hb'=>((h.objs id _ hob).blk ((hnk.blks b').2 (.inr ⟨i,hi,hb'⟩))).2
  have hnew:∀i b',i<n'->ay (c.rows id i)=some b'->ay v'≠some b':=λi b' hi hb' he=>by
   rw[Xd]at he
   rcases hat b' he with h1|h1
   .exact(hnk.apart i b' hi hb').1 h1
   grind
  have hold:∀i b',i<n'->ay (c.rows id i)=some b'->w'.heap[b']? = w.heap[b']?:=λi b' hi hb'=>hgrow.base.block b' (hinner i b' hi hb') λhe=>(hnk.apart i b' hi hb').1 (hrow b' he.symm)
  have hevo:∀k2,Vc c s.o { old:=c.old,imm:=c.imm,tab:=c.tab,own:=λk2=>if k2=id then v' else c.own k2,blk:=λk2=>if k2=id then(λb=>ay v'=some b\/∃i,i<n'/\ay (c.rows id i)=some b)else c.blk k2,rows:=c.rows } (s.setO id (some (.nest e et es n' m g (some (id',k))))).o k2:=λk2=>by
   by_cases hk:k2=id
   .subst hk
    exact .inr (.inr ⟨_,_,1,e,n',n'+1,hob,rfl,(by show(if k2=k2 then _ else _)=_;rw[Ba rfl]),rfl,Hm _,λhh=>by omega,λe2 et2 es2 n2 m2 g2 pd2 hb2=>by
     cases hb2
     exact⟨_,_,_,_,_,_,rfl,Yb _,λi _=>⟨Yb _,λ_=>rfl⟩⟩⟩)
   exact Vc.of_same (by simp[S.setO,hk]) (by simp[hk])
  refine⟨v',w',_,hrun,⟨(by rfl),h.write id _ hob (.nest e et es n' m g (some (id',k))) w' v' (λb=>ay v'=some b\/∃i,i<n'/\ay (c.rows id i)=some b) row hgrow (λb' hb'=>(hnk.blks b').2 (.inl (hrow b' hb'))) (hevo id) (λb' hb'=>?_) ?_⟩, ?_,λl=>by simp[S.setO],λob2 s2 e2 n2 ho2 hd2=>?_⟩
  .rcases hb' with hb'|hb'
   .rw [Xd]at hb'
    rcases hat b' hb' with h1|h1
    .exact .inl ((hnk.blks b').2 (.inl h1))
    grind
   exact .inl ((hnk.blks b').2 (.inr hb'))
  .refine ⟨hnk.pos,hmaxn,hnk.lens,λb'=>by simp,λi b' hi hb'=>⟨by simpa using hnew i b' hi hb',(hnk.apart i b' hi hb').2⟩,λi hi=>?_, .inr ⟨xs++news, ?_,λi hi=>?_,λp hp=>?_⟩⟩
   .rcases hnk.row i hi with r0|⟨zs,r1,r2⟩
    .exact .inl r0
    rcases gh r1 with r0|⟨b',cap2,rv,rb⟩
    .exact .inl r0
    refine .inr ⟨zs,o3 r1 λb2 hb2=>?_,r2⟩;rw[rv]at hb2;simp only[d5,Bb]at hb2
    grind
   .simp only [Ma]
    exact hown'
   .grind
   cases hp;obtain⟨x,hx,Be⟩:=hnr 0 0 Za Za;rw[hgg]at Be;refine⟨x, ?_,bc.evo (c:=c) (o:=s.o) (Dc.le.refl c.imm) (λk _=>hevo k) Be⟩
   grind
  .obtain⟨_,_,rfl⟩:=hform;rfl
  simp only[S.setO,Ma,Bb]at ho2;subst ho2;simp only[a8.dim,Bb,Tc]at hd2
  grind
def b2e(hE:dl P E)(h:ah w0 nt c s a w){o:Oper}{wb:Bool}{u:Bl}(hq':Ei E s.o (ev s) id wb o.op=some u)(hp:u.pre)(hn:u.new=true->NM s id/\s.o id=none):
 ∃v w' c',(execOp a.eval o).run P w=.ok (.value v) w'/\(c'.old=c.old/\ah w0 nt c' (s.setO u.id (some u.ob)) a w')/\ap c' (s.setO u.id (some u.ob)).o u.val v:=by
 cases ho:o.op<;>rw[ho]at hq'<;>simp only[Ei]at hq'<;>try(cases hq';done)
 case call cl =>
  split at hq'<;>try(cases hq';done)
  case h_2 hcal =>
   obtain⟨w',c',h1,h2,h3⟩:=agy (ty:=o.type) hE h hq' hp;refine⟨.tuple #[],w',c', ?_,h2,by rw[h3];exact⟨[],rfl,Aa⟩⟩;unfold execOp;rw[<- Mo,Jq,Jq]at h1;simp only[ho,resolve,hcal,Nf,Mh,Rf,invoke,builtin,h1]
  rename_i hcal;unfold nE at hq';split at hq'<;>try(cases hq';done)
  rename_i x y t t' hargs htys;split at hq'<;>try(cases hq';done)
  rename_i htt;have htt:=Vi htt;subst htt;unfold Ww at hq';split at hq'<;>try(cases hq';done)
  rename_i i hti;split at hq'<;>try(cases hq';done)
  rename_i el hk;split at hq'<;>try(cases hq';done)
  rename_i hxv hx;split at hq'<;>try(cases hq';done)
  rename_i hy hyy;unfold yz at hq';have hA:cl.args=#[x,y]:=Array.ext' (by simpa using hargs);have hT:cl.argTypes=#[t,t]:=Array.ext' (by simpa using htys);obtain⟨ii,d,h1,h2,h3,_⟩:=az (hE t i hti)
  have hrun:∀v w',(Builtin.append_ #[t,t] o.type #[a.eval x,a.eval y]).run P w=.ok v w'->(execOp a.eval o).run P w=.ok (.value v) w':=by
   intro v w' hv;unfold execOp;simp only[ho,resolve,hcal,hA,hT,Nf,Mh,Rf,invoke,builtin,List.map_toArray,Wh,List.map_nil,hv]
  split at hq'<;>try(cases hq';done)
  .rename_i id1 n i1 k1
   obtain rfl:=ez (h3.symm.trans hk);obtain⟨v,w',c',g1,g2,g3⟩:=as0 (ty:=o.type) hE h h2 (ae h hx) (ae h hyy) hq' hp;exact⟨v,w',c',hrun v w' g1,g2,g3⟩
  .rename_i id1 n ad cap
   obtain rfl:=ez (h3.symm.trans hk);split at hq'<;>try(cases hq';done)
   rename_i uu huu;split at hq'<;>try(cases hq';done)
   rename_i wr sz el2 k f hob;simp only[Bb]at hq';subst hq';obtain⟨hp,hkc⟩:=hp;have hny:=ae h hyy;obtain⟨v,w',c',k',sz',f',g1,g2,g3,g4,g5⟩:=IL (ty:=o.type) hE h hny h2 huu hp
   have hown:a.eval x=c.own id1/\a.eval x=.slice ad n cap:=by
    have huu2:=huu;unfold th at huu2;split at huu2<;>try(cases huu2;done)
    rename_i ei wr' sz2 el3 n' f2 p m sz3 g hei hob2 hsrc;split at huu2<;>try(cases huu2;done)
    split at huu2<;>try(cases huu2;done)
    simp only[Bb]at huu2;subst huu2;obtain⟨_,rfl,_⟩:=hp;obtain⟨g0,_,g⟩:=ae h hx;exact⟨(g _ _ _ _ hob2 rfl).2 rfl,g0⟩
   rw[g3]at hob;simp only[a8.arr.injEq]at hob;obtain⟨_,_,_,rfl,_⟩:=hob;have hv:=b4c (ty:=o.type) hE h hny h2 huu hp (hown.1.symm.trans hown.2) g3 hkc g1;rw[<- hown.1]at g1;refine⟨v,w',c',hrun v w' g1, ?_, ?_⟩
   .rw[<- g2];exact g4
   rw[<- g2];rw[<- g2]at g5;obtain⟨_,q2,q3⟩:=g5;exact⟨hv,q2,q3⟩
  .rename_i id1 n
   obtain rfl:=ez (h3.symm.trans hk);split at hq'
   .rename_i uu huu
    split at hq'<;>try(cases hq';done)
    rename_i wr sz el2 k f hob;simp only[Bb]at hq';subst hq';have hny:=ae h hyy;obtain⟨v,w',c',k',sz',f',g1,g2,g3,g4,g5⟩:=IL (ty:=o.type) hE h hny h2 huu hp
    have hown:a.eval x=c.own id1:=by
     unfold th at huu;split at huu<;>try(cases huu;done)
     rename_i ei wr' sz2 el3 n' f2 p m sz3 g hei hob2 hsrc;split at huu<;>try(cases huu;done)
     split at huu<;>try(cases huu;done)
     simp only[Bb]at huu;subst huu;obtain⟨_,rfl,_⟩:=hp;obtain⟨_,_,g⟩:=ae h hx;exact(g _ _ _ _ hob2 rfl).2 rfl
    rw[g3]at hob;simp only[a8.arr.injEq]at hob;obtain⟨_,_,_,rfl,_⟩:=hob;rw[<- hown]at g1;refine⟨v,w',c',hrun v w' g1, ?_, ?_⟩
    .rw[<- g2];exact g4
    rw[<- g2];rw[<- g2]at g5;exact g5
   split at hq'
   case h_2 =>
    split at hq'<;>try(cases hq';done)
    rename_i uu huu;simp only[Bb]at hq';subst hq';obtain⟨v,w',c',g1,g4,g5⟩:=ax8 (ty:=o.type) hE h (ae h hyy) h2 huu hp
    have hown:a.eval x=c.own id1:=by
     unfold Ft at huu;split at huu<;>try(cases huu;done)
     rename_i ei e et es n' m g p sz' ms' gg hei hob2 hsrc;split at huu<;>try(cases huu;done)
     split at huu<;>try(cases huu;done)
     split at huu<;>try(cases huu;done)
     simp only[Bb]at huu;subst huu;obtain⟨_,rfl,_⟩:=hp;obtain⟨_,_,g⟩:=ae h hx;exact(g _ _ _ _ hob2 rfl).2 rfl
    rw[<- hown]at g1;exact⟨v,w',c',hrun v w' g1,g4,g5⟩
   rename_i uu huu;split at hq'<;>try(cases hq';done)
   rename_i sz el2 k ms f hob;simp only[Bb]at hq';subst hq';have hny:=ae h hyy;obtain⟨v,w',c',k',sz',ms',f',g1,g2,g3,g4,g5⟩:=api (ty:=o.type) hE h hny h2 huu hp
   have hown:a.eval x=c.own id1:=by
    unfold Zt at huu;split at huu<;>try(cases huu;done)
    rename_i ei sz2 el3 n' ms2 f2 p m sz3 ms3 g hei hob2 hsrc;split at huu<;>try(cases huu;done)
    split at huu<;>try(cases huu;done)
    simp only[Bb]at huu;subst huu;obtain⟨_,rfl,_⟩:=hp;obtain⟨_,_,g⟩:=ae h hx;exact(g _ _ _ _ hob2 rfl).2 rfl
   rw[g3]at hob;simp only[a8.arrh.injEq]at hob;obtain⟨_,_,rfl,_⟩:=hob;rw[<- hown]at g1;refine⟨v,w',c',hrun v w' g1, ?_, ?_⟩
   .rw[<- g2];exact g4
   rw[<- g2];rw[<- g2]at g5;exact g5
  rename_i n sz f;obtain rfl:=ez (h3.symm.trans hk);split at hq'<;>try(cases hq';done)
  rename_i ei hei;split at hq'<;>try(cases hq';done)
  rename_i uu huu;split at hq'<;>try(cases hq';done)
  rename_i wr sz2 el2 k f2 hob;simp only[Bb]at hq';subst hq';obtain⟨hp1,hp2,hp3,hp4⟩:=hp;obtain⟨hnm,hno⟩:=hn rfl;have Be:=ae h hx
  have hxr':aq c.imm (.sl n ei.size true f) (a.eval x):=by
   rcases hp2 with h0|h0
   .subst h0
    obtain⟨ad,cap,q1,q2,q3,q4,q5⟩:=Be;exact⟨ad,cap,q1,q2,q3,q4,λhh=>by omega⟩
   rw[<- h0];exact Be
  have h':=h.fresh id hnm hno (.arr false ei.size el n f) w (a.eval x) Cg (Wf.refl w _) (λb hb=>hb.elim)
   ⟨hp3,by simp only[maxLen];omega, .inr ⟨.inl rfl,by simp,by simpa using hxr'⟩⟩
  have hny:bc { old:=c.old,imm:=c.imm,tab:=c.tab,own:=λk=>if k=id then a.eval x else c.own k,blk:=λk=>if k=id then Cg else c.blk k,rows:=c.rows } (s.setO id (some (.arr false ei.size el n f))).o hy (a.eval y):=by
   have hm:=cK hnm hyy;refine bc.evo (c:=c) (o:=s.o) (c':={ old:=c.old,imm:=c.imm,tab:=c.tab,own:=λk=>if k=id then a.eval x else c.own k,blk:=λk=>if k=id then Cg else c.blk k,rows:=c.rows }) (Dc.le.refl c.imm) (λk hkm=>?_) (ae h hyy);have hne:k≠id:=by rintro rfl;exact hm hkm
   exact Vc.of_same (by simp[S.setO,hne]) (by simp[hne])
  obtain⟨v,w',c',k',sz',f',g1,g2,g3,g4,g5⟩:=IL (ty:=o.type) hE h' hny h2 huu hp1;rw[g3]at hob;simp only[a8.arr.injEq]at hob;obtain⟨_,_,_,rfl,_⟩:=hob;simp only[Ma]at g1;refine⟨v,w',c',hrun v w' g1, ?_, ?_⟩
  .rw [g2]at g4
   have e:((s.setO id (some (.arr false ei.size el n f))).setO id (some uu.ob))=s.setO id (some uu.ob):=by
    simp only[S.setO,S.mk.injEq,true_and];funext k;by_cases hk:k=id<;>simp[hk]
   rw[e]at g4;exact g4
  rw[g2]at g5
  have e:((s.setO id (some (.arr false ei.size el n f))).setO id (some uu.ob))=s.setO id (some uu.ob):=by
   simp only[S.setO,S.mk.injEq,true_and];funext k;by_cases hk:k=id<;>simp[hk]
  rw[e]at g5;exact g5
end
end
end
section
open Go.RowKit
def Fc(x y:PV):Prop:=∀m u,aq m x u->aq m y u
def Ob(x y:PC):Prop:=∀m u,mr m x u->mr m y u
def Sg:List PC->List PC->Prop
 | [],[]=>True
 |x::xs,y::ys=>Ob x y/\Sg xs ys
 |_,_=>False
theorem Sg.sound {m:Dc}:∀{xs ys:List PC} {us:List Value},Sg xs ys->ck m xs us->ck m ys us
 | [],[],[],_,_=>trivial
 |_::_,_::_,_::_,h,k=>⟨h.1 _ _ k.1,Sg.sound h.2 k.2⟩
 | [],_::_,_,h,_=>h.elim
 |_::_,[],_,h,_=>h.elim
 | [],[],_::_,_,h=>h.elim
 |_::_,_::_,[],_,h=>h.elim
theorem Ob.refl(x:PC):Ob x x:=λ_ _ h=>h
theorem Sg.refl:∀(xs:List PC),Sg xs xs
 | []=>trivial
 |x::xs=>⟨Ob.refl x,Sg.refl xs⟩
def Tg:HV->HV->Prop
 | .p x, .p y=>Fc x y
 |h,h'=>h=h'
def Cp:List HV->List HV->Prop
 | [],[]=>True
 |x::xs,y::ys=>Tg x y/\Cp xs ys
 |_,_=>False
def Zo:HC->HC->Prop
 | .one x, .one y=>Tg x y
 | .agg l, .agg l'=>Cp l l'
 |_,_=>False
def vz:List HC->List HC->Prop
 | [],[]=>True
 |x::xs,y::ys=>Zo x y/\vz xs ys
 |_,_=>False
def Rg:HR->HR->Prop
 | .v x, .v y=>Zo x y
 | .tup l, .tup l'=>vz l l'
 |_,_=>False
def Zl (x y:Option PV):Prop :=
 match x,y with
 |some a,some b=>Fc a b
 |none,none=>True
 |_,_=>False
def Ic:a8->a8->Prop
 | .mp kk n f, .mp kk' n' f'=>kk'=kk/\n<=n'/\∀m,Zl (f m) (f' m)
 | .ex d v b x, .ex d' v' b' x'=>d'=d/\v'=v/\b'=b/\x'=x
 | .bun B, .bun B'=>B'=B
 | .opq s e n R, .opq s' e' n' R'=>s'=s/\e'=e/\n'=n/\∀v bk h,R v bk h->R' v bk h
 | .bld fr T e l, .bld fr' T' e' l'=>(fr'=true->fr=true)/\T'=T/\e'=e/\l'=l
 | .box l, .box l'=>Cp l l'
 | .arr wr s e n f, .arr wr' s' e' n' f'=>(wr'=true->wr=true)/\s'=s/\e'=e/\n'=n/\∀i j,i<n->j<s->Fc (f i j) (f' i j)
 | .arr wr s e n f, .arrh s' e' n' ms' f'=>(wr=true\/n=0)/\s'=s/\e'=e/\n'=n/\∀i j,i<n->j<s->Tg (.p (f i j)) (f' i j)
 | .arrh s e n ms f, .arrh s' e' n' ms' f'=>s'=s/\e'=e/\n'=n/\(∀i j,i<n->j<s->Tg (f i j) (f' i j))/\((∀k∈ms,k∈ms')\/∀i j k,i<n->j<s->(f' i j).men k->k∈ms')
 | .arrh s e n ms f, .arr wr' s' e' n' f'=>s'=s/\e'=e/\n'=n/\∀i j,i<n->j<s->Tg (f i j) (.p (f' i j))
 | .nest e et es n m g pd, .nest e' et' es' n' m' g' pd'=>e'=e/\et'=et/\es'=es/\n'=n/\pd'=pd/\(∀i,i<n->m' i=m i)/\∀i r j,i<n->r<m i->j<es->Fc (g i r j) (g' i r j)
 |_,_=>False
theorem Fc.refl(x:PV):Fc x x:=λ_ _ h=>h
theorem Tg.refl(h:HV):Tg h h:=by cases h<;>first|exact Fc.refl _|rfl
def Cp.refl:∀(l:List HV),Cp l l
 | []=>trivial
 |x::xs=>⟨Tg.refl x,Cp.refl xs⟩
def Zo.refl(x:HC):Zo x x:=by cases x<;>first|exact Tg.refl _|exact Cp.refl _
def vz.refl:∀(l:List HC),vz l l
 | []=>trivial
 |x::xs=>⟨Zo.refl x,vz.refl xs⟩
theorem Rg.refl(x:HR):Rg x x:=by cases x<;>first|exact Zo.refl _|exact vz.refl _
theorem Zl.refl(x:Option PV):Zl x x:=by cases x<;>first|exact Fc.refl _|trivial
theorem Zl.of_eq{x y:Option PV}(h:x=y):Zl x y:=h▸Zl.refl x
theorem Ic.refl (x:a8):Ic x x:=by
 cases x with
 |mp kk n f=>exact⟨rfl,Yb _,λ_=>Zl.refl _⟩
 |bld fr T e l=>exact⟨λh=>h,rfl,rfl,rfl⟩
 |ex d v b x=>exact⟨rfl,rfl,rfl,rfl⟩
 |bun B=>exact rfl
 |opq s e n R=>exact⟨rfl,rfl,rfl,λ_ _ _ h=>h⟩
 |box l=>exact Cp.refl l
 |arr wr s e n f=>exact⟨λh=>h,rfl,rfl,rfl,λ_ _ _ _=>Fc.refl _⟩
 |arrh s e n ms f=>exact⟨rfl,rfl,rfl,λ_ _ _ _=>Tg.refl _, .inl λ_ h=>h⟩
 |nest e et es n m g pd=>exact⟨rfl,rfl,rfl,rfl,rfl,λ_ _=>rfl,λ_ _ _ _ _ _=>Fc.refl _⟩
theorem Ic.of_eq{x y:a8}(h:x=y):Ic x y:=h▸Ic.refl x
theorem Rg.of_eq{x y:HR}(h:x=y):Rg x y:=h▸Rg.refl x
theorem Fc.of_eq{x y:PV}(h:x=y):Fc x y:=h▸Fc.refl x
theorem Fc.trans{x y z:PV}(h:Fc x y)(k:Fc y z):Fc x z:=λm u hu=>k m u (h m u hu)
theorem Fc.sl {n n' s s':Nat} {c c':Bool} {f f':Nat->Nat->PV} (hn:n'=n) (hs:s'=s\/n=0) (hc:c'=true->c=true) (hf:∀i j,i<n->j<s->Fc (f i j) (f' i j)):Fc (.sl n s c f) (.sl n' s' c' f'):=by
 subst hn;rintro m u ⟨ad,cap,h1,h2,h3,h4,h5⟩;refine⟨ad,cap,h1,h2,h3,λh=>h4 (hc h),λhp=>?_⟩;obtain rfl:s'=s:=by omega
 obtain⟨b,off,hb,hcell⟩:=h5 hp
 exact ⟨b,off,hb,λi j hi hj=>by
  obtain⟨x,hx,hr⟩:=hcell i j hi hj
  exact⟨x,hx,hf i j hi hj m x hr⟩⟩
theorem Fc.raw_sl {ad:Option Addr} {cap s:Nat} {f:Nat->Nat->PV} (h:cap<=maxLen):Fc (.raw (.slice ad 0 cap)) (.sl 0 s false f):=by
 rintro m u ⟨rfl,_⟩;exact⟨ad,cap,rfl,Zb _,h,(λh=>by cases h),λh=>by omega⟩
theorem Fc.any_of{x:PV}:Fc x .any:=λ_ _ h=>aq.oneCell h
section
variable {c:Pc}{o:av}
def bc.co {x y:HV} {u:Value} (h:Tg x y) (hr:bc c o x u):bc c o y u:=by
 cases x<;>cases y<;>simp only[Tg]at h<;>first|(cases h;done)|(exact h _ _ hr)|(subst h;exact hr)|(injections;subst_vars;exact hr)
def b7.co:∀{xs ys:List HV} {us:List Value},Cp xs ys->b7 c o xs us->b7 c o ys us
 | [],[],[],_,_=>trivial
 |_::_,_::_,_::_,h,k=>⟨k.1.co h.1,b7.co h.2 k.2⟩
 | [],_::_,_,h,_=>h.elim
 |_::_,[],_,h,_=>h.elim
 | [],[],_::_,_,h=>h.elim
 |_::_,_::_,[],_,h=>h.elim
def gp.co {x y:HC} {u:Value} (h:Zo x y) (hr:gp c o x u):gp c o y u:=by
 cases x<;>cases y<;>simp only[Zo]at h
 .exact bc.co h hr
 obtain⟨us,e,hl⟩:=hr;exact⟨us,e,hl.co h⟩
def cb.co:∀{xs ys:List HC} {us:List Value},vz xs ys->cb c o xs us->cb c o ys us
 | [],[],[],_,_=>trivial
 |_::_,_::_,_::_,h,k=>⟨k.1.co h.1,cb.co h.2 k.2⟩
 | [],_::_,_,h,_=>h.elim
 |_::_,[],_,h,_=>h.elim
 | [],[],_::_,_,h=>h.elim
 |_::_,_::_,[],_,h=>h.elim
def ap.co {x y:HR} {u:Value} (h:Rg x y) (hr:ap c o x u):ap c o y u:=by
 cases x<;>cases y<;>simp only[Rg]at h
 .exact gp.co h hr
 obtain⟨us,e,hl⟩:=hr;exact⟨us,e,hl.co h⟩
end
theorem Tg.p_men {x:PV} {y:HV} (h:Tg (.p x) y) (k:Nat):¬y.men k:=by
 cases y with
 |p y=>exactλhf=>hf
 |ref=>cases h
 |ptr=>cases h
 |eptr=>cases h
 |win=>cases h
 |clo=>cases h
 |row=>cases h
 |rptr=>cases h
 |pin=>cases h
theorem Tg.men {x y:HV} (h:Tg x y) {k:Nat} (hk:y.men k):x.men k:=by
 cases x with
 |p x=>exact(Tg.p_men h k hk).elim
 |ref=>obtain rfl:_=y:=h;exact hk
 |ptr=>obtain rfl:_=y:=h;exact hk
 |eptr=>obtain rfl:_=y:=h;exact hk
 |win=>obtain rfl:_=y:=h;exact hk
 |clo=>obtain rfl:_=y:=h;exact hk
 |row=>obtain rfl:_=y:=h;exact hk
 |rptr=>obtain rfl:_=y:=h;exact hk
 |pin=>obtain rfl:_=y:=h;exact hk
theorem Ic.form {a b:a8} (h:Ic a b):(∃l l',a=.box l/\b=.box l')\/∃s e n,a.dim=some (s,e,n)/\b.dim=some (s,e,n):=by
 cases a<;>cases b<;>simp only[Ic]at h
 .exact .inr ⟨_,_,_,rfl,rfl⟩
 .exact .inr ⟨_,_,_,rfl,rfl⟩
 .obtain⟨rfl,_⟩:=h;exact .inr ⟨_,_,_,rfl,rfl⟩
 .exact .inr ⟨_,_,_,rfl,rfl⟩
 .obtain⟨rfl,rfl,rfl,_⟩:=h;exact .inr ⟨_,_,_,rfl,rfl⟩
 .grind
 .obtain⟨_,rfl,rfl,rfl,_⟩:=h;exact .inr ⟨_,_,_,rfl,rfl⟩
 .obtain⟨_,rfl,rfl,rfl,_⟩:=h;exact .inr ⟨_,_,_,rfl,rfl⟩
 .obtain⟨rfl,rfl,rfl,_⟩:=h;exact .inr ⟨_,_,_,rfl,rfl⟩
 .obtain⟨rfl,rfl,rfl,_⟩:=h;exact .inr ⟨_,_,_,rfl,rfl⟩
 obtain⟨rfl,rfl,rfl,rfl,rfl,_⟩:=h;exact .inr ⟨_,_,_,oF,oF⟩
section
variable {c:Pc}
theorem Ic.nest {a b:a8} {id:Nat} (h:Ic a b):ge c a c b id:=λe et es n m g pd hb=>by
 subst hb;cases a<;>simp only[Ic]at h;obtain⟨rfl,rfl,rfl,rfl,rfl,h1,_⟩:=h
 grind
theorem Ic.evo {o o':av} {id:Nat} {a b:a8} (h:Ic a b) (ha:o id=some a) (hb:o' id=some b):Vc c o c o' id:=by
 rcases h.form with⟨l,l',rfl,rfl⟩|⟨s,e,n,h1,h2⟩
 .exact .inr (.inl ⟨l,l',ha,hb,rfl⟩)
 exact .inr (.inr ⟨a,b,s,e,n,n,ha,h1,hb,h2,Yb _,λ_=>rfl,h.nest⟩)
def fL {o o':av} (ho:∀id ob,o' id=some ob->∃ob',o id=some ob'/\Ic ob' ob):∀k,Vc c o c o' k:=λk=>by
 cases hk:o' k with
 |none=>exact .inl hk
 | some ob =>
  obtain⟨ob',h1,h2⟩:=ho k ob hk;exact h2.evo h1 hk
theorem eq.co{base:Nat}{o:av}{w:World}{id:Nat}{a b:a8}(h:eq base c o w id a)(hc:Ic a b):eq base c o w id b:=by
 cases a with
 | nest e et es n m g pd =>
  cases b<;>simp only[Ic]at hc;obtain⟨rfl,rfl,rfl,rfl,rfl,hm,hg⟩:=hc;obtain⟨q1,q2,q3,q4,q5,q6,q7⟩:=h;refine⟨q1,q2,λi hi=>by rw[hm i hi];exact q3 i hi,q4,q5,λi hi=>?_,q7⟩;rw[hm i hi]
  rcases q6 i hi with r0|⟨ys,r1,r2⟩
  .exact .inl r0
  refine .inr ⟨ys,r1,λr j hr hj=>?_⟩;obtain⟨x,hx,Be⟩:=r2 r j hr hj;exact⟨x,hx,hg i r j hi hr hj _ _ Be⟩
 | bun B =>
  cases b<;>simp only[Ic]at hc
  grind
 | opq s e n R =>
  cases b<;>simp only[Ic]at hc;obtain⟨rfl,rfl,rfl,hR⟩:=hc;exact⟨h.1,h.2.1,hR _ _ _ h.2.2⟩
 | ex d v b' x =>
  cases b<;>simp only[Ic]at hc
  grind
 | bld fr T e l =>
  cases b<;>simp only[Ic]at hc;obtain⟨hf,rfl,rfl,rfl⟩:=hc;obtain⟨b,p,v,h1,h2,h3,h4,h5,h6,h7,h8⟩:=h;exact⟨b,p,v,h1,h2,h3,h4,h5,h6,h7,λhh=>h8 (hf hh)⟩
 | mp kk n f =>
  cases b<;>simp only[Ic]at hc;rename_i kk' n' f';obtain⟨rfl,hn,hf⟩:=hc;obtain⟨b,es,clock,q1,q2,q3,q4,q5,q6,q7,q8,q9⟩:=h;refine⟨b,es,clock,q1,q2,q3,q4,q5,Nd q6 hn,q7,λx hx=>?_,λkey y hy=>?_⟩
  .obtain ⟨key,y,r1,r2,r3⟩:=q8 x hx
   have:=hf key;rw[r2]at this
   cases hy:f' key with
   |none=>rw[hy]at this;exact this.elim
   |some y'=>rw[hy]at this;exact⟨key,y',r1,hy,this _ _ r3⟩
  have:=hf key;rw[hy]at this
  cases hy2:f key with
  |none=>rw[hy2]at this;exact this.elim
  |some y2=>exact q9 key y2 hy2
 | box l =>
  cases b<;>simp only[Ic]at hc;obtain⟨b,C,e,q1,q2,q3,q4,q5⟩:=h;exact⟨b,C,e,q1,q2,q3,q4,q5.co hc⟩
 | arr wr s e n f =>
  cases b<;>simp only[Ic]at hc
  .obtain ⟨g1,rfl,rfl,rfl,g2⟩:=hc
   obtain⟨q0,q1,q2⟩:=h;refine⟨q0,q1, ?_⟩
   rcases q2 with⟨q3,xs,q4,q5⟩|⟨q3,q4,q5⟩
   .exact .inl ⟨q3,xs,q4,λi j hi hj=>by
     obtain⟨x,hx,hr⟩:=q5 i j hi hj
     exact⟨x,hx,g2 i j hi hj _ _ hr⟩⟩
   refine .inr ⟨?_,q4,Fc.sl rfl (.inl rfl) (λh=>h) (λi j hi hj=>g2 i j hi hj) _ _ q5⟩
   grind
  rename_i s' e' n' ms' f';obtain⟨g1,rfl,rfl,rfl,g2⟩:=hc;obtain⟨q0,q1,q2⟩:=h;refine⟨q0,q1,λi j k hi hj hk=>((g2 i j hi hj).p_men k hk).elim, ?_⟩
  rcases q2 with⟨q3,xs,q4,q5⟩|⟨q3,q4,q5⟩
  .exact .inl ⟨q3,xs,q4,λi j hi hj=>by
    obtain⟨x,hx,hr⟩:=q5 i j hi hj
    exact⟨x,hx,bc.co (x:=.p (f i j)) (g2 i j hi hj) hr⟩⟩
  have q3':wr=true->n'=0:=λhw=>q3.elim (λq=>by rw[hw]at q;cases q) (λh=>h);have h0:=g1.elim q3' (λh=>h);refine .inr ⟨h0,q4,Fc.sl h0.symm (.inl rfl) (λh=>h) (λi j hi _=>by omega) _ _ q5⟩
 | arrh s e n ms f =>
  cases b<;>simp only[Ic]at hc
  .obtain ⟨rfl,rfl,rfl,g2⟩:=hc
   obtain⟨q0,q1,_,q2⟩:=h;refine⟨q0,q1, ?_⟩
   rcases q2 with⟨q3,xs,q4,q5⟩|⟨rfl,q4,q5⟩
   .exact .inl ⟨q3,xs,q4,λi j hi hj=>by
     obtain⟨x,hx,hr⟩:=q5 i j hi hj
     exact⟨x,hx,bc.co (g2 i j hi hj) hr⟩⟩
   exact .inr ⟨.inr rfl,q4,Fc.sl rfl (.inl rfl) (λh=>h) (λi j hi _=>by omega) _ _ q5⟩
  obtain⟨rfl,rfl,rfl,g2,g3⟩:=hc;obtain⟨q0,q1,qm,q2⟩:=h;refine⟨q0,q1,λi j k hi hj hk=>g3.elim (λg=>g k (qm i j k hi hj ((g2 i j hi hj).men hk))) (λg=>g i j k hi hj hk), ?_⟩
  rcases q2 with⟨q3,xs,q4,q5⟩|⟨rfl,q4,q5⟩
  .exact .inl ⟨q3,xs,q4,λi j hi hj=>by
    obtain⟨x,hx,hr⟩:=q5 i j hi hj
    exact⟨x,hx,hr.co (g2 i j hi hj)⟩⟩
  grind
def ah.relax{w0:World}{nt:Nat}{s:S}{a:Act}{w:World}(h:ah w0 nt c s a w)(s':S)(ht:∀d x,s'.t d=some x->∃y,s.t d=some y/\Rg y x)(ho:∀id ob,s'.o id=some ob->∃ob',s.o id=some ob'/\Ic ob' ob):ah w0 nt c s' a w:=by
 have hevo:∀k,Vc c s.o c s'.o k:=fL ho;refine⟨h.defers,h.size,h.below,λd x hx=>?_,λk ob hob=>?_,λi i' obi obi' b hi hi'=>?_,h.imm,λk ob b hob=>?_,h.was,h.frm,λk ob b hob=>?_,λk hk=>(h.fixed k hk).trans (hevo k)⟩
 .obtain ⟨y,hy,hc⟩:=ht d x hx
  exact ap.co hc ((h.tmps d y hy).evo (Dc.le.refl _) λk _=>hevo k)
 .obtain ⟨ob',h1,h2⟩:=ho k ob hob
  exact((h.objs k ob' h1).keep (o':=s'.o) (c':=c) (w':=w) (Dc.le.refl _) rfl rfl (λj _=>hevo j) (λ_ _=>rfl)).co h2
 .obtain ⟨o1,h1,_⟩:=ho _ _ hi
  obtain⟨o2,h2,_⟩:=ho _ _ hi';exact h.inj i i' o1 o2 b h1 h2
 .obtain ⟨o1,h1,_⟩:=ho _ _ hob
  exact h.sep k o1 b h1
 obtain⟨o1,h1,_⟩:=ho _ _ hob;exact h.fsep k o1 b h1
abbrev Wr:=List (Nat×Option a8)
def jb:Wr->Nat->Option (Option a8)
 | [],_=>none
 |(e,x)::r,d=>bif Nat.beq e d then some x else jb r d
def S.setW(s:S)(l:Wr):S:={ s with o:=λk=>match jb l k with|some r=>r|none=>s.o k }
def ux:∀{l:Wr} {k:Nat} {r:Option a8},jb l k=some r->(k,r)∈l
 | (e,x)::l,k,r,h=>by
  simp only[jb]at h;by_cases hk:e=k
  .simp_all
  have:Nat.beq e k=false:=by
   rw[Ie];simp_all
  rw[this]at h;exact Jh _ (ux (by simpa using h))
def aw5 {l:Wr} {k:Nat} (h:∀p∈l,p.1≠k):jb l k=none:=by
 cases hl:jb l k with
 |none=>rfl
 |some r=>exact Ea rfl (h _ (ux hl))
def lk:List (Nat×a8)->av
 | [],_=>none
 |(e,x)::r,d=>bif Nat.beq e d then some x else lk r d
structure Ll (c:Pc) (o:av) (w:World):Prop where
 objs:∀id ob,o id=some ob->eq 0 c o w id ob
 inj:∀id id' ob ob' b,o id=some ob->o id'=some ob'->c.blk id b->c.blk id' b->id=id'
 imm:∀b ob,c.imm b=some ob->w.heap[b]? = some ob
 sep:∀id ob b,o id=some ob->c.blk id b->c.imm b=none
def dn(P:Program)(f:FuncId)(args:List HC)(o1:List (Nat×a8))(res:HR)(o2:List (Nat×a8))(fx:List Nat):Prop :=
 ∀ (w:World) (c:Pc) (us:List Value),Ll c (lk o1) w->cb c (lk o1) args us ->
  Calls P f us.toArray w λe w'=>∃v c',e=.returned v/\ap c' (lk o2) res v/\Ll c' (lk o2) w'/\Below 0 w w' /\
   (∀b,b<w.heap.size->(∀id ob,lk o1 id=some ob->¬c.blk id b)->w'.heap[b]? = w.heap[b]?/\c'.imm b=c.imm b) /\
   (∀id ob b,lk o2 id=some ob->c'.blk id b->w.heap.size<=b\/∃id0 ob0,lk o1 id0=some ob0/\c.blk id0 b) /\
   (∀id∈fx,Vc c (lk o1) c' (lk o2) id)
def Yl(s:S)(W:List Nat)(k:Nat):Prop:=(∀d x,s.t d=some x->¬x.men k)/\(∀id ob,id∉W->s.o id=some ob->¬ob.men k)/\k<1000
theorem NM.nmx{s:S}{k:Nat}(h:NM s k)(W:List Nat):Yl s W k:=⟨h.1,λid ob _=>h.2.1 id ob,h.2.2⟩
theorem Yl.nm {s:S} {k:Nat} (h:Yl s [k] k) (hn:s.o k=none):NM s k:=⟨h.1,λid ob ho=>h.2.1 id ob (by
 intro hm;rw[Bf.1 hm,hn]at ho
 cases ho) ho,h.2.2⟩
def Rm(o1 o2:List (Nat×a8)):Wr:=o2.map (λp=>(p.1,some p.2))++o1.map (λp=>(p.1,none))
def dx(l:List (Nat×a8)):List Nat:=l.map (·.1)
def LI:∀{l:List (Nat×a8)} {k:Nat} {ob:a8},lk l k=some ob->k∈dx l
 | (e,x)::l,k,ob,h=>by
  simp only[lk]at h;by_cases hk:e=k
  .subst hk;exact Yh
  have:Nat.beq e k=false:=by
   rw[Ie];simp_all
  rw[this]at h;exact Jh _ (LI (l:=l) (by simpa using h))
theorem cB:∀{l:List (Nat×a8)} {k:Nat},k∈dx l->∃ob,lk l k=some ob
 | (e,x)::l,k,h=>by
  simp only[lk];by_cases hk:e=k
  .simp_all
  have:Nat.beq e k=false:=by
   rw[Ie];simp_all
  rw[this]
  rcases Jd.1 h with h|h
  .grind
  simpa using cB h
theorem awk (o1 o2:List (Nat×a8)) (k:Nat):jb (Rm o1 o2) k=match lk o2 k with|some ob=>some (some ob)|none=>match lk o1 k with|some _=>some none|none=>none:=by
 have h1:jb (o1.map λp=>(p.1,(none:Option a8))) k=match lk o1 k with|some _=>some none|none=>none:=by
  induction o1 with
  |nil=>rfl
  | cons p r ih =>
   simp only[Wh,jb,lk]
   grind
 unfold Rm
 induction o2 with
 |nil=>simpa [lk]using h1
 | cons p r ih =>
  simp only[Wh,Ql,jb,lk]
  grind
end
section
variable {w0:World}{nt:Nat}{c:Pc}{s:S}{a:Act}{w:World}
def ah.lend (h:ah w0 nt c s a w) {o1:List (Nat×a8)} (hsub:∀id ob,lk o1 id=some ob->∃ob',s.o id=some ob'/\Ic ob' ob) :
 Ll c (lk o1) w/\∀x u,cb c s.o x u->cb c (lk o1) x u:=by
 have h':=h.relax ⟨λ_=>none,lk o1⟩ (λd x hx=>by cases hx) hsub;exact⟨⟨h'.objs,h'.inj,h'.imm,h'.sep⟩,λx u hx=>cb.evo (Dc.le.refl c.imm) (λk _=>fL hsub k) hx⟩
def ah.fcall(h:ah w0 nt c s a w){o1 o2:List (Nat×a8)}{fx:List Nat}(hsub:∀id ob,lk o1 id=some ob->∃ob',s.o id=some ob'/\Ic ob' ob)
 (hnew:∀id,id∈dx o2->id∉dx o1->s.o id=none) (hnm:∀id,id∈dx o2->id∉fx\/id∉dx o1->Yl s (dx o1++dx o2) id)
 (hcl:∀id ob,lk o2 id=some ob->∀k,ob.men k->k∈dx o2) {w':World} {c':Pc} (hm:Ll c' (lk o2) w') (hb:Below 0 w w')
 (hfr:∀b,b<w.heap.size->(∀id ob,lk o1 id=some ob->¬c.blk id b)->w'.heap[b]? = w.heap[b]?/\c'.imm b=c.imm b)
 (hbk:∀id ob b,lk o2 id=some ob->c'.blk id b->w.heap.size<=b\/∃id0 ob0,lk o1 id0=some ob0/\c.blk id0 b)
 (Eg:∀id∈fx,Vc c (lk o1) c' (lk o2) id) :
 ∃c'',c''.old=c.old/\c''.imm=c'.imm/\ah w0 nt c'' (s.setW (Rm o1 o2)) a w'/\(∀x u,ap c' (lk o2) x u->(∀k,x.men k->k∈dx o2)->ap c'' (s.setW (Rm o1 o2)).o x u):=by
 let c'':Pc:={ old:=c.old,imm:=c'.imm,tab:=c'.tab,own:=λid=>match lk o2 id with|some _=>c'.own id|none=>c.own id,blk:=λid=>match lk o2 id with|some _=>c'.blk id|none=>c.blk id,rows:=λid=>match lk o2 id with|some _=>c'.rows id|none=>c.rows id }
 let s'':=s.setW (Rm o1 o2)
 have ho:∀k,s''.o k=match lk o2 k with|some ob=>some ob|none=>match lk o1 k with|some _=>none|none=>s.o k:=λk=>by
  show(match jb (Rm o1 o2) k with|some r=>r|none=>s.o k)=_;rw[awk]
  cases lk o2 k with
  |some ob=>rfl
  |none=>cases lk o1 k<;>rfl
 have own2:∀k ob,lk o2 k=some ob->c''.own k=c'.own k/\c''.blk k=c'.blk k/\c''.rows k=c'.rows k:=λk ob hk=>by
  refine⟨?_, ?_, ?_⟩
  .show(match lk o2 k with|some _=>c'.own k|none=>c.own k)=_;rw[hk]
  .show(match lk o2 k with|some _=>c'.blk k|none=>c.blk k)=_;rw[hk]
  show(match lk o2 k with|some _=>c'.rows k|none=>c.rows k)=_;rw[hk]
 have own1:∀k,lk o2 k=none->c''.own k=c.own k/\c''.blk k=c.blk k/\c''.rows k=c.rows k:=λk hk=>by
  refine⟨?_, ?_, ?_⟩
  .show(match lk o2 k with|some _=>c'.own k|none=>c.own k)=_;rw[hk]
  .show(match lk o2 k with|some _=>c'.blk k|none=>c.blk k)=_;rw[hk]
  show(match lk o2 k with|some _=>c'.rows k|none=>c.rows k)=_;rw[hk]
 have out:∀k ob,s''.o k=some ob->lk o2 k=none->lk o1 k=none/\s.o k=some ob:=λk ob hk h2=>by
  rw[ho,h2]at hk
  cases h1:lk o1 k with
  |some _=>rw[h1]at hk;cases hk
  |none=>rw[h1]at hk;exact⟨rfl,hk⟩
 have foot:∀k ob b,lk o1 k=none->s.o k=some ob->c.blk k b->b<w.heap.size/\∀id ob,lk o1 id=some ob->¬c.blk id b:=λk ob b h1 hs hbk=>by
  refine⟨((h.objs k ob hs).blk hbk).2,λid ob0 hid e=>?_⟩;obtain⟨ob',hso,_⟩:=hsub id ob0 hid;have:=h.inj id k ob' ob b hso hs e hbk;subst this;rw[h1]at hid;cases hid
 have hle:Dc.le c.imm c'.imm:=λb ob hbo=>by
  have hlt:=(Le.1 (h.imm b ob hbo)).1
  rw [(hfr b hlt λid ob0 hid e=>by
   obtain⟨ob',hso,_⟩:=hsub id ob0 hid;rw[h.sep id ob' b hso e]at hbo
   cases hbo).2]
  exact hbo
 have hevo:∀k,(lk o2 k≠none->k∈fx/\k∈dx o1)->Vc c s.o c'' s''.o k:=λk hk=>by
  cases h2:lk o2 k with
  | none =>
   cases h1:lk o1 k with
   |none=>exact Vc.of_same (by rw[ho,h2,h1]) (own1 k h2).1 (own1 k h2).2.2
   |some ob=>exact .inl (by rw[ho,h2,h1])
  | some ob2 =>
   obtain⟨hkf,hk1⟩:=hk (by rw[h2];simp);obtain⟨ob1,h1⟩:=cB hk1;obtain⟨ob0,h0,hco⟩:=hsub k ob1 h1;have ho2:s''.o k=some ob2:=by rw[ho,h2]
   have hw:=(own2 k ob2 h2).1
   rcases Eg k hkf with e|⟨l,l',e1,e2,e3⟩|⟨oa,ob',sz,e,n,n',e1,e1',e2,e2',e3,e4,e5⟩
   .rw[h2]at e;cases e
   .rw [h1]at e1
    rw[h2]at e2;simp only[Bb]at e1 e2;subst e1;subst e2
    rcases hco.form with⟨l0,l1,rfl,_⟩|⟨_,_,_,_,q⟩
    .exact .inr (.inl ⟨l0,l',h0,ho2,hw.trans e3⟩)
    cases q
   rw[h1]at e1;rw[h2]at e2;simp only[Bb]at e1 e2;subst e1;subst e2
   rcases hco.form with⟨_,_,_,rfl⟩|⟨_,_,_,q1,q2⟩
   .cases e1'
   rw[q2]at e1';simp only[Bb,Tc]at e1';obtain⟨rfl,rfl,rfl⟩:=e1'
   exact .inr (.inr ⟨ob0,_,_,_,_,n',h0,q1,ho2,e2',e3,λhn=>hw.trans (e4 hn),λea et es na ma ga pd hb=>by
    obtain⟨e0,et0,n0,m0,g0,pd0,r1,r2,r3⟩:=e5 _ _ _ _ _ _ _ hb;obtain⟨e6,et6,n6,m6,g6,pd6,t1,t2,t3⟩:=hco.nest (c:=c) (id:=k) _ _ _ _ _ _ _ r1;refine⟨e6,et6,n6,m6,g6,pd6,t1,Nd t2 r2,λi hi=>?_⟩;obtain⟨u1,_⟩:=t3 i hi;obtain⟨u3,u4⟩:=r3 i (Ln hi t2);refine⟨Nd u1 u3,λhm=>?_⟩;rw[(own2 k _ h2).2.2]
    exact u4 Za⟩)
 have hevo2:∀k,k∈dx o2->Vc c' (lk o2) c'' s''.o k:=λk hk=>by
  obtain⟨ob,hob⟩:=cB hk;exact Vc.of_same (by rw[ho,hob]) (own2 k ob hob).1 (own2 k ob hob).2.2
 have hmen:∀k,Yl s (dx o1++dx o2) k\/(lk o2 k≠none->k∈fx/\k∈dx o1):=λk=>by
  by_cases hk:lk o2 k=none
  .exact .inr λe=>Ea hk e
  by_cases h3:k∈fx/\k∈dx o1
  .exact .inr λ_=>h3
  obtain⟨ob,hob⟩:=Option.ne_none_iff_exists'.1 hk;refine .inl (hnm k (LI hob) ?_);by_cases h4:k∈fx
  .exact .inr λh5=>h3 ⟨h4,h5⟩
  exact .inl h4
 have hno:∀D:Nat,w.heap[D]? = some (.deferred (some []))->∀id ob,lk o1 id=some ob->¬c.blk id D:=λD hD id ob hid hbk=>by
  obtain⟨ob',h1,_⟩:=hsub id ob hid;obtain⟨x1,hc,hdt⟩:=(h.objs id ob' h1).data hbk;rw[hD]at hc;cases hc;cases hdt
 refine⟨c'',rfl,rfl,⟨h.defers.keep (λD hD=>(hfr D (Le.1 hD).1 (hno D hD)).1) (λD hi hD=>(hfr D (Le.1 hD).1 (hno D hD)).2.trans hi),h.size,h.below.trans hb,λd x hx=>?_,λk ob hob=>?_,λi i' ob ob' b hi hi' hbi hbi'=>?_,hm.imm,λk ob b hob hbb=>?_,λb hb'=>?_,λb ob hbo=>?_,λk ob b hob hbb=>?_,λk hk=>?_⟩,λx u hx hxm=>?_⟩
 .refine (h.tmps d x hx).evo hle λk hk=>?_
  rcases hmen k with hn|hn
  .exact Ea hk (hn.1 d x hx)
  exact hevo k hn
 .cases h2:lk o2 k with
  | some ob2 =>
   have:ob2=ob:=by
    have e:s''.o k=some ob:=hob;rw[ho,h2]at e;simpa using e
   subst this;exact(hm.objs k ob2 h2).keep (Dc.le.refl _) (own2 k _ h2).1 (own2 k _ h2).2.1 (λj hj=>hevo2 j (hcl k _ h2 j hj)) (λb _=>rfl) (own2 k _ h2).2.2
  | none =>
   obtain⟨h1,hs⟩:=out k ob hob h2;refine(h.objs k ob hs).keep hle (own1 k h2).1 (own1 k h2).2.1 (λj hj=>?_) (λb hbb=>?_) (own1 k h2).2.2
   .rcases hmen j with hn|hn
    .refine Ea hj (hn.2.1 k ob ?_ hs)
     intro hk
     rcases Af.1 hk with hk|hk
     .obtain⟨_,e⟩:=cB hk;rw[h1]at e;cases e
     obtain⟨_,e⟩:=cB hk;rw[h2]at e;cases e
    exact hevo j hn
   exact(hfr b (foot k ob b h1 hs hbb).1 (foot k ob b h1 hs hbb).2).1
 .have mixed:∀i i' ob' ob2,lk o2 i=some ob2->lk o2 i'=none->s''.o i'=some ob'->c'.blk i b->c.blk i' b->False:=λi i' ob' ob2 q1 q2 q3 q4 q5=>by
   obtain⟨r1,r2⟩:=out i' ob' q3 q2;obtain⟨f1,f2⟩:=foot i' ob' b r1 r2 q5
   rcases hbk i ob2 b q1 q4 with e|⟨id0,ob0,e1,e2⟩
   .omega
   exact f2 id0 ob0 e1 e2
  cases h2:lk o2 i with
  | some ob2 =>
   rw[(own2 i _ h2).2.1]at hbi
   cases h2':lk o2 i' with
   | some ob2' =>
    rw[(own2 i' _ h2').2.1]at hbi';exact hm.inj i i' ob2 ob2' b h2 h2' hbi hbi'
   | none =>
    rw[(own1 i' h2').2.1]at hbi';exact(mixed i i' ob' ob2 h2 h2' hi' hbi hbi').elim
  | none =>
   rw[(own1 i h2).2.1]at hbi
   cases h2':lk o2 i' with
   | some ob2' =>
    rw[(own2 i' _ h2').2.1]at hbi';exact(mixed i' i ob ob2' h2' h2 hi hbi' hbi).elim
   | none =>
    rw[(own1 i' h2').2.1]at hbi';exact h.inj i i' ob ob' b (out i ob hi h2).2 (out i' ob' hi' h2').2 hbi hbi'
 .cases h2:lk o2 k with
  | some ob2 =>
   rw[(own2 k _ h2).2.1]at hbb;exact hm.sep k ob2 b h2 hbb
  | none =>
   rw[(own1 k h2).2.1]at hbb;obtain⟨h1,hs⟩:=out k ob hob h2;obtain⟨f1,f2⟩:=foot k ob b h1 hs hbb;show c'.imm b=none;rw[(hfr b f1 f2).2];exact h.sep k ob b hs hbb
 .show c'.imm b=c.old.1 b
  have hb':c.frm b≠none:=hb'
  cases hf:c.frm b with
  |none=>exact Ea hf hb'
  | some ob =>
   have hlt:=(Le.1 (h.frm b ob hf)).1
   rw [(hfr b hlt λid ob0 hid e=>by
    obtain⟨ob',hso,_⟩:=hsub id ob0 hid;rw[h.fsep id ob' b hso e]at hf
    cases hf).2]
   exact h.was b hb'
 .have hf:c.frm b=some ob:=hbo
  have hlt:=(Le.1 (h.frm b ob hf)).1
  rw [(hfr b hlt λid ob0 hid e=>by
   obtain⟨ob',hso,_⟩:=hsub id ob0 hid;rw[h.fsep id ob' b hso e]at hf
   cases hf).1]
  exact h.frm b ob hf
 .show c.frm b=none
  cases h2:lk o2 k with
  | some ob2 =>
   rw[(own2 k _ h2).2.1]at hbb
   rcases hbk k ob2 b h2 hbb with e|⟨id0,ob0,e1,e2⟩
   .cases hf:c.frm b with
    |none=>rfl
    | some x =>
     have:=(Le.1 (h.frm b x hf)).1;omega
   obtain⟨ob',hso,_⟩:=hsub id0 ob0 e1;exact h.fsep id0 ob' b hso e2
  | none =>
   rw[(own1 k h2).2.1]at hbb;exact h.fsep k ob b (out k ob hob h2).2 hbb
 .rcases hmen k with hn|hn
  .exact Ea hn.2.2 Za
  exact(h.fixed k hk).trans (hevo k hn)
 exact ap.evo (c:=c') (o:=lk o2) (Dc.le.refl c'.imm) (λk hk=>hevo2 k (hxm k hk)) hx
end
end
section
open Go.RowKit
section
variable {P:Program}{E:Xc}{nt:Nat}{s:S}{w0:World}{m0:Wm}{a:Act}{w:World}{c:Pc}
open Classical in
noncomputable def Pb (c:Pc) (w:World) (id:Nat):Dc:=λb=>if c.blk id b then w.heap[b]? else c.imm b
section
variable {id:Nat}
def vt (h:ah w0 nt c s a w) {ob:a8} (ho:s.o id=some ob):vk (Pb c w id):=c.tab.mono λb x hb=>by
 unfold Pb;by_cases hk:c.blk id b
 .rw[h.sep id ob b ho hk]at hb;cases hb
 rw[Ca hk];exact hb
def ah.freeze(h:ah w0 nt c s a w){ob:a8}(ho:s.o id=some ob):ah w0 nt { old:=c.old,imm:=Pb c w id,tab:=vt h ho,own:=c.own,blk:=c.blk,rows:=c.rows } (s.setO id none) a w:=by
 have hle:Dc.le c.imm (Pb c w id):=λb x hb=>by
  unfold Pb;by_cases hk:c.blk id b
  .rw[h.sep id ob b ho hk]at hb;cases hb
  rw[Ca hk];exact hb
 have hevo:∀k,Vc c s.o { old:=c.old,imm:=Pb c w id,tab:=vt h ho,own:=c.own,blk:=c.blk,rows:=c.rows } (s.setO id none).o k:=λk=>by
  by_cases hk:k=id
  .subst hk;exact .inl (by simp[S.setO])
  exact Vc.of_same (by simp[S.setO,hk]) rfl
 have hold:∀k obk,(s.setO id none).o k=some obk->k≠id/\s.o k=some obk:=λk obk hk=>by
  by_cases hki:k=id
  .subst hki;simp[S.setO]at hk
  exact⟨hki,by simpa [S.setO,hki]using hk⟩
 refine ⟨h.defers.keep (λ_ _=>rfl) (λD hD hd=>by
  show Pb c w id D=none;unfold Pb
  rw [Ca (λe=>by
   obtain⟨x1,hc,hdt⟩:=(h.objs id ob ho).data e;rw[hd]at hc;cases hc
   cases hdt)]
  exact hD),h.size,h.below,λd x hx=>(h.tmps d x hx).evo hle λk _=>hevo k,λk obk hobk=>?_,λi i' obi obi' b hi hi'=>h.inj i i' obi obi' b (hold _ _ hi).2 (hold _ _ hi').2,λb x hb=>?_,λk obk b hobk hb=>?_,λb hb=>?_,h.frm,λk obk b hobk hb=>h.fsep k obk b (hold _ _ hobk).2 hb,λk hk=>(h.fixed k hk).trans (hevo k)⟩
 .exact(h.objs k obk (hold _ _ hobk).2).keep hle rfl rfl (λj _=>hevo j) (λ_ _=>rfl)
 .have hb:Pb c w id b=some x:=hb
  unfold Pb at hb;split at hb
  .exact hb
  exact h.imm b x hb
 .show Pb c w id b=none
  obtain⟨hne,hs⟩:=hold _ _ hobk;unfold Pb;rw[Ca λe=>hne (h.inj k id obk ob b hs ho hb e)];exact h.sep k obk b hs hb
 show Pb c w id b=c.old.1 b;unfold Pb;rw[Ca λe=>hb (h.fsep id ob b ho e)];exact h.was b hb
def yW(h:ah w0 nt c s a w){b off:Nat}{x:Value}(hb:c.blk id b)(hc:w.cell? ⟨b,off,none⟩=some x):gz (Pb c w id) b off=some x:=by
 unfold World.cell? at hc;unfold gz Pb;rw[Ba hb];dsimp only at hc;split at hc
 .rename_i cs e fr hb'
  rw[hb'];simpa using hc
 cases hc
def mU (h:ah w0 nt c s a w) {ob:a8} (ho:s.o id=some ob):Dc.le c.imm (Pb c w id):=λb x hb=>by
 unfold Pb;by_cases hk:c.blk id b
 .rw[h.sep id ob b ho hk]at hb;cases hb
 rw[Ca hk];exact hb
def s8(h:ah w0 nt c s a w){wr:Bool}{sz:Nat}{e:TypeId}{n:Nat}{f:Nat->Nat->PV}(ho:s.o id=some (.arr wr sz e n f)):aq (Pb c w id) (.sl n sz false f) (c.own id):=by
 have hle:=mU h ho;obtain⟨h0,h1,h5⟩:=h.objs id _ ho
 rcases h5 with⟨h6,xs,h2,h4⟩|⟨h6,h7,h8⟩
 .rcases h2.2 with⟨hv,hz⟩|⟨g,cap,cur,hv,hbase,hheap,hcap,hmax,hcs,htake⟩
  .exact⟨none,0,by rw[hv,hz],by omega,by simp[maxLen],(λhh=>by cases hh),λhn=>by omega⟩
  refine⟨_,cap,by rw[hv],hcap,hmax,(λhh=>by cases hh),λhn=>⟨g,0,rfl,λi j hi hj=>?_⟩⟩;obtain⟨x,hx,hr⟩:=h4 i j hi hj;have:=h2.cells (g:=g) (by rw[hv];rfl) _ _ hx;rw[add_lit]at this;exact⟨x,yW h (by rw[h6,hv];rfl) this,aq.mono hle hr⟩
 obtain⟨ad,cap,q1,q2,q3,q4,q5⟩:=aq.mono hle h8;exact⟨ad,cap,q1,q2,q3,(λhh=>by cases hh),q5⟩
def zX(kk:KK)(n:Nat)(f:MK->Option PV):PV:=.mp kk n (λm=>(f m).isSome) λm=>(f m).getD .any
def ax1 (h:ah w0 nt c s a w) {wr:Bool} {sz:Nat} {e:TypeId} {n i m:Nat} {f:Nat->Nat->PV} (ho:s.o id=some (.arr wr sz e n f)) {u:Value} (hu:bc c s.o (.win id n i m) u):aq (Pb c w id) (.sl m sz false λa b=>f (i+a) b) u:=by
 obtain⟨ad,ad',cap,q1,q2,q3,q4,q5,q6⟩:=Ky hu ho rfl;obtain⟨ad2,cap2,r1,r2,r3,_,r5⟩:=s8 h ho;rw[q1]at r1;simp only[Ka,true_and]at r1;obtain⟨rfl,rfl⟩:=r1;refine⟨ad',cap-i,q2,by omega,by omega,(λhh=>by cases hh),λhm=>?_⟩;obtain⟨b,off,rfl,hc⟩:=r5 Za;obtain rfl:=q6 Za;refine⟨b,off+i*sz,by simp[add_lit],λa j ha hj=>?_⟩;obtain⟨x,hx,hr⟩:=hc (i+a) j Za hj;exact⟨x,by rw[Xk off,<- Xk (i*sz),<- Mf];exact hx,hr⟩
def awl (h:ah w0 nt c s a w) {l:List HV} {ps:List PV} (ho:s.o id=some (.box l)) (hp:mj l=some ps):aq (Pb c w id) (.vp ps.length λj=>ps.getD j .any) (c.own id):=by
 have hle:=mU h ho;obtain⟨b,C,e,h1,h2,h3,h4,h5⟩:=h.objs id _ ho;have hP:=t6 h5 hp;refine⟨b,0,h1,λj hj=>?_⟩;obtain⟨v,hv,hr⟩:=hP.get j ps[j] (Hc hj);refine⟨v,yW h (by rw[h2];rfl) ?_,by simpa [List.getD,Hc hj]using aq.mono hle hr⟩;rw[Oe,cell_of_row w b j C e (0,0) h4];simpa using hv
def ah.retell(h:ah w0 nt c s a w)(d:Nat)(x:HR)(hx:ap c s.o x (a.tmps.getD d undef)):ah w0 nt c (s.put d (some x)) a w:=by
 refine⟨h.defers,h.size,h.below,λk y hy=>?_,h.objs,h.inj,h.imm,h.sep,h.was,h.frm,h.fsep,h.fixed⟩;simp only[S.put]at hy;by_cases hk:k=d
 .subst hk
  rw[Ba rfl]at hy;simp only[Bb]at hy;subst hy;exact hx
 rw[Ca hk]at hy;exact h.tmps k y hy
def Br(e:Ev)(d:Nat)(r:HR):Ev:=λy=>match y with | .tmp k=>bif Nat.beq k d then some r else e y|_=>e y
def ay3(s:S)(d:Nat)(r:HR)(id:Nat):ev ((s.setO id none).put d (some r))=Br (ev s) d r:=by
 funext y
 cases y with
 | tmp k =>
  simp only[ev,Br,S.put,S.setO];by_cases hk:k=d
  .subst hk;simp
  have:Nat.beq k d=false:=by
   rw[Ie];exactλhb=>hk (Vi hb)
  simp[hk,this]
 |_=>rfl
def zi(E:Xc)(o:av)(e:Ev):Op->Option (Ge×Nat)
 | .slice t (.tmp d) lo hi mx =>
  match e (.tmp d) with
  | some (.v (.one (.ref id n))) =>
   match o id with
   | some (.arr _ sz _ n' f) =>
    match mh E (Br e d (bu (.sl n sz false f))) t (.tmp d) lo hi mx with
    |some out=>some (⟨n'=n/\out.pre,out.val⟩,id)
    |none=>none
   |_=>none
  |_=>none
 |_=>none
def ark{e:Ev}{t:TypeId}{x:Operand}{lo hi mx:Option Operand}{out:Ge}(h:mh E e t x lo hi mx=some out):∃y,out.val=bu y:=by
 unfold mh at h;split at h<;>try(cases h;done)
 .split at h<;>try(cases h;done)
  simp only[Bb]at h;subst h;exact⟨_,rfl⟩
 split at h<;>try(cases h;done)
 split at h<;>try(cases h;done)
 simp only[Bb]at h;subst h;exact⟨_,rfl⟩
def arh (hE:dl P E) (h:ah w0 nt c s a w) {o:Oper} {out:Ge} (hq:zi E s.o (ev s) o.op=some (out,id)) (hp:out.pre):
 ∃v c',(execOp a.eval o).run P w=.ok (.value v) w/\c'.old=c.old/\ah w0 nt c' (s.setO id none) a w/\ap c' (s.setO id none).o out.val v:=by
 unfold zi at hq;split at hq<;>try(cases hq;done)
 rename_i t d lo hi mx hop;split at hq<;>try(cases hq;done)
 rename_i id1 n hd;split at hq<;>try(cases hq;done)
 rename_i wr sz e n' f ho;split at hq<;>try(cases hq;done)
 rename_i out1 hsl;simp only[Bb,Tc]at hq;obtain⟨rfl,rfl⟩:=hq;obtain⟨rfl,hp⟩:=hp;have hfr:=h.freeze ho
 have hrep:ap { old:=c.old,imm:=Pb c w id1,tab:=vt h ho,own:=c.own,blk:=c.blk,rows:=c.rows } (s.setO id1 none).o (bu (.sl n' sz false f)) (a.tmps.getD d undef):=by
  obtain⟨_,_,h3⟩:=h.tmps d _ hd;have:=(h3 _ _ _ _ ho rfl).2 rfl;rw[this];exact s8 h ho
 have hre:=hfr.retell d _ hrep;rw[<- ay3 s d _ id1]at hsl;obtain⟨v,hv,hvr⟩:=XW hE hre hsl hp;refine⟨v,_, ?_,(by rfl),hfr,hvr⟩;unfold execOp;simp only[hop];have:(Instr.sliceAt t (a.eval (.tmp d)) (lo.map a.eval) (hi.map a.eval) (mx.map a.eval)).run P w=.ok v w:=hv;simp[this]
end
end
end
end Go.Hx
namespace Go.Hx
theorem Ra{x:PV}:Fc x x:=Fc.refl x
theorem Sa{x:PC}:Ob x x:=Ob.refl x
theorem Ta{x:List PC}:Sg x x:=Sg.refl x
theorem Ua{x:HR}:Rg x x:=Rg.refl x
abbrev Va:=@Fc.of_eq
abbrev Wa:=@Fc.sl
abbrev Xa:=@Rg.of_eq
theorem Ya{s r:Nat}{f g:Nat->Nat->PV}:Fc (.sl 0 s true f) (.sl 0 r true g):=Fc.sl rfl (.inr rfl) (fun h=>h) (fun i j hi _=>absurd hi (Ud i))
end Go.Hx
