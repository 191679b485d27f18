/- A part of the proof: Hx9. -/
import Derived.Test.YtmoggbnlhllhaaaGreatDoorUx05
set_option linter.all false
namespace Go.Hx
section
open Go.RowKit
section
variable {P:Program}{E:Env}{w0:World}{nt:Nat}{c:Ctx}{s:S}{a:Act}{w:World}
def f3(n:Nat)(f g:Nat->Nat->PV):Nat->Nat->PV:=fun i j=>if i<n then f i j else g (i-n) j
def xa (o:ap) (id:Nat):HV->Option (Prop×Nat×Nat×(Nat->Nat->PV))
 | .p (.sl m sz _ g)=>some (True,m,sz,g)
 | .p (.raw (.slice _ 0 _))=>some (True,0,1,fun _ _=>.any)
 | .ref id' m =>
  match Nat.beq id id',o id' with
  |false,some (.arr _ sz _ m' g)=>some (m'=m,m,sz,g)
  |_,_=>none
 |_=>none
def re(E:Env)(o:ap)(id:Nat)(n:Nat)(wb:Bool)(el:TypeId)(y:HV):Option Upd :=
 match E el,o id,xa o id y with
 | some ei,some (.arr wr sz el' n' f),some (p,m,sz',g) =>
  match ei.zero with
  | some z =>
   match decide (z.length=ei.size) with
   |true=>some ⟨p/\n'=n/\el'=el/\ei.size=sz/\(sz'=sz\/m=0)/\n+m<=9223372036854775807/\(n+m)*ei.bytes<=140737488355328/\(wb=true->wr=true\/0<m),id, .arr wb sz el (n+m) (f3 n f g)⟩
   |false=>none
  |none=>none
 |_,_,_=>none
def ou(n:Nat)(f g:Nat->Nat->HV):Nat->Nat->HV:=fun i j=>if i<n then f i j else g (i-n) j
def a5r(o:ap)(id:Nat)(y:HV):Option (Prop×Nat×Nat×List Nat×(Nat->Nat->HV)) :=
 match xa o id y with
 |some (p,m,sz,g)=>some (p,m,sz,[],fun i j=>.p (g i j))
 | none =>
  match y with
  | .ref id' m =>
   match Nat.beq id id',o id' with
   |false,some (.arrh sz _ m' ms g)=>some (m'=m,m,sz,ms,g)
   |_,_=>none
  |_=>none
def yr(E:Env)(o:ap)(id:Nat)(n:Nat)(el:TypeId)(y:HV):Option Upd :=
 match E el,o id,a5r o id y with
 | some ei,some (.arrh sz el' n' ms f),some (p,m,sz',ms',g) =>
  match ei.zero with
  | some z =>
   match decide (z.length=ei.size) with
   |true=>some ⟨p/\n'=n/\el'=el/\ei.size=sz/\(sz'=sz\/m=0)/\n+m<=9223372036854775807/\(n+m)*ei.bytes<=140737488355328,id, .arrh sz el (n+m) (ms'++ms) (ou n f g)⟩
   |false=>none
  |none=>none
 |_,_,_=>none
def aaf(E:Env)(o:ap)(id:Nat)(n:Nat)(el:TypeId)(y:HV):Option Upd :=
 match E el,o id,a5r o id y with
 | some ei,some (.nest e et es n' m g none),some (p,1,sz',ms',gg) =>
  match gg 0 0 with
  | .ref id' k =>
   match ei.zero with
   | some z =>
    match decide (z.length=ei.size) with
    |true=>some ⟨p/\n'=n/\e=el/\ei.size=1/\sz'=1/\n+1<=9223372036854775807/\(n+1)*ei.bytes<=140737488355328,id, .nest e et es n' m g (some (id',k))⟩
    |false=>none
   |none=>none
  |_=>none
 |_,_,_=>none
structure App where
 pre:Prop
 val:HR
 id:Nat
 ob:aa
 new:Bool
def mvF(f:Nat->Nat->PV)(p j m:Nat):Nat->Nat->PV:=fun a b=>if p<=a/\a<p+m then f (a-p+j) b else f a b
def ru(f:Nat->Nat->PV)(i m:Nat)(z:List Value):Nat->Nat->PV:=fun a b=>if i<=a/\a<i+m then l7 (z.getD b (.bool false))else f a b
def a3j (E:Env) (o:ap) (el:TypeId) (id n i k:Nat):HV->Option App
 | .win id2 n2 j m =>
  match Nat.beq id2 id,E el,o id with
  |true,some ei,some (.arr true sz el' n' f)=>some ⟨n'=n/\n2=n/\ei.size=sz/\i+k+m<=n, .v (.one (.win id n i (k+m))),id, .arr true sz el' n' (mvF f (i+k) j m),false⟩
  |_,_,_=>none
 |_=>none
def acy (o:ap) (z:List Value) (size:Nat):HV->Option App
 | .win id n i m =>
  match o id with
  |some (.arr true sz el n' f)=>some ⟨n'=n/\size=sz, .tup [],id, .arr true sz el n' (ru f i m z),false⟩
  |_=>none
 |_=>none
def y6(E:Env)(o:ap)(e:Ev):List Operand->List TypeId->Option App
 | [x],[t] =>
  match E t with
  | some ti =>
   match ti.k with
   | .slice el =>
    match E el with
    | some ei =>
     match ei.zero with
     | some z =>
      match ot z,decide (z.length=ei.size) with
      | true,true =>
       match e x with
       |some (.v (.one h))=>acy o z ei.size h
       |_=>none
      |_,_=>none
     |none=>none
    |none=>none
   |_=>none
  |none=>none
 |_,_=>none
def x5(E:Env)(o:ap)(id:Nat)(wb:Bool)(el:TypeId)(hy:HV):HV->Option App
 | .win id1 n i k=>a3j E o el id1 n i k hy
 | .pin id1 n ad cap =>
  match re E o id1 n wb el hy with
  | some u =>
   match u.ob with
   | .arr _ _ _ k _=>some ⟨u.pre/\k<=cap, .v (.one (.pin id1 k ad cap)),id1,u.ob,false⟩
   |_=>none
  |none=>none
 | .ref id1 n =>
  match re E o id1 n wb el hy with
  | some u =>
   match u.ob with
   | .arr _ _ _ k _=>some ⟨u.pre, .v (.one (.ref id1 k)),id1,u.ob,false⟩
   |_=>none
  | none =>
   match yr E o id1 n el hy with
   | some u =>
    match u.ob with
    | .arrh _ _ k _ _=>some ⟨u.pre, .v (.one (.ref id1 k)),id1,u.ob,false⟩
    |_=>none
   | none =>
    match aaf E o id1 n el hy with
    |some u=>some ⟨u.pre, .v (.one (.ref id1 (n+1))),id1,u.ob,false⟩
    |none=>none
 | .p (.sl n sz true f) =>
  match E el with
  | some ei =>
   match re E (fun k=>if k=id then some (.arr false ei.size el n f)else o k) id n wb el hy with
   | some u =>
    match u.ob with
    | .arr _ _ _ k _=>some ⟨u.pre/\(n=0\/sz=ei.size)/\0<ei.size/\n<=9223372036854775807, .v (.one (.ref id k)),id,u.ob,true⟩
    |_=>none
   |none=>none
  |none=>none
 |_=>none
def a6p(E:Env)(o:ap)(id:Nat)(wb:Bool)(t:TypeId)(x y:Option HR):Option App :=
 match E t with
 | some i =>
  match i.k with
  | .slice el =>
   match x with
   | some (.v (.one hx)) =>
    match y with
    |some (.v (.one hy))=>x5 E o id wb el hy hx
    |_=>none
   |_=>none
  |_=>none
 |none=>none
def a79 (E:Env) (o:ap) (e:Ev) (id:Nat) (wb:Bool):List Operand->List TypeId->Option App
 | [x,y],[t,t']=>match Nat.beq t t' with|true=>a6p E o id wb t (e x) (e y)|false=>none
 |_,_=>none
def hap (E:Env) (o:ap) (e:Ev) (id:Nat) (wb:Bool):Op->Option App
 | .call c =>
  match c.callee with
  | .builtin .append=>a79 E o e id wb c.args.toList c.argTypes.toList
  | .builtin .clear=>y6 E o e c.args.toList c.argTypes.toList
  |_=>none
 |_=>none
def od (w:World) (t ty e:TypeId) (i:TypeInfo) (ht:P.underlying t=some (.slice e)) (hi:P.info? e=some i) (ad A:Option Addr) (n cap c:Nat) (h:n<=cap) :
 (Builtin.append_ #[t,t] ty #[.slice ad n cap, .slice A 0 c]).run P w=.ok (.slice ad n cap) w:=by
 have hf:(Builtin.firstCells i.size 0 (.slice A 0 c)).run P w=.ok #[] w:=by
  cases A with
  |none=>simp[Builtin.firstCells]
  |some b=>simp[Builtin.firstCells,loadCells,loadCellsFrom]
 cases ad<;>simp[Builtin.append_,run_underlying ht,sizeOf,typeInfo,hi,Builtin.lenOf,h,hf,storeCells]
section
variable {n sz:Nat}
theorem af2 {i j:Nat} (hi:i<n) (hj:j<sz):i*sz+j<n*sz:=by
 have:(i+1)*sz<=n*sz:=bmb _ bpw
 grind
variable {g:Nat->Nat->PV}{m:Nat}
theorem a44 {F:Nat->Option Value} (hsz:0<sz) (hF:∀i j,i<m->j<sz->∃x,F (i*sz+j)=some x/\aq c.imm (g i j) x):
 ∃news:List Value,news.length=m*sz/\(∀(k:Nat) u,news[k]? = some u->F k=some u)/\(∀i j,i<m->j<sz->∃x,news[i*sz+j]? = some x/\aq c.imm (g i j) x)/\∀u∈news,u.oneCell'=true:=by
 have hk:∀k,k<m*sz->∃x,F k=some x/\aq c.imm (g (k/sz) (k%sz)) x:=fun k hk=>by
  have:=hF (k/sz) (k%sz) (by rw[Nat.div_lt_iff_lt_mul hsz];exact hk) (Nat.mod_lt _ hsz);rwa [Nat.div_add_mod']at this
 refine⟨(List.range (m*sz)).map fun k=>(F k).getD undef,by simp,fun k u hu=>?_,fun i j hi hj=>?_,fun u hu=>?_⟩
 · grind
 · obtain ⟨x,hx,hr⟩:=hF i j hi hj
   refine⟨x, ?_,hr⟩;rw[bn1,bo0 (af2 hi hj)];simp[hx]
 obtain⟨k,hkm,rfl⟩:=bml.1 hu;obtain⟨x,hx,hr⟩:=hk k (bmm.1 hkm);simp only[hx,bnu];exact aq.oneCell hr
variable {f:Nat->Nat->PV}
theorem al0 (h:ag w0 nt c s a w) {cap:Nat} {cl:Bool} {ad:Option Addr} (hsz:0<sz) (hr:aq c.imm (.sl n sz cl f) (.slice ad n cap)):
 ∃ news:List Value,news.length=n*sz/\(∀u∈news,u.oneCell'=true)/\(∀i j,i<n->j<sz->∃x,news[i*sz+j]? = some x/\aq c.imm (f i j) x) /\
  ((n=0/\news=[])\/∃b,ad=some b/\∀(k:Nat) u,news[k]? = some u->w.cell? (b.add k)=some u):=by
 obtain⟨ad',cap',e,_,_,_,hc⟩:=hr;simp only[Value.slice.injEq,true_and]at e;obtain⟨rfl,rfl⟩:=e
 rcases bnp n with h0|h0
 · simp_all
 obtain⟨b,off,rfl,hcell⟩:=hc h0
 obtain ⟨news,h1,h2,h3,h4⟩:=a44 (c:=c) (F:=fun k=>w.cell? ((⟨b,off,none⟩:Addr).add k)) hsz (fun i j hi hj=>by
  obtain⟨x,hx,hr⟩:=hcell i j hi hj
  exact⟨x,by rw[d6];exact vf h hx,hr⟩)
 grind
variable {id:Nat}
def a5e(h:ag w0 nt c s a w){wr:Bool}{e:TypeId}(ho:s.o id=some (.arr wr sz e n f)):
 ∃ ad cap,c.own id=.slice ad n cap/\n<=cap/\∃news:List Value,news.length=n*sz/\(∀u∈news,u.oneCell'=true)/\(∀i j,i<n->j<sz->∃x,news[i*sz+j]? = some x/\aq c.imm (f i j) x) /\
  ((n=0/\news=[])\/∃b,ad=some b/\∀(k:Nat) u,news[k]? = some u->w.cell? (b.add k)=some u):=by
 obtain⟨h0,h1,h5⟩:=h.objs id _ ho
 rcases h5 with⟨h6,xs,h2,h4⟩|⟨h6,h7,h8⟩
 · rcases h2.2 with⟨hv,hz⟩|⟨g,cap,cur,hv,_,hheap,hcap,_,hcs,htake⟩
   · simp_all
   refine⟨_,cap,hv,hcap,xs,h2.1,fun u hu=>?_,h4, .inr ⟨_,rfl,h2.cells (g:=g) (by rw[hv];rfl)⟩⟩;obtain⟨k,hk,hku⟩:=bmj hu;have hk':k<n*sz:=by rw[<- h2.1];exact hk
   obtain⟨x,hx,hr⟩:=h4 (k/sz) (k%sz) (by rw[Nat.div_lt_iff_lt_mul h0];exact hk') (Nat.mod_lt _ h0);rw[Nat.div_add_mod',blz hk]at hx;simp only[bly]at hx;rw[<- hku,hx];exact aq.oneCell hr
 have h8':=h8;obtain⟨ad,cap,hv,hc1,_⟩:=h8;rw[hv]at h8';obtain⟨news,g1,g2,g3,g4⟩:=al0 h h0 h8';exact⟨ad,cap,hv,hc1,news,g1,g2,g3,g4⟩
variable {u:Value}{y:HV}
theorem a0n (h:ag w0 nt c s a w) (hu:b9 c s.o y u) {p:Prop} (hs:xa s.o id y=some (p,m,sz,g)) (hp:p) (hsz:0<sz):
 ∃ ad cap,u=.slice ad m cap/\∃news:List Value,news.length=m*sz/\(∀u∈news,u.oneCell'=true)/\(∀i j,i<m->j<sz->∃x,news[i*sz+j]? = some x/\aq c.imm (g i j) x) /\
  ((m=0/\news=[])\/∃b,ad=some b/\∀(k:Nat) u,news[k]? = some u->w.cell? (b.add k)=some u):=by
 unfold xa at hs;split at hs
 · rename_i m' sz' cl g'
   simp only[bly,bm4]at hs;obtain⟨_,rfl,rfl,rfl⟩:=hs;have hu':aq c.imm (.sl m' sz' cl g') u:=hu;obtain⟨ad,cap,hv,_⟩:=hu;rw[hv]at hu';obtain⟨news,g1,g2,g3,g4⟩:=al0 h hsz hu'
   grind
 · rename_i ad cap
   simp only[bly,bm4]at hs;obtain⟨_,rfl,rfl,rfl⟩:=hs;obtain⟨rfl,_⟩:=hu;simp_all
 · rename_i id' m'
   split at hs<;>try(cases hs;done)
   rename_i wr sz' el m2 g' hid ho;simp only[bly,bm4]at hs;obtain⟨rfl,rfl,rfl,rfl⟩:=hs;obtain rfl:m2=m':=hp;obtain⟨_,_,h3⟩:=hu;obtain⟨ad,cap,hv,hc,news,g1,g2,g3,g4⟩:=a5e h ho;have:=(h3 _ _ _ _ ho rfl).2 rfl
   grind
 cases hs
theorem a5p (h:ag w0 nt c s a w) (hu:b9 c s.o y u) {p:Prop} (hs:xa s.o id y=some (p,m,sz,g)) (hp:p):∃ad cap,u=.slice ad m cap:=by
 unfold xa at hs;split at hs
 · simp only [bly,bm4]at hs
   obtain⟨_,rfl,rfl,rfl⟩:=hs;obtain⟨ad,cap,hv,_⟩:=hu
   grind
 · rename_i ad cap
   simp only[bly,bm4]at hs;obtain⟨_,rfl,rfl,rfl⟩:=hs;obtain⟨rfl,_⟩:=hu
   grind
 · split at hs<;>try(cases hs;done)
   rename_i wr sz' el m2 g' hid ho;simp only[bly,bm4]at hs;obtain⟨rfl,rfl,rfl,rfl⟩:=hs;obtain rfl:m2=_:=hp;obtain⟨_,_,h3⟩:=hu;obtain⟨ad,cap,hv,hc,_⟩:=a5e h ho;exact⟨ad,cap,((h3 _ _ _ _ ho rfl).2 rfl).trans hv⟩
 cases hs
theorem ak1 {xs news:List Value} (hxl:xs.length=n*sz) (hx:∀i j,i<n->j<sz->∃x,xs[i*sz+j]? = some x/\aq c.imm (f i j) x) (hg:∀i j,i<m->j<sz->∃x,news[i*sz+j]? = some x/\aq c.imm (g i j) x):∀i j,i<n+m->j<sz->∃x,(xs++news)[i*sz+j]? = some x/\aq c.imm (f3 n f g i j) x:=by
 intro i j hi hj;unfold f3;by_cases h:i<n
 · grind
 have hle:n*sz<=i*sz:=bmb _ bpw;rw[if_neg h,boo (by rw[hxl];omega),hxl];have e:i*sz+j-n*sz=(i-n)*sz+j:=by rw[Nat.sub_mul];omega
 rw[e];exact hg (i-n) j bpw hj
variable {el t ty:TypeId}{vy:Value}
theorem a0p (hE:ck P E) (h:ag w0 nt c s a w) {wb:Bool} {u:Upd} (hy:b9 c s.o y vy) (ht:P.underlying t=some (.slice el)) (hq':re E s.o id n wb el y=some u) (hp:u.pre):
 ∃v w' c' k sz f',(Builtin.append_ #[t,t] ty #[c.own id,vy]).run P w=.ok v w'/\u.id=id/\u.ob=.arr wb sz el k f'/\(c'.old=c.old/\ag w0 nt c' (s.setO u.id (some u.ob)) a w')/\ak c' (s.setO u.id (some u.ob)).o (.v (.one (.ref id k))) v:=by
 unfold re at hq';split at hq'<;>try(cases hq';done)
 rename_i ei wr sz el' n' f p m sz' g hei hob hsrc;split at hq'<;>try(cases hq';done)
 rename_i z hz;split at hq'<;>try(cases hq';done)
 rename_i hzl;have hzl:=of_decide_eq_true hzl;simp only[bly]at hq';subst hq';obtain⟨p1,rfl,rfl,hsz,hsz',hmax,hbytes,hwb⟩:=hp;obtain⟨ie,de,e1,e2,e3,e4,e5,e6,_⟩:=ay (hE el' ei hei);rw[hz]at e6;have h0:=(h.objs id _ hob).1
 cases hiz:ie.zero with
 |none=>rw[hiz]at e6;cases e6
 | some zv =>
  rw[hiz]at e6;simp only[bmq,bly]at e6;have hzs:zv.cells.size=sz:=by rw[<- bn2,<- e6,hzl,hsz]
  obtain⟨ad,cap,hown,hcap,xs,hxl,hx1,hxr,hxc⟩:=a5e h hob;have hmaxn:n'+m<=maxLen:=by simp only[maxLen];omega
  have fin:∀(v:Value) (w':World) (bk:Nat->Prop) (row:Option Nat),Grw w w' row->(∀b,row=some b->c.blk id b)->(m=0->v=c.own id)->(∀b,bk b->c.blk id b\/w.heap.size<=b)->(∃ad' cap',v=.slice ad' (n'+m) cap') ->
   dq 0 { old:=c.old,imm:=c.imm,tab:=c.tab,own:=fun k=>if k=id then v else c.own k,blk:=fun k=>if k=id then bk else c.blk k,rows:=c.rows } (s.setO id (some (.arr wb sz el' (n'+m) (f3 n' f g)))).o w' id (.arr wb sz el' (n'+m) (f3 n' f g)) ->
   ∃c',(c'.old=c.old/\ag w0 nt c' (s.setO id (some (.arr wb sz el' (n'+m) (f3 n' f g)))) a w')/\ak c' (s.setO id (some (.arr wb sz el' (n'+m) (f3 n' f g)))).o (.v (.one (.ref id (n'+m)))) v:=by
   intro v w' bk row hg hrow hm hbk hv hok;refine⟨_,⟨(by rfl),h.write id _ hob _ w' v bk row hg hrow (.inr (.inr ⟨_, .arr wb sz el' (n'+m) (f3 n' f g),sz,el',n',n'+m,hob,rfl,by simp[S.setO],rfl,by omega,fun e=>by simp[hm bpw],fun _ _ _ _ _ _ _ hb=>by cases hb⟩)) hbk hok⟩, ?_,fun l=>by simp[S.setO],fun ob2 s2 e2 n2 ho2 hd2=>?_⟩
   · obtain⟨_,_,rfl⟩:=hv;rfl
   simp only[S.setO,if_true,bly]at ho2;subst ho2;simp only[aa.dim,bly,bm4]at hd2
   grind
  rcases bnp m with hm0|hm0
  · subst hm0
    obtain⟨A,cA,rfl⟩:=a5p h hy hsrc p1;have hrun:=od (P:=P) w t ty el' ie ht e1 ad A n' cap cA hcap;rw[<- hown]at hrun
    obtain ⟨c',hc',hv'⟩:=fin (c.own id) w (c.blk id) none (Grw.refl w _) (fun _ e=>by cases e) (fun _=>rfl) (fun b hb=>.inl hb) ⟨ad,cap,hown⟩ (by
     obtain⟨g0,g1,g5⟩:=h.objs id _ hob;refine⟨g0,g1, ?_⟩;have happ:∀i j,i<n'->f3 n' f g i j=f i j:=fun i j hi=>by simp[f3,hi]
     rcases g5 with⟨g6,ys,g2,g4⟩|⟨g6,g7,ad2,cap2,g8,g9,g10,g11,g12⟩
     · grind
     refine .inr ⟨?_,by simpa using g7,ad2,cap2,by simpa using g8,g9,g10,g11,fun hn=>?_⟩
     · grind
     obtain⟨b,off,hbo,hcell⟩:=g12 hn
     exact ⟨b,off,hbo,fun i j hi hj=>by
      have hi':i<n':=hi;rw[happ i j hi']
      exact hcell i j hi' hj⟩)
    grind
  have hsz'':sz'=sz:=by omega
  subst hsz'';obtain⟨A,cA,rfl,news,hnl,hn1,hnr,hnc⟩:=a0n h hy hsrc p1 h0
  obtain ⟨b,rfl,hncell⟩:∃b,A=some b/\∀(k:Nat) u,news[k]? = some u->w.cell? (b.add k)=some u:=by
   grind
  have hxx:=ak1 hxl hxr hnr
  have owned:∀base:Nat,base<=w.heap.size->0<=base->∀(v0:Value) (xs:List Value),v0=c.own id->w.ownsRow base el' sz' v0 n' xs->(∀i j,i<n'->j<sz'->∃x,xs[i*sz'+j]? = some x/\aq c.imm (f i j) x)->c.blk id=ep v0 ->
   ∃ v w' c' k sz f',(Builtin.append_ #[t,t] ty #[c.own id, .slice (some b) m cA]).run P w=.ok v w'/\id=id/\aa.arr wb sz' el' (n'+m) (f3 n' f g)=.arr wb sz el' k f' /\
    (c'.old=c.old/\ag w0 nt c' (s.setO id (some (.arr wb sz' el' (n'+m) (f3 n' f g)))) a w')/\ak c' (s.setO id (some (.arr wb sz' el' (n'+m) (f3 n' f g)))).o (.v (.one (.ref id k))) v:=by
   intro base hbase hb0 v0 xs hv0 hrow hxr hblk;obtain⟨v',w',hrun,hown',hgrow0,_,hat⟩:=run_append_own_at (P:=P) w base t ty el' ie zv sz' ie.bytes ht e1 hiz (by rw[<- e4];exact hsz) rfl hzs h0 v0 n' xs hrow b m cA news hnl hncell hn1 hmaxn (by rw[<- e5];exact hbytes) hbase;have hgrow:=Grw.mk hgrow0 (w4 _ hrun);rw[hv0]at hrun
   have hob':∀v:Value,(∃ad k cap,v=.slice ad k cap)->v.ownBlock=cg v:=by
    rintro v ⟨ad,k,cap,rfl⟩;cases ad<;>rfl
   have hform:∃ad' cap',v'=.slice ad' (n'+m) cap':=by
    rcases hown'.2 with⟨hv,hz⟩|⟨g,cap,cur,hv,_⟩
    · omega
    grind
   have e0:v0.ownBlock=cg v0:=hob' v0 ⟨ad,n',cap,by rw[hv0,hown]⟩;have e1':v'.ownBlock=cg v':=hob' v' ⟨_,_,_,hform.choose_spec.choose_spec⟩
   obtain ⟨c',hc',hv'⟩:=fin v' w' (ep v') v0.ownBlock hgrow (fun b hb=>by rw[hblk];exact e0.symm.trans hb) (fun h=>by omega) (fun bb hbb=>by
    have hbb:cg v'=some bb:=hbb;rw[<- e1']at hbb
    rcases hat with h1|h1
    · left;rw[hblk];exact e0.symm.trans (h1.symm.trans hbb)
    · right;rw[h1]at hbb;simp only[bly]at hbb;omega) hform
    ⟨h0,hmaxn, .inl ⟨by simp,xs++news,by
     simp only[if_true];refine⟨hown'.1, ?_⟩
     rcases hown'.2 with hv|⟨g,cap,cur,hv,hg,r⟩
     · exact .inl hv
     exact .inr ⟨g,cap,cur,hv,by omega,r⟩,ak1 hrow.1 hxr hnr⟩⟩
   grind
  obtain⟨g0,g1,g5⟩:=h.objs id _ hob
  rcases g5 with⟨g6,ys,g2,g4⟩|⟨g6,g7,g8⟩
  · exact owned 0 (bm3 _) (bm1 _) (c.own id) ys rfl g2 g4 g6
  obtain⟨ad2,cap2,g8',g9,g10,g11,g12⟩:=g8;have hc2:cap2=n':=g11 rfl;rw[hown]at g8';simp only[Value.slice.injEq,true_and]at g8';obtain⟨rfl,rfl⟩:=g8';subst hc2
  rcases ad with _|ba
  ·
   have hn0:cap=0:=by
    grind
   subst hn0;refine owned 0 (bm3 _) (bm1 _) (c.own id) [] rfl ?_ (fun i j hi=>by omega) (by rw[g7,hown];exact(afr rfl).symm);rw[hown];exact bpr w _ _ _
  have hxcell:∀(k:Nat) u,xs[k]? = some u->w.cell? (ba.add k)=some u:=by
   grind
  have hr:=run_append_grow (P:=P) w t ty el' ie zv ht e1 hiz ba cap cap xs (by rw[<- e4,hsz];exact hxl) hxcell b m cA news (by rw[<- e4,hsz];exact hnl) hncell bpw (by simp only[maxLen]at hmaxn;omega) (growslice_fits bpw (by rw[<- e5];exact hbytes));rw[<- hown]at hr;have hge:=grownCap_ge w (cap+m) cap el';have hcm:grownCap w (cap+m) cap el'<=maxLen:=grownCap_le_maxLen w (cap+m) cap el' hmaxn;have hlen:(xs++news).length=(cap+m)*sz':=by rw[bm2,hxl,hnl,bng]
  obtain ⟨c',hc',hv'⟩:=fin (.slice (some ⟨w.heap.size,0,none⟩) (cap+m) (grownCap w (cap+m) cap el')) (w.drew.alloc (.cells (xs.toArray++news.toArray++Builtin.zeroCells zv.cells (grownCap w (cap+m) cap el'-(cap+m))) el')) (ep (.slice (some ⟨w.heap.size,0,none⟩) (cap+m) (grownCap w (cap+m) cap el'))) none ⟨⟨rfl,rfl,rfl,by simp,fun k hk _=>heap_alloc_old w.drew _ k hk⟩,bpg _⟩ (fun _ e=>by cases e) (fun h=>by omega)
   (fun bb hbb=>.inr (by simp only[ep,cg,bly]at hbb;omega)) ⟨_,_,rfl⟩
   ⟨h0,hmaxn, .inl ⟨by simp,xs++news,by
    simp only[if_true];refine⟨hlen, .inr ⟨w.heap.size,_,_,rfl,bm3 _,heap_alloc_new w.drew _,hge,hcm, ?_, ?_⟩⟩
    · simp only [bov,bnk,size_zeroCells,hzs,hxl,hnl,<- bng]
      congr 1;omega
    simp only[Array.toList_append,bn6];rw[<- bn6,<- hlen]
    exact List.take_left,hxx⟩⟩
  grind
def azv(hE:ck P E)(h:ag w0 nt c s a w){wb:Bool}{u:Upd}(hy:b9 c s.o y vy)(ht:P.underlying t=some (.slice el))(hq':re E s.o id n wb el y=some u)(hp:u.pre){ad:Option Addr}{cap k:Nat}{f':Nat->Nat->PV}(hown:c.own id=.slice ad n cap)(hob':u.ob=.arr wb sz el k f')(hk:k<=cap){v:Value}{w':World}(hrun:(Builtin.append_ #[t,t] ty #[c.own id,vy]).run P w=.ok v w'):v=.slice ad k cap:=by
 unfold re at hq';split at hq'<;>try(cases hq';done)
 rename_i ei wr sz2 el' n' f p m sz' g hei hob hsrc;split at hq'<;>try(cases hq';done)
 rename_i z hz;split at hq'<;>try(cases hq';done)
 simp only[bly]at hq';subst hq';obtain⟨p1,rfl,rfl,hsz,hsz',hmax,hbytes,hwb⟩:=hp;simp only[aa.arr.injEq]at hob';obtain⟨_,rfl,_,rfl,_⟩:=hob';obtain⟨ie,de,e1,e2,e3,e4,e5,e6,_⟩:=ay (hE el' ei hei);obtain⟨h0,h1,h5⟩:=h.objs id _ hob
 rcases bnp m with hm0|hm0
 · subst hm0
   obtain⟨A,cA,rfl⟩:=a5p h hy hsrc p1;have hcap:n'<=cap:=by omega
   have:=od (P:=P) w t ty el' ie ht e1 ad A n' cap cA hcap;rw[hown,this]at hrun;simp only[Result.ok.injEq]at hrun;exact hrun.1.symm
 have hsz'':sz'=sz2:=by omega
 subst hsz'';obtain⟨A,cA,rfl,news,hnl,hn1,hnr,hnc⟩:=a0n h hy hsrc p1 h0
 obtain ⟨b,rfl,hncell⟩:∃b,A=some b/\∀(k:Nat) u,news[k]? = some u->w.cell? (b.add k)=some u:=by
  rcases hnc with⟨h1,_⟩|h1
  · omega
  exact h1
 rcases h5 with⟨h6,xs,h2,h4⟩|⟨h6,h7,h8⟩
 · obtain ⟨hxl,hrow⟩:=h2
   rcases hrow with⟨hv0,hz0⟩|⟨gb,cap',cur,hown',hbase,hheap,hnc',hcm,hcs,htake⟩
   · rw [hown]at hv0
     simp only[Value.slice.injEq]at hv0;omega
   rw[hown]at hown';simp only[Value.slice.injEq,true_and]at hown';obtain⟨rfl,rfl⟩:=hown';have hmul:n'*sz'+m*sz'<=cap*sz':=by rw[<- bng];exact bmb _ hk
   have hst:=run_storeCells_at P gb (n'*sz') el' news 0 cur w hheap (by rw[hnl,hcs];omega) hn1;simp only[bnt]at hst;have hfc:=run_firstCells_some (P:=P) (w:=w) ei.size m b m cA news (by rw[hnl,hsz]) hncell;rw[<- hsz]at hst;rw[hown]at hrun;simp[Builtin.append_,run_underlying ht,sizeOf,typeInfo,e1,<- e4,Builtin.lenOf,hk,hfc,d6,hst]at hrun;exact hrun.1.symm
 obtain⟨ad2,cap2,r1,r2,r3,r4,r5⟩:=h8;rw[hown]at r1;simp only[Value.slice.injEq,true_and]at r1;obtain⟨rfl,rfl⟩:=r1;have:=r4 rfl;omega
variable {ms:List Nat}
def a2z(h:ag w0 nt c s a w){e:TypeId}{f:Nat->Nat->HV}(ho:s.o id=some (.arrh sz e n ms f)):
 ∃ ad cap,c.own id=.slice ad n cap/\n<=cap/\∃news:List Value,news.length=n*sz/\(∀u∈news,u.oneCell'=true)/\(∀i j,i<n->j<sz->∃x,news[i*sz+j]? = some x/\b9 c s.o (f i j) x) /\
  ((n=0/\news=[])\/∃b,ad=some b/\∀(k:Nat) u,news[k]? = some u->w.cell? (b.add k)=some u):=by
 obtain⟨h0,h1,h7,h5⟩:=h.objs id _ ho
 rcases h5 with⟨h6,xs,h2,h4⟩|⟨rfl,h6,ad,cap,hv,hc1,_⟩
 · rcases h2.2 with⟨hv,hz⟩|⟨g,cap,cur,hv,_,hheap,hcap,_,hcs,htake⟩
   · simp_all
   refine⟨_,cap,hv,hcap,xs,h2.1,fun u hu=>?_,h4, .inr ⟨_,rfl,h2.cells (g:=g) (by rw[hv];rfl)⟩⟩;obtain⟨k,hk,hku⟩:=bmj hu;have hk':k<n*sz:=by rw[<- h2.1];exact hk
   obtain⟨x,hx,hr⟩:=h4 (k/sz) (k%sz) (by rw[Nat.div_lt_iff_lt_mul h0];exact hk') (Nat.mod_lt _ h0);rw[Nat.div_add_mod',blz hk]at hx;simp only[bly]at hx;rw[<- hku,hx];exact b9.oneCell hr
 simp_all
def acm(h:ag w0 nt c s a w)(hu:b9 c s.o y u){p:Prop}{g:Nat->Nat->HV}(hs:a5r s.o id y=some (p,m,sz,ms,g))(hp:p)(hsz:0<sz):
 (∀i j k,i<m->j<sz->(g i j).men k->k∈ms)/\∃ad cap,u=.slice ad m cap/\∃news:List Value,news.length=m*sz/\(∀u∈news,u.oneCell'=true)/\(∀i j,i<m->j<sz->∃x,news[i*sz+j]? = some x/\b9 c s.o (g i j) x) /\
  ((m=0/\news=[])\/∃b,ad=some b/\∀(k:Nat) u,news[k]? = some u->w.cell? (b.add k)=some u):=by
 unfold a5r at hs;split at hs
 · rename_i p' m' sz' g' hs'
   simp only[bly,bm4]at hs;obtain⟨rfl,rfl,rfl,rfl,rfl⟩:=hs;exact⟨fun i j k _ _ hk=>hk.elim,a0n h hu hs' hp hsz⟩
 split at hs<;>try(cases hs;done)
 rename_i id' m' _;split at hs<;>try(cases hs;done)
 rename_i sz' el m2 ms' g' hid ho;simp only[bly,bm4]at hs;obtain⟨rfl,rfl,rfl,rfl,rfl⟩:=hs;obtain rfl:m2=m':=hp;obtain⟨_,_,h3⟩:=hu;obtain⟨ad,cap,hv,hc,news,g1,g2,g3,g4⟩:=a2z h ho;have:=(h3 _ _ _ _ ho rfl).2 rfl;exact⟨(h.objs id' _ ho).2.2.1,ad,cap,this.trans hv,news,g1,g2,g3,g4⟩
theorem ajo {o:ap} {f g:Nat->Nat->HV} {xs news:List Value} (hxl:xs.length=n*sz) (hx:∀i j,i<n->j<sz->∃x,xs[i*sz+j]? = some x/\b9 c o (f i j) x) (hg:∀i j,i<m->j<sz->∃x,news[i*sz+j]? = some x/\b9 c o (g i j) x):∀i j,i<n+m->j<sz->∃x,(xs++news)[i*sz+j]? = some x/\b9 c o (ou n f g i j) x:=by
 intro i j hi hj;unfold ou;by_cases h:i<n
 · grind
 have hle:n*sz<=i*sz:=bmb _ bpw;rw[if_neg h,boo (by rw[hxl];omega),hxl];have e:i*sz+j-n*sz=(i-n)*sz+j:=by rw[Nat.sub_mul];omega
 rw[e];exact hg (i-n) j bpw hj
theorem azx {f g:Nat->Nat->HV} {ms':List Nat} (hf:∀i j k,i<n->j<sz->(f i j).men k->k∈ms) (hg:∀i j k,i<m->j<sz->(g i j).men k->k∈ms'):
 ∀i j k,i<n+m->j<sz->(ou n f g i j).men k->k∈ms'++ms:=by
 intro i j k hi hj hk;unfold ou at hk
 grind
def aj3(hE:ck P E)(h:ag w0 nt c s a w){u:Upd}(hy:b9 c s.o y vy)(ht:P.underlying t=some (.slice el))(hq':yr E s.o id n el y=some u)(hp:u.pre):
 ∃v w' c' k sz ms f',(Builtin.append_ #[t,t] ty #[c.own id,vy]).run P w=.ok v w'/\u.id=id/\u.ob=.arrh sz el k ms f'/\(c'.old=c.old/\ag w0 nt c' (s.setO u.id (some u.ob)) a w')/\ak c' (s.setO u.id (some u.ob)).o (.v (.one (.ref id k))) v:=by
 unfold yr at hq';split at hq'<;>try(cases hq';done)
 rename_i ei sz el' n' ms f p m sz' ms' g hei hob hsrc;split at hq'<;>try(cases hq';done)
 rename_i z hz;split at hq'<;>try(cases hq';done)
 rename_i hzl;have hzl:=of_decide_eq_true hzl;simp only[bly]at hq';subst hq';obtain⟨p1,rfl,rfl,hsz,hsz',hmax,hbytes⟩:=hp;obtain⟨ie,de,e1,e2,e3,e4,e5,e6,_⟩:=ay (hE el' ei hei);rw[hz]at e6;obtain⟨h0,hnmax,hms,hrows⟩:=h.objs id _ hob
 cases hiz:ie.zero with
 |none=>rw[hiz]at e6;cases e6
 | some zv =>
  rw[hiz]at e6;simp only[bmq,bly]at e6;have hzs:zv.cells.size=sz:=by rw[<- bn2,<- e6,hzl,hsz]
  obtain⟨ad,cap,hown,hcap,xs,hxl,hx1,hxr,hxc⟩:=a2z h hob;have hmaxn:n'+m<=maxLen:=by simp only[maxLen];omega
  have fin:∀(v:Value) (w':World) (bk:Nat->Prop) (row:Option Nat),Grw w w' row->(∀b,row=some b->c.blk id b)->(m=0->v=c.own id)->(∀b,bk b->c.blk id b\/w.heap.size<=b)->(∃ad' cap',v=.slice ad' (n'+m) cap') ->
   (∀c':Ctx,c'.imm=c.imm->c'.own=(fun k=>if k=id then v else c.own k)->c'.blk=(fun k=>if k=id then bk else c.blk k)->(∀(x:HV) (u:Value),b9 c s.o x u->b9 c' (s.setO id (some (.arrh sz el' (n'+m) (ms'++ms) (ou n' f g)))).o x u) ->
    dq 0 c' (s.setO id (some (.arrh sz el' (n'+m) (ms'++ms) (ou n' f g)))).o w' id (.arrh sz el' (n'+m) (ms'++ms) (ou n' f g))) ->
   ∃c',(c'.old=c.old/\ag w0 nt c' (s.setO id (some (.arrh sz el' (n'+m) (ms'++ms) (ou n' f g)))) a w')/\ak c' (s.setO id (some (.arrh sz el' (n'+m) (ms'++ms) (ou n' f g)))).o (.v (.one (.ref id (n'+m)))) v:=by
   intro v w' bk row hg hrow hm hbk hv hok
   have hevo:Evo c s.o { old:=c.old,imm:=c.imm,tab:=c.tab,own:=fun k=>if k=id then v else c.own k,blk:=fun k=>if k=id then bk else c.blk k,rows:=c.rows } (s.setO id (some (.arrh sz el' (n'+m) (ms'++ms) (ou n' f g)))).o id :=
    .inr (.inr ⟨_, .arrh sz el' (n'+m) (ms'++ms) (ou n' f g),sz,el',n',n'+m,hob,rfl,by simp[S.setO],rfl,by omega,fun e=>by simp[hm bpw],fun _ _ _ _ _ _ _ hb=>by cases hb⟩)
   refine⟨{ old:=c.old,imm:=c.imm,tab:=c.tab,own:=fun k=>if k=id then v else c.own k,blk:=fun k=>if k=id then bk else c.blk k,rows:=c.rows },⟨(by rfl),h.write id _ hob _ w' v bk row hg hrow hevo hbk (hok _ rfl rfl rfl fun x u hxu=>?_)⟩, ?_,fun l=>by simp[S.setO],fun ob2 s2 e2 n2 ho2 hd2=>?_⟩
   · refine b9.evo (c:=c) (o:=s.o) (Imm.le.refl c.imm) (fun k _=>?_) hxu
     by_cases hk:k=id
     · subst hk;exact hevo
     exact Evo.of_same (by simp[S.setO,hk]) (by simp[hk])
   · obtain⟨_,_,rfl⟩:=hv;rfl
   simp only[S.setO,if_true,bly]at ho2;subst ho2;simp only[aa.dim,bly,bm4]at hd2;obtain⟨rfl,rfl,rfl⟩:=hd2;exact⟨bm1 _,fun _=>by simp⟩
  rcases bnp m with hm0|hm0
  · subst hm0
    obtain ⟨A,cA,rfl⟩:∃ad cap,vy=.slice ad 0 cap:=by
     unfold a5r at hsrc;split at hsrc
     · rename_i q1 q2 q3 q4 hs'
       simp only[bly,bm4]at hsrc;obtain⟨rfl,rfl,_⟩:=hsrc;exact a5p h hy hs' p1
     split at hsrc<;>try(cases hsrc;done)
     rename_i id' m' _;split at hsrc<;>try(cases hsrc;done)
     rename_i q1 q2 q3 q4 q5 q6 ho;simp only[bly,bm4]at hsrc;obtain⟨rfl,rfl,_⟩:=hsrc;obtain rfl:q3=0:=p1;obtain⟨_,_,h3⟩:=hy;obtain⟨ad,cap,hv,_⟩:=a2z h ho;exact⟨ad,cap,((h3 _ _ _ _ ho rfl).2 rfl).trans hv⟩
    have hrun:=od (P:=P) w t ty el' ie ht e1 ad A n' cap cA hcap;rw[<- hown]at hrun
    obtain ⟨c',hc',hv'⟩:=fin (c.own id) w (c.blk id) none (Grw.refl w _) (fun _ e=>by cases e) (fun _=>rfl) (fun b hb=>.inl hb) ⟨ad,cap,hown⟩ (fun c' hi ho hb hrep=>by
     refine⟨h0,hnmax,fun i j k hi hj hk=>?_, ?_⟩
     · have hi':i<n':=hi
       unfold ou at hk;rw[if_pos hi']at hk;exact bmx _ (hms i j k hi' hj hk)
     rcases hrows with⟨g6,ys,g2,g4⟩|⟨g6,g7,g8⟩
     · exact .inl ⟨by simp[hb,ho,g6],ys,by simpa [ho]using g2,fun i j hi hj=>by
        have hi':i<n':=hi;obtain⟨x,hx,hr⟩:=g4 i j hi' hj;unfold ou;rw[if_pos hi']
        exact⟨x,hx,hrep _ _ hr⟩⟩
     exact .inr ⟨by show n'+0=0;omega,by simp[hb,g7],by rw[hi];simpa [ho]using g8⟩)
    exact⟨_,w,c',n'+0,sz,_,_,hrun,rfl,rfl,hc',hv'⟩
  have hsz'':sz'=sz:=by omega
  subst hsz'';obtain⟨hgm,A,cA,rfl,news,hnl,hn1,hnr,hnc⟩:=acm h hy hsrc p1 h0
  obtain ⟨b,rfl,hncell⟩:∃b,A=some b/\∀(k:Nat) u,news[k]? = some u->w.cell? (b.add k)=some u:=by
   rcases hnc with⟨h1,_⟩|h1
   · omega
   exact h1
  have hmen:=azx (sz:=sz') hms hgm
  have owned:∀(v0:Value) (xs:List Value),v0=c.own id->w.ownsRow 0 el' sz' v0 n' xs->(∀i j,i<n'->j<sz'->∃x,xs[i*sz'+j]? = some x/\b9 c s.o (f i j) x)->c.blk id=ep v0 ->
   ∃ v w' c' k sz ms2 f',(Builtin.append_ #[t,t] ty #[c.own id, .slice (some b) m cA]).run P w=.ok v w'/\id=id/\aa.arrh sz' el' (n'+m) (ms'++ms) (ou n' f g)=.arrh sz el' k ms2 f' /\
    (c'.old=c.old/\ag w0 nt c' (s.setO id (some (.arrh sz' el' (n'+m) (ms'++ms) (ou n' f g)))) a w')/\ak c' (s.setO id (some (.arrh sz' el' (n'+m) (ms'++ms) (ou n' f g)))).o (.v (.one (.ref id k))) v:=by
   intro v0 xs hv0 hrow hxr hblk;obtain⟨v',w',hrun,hown',hgrow0,_,hat⟩:=run_append_own_at (P:=P) w 0 t ty el' ie zv sz' ie.bytes ht e1 hiz (by rw[<- e4];exact hsz) rfl hzs h0 v0 n' xs hrow b m cA news hnl hncell hn1 hmaxn (by rw[<- e5];exact hbytes) (bm3 _);have hgrow:=Grw.mk hgrow0 (w4 _ hrun);rw[hv0]at hrun
   have hob':∀v:Value,(∃ad k cap,v=.slice ad k cap)->v.ownBlock=cg v:=by
    rintro v ⟨ad,k,cap,rfl⟩;cases ad<;>rfl
   have hform:∃ad' cap',v'=.slice ad' (n'+m) cap':=by
    rcases hown'.2 with⟨hv,hz⟩|⟨g,cap,cur,hv,_⟩
    · omega
    exact⟨_,_,hv⟩
   have e0:v0.ownBlock=cg v0:=hob' v0 ⟨ad,n',cap,by rw[hv0,hown]⟩;have e1':v'.ownBlock=cg v':=hob' v' ⟨_,_,_,hform.choose_spec.choose_spec⟩
   obtain ⟨c',hc',hv'⟩:=fin v' w' (ep v') v0.ownBlock hgrow (fun b hb=>by rw[hblk];exact e0.symm.trans hb) (fun h=>by omega) (fun bb hbb=>by
    have hbb:cg v'=some bb:=hbb;rw[<- e1']at hbb
    rcases hat with h1|h1
    · left;rw[hblk];exact e0.symm.trans (h1.symm.trans hbb)
    · right;rw[h1]at hbb;simp only[bly]at hbb;omega) hform (fun c' hi ho hb hrep =>
    ⟨h0,hmaxn,hmen, .inl ⟨by simp[hb,ho],xs++news,by
     simp only[ho,if_true]
     exact hown',fun i j hi hj=>by
      obtain⟨x,hx,hr⟩:=ajo hrow.1 hxr hnr i j hi hj
      exact⟨x,hx,hrep _ _ hr⟩⟩⟩)
   exact⟨v',w',c',n'+m,sz',_,_,hrun,rfl,rfl,hc',hv'⟩
  rcases hrows with⟨g6,ys,g2,g4⟩|⟨rfl,g7,g8⟩
  · exact owned (c.own id) ys rfl g2 g4 g6
  obtain⟨ad2,cap2,g8',g9,g10,g11,g12⟩:=g8;have hc2:cap2=0:=g11 rfl;rw[hown]at g8';simp only[Value.slice.injEq,true_and]at g8';obtain⟨rfl,rfl⟩:=g8';subst hc2;have hxs0:xs=[]:=bns bpw;subst hxs0
  rcases ad with _|ba
  · refine owned (c.own id) [] rfl ?_ (fun i j hi=>by omega) (by rw[g7,hown];exact(afr rfl).symm)
    rw[hown];exact bpr w _ _ _
  have hr:=run_append_grow (P:=P) w t ty el' ie zv ht e1 hiz ba 0 0 [] bpz (fun k u hk=>by simp at hk) b m cA news (by rw[<- e4,hsz];exact hnl) hncell bpw (by simp only[maxLen]at hmaxn;omega) (growslice_fits bpw (by rw[<- e5];exact hbytes));rw[<- hown]at hr;have hge:=grownCap_ge w (0+m) 0 el';have hcm:grownCap w (0+m) 0 el'<=maxLen:=grownCap_le_maxLen w (0+m) 0 el' hmaxn;have hlen:([]++news:List Value).length=(0+m)*sz':=by rw[bm2,hnl];simp
  obtain ⟨c',hc',hv'⟩:=fin (.slice (some ⟨w.heap.size,0,none⟩) (0+m) (grownCap w (0+m) 0 el')) (w.drew.alloc (.cells (([]:List Value).toArray++news.toArray++Builtin.zeroCells zv.cells (grownCap w (0+m) 0 el'-(0+m))) el')) (ep (.slice (some ⟨w.heap.size,0,none⟩) (0+m) (grownCap w (0+m) 0 el'))) none ⟨⟨rfl,rfl,rfl,by simp,fun k hk _=>heap_alloc_old w.drew _ k hk⟩,bpg _⟩ (fun _ e=>by cases e) (fun h=>by omega)
   (fun bb hbb=>.inr (by simp only[ep,cg,bly]at hbb;omega)) ⟨_,_,rfl⟩ (fun c' hi ho hb hrep =>
   ⟨h0,hmaxn,hmen, .inl ⟨by simp[hb,ho],[]++news,by
    simp only[ho,if_true];refine⟨hlen, .inr ⟨w.heap.size,_,_,rfl,bm3 _,heap_alloc_new w.drew _,hge,hcm, ?_, ?_⟩⟩
    · simp only [bov,bnk,size_zeroCells,hzs,hnl,bor]
      rw[bn9,<- bng];congr 1;omega
    simp only[Array.toList_append,bn6];rw[<- bn6,<- hlen]
    exact List.take_left,fun i j hi hj=>by
    obtain⟨x,hx,hr⟩:=ajo (xs:=[]) bpz hxr hnr i j hi hj
    exact⟨x,hx,hrep _ _ hr⟩⟩⟩)
  exact⟨_,_,c',0+m,sz',_,_,hr,rfl,rfl,hc',hv'⟩
def a7c {i:Nat} (hu:b9 c s.o (.win id n i m) u) {ob:aa} {e:TypeId} (ho:s.o id=some ob) (hd:ob.dim=some (sz,e,n)):
 ∃ad ad' cap,c.own id=.slice ad n cap/\u=.slice ad' m (cap-i)/\i+m<=n/\n<=cap/\cap<=maxLen/\(i<cap->ad'=ad.map (·.add (i*sz))):=(hu.2.2 _ _ _ _ ho hd).2 rfl
theorem afa {ob:aa} (ho:s.o id=some ob):s.setO id (some ob)=s:=by
 unfold S.setO
 cases s with
 | mk t o =>
  simp only[S.mk.injEq,true_and]
  grind
theorem a8i (h:ag w0 nt c s a w) (hob:s.o id=some (.arr true sz el n f)) (hn:0<n):
 ∃ g cap,c.own id=.slice (some ⟨g,0,none⟩) n cap/\0<sz/\(∀i j,i<n->j<sz->∃x,w.cell? ⟨g,i*sz+j,none⟩=some x/\aq c.imm (f i j) x) /\
  ∀ (p:Nat) (news:List Value) (f':Nat->Nat->PV),p+news.length<=n*sz->(∀v∈news,v.oneCell'=true) ->
   (∀i j,i<n->j<sz->(p<=i*sz+j/\i*sz+j<p+news.length->∃x,news[i*sz+j-p]? = some x/\aq c.imm (f' i j) x)/\(¬(p<=i*sz+j/\i*sz+j<p+news.length)->f' i j=f i j)) ->
   ∃w' c',(storeCells ⟨g,p,none⟩ news).run P w=.ok () w'/\c'.old=c.old/\c'.own id=c.own id/\ag w0 nt c' (s.setO id (some (.arr true sz el n f'))) a w':=by
 obtain⟨h0,h1,h5⟩:=h.objs id _ hob
 obtain ⟨h6,xs,h2,h4⟩:c.blk id=ep (c.own id)/\∃xs,w.ownsRow 0 el sz (c.own id) n xs/\∀i j,i<n->j<sz->∃x,xs[i*sz+j]? = some x/\aq c.imm (f i j) x:=by
  grind
 have hcells:=fun g hg=>h2.cells (g:=g) hg;obtain⟨hxl,hrow⟩:=h2
 rcases hrow with⟨_,hz⟩|⟨g,cap,cur,hown,hbase,hheap,hnc,hcm,hcs,htake⟩
 · omega
 have hlt2:n*sz<=cap*sz:=bmb _ hnc;have hblk:c.blk id g:=by rw[h6,hown];rfl
 refine⟨g,cap,hown,h0,fun i j hi hj=>?_,fun p news f' hlen hone hf=>?_⟩
 · obtain ⟨x,hx,hr⟩:=h4 i j hi hj
   refine⟨x, ?_,hr⟩;have:=hcells g (by rw[hown];rfl) _ x hx;rwa [d6,bn9]at this
 have hst:=run_storeCells_at P g p el news 0 cur w hheap (by simp[hcs];omega) hone;simp only[bnt]at hst
 refine ⟨_,_,hst,(by rfl), ?own,h.write id _ hob (.arr true sz el n f') (w.setRow g (cur.toList.take p++news++cur.toList.drop (p+news.length)).toArray) (c.own id) (c.blk id) (some g) (mz _ _ _) (fun b' hb'=>by cases hb';exact hblk) (.inr (.inr ⟨_, .arr true sz el n f',sz,el,n,n,hob,rfl,by simp[S.setO],rfl,bm1 _,fun _=>by simp,fun _ _ _ _ _ _ _ hb=>by cases hb⟩)) (fun b hb=>.inl hb)
  ⟨h0,h1, .inl ⟨by simpa using h6,xs.take p++news++xs.drop (p+news.length), ?_,fun q r hq hr=>?_⟩⟩⟩
 case own=>simp
 · refine ⟨?_, .inr ⟨g,cap,_,by simpa using hown,hbase,setRow_heap w g cur _ el _ hheap,hnc,hcm, ?_, ?_⟩⟩
   · grind
   · grind
   apply bot;intro k;have hcl':cur.toList.length=cap*sz:=by simpa using hcs
   rw[bnb,List.toList_toArray];have e1:=d4 cur.toList news p k bpw;have e2:=d4 xs news p k bpw
   grind
 have hq:q<n:=hq;have hr:r<sz:=hr;have e2:=d4 xs news p (q*sz+r) bpw;rw[e2]
 grind
theorem agl {i a b:Nat} (hb:b<sz):(i*sz<=a*sz+b/\a*sz+b<i*sz+m*sz)<->(i<=a/\a<i+m):=by
 constructor
 · rintro ⟨h1,h2⟩
   constructor
   · apply Classical.byContradiction
     intro h;have:(a+1)*sz<=i*sz:=bmb _ bpw
     grind
   apply Classical.byContradiction;intro h;have:(i+m)*sz<=a*sz:=bmb _ bpw
   grind
 rintro⟨h1,h2⟩;have e1:i*sz<=a*sz:=bmb _ h1;have e2:(a+1)*sz<=(i+m)*sz:=bmb _ h2
 grind
theorem ad3 (hE:ck P E) (h:ag w0 nt c s a w) {args:List Operand} {tys:List TypeId} {u:App} (hq':y6 E s.o (ev s) args tys=some u) (hp:u.pre):
 ∃w' c',(Builtin.clear_ tys.toArray ty (args.map a.eval).toArray).run P w=.ok (.tuple #[]) w'/\(c'.old=c.old/\ag w0 nt c' (s.setO u.id (some u.ob)) a w')/\u.val=.tup []:=by
 unfold y6 at hq';split at hq'<;>try(cases hq';done)
 rename_i x t;split at hq'<;>try(cases hq';done)
 rename_i ti hti;split at hq'<;>try(cases hq';done)
 rename_i el hk;split at hq'<;>try(cases hq';done)
 rename_i ei hei;split at hq'<;>try(cases hq';done)
 rename_i z hz;split at hq'<;>try(cases hq';done)
 rename_i hone hdec;have hzl:=of_decide_eq_true hdec;split at hq'<;>try(cases hq';done)
 rename_i hv hx;unfold acy at hq';split at hq'<;>try(cases hq';done)
 rename_i id n i m;split at hq'<;>try(cases hq';done)
 rename_i sz el' n' f hob;simp only[bly]at hq';subst hq';obtain⟨rfl,hs⟩:=hp;subst hs;obtain⟨ii,d,h1,h2,h3,_⟩:=ay (hE t ti hti);obtain rfl:=dw (h3.symm.trans hk);obtain⟨ie,de,e1,e2,e3,e4,e5,e6,_⟩:=ay (hE el ei hei);rw[hz]at e6;obtain⟨ad,ad',cap,q1,q2,q3,q4,q5,q6⟩:=a7c (ae h hx) hob rfl
 cases hiz:ie.zero with
 |none=>rw[hiz]at e6;cases e6
 | some zv =>
  rw[hiz]at e6;simp only[bmq,bly]at e6;have hzz:zv.cells=z.toArray:=by rw[e6]
  have hzv:∀w,(zeroValue el).run P w=.ok zv w:=fun w=>by simp[zeroValue,typeInfo,e1,hiz]
  rcases bnp m with hm|hm
  · subst hm
    refine⟨w,c, ?_,⟨rfl, ?_⟩,rfl⟩
    · cases ad'<;>simp[Builtin.clear_,q2,run_underlying h2]
    have hset:ru f i 0 z=f:=by
     funext a b;unfold ru
     grind
    show ag w0 nt c (s.setO id (some (.arr true ei.size el' n' (ru f i 0 z)))) a w;rw[hset,afa hob];exact h
  obtain⟨g,cap',hown,hsz,hcell,hwr⟩:=a8i (P:=P) h hob bpw;rw[hown]at q1;simp only[Value.slice.injEq,true_and]at q1;obtain⟨rfl,rfl⟩:=q1;obtain rfl:=q6 bpw;simp only[bmq,d6,bn9]at q2;have hzlen:((Builtin.zeroCells zv.cells m).toList).length=m*ei.size:=by simp[Builtin.zeroCells,hzz,hzl]
  have hzat:∀k,k<m*ei.size->(Builtin.zeroCells zv.cells m).toList[k]? = some (z.getD (k%ei.size) (.bool false)):=by
   intro k hk';have hmod:=Nat.mod_lt k hsz;simp only[Builtin.zeroCells,hzz,bnk,hzl,bof,Array.toList_range,bn1,bo0 hk',bmq]
   grind
  obtain ⟨w',c',hst,hold,_,hr⟩:=hwr (i*ei.size) (Builtin.zeroCells zv.cells m).toList (ru f i m z) (by rw[hzlen,<- bng];exact bmb _ q3) (by
   intro v hv;obtain⟨k,hk',hvk⟩:=bmj hv;have hk2:k<m*ei.size:=by rw[<- hzlen];exact hk'
   have:=hzat k hk2;rw[blz hk',hvk]at this;simp only[bly]at this;have hmod:=Nat.mod_lt k hsz;rw[this,bm7,blz bpw]
   exact j3 hone _ (bma _)) (fun a b ha hb=>by
   rw[hzlen,agl hb];unfold ru;refine⟨fun hc=>?_,fun hc=>by rw[if_neg hc]⟩;rw[if_pos hc];obtain⟨d,rfl⟩:∃d,a=i+d:=⟨a-i,by omega⟩;have e:(i+d)*ei.size+b-i*ei.size=d*ei.size+b:=by rw[bng];omega
   rw[e,hzat _ (af2 bpw hb),(ao0 hb).2];refine⟨_,rfl, ?_⟩;rw[bm7,blz bpw]
   exact m7 _ _ (j3 hone _ (bma _)))
  refine⟨w',c', ?_,⟨hold,hr⟩,rfl⟩;obtain⟨m',rfl⟩:∃m',m=m'+1:=⟨m-1,by omega⟩;simp[Builtin.clear_,q2,run_underlying h2,hzv,hst]
def amr(hE:ck P E)(h:ag w0 nt c s a w)(ht:P.underlying t=some (.slice el)){i k:Nat}{hy:HV}{vx:Value}{u:App}(hx:b9 c s.o (.win id n i k) vx)(hyr:b9 c s.o hy vy)(hq':a3j E s.o el id n i k hy=some u)(hp:u.pre):
 ∃v w' c',(Builtin.append_ #[t,t] ty #[vx,vy]).run P w=.ok v w'/\(c'.old=c.old/\ag w0 nt c' (s.setO u.id (some u.ob)) a w')/\ak c' (s.setO u.id (some u.ob)).o u.val v:=by
 unfold a3j at hq';split at hq'<;>try(cases hq';done)
 rename_i id2 n2 j m;split at hq'<;>try(cases hq';done)
 rename_i ei sz el' n' f hbeq hei hob;have hid:=bmt hbeq;subst hid;simp only[bly]at hq';subst hq';obtain⟨rfl,rfl,hs,hle⟩:=hp;subst hs;obtain⟨ie,de,e1,e2,e3,e4,e5,e6,_⟩:=ay (hE el ei hei);obtain⟨ad,ad',cap,q1,q2,q3,q4,q5,q6⟩:=a7c hx hob rfl;obtain⟨ad2,ad2',cap2,r1,r2,r3,r4,r5,r6⟩:=a7c hyr hob rfl;rw[q1]at r1;simp only[Value.slice.injEq,true_and]at r1;obtain⟨rfl,rfl⟩:=r1
 have hres:∀(c':Ctx) (f':Nat->Nat->PV),c'.own id2=c.own id2->ak c' (s.setO id2 (some (.arr true ei.size el' n2 f'))).o (.v (.one (.win id2 n2 i (k+m)))) (.slice ad' (k+m) (cap-i)):=by
  intro c' f' ho';refine⟨rfl,fun l=>by simp[S.setO],fun ob2 s2 e2 n2 ho2 hd2=>?_⟩;simp only[S.setO,if_true,bly]at ho2;subst ho2;simp only[aa.dim,bly,bm4]at hd2;obtain⟨rfl,rfl,rfl⟩:=hd2;exact⟨bm1 _,fun _=>⟨ad,ad',cap,ho'.trans q1,rfl,by omega,q4,q5,q6⟩⟩
 rcases bnp m with hm|hm
 · subst hm
   rw[q2,r2];refine⟨_,w,c,od (P:=P) w t ty el ie ht e1 ad' ad2' k (cap-i) (cap-j) bpw,⟨rfl, ?_⟩, ?_⟩
   · have hset:mvF f (i+k) j 0=f:=by
      funext a b;unfold mvF;rw[if_neg bpw]
     show ag w0 nt c (s.setO id2 (some (.arr true ei.size el' n2 (mvF f (i+k) j 0)))) a w;rw[hset,afa hob];exact h
   exact hres c _ rfl
 obtain⟨g,cap',hown,hsz,hcell,hwr⟩:=a8i (P:=P) h hob bpw;rw[hown]at q1;simp only[Value.slice.injEq,true_and]at q1;obtain⟨rfl,rfl⟩:=q1;obtain rfl:=q6 bpw;obtain rfl:=r6 bpw;simp only[bmq,d6,bn9]at q2 r2 hres
 obtain ⟨news,hnl,hn1,hnr,hnc⟩:=a44 (c:=c) (m:=m) (sz:=ei.size) (g:=fun a b=>f (j+a) b) (F:=fun x=>w.cell? ⟨g,j*ei.size+x,none⟩) hsz (fun a b ha hb=>by
  obtain⟨x,hx,hr⟩:=hcell (j+a) b bpw hb;refine⟨x, ?_,hr⟩;rw[bng,bo2]at hx
  exact hx)
 obtain ⟨w',c',hst,hold,hown',hr⟩:=hwr ((i+k)*ei.size) news (mvF f (i+k) j m) (by rw[hnl,<- bng];exact bmb _ hle) hnc (fun a b ha hb=>by
  rw[hnl,agl hb];unfold mvF;refine⟨fun hc=>?_,fun hc=>by rw[if_neg hc]⟩;rw[if_pos hc];obtain⟨d,rfl⟩:∃d,a=i+k+d:=⟨a-(i+k),by omega⟩;have e:(i+k+d)*ei.size+b-(i+k)*ei.size=d*ei.size+b:=by rw[bng (i+k) d];omega
  rw[e];obtain⟨x,hx,hr⟩:=hnr d b bpw hb
  exact⟨x,hx,by rw[show i+k+d-(i+k)+j=j+d by omega];exact hr⟩)
 rw[q2,r2];have hfc:=run_firstCells_some (P:=P) (w:=w) ei.size m ⟨g,j*ei.size,none⟩ m (cap'-j) news hnl (fun k v hk=>by rw[d6];exact hn1 k v hk);refine⟨.slice (some ⟨g,i*ei.size,none⟩) (k+m) (cap'-i),w',c', ?_,⟨hold,hr⟩,hres c' _ (hown'.trans rfl)⟩;have hrm:k+m<=cap'-i:=by omega
 have hst':(storeCells ⟨g,i*ei.size+k*ei.size,none⟩ news).run P w=.ok () w':=by rw[<- bng];exact hst
 simp[Builtin.append_,run_underlying ht,sizeOf,typeInfo,e1,<- e4,Builtin.lenOf,hrm,hfc,d6,hst']
theorem aqh(hE:ck P E)(h:ag w0 nt c s a w){u:Upd}(hy:b9 c s.o y vy)(ht:P.underlying t=some (.slice el))(hq':aaf E s.o id n el y=some u)(hp:u.pre):
 ∃v w' c',(Builtin.append_ #[t,t] ty #[c.own id,vy]).run P w=.ok v w'/\(c'.old=c.old/\ag w0 nt c' (s.setO id (some u.ob)) a w')/\ak c' (s.setO id (some u.ob)).o (.v (.one (.ref id (n+1)))) v:=by
 unfold aaf at hq';split at hq'<;>try(cases hq';done)
 rename_i ei e et es n' m g p sz' ms' gg hei hob hsrc;split at hq'<;>try(cases hq';done)
 rename_i id' k hgg;split at hq'<;>try(cases hq';done)
 rename_i z hz;split at hq'<;>try(cases hq';done)
 rename_i hdec;have hzl:=of_decide_eq_true hdec;simp only[bly]at hq';subst hq';obtain⟨p1,rfl,rfl,hsz,rfl,hmax,hbytes⟩:=hp;obtain⟨ie,de,e1,e2,e3,e4,e5,e6,_⟩:=ay (hE e ei hei);rw[hz]at e6
 cases hiz:ie.zero with
 |none=>rw[hiz]at e6;cases e6
 | some zv =>
  rw[hiz]at e6;simp only[bmq,bly]at e6;have hzs:zv.cells.size=1:=by rw[<- bn2,<- e6,hzl,hsz]
  have hmaxn:n'+1<=maxLen:=by simp only[maxLen];omega
  have hnk:jt 0 c s.o w id e et es n' m g none:=h.objs id _ hob;obtain⟨hgm,A,cA,rfl,news,hnl,hn1,hnr,hnc⟩:=acm h hy hsrc p1 (Nat.one_pos)
  obtain ⟨b,rfl,hncell⟩:∃b,A=some b/\∀(k:Nat) u,news[k]? = some u->w.cell? (b.add k)=some u:=by
   grind
  obtain ⟨v',w',row,xs,hrun,hgrow,hrow,hown',hat,hxl,t2⟩:∃v' w' row xs,(Builtin.append_ #[t,t] ty #[c.own id, .slice (some b) 1 cA]).run P w=.ok v' w'/\Grw w w' row/\(∀b,row=some b->au (c.own id)=some b)/\w'.ownsRow 0 e 1 v' (n'+1) (xs++news) /\
   (∀b,cg v'=some b->au (c.own id)=some b\/w.heap.size<=b)/\xs.length=n'/\∀i,i<n'->xs[i]? = some (c.rows id i):=by
   have hnil:n'=0/\(∃a,c.own id=.slice a 0 0)->∃v' w' row xs,(Builtin.append_ #[t,t] ty #[c.own id, .slice (some b) 1 cA]).run P w=.ok v' w'/\Grw w w' row/\(∀b,row=some b->au (c.own id)=some b)/\w'.ownsRow 0 e 1 v' (n'+1) (xs++news) /\
    (∀b,cg v'=some b->au (c.own id)=some b\/w.heap.size<=b)/\xs.length=n'/\∀i,i<n'->xs[i]? = some (c.rows id i):=by
    rintro⟨rfl,a0,ha⟩
    cases a0 with
    | none =>
     obtain⟨v',w',hrun,hown',hgrow0,_,hat⟩:=run_append_own_at (P:=P) w 0 t ty e ie zv 1 ie.bytes ht e1 hiz (by rw[<- e4];exact hsz) rfl hzs Nat.one_pos (c.own id) 0 [] (by rw[ha];exact bpr w _ _ _) b 1 cA news hnl hncell hn1 hmaxn (by rw[<- e5];exact hbytes) (bm3 _);refine⟨v',w',none,[],hrun,⟨?_,w4 _ hrun⟩,(fun b e=>by cases e),hown',fun b' hb'=>?_,rfl,fun i hi=>by omega⟩
     · rw [ha]at hgrow0
       exact hgrow0
     have e1':v'.ownBlock=cg v':=by
      rcases hown'.2 with⟨hv,hz⟩|⟨g,cap,cur,hv,_⟩
      · omega
      rw[hv];rfl
     rw[<- e1']at hb'
     rcases hat with h1|h1
     · rw[h1,ha]at hb';cases hb'
     grind
    | some ba =>
     have hr:=run_append_grow (P:=P) w t ty e ie zv ht e1 hiz ba 0 0 [] bpz (fun k u hk=>by simp at hk) b 1 cA news (by rw[<- e4,hsz];exact hnl) hncell bpw bpw (growslice_fits bpw (by rw[<- e5];exact hbytes));rw[<- ha]at hr;have hge:=grownCap_ge w (0+1) 0 e;have hcm:grownCap w (0+1) 0 e<=maxLen:=grownCap_le_maxLen w (0+1) 0 e hmaxn;refine⟨_,_,none,[],hr,⟨⟨rfl,rfl,rfl,by simp,fun k hk _=>heap_alloc_old w.drew _ k hk⟩,bpg _⟩,(fun b e=>by cases e),⟨by rw[List.nil_append];exact hnl, .inr ⟨w.heap.size,_,_,rfl,bm3 _,heap_alloc_new w.drew _,hge,hcm, ?_, ?_⟩⟩,fun b' hb'=>.inr ?_,rfl,fun i hi=>by omega⟩
     · simp only [bov,bnk,size_zeroCells,hzs,hnl,bor]
       omega
     · grind
     simp only[cg,bly]at hb';omega
   rcases hnk.top with r0|⟨xs,t1,t2,_⟩
   · exact hnil r0
   have t1:w.ownsRow 0 e 1 (c.own id) n' xs:=t1
   rcases fh t1 with r0|⟨b0,cap0,rv,rb⟩
   · exact hnil r0
   obtain⟨v',w',hrun,hown',hgrow0,_,hat⟩:=run_append_own_at (P:=P) w 0 t ty e ie zv 1 ie.bytes ht e1 hiz (by rw[<- e4];exact hsz) rfl hzs Nat.one_pos (c.own id) n' xs t1 b 1 cA news hnl hncell hn1 hmaxn (by rw[<- e5];exact hbytes) (bm3 _);have e0:(c.own id).ownBlock=some b0:=by rw[rv];rfl
   refine⟨v',w',(c.own id).ownBlock,xs,hrun,⟨hgrow0,w4 _ hrun⟩,fun b' hb'=>by rw[e0]at hb';rw[rb];exact hb',hown',fun b' hb'=>?_,by rw[t1.1];omega,t2⟩
   have e1':v'.ownBlock=cg v':=by
    rcases hown'.2 with⟨hv,hz⟩|⟨g,cap,cur,hv,_⟩
    · omega
    rw[hv];rfl
   grind
  have hform:∃ad' cap',v'=.slice ad' (n'+1) cap':=by
   rcases hown'.2 with⟨hv,hz⟩|⟨g,cap,cur,hv,_⟩
   · omega
   grind
  have hcv:au v'=cg v':=by
   rcases fh hown' with⟨hz,_⟩|⟨b',cap',rv,rb⟩
   · omega
   rw[rb,rv];rfl
  have hinner:∀i b',i<n'->au (c.rows id i)=some b'->b'<w.heap.size:=fun i b' hi hb'=>((h.objs id _ hob).blk ((hnk.blks b').2 (.inr ⟨i,hi,hb'⟩))).2
  have hnew:∀i b',i<n'->au (c.rows id i)=some b'->au v'≠some b':=fun i b' hi hb' he=>by
   rw[hcv]at he
   rcases hat b' he with h1|h1
   · exact(hnk.apart i b' hi hb').1 h1
   grind
  have hold:∀i b',i<n'->au (c.rows id i)=some b'->w'.heap[b']? = w.heap[b']?:=fun i b' hi hb'=>hgrow.base.block b' (hinner i b' hi hb') fun he=>(hnk.apart i b' hi hb').1 (hrow b' he.symm)
  have hevo:∀k2,Evo c s.o { old:=c.old,imm:=c.imm,tab:=c.tab,own:=fun k2=>if k2=id then v' else c.own k2,blk:=fun k2=>if k2=id then(fun b=>au v'=some b\/∃i,i<n'/\au (c.rows id i)=some b)else c.blk k2,rows:=c.rows } (s.setO id (some (.nest e et es n' m g (some (id',k))))).o k2:=fun k2=>by
   by_cases hk:k2=id
   · subst hk
     exact .inr (.inr ⟨_,_,1,e,n',n'+1,hob,rfl,(by show(if k2=k2 then _ else _)=_;rw[if_pos rfl]),rfl,bpg _,fun hh=>by omega,fun e2 et2 es2 n2 m2 g2 pd2 hb2=>by
      cases hb2
      exact⟨_,_,_,_,_,_,rfl,bm1 _,fun i _=>⟨bm1 _,fun _=>rfl⟩⟩⟩)
   exact Evo.of_same (by simp[S.setO,hk]) (by simp[hk])
  refine⟨v',w',_,hrun,⟨(by rfl),h.write id _ hob (.nest e et es n' m g (some (id',k))) w' v' (fun b=>au v'=some b\/∃i,i<n'/\au (c.rows id i)=some b) row hgrow (fun b' hb'=>(hnk.blks b').2 (.inl (hrow b' hb'))) (hevo id) (fun b' hb'=>?_) ?_⟩, ?_,fun l=>by simp[S.setO],fun ob2 s2 e2 n2 ho2 hd2=>?_⟩
  · rcases hb' with hb'|hb'
    · rw [hcv]at hb'
      rcases hat b' hb' with h1|h1
      · exact .inl ((hnk.blks b').2 (.inl h1))
      grind
    exact .inl ((hnk.blks b').2 (.inr hb'))
  · refine ⟨hnk.pos,hmaxn,hnk.lens,fun b'=>by simp,fun i b' hi hb'=>⟨by simpa using hnew i b' hi hb',(hnk.apart i b' hi hb').2⟩,fun i hi=>?_, .inr ⟨xs++news, ?_,fun i hi=>?_,fun p hp=>?_⟩⟩
    · rcases hnk.row i hi with r0|⟨zs,r1,r2⟩
      · exact .inl r0
      rcases fh r1 with r0|⟨b',cap2,rv,rb⟩
      · exact .inl r0
      refine .inr ⟨zs,mt r1 fun b2 hb2=>?_,r2⟩;rw[rv]at hb2;simp only[cg,bly]at hb2
      grind
    · simp only [if_true]
      exact hown'
    · grind
    cases hp;obtain⟨x,hx,hxr⟩:=hnr 0 0 bpw bpw;rw[hgg]at hxr;refine⟨x, ?_,b9.evo (c:=c) (o:=s.o) (Imm.le.refl c.imm) (fun k _=>hevo k) hxr⟩
    grind
  · obtain⟨_,_,rfl⟩:=hform;rfl
  simp only[S.setO,if_true,bly]at ho2;subst ho2;simp only[aa.dim,bly,bm4]at hd2
  grind
def avu(hE:ck P E)(h:ag w0 nt c s a w){o:Oper}{wb:Bool}{u:App}(hq':hap E s.o (ev s) id wb o.op=some u)(hp:u.pre)(hn:u.new=true->NM s id/\s.o id=none):
 ∃v w' c',(execOp a.eval o).run P w=.ok (.value v) w'/\(c'.old=c.old/\ag w0 nt c' (s.setO u.id (some u.ob)) a w')/\ak c' (s.setO u.id (some u.ob)).o u.val v:=by
 cases ho:o.op<;>rw[ho]at hq'<;>simp only[hap]at hq'<;>try(cases hq';done)
 case call cl =>
  split at hq'<;>try(cases hq';done)
  case h_2 hcal =>
   obtain⟨w',c',h1,h2,h3⟩:=ad3 (ty:=o.type) hE h hq' hp;refine⟨.tuple #[],w',c', ?_,h2,by rw[h3];exact⟨[],rfl,trivial⟩⟩;unfold execOp;rw[<- bof,bo5,bo5]at h1;simp only[ho,resolve,hcal,bmz,bnh,bmf,invoke,builtin,h1]
  rename_i hcal;unfold a79 at hq';split at hq'<;>try(cases hq';done)
  rename_i x y t t' hargs htys;split at hq'<;>try(cases hq';done)
  rename_i htt;have htt:=bmt htt;subst htt;unfold a6p at hq';split at hq'<;>try(cases hq';done)
  rename_i i hti;split at hq'<;>try(cases hq';done)
  rename_i el hk;split at hq'<;>try(cases hq';done)
  rename_i hxv hx;split at hq'<;>try(cases hq';done)
  rename_i hy hyy;unfold x5 at hq';have hA:cl.args=#[x,y]:=Array.ext' (by simpa using hargs);have hT:cl.argTypes=#[t,t]:=Array.ext' (by simpa using htys);obtain⟨ii,d,h1,h2,h3,_⟩:=ay (hE t i hti)
  have hrun:∀v w',(Builtin.append_ #[t,t] o.type #[a.eval x,a.eval y]).run P w=.ok v w'->(execOp a.eval o).run P w=.ok (.value v) w':=by
   intro v w' hv;unfold execOp;simp only[ho,resolve,hcal,hA,hT,bmz,bnh,bmf,invoke,builtin,List.map_toArray,bnr,List.map_nil,hv]
  split at hq'<;>try(cases hq';done)
  · rename_i id1 n i1 k1
    obtain rfl:=dw (h3.symm.trans hk);obtain⟨v,w',c',g1,g2,g3⟩:=amr (ty:=o.type) hE h h2 (ae h hx) (ae h hyy) hq' hp;exact⟨v,w',c',hrun v w' g1,g2,g3⟩
  · rename_i id1 n ad cap
    obtain rfl:=dw (h3.symm.trans hk);split at hq'<;>try(cases hq';done)
    rename_i uu huu;split at hq'<;>try(cases hq';done)
    rename_i wr sz el2 k f hob;simp only[bly]at hq';subst hq';obtain⟨hp,hkc⟩:=hp;have hny:=ae h hyy;obtain⟨v,w',c',k',sz',f',g1,g2,g3,g4,g5⟩:=a0p (ty:=o.type) hE h hny h2 huu hp
    have hown:a.eval x=c.own id1/\a.eval x=.slice ad n cap:=by
     have huu2:=huu;unfold re at huu2;split at huu2<;>try(cases huu2;done)
     rename_i ei wr' sz2 el3 n' f2 p m sz3 g hei hob2 hsrc;split at huu2<;>try(cases huu2;done)
     split at huu2<;>try(cases huu2;done)
     simp only[bly]at huu2;subst huu2;obtain⟨_,rfl,_⟩:=hp;obtain⟨g0,_,g⟩:=ae h hx;exact⟨(g _ _ _ _ hob2 rfl).2 rfl,g0⟩
    rw[g3]at hob;simp only[aa.arr.injEq]at hob;obtain⟨_,_,_,rfl,_⟩:=hob;have hv:=azv (ty:=o.type) hE h hny h2 huu hp (hown.1.symm.trans hown.2) g3 hkc g1;rw[<- hown.1]at g1;refine⟨v,w',c',hrun v w' g1, ?_, ?_⟩
    · rw[<- g2];exact g4
    rw[<- g2];rw[<- g2]at g5;obtain⟨_,q2,q3⟩:=g5;exact⟨hv,q2,q3⟩
  · rename_i id1 n
    obtain rfl:=dw (h3.symm.trans hk);split at hq'
    · rename_i uu huu
      split at hq'<;>try(cases hq';done)
      rename_i wr sz el2 k f hob;simp only[bly]at hq';subst hq';have hny:=ae h hyy;obtain⟨v,w',c',k',sz',f',g1,g2,g3,g4,g5⟩:=a0p (ty:=o.type) hE h hny h2 huu hp
      have hown:a.eval x=c.own id1:=by
       unfold re at huu;split at huu<;>try(cases huu;done)
       rename_i ei wr' sz2 el3 n' f2 p m sz3 g hei hob2 hsrc;split at huu<;>try(cases huu;done)
       split at huu<;>try(cases huu;done)
       simp only[bly]at huu;subst huu;obtain⟨_,rfl,_⟩:=hp;obtain⟨_,_,g⟩:=ae h hx;exact(g _ _ _ _ hob2 rfl).2 rfl
      rw[g3]at hob;simp only[aa.arr.injEq]at hob;obtain⟨_,_,_,rfl,_⟩:=hob;rw[<- hown]at g1;refine⟨v,w',c',hrun v w' g1, ?_, ?_⟩
      · rw[<- g2];exact g4
      rw[<- g2];rw[<- g2]at g5;exact g5
    split at hq'
    case h_2 =>
     split at hq'<;>try(cases hq';done)
     rename_i uu huu;simp only[bly]at hq';subst hq';obtain⟨v,w',c',g1,g4,g5⟩:=aqh (ty:=o.type) hE h (ae h hyy) h2 huu hp
     have hown:a.eval x=c.own id1:=by
      unfold aaf at huu;split at huu<;>try(cases huu;done)
      rename_i ei e et es n' m g p sz' ms' gg hei hob2 hsrc;split at huu<;>try(cases huu;done)
      split at huu<;>try(cases huu;done)
      split at huu<;>try(cases huu;done)
      simp only[bly]at huu;subst huu;obtain⟨_,rfl,_⟩:=hp;obtain⟨_,_,g⟩:=ae h hx;exact(g _ _ _ _ hob2 rfl).2 rfl
     rw[<- hown]at g1;exact⟨v,w',c',hrun v w' g1,g4,g5⟩
    rename_i uu huu;split at hq'<;>try(cases hq';done)
    rename_i sz el2 k ms f hob;simp only[bly]at hq';subst hq';have hny:=ae h hyy;obtain⟨v,w',c',k',sz',ms',f',g1,g2,g3,g4,g5⟩:=aj3 (ty:=o.type) hE h hny h2 huu hp
    have hown:a.eval x=c.own id1:=by
     unfold yr at huu;split at huu<;>try(cases huu;done)
     rename_i ei sz2 el3 n' ms2 f2 p m sz3 ms3 g hei hob2 hsrc;split at huu<;>try(cases huu;done)
     split at huu<;>try(cases huu;done)
     simp only[bly]at huu;subst huu;obtain⟨_,rfl,_⟩:=hp;obtain⟨_,_,g⟩:=ae h hx;exact(g _ _ _ _ hob2 rfl).2 rfl
    rw[g3]at hob;simp only[aa.arrh.injEq]at hob;obtain⟨_,_,rfl,_⟩:=hob;rw[<- hown]at g1;refine⟨v,w',c',hrun v w' g1, ?_, ?_⟩
    · rw[<- g2];exact g4
    rw[<- g2];rw[<- g2]at g5;exact g5
  rename_i n sz f;obtain rfl:=dw (h3.symm.trans hk);split at hq'<;>try(cases hq';done)
  rename_i ei hei;split at hq'<;>try(cases hq';done)
  rename_i uu huu;split at hq'<;>try(cases hq';done)
  rename_i wr sz2 el2 k f2 hob;simp only[bly]at hq';subst hq';obtain⟨hp1,hp2,hp3,hp4⟩:=hp;obtain⟨hnm,hno⟩:=hn rfl;have hxr:=ae h hx
  have hxr':aq c.imm (.sl n ei.size true f) (a.eval x):=by
   rcases hp2 with h0|h0
   · subst h0
     obtain⟨ad,cap,q1,q2,q3,q4,q5⟩:=hxr;exact⟨ad,cap,q1,q2,q3,q4,fun hh=>by omega⟩
   rw[<- h0];exact hxr
  have h':=h.fresh id hnm hno (.arr false ei.size el n f) w (a.eval x) noB (Grw.refl w _) (fun b hb=>hb.elim)
   ⟨hp3,by simp only[maxLen];omega, .inr ⟨.inl rfl,by simp,by simpa using hxr'⟩⟩
  have hny:b9 { old:=c.old,imm:=c.imm,tab:=c.tab,own:=fun k=>if k=id then a.eval x else c.own k,blk:=fun k=>if k=id then noB else c.blk k,rows:=c.rows } (s.setO id (some (.arr false ei.size el n f))).o hy (a.eval y):=by
   have hm:=aa8 hnm hyy;refine b9.evo (c:=c) (o:=s.o) (c':={ old:=c.old,imm:=c.imm,tab:=c.tab,own:=fun k=>if k=id then a.eval x else c.own k,blk:=fun k=>if k=id then noB else c.blk k,rows:=c.rows }) (Imm.le.refl c.imm) (fun k hkm=>?_) (ae h hyy);have hne:k≠id:=by rintro rfl;exact hm hkm
   exact Evo.of_same (by simp[S.setO,hne]) (by simp[hne])
  obtain⟨v,w',c',k',sz',f',g1,g2,g3,g4,g5⟩:=a0p (ty:=o.type) hE h' hny h2 huu hp1;rw[g3]at hob;simp only[aa.arr.injEq]at hob;obtain⟨_,_,_,rfl,_⟩:=hob;simp only[if_true]at g1;refine⟨v,w',c',hrun v w' g1, ?_, ?_⟩
  · rw [g2]at g4
    have e:((s.setO id (some (.arr false ei.size el n f))).setO id (some uu.ob))=s.setO id (some uu.ob):=by
     simp only[S.setO,S.mk.injEq,true_and];funext k;by_cases hk:k=id<;>simp[hk]
    rw[e]at g4;exact g4
  rw[g2]at g5
  have e:((s.setO id (some (.arr false ei.size el n f))).setO id (some uu.ob))=s.setO id (some uu.ob):=by
   simp only[S.setO,S.mk.injEq,true_and];funext k;by_cases hk:k=id<;>simp[hk]
  rw[e]at g5;exact g5
end
end
end
end Go.Hx
