/- A part of the proof: Hx33 Hx31 Kb2 Kw2. -/
import Derived.Test.YtnlcekpflogjkaaGreatDoorTy28
set_option linter.all false
set_option maxRecDepth 100000
set_option maxHeartbeats 1000000
namespace Go.Hx
section
open Go.RowKit
def vHC:Value->HC
 | .agg l=>.agg (l.toList.map fun v=>.p (.raw v))
 |v=>.one (.p (.raw v))
def vOk:Value->Bool
 | .agg l=>l.toList.all Value.oneCell'
 |v=>v.oneCell'
def amb {c:Ctx} {o:au}:∀{l:List Value},l.all Value.oneCell'=true->bf c o (l.map fun v=>.p (.raw v)) l
 | [],_=>trivial
 | v::l,h=>by
  rw[List.all_cons,bt5]at h;exact⟨⟨rfl,h.1⟩,amb h.2⟩
def aa6 {c:Ctx} {o:au} {v:Value} (h:vOk v=true):fu c o (vHC v) v:=by
 cases v with
 |agg l=>exact⟨l.toList,by simp,amb h⟩
 |_=>exact⟨rfl,h⟩
def a4e:List HV->Option (List Value)
 | []=>some []
 | .p (.raw v)::r=>(a4e r).map (v::·)
 |_=>none
def kOf:HR->Option Value
 | .v (.one (.p (.raw v)))=>some v
 | .v (.agg l)=>(a4e l).map fun vs=>.agg vs.toArray
 |_=>none
def ag8{c:Ctx}{o:au}:∀{l:List HV} {vs us:List Value},a4e l=some vs->bf c o l us->us=vs/\vs.all Value.oneCell'=true
 | [],vs,us,h,hr=>by
  cases h
  cases us with
  |nil=>exact⟨rfl,rfl⟩
  |cons=>exact hr.elim
 | .p (.raw v)::r,vs,us,h,hr=>by
  unfold a4e at h
  cases hq:a4e r with
  |none=>rw[hq]at h;cases h
  | some ws =>
   rw[hq]at h;cases h
   cases us with
   |nil=>exact hr.elim
   | cons u us =>
    obtain⟨h1,h2⟩:=ag8 hq hr.2;obtain⟨e1,e2⟩:=hr.1;subst h1 e1;exact⟨rfl,by rw[List.all_cons,e2,h2];rfl⟩
def a8y{c:Ctx}{o:au}{x:HR}{v u:Value}(h:kOf x=some v)(hr:ar c o x u):u=v/\vOk v=true:=by
 unfold kOf at h;split at h
 · cases h
   obtain⟨e1,e2⟩:=hr;subst e1;refine⟨rfl, ?_⟩;unfold vOk;split
   · simp[Value.oneCell']at e2
   exact e2
 · rename_i l
   cases hq:a4e l with
   |none=>rw[hq]at h;cases h
   | some ws =>
    rw[hq]at h;cases h;obtain⟨us,e,hl⟩:=hr;obtain⟨h1,h2⟩:=ag8 hq hl;subst h1 e;exact⟨rfl,h2⟩
 cases h
structure oj (P:Program) (kt:TypeId) (es:Array MapEntry) (clock:Nat):Prop where
 st:Go.MapKept.Stamped es clock
 mx:es.size<=maxLen
 ky:∀x∈es.toList,∃l,keyOf P kt x.key=some l
 vl:∀x∈es.toList,vOk x.key=true/\vOk x.val=true
def oj.nil{P:Program}{kt:TypeId}{clock:Nat}:oj P kt #[] clock:=⟨Go.MapKept.stamped_empty clock,by simp,fun x hx=>by simp at hx,fun x hx=>by simp at hx⟩
def oj.inj {P:Program} {kt:TypeId} {es:Array MapEntry} {clock:Nat} (h:oj P kt es clock) {x y:MapEntry} (hx:x∈es.toList) (hy:y∈es.toList) (e:x.key=y.key):x=y:=by
 have hp:=((Go.MapKept.stamped_iff es clock).1 h.st).2.2;obtain⟨i,hi,rfl⟩:=btt hx;obtain⟨j,hj,rfl⟩:=btt hy
 rcases bwp i j with h1|h1|h1
 · exact absurd e (bv3.1 hp i j hi hj h1)
 · subst h1;rfl
 exact absurd e.symm (bv3.1 hp j i hj hi h1)
section
variable {P:Program}{nt:Nat}{ops:Array Oper}{st:HSt}{k:Nat}{o:Oper}{L:List Nat}{Q:HSt->Prop}{x ix:Operand}{mid j b clock d:Nat}{es:Array MapEntry}{t kt et:TypeId}
section
variable {kl:Lit}{kv:Value}{kx:HR}
def b3t {z:Value} (hi:ops[k]? = some o) (ht:P.underlying t=some (.map kt et)) (K:Go.Maps.Keyed P kt) (hz:∀w,(zeroValue et).run P w=.ok z w) (hzo:vOk z=true) (hX:oj P kt es clock) (hkey:keyOf P kt kv=some kl) (hkv:kOf kx=some kv) (h0:(∀e∈es.toList,e.key≠kv)->RN P nt ops L ⟨(d,some (.tup [vHC z, .one (.p (.raw (.bool false)))]))::st.t,st.o⟩ Q) (h1:∀e∈es.toList,e.key=kv->RN P nt ops L ⟨(d,some (.tup [vHC e.val, .one (.p (.raw (.bool true)))]))::st.t,st.o⟩ Q) (hg:o.guard=none:=by exact rfl) (ho:o.op=.lookup t x ix true:=by exact rfl) (hd:o.dst=some d:=by exact rfl) (hdn:d6 nt (some d)=true:=by exact rfl) (hx:ev st.den x=some (.v (.one (.ref mid 0))):=by exact rfl) (hm:st.den.o mid=some (mpO b es clock):=by exact rfl) (hk:ev st.den ix=some kx:=by exact rfl):RN P nt ops (k::L) st Q :=
 ae3 hi hg hd hdn (fun c hc=>by rw[hc]at ho;cases ho) fun w0 a w c hrr=>by
  obtain⟨e1,e2⟩:=aq4 hrr hx hm;obtain⟨e3,_⟩:=a8y hkv (af hrr hk)
  rcases ad1 true K ht (hz w) e2 hX.mx hX.st hX.ky hkey with⟨hrun,hno⟩|⟨e0,he0,hk0,hrun⟩
  · exact⟨_,w,st.o, .tup [vHC z, .one (.p (.raw (.bool false)))],c,rfl,by simp[execOp,ho,e1,e3,hrun],hrr,⟨[z, .bool false],rfl,aa6 hzo,⟨rfl,rfl⟩,trivial⟩,h0 hno⟩
  exact⟨_,w,st.o, .tup [vHC e0.val, .one (.p (.raw (.bool true)))],c,rfl,by simp[execOp,ho,e1,e3,hrun],hrr,⟨[e0.val, .bool true],rfl,aa6 (hX.vl e0 he0).2,⟨rfl,rfl⟩,trivial⟩,h1 e0 he0 hk0⟩
def acg {z:Value} (hi:ops[k]? = some o) (ht:P.underlying t=some (.map kt et)) (K:Go.Maps.Keyed P kt) (hz:∀w,(zeroValue et).run P w=.ok z w) (hzo:vOk z=true) (hX:oj P kt es clock) (hkey:keyOf P kt kv=some kl) (hkv:kOf kx=some kv) (h0:(∀e∈es.toList,e.key≠kv)->RN P nt ops L ⟨(d,some (.v (vHC z)))::st.t,st.o⟩ Q) (h1:∀e∈es.toList,e.key=kv->RN P nt ops L ⟨(d,some (.v (vHC e.val)))::st.t,st.o⟩ Q) (hg:o.guard=none:=by exact rfl) (ho:o.op=.lookup t x ix false:=by exact rfl) (hd:o.dst=some d:=by exact rfl) (hdn:d6 nt (some d)=true:=by exact rfl) (hx:ev st.den x=some (.v (.one (.ref mid 0))):=by exact rfl) (hm:st.den.o mid=some (mpO b es clock):=by exact rfl) (hk:ev st.den ix=some kx:=by exact rfl):RN P nt ops (k::L) st Q :=
 ae3 hi hg hd hdn (fun c hc=>by rw[hc]at ho;cases ho) fun w0 a w c hrr=>by
  obtain⟨e1,e2⟩:=aq4 hrr hx hm;obtain⟨e3,_⟩:=a8y hkv (af hrr hk)
  rcases ad1 false K ht (hz w) e2 hX.mx hX.st hX.ky hkey with⟨hrun,hno⟩|⟨e0,he0,hk0,hrun⟩
  · exact⟨z,w,st.o, .v (vHC z),c,rfl,by simp[execOp,ho,e1,e3,hrun],hrr,aa6 hzo,h0 hno⟩
  exact⟨e0.val,w,st.o, .v (vHC e0.val),c,rfl,by simp[execOp,ho,e1,e3,hrun],hrr,aa6 (hX.vl e0 he0).2,h1 e0 he0 hk0⟩
def a56(id:Nat){t:TypeId}(hi:ops[k]? = some o)(h:∀b,RN P nt ops L ⟨(d,some (.v (.one (.ref id 0))))::st.t,(id,some (mpO b #[] 0))::st.o⟩ Q)
 (hg:o.guard=none:=by exact rfl) (ho:o.op=.makeMap t none:=by exact rfl) (hd:o.dst=some d:=by exact rfl) (hdn:d6 nt (some d)=true:=by exact rfl) (hn:jp id st=true:=by exact rfl):RN P nt ops (k::L) st Q :=
 ae3 hi hg hd hdn (fun c hc=>by rw[hc]at ho;cases ho) fun w0 a w c hrr=>by
  obtain⟨hnm,hno⟩:=ek hn
  have hf:=hrr.fresh id hnm hno (mpO w.heap.size #[] 0) (w.alloc (.map #[] 0)) (.map (some w.heap.size)) (zt w.heap.size) (Grw.alloc w _ none) (fun b hb=>bwe (Eq.symm hb))
   ⟨by simp,by simp,bsx _,Go.heap_alloc_new w _,rfl⟩
  rw[<- ja]at hf;refine⟨.map (some w.heap.size),_,_, .v (.one (.ref id 0)),_,(by exact rfl), ?_,hf,⟨rfl,fun l=>by simp[ja,S.setO],fun ob2 s2 e2 n2 ho2 hd2=>?_⟩,h w.heap.size⟩
  · simp[execOp,ho,Go.run_makeMap_plain]
  rw[ja]at ho2;simp only[S.setO,if_true,bst]at ho2;subst ho2;simp only[a7.dim,bst,bt2]at hd2;obtain⟨rfl,rfl,rfl⟩:=hd2;exact⟨bsw _,fun _=>by simp⟩
structure amh (es es':Array MapEntry) (kv v:Value):Prop where
 to:∀x'∈es'.toList,(x'∈es.toList/\x'.key≠kv)\/(x'.key=kv/\x'.val=v)
 at_:∃x'∈es'.toList,x'.key=kv/\x'.val=v
 old:∀x∈es.toList,x.key≠kv->∃x'∈es'.toList,x'.key=x.key/\x'.val=x.val
 sz:es'.size<=es.size+1
def a33{y:Operand}{v:Value}{vx:HR}(hi:ops[k]? = some o)(ht:P.underlying t=some (.map kt et))(K:Go.Maps.Keyed P kt)(hX:oj P kt es clock)(hlt:es.size<maxLen)(hkey:keyOf P kt kv=some kl)(hkv:kOf kx=some kv)(hvv:kOf vx=some v)(h:∀es' clock',oj P kt es' clock'->amh es es' kv v->RN P nt ops L ⟨(match o.dst with|some d=>[(d,none)]|none=>[])++st.t,(mid,some (mpO b es' clock'))::st.o⟩ Q)(hg:o.guard=none:=by exact rfl)(ho:o.op=.mapUpdate t x ix y:=by exact rfl)(hdn:d6 nt o.dst=true:=by exact rfl)(hx:ev st.den x=some (.v (.one (.ref mid 0))):=by exact rfl)(hm:ay st.o mid=some (mpO b es clock):=by exact rfl)(hk:ev st.den ix=some kx:=by exact rfl)(hv:ev st.den y=some vx:=by exact rfl):RN P nt ops (k::L) st Q:=by
 refine bk4 hi hg hdn (fun c hc=>by rw[hc]at ho;cases ho) fun w0 a w c hrr=>?_;obtain⟨e1,e2⟩:=aq4 hrr hx hm;obtain⟨e3,e3'⟩:=a8y hkv (af hrr hk);obtain⟨e4,e4'⟩:=a8y hvv (af hrr hv);obtain⟨q1,q2,q3,q4,q5⟩:=hrr.objs mid _ hm;obtain⟨es',clock',hrun,hst,hsz,hall,hat,hold⟩:=akd (val:=v) K ht e2 hlt hX.st hX.ky hkey;have hblk:=Go.ChangeMaps.heap_setBlock_same e2 (.map es' clock')
 have hP:amh es es' kv v:=by
  refine⟨hall, ?_,fun x hx hne=>?_,hsz⟩
  · obtain ⟨x',hx',hk'⟩:=hat
    refine⟨x',hx',hk', ?_⟩
    rcases hall x' hx' with⟨_,h2⟩|⟨_,h2⟩
    · exact absurd hk' h2
    exact h2
  obtain⟨x',hx',hk'⟩:=hold x hx;refine⟨x',hx',hk', ?_⟩
  rcases hall x' hx' with⟨h1,_⟩|⟨h2,_⟩
  · rw[hX.inj h1 hx hk']
  exact absurd (hk'.symm.trans h2) hne
 have hX':oj P kt es' clock':=⟨hst,by omega,fun x' hx'=>by
  rcases hall x' hx' with⟨h1,_⟩|⟨h2,_⟩
  · exact hX.ky x' h1
  · exact⟨kl,by rw[h2];exact hkey⟩,fun x' hx'=>by
  rcases hall x' hx' with⟨h1,_⟩|⟨h2,h3⟩
  · exact hX.vl x' h1
  rw[h2,h3];exact⟨e3',e4'⟩⟩
 have hw:=hrr.write mid _ hm (mpO b es' clock') (Go.ChangeMaps.setBlock w b (.map es' clock')) (c.own mid) (c.blk mid) (some b) (by
  exact⟨⟨rfl,rfl,rfl,by simp[Go.ChangeMaps.setBlock],fun i _ hi=>Go.ChangeMaps.heap_setBlock_other e2 _ (fun e=>hi (by rw[e]))⟩,bsw _⟩) (fun b' hb'=>by cases hb';rw[q2];rfl)
  (.inr (.inr ⟨_,mpO b es' clock',0,0,0,0,hm,rfl,by simp[S.setO],rfl,bsw _,fun _=>by simp,fun _ _ _ _ _ _ _ hb=>by cases hb⟩)) (fun b hb=>.inl hb) ⟨by simpa using q1,by simpa using q2,q3,hblk,rfl⟩
 rw[<- ja]at hw;exact⟨.skip,_,_,_,(by exact rfl),by simp[execOp,ho,e1,e3,e4,hrun], .inl rfl,hw,h es' clock' hX' hP⟩
def acz {z:Value} (hi:ops[k]? = some o) (ht:P.underlying t=some (.map kt et)) (K:Go.Maps.Keyed P kt) (hz:∀w,(zeroValue et).run P w=.ok z w) (hzo:vOk z=true) (hX:oj P kt es clock) (hkey:keyOf P kt kv=some kl) (hkv:kOf kx=some kv) (h:∀(ok:Bool) (v:Value),(ok=true->∃e∈es.toList,e.key=kv/\v=e.val)->(ok=false->v=z/\∀e∈es.toList,e.key≠kv)->RN P nt ops L ⟨(d,some (.tup [vHC v, .one (.p (.raw (.bool ok)))]))::st.t,st.o⟩ Q) (hg:o.guard=none:=by exact rfl) (ho:o.op=.lookup t x ix true:=by exact rfl) (hd:o.dst=some d:=by exact rfl) (hdn:d6 nt (some d)=true:=by exact rfl) (hx:ev st.den x=some (.v (.one (.ref mid 0))):=by exact rfl) (hm:st.den.o mid=some (mpO b es clock):=by exact rfl) (hk:ev st.den ix=some kx:=by exact rfl):RN P nt ops (k::L) st Q :=
 b3t hi ht K hz hzo hX hkey hkv (fun hno=>h false z (fun e=>by cases e) fun _=>⟨rfl,hno⟩) (fun e he hk=>h true e.val (fun _=>⟨e,he,hk,rfl⟩) fun e=>by cases e) hg ho hd hdn hx hm hk
end
end
end
section
open Go.RowKit
def b67 (id n s:Nat) (F:Nat->Nat->PV):List HC->List HC->Prop
 | [],[]=>True
 |x::xs,y::ys=>(y=x\/(x=.one (.ref id n)/\y=.one (.p (.sl n s false F))))/\b67 id n s F xs ys
 |_,_=>False
section
variable {e:TypeId}{n:Nat}
def d9.eat1{P:Program}{f:FuncId}{args args':List HC}{o1:List (Nat×a7)}{res:HR}{o2:List (Nat×a7)}{fx:List Nat}{id s:Nat}{wr:Bool}{F:Nat->Nat->PV}(h:d9 P f args o1 res o2 fx)(ha:b67 id n s F args' args)(hid:lk o1 id=none)(hfx:∀k∈fx,k≠id):d9 P f args' ((id, .arr wr s e n F)::o1) res o2 fx:=by
 classical
 intro w c us hm hargs
 have hlk:∀k,k≠id->lk ((id,a7.arr wr s e n F)::o1) k=lk o1 k:=fun k hk=>by
  simp only[lk]
  have:Nat.beq id k=false:=by
   rw[btb];exact fun hb=>hk (btw hb).symm
  rw[this];rfl
 have hlki:lk ((id,a7.arr wr s e n F)::o1) id=some (.arr wr s e n F):=by simp[lk]
 let frm:Imm:=fun b=>none
 let c2:Ctx:={ old:=(c.imm,frm,c.own,lk ((id,a7.arr wr s e n F)::o1),c.rows),imm:=c.imm,tab:=c.tab,own:=c.own,blk:=c.blk,rows:=c.rows }
 have hrel:ah w 0 c2 ⟨fun _=>none,lk ((id,a7.arr wr s e n F)::o1)⟩ { tmps:=#[],defers:=[] } w:=by
  refine⟨th.nil _ _ _ _,rfl,Below.refl _ _,(fun d x hx=>by cases hx),fun id ob ho=>?_,hm.inj,hm.imm,hm.sep,fun b _=>rfl,(fun b ob hbo=>by cases hbo),fun id ob b ho hbb=>rfl,fun id _=>Evo.of_same rfl rfl⟩;exact(hm.objs id ob ho).keep (Imm.le.refl c.imm) rfl rfl (fun _ _=>Evo.of_same rfl rfl) fun _ _=>rfl
 have hf:=hrel.freeze (id:=id) hlki;have hfa:=ru hrel hlki
 have ho:(S.setO ⟨fun _=>none,lk ((id,a7.arr wr s e n F)::o1)⟩ id none).o=lk o1:=by
  funext k;simp only[S.setO];by_cases hk:k=id
  · subst hk;rw[if_pos rfl,hid]
  rw[if_neg hk,hlk k hk]
 let c1:Ctx:={ old:=c.old,imm:=frozenImm c2 w id,tab:=om hrel hlki,own:=c.own,blk:=c.blk,rows:=c.rows }
 have hm1:Mem c1 (lk o1) w:=by
  rw[<- ho];exact⟨fun k ob hk=>(hf.objs k ob hk).keep (c':=c1) (Imm.le.refl _) rfl rfl (fun _ _=>Evo.of_same rfl rfl) fun _ _=>rfl,hf.inj,hf.imm,hf.sep⟩
 have hevo:∀k,Evo c (lk ((id,a7.arr wr s e n F)::o1)) c1 (lk o1) k:=fun k=>by
  by_cases hk:k=id
  · subst hk;exact .inl hid
  exact Evo.of_same (hlk k hk).symm rfl
 have hle0:=ug hrel hlki;have hle:Imm.le c.imm c1.imm:=hle0
 have hrep:∀{xs ys:List HC} {us:List Value},b67 id n s F xs ys->c6 c (lk ((id,a7.arr wr s e n F)::o1)) xs us->c6 c1 (lk o1) ys us:=by
  intro xs
  induction xs with
  |nil=>intro ys us h1 h2;cases ys<;>cases us<;>first|trivial|exact h1.elim|exact h2.elim
  | cons x xs ih =>
   intro ys us h1 h2
   cases ys with
   |nil=>exact h1.elim
   | cons y ys =>
    cases us with
    |nil=>exact h2.elim
    | cons u us =>
     refine⟨?_,ih h1.2 h2.2⟩
     rcases h1.1 with rfl|⟨rfl,rfl⟩
     · exact fu.evo hle (fun k _=>hevo k) h2.1
     obtain⟨_,_,h3⟩:=h2.1;have hu:=(h3 _ _ _ _ hlki rfl).2 rfl;show aq (frozenImm c2 w id) (.sl n s false F) u;rw[hu];exact hfa
 refine(h w c1 us hm1 (hrep ha hargs)).mono ?_;rintro ex w' ⟨v,c',rfl,h1,h2,h3,h4,h5,h6⟩;refine⟨v,c',rfl,h1,h2,h3,fun b hb hno=>?_,fun k ob b hk hb=>?_,fun k hk=>?_⟩
 · have hnb:¬c.blk id b:=hno id _ hlki
   obtain ⟨q1,q2⟩:=h4 b hb fun k ob hk=>by
    by_cases hki:k=id
    · subst hki;rw[hid]at hk;cases hk
    exact hno k ob (by rw[hlk k hki];exact hk)
   refine⟨q1,q2.trans ?_⟩;show frozenImm c2 w id b=c.imm b;unfold frozenImm;rw[if_neg hnb]
 · rcases h5 k ob b hk hb with h5|⟨id0,ob0,q1,q2⟩
   · exact .inl h5
   by_cases hki:id0=id
   · subst hki;rw[hid]at q1;cases q1
   exact .inr ⟨id0,ob0,by rw[hlk id0 hki];exact q1,q2⟩
 have hki:=hfx k hk;exact(Evo.of_same (hlk k hki).symm rfl:Evo c (lk ((id,a7.arr wr s e n F)::o1)) c1 (lk o1) k).trans (h6 k hk)
def i6(i0:Nat)(h:HV)(g:Nat->Nat->PV):Nat->Nat->HV:=fun i j=>if i=i0 then h else .p (g i j)
variable {g:Nat->Nat->PV}
def a5j{i0:Nat}{h:HV}{j:Nat}:i6 i0 h g i0 j=h:=if_pos rfl
variable {f':Nat->Nat->PV}{nt:Nat}{st:HSt}
def a47{w0:World}{m0:Old}{a:Act}{w:World}(x i0 id:Nat)(wr:Bool){n2 s':Nat}{e2:TypeId}(s:Nat)(e:TypeId)(f:Nat->Nat->PV)(hs:0<s)(hb:ay st.o x=some (.arr true 1 e2 n2 g))(hi:i0<n2)(hl:g i0 0=.sl n s' true f')(hco:CoP (.sl n s' true f') (.sl n s true f))(hwr:wr=false\/n=0)(hn:jp id st=true)(hne:Nat.beq x id=false)(hr:Rel w0 m0 nt st.den a w):Rel w0 m0 nt (HSt.den ⟨st.t,(x,some (.arrh 1 e2 n2 [id] (i6 i0 (.ref id n) g)))::(id,some (.arr wr s e n f))::st.o⟩) a w:=by
 obtain⟨hnm,hno⟩:=ek hn;obtain⟨cc,hold,hrr⟩:=hr;have hbi:x≠id:=by rintro rfl;simp at hne
 obtain⟨p0,p1,p2⟩:=hrr.objs x _ hb
 obtain ⟨p3,xs,p4,p5⟩:cc.blk x=ew (cc.own x)/\∃xs,w.ownsRow 0 e2 1 (cc.own x) n2 xs/\∀i j,i<n2->j<1->∃u,xs[i*1+j]? = some u/\aq cc.imm (g i j) u:=by
  rcases p2 with p2|⟨p2|p2,_⟩
  · exact p2
  · cases p2
  omega
 obtain⟨u,hu,hur⟩:=p5 i0 0 hi bww;rw[hl]at hur;have hx:aq cc.imm (.sl n s true f) u:=hco _ _ hur;have hnm':n<=maxLen:=by obtain⟨ad,cap,_,q1,q2,_⟩:=hx;omega
 have hfresh:=hrr.fresh id hnm hno (.arr wr s e n f) w u noB (Grw.refl w none) (fun b hb=>hb.elim) ⟨hs,hnm', .inr ⟨hwr,by simp,by simpa using hx⟩⟩;rw[<- ja]at hfresh
 have hb':(HSt.den ⟨st.t,(id,some (.arr wr s e n f))::st.o⟩).o x=some (.arr true 1 e2 n2 g):=by
  simp only[HSt.den,aw,hbi,if_false];exact hb
 have hevo:∀(c1:Ctx),c1.own=(fun k=>if k=id then u else cc.own k)->Evo { old:=cc.old,imm:=cc.imm,tab:=cc.tab,own:=fun k=>if k=id then u else cc.own k,blk:=fun k=>if k=id then noB else cc.blk k,rows:=cc.rows } (HSt.den ⟨st.t,(id,some (.arr wr s e n f))::st.o⟩).o c1 ((HSt.den ⟨st.t,(id,some (.arr wr s e n f))::st.o⟩).setO x (some (.arrh 1 e2 n2 [id] (i6 i0 (.ref id n) g)))).o x:=fun c1 h1 =>
  .inr (.inr ⟨_, .arrh 1 e2 n2 [id] (i6 i0 (.ref id n) g),1,e2,n2,n2,hb',rfl,by simp[S.setO],rfl,bsw _,fun _=>by rw[h1],fun _ _ _ _ _ _ _ hb=>by cases hb⟩)
 have hown:(fun k=>if k=x then(fun k=>if k=id then u else cc.own k) x else(fun k=>if k=id then u else cc.own k) k)=fun k=>if k=id then u else cc.own k:=by
  funext k;by_cases hk:k=x
  · subst hk;simp
  simp[hk]
 have hw:=hfresh.write x _ hb' (.arrh 1 e2 n2 [id] (i6 i0 (.ref id n) g)) w ((fun k=>if k=id then u else cc.own k) x) ((fun k=>if k=id then noB else cc.blk k) x) none (Grw.refl w _) (fun _ e=>by cases e) (hevo _ (by exact hown)) (fun b hb=>.inl hb) (by
  refine⟨by omega,p1,fun i j k hi hj hk=>?_, .inl ⟨by simpa [hbi]using p3,xs,by simpa [hbi]using p4,fun i j hi' hj=>?_⟩⟩
  · unfold i6 at hk
    split at hk
    · have hk:k=id:=hk
      rw[hk];exact bte.2 rfl
    exact hk.elim
  obtain⟨u',hu',hr'⟩:=p5 i j hi' hj;refine⟨u',hu', ?_⟩;obtain rfl:j=0:=by omega
  unfold i6;by_cases hk:i=i0
  · subst hk
    rw[if_pos rfl];rw[hu]at hu';simp only[bst]at hu';subst hu';refine⟨aq.oneCell hx,fun l2=>by simp[S.setO,HSt.den,aw,Ne.symm hbi],fun ob1 s1 e1 n1 ho hd1=>?_⟩;simp only[S.setO,HSt.den,aw,Ne.symm hbi,if_false,if_true,bst]at ho;subst ho;simp only[a7.dim,bst,bt2]at hd1;obtain⟨rfl,rfl,rfl⟩:=hd1;exact⟨bsw _,fun _=>by simp[Ne.symm hbi]⟩
  rw[if_neg hk]
  exact hr')
 have e:HSt.den ⟨st.t,(x,some (.arrh 1 e2 n2 [id] (i6 i0 (.ref id n) g)))::(id,some (.arr wr s e n f))::st.o⟩=(HSt.den ⟨st.t,(id,some (.arr wr s e n f))::st.o⟩).setO x (some (.arrh 1 e2 n2 [id] (i6 i0 (.ref id n) g))):=by
  unfold HSt.den S.setO;simp only[S.mk.injEq,true_and];funext k;simp only[aw]
 rw[e];exact⟨_,(by exact hold),hw⟩
variable {Q:Exit->HSt->Prop}
def aks{ro:Option Nat}{P:Program}{co:Code}(x i0 id:Nat)(wr:Bool){n2 s':Nat}{e2:TypeId}(s:Nat)(e:TypeId)(f:Nat->Nat->PV)(hs:0<s)(hb:ay st.o x=some (.arr true 1 e2 n2 g))(hi:i0<n2)(hl:g i0 0=.sl n s' true f')(hco:CoP (.sl n s' true f') (.sl n s true f))(hwr:wr=false\/n=0)(hn:jp id st=true)(hne:Nat.beq x id=false)(h:HW (ro:=ro) P nt co ⟨st.t,(x,some (.arrh 1 e2 n2 [id] (i6 i0 (.ref id n) g)))::(id,some (.arr wr s e n f))::st.o⟩ Q):HW (ro:=ro) P nt co st Q:=fun w0 m0 a w hr=>h w0 m0 a w (a47 x i0 id wr s e f hs hb hi hl hco hwr hn hne hr)
def bg8{ro:Option Nat}{P:Program}{co:Code}(x:Nat)(ob':a7){ob:a7}(ho:ay st.o x=some ob)(hc:CoO ob ob')(h:HW (ro:=ro) P nt co ⟨st.t,(x,some ob')::st.o⟩ Q):HW (ro:=ro) P nt co st Q:=fun w0 m0 a w hr=>by
 obtain⟨cc,hold,hrr⟩:=hr;refine h w0 m0 a w ⟨cc,hold,hrr.relax _ (fun d y hy=>⟨y,hy,CoR.refl _⟩) fun id ob2 ho2=>?_⟩;simp only[HSt.den,aw]at ho2;by_cases hk:id=x
 · subst hk
   rw[if_pos rfl]at ho2;simp only[bst]at ho2;subst ho2;exact⟨ob,ho,hc⟩
 rw[if_neg hk]at ho2;exact⟨ob2,ho2,CoO.refl _⟩
def bgt{s:Nat}:CoO (.arr true s e n g) (.arrh s e n [] fun i j=>.p (g i j)):=⟨.inl rfl,rfl,rfl,rfl,fun _ _ _ _=>CoP.refl _⟩
variable {ms:List Nat}
def arx{a a' X:Nat}{h0 h1:HV}(h:a'=a)(hm:∀k,h1.men k->k=X:=by exact fun _ h=>h):CoO (.arrh 1 e n ms (jt (i6 a h0 g) a' 0 [h1])) (.arrh 1 e n [X] (i6 a h1 g)):=by
 subst h;refine⟨rfl,rfl,rfl,fun i j hi hj=>?_, .inr fun i j k hi hj hk=>?_⟩
 · obtain rfl:j=0:=by omega
   unfold jt i6;by_cases hia:i=a'
   · subst hia
     rw[if_pos ⟨rfl,by omega,by simp⟩,if_pos rfl];exact CoH.refl _
   rw[if_neg (fun e=>hia e.1),if_neg hia,if_neg hia];exact CoH.refl _
 unfold i6 at hk;split at hk
 · rw[hm k hk];exact bte.2 rfl
 exact hk.elim
def ark{a a' X:Nat}{h1:HV}(h:a'=a)(hm:∀k,h1.men k->k=X:=by exact fun _ h=>h):CoO (.arrh 1 e n ms (jt (fun i j=>.p (g i j)) a' 0 [h1])) (.arrh 1 e n [X] (i6 a h1 g)):=by
 subst h;refine⟨rfl,rfl,rfl,fun i j hi hj=>?_, .inr fun i j k hi hj hk=>?_⟩
 · obtain rfl:j=0:=by omega
   unfold jt i6;by_cases hia:i=a'
   · subst hia
     rw[if_pos ⟨rfl,by omega,by simp⟩,if_pos rfl];exact CoH.refl _
   rw[if_neg (fun e=>hia e.1),if_neg hia];exact CoH.refl _
 unfold i6 at hk;split at hk
 · rw[hm k hk];exact bte.2 rfl
 exact hk.elim
def an8{a a':Nat}{h0:HV}{y:PV}{g':Nat->Nat->PV}(h:a'=a)(hy:CoP y (g' a 0))(hg:∀i,i<n->i≠a->CoP (g i 0) (g' i 0)):CoO (.arrh 1 e n ms (jt (i6 a h0 g) a' 0 [.p y])) (.arr true 1 e n g'):=by
 subst h;refine⟨rfl,rfl,rfl,fun i j hi hj=>?_⟩;obtain rfl:j=0:=by omega
 unfold jt i6;by_cases hia:i=a'
 · subst hia
   rw[if_pos ⟨rfl,by omega,by simp⟩];exact hy
 rw[if_neg (fun e=>hia e.1),if_neg hia];exact hg i hi hia
def apq {Q:HSt->Prop} (d id:Nat) (wr:Bool) {s':Nat} (s:Nat) (e:TypeId) (f:Nat->Nat->PV) (hs:0<s) (hd:ay st.t d=some (bp (.sl n s' true f'))) (hco:CoP (.sl n s' true f') (.sl n s true f)) (hwr:wr=false\/n=0) (hn:jp id st=true) (h:HE nt ⟨(d,some (.v (.one (.ref id n))))::st.t,(id,some (.arr wr s e n f))::st.o⟩ Q):HE nt st Q:=by
 obtain⟨hnm,hno⟩:=ek hn;refine alw ⟨st.t,(id,some (.arr wr s e n f))::st.o⟩ d (.v (.one (.ref id n))) (fun w0 m0 a w hr=>?_) h;obtain⟨cc,hold,hrr⟩:=hr;have hx:aq cc.imm (.sl n s true f) (a.tmps.getD d undef):=hco _ _ (hrr.tmps d _ hd);have hnm':n<=maxLen:=by obtain⟨ad,cap,_,q1,q2,_⟩:=hx;omega
 have hfresh:=hrr.fresh id hnm hno (.arr wr s e n f) w (a.tmps.getD d undef) noB (Grw.refl w none) (fun b hb=>hb.elim)
  ⟨hs,hnm', .inr ⟨hwr,by simp,by simpa using hx⟩⟩
 refine⟨_, ?_,by rw[ja];exact hfresh, ?_⟩
 · exact hold
 rw[ja];refine⟨aq.oneCell hx,fun l=>by simp[S.setO],fun ob1 s1 e1 n1 ho hd1=>?_⟩;simp only[S.setO,if_true,bst]at ho;subst ho;simp only[a7.dim,bst,bt2]at hd1;obtain⟨rfl,rfl,rfl⟩:=hd1;exact⟨bsw _,fun _=>by simp⟩
end
end
section
section
variable {κ:Type}[DecidableEq κ][Inhabited κ]
def dl(g:List (κ×List Nat))(k:κ):List (κ×List Nat):=if fp g k<g.length then g else g++[(k,[])]
section
variable {g:List (κ×List Nat)}{k:κ}
def aig:fp g k<=g.length:=List.findIdx_le_length
def atl (h:fp g k<g.length):(g.getD (fp g k) default).1=k:=by
 have:=List.findIdx_getElem (p:=fun x:κ×List Nat=>decide (x.1=k)) (xs:=g) (w:=h);rw[c4 _ _ h];exact of_decide_eq_true this
def ber (h:∀r,r<g.length->(g.getD r default).1≠k):fp g k=g.length:=by
 rcases bwf (fp g k) g.length with h1|h1
 · exact absurd (atl h1) (h _ h1)
 exact Nat.le_antisymm aig h1
variable {r:Nat}
def bay (hr:r<g.length) (h:(g.getD r default).1=k) (hd:∀p q,p<g.length->q<g.length->(g.getD p default).1=(g.getD q default).1->p=q):fp g k=r:=by
 have h1:fp g k<g.length:=by
  rcases bwf (fp g k) g.length with h1|h1
  · exact h1
  exfalso;have:=List.findIdx_lt_length_of_exists (p:=fun x:κ×List Nat=>decide (x.1=k)) (xs:=g) ⟨g.getD r default,by rw[c4 _ _ hr];exact bta hr,decide_eq_true h⟩;exact absurd this (Nat.not_lt.2 h1)
 exact hd _ _ h1 hr ((atl h1).trans h.symm)
theorem aup:fp g k<(dl g k).length:=by
 unfold dl;split
 · assumption
 have:=aig (g:=g) (k:=k)
 grind
variable {i:Nat}
theorem wk:a29 g k i=(dl g k).modify (fp g k) (fun x=>(x.1,x.2++[i])):=by
 unfold a29 dl;by_cases h:fp g k<g.length
 · grind
 rw[if_neg h,if_neg h,show fp g k=g.length from Nat.le_antisymm aig (Nat.not_lt.1 h)];refine bv1 bx0 fun j h1 h2=>?_
 grind
def agy(g:List (κ×List Nat)):Prop:=∀p q,p<g.length->q<g.length->(g.getD p default).1=(g.getD q default).1->p=q
theorem bi3 (h:agy g):agy (dl g k):=by
 unfold dl;by_cases hk:fp g k<g.length
 · grind
 rw[if_neg hk];have hno:∀x∈g,x.1≠k:=fun x hx e=>hk (List.findIdx_lt_length_of_exists (p:=fun x:κ×List Nat=>decide (x.1=k)) ⟨x,hx,decide_eq_true e⟩);intro p q hp hq e;simp only[bsy,bub]at hp hq
 have hL:∀r,r<g.length->((g++[(k,([]:List Nat))]).getD r default)=g.getD r default/\(g.getD r default).1≠k:=fun r hr=>by
  grind
 have hE:((g++[(k,([]:List Nat))]).getD g.length default)=(k,[]):=by simp[List.getD]
 by_cases h1:p<g.length
 · by_cases h2:q<g.length
   · rw [(hL p h1).1,(hL q h2).1]at e
     exact h p q h1 h2 e
   grind
 grind
def a3t:(g.modify r (fun x=>(x.1,x.2++[i]))).length=g.length:=List.length_modify ..
theorem azb {j:Nat} (hj:j<g.length):(g.modify r (fun x=>(x.1,x.2++[i]))).getD j default=if r=j then((g.getD j default).1,(g.getD j default).2++[i])else g.getD j default:=by
 grind
theorem bjo (h:agy g):agy (a29 g k i):=by
 rw[wk];have h2:=bi3 (k:=k) h;intro p q hp hq e;rw[a3t]at hp hq;refine h2 p q hp hq ?_
 grind
def ao3 {ks:List κ}:∀{i:Nat},agy (ca ks i)
 |0=>fun p q hp=>absurd hp (bt1 p)
 |i+1=>by rw[mo];exact bjo ao3
abbrev grM(g:List (κ×List Nat)):Nat->Nat:=fun r=>(g.getD r default).2.length
abbrev grG(g:List (κ×List Nat)):Nat->Nat->Nat->PV:=fun r=>lf iC (g.getD r default).2
abbrev grN(e et:TypeId)(g:List (κ×List Nat)):a7:=.nest e et 1 g.length (grM g) (grG g) none
def b17 {n:Nat}:∀b q j,b<n->q<grM g b->j<1->∃v,grG g b q j=.raw v:=fun b q j _ _ hj=>by
 obtain rfl:j=0:=by omega
 exact⟨_,rfl⟩
variable {e et:TypeId}
def b1h {m:Nat->Nat} {f:Nat->Nat->Nat->PV} (h:g=[]):CoO (.nest e et 1 0 m f none) (grN e et g):=by
 subst h;exact⟨rfl,rfl,rfl,rfl,rfl,fun i hi=>absurd hi (bt1 i),fun i r j hi=>absurd hi (bt1 i)⟩
variable {ff:Nat->Nat->PV}
theorem ae8 (h:¬fp g k<g.length):CoO (.nest e et 1 (g.length+1) (fk (grM g) g.length 0) (fv (grG g) g.length ff) none) (grN e et (dl g k)):=by
 unfold dl;rw[if_neg h];refine⟨rfl,rfl,rfl,by simp,rfl,fun b hb=>?_,fun b r j hb hr hj=>?_⟩
 · show ((g++[(k,([]:List Nat))]).getD b default).2.length=fk (grM g) g.length 0 b
   by_cases h1:b=g.length
   · subst h1;rw[s6];simp[List.getD]
   rw[qw h1]
   grind
 by_cases h1:b=g.length
 · subst h1
   rw[s6]at hr
   grind
 have:Nat.beq b g.length=false:=by rw[btb];exact fun hb=>h1 (btw hb)
 rw[show fv (grG g) g.length ff b=grG g b by simp[fv,this]];refine CoP.of_eq ?_
 grind
def aah (h:fp g k<g.length):CoO (grN e et g) (grN e et (dl g k)):=by
 unfold dl;rw[if_pos h];exact CoO.refl _
variable {g':List (κ×List Nat)}
theorem at4 {kk:Nat} (hg:g'=g.modify r (fun x=>(x.1,x.2++[i]))) (hr:r<g.length) (h:CoO (.arr true 1 et kk ff) (.arr true 1 et ((g.getD r default).2++[i]).length (lf iC ((g.getD r default).2++[i])))):
 CoO (.nest e et 1 g.length (fk (grM g) r kk) (fv (grG g) r ff) none) (grN e et g'):=by
 subst hg;obtain⟨_,_,_,hl,hc⟩:=h;refine⟨rfl,rfl,rfl,a3t,rfl,fun b hb=>?_,fun b q j hb hq hj=>?_⟩
 · show ((g.modify r _).getD b default).2.length=fk (grM g) r kk b
   rw[azb hb];by_cases h1:b=r
   · subst h1;rw[s6,if_pos rfl,hl]
   rw[qw h1,if_neg (fun e=>h1 e.symm)]
 show CoP (fv (grG g) r ff b q j) (lf iC ((g.modify r _).getD b default).2 q j);rw[azb hb];by_cases h1:b=r
 · subst h1
   rw[s6]at hq;rw[if_pos rfl,show fv (grG g) b ff b=ff by simp[fv]]
   grind
 have:Nat.beq b r=false:=by rw[btb];exact fun hb=>h1 (btw hb)
 rw[if_neg (fun e=>h1 e.symm),show fv (grG g) r ff b=grG g b by simp[fv,this]];exact CoP.refl _
def at1:CoO (.arr true 1 e g.length (a18 1 (grM g) (grG g))) (.arr true 1 e (g.map (·.2)).length (lf ilC (g.map (·.2)))):=by
 refine⟨fun h=>h,rfl,rfl,by simp,fun i j hi hj=>?_⟩;obtain rfl:j=0:=by omega
 show CoP (.sl (grM g i) 1 false (grG g i)) (il ((g.map (·.2)).getD i default));have:(g.map (·.2)).getD i default=(g.getD i default).2:=by simp[List.getD,hi]
 rw[this];exact CoP.refl _
structure AtI (P:Program) (kt:TypeId) (kv:κ->Value) (es:Array MapEntry) (clock:Nat) (g:List (κ×List Nat)):Prop where
 mx:oj P kt es clock
 to:∀e∈es.toList,∃r,r<g.length/\e.key=kv (g.getD r default).1/\e.val=.int .i64 (r:Int)
 at_:∀r,r<g.length->∃e∈es.toList,e.key=kv (g.getD r default).1
variable {P:Program}{clock:Nat}{kt:TypeId}{kv:κ->Value}
theorem AtI.nil:AtI P kt kv #[] clock []:=⟨oj.nil,fun e he=>by simp at he,fun r hr=>absurd hr (bt1 r)⟩
variable {es:Array MapEntry}
theorem AtI.of_keys (h:AtI P kt kv es clock g) (hl:g'.length=g.length) (hk:∀r,r<g.length->(g'.getD r default).1=(g.getD r default).1):AtI P kt kv es clock g' :=
 ⟨h.mx,fun e he=>by
  obtain⟨r,h1,h2,h3⟩:=h.to e he
  exact⟨r,by omega,by rw[hk r h1];exact h2,h3⟩,fun r hr=>by
  obtain⟨e,h1,h2⟩:=h.at_ r bww
  exact⟨e,h1,by rw[hk r bww];exact h2⟩⟩
theorem AtI.modify (h:AtI P kt kv es clock g) (hg:g'=g.modify r (fun x=>(x.1,x.2++[i]))):AtI P kt kv es clock g':=by
 subst hg;refine h.of_keys a3t fun j hj=>?_
 grind
theorem AtI.found (h:AtI P kt kv es clock g) (hi:∀a b,kv a=kv b->a=b) (hd:agy g) {e:MapEntry} (he:e∈es.toList) (hk:e.key=kv k):fp g k<g.length/\e.val=.int .i64 (fp g k:Int):=by
 obtain⟨r,h1,h2,h3⟩:=h.to e he;have:=bay h1 (hi _ _ (h2.symm.trans hk)) hd
 grind
theorem AtI.absent (h:AtI P kt kv es clock g) (hn:∀e∈es.toList,e.key≠kv k):fp g k=g.length:=ber fun r hr e=>by
 obtain⟨x,h1,h2⟩:=h.at_ r hr
 grind
theorem AtI.put {es':Array MapEntry} {clock':Nat} (h:AtI P kt kv es clock g) (hn:fp g k=g.length) (hX:oj P kt es' clock') (hP:amh es es' (kv k) (.int .i64 (g.length:Int))):AtI P kt kv es' clock' (dl g k):=by
 unfold dl;rw[if_neg bww];have hL:∀r,r<g.length->((g++[(k,([]:List Nat))]).getD r default)=g.getD r default:=fun r hr=>by simp[List.getD,List.getElem?_append,hr]
 have hE:((g++[(k,([]:List Nat))]).getD g.length default)=(k,[]):=by simp[List.getD]
 refine⟨hX,fun e he=>?_,fun r hr=>?_⟩
 · rcases hP.to e he with⟨h1,h2⟩|⟨h1,h2⟩
   · obtain ⟨r,r1,r2,r3⟩:=h.to e h1
     grind
   grind
 simp only[bsy,bub]at hr;by_cases h1:r<g.length
 · obtain ⟨x,x1,x2⟩:=h.at_ r h1
   by_cases hx:x.key=kv k
   · obtain ⟨y,y1,y2,_⟩:=hP.at_
     grind
   obtain⟨y,y1,y2,_⟩:=hP.old x x1 hx
   grind
 obtain rfl:r=g.length:=by omega
 obtain⟨y,y1,y2,_⟩:=hP.at_
 grind
theorem AtI.keep (h:AtI P kt kv es clock g) (hk:fp g k<g.length):AtI P kt kv es clock (dl g k):=by
 unfold dl
 grind
theorem AtI.size (h:AtI P kt kv es clock g):es.size<=g.length:=by
 have hm:(es.toList.map fun e=>match e.val with | .int _ n=>n.toNat|_=>0).Nodup:=by
  rw[List.nodup_iff_pairwise_ne,List.pairwise_map];have hp:=((Go.MapKept.stamped_iff es clock).1 h.mx.st).2.2;refine List.Pairwise.imp_of_mem (fun {a b} ha hb hab=>?_) hp;obtain⟨r,r1,r2,r3⟩:=h.to a ha;obtain⟨q,q1,q2,q3⟩:=h.to b hb
  grind
 have:=hm.length_le_of_subset (l₂:=List.range g.length) fun x hx=>by
  obtain⟨e,he,rfl⟩:=bti.1 hx;obtain⟨r,r1,_,r3⟩:=h.to e he
  grind
 grind
end
end
def b18{hd:Nat->Value}{id r k k2:Nat}:jt (hdF hd id r k) r 0 [.ref id k2] r 0=.ref id k2:=by simp[jt]
def ayt {hd:Nat->Value} {id r k k2 i:Nat} (h:i≠r):jt (hdF hd id r k) r 0 [.ref id k2] i 0=.p (.raw (hd i)):=by
 simp only[jt];rw[if_neg (fun e=>h e.1),a7s h]
theorem b7g {κ:Type} [DecidableEq κ] [Inhabited κ] {g:List (κ×List Nat)} {k:κ} {m:Nat} (h:∀x∈g,x.2.length<=m):∀x∈dl g k,x.2.length<=m:=by
 unfold dl
 grind
def aqz {κ:Type} [DecidableEq κ] [Inhabited κ] {ks:List κ} {i r:Nat} {k:κ} (hr:r<(dl (ca ks i) k).length):((dl (ca ks i) k).getD r default).2.length<=i:=by
 rw[c4 _ _ hr];exact b7g alt _ (bta hr)
def AtJ{κ:Type}[DecidableEq κ][Inhabited κ](P:Program)(kt:TypeId)(kv:κ->Value)(g:List (κ×List Nat))(y:Array MapEntry×Nat):Prop:=AtI P kt kv y.1 y.2 g
def b4u {α:Type} [Inhabited α] {s:Nat} {c:α->Nat->PV} {l:List α} {p:α->Bool} (h:∀j,j<l.length->p (l.getD j default)=false):CoP (.sl l.length s false (lf c l)) (psl s c (l.filter fun x=>!p x)):=by
 have:=yf (bsw l.length) h;rw[bt6]at this;rw[this];exact CoP.refl _
def b5b {α:Type} [Inhabited α] {c:α->Nat->PV} {l m:List α} {p:α->Bool} {k q n a d:Nat} {cl:Bool} {z:List Value} (hC:DfI p l k q m) (hq:¬q<l.length) (ha:k<=a):CoP (.sl (dv (b7 n (some (k:Int))) none) 1 cl (nj (o5 (lf c m) a d z) none)) (psl 1 c (l.filter fun x=>!p x)):=by
 have e:=hC.pre;have h1:=hC.ql;have h2:=hC.len;have h3:=hC.kq;rw[show q=l.length by omega,bt6]at e;have el:(l.filter fun x=>!p x).length=k:=by rw[<- e];simp;omega
 exact aae (by rw[el];rfl) rfl bww (by rw[el,e])
def a6d {nt:Nat} {st:HSt} {Q:HSt->Prop} (x i0 id:Nat) (wr:Bool) {n n2 s':Nat} {e2:TypeId} {f':Nat->Nat->PV} {g:Nat->Nat->PV} (s:Nat) (e:TypeId) (f:Nat->Nat->PV) (hs:0<s)
 (hb:ay st.o x=some (.arr true 1 e2 n2 g)) (hi:i0<n2) (hl:g i0 0=.sl n s' true f') (hco:CoP (.sl n s' true f') (.sl n s true f)) (hwr:wr=false\/n=0) (hn:jp id st=true) (hne:Nat.beq x id=false)
 (h:HE nt ⟨st.t,(x,some (.arrh 1 e2 n2 [id] (i6 i0 (.ref id n) g)))::(id,some (.arr wr s e n f))::st.o⟩ Q):HE nt st Q:=fun w0 m0 a w hr=>h w0 m0 a w (a47 x i0 id wr s e f hs hb hi hl hco hwr hn hne hr)
theorem a15 {nt:Nat} {st:HSt} {Q:HSt->Prop} (id id':Nat) {k n:Nat} {e et:TypeId} {es:Nat} {m:Nat->Nat} {g:Nat->Nat->Nat->PV} {f:Nat->Nat->PV} (ho:ay st.o id=some (.nest e et es n m g (some (id',k)))) (ho':ay st.o id'=some (.arr true es et k f))
 (h:HE nt ⟨st.t,(id',none)::(id,some (.nest e et es (n+1) (fk m n k) (fv g n f) none))::st.o⟩ Q):HE nt st Q:=fun w0 m0 a w hr=>by
 obtain⟨cc,hold,hrr⟩:=hr;obtain⟨c',h1,h2⟩:=hrr.absorb ho ho';refine h w0 m0 a w ⟨c',h1.trans hold, ?_⟩;have e1:=u7 ⟨st.t,(id,some (.nest e et es (n+1) (fk m n k) (fv g n f) none))::st.o⟩ id';rw[ja]at e1
 grind
end
section
open Go.Proofs
def blm(l:List (List Nat))(g k:Nat)(caps:Nat->PV)(V:List Nat->Bool)(hg:goodFn bxn g)(hV:∀x,a6 bxn g (pP (il x)::gq caps k 0) (ae [pB (V x)])):a6 bxn 191 [pP (ill l),pP (.fn g k caps)] (ae [pI (idx V l)]):=by
 refine hpx (nt:=19) Tryz.func191 ?_;refine d5 ?_;refine cw 0 rfl fun hn=>?_;refine w_3 ?_;refine cg (ι:=Unit) kn km (fun _i=>⟨[],[]⟩) (fun _i=>idx V l=-1) ?_ ?_
 ·
  refine w_7 ?_;refine ai (ι:=Nat) (ka 0 (ka 1 (ka 7 kn))) km (fun i=>⟨[(8,some (vI i))],[]⟩) (fun i=>i<=l.length/\(∀j,j<i->V (l.getD j default)=false)) (fun i=>l.length-i) (0) (⟨bsx _,bv⟩) kk ?_;rintro i ⟨hi,hIi⟩;refine w_5 ?_;refine hcd ?_ ?_<;>intro h0
  ·
   refine j5 ?_;refine rc rfl rfl rfl rfl rfl rfl hg (hV (l.getD i default)) (CoL.refl _) rfl rfl ?_;refine cj ?_;refine hcb ?_ ?_<;>intro h1
   · refine v_5 ?_;exact⟨cci (tn (i:=i) bww hIi bwx).symm,trivial⟩
   refine w_5 ?_;refine lpz (i+1) kk ?_;exact⟨by show i+1<=_;omega,bc hIi bwx⟩
  refine ck ?_;refine⟨(), ?_, ?_⟩
  · exact tj fun j hj=>hIi j bww
  exact⟨trivial,trivial⟩
 rintro _ hj;refine v_4 ?_;exact⟨cci hj.symm,trivial⟩
def b8k(l:List (List Nat))(g k:Nat)(caps:Nat->PV)(V:List Nat->Bool)(hg:goodFn bxn g)(hV:∀x,a6 bxn g (pP (il x)::gq caps k 0) (ae [pB (V x)])):d9 bxn 258 [.one (.ref 900 l.length), .one (.p (.fn g k caps))] [(900, .arr true 1 124 l.length (lf ilC l))] (.v (.one (.p (ill (l.filter fun x=>!V x))))) [] []:=by
 refine hfx (nt:=42) Tryz.func258 ?_;refine d5 ?_;refine aa5 900 rfl fun hlen=>?_;refine w_7 ?_;refine qcx (wgx Tryz.func191) (blm l g k caps V hg hV) ?_;refine w_8 ?_;refine hcd ?_ ?_<;>intro h0
 · refine w_5 ?_;refine bh 4 rfl rfl rfl ?_;refine hrr ?_;exact⟨_,_,rfl,bwy,b4u (ao0 bwx),trivial⟩
 obtain⟨i0,hi0,hi1,hi2,hi3⟩:=aq8 h0;refine w_9 ?_;refine ai (ι:=Nat×Nat×List (List Nat)) (ka 0 (ka 1 kn)) km (fun x=>⟨[(5,some (vI x.1)),(6,some (vI x.2.1))],[(900,some (.arr true 1 124 l.length (lf ilC x.2.2)))]⟩) (fun x=>DfI V l x.1 x.2.1 x.2.2) (fun x=>l.length-x.2.1) ((i0,i0+1,l)) (DfI.start hi1 hi2 hi3) ⟨⟨⟨_,rfl,(coi hi0)⟩,⟨_,rfl,(coi (by dsimp only;omega))⟩,trivial⟩,uu⟩ ?_;rintro x hC;have hC0:=hC;obtain⟨hml,hkq,hql,_,_⟩:=hC0;refine w_8 ?_;refine hcd ?_ ?_<;>intro h1
 ·
  refine j5 ?_;refine rc rfl rfl rfl rfl rfl rfl hg (hV (x.2.2.getD (x.2.1:Int).toNat default)) (CoL.refl _) rfl rfl ?_;refine w_2 ?_;refine hcv ?_ ?_<;>intro h2
  ·
   have hv:=h2;refine a4l ?_
   first | (refine lpz (x.1+1, x.2.1+1, x.2.2.set x.1 (x.2.2.getD x.2.1 default)) ⟨⟨⟨_, rfl, (coi bx1)⟩, ⟨_, rfl, (coi bx1)⟩, tt⟩, ⟨⟨_, rfl, (pl id hml.symm bww bww bww)⟩, trivial⟩⟩ ?_; exact hC.keep bww (by simpa using hv))
         |(refine lpz (x.1,x.2.1+1,x.2.2) ⟨⟨⟨_,rfl,(coi bwz)⟩,⟨_,rfl,(coi bwz)⟩,tt⟩,uu⟩ ?_;exact hC.skip bww (by simpa using hv))
  have hv:=h2;refine w_6 ?_
  first | (refine lpz (x.1+1, x.2.1+1, x.2.2.set x.1 (x.2.2.getD x.2.1 default)) ⟨⟨⟨_, rfl, (coi bx1)⟩, ⟨_, rfl, (coi bx1)⟩, tt⟩, ⟨⟨_, rfl, (pl id hml.symm bww bww bww)⟩, trivial⟩⟩ ?_; exact hC.keep bww (by simpa using hv))
        |(refine lpz (x.1,x.2.1+1,x.2.2) ⟨⟨⟨_,rfl,(coi bwz)⟩,⟨_,rfl,(coi bwz)⟩,tt⟩,uu⟩ ?_;exact hC.skip bww (by simpa using hv))
 have hq:=h1;refine w_6 ?_;refine r9 0 true ?_;refine w_5 ?_;refine aii rfl rfl rfl rfl rfl ?_;refine w_2 ?_;refine hrr ?_;exact⟨_,_,rfl,bwy,b5b hC bww (by simp[b7]),trivial⟩
def bk0 (l:List Nat):a6 bxn 274 [pP (il l)] (ae [pB (decide (l.length<2))]):=by
 refine hpx (nt:=6) Tryz.func274 ?_;refine w_5 ?_;refine cw 0 rfl fun hn=>?_;refine v_6 ?_;exact⟨ccb (decide_eq_decide.2 bww),trivial⟩
def bn2(ks:List ByteArray)(hks:ks.length<=1000)(hsz:∀i,i<ks.length->(ks.getD i default).size<=maxLen):a6 bxn 257 [pP (ya ks)] (ae [pP (ill (aid ks))]):=by
 refine hpx (nt:=46) Tryz.func257 ?_;refine w_5 ?_;refine f8 [] [0,1] rfl ?_;refine a56 (k:=0) (L:=[1]) 901 rfl (fun bg=>?_);refine f0 (E:=en) (L1:=[1]) (L2:=[]) dw ?_;refine w_2 ?_;refine jv ?_;refine fh ?_;refine aji 4 900 124 3 1 (fun _=>0) (fun _ _ _=>.any) bx3 rfl rfl ?_;refine ai (ι:=Nat×Array MapEntry×Nat) (ka 3 (ka 10 (ka 11 kn))) km (fun x=>⟨[(4,some (.v (.one (.ref 900 (ca ks x.1).length)))),(12,some (vI x.1))],[(900,some (grN 124 3 (ca ks x.1))),(901,some (mpO bg x.2.1 x.2.2))]⟩) (fun x=>x.1<=ks.length/\AtI bxn 9 Value.string x.2.1 x.2.2 (ca ks x.1)) (fun x=>ks.length-x.1) ((0,#[],0)) (⟨bsx _,AtI.nil⟩) ⟨tt,⟨⟨_,rfl,(b1h rfl)⟩,uu⟩⟩ ?_;rintro⟨i,es,clock⟩ ⟨hi,hA⟩;dsimp only at hi hA ⊢;have hgl:=acq (ks:=ks) (i:=i);refine w_5 ?_;refine hcd ?_ ?_<;>intro h0
 ·
  refine fh ?_;refine f8 [] [0,1,2,3,4,5,6,7] rfl ?_;refine f0 (E:=en) (L1:=[0,1]) (L2:=[2,3,4,5,6,7]) dw ?_;refine w_3 ?_;refine acz (mid:=901) (k:=2) (L:=[3,4,5,6,7]) rfl Tryz.underlying318 (Go.Maps.string_keyed Tryz.underlying9) Tryz.zeroValue3 rfl hA.mx (Go.WideMaps.keyOf_string_mk Tryz.underlying9 (by show(ks.getD i default).size<=maxLen;exact hsz i bww)) rfl (fun ok v hy hn1=>?_)
  obtain ⟨nv,rfl⟩:∃nv:Int,v=.int .i64 nv:=by
   cases ok with
   | true =>
    obtain⟨e,he,hk,rfl⟩:=hy rfl;obtain⟨r,_,_,h3⟩:=hA.to e he;exact⟨_,h3⟩
   |false=>exact⟨0,(hn1 rfl).1⟩
  refine f0 (E:=en) (L1:=[3,4,5,6,7]) (L2:=[]) dw ?_;refine w_6 ?_;refine jv ?_;refine cg (ι:=Array MapEntry×Nat) (ka 3 (ka 5 (ka 10 (ka 11 (ka 12 kn))))) km (fun y=>⟨[(4,some (.v (.one (.ref 900 (dl (ca ks i) (ks.getD i default)).length)))),(7,some (vI (fp (ca ks i) (ks.getD i default))))],[(900,some (grN 124 3 (dl (ca ks i) (ks.getD i default)))),(901,some (mpO bg y.1 y.2))]⟩) (fun y=>AtJ bxn 9 Value.string (dl (ca ks i) (ks.getD i default)) y) ?_ ?_
  ·
   refine b12 ?_;refine w_5 ?_;refine al _ rfl ?_ ?_<;>intro r1
   ·
    have h1:=dt r1;have hok1:ok=false:=by simpa using r1
    subst hok1;obtain⟨hz0,hno⟩:=hn1 rfl;have hab:(fp (ca ks i) (ks.getD i default))=(ca ks i).length:=hA.absent hno;refine w_7 ?_;refine f8 [] [0,1,2,3] rfl ?_;refine f0 (E:=en) (L1:=[0,1,2]) (L2:=[3]) dw ?_;refine w_4 ?_;refine a33 (mid:=901) (k:=3) (L:=[]) rfl Tryz.underlying318 (Go.Maps.string_keyed Tryz.underlying9) hA.mx (by have:=hA.size;unfold maxLen;omega) (Go.WideMaps.keyOf_string_mk Tryz.underlying9 (by show(ks.getD i default).size<=maxLen;exact hsz i bww)) rfl rfl (fun es3 clock3 hX3 hP=>?_);refine jv ?_;have hA1:AtJ bxn 9 Value.string (dl (ca ks i) (ks.getD i default)) (es3,clock3):=hA.put hab hX3 hP;refine f8 [0,1] [2,3] rfl ?_;refine f0 (E:=en) dw ?_;refine qy ?_;refine m9 0 ?_;refine cj ?_;refine yt ?_;refine a6d (n2:=1) 0 0 904 true 1 3 (lf iC []) bx3 rfl bx3 rfl (CoP.sl rfl (.inr rfl) (fun h=>h) (fun i j hi _=>absurd hi (bt1 i))) (.inr rfl) rfl rfl ?_;refine l6 ?_;refine f0 (E:=en) (L1:=[2,3]) (L2:=[]) dw ?_;refine r9 1 true ?_;refine w_2 ?_;refine jv ?_;show HE _ _ _
    first|refine a15 900 904 rfl rfl ?_|skip
    refine l6 ?_;exact⟨_,hA1,⟨⟨⟨_,rfl,(by first|(rw[show(dl (ca ks i) (ks.getD i default)).length=(ca ks i).length+1 by unfold dl;rw[if_neg bww];simp];exact CoR.refl _)|(rw[show(dl (ca ks i) (ks.getD i default)).length=(ca ks i).length by unfold dl;rw[if_pos hlt]];exact CoR.refl _))⟩,⟨_,rfl,(by first|(rw[hab];exact CoR.refl _)|exact CoR.refl _)⟩,tt⟩,⟨⟨_,rfl,(by first|exact ae8 bww|exact aah hlt)⟩,uu⟩⟩⟩
   have h1:=du r1;have hok1:ok=true:=by simpa using r1
   obtain⟨e0,he0,hk0,hv0⟩:=hy hok1;obtain⟨hlt,hv1⟩:=hA.found (fun a b e=>Value.string.inj e) ao3 he0 hk0;have hnv:nv=_:=(Value.int.inj (hv0.trans hv1)).2;have hA1:AtJ bxn 9 Value.string (dl (ca ks i) (ks.getD i default)) (es,clock):=hA.keep hlt;obtain rfl:=hnv;refine dn ?_;show HE _ _ _
   first|refine a15 900 904 rfl rfl ?_|skip
   refine l6 ?_;exact⟨_,hA1,⟨⟨⟨_,rfl,(by first|(rw[show(dl (ca ks i) (ks.getD i default)).length=(ca ks i).length+1 by unfold dl;rw[if_neg bww];simp];exact CoR.refl _)|(rw[show(dl (ca ks i) (ks.getD i default)).length=(ca ks i).length by unfold dl;rw[if_pos hlt]];exact CoR.refl _))⟩,⟨_,rfl,(by first|(rw[hab];exact CoR.refl _)|exact CoR.refl _)⟩,tt⟩,⟨⟨_,rfl,(by first|exact ae8 bww|exact aah hlt)⟩,uu⟩⟩⟩
  rintro⟨es2,clock2⟩ hA2;dsimp only at hA2 ⊢;have hr1:(fp (ca ks i) (ks.getD i default))<(dl (ca ks i) (ks.getD i default)).length:=aup;have hrl:=aqz hr1;refine api 900 (fp (ca ks i) (ks.getD i default)) 906 907 rfl hr1 b17 (fun hd B hbf=>?_) rfl rfl rfl rfl;refine w_6 ?_;refine rq (out:=Out.mk _ (.v (.one (.ref 906 ((dl (ca ks i) (ks.getD i default)).getD (fp (ca ks i) (ks.getD i default)) default).2.length)))) rfl rfl rfl (congrArg (fun z=>some (Out.mk _ (HR.v (HC.one z)))) (a4i hd 906 (fp (ca ks i) (ks.getD i default)) ((dl (ca ks i) (ks.getD i default)).getD (fp (ca ks i) (ks.getD i default)) default).2.length 0)) rfl ?_;refine qy ?_;refine m9 2 ?_;refine r9 3 true ?_;refine w_3 ?_;refine a0m ⟨[(3,some _),(4,some _),(10,some _),(11,some _),(12,some _)],[(900,some _),(901,some _),(906,some _),(907,some _)]⟩ kk ?_;refine ao4 4 900 906 907 908 hbf rfl rfl rfl rfl hr1 (by first|exact a4i _ _ _ _ _|exact b18) (fun b _ hne=>by first|exact a7s hne|exact ayt hne) ?_;refine a0m ⟨[(3,some _),(4,some _),(10,some _),(11,some _),(12,some _)],[(901,some _),(908,some _)]⟩ kk ?_;refine ats 4 908 900 rfl rfl ?_;refine w_4 ?_;refine lpz (i+1,es2,clock2) ⟨⟨⟨_,rfl,(by rw[show(ca ks (i+1)).length=(dl (ca ks i) (ks.getD i default)).length by rw[mo,wk,a3t]];exact CoR.refl _)⟩,tt⟩,⟨⟨_,rfl,(at4 (by rw[mo,wk]) hr1 (bw rfl (CoP.refl _)))⟩,uu⟩⟩ ?_;exact⟨by show i+1<=_;omega,hA2.modify (by rw[mo,wk])⟩
 obtain rfl:i=ks.length:=by omega
 refine w_2 ?_;refine ais 900 rfl ?_;refine w_2 ?_;refine j7 rfl rfl rfl rfl rfl rfl (wgx Tryz.func258) ((b8k ((ca ks ks.length).map (·.2)) 274 0 (fun _=>.any) (fun l=>decide (l.length<2)) (wgx Tryz.func274) (fun x=>bk0 x))) (⟨congrArg (HV.ref 900) (by rw[btn]),CoP.refl _,trivial⟩) ⟨⟨_,rfl,at1⟩,trivial⟩ rfl rfl ?_;refine v_2 ?_;exact⟨CoC.one (CoP.of_eq (by unfold aid b39;rfl)),trivial⟩
def ak2:Go.WideMaps.ArrKey bxn 274 3 2:=⟨Tryz.underlying274,by kernel_rfl,by kernel_rfl,by kernel_rfl⟩
def bkv:∃m,bxn.types.size=m+1:=⟨337,by kernel_rfl⟩
def k2C (x:Int×Int):Nat->PV
 |0=>.raw (.int .i64 x.1)
 |1=>.raw (.int .i64 x.2)
 |_=>.any
abbrev k2s(l:List (Int×Int)):PV:=psl 2 k2C l
def k2V(x:Int×Int):Value:=.agg #[.int .i64 x.1, .int .i64 x.2]
def bk8 (a b:Int×Int) (h:k2V a=k2V b):a=b:=by
 unfold k2V at h;simp only[Value.agg.injEq,Array.mk.injEq,bw1,Value.int.injEq,true_and,and_true]at h;exact Prod.ext h.1 h.2
def bh1 (l:List Nat):a6 bxn 259 [pP (il l)] (ae [pB (decide (l.length<2))]):=by
 refine hpx (nt:=6) Tryz.func259 ?_;refine w_5 ?_;refine cw 0 rfl fun hn=>?_;refine v_6 ?_;exact⟨ccb (decide_eq_decide.2 bww),trivial⟩
def bmr(ks:List (Int×Int))(hks:ks.length<=1000)(hwf:∀i,i<ks.length->(Lit.int .i64 (ks.getD i default).1).wf=true/\(Lit.int .i64 (ks.getD i default).2).wf=true):a6 bxn 230 [pP (k2s ks)] (ae [pP (ill (aid ks))]):=by
 refine hpx (nt:=46) Tryz.func230 ?_;refine w_5 ?_;refine f8 [] [0,1] rfl ?_;refine a56 (k:=0) (L:=[1]) 901 rfl (fun bg=>?_);refine f0 (E:=en) (L1:=[1]) (L2:=[]) dw ?_;refine w_2 ?_;refine jv ?_;refine fh ?_;refine aji 4 900 124 3 1 (fun _=>0) (fun _ _ _=>.any) bx3 rfl rfl ?_;refine ai (ι:=Nat×Array MapEntry×Nat) (ka 3 (ka 10 (ka 11 kn))) km (fun x=>⟨[(4,some (.v (.one (.ref 900 (ca ks x.1).length)))),(12,some (vI x.1))],[(900,some (grN 124 3 (ca ks x.1))),(901,some (mpO bg x.2.1 x.2.2))]⟩) (fun x=>x.1<=ks.length/\AtI bxn 274 k2V x.2.1 x.2.2 (ca ks x.1)) (fun x=>ks.length-x.1) ((0,#[],0)) (⟨bsx _,AtI.nil⟩) ⟨tt,⟨⟨_,rfl,(b1h rfl)⟩,uu⟩⟩ ?_;rintro⟨i,es,clock⟩ ⟨hi,hA⟩;dsimp only at hi hA ⊢;have hgl:=acq (ks:=ks) (i:=i);refine w_5 ?_;refine hcd ?_ ?_<;>intro h0
 ·
  refine w_8 ?_;refine m9 0 ?_;refine w_4 ?_;refine f8 [] [0,1,2,3,4,5,6,7] rfl ?_;refine f0 (E:=en) (L1:=[0,1]) (L2:=[2,3,4,5,6,7]) dw ?_;refine w_3 ?_;refine acz (mid:=901) (k:=2) (L:=[3,4,5,6,7]) rfl Tryz.underlying304 (Go.Maps.Keyed.of_law ak2.law) Tryz.zeroValue3 rfl hA.mx (Go.WideMaps.keyOf_pair ak2 Tryz.underlying3 bkv (hwf i bww).1 (hwf i bww).2) rfl (fun ok v hy hn1=>?_)
  obtain ⟨nv,rfl⟩:∃nv:Int,v=.int .i64 nv:=by
   cases ok with
   | true =>
    obtain⟨e,he,hk,rfl⟩:=hy rfl;obtain⟨r,_,_,h3⟩:=hA.to e he;exact⟨_,h3⟩
   |false=>exact⟨0,(hn1 rfl).1⟩
  refine f0 (E:=en) (L1:=[3,4,5,6,7]) (L2:=[]) dw ?_;refine w_6 ?_;refine jv ?_;refine cg (ι:=Array MapEntry×Nat) (ka 3 (ka 5 (ka 10 (ka 11 (ka 12 kn))))) km (fun y=>⟨[(4,some (.v (.one (.ref 900 (dl (ca ks i) (ks.getD i default)).length)))),(7,some (vI (fp (ca ks i) (ks.getD i default))))],[(900,some (grN 124 3 (dl (ca ks i) (ks.getD i default)))),(901,some (mpO bg y.1 y.2))]⟩) (fun y=>AtJ bxn 274 k2V (dl (ca ks i) (ks.getD i default)) y) ?_ ?_
  ·
   refine b12 ?_;refine w_5 ?_;refine al _ rfl ?_ ?_<;>intro r1
   ·
    have h1:=dt r1;have hok1:ok=false:=by simpa using r1
    subst hok1;obtain⟨hz0,hno⟩:=hn1 rfl;have hab:(fp (ca ks i) (ks.getD i default))=(ca ks i).length:=hA.absent hno;refine w_7 ?_;refine f8 [] [0,1,2,3] rfl ?_;refine f0 (E:=en) (L1:=[0,1,2]) (L2:=[3]) dw ?_;refine w_4 ?_;refine a33 (mid:=901) (k:=3) (L:=[]) rfl Tryz.underlying304 (Go.Maps.Keyed.of_law ak2.law) hA.mx (by have:=hA.size;unfold maxLen;omega) (Go.WideMaps.keyOf_pair ak2 Tryz.underlying3 bkv (hwf i bww).1 (hwf i bww).2) rfl rfl (fun es3 clock3 hX3 hP=>?_);refine jv ?_;have hA1:AtJ bxn 274 k2V (dl (ca ks i) (ks.getD i default)) (es3,clock3):=hA.put hab hX3 hP;refine f8 [0,1] [2,3] rfl ?_;refine f0 (E:=en) dw ?_;refine qy ?_;refine m9 1 ?_;refine cj ?_;refine yt ?_;refine a6d (n2:=1) 1 0 904 true 1 3 (lf iC []) bx3 rfl bx3 rfl (CoP.sl rfl (.inr rfl) (fun h=>h) (fun i j hi _=>absurd hi (bt1 i))) (.inr rfl) rfl rfl ?_;refine l6 ?_;refine f0 (E:=en) (L1:=[2,3]) (L2:=[]) dw ?_;refine r9 2 true ?_;refine w_2 ?_;refine jv ?_;show HE _ _ _
    first|refine a15 900 904 rfl rfl ?_|skip
    refine l6 ?_;exact⟨_,hA1,⟨⟨⟨_,rfl,(by first|(rw[show(dl (ca ks i) (ks.getD i default)).length=(ca ks i).length+1 by unfold dl;rw[if_neg bww];simp];exact CoR.refl _)|(rw[show(dl (ca ks i) (ks.getD i default)).length=(ca ks i).length by unfold dl;rw[if_pos hlt]];exact CoR.refl _))⟩,⟨_,rfl,(by first|(rw[hab];exact CoR.refl _)|exact CoR.refl _)⟩,tt⟩,⟨⟨_,rfl,(by first|exact ae8 bww|exact aah hlt)⟩,uu⟩⟩⟩
   have h1:=du r1;have hok1:ok=true:=by simpa using r1
   obtain⟨e0,he0,hk0,hv0⟩:=hy hok1;obtain⟨hlt,hv1⟩:=hA.found bk8 ao3 he0 hk0;have hnv:nv=_:=(Value.int.inj (hv0.trans hv1)).2;have hA1:AtJ bxn 274 k2V (dl (ca ks i) (ks.getD i default)) (es,clock):=hA.keep hlt;obtain rfl:=hnv;refine dn ?_;show HE _ _ _
   first|refine a15 900 904 rfl rfl ?_|skip
   refine l6 ?_;exact⟨_,hA1,⟨⟨⟨_,rfl,(by first|(rw[show(dl (ca ks i) (ks.getD i default)).length=(ca ks i).length+1 by unfold dl;rw[if_neg bww];simp];exact CoR.refl _)|(rw[show(dl (ca ks i) (ks.getD i default)).length=(ca ks i).length by unfold dl;rw[if_pos hlt]];exact CoR.refl _))⟩,⟨_,rfl,(by first|(rw[hab];exact CoR.refl _)|exact CoR.refl _)⟩,tt⟩,⟨⟨_,rfl,(by first|exact ae8 bww|exact aah hlt)⟩,uu⟩⟩⟩
  rintro⟨es2,clock2⟩ hA2;dsimp only at hA2 ⊢;have hr1:(fp (ca ks i) (ks.getD i default))<(dl (ca ks i) (ks.getD i default)).length:=aup;have hrl:=aqz hr1;refine api 900 (fp (ca ks i) (ks.getD i default)) 906 907 rfl hr1 b17 (fun hd B hbf=>?_) rfl rfl rfl rfl;refine w_6 ?_;refine rq (out:=Out.mk _ (.v (.one (.ref 906 ((dl (ca ks i) (ks.getD i default)).getD (fp (ca ks i) (ks.getD i default)) default).2.length)))) rfl rfl rfl (congrArg (fun z=>some (Out.mk _ (HR.v (HC.one z)))) (a4i hd 906 (fp (ca ks i) (ks.getD i default)) ((dl (ca ks i) (ks.getD i default)).getD (fp (ca ks i) (ks.getD i default)) default).2.length 0)) rfl ?_;refine qy ?_;refine m9 3 ?_;refine r9 4 true ?_;refine w_3 ?_;refine a0m ⟨[(3,some _),(4,some _),(10,some _),(11,some _),(12,some _)],[(900,some _),(901,some _),(906,some _),(907,some _)]⟩ kk ?_;refine ao4 4 900 906 907 908 hbf rfl rfl rfl rfl hr1 (by first|exact a4i _ _ _ _ _|exact b18) (fun b _ hne=>by first|exact a7s hne|exact ayt hne) ?_;refine a0m ⟨[(3,some _),(4,some _),(10,some _),(11,some _),(12,some _)],[(901,some _),(908,some _)]⟩ kk ?_;refine ats 4 908 900 rfl rfl ?_;refine w_4 ?_;refine lpz (i+1,es2,clock2) ⟨⟨⟨_,rfl,(by rw[show(ca ks (i+1)).length=(dl (ca ks i) (ks.getD i default)).length by rw[mo,wk,a3t]];exact CoR.refl _)⟩,tt⟩,⟨⟨_,rfl,(at4 (by rw[mo,wk]) hr1 (bw rfl (CoP.refl _)))⟩,uu⟩⟩ ?_;exact⟨by show i+1<=_;omega,hA2.modify (by rw[mo,wk])⟩
 obtain rfl:i=ks.length:=by omega
 refine w_2 ?_;refine ais 900 rfl ?_;refine w_2 ?_;refine j7 rfl rfl rfl rfl rfl rfl (wgx Tryz.func258) ((b8k ((ca ks ks.length).map (·.2)) 259 0 (fun _=>.any) (fun l=>decide (l.length<2)) (wgx Tryz.func259) (fun x=>bh1 x))) (⟨congrArg (HV.ref 900) (by rw[btn]),CoP.refl _,trivial⟩) ⟨⟨_,rfl,at1⟩,trivial⟩ rfl rfl ?_;refine v_2 ?_;exact⟨CoC.one (CoP.of_eq (by unfold aid b39;rfl)),trivial⟩
end
end Go.Hx
