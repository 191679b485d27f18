/- A part of the proof: Hx33 Kb2 Kc1 Kb3 Ke1 Ke2 Ke3 Jp6 Jp7 Ke4 Ke5 Ke8 Ke6 Cs44 Ke7. -/
import Derived.Test.YtmoggbnlhllhaaaGreatDoorUx25
set_option linter.all false
namespace Go.Hx
section
open Go.RowKit
def vHC:Value->HC
 | .agg l=>.agg (l.toList.map fun v=>.p (.raw v))
 |v=>.one (.p (.raw v))
def vOk:Value->Bool
 | .agg l=>l.toList.all Value.oneCell'
 |v=>v.oneCell'
def ai5 {c:Ctx} {o:ap}:∀{l:List Value},l.all Value.oneCell'=true->b7 c o (l.map fun v=>.p (.raw v)) l
 | [],_=>trivial
 | v::l,h=>by
  rw[List.all_cons,bm8]at h;exact⟨⟨rfl,h.1⟩,ai5 h.2⟩
def a74 {c:Ctx} {o:ap} {v:Value} (h:vOk v=true):ey c o (vHC v) v:=by
 cases v with
 |agg l=>exact⟨l.toList,by simp,ai5 h⟩
 |_=>exact⟨rfl,h⟩
def a0s:List HV->Option (List Value)
 | []=>some []
 | .p (.raw v)::r=>(a0s r).map (v::·)
 |_=>none
def kOf:HR->Option Value
 | .v (.one (.p (.raw v)))=>some v
 | .v (.agg l)=>(a0s l).map fun vs=>.agg vs.toArray
 |_=>none
def ac2{c:Ctx}{o:ap}:∀{l:List HV} {vs us:List Value},a0s l=some vs->b7 c o l us->us=vs/\vs.all Value.oneCell'=true
 | [],vs,us,h,hr=>by
  cases h
  cases us with
  |nil=>exact⟨rfl,rfl⟩
  |cons=>exact hr.elim
 | .p (.raw v)::r,vs,us,h,hr=>by
  unfold a0s at h
  cases hq:a0s r with
  |none=>rw[hq]at h;cases h
  | some ws =>
   rw[hq]at h;cases h
   cases us with
   |nil=>exact hr.elim
   | cons u us =>
    obtain⟨h1,h2⟩:=ac2 hq hr.2;obtain⟨e1,e2⟩:=hr.1;subst h1 e1;exact⟨rfl,by rw[List.all_cons,e2,h2];rfl⟩
def a82{c:Ctx}{o:ap}{x:HR}{v u:Value}(h:kOf x=some v)(hr:ak c o x u):u=v/\vOk v=true:=by
 unfold kOf at h;split at h
 · cases h
   obtain⟨e1,e2⟩:=hr;subst e1;refine⟨rfl, ?_⟩;unfold vOk;split
   · simp[Value.oneCell']at e2
   exact e2
 · rename_i l
   cases hq:a0s l with
   |none=>rw[hq]at h;cases h
   | some ws =>
    rw[hq]at h;cases h;obtain⟨us,e,hl⟩:=hr;obtain⟨h1,h2⟩:=ac2 hq hl;subst h1 e;exact⟨rfl,h2⟩
 cases h
structure lb (P:Program) (kt:TypeId) (es:Array MapEntry) (clock:Nat):Prop where
 st:Go.MapKept.Stamped es clock
 mx:es.size<=maxLen
 ky:∀x∈es.toList,∃l,keyOf P kt x.key=some l
 vl:∀x∈es.toList,vOk x.key=true/\vOk x.val=true
def lb.nil{P:Program}{kt:TypeId}{clock:Nat}:lb P kt #[] clock:=⟨Go.MapKept.stamped_empty clock,by simp,fun x hx=>by simp at hx,fun x hx=>by simp at hx⟩
def lb.inj {P:Program} {kt:TypeId} {es:Array MapEntry} {clock:Nat} (h:lb P kt es clock) {x y:MapEntry} (hx:x∈es.toList) (hy:y∈es.toList) (e:x.key=y.key):x=y:=by
 have hp:=((Go.MapKept.stamped_iff es clock).1 h.st).2.2;obtain⟨i,hi,rfl⟩:=bmj hx;obtain⟨j,hj,rfl⟩:=bmj hy
 rcases bo9 i j with h1|h1|h1
 · exact absurd e (bn5.1 hp i j hi hj h1)
 · subst h1;rfl
 exact absurd e.symm (bn5.1 hp j i hj hi h1)
section
variable {P:Program}{nt:Nat}{ops:Array Oper}{st:HSt}{k:Nat}{o:Oper}{L:List Nat}{Q:HSt->Prop}{x ix:Operand}{mid j b clock d:Nat}{es:Array MapEntry}{t kt et:TypeId}
section
variable {kl:Lit}{kv:Value}{kx:HR}
def b0d {z:Value} (hi:ops[k]? = some o) (ht:P.underlying t=some (.map kt et)) (K:Go.Maps.Keyed P kt) (hz:∀w,(zeroValue et).run P w=.ok z w) (hzo:vOk z=true) (hX:lb P kt es clock) (hkey:keyOf P kt kv=some kl) (hkv:kOf kx=some kv) (h0:(∀e∈es.toList,e.key≠kv)->RN P nt ops L ⟨(d,some (.tup [vHC z, .one (.p (.raw (.bool false)))]))::st.t,st.o⟩ Q) (h1:∀e∈es.toList,e.key=kv->RN P nt ops L ⟨(d,some (.tup [vHC e.val, .one (.p (.raw (.bool true)))]))::st.t,st.o⟩ Q) (hg:o.guard=none:=by exact rfl) (ho:o.op=.lookup t x ix true:=by exact rfl) (hd:o.dst=some d:=by exact rfl) (hdn:cj nt (some d)=true:=by exact rfl) (hx:ev st.den x=some (.v (.one (.ref mid 0))):=by exact rfl) (hm:st.den.o mid=some (mpO b es clock):=by exact rfl) (hk:ev st.den ix=some kx:=by exact rfl):RN P nt ops (k::L) st Q :=
 acq hi hg hd hdn (fun c hc=>by rw[hc]at ho;cases ho) fun w0 a w c hrr=>by
  obtain⟨e1,e2⟩:=ala hrr hx hm;obtain⟨e3,_⟩:=a82 hkv (ae hrr hk)
  rcases aag true K ht (hz w) e2 hX.mx hX.st hX.ky hkey with⟨hrun,hno⟩|⟨e0,he0,hk0,hrun⟩
  · exact⟨_,w,st.o, .tup [vHC z, .one (.p (.raw (.bool false)))],c,rfl,by simp[execOp,ho,e1,e3,hrun],hrr,⟨[z, .bool false],rfl,a74 hzo,⟨rfl,rfl⟩,trivial⟩,h0 hno⟩
  exact⟨_,w,st.o, .tup [vHC e0.val, .one (.p (.raw (.bool true)))],c,rfl,by simp[execOp,ho,e1,e3,hrun],hrr,⟨[e0.val, .bool true],rfl,a74 (hX.vl e0 he0).2,⟨rfl,rfl⟩,trivial⟩,h1 e0 he0 hk0⟩
def a9k {z:Value} (hi:ops[k]? = some o) (ht:P.underlying t=some (.map kt et)) (K:Go.Maps.Keyed P kt) (hz:∀w,(zeroValue et).run P w=.ok z w) (hzo:vOk z=true) (hX:lb P kt es clock) (hkey:keyOf P kt kv=some kl) (hkv:kOf kx=some kv) (h0:(∀e∈es.toList,e.key≠kv)->RN P nt ops L ⟨(d,some (.v (vHC z)))::st.t,st.o⟩ Q) (h1:∀e∈es.toList,e.key=kv->RN P nt ops L ⟨(d,some (.v (vHC e.val)))::st.t,st.o⟩ Q) (hg:o.guard=none:=by exact rfl) (ho:o.op=.lookup t x ix false:=by exact rfl) (hd:o.dst=some d:=by exact rfl) (hdn:cj nt (some d)=true:=by exact rfl) (hx:ev st.den x=some (.v (.one (.ref mid 0))):=by exact rfl) (hm:st.den.o mid=some (mpO b es clock):=by exact rfl) (hk:ev st.den ix=some kx:=by exact rfl):RN P nt ops (k::L) st Q :=
 acq hi hg hd hdn (fun c hc=>by rw[hc]at ho;cases ho) fun w0 a w c hrr=>by
  obtain⟨e1,e2⟩:=ala hrr hx hm;obtain⟨e3,_⟩:=a82 hkv (ae hrr hk)
  rcases aag false K ht (hz w) e2 hX.mx hX.st hX.ky hkey with⟨hrun,hno⟩|⟨e0,he0,hk0,hrun⟩
  · exact⟨z,w,st.o, .v (vHC z),c,rfl,by simp[execOp,ho,e1,e3,hrun],hrr,a74 hzo,h0 hno⟩
  exact⟨e0.val,w,st.o, .v (vHC e0.val),c,rfl,by simp[execOp,ho,e1,e3,hrun],hrr,a74 (hX.vl e0 he0).2,h1 e0 he0 hk0⟩
def yx(id:Nat){t:TypeId}(hi:ops[k]? = some o)(h:∀b,RN P nt ops L ⟨(d,some (.v (.one (.ref id 0))))::st.t,(id,some (mpO b #[] 0))::st.o⟩ Q)
 (hg:o.guard=none:=by exact rfl) (ho:o.op=.makeMap t none:=by exact rfl) (hd:o.dst=some d:=by exact rfl) (hdn:cj nt (some d)=true:=by exact rfl) (hn:jz id st=true:=by exact rfl):RN P nt ops (k::L) st Q :=
 acq hi hg hd hdn (fun c hc=>by rw[hc]at ho;cases ho) fun w0 a w c hrr=>by
  obtain⟨hnm,hno⟩:=ed hn
  have hf:=hrr.fresh id hnm hno (mpO w.heap.size #[] 0) (w.alloc (.map #[] 0)) (.map (some w.heap.size)) (wk w.heap.size) (Grw.alloc w _ none) (fun b hb=>bp5 (Eq.symm hb))
   ⟨by simp,by simp,bm3 _,Go.heap_alloc_new w _,rfl⟩
  rw[<- ig]at hf;refine⟨.map (some w.heap.size),_,_, .v (.one (.ref id 0)),_,(by exact rfl), ?_,hf,⟨rfl,fun l=>by simp[ig,S.setO],fun ob2 s2 e2 n2 ho2 hd2=>?_⟩,h w.heap.size⟩
  · simp[execOp,ho,Go.run_makeMap_plain]
  rw[ig]at ho2;simp only[S.setO,if_true,bly]at ho2;subst ho2;simp only[aa.dim,bly,bm4]at hd2;obtain⟨rfl,rfl,rfl⟩:=hd2;exact⟨bm1 _,fun _=>by simp⟩
structure ada (es es':Array MapEntry) (kv v:Value):Prop where
 to:∀x'∈es'.toList,(x'∈es.toList/\x'.key≠kv)\/(x'.key=kv/\x'.val=v)
 at_:∃x'∈es'.toList,x'.key=kv/\x'.val=v
 old:∀x∈es.toList,x.key≠kv->∃x'∈es'.toList,x'.key=x.key/\x'.val=x.val
 sz:es'.size<=es.size+1
def xo{y:Operand}{v:Value}{vx:HR}(hi:ops[k]? = some o)(ht:P.underlying t=some (.map kt et))(K:Go.Maps.Keyed P kt)(hX:lb P kt es clock)(hlt:es.size<maxLen)(hkey:keyOf P kt kv=some kl)(hkv:kOf kx=some kv)(hvv:kOf vx=some v)(h:∀es' clock',lb P kt es' clock'->ada es es' kv v->RN P nt ops L ⟨(match o.dst with|some d=>[(d,none)]|none=>[])++st.t,(mid,some (mpO b es' clock'))::st.o⟩ Q)(hg:o.guard=none:=by exact rfl)(ho:o.op=.mapUpdate t x ix y:=by exact rfl)(hdn:cj nt o.dst=true:=by exact rfl)(hx:ev st.den x=some (.v (.one (.ref mid 0))):=by exact rfl)(hm:b6 st.o mid=some (mpO b es clock):=by exact rfl)(hk:ev st.den ix=some kx:=by exact rfl)(hv:ev st.den y=some vx:=by exact rfl):RN P nt ops (k::L) st Q:=by
 refine b7f hi hg hdn (fun c hc=>by rw[hc]at ho;cases ho) fun w0 a w c hrr=>?_;obtain⟨e1,e2⟩:=ala hrr hx hm;obtain⟨e3,e3'⟩:=a82 hkv (ae hrr hk);obtain⟨e4,e4'⟩:=a82 hvv (ae hrr hv);obtain⟨q1,q2,q3,q4,q5⟩:=hrr.objs mid _ hm;obtain⟨es',clock',hrun,hst,hsz,hall,hat,hold⟩:=ag1 (val:=v) K ht e2 hlt hX.st hX.ky hkey;have hblk:=Go.ChangeMaps.heap_setBlock_same e2 (.map es' clock')
 have hP:ada es es' kv v:=by
  refine⟨hall, ?_,fun x hx hne=>?_,hsz⟩
  · obtain ⟨x',hx',hk'⟩:=hat
    refine⟨x',hx',hk', ?_⟩
    rcases hall x' hx' with⟨_,h2⟩|⟨_,h2⟩
    · exact absurd hk' h2
    exact h2
  obtain⟨x',hx',hk'⟩:=hold x hx;refine⟨x',hx',hk', ?_⟩
  rcases hall x' hx' with⟨h1,_⟩|⟨h2,_⟩
  · rw[hX.inj h1 hx hk']
  exact absurd (hk'.symm.trans h2) hne
 have hX':lb P kt es' clock':=⟨hst,by omega,fun x' hx'=>by
  rcases hall x' hx' with⟨h1,_⟩|⟨h2,_⟩
  · exact hX.ky x' h1
  · exact⟨kl,by rw[h2];exact hkey⟩,fun x' hx'=>by
  rcases hall x' hx' with⟨h1,_⟩|⟨h2,h3⟩
  · exact hX.vl x' h1
  rw[h2,h3];exact⟨e3',e4'⟩⟩
 have hw:=hrr.write mid _ hm (mpO b es' clock') (Go.ChangeMaps.setBlock w b (.map es' clock')) (c.own mid) (c.blk mid) (some b) (by
  exact⟨⟨rfl,rfl,rfl,by simp[Go.ChangeMaps.setBlock],fun i _ hi=>Go.ChangeMaps.heap_setBlock_other e2 _ (fun e=>hi (by rw[e]))⟩,bm1 _⟩) (fun b' hb'=>by cases hb';rw[q2];rfl)
  (.inr (.inr ⟨_,mpO b es' clock',0,0,0,0,hm,rfl,by simp[S.setO],rfl,bm1 _,fun _=>by simp,fun _ _ _ _ _ _ _ hb=>by cases hb⟩)) (fun b hb=>.inl hb) ⟨by simpa using q1,by simpa using q2,q3,hblk,rfl⟩
 rw[<- ig]at hw;exact⟨.skip,_,_,_,(by exact rfl),by simp[execOp,ho,e1,e3,e4,hrun], .inl rfl,hw,h es' clock' hX' hP⟩
def a2f {z:Value} (hi:ops[k]? = some o) (ht:P.underlying t=some (.map kt et)) (K:Go.Maps.Keyed P kt) (hz:∀w,(zeroValue et).run P w=.ok z w) (hzo:vOk z=true) (hX:lb P kt es clock) (hkey:keyOf P kt kv=some kl) (hkv:kOf kx=some kv) (h:∀(ok:Bool) (v:Value),(ok=true->∃e∈es.toList,e.key=kv/\v=e.val)->(ok=false->v=z/\∀e∈es.toList,e.key≠kv)->RN P nt ops L ⟨(d,some (.tup [vHC v, .one (.p (.raw (.bool ok)))]))::st.t,st.o⟩ Q) (hg:o.guard=none:=by exact rfl) (ho:o.op=.lookup t x ix true:=by exact rfl) (hd:o.dst=some d:=by exact rfl) (hdn:cj nt (some d)=true:=by exact rfl) (hx:ev st.den x=some (.v (.one (.ref mid 0))):=by exact rfl) (hm:st.den.o mid=some (mpO b es clock):=by exact rfl) (hk:ev st.den ix=some kx:=by exact rfl):RN P nt ops (k::L) st Q :=
 b0d hi ht K hz hzo hX hkey hkv (fun hno=>h false z (fun e=>by cases e) fun _=>⟨rfl,hno⟩) (fun e he hk=>h true e.val (fun _=>⟨e,he,hk,rfl⟩) fun e=>by cases e) hg ho hd hdn hx hm hk
end
end
end
section
section
variable {κ:Type}[DecidableEq κ][Inhabited κ]
def cz(g:List (κ×List Nat))(k:κ):List (κ×List Nat):=if dj g k<g.length then g else g++[(k,[])]
section
variable {g:List (κ×List Nat)}{k:κ}
def ae2:dj g k<=g.length:=List.findIdx_le_length
def anv (h:dj g k<g.length):(g.getD (dj g k) default).1=k:=by
 have:=List.findIdx_getElem (p:=fun x:κ×List Nat=>decide (x.1=k)) (xs:=g) (w:=h);rw[al _ _ h];exact of_decide_eq_true this
def b6a (h:∀r,r<g.length->(g.getD r default).1≠k):dj g k=g.length:=by
 rcases bpk (dj g k) g.length with h1|h1
 · exact absurd (anv h1) (h _ h1)
 exact Nat.le_antisymm ae2 h1
variable {r:Nat}
def b3w (hr:r<g.length) (h:(g.getD r default).1=k) (hd:∀p q,p<g.length->q<g.length->(g.getD p default).1=(g.getD q default).1->p=q):dj g k=r:=by
 have h1:dj g k<g.length:=by
  rcases bpk (dj g k) g.length with h1|h1
  · exact h1
  exfalso;have:=List.findIdx_lt_length_of_exists (p:=fun x:κ×List Nat=>decide (x.1=k)) (xs:=g) ⟨g.getD r default,by rw[al _ _ hr];exact bma hr,decide_eq_true h⟩;exact absurd this (Nat.not_lt.2 h1)
 exact hd _ _ h1 hr ((anv h1).trans h.symm)
theorem ape:dj g k<(cz g k).length:=by
 unfold cz;split
 · assumption
 have:=ae2 (g:=g) (k:=k)
 grind
variable {i:Nat}
theorem v6:ku g k i=(cz g k).modify (dj g k) (fun x=>(x.1,x.2++[i])):=by
 unfold ku cz;by_cases h:dj g k<g.length
 · grind
 rw[if_neg h,if_neg h,show dj g k=g.length from Nat.le_antisymm ae2 (Nat.not_lt.1 h)];refine bnz bpz fun j h1 h2=>?_
 grind
def adh(g:List (κ×List Nat)):Prop:=∀p q,p<g.length->q<g.length->(g.getD p default).1=(g.getD q default).1->p=q
theorem b7o (h:adh g):adh (cz g k):=by
 unfold cz;by_cases hk:dj g k<g.length
 · grind
 rw[if_neg hk];have hno:∀x∈g,x.1≠k:=fun x hx e=>hk (List.findIdx_lt_length_of_exists (p:=fun x:κ×List Nat=>decide (x.1=k)) ⟨x,hx,decide_eq_true e⟩);intro p q hp hq e;simp only[bm2,bod]at hp hq
 have hL:∀r,r<g.length->((g++[(k,([]:List Nat))]).getD r default)=g.getD r default/\(g.getD r default).1≠k:=fun r hr=>by
  grind
 have hE:((g++[(k,([]:List Nat))]).getD g.length default)=(k,[]):=by simp[List.getD]
 by_cases h1:p<g.length
 · by_cases h2:q<g.length
   · rw [(hL p h1).1,(hL q h2).1]at e
     exact h p q h1 h2 e
   grind
 grind
def a1r:(g.modify r (fun x=>(x.1,x.2++[i]))).length=g.length:=List.length_modify ..
theorem at3 {j:Nat} (hj:j<g.length):(g.modify r (fun x=>(x.1,x.2++[i]))).getD j default=if r=j then((g.getD j default).1,(g.getD j default).2++[i])else g.getD j default:=by
 grind
theorem bbn (h:adh g):adh (ku g k i):=by
 rw[v6];have h2:=b7o (k:=k) h;intro p q hp hq e;rw[a1r]at hp hq;refine h2 p q hp hq ?_
 grind
def ajg {ks:List κ}:∀{i:Nat},adh (c6 ks i)
 |0=>fun p q hp=>absurd hp (bm6 p)
 |i+1=>by rw[ly];exact bbn ajg
abbrev grM(g:List (κ×List Nat)):Nat->Nat:=fun r=>(g.getD r default).2.length
abbrev grG(g:List (κ×List Nat)):Nat->Nat->Nat->PV:=fun r=>lf iC (g.getD r default).2
abbrev grN(e et:TypeId)(g:List (κ×List Nat)):aa:=.nest e et 1 g.length (grM g) (grG g) none
def avi {n:Nat}:∀b q j,b<n->q<grM g b->j<1->∃v,grG g b q j=.raw v:=fun b q j _ _ hj=>by
 obtain rfl:j=0:=by omega
 exact⟨_,rfl⟩
variable {e et:TypeId}
def avl {m:Nat->Nat} {f:Nat->Nat->Nat->PV} (h:g=[]):CoO (.nest e et 1 0 m f none) (grN e et g):=by
 subst h;exact⟨rfl,rfl,rfl,rfl,rfl,fun i hi=>absurd hi (bm6 i),fun i r j hi=>absurd hi (bm6 i)⟩
variable {ff:Nat->Nat->PV}
theorem abe (h:¬dj g k<g.length):CoO (.nest e et 1 (g.length+1) (fv (grM g) g.length 0) (fw (grG g) g.length ff) none) (grN e et (cz g k)):=by
 unfold cz;rw[if_neg h];refine⟨rfl,rfl,rfl,by simp,rfl,fun b hb=>?_,fun b r j hb hr hj=>?_⟩
 · show ((g++[(k,([]:List Nat))]).getD b default).2.length=fv (grM g) g.length 0 b
   by_cases h1:b=g.length
   · subst h1;rw[su];simp[List.getD]
   rw[rz h1]
   grind
 by_cases h1:b=g.length
 · subst h1
   rw[su]at hr
   grind
 have:Nat.beq b g.length=false:=by rw[bmh];exact fun hb=>h1 (bmt hb)
 rw[show fw (grG g) g.length ff b=grG g b by simp[fw,this]];refine CoP.of_eq ?_
 grind
def a7p (h:dj g k<g.length):CoO (grN e et g) (grN e et (cz g k)):=by
 unfold cz;rw[if_pos h];exact CoO.refl _
variable {g':List (κ×List Nat)}
theorem anz {kk:Nat} (hg:g'=g.modify r (fun x=>(x.1,x.2++[i]))) (hr:r<g.length) (h:CoO (.arr true 1 et kk ff) (.arr true 1 et ((g.getD r default).2++[i]).length (lf iC ((g.getD r default).2++[i])))):
 CoO (.nest e et 1 g.length (fv (grM g) r kk) (fw (grG g) r ff) none) (grN e et g'):=by
 subst hg;obtain⟨_,_,_,hl,hc⟩:=h;refine⟨rfl,rfl,rfl,a1r,rfl,fun b hb=>?_,fun b q j hb hq hj=>?_⟩
 · show ((g.modify r _).getD b default).2.length=fv (grM g) r kk b
   rw[at3 hb];by_cases h1:b=r
   · subst h1;rw[su,if_pos rfl,hl]
   rw[rz h1,if_neg (fun e=>h1 e.symm)]
 show CoP (fw (grG g) r ff b q j) (lf iC ((g.modify r _).getD b default).2 q j);rw[at3 hb];by_cases h1:b=r
 · subst h1
   rw[su]at hq;rw[if_pos rfl,show fw (grG g) b ff b=ff by simp[fw]]
   grind
 have:Nat.beq b r=false:=by rw[bmh];exact fun hb=>h1 (bmt hb)
 rw[if_neg (fun e=>h1 e.symm),show fw (grG g) r ff b=grG g b by simp[fw,this]];exact CoP.refl _
def ans:CoO (.arr true 1 e g.length (a3a 1 (grM g) (grG g))) (.arr true 1 e (g.map (·.2)).length (lf ilC (g.map (·.2)))):=by
 refine⟨fun h=>h,rfl,rfl,by simp,fun i j hi hj=>?_⟩;obtain rfl:j=0:=by omega
 show CoP (.sl (grM g i) 1 false (grG g i)) (il ((g.map (·.2)).getD i default));have:(g.map (·.2)).getD i default=(g.getD i default).2:=by simp[List.getD,hi]
 rw[this];exact CoP.refl _
structure AtI (P:Program) (kt:TypeId) (kv:κ->Value) (es:Array MapEntry) (clock:Nat) (g:List (κ×List Nat)):Prop where
 mx:lb P kt es clock
 to:∀e∈es.toList,∃r,r<g.length/\e.key=kv (g.getD r default).1/\e.val=.int .i64 (r:Int)
 at_:∀r,r<g.length->∃e∈es.toList,e.key=kv (g.getD r default).1
variable {P:Program}{clock:Nat}{kt:TypeId}{kv:κ->Value}
theorem AtI.nil:AtI P kt kv #[] clock []:=⟨lb.nil,fun e he=>by simp at he,fun r hr=>absurd hr (bm6 r)⟩
variable {es:Array MapEntry}
theorem AtI.of_keys (h:AtI P kt kv es clock g) (hl:g'.length=g.length) (hk:∀r,r<g.length->(g'.getD r default).1=(g.getD r default).1):AtI P kt kv es clock g' :=
 ⟨h.mx,fun e he=>by
  obtain⟨r,h1,h2,h3⟩:=h.to e he
  exact⟨r,by omega,by rw[hk r h1];exact h2,h3⟩,fun r hr=>by
  obtain⟨e,h1,h2⟩:=h.at_ r bpw
  exact⟨e,h1,by rw[hk r bpw];exact h2⟩⟩
theorem AtI.modify (h:AtI P kt kv es clock g) (hg:g'=g.modify r (fun x=>(x.1,x.2++[i]))):AtI P kt kv es clock g':=by
 subst hg;refine h.of_keys a1r fun j hj=>?_
 grind
theorem AtI.found (h:AtI P kt kv es clock g) (hi:∀a b,kv a=kv b->a=b) (hd:adh g) {e:MapEntry} (he:e∈es.toList) (hk:e.key=kv k):dj g k<g.length/\e.val=.int .i64 (dj g k:Int):=by
 obtain⟨r,h1,h2,h3⟩:=h.to e he;have:=b3w h1 (hi _ _ (h2.symm.trans hk)) hd
 grind
theorem AtI.absent (h:AtI P kt kv es clock g) (hn:∀e∈es.toList,e.key≠kv k):dj g k=g.length:=b6a fun r hr e=>by
 obtain⟨x,h1,h2⟩:=h.at_ r hr
 grind
theorem AtI.put {es':Array MapEntry} {clock':Nat} (h:AtI P kt kv es clock g) (hn:dj g k=g.length) (hX:lb P kt es' clock') (hP:ada es es' (kv k) (.int .i64 (g.length:Int))):AtI P kt kv es' clock' (cz g k):=by
 unfold cz;rw[if_neg bpw];have hL:∀r,r<g.length->((g++[(k,([]:List Nat))]).getD r default)=g.getD r default:=fun r hr=>by simp[List.getD,List.getElem?_append,hr]
 have hE:((g++[(k,([]:List Nat))]).getD g.length default)=(k,[]):=by simp[List.getD]
 refine⟨hX,fun e he=>?_,fun r hr=>?_⟩
 · rcases hP.to e he with⟨h1,h2⟩|⟨h1,h2⟩
   · obtain ⟨r,r1,r2,r3⟩:=h.to e h1
     grind
   grind
 simp only[bm2,bod]at hr;by_cases h1:r<g.length
 · obtain ⟨x,x1,x2⟩:=h.at_ r h1
   by_cases hx:x.key=kv k
   · obtain ⟨y,y1,y2,_⟩:=hP.at_
     grind
   obtain⟨y,y1,y2,_⟩:=hP.old x x1 hx
   grind
 obtain rfl:r=g.length:=by omega
 obtain⟨y,y1,y2,_⟩:=hP.at_
 grind
theorem AtI.keep (h:AtI P kt kv es clock g) (hk:dj g k<g.length):AtI P kt kv es clock (cz g k):=by
 unfold cz
 grind
theorem AtI.size (h:AtI P kt kv es clock g):es.size<=g.length:=by
 have hm:(es.toList.map fun e=>match e.val with | .int _ n=>n.toNat|_=>0).Nodup:=by
  rw[List.nodup_iff_pairwise_ne,List.pairwise_map];have hp:=((Go.MapKept.stamped_iff es clock).1 h.mx.st).2.2;refine List.Pairwise.imp_of_mem (fun {a b} ha hb hab=>?_) hp;obtain⟨r,r1,r2,r3⟩:=h.to a ha;obtain⟨q,q1,q2,q3⟩:=h.to b hb
  grind
 have:=hm.length_le_of_subset (l₂:=List.range g.length) fun x hx=>by
  obtain⟨e,he,rfl⟩:=bml.1 hx;obtain⟨r,r1,_,r3⟩:=h.to e he
  grind
 grind
end
end
def ast{hd:Nat->Value}{id r k k2:Nat}:pw (hdF hd id r k) r 0 [.ref id k2] r 0=.ref id k2:=by simp[pw]
def aw0 {hd:Nat->Value} {id r k k2 i:Nat} (h:i≠r):pw (hdF hd id r k) r 0 [.ref id k2] i 0=.p (.raw (hd i)):=by
 simp only[pw];rw[if_neg (fun e=>h e.1),a64 h]
theorem b06 {κ:Type} [DecidableEq κ] [Inhabited κ] {g:List (κ×List Nat)} {k:κ} {m:Nat} (h:∀x∈g,x.2.length<=m):∀x∈cz g k,x.2.length<=m:=by
 unfold cz
 grind
def ajz {κ:Type} [DecidableEq κ] [Inhabited κ] {ks:List κ} {i r:Nat} {k:κ} (hr:r<(cz (c6 ks i) k).length):((cz (c6 ks i) k).getD r default).2.length<=i:=by
 rw[al _ _ hr];exact b06 ahq _ (bma hr)
def AtJ{κ:Type}[DecidableEq κ][Inhabited κ](P:Program)(kt:TypeId)(kv:κ->Value)(g:List (κ×List Nat))(y:Array MapEntry×Nat):Prop:=AtI P kt kv y.1 y.2 g
def aws {α:Type} [Inhabited α] {s:Nat} {c:α->Nat->PV} {l:List α} {p:α->Bool} (h:∀j,j<l.length->p (l.getD j default)=false):CoP (.sl l.length s false (lf c l)) (psl s c (l.filter fun x=>!p x)):=by
 have:=xb (bm1 l.length) h;rw[bmd]at this;rw[this];exact CoP.refl _
def axg {α:Type} [Inhabited α] {c:α->Nat->PV} {l m:List α} {p:α->Bool} {k q n a d:Nat} {cl:Bool} {z:List Value} (hC:DfI p l k q m) (hq:¬q<l.length) (ha:k<=a):CoP (.sl (eo (c5 n (some (k:Int))) none) 1 cl (qr (ru (lf c m) a d z) none)) (psl 1 c (l.filter fun x=>!p x)):=by
 have e:=hC.pre;have h1:=hC.ql;have h2:=hC.len;have h3:=hC.kq;rw[show q=l.length by omega,bmd]at e;have el:(l.filter fun x=>!p x).length=k:=by rw[<- e];simp;omega
 exact aec (by rw[el];rfl) rfl bpw (by rw[el,e])
def a47 {nt:Nat} {st:HSt} {Q:HSt->Prop} (x i0 id:Nat) (wr:Bool) {n n2 s':Nat} {e2:TypeId} {f':Nat->Nat->PV} {g:Nat->Nat->PV} (s:Nat) (e:TypeId) (f:Nat->Nat->PV) (hs:0<s)
 (hb:b6 st.o x=some (.arr true 1 e2 n2 g)) (hi:i0<n2) (hl:g i0 0=.sl n s' true f') (hco:CoP (.sl n s' true f') (.sl n s true f)) (hwr:wr=false\/n=0) (hn:jz id st=true) (hne:Nat.beq x id=false)
 (h:HE nt ⟨st.t,(x,some (.arrh 1 e2 n2 [id] (x7 i0 (.ref id n) g)))::(id,some (.arr wr s e n f))::st.o⟩ Q):HE nt st Q:=fun w0 m0 a w hr=>h w0 m0 a w (ael x i0 id wr s e f hs hb hi hl hco hwr hn hne hr)
theorem zc {nt:Nat} {st:HSt} {Q:HSt->Prop} (id id':Nat) {k n:Nat} {e et:TypeId} {es:Nat} {m:Nat->Nat} {g:Nat->Nat->Nat->PV} {f:Nat->Nat->PV} (ho:b6 st.o id=some (.nest e et es n m g (some (id',k)))) (ho':b6 st.o id'=some (.arr true es et k f))
 (h:HE nt ⟨st.t,(id',none)::(id,some (.nest e et es (n+1) (fv m n k) (fw g n f) none))::st.o⟩ Q):HE nt st Q:=fun w0 m0 a w hr=>by
 obtain⟨cc,hold,hrr⟩:=hr;obtain⟨c',h1,h2⟩:=hrr.absorb ho ho';refine h w0 m0 a w ⟨c',h1.trans hold, ?_⟩;have e1:=a32 ⟨st.t,(id,some (.nest e et es (n+1) (fv m n k) (fw g n f) none))::st.o⟩ id';rw[ig]at e1
 grind
end
section
def agT (a b:Row):Nat->AS
 |0=>0
 |i+1=>if j9 (a.vals.getD i default) (b.vals.getD i default)=0 then agT a b i|||((1:AS)<<<i)else agT a b i
def agR(a b:Row):AS:=agT a b a.vals.length
def b1w{a b:Row}{i:Nat}(h:j9 (a.vals.getD i default) (b.vals.getD i default)=0):agT a b (i+1)=agT a b i|||((1:AS)<<<i):=if_pos h
def b0p{a b:Row}{i:Nat}(h:¬j9 (a.vals.getD i default) (b.vals.getD i default)=0):agT a b (i+1)=agT a b i:=if_neg h
def prs:List Row->List AS
 | []=>[]
 |r::l=>l.map (agR r)++prs l
def a05(l:List Row)(i:Nat):List AS:=(l.drop (i+1)).map (agR (l.getD i default))
def jh(l:List Row)(i k:Nat):List AS:=((List.range i).map (a05 l)).flatten++((a05 l i).take (k-(i+1)))
def aui:∀l:List Row,prs l=((List.range l.length).map (a05 l)).flatten
 | []=>rfl
 | r::l=>by
  rw[prs,aui l,bna,List.range_succ_eq_map,bnr,List.flatten_cons,List.map_map];rfl
def a6d(l:List Row)(i:Nat):(a05 l i).length=l.length-(i+1):=by simp[a05]
def at1 {l:List Row} {i k:Nat} (hi:i<k) (hk:k<l.length):jh l i (k+1)=jh l i k++[agR (l.getD i default) (l.getD k default)]:=by
 unfold jh;rw[bn6];congr 1;rw[show k+1-(i+1)=(k-(i+1))+1 by omega,bow];congr 1;unfold a05;rw[bn1,bpo,show i+1+(k-(i+1))=k by omega,blz hk,bm7 (l:=l) (i:=k),blz hk];rfl
def asx {l:List Row} {i k:Nat} (hk:l.length<=k):jh l i k=jh l (i+1) (i+1+1):=by
 unfold jh;rw[bo8 (by rw[a6d];omega),bmk,bn7,bnw,Nat.sub_self,bph,bmv];simp
def aig (l:List Row):jh l l.length (l.length+1)=prs l:=by
 unfold jh;rw[aui,Nat.sub_self,bph,bmv]
def azg(t:Tbl)(s:AS)(i:Nat):List ByteArray:=(List.range i).map fun k=>uc (t.rows.getD k default).vals s
def a6w(t:Tbl)(s:AS):Prt:=⟨t.rows.length,adu (azg t s t.rows.length)⟩
def nA(k:Nat):AS:=BitVec.ofNat 32 k
def ek(k:Nat):AS:=nA k&&&(nA k-1)
def b7q(t:Tbl)(l:List Prt)(k:Nat):Prt:=if ek k=0 then a6w t (nA k)else awx (l.getD (ek k).toNat default) (l.getD (nA k&&&~~~(ek k)).toNat default)
def a2r (t:Tbl):Nat->List Prt
 |0=>[]
 |k+1=>a2r t k++[b7q t (a2r t k) k]
def mf {t:Tbl}:∀{k:Nat},(a2r t k).length=k
 |0=>rfl
 |k+1=>by rw[a2r,bm2,mf];rfl
def ar3(t:Tbl)(k:Nat):List Int:=(a2r t k).map asi
def aj(t:Tbl):List Int:=ar3 t (2^t.attrs.length)
def axr{t:Tbl}{k:Nat}:(ar3 t k).length=k:=by unfold ar3;rw[bn0,mf]
def aqi(rk:List Int)(s:AS)(a:Nat):Bool:=decide (rk.getD s.toNat default=rk.getD (s|||((1:AS)<<<a)).toNat default)
def vb(n:Int)(k i:Nat):List AS:=((List.range i).map nA).filter fun s=>decide (bsz s=k)
def ji(n k:Nat):List AS:=vb n k (2^n)
def mnA(rk:List Int)(a:Nat)(out:List AS)(s:AS):List AS:=if s.getLsbD a=true\/(out.any fun m=>decide (sub m s))=true\/aqi rk s a=false then out else out++[s]
def mnK(rk:List Int)(n a:Nat)(out:List AS)(k i:Nat):List AS:=((ji n k).take i).foldl (mnA rk a) out
def mnT(rk:List Int)(n a k:Nat):List AS:=(List.range k).foldl (fun out k=>mnK rk n a out k (ji n k).length) []
def mnL(rk:List Int)(n a:Nat):List AS:=mnT rk n a (n+1)
def fmF(l:List AS)(n a:Nat)(rk:List Int):List AS:=l++mnL rk n a
def fmS(rk:List Int)(n a:Nat):List AS:=(List.range a).foldl (fun l a=>l++mnL rk n a) []
def fmR(rk:List Int)(n:Nat)(s:AS):List Nat:=(List.range n).filter fun a=>(mnL rk n a).any fun x=>decide (x=s)
def fmO(rk:List Int)(n:Nat):List Fd:=(ord (fmS rk n n)).flatMap fun s=>(fmR rk n s).map fun a=>⟨s,(1:AS)<<<a⟩
def bje(t:Tbl):List Fd:=fmO (aj t) t.attrs.length
def b96(avoid:List AS)(s:AS):Bool:=avoid.any fun x=>decide (sub s x)
def acu(avoid:List AS)(out:List AS)(s:AS):List AS:=if b96 avoid s=false/\(out.any fun x=>decide (sub x s))=false then out++[s]else out
def pj(n:Nat)(avoid:List AS)(i:Nat):List AS:=((ct (ah (n:Int))).take i).foldl (acu avoid) []
def b77(n:Nat)(avoid:List AS):List AS:=pj n avoid (ct (ah (n:Int))).length
def a5h(out:List AS)(s:AS):List AS:=if(out.any fun x=>decide (x=s))=true then out else out++[s]
def fu(l:List AS):List AS:=l.foldl a5h []
def agd{l:List AS}{s:AS}:fu (l++[s])=a5h (fu l) s:=by unfold fu;rw[bmo];rfl
def b0x(t:Tbl):List AS:=b77 t.attrs.length (o8 (fu (prs t.rows)))
end
section
def qh(l:List Val)(s:AS)(j:Nat):ByteArray:=((bc s).take j).foldl (fun o a=>o++tc (l.getD a default)) emp
section
variable {j:Nat}{l:List Val}{s:AS}
def a6c (h:j<(bc s).length):qh l s (j+1)=qh l s j++tc (l.getD ((bc s).getD j default) default):=by
 unfold qh;rw[ax h,bmo];rfl
def agk:∀{j:Nat},(qh l s j).size<=403*j
 |0=>bm3 _
 | j + 1=>by
  have ih:(qh l s j).size<=403*j:=agk;by_cases h:j<(bc s).length
  · rw [a6c h,a9s]
    have:=a4s (v:=l.getD ((bc s).getD j default) default);omega
  have e:qh l s (j+1)=qh l s j:=by unfold qh;rw[bo8 bpw,bo8 bpw]
  rw[e];omega
theorem aw9 (hl:l.length<=32) (hs:∀a,s.getLsbD a=true->a<l.length):qh l s (bc s).length=uc l s:=by
 have key:∀i,i<=l.length->((List.range i).filter fun a=>s.getLsbD a).foldl (fun o a=>o++tc (l.getD a default)) emp=uc (l.take i) s:=by
  intro i
  induction i with
  |zero=>intro _;rfl
  | succ i ih =>
   intro hi
   have e:uc (l.take (i+1)) s=if s.getLsbD i=true then uc (l.take i) s++tc (l.getD i default)else uc (l.take i) s:=by
    unfold uc;rw[ax bpw,agi,bmw,bne bpw,bn9]
   rw[bmk,bn4,bmo,ih bpw,e]
   grind
 have more:∀k,(List.range (l.length+k)).filter (fun a=>s.getLsbD a)=(List.range l.length).filter fun a=>s.getLsbD a:=by
  intro k
  induction k with
  |zero=>rfl
  | succ k ih =>
   rw[<- bo2,bmk,bn4,ih]
   grind
 unfold qh bc;rw[bmd];have e:=more (32-l.length);simp_all
def axi {v:Val} (h:d8 v=true):0<(tc v).size:=by
 rw[apf h,strOfNums_size,tk,bna];omega
def awk (hj:j<(bc s).length) (hv:d8 (l.getD ((bc s).getD j default) default)=true):bl (qh l s (j+1))≠[]:=by
 intro e;have h1:=axi hv;have h2:(qh l s (j+1)).size=0:=by rw[<- y5,e];rfl
 rw[a6c hj,a9s]at h2;omega
def b7m(a b:ByteArray):bl (a++b)=bl a++bl b:=by simp[bl,ByteArray.data_append]
def b54(s:ByteArray):(⟨(bl s).toArray⟩:ByteArray)=s:=ByteArray.ext (by simp[bl])
variable {i n:Nat}
def av8 (hs:∀z,s.getLsbD z=true->z<n) (hi:i<(bc s).length):(bc s).getD i default<n:=by
 rw[al _ _ hi];exact hs _ (wg.1 (bma hi)).2
def sc(t:Tbl)(s:AS)(i:Nat):List ByteArray:=(List.range t.rows.length).map fun k=>if k<i then uc (t.rows.getD k default).vals s else emp
def s8{t:Tbl}:(sc t s i).length=t.rows.length:=by simp[sc]
def ayh {t:Tbl}:sc t s t.rows.length=azg t s t.rows.length:=by
 unfold sc azg;simp_all
theorem at8 {t:Tbl} (hi:i<t.rows.length):sc t s (i+1)=(sc t s i).set i (uc (t.rows.getD i default).vals s):=by
 refine bnz (by simp[sc]) fun k h1 h2=>?_;rw[boe];simp only[sc,bo7,bny]
 grind
variable {k:Nat}
def awo{t:Tbl}(hT:TOk t)(hi:i<(sc t s k).length):((sc t s k).getD i default).size<=maxLen:=by
 rw[s8]at hi;rw[al _ _ (by rw[s8];exact hi)];simp only[sc,bo7,bny];split
 · have h1:=at7 (l:=(t.rows.getD i default).vals) (s:=s)
   have h2:=hT.width hi;have h3:=hT.na;unfold maxLen;omega
 exact bm3 _
def a0b(m i:Nat):List Int:=(List.range m).map fun(k:Nat)=>if k<i then -1-(k:Int)else 0
variable {m:Nat}
def aif:(a0b m i).length=m:=by simp[a0b]
def b01:a0b m m=a6j m:=by
 unfold a0b a6j;simp_all
theorem aul (hi:i<m):a0b m (i+1)=(a0b m i).set i (-1-(i:Int)):=by
 refine bnz (by simp[a0b]) fun k h1 h2=>?_;rw[boe];simp only[a0b,bo7,bny]
 grind
def pi(a b:Prt)(i:Nat):List (Int×Int):=(List.range a.rows.toNat).map fun k=>if k<i then((uh a).getD k default,(uh b).getD k default) else(0,0)
def v7{a b:Prt}:(pi a b i).length=a.rows.toNat:=by simp[pi]
def b0j {a b:Prt}:pi a b a.rows.toNat=ayl a b:=by
 unfold pi ayl;simp_all
theorem auk {a b:Prt} (hi:i<a.rows.toNat):pi a b (i+1)=(pi a b i).set i ((uh a).getD i default,(uh b).getD i default):=by
 refine bnz (by simp[pi]) fun k h1 h2=>?_;rw[boe];simp only[pi,bo7,bny]
 grind
variable {p:Prt}
theorem ph (h:jk p=true):0<=p.rows/\p.rows<=1000:=by
 unfold jk at h
 grind
theorem a7m (h:jk p=true) (hk:k<p.cls.length):acz p k=true:=by
 unfold jk at h
 grind
theorem aoj (h:acz p k=true):¬(p.cls.getD k default).length<2/\ae6 p k<(((p.cls.getD k default).getD 0 default:Nat):Int):=by
 unfold acz at h
 grind
theorem ad1 (h:acz p k=true) (hj:j<(p.cls.getD k default).length):ai2 (p.cls.getD k default) j<(((p.cls.getD k default).getD j default:Nat):Int)/\(((p.cls.getD k default).getD j default:Nat):Int)<p.rows /\
 ¬(p.cls.getD k default).getD j default∈(p.cls.take k).flatten++(p.cls.getD k default).take j:=by
 unfold acz at h;simp only[bm8,bms]at h;have:=h.2 j (bmm.2 hj);unfold b70 at this
 grind
def aev:(snT p k j).length=p.rows.toNat:=by simp[snT]
def b99 (hi:i<p.rows.toNat):(snT p k j).getD i default=decide (i∈(p.cls.take k).flatten++(p.cls.getD k default).take j):=by
 rw[al _ _ (by rw[aev];exact hi)];simp only[snT,bo7,bny]
def awy:snT p 0 0=List.replicate p.rows.toNat false:=by
 refine bnz (by simp[snT]) fun k h1 h2=>?_;simp[snT]
def awg (hk:k<p.cls.length):snT p k (p.cls.getD k default).length=snT p (k+1) 0:=by
 unfold snT;refine bpn fun i _=>?_;rw[bmd,ax hk,bnw,bph,bmv];simp
theorem awz (hj:j<(p.cls.getD k default).length) (hr:(((p.cls.getD k default).getD j default:Nat):Int)<p.rows):snT p k (j+1)=(snT p k j).set ((p.cls.getD k default).getD j default) true:=by
 refine bnz (by simp[snT]) fun i h1 h2=>?_;rw[boe];simp only[snT,bo7,bny];rw[ax hj]
 grind
def atg{c:List Nat}:ai2 c (j+1)=((c.getD j default:Nat):Int):=by unfold ai2;rw[if_neg bpw];rfl
def atp:ae6 p (k+1)=(((p.cls.getD k default).getD 0 default:Nat):Int):=by unfold ae6;rw[if_neg bpw];rfl
def a0r(m:Nat)(l:List Int):Prop:=∀i,i<l.length->-(m:Int)-1<=l.getD i default/\l.getD i default<=m
def aqo {l:List Int} (h:a0r m l) (hk:k<=m):a0r m (l.set i (k:Int)):=fun q hq=>by
 rw[bo3]at hq;rw[al _ _ (by rw[bo3];exact hq),boe];split
 · omega
 have:=h q hq;rwa [al _ _ hq]at this
def al8 (hn:n<=m):∀{c:List Nat} {l:List Int},a0r m l->a0r m (a5x n l c)
 | [],_,h=>h
 | i::c,l,h=>by
  show a0r m (a5x n (l.set i (n:Int)) c);exact al8 hn (aqo h hn)
def a9j (hr:p.rows.toNat<=m):∀{k:Nat},k<=m->a0r m (rj p k)
 | 0,_=>fun i hi=>by
  have hi:i<p.rows.toNat:=by rwa [pn]at hi
  show -(m:Int)-1<=(a6j p.rows.toNat).getD i default/\_;have e:(a6j p.rows.toNat).getD i default=-1-(i:Int):=by simp[a6j,List.getD,hi]
  show _/\(a6j p.rows.toNat).getD i default<=_;rw[e];omega
 |k+1,hk=>by rw[a68];exact al8 bpw (a9j hr bpw)
theorem al1 {α:Type} [Inhabited α] {wr wr':Bool} {p:Nat} {e:TypeId} {c:α->Nat->PV} {l:List α} {v:α} {x y:PV} (hw:wr'=true->wr=true) (hn:n=l.length) (hp:k=p) (hk:p<l.length) (hx:x=c v 0) (hy:y=c v 1):
 CoO (.arr wr 2 e n (kg (lf c l) k 0 [x,y])) (.arr wr' 2 e n (lf c (l.set p v))):=by
 subst hp hx hy hn;refine⟨hw,rfl,rfl,rfl,fun i j hi hj=>CoP.of_eq ?_⟩;unfold kg lf
 grind
theorem aot {e:TypeId} {f g:Nat->Nat->PV} (hn:m=n) (h:∀i,i<n->CoP (f i 0) (g i 0)/\CoP (f i 1) (g i 1)):CoO (.arr true 2 e n f) (.arr true 2 e m g) :=
 ⟨fun h=>h,rfl,rfl,hn,fun i j hi hj=>by
  rcases(by omega:j=0\/j=1)with rfl|rfl
  · grind
  exact(h i hi).2⟩
theorem aie (h:jk p=true):∀{k j:Nat},k<=p.cls.length->j<=(p.cls.getD k default).length->(k<p.cls.length\/j=0)->((p.cls.take k).flatten++(p.cls.getD k default).take j).Nodup/\∀x∈(p.cls.take k).flatten++(p.cls.getD k default).take j,(x:Int)<p.rows
 |0,0,_,_,_=>by simp
 | k+1,0,hk,_,_=>by
  have:=aie h (k:=k) (j:=(p.cls.getD k default).length) bpw (bm1 _) (.inl bpw);rw[bmd]at this;rw[bph,bmv,ax bpw,bnw]
  grind
 | k,j+1,hk,hj,ho=>by
  have hk2:k<p.cls.length:=by omega
  obtain⟨h1,h2⟩:=aie h (k:=k) (j:=j) hk bpw (.inl hk2);obtain⟨_,g2,g3⟩:=ad1 (a7m h hk2) (show j<(p.cls.getD k default).length by omega);rw[ax bpw,<- bn6];refine⟨List.nodup_append.2 ⟨h1,by simp,fun a ha b hb e=>?_⟩,fun x hx=>?_⟩
  · grind
  grind
theorem adc (h:jk p=true) (hk:k<=p.cls.length):(p.cls.take k).flatten.length<=1000/\2*k<=(p.cls.take k).flatten.length:=by
 obtain⟨h1,h2⟩:=aie h (k:=k) (j:=0) hk (bm3 _) (.inr rfl);rw[bph,bmv]at h1 h2;have hr:=ph h;refine⟨?_, ?_⟩
 · have:=h1.length_le_of_subset (l₂:=List.range 1000) fun x hx=>bmm.2 (by have:=h2 x hx;omega)
   grind
 clear h1 h2
 induction k with
 |zero=>simp
 | succ k ih =>
  have:=ih bpw;have h3:=(aoj (a7m h (show k<p.cls.length by omega))).1;rw[ax bpw,bnw,bm2]
  grind
theorem ap5:∀{k:Nat},k<=p.cls.length->yn p k=p.rows-((p.cls.take k).flatten.length:Int)+(k:Int)
 |0,_=>by simp[yn]
 | k+1,hk=>by
  rw[agn bpw,ap5 bpw,ax bpw,bnw,bm2]
  grind
def avg (h:jk p=true) (hk:k<=p.cls.length):-1000<=yn p k/\yn p k<=1000:=by
 have h1:=adc h hk;have h2:=ph h;rw[ap5 hk];omega
def un (h:jk p=true):p.cls.length<=1000:=by
 have:=adc h (bm1 p.cls.length);omega
theorem aem (h:jk p=true) (hk:k<p.cls.length):(p.cls.getD k default).length<=1000:=by
 have:=(adc h (show k+1<=p.cls.length from hk)).1;rw[ax hk,bnw,bm2]at this
 grind
def a56 {e:TypeId} {f g:Nat->Nat->PV} (hn:m=n) (h:∀i,i<n->CoP (f i 0) (g i 0)):CoO (.arr true 1 e n f) (.arr true 1 e m g) :=
 ⟨fun h=>h,rfl,rfl,hn,fun i j hi hj=>by
  obtain rfl:j=0:=by omega
  exact h i hi⟩
def arb {n:Int} (h1:-9223372036854775808<=n) (h2:n<=9223372036854775807):(Lit.int .i64 n).wf=true:=by
 unfold Lit.wf;rw[bm8,decide_eq_true_eq,decide_eq_true_eq];exact⟨h1,h2⟩
end
end
section
section
variable {κ:Type}[DecidableEq κ][Inhabited κ]
def gr(key:Nat->κ)(c:List Nat):List (κ×List Nat):=c.foldl (fun g i=>ku g (key i) i) []
section
variable {g:List (κ×List Nat)}
def a4p{x:κ×List Nat}{k:κ}{i:Nat}:ku (x::g) k i=if x.1=k then(x.1,x.2++[i])::g else x::ku g k i:=by
 by_cases h:x.1=k
 · have e:dj (x::g) k=0:=by simp[dj,List.findIdx_cons,h]
   unfold ku;rw[e,if_pos bpz,if_pos h];rfl
 have e:dj (x::g) k=dj g k+1:=by simp[dj,List.findIdx_cons,h]
 unfold ku;rw[e,if_neg h];simp only[bna,Nat.add_lt_add_iff_right];split
 · rfl
 rfl
structure GS (key:Nat->κ) (c:List Nat) (g:List (κ×List Nat)):Prop where
 nd:g.Pairwise fun x y=>x.1≠y.1
 fl:∀x∈g,x.2=c.filter (fun i=>decide (key i=x.1))/\x.2≠[]
 all:∀i∈c,∃x∈g,x.1=key i
 len:(g.map fun x=>x.2.length).sum=c.length
def n8{k:κ}{i:Nat}:∀{g:List (κ×List Nat)},g.Pairwise (fun x y=>x.1≠y.1)->∀y,y∈ku g k i<->(y∈g/\y.1≠k)\/(∃x∈g,x.1=k/\y=(k,x.2++[i]))\/((∀x∈g,x.1≠k)/\y=(k,[i]))
 | [],_,y=>by simp[ku,dj]
 | x :: g,hp,y=>by
  rw[a4p];have h1:=bmn.1 hp;by_cases h:x.1=k
  · rw [if_pos h]
    have hg:∀z∈g,z.1≠k:=fun z hz=>h▸(h1.1 z hz).symm;constructor
    · intro hy
      rcases bm9.1 hy with rfl|hy
      · exact .inr (.inl ⟨x,bmp ..,h,by rw[h]⟩)
      exact .inl ⟨bmr _ hy,hg y hy⟩
    rintro(⟨hy,hk⟩|⟨z,hz,hk,rfl⟩|⟨hz,_⟩)
    · rcases bm9.1 hy with rfl|hy
      · exact absurd h hk
      exact bmr _ hy
    · rcases bm9.1 hz with rfl|hz
      · rw[h];exact bmp ..
      exact absurd hk (hg z hz)
    exact absurd h (hz x (bmp ..))
  rw[if_neg h,bm9,n8 h1.2 y];constructor
  · rintro (rfl|⟨hy,hk⟩|⟨z,hz,hk,rfl⟩|⟨hz,rfl⟩)
    · exact .inl ⟨bmp ..,h⟩
    · exact .inl ⟨bmr _ hy,hk⟩
    · exact .inr (.inl ⟨z,bmr _ hz,hk,rfl⟩)
    exact .inr (.inr ⟨fun z hz'=>(bm9.1 hz').elim (fun e=>by rw[e];exact h) (hz z),rfl⟩)
  rintro(⟨hy,hk⟩|⟨z,hz,hk,rfl⟩|⟨hz,rfl⟩)
  · rcases bm9.1 hy with rfl|hy
    · exact .inl rfl
    exact .inr (.inl ⟨hy,hk⟩)
  · rcases bm9.1 hz with rfl|hz
    · exact absurd hk h
    exact .inr (.inr (.inl ⟨z,hz,hk,rfl⟩))
  exact .inr (.inr (.inr ⟨fun z hz'=>hz z (bmr _ hz'),rfl⟩))
def aom {k:κ} {i:Nat}:∀{g:List (κ×List Nat)},g.Pairwise (fun x y=>x.1≠y.1)->(ku g k i).Pairwise (fun x y=>x.1≠y.1)
 | [],_=>by simp[ku,dj]
 | x::g,hp=>by
  rw[a4p];have h1:=bmn.1 hp;split
  · exact bmn.2 ⟨h1.1,h1.2⟩
  rename_i h;refine bmn.2 ⟨fun y hy=>?_,aom h1.2⟩
  rcases(n8 h1.2 y).1 hy with⟨hy,_⟩|⟨z,hz,hk,rfl⟩|⟨hz,rfl⟩
  · exact h1.1 y hy
  · exact h
  exact h
def aln {k:κ} {i:Nat}:∀{g:List (κ×List Nat)},((ku g k i).map fun x=>x.2.length).sum=(g.map fun x=>x.2.length).sum+1
 | []=>by simp[ku,dj]
 | x::g=>by
  rw[a4p];split
  · simp;omega
  simp[aln (g:=g)];omega
theorem GS.step {key:Nat->κ} {c:List Nat} (h:GS key c g) (i:Nat):GS key (c++[i]) (ku g (key i) i):=by
 refine⟨aom h.nd,fun y hy=>?_,fun j hj=>?_,by rw[aln,h.len];simp⟩
 · rw [bn4]
   rcases(n8 h.nd y).1 hy with⟨hy,hk⟩|⟨z,hz,hk,rfl⟩|⟨hz,rfl⟩
   · obtain ⟨h1,h2⟩:=h.fl y hy
     simp[show ¬key i=y.1 from fun e=>hk e.symm,<- h1,h2]
   · obtain ⟨h1,h2⟩:=h.fl z hz
     rw[hk]at h1;simp[<- h1]
   refine⟨?_,by simp⟩
   have:c.filter (fun j=>decide (key j=key i))=[]:=List.filter_eq_nil_iff.2 fun j hj=>by
    obtain⟨x,hx,hk⟩:=h.all j hj;have:=hz x hx;simp only[decide_eq_true_eq];exact fun e=>this (hk.trans e)
   simp[this]
 by_cases hk:∃x∈g,x.1=key i
 · obtain ⟨x,hx,hk⟩:=hk
   rcases bmg.1 hj with hj|hj
   · obtain ⟨y,hy,hj⟩:=h.all j hj
     by_cases e:y.1=key i
     · exact⟨(key i,y.2++[i]),(n8 h.nd _).2 (.inr (.inl ⟨y,hy,e,rfl⟩)),e.symm.trans hj⟩
     exact⟨y,(n8 h.nd _).2 (.inl ⟨hy,e⟩),hj⟩
   obtain rfl:=bmu.1 hj;exact⟨(key j,x.2++[j]),(n8 h.nd _).2 (.inr (.inl ⟨x,hx,hk,rfl⟩)),rfl⟩
 have hk:∀x∈g,x.1≠key i:=fun x hx e=>hk ⟨x,hx,e⟩
 rcases bmg.1 hj with hj|hj
 · obtain ⟨y,hy,hj⟩:=h.all j hj
   exact⟨y,(n8 h.nd _).2 (.inl ⟨hy,hk y hy⟩),hj⟩
 obtain rfl:=bmu.1 hj;exact⟨(key j,[j]),(n8 h.nd _).2 (.inr (.inr ⟨hk,rfl⟩)),rfl⟩
end
end
end
section
def pgs(l:List Int)(c:List Nat):List (List Nat):=(gr (fun i=>l.getD i default) c).map (·.2)
def apx(p q:Prt):List (List (List Nat)):=p.cls.map (pgs (uh q))
def gsz(g:List (List Nat)):Nat:=(g.map List.length).sum
def gbT(g:List (List Nat))(i:Nat):Nat:=(List.range i).foldl (fun k j=>if(g.getD k default).length<(g.getD j default).length then j else k) 0
def gb(g:List (List Nat)):Nat:=gbT g g.length
def bst(g:List (List Nat)):Nat:=(g.getD (gb g) default).length
def gsq(g:List (List Nat)):Nat:=(g.map fun p=>p.length*p.length).sum
def msr(m:Int)(g:List (List Nat)):Int:=if m=1 then(gsz g:Int)*(gsz g:Int)-(gsq g:Int)else if m=2 then(if 1<g.length then(gsz g:Int)else 0) else(gsz g:Int)-(bst g:Int)
def msT(m:Int)(l:List (List (List Nat)))(i:Nat):Int:=((l.take i).map (msr m)).foldl (·+·) 0
def rmJ(g:List (List Nat))(i:Nat):List Nat:=(List.range i).foldl (fun o j=>if j=gb g then o else o++g.getD j default) []
def rmG(g:List (List Nat)):List Nat:=rmJ g g.length
def rmT(l:List (List (List Nat)))(i:Nat):List Nat:=(List.range i).foldl (fun o j=>o++rmG (l.getD j default)) []
def rmA(l:List (List (List Nat))):List Nat:=rmT l l.length
end
section
variable {t:Tbl}{d:Fd}{s:AS}
def EOk(t:Tbl):Prop:=∀r∈t.rows,∀v∈r.vals,b13 v
def bl1(t:Tbl)(s:AS)(i:Nat):List Val:=sel (t.rows.getD i default).vals s
def rfB(p:Prt)(l:List Int):Bool:=p.cls.all fun c=>c.all fun i=>decide (l.getD i default=l.getD (c.getD 0 default) default)
def az9(t:Tbl)(d:Fd):List (List (List Nat)):=apx (a6w t d.lhs) (a6w t (d.lhs|||d.rhs))
def b95(t:Tbl)(d:Fd)(m:Int):Int:=msT m (az9 t d) (az9 t d).length
def bgv(t:Tbl)(d:Fd):List Nat:=rmA (az9 t d)
def bky(t:Tbl)(d:Fd):List Int:=(bgv t d).map fun i=>(t.rows.getD i default).id
def bll(t:Tbl)(g:List Int):Tbl:={ t with rows:=t.rows.filter fun r=>!decide (r.id∈g) }
def aww(l:List Int)(c:List Nat)(j:Nat)(k:Int):Nat:=((c.take j).filter fun i=>decide (l.getD i default=k)).length
def bhz(l:List Int)(c:List Nat)(j:Nat):Nat:=(List.range j).foldl (fun m q=>max m (aww l c (q+1) (l.getD (c.getD q default) default))) 0
def bjp(p:Prt)(l:List Int)(k:Nat):Int:=(List.range k).foldl (fun s j=>s+(((p.cls.getD j default).length:Int)-(bhz l (p.cls.getD j default) (p.cls.getD j default).length:Int))) 0
end
section
def okW(t:Tbl)(ps:List AS)(a:Nat)(acc:List (List Val))(w:List Val):Bool:=!acc.contains w&&ps.all fun s=>b9z t s ⟨0,w⟩ ((a:Int)+1)
def bge(t:Tbl)(ps:List AS)(a:Nat)(acc:List (List Val))(w:List Val):List (List Val):=if okW t ps a acc w=true then acc++[w]else acc
def bgi(t:Tbl)(ps:List AS)(a:Nat)(l:List Val)(acc:List (List Val))(k:Nat):List (List Val):=(t.rows.take k).foldl (fun acc r=>bge t ps a acc (l.set a (r.vals.getD a default))) acc
def bgk(t:Tbl)(ps:List AS)(a:Nat)(L:List (List Val))(i:Nat):List (List Val):=(L.take i).foldl (fun acc l=>bgi t ps a l acc t.rows.length) []
def b84 (t:Tbl) (ps:List AS) (n:Nat):Nat->List (List Val)
 |0=>if t.rows.length=0 then[] else[List.replicate n default]
 |a+1=>bgk t ps a (b84 t ps n a) (b84 t ps n a).length
section
variable {t:Tbl}{ps:List AS}{a n:Nat}
structure LvM (t:Tbl) (ps:List AS) (n a:Nat) (w:List Val):Prop where
 len:w.length=n
 rest:∀j,a<=j->j<n->w.getD j default=default
 col:∀j,j<a->∃r∈t.rows,r.vals.getD j default=w.getD j default
 agr:∀s∈ps,∃r∈t.rows,∀j:Nat,j<a->io s (j:Int)=true->r.vals.getD j default=w.getD j default
end
end
section
def swL{α:Type}[Inhabited α](L:List α)(k:Nat):List α:=(L.set k (L.getD (k-1) default)).set (k-1) (L.getD k default)
section
variable {α:Type}[Inhabited α]{c:α->α->Int}{L M:List α}{i k:Nat}
def aeb:(swL L k).length=L.length:=by unfold swL;rw[bo3,bo3]
def jv (hk:0<k) (hl:k<L.length) {j:Nat}:(swL L k).getD j default=if j=k-1 then L.getD k default else if j=k then L.getD (k-1) default else L.getD j default:=by
 unfold swL;by_cases h:j=k-1
 · rw[if_pos h,h,md (by rw[bo3];omega)]
 rw[if_neg h,getD_set_ne' h];by_cases h2:j=k
 · rw[if_pos h2,h2,md hl]
 rw[if_neg h2,getD_set_ne' h2]
def a4n{z:α}:z∈L<->∃j,j<L.length/\L.getD j default=z:=by
 constructor
 · intro h
   obtain⟨j,hj,e⟩:=bmj h;exact⟨j,hj,by rw[al _ _ hj,e]⟩
 rintro⟨j,hj,rfl⟩;rw[al _ _ hj];exact bma hj
def b67(hk:0<k)(hl:k<L.length){z:α}:z∈swL L k<->z∈L:=by
 rw[a4n,a4n,aeb];constructor
 · rintro ⟨j,hj,e⟩
   rw[jv hk hl]at e;split at e
   · exact⟨k,hl,e⟩
   split at e
   · exact⟨k-1,by omega,e⟩
   exact⟨j,hj,e⟩
 rintro⟨j,hj,e⟩;by_cases h1:j=k
 · exact⟨k-1,by omega,by rw[jv hk hl,if_pos rfl,<- h1];exact e⟩
 by_cases h2:j=k-1
 · exact⟨k,hl,by rw[jv hk hl,if_neg bpw,if_pos rfl,<- h2];exact e⟩
 exact⟨j,hj,by rw[jv hk hl,if_neg h2,if_neg h1];exact e⟩
def Dif(L:List α):Prop:=∀a b,a<b->b<L.length->L.getD a default≠L.getD b default
def afs:L.Nodup->Dif L:=fun h a b hab hb e=>by
 rw[al _ _ bpw,al _ _ hb]at e;exact(bn5.1 h a b bpw hb hab) e
def b3n (hk:0<k) (hl:k<L.length) (h:Dif L):Dif (swL L k):=fun a b hab hb e=>by
 rw[aeb]at hb
 have h':∀a b,a<L.length->b<L.length->a≠b->L.getD a default≠L.getD b default:=fun a b ha hb hne e=>by
  rcases Nat.lt_or_gt_of_ne hne with h1|h1
  · exact h a b h1 hb e
  exact h b a h1 ha e.symm
 rw[jv hk hl,jv hk hl]at e;split at e<;>split at e<;>(try split at e)<;>(try split at e)<;>first|omega|exact h' _ _ bpw bpw bpw e
structure aab (c:α->α->Int) (L0:List α) (i k:Nat) (L:List α):Prop where
 len:L.length=L0.length
 mem:∀z,z∈L<->z∈L0
 dif:Dif L
 ki:k<=i
 il:i<L0.length
 ord:∀a b,a<b->b<=i->a≠k->b≠k->c (L.getD a default) (L.getD b default)<0
 low:∀b,k<b->b<=i->c (L.getD k default) (L.getD b default)<0
structure uw (c:α->α->Int) (L0:List α) (i:Nat) (L:List α):Prop where
 len:L.length=L0.length
 mem:∀z,z∈L<->z∈L0
 dif:Dif L
 ile:i<=L0.length
 ord:∀a b,a<b->b<i->c (L.getD a default) (L.getD b default)<0
variable {L0:List α}
def uw.start(h:L0.Nodup):uw c L0 0 L0:=⟨rfl,fun _=>Iff.rfl,afs h,bm3 _,fun a b _ hb=>absurd hb (bm6 b)⟩
def uw.into (h:uw c L0 i L) (hi:i<L.length):aab c L0 i i L :=
 ⟨h.len,h.mem,h.dif,bm1 _,by rw[<- h.len];exact hi,fun a b h1 h2 h3 h4=>h.ord a b h1 bpw,fun b h1 h2=>by omega⟩
def aab.step(hc:Tot c)(h:aab c L0 i k L)(hk:0<k)(hlt:c (L.getD k default) (L.getD (k-1) default)<0):aab c L0 i (k-1) (swL L k):=by
 have hl:k<L.length:=by rw[h.len];have:=h.ki;have:=h.il;omega
 refine⟨aeb.trans h.len,fun z=>(b67 hk hl).trans (h.mem z),b3n hk hl h.dif,by have:=h.ki;omega,h.il,fun a b h1 h2 h3 h4=>?_,fun b h1 h2=>?_⟩
 · rw [jv hk hl,jv hk hl,if_neg h3,if_neg h4]
   by_cases ea:a=k
   · rw [if_pos ea,if_neg bpw]
     exact h.ord (k-1) b bpw h2 bpw bpw
   rw[if_neg ea];by_cases eb:b=k
   · rw [if_pos eb]
     exact h.ord a (k-1) bpw bpw ea bpw
   rw[if_neg eb];exact h.ord a b h1 h2 ea eb
 rw[jv hk hl,jv hk hl,if_pos rfl,if_neg bpw];by_cases eb:b=k
 · rw [if_pos eb]
   exact hlt
 rw[if_neg eb];exact h.low b bpw h2
def aab.done(hc:Tot c)(h:aab c L0 i k L)(hx:k=0\/¬c (L.getD k default) (L.getD (k-1) default)<0):uw c L0 (i+1) L:=by
 refine⟨h.len,h.mem,h.dif,h.il,fun a b h1 h2=>?_⟩;have hki:=h.ki;have hil:=h.il;have hlen:=h.len;by_cases ea:a=k
 · subst ea
   exact h.low b h1 bpw
 by_cases eb:b=k
 · subst eb
   have hb0:0<b:=by omega
   have hno:¬c (L.getD b default) (L.getD (b-1) default)<0:=by
    rcases hx with hx|hx
    · omega
    exact hx
   have hne:L.getD (b-1) default≠L.getD b default:=h.dif (b-1) b bpw bpw
   have h3:c (L.getD (b-1) default) (L.getD b default)<0:=by
    rcases hc.tri hne with h4|h4
    · exact h4
    exact absurd h4 hno
   by_cases e2:a=b-1
   · rw[e2];exact h3
   exact hc.tr _ _ _ (h.ord a (b-1) bpw bpw ea bpw) h3
 exact h.ord a b h1 bpw ea eb
def uw.fin (h:uw c L0 i L) (hi:¬i<L.length):Asc c L:=by
 refine bn5.2 fun a b ha hb hab=>?_;have:=h.ord a b hab bpw;rw[al _ _ ha,al _ _ hb]at this;exact this
end
def mkR(L:List (List Val)):List Row:=L.map fun w=>⟨0,w⟩
def idR(L:List (List Val))(i:Nat):List Row:=(List.range L.length).map fun(j:Nat)=>⟨if j<i then(j:Int)+1 else 0,L.getD j default⟩
end
section
def cmN(a b:Int):Int:=a-b
def ae4:Tot cmN:=⟨fun a b=>by unfold cmN;omega,fun a b=>by unfold cmN;omega,fun a b d=>by unfold cmN;omega⟩
def tq(l:List Int):List Int:=l.mergeSort fun a b=>decide (a<=b)
section
variable {l:List Int}
def a60:(tq l).Perm l:=List.mergeSort_perm ..
def ajb:(tq l).length=l.length:=a60.length_eq
variable {x:Int}
def a38:x∈tq l<->x∈l:=a60.mem_iff
def az4 (h:l.Nodup):(tq l).Pairwise (·<·):=by
 have h1:(tq l).Pairwise (fun a b=>decide (a<=b)=true):=List.pairwise_mergeSort (fun a b c hab hbc=>by simp only[decide_eq_true_eq]at *;omega) (fun a b=>by simp only[bnf,decide_eq_true_eq];omega) l;have h2:(tq l).Nodup:=a60.nodup_iff.2 h
 exact (List.pairwise_and_iff.2 ⟨h1,h2⟩).imp fun {a b} hab=>by
  obtain⟨h3,h4⟩:=hab;simp only[decide_eq_true_eq]at h3;omega
def ao2:∀{l m:List Int},l.Pairwise (·<·)->m.Pairwise (·<·)->(∀z,z∈l<->z∈m)->l=m
 | [],[],_,_,_=>rfl
 | [],b::m,_,_,h=>absurd ((h b).2 (bmp ..)) bp0
 |a::l,[],_,_,h=>absurd ((h a).1 (bmp ..)) bp0
 | a :: l,b::m,hl,hm,h=>by
  obtain⟨l1,l2⟩:=bmn.1 hl;obtain⟨m1,m2⟩:=bmn.1 hm
  have e:a=b:=by
   rcases bm9.1 ((h a).1 (bmp ..))with e|ha
   · exact e
   rcases bm9.1 ((h b).2 (bmp ..))with e|hb
   · exact e.symm
   have:=m1 a ha;have:=l1 b hb;omega
  subst e;rw[ao2 l2 m2 fun z=>?_];constructor
  · intro hz
    rcases bm9.1 ((h z).1 (bmr _ hz))with e|hz2
    · have:=l1 z hz;omega
    exact hz2
  intro hz
  rcases bm9.1 ((h z).2 (bmr _ hz))with e|hz2
  · have:=m1 z hz;omega
  exact hz2
variable {i:Nat}
def azl {L0 L:List Int} (hn:L0.Nodup) (h:uw cmN L0 i L) (hi:¬i<L.length):L=tq L0 :=
 ao2 ((uw.fin h hi).imp fun hab=>by unfold cmN at hab;omega) (az4 hn) fun z=>(h.mem z).trans a38.symm
def ayn{L0:List Int}(hn:L0.Nodup):uw cmN L0 (min 1 L0.length) L0:=⟨rfl,fun _=>Iff.rfl,afs hn,by omega,fun a b h1 h2=>by omega⟩
structure BsI (l:List Int) (x:Int) (i j:Nat):Prop where
 ij:i<=j
 jn:j<=l.length
 lo:∀k,k<i->l.getD k default<x
 hi:∀k,j<=k->k<l.length->x<=l.getD k default
theorem BsI.up {j h:Nat} (hl:l.Pairwise (·<·)) (b:BsI l x i j) (h1:i<=h) (h2:h<j) (hx:l.getD h default<x):BsI l x (h+1) j:=by
 refine⟨by omega,b.jn,fun k hk=>?_,b.hi⟩;by_cases e:k=h
 · rw[e];exact hx
 have hj:=b.jn;have:=bn5.1 hl k h bpw bpw bpw;rw[al _ _ bpw]at hx ⊢;omega
theorem BsI.down {j h:Nat} (hl:l.Pairwise (·<·)) (b:BsI l x i j) (h1:i<=h) (h2:h<j) (hx:¬l.getD h default<x):BsI l x i h:=by
 refine⟨h1,by have:=b.jn;omega,b.lo,fun k hk hkl=>?_⟩;by_cases e:k=h
 · rw[e];omega
 have:=bn5.1 hl h k (by have:=b.jn;omega) hkl bpw;have hj:=b.jn;rw[al _ _ bpw]at hx ⊢;omega
theorem BsI.found {j:Nat} (hl:l.Pairwise (·<·)) (b:BsI l x i j) (he:¬i<j):(x∈l)<->(i<l.length/\l.getD i default=x):=by
 have h1:=b.ij;constructor
 · intro hx
   obtain⟨k,hk,rfl⟩:=bmj hx
   have e:k=i:=by
    rcases bo9 k i with h|h|h
    · have:=b.lo k h
      rw[al _ _ hk]at this;omega
    · exact h
    have h2:=b.hi i bpw bpw;have h3:=bn5.1 hl i k bpw hk h;rw[al _ _ bpw]at h2;omega
   subst e;exact⟨hk,al _ _ hk⟩
 rintro⟨h,rfl⟩;rw[al _ _ h];exact bma _
def aq5(l:List Int)(x:Int):Nat:=(l.filter fun a=>decide (a<x)).length
def ad6:∀{l:List Int} {x:Int} {i:Nat},i<=l.length->(∀k,k<i->l.getD k default<x)->(∀k,i<=k->k<l.length->x<=l.getD k default)->aq5 l x=i
 | [],x,i,h,_,_=>by simp at h;subst h;rfl
 | a::l,x,0,_,_,h2=>by
  have h0:x<=a:=h2 0 (bm1 _) bpz;have ih:=ad6 (l:=l) (x:=x) (i:=0) (bm3 _) (fun k hk=>absurd hk (bm6 k)) (fun k _ hk=>h2 (k+1) bpw (by simpa using hk));unfold aq5 at ih ⊢;rw[List.filter_cons_of_neg (by simpa using h0)];exact ih
 | a::l,x,i+1,h,h1,h2=>by
  have h0:a<x:=h1 0 bpw;have ih:=ad6 (l:=l) (x:=x) (i:=i) (by simpa using h) (fun k hk=>h1 (k+1) bpw) (fun k hk hkl=>h2 (k+1) bpw (by simpa using hkl));unfold aq5 at ih ⊢;rw[List.filter_cons_of_pos (by simpa using h0),bna,ih]
theorem BsI.low {j:Nat} (b:BsI l x i j) (he:¬i<j):aq5 l x=i :=
 ad6 (by have:=b.ij;have:=b.jn;omega) b.lo fun k hk hkl=>b.hi k (by have:=b.ij;omega) hkl
def rtN(s r:Nat):Nat:=s/Nat.gcd s r
def rtD(s r:Nat):Nat:=r/Nat.gcd s r
end
end
section
def gsT(g:List (List Nat))(j:Nat):Nat:=((g.take j).map List.length).sum
def gqT(g:List (List Nat))(j:Nat):Nat:=((g.take j).map fun p=>p.length*p.length).sum
def SmG(l:List (List (List Nat))):Prop:=l.length<=1000/\∀g∈l,gsz g<=1000/\g.length<=1000/\∀p∈g,∀i∈p,i<1000
theorem SmG.at {l:List (List (List Nat))} (h:SmG l) {k:Nat} (hk:k<l.length):gsz (l.getD k default)<=1000/\(l.getD k default).length<=1000/\∀p∈l.getD k default,∀i∈p,i<1000:=by
 rw[al _ _ hk];exact h.2 _ (bma hk)
variable {t:Tbl}{d:Fd}
def alN(t:Tbl)(m:Int):Nat:=if m=1 then t.rows.length*t.rows.length else t.rows.length
def bko(t:Tbl)(d:Fd)(m:Int):Int:=if t.rows.length=0 then 0 else(rtN (b95 t d m).toNat (alN t m):Int)
def bkp(t:Tbl)(m:Int)(d:Fd):Int:=if t.rows.length=0 then 1 else(rtD (b95 t d m).toNat (alN t m):Int)
end
section
section
variable {κ:Type}[DecidableEq κ][Inhabited κ]
abbrev hdL(x:κ×List Nat):Nat:=x.2.getD 0 default
end
end
section
def shN(a i:Nat):Nat:=a/2^i
end
section
def za(l:List Fd)(z:Int):Option PV:=match l.find? (fun f=>decide (asI f.lhs=z)) with|some f=>some (asC (mgR l f.lhs))|none=>none
def a2t (l:List Fd):MK->Option PV
 | .i .u32 z=>za l z
 |_=>none
def wfA (s:AS):(Lit.int .u32 (asI s)).wf=true:=by
 have h1:=a6m s;have h2:=qo s;have e1:IntKind.min .u32=0:=by decide
 have e2:IntKind.max .u32=4294967295:=by decide
 simp only[Lit.wf,e1,e2,bm8,decide_eq_true_eq];omega
section
variable {l:List Fd}
def ax3 {s:AS} (h:∀f∈l,¬f.lhs=s):mgR l s=0:=by
 unfold mgR;rw[List.filter_eq_nil_iff.2 fun f hf=>by simpa using h f hf];rfl
def abo {s:AS} {f:Fd} (h:l.find? (fun f=>decide (asI f.lhs=asI s))=some f):f.lhs=s:=by
 have:=List.find?_some h;exact d7.1 (of_decide_eq_true this)
def acg(l:List Fd)(s:AS):a2l (a2t l) (.i .u32 (asI s)) (.int .u32 0)=asC (mgR l s):=by
 show(match za l (asI s) with|some y=>y|none=>l7 (.int .u32 0))=_;unfold za
 cases h:l.find? (fun f=>decide (asI f.lhs=asI s)) with
 | some f =>
  have:=abo h;subst this;rfl
 | none =>
  rw [ax3 fun f hf e=>by
   have:=List.find?_eq_none.1 h f hf;rw[e]at this
   exact this (decide_eq_true rfl)]
  rfl
def auo (m:MK):CoM none (a2t [] m):=by
 cases m with
 |i q z=>cases q<;>exact CoM.refl _
 |s b=>exact CoM.refl _
def auv{i:Nat}(hi:i<l.length)(z:Int):(if z=asI (l.getD i default).lhs then some (PV.raw (.int .u32 (cu .or .u32 (asI (mgR (l.take i) (l.getD i default).lhs)) (asI (l.getD i default).rhs))))else za (l.take i) z)=za (l.take (i+1)) z:=by
 unfold za;by_cases hz:z=asI (l.getD i default).lhs
 · subst hz
   rw[if_pos rfl,bhm hi rfl]
   cases h:(l.take (i+1)).find? (fun f=>decide (asI f.lhs=asI (l.getD i default).lhs)) with
   | some f =>
    have:=abo h;rw[<- this]
   | none =>
    have:=List.find?_eq_none.1 h (l.getD i default) (by rw[ax hi];simp);exact absurd (decide_eq_true rfl) this
 rw[if_neg hz,ax hi,List.find?_append]
 have hx:[l.getD i default].find? (fun f=>decide (asI f.lhs=z))=none:=by
  rw[List.find?_cons,decide_eq_false (fun e=>hz e.symm)];rfl
 rw[hx,Option.or_none]
 cases h:(l.take i).find? (fun f=>decide (asI f.lhs=z)) with
 |none=>rfl
 | some f =>
  have hf0:=List.find?_some h;have hf:asI f.lhs=z:=of_decide_eq_true hf0;dsimp only;rw[<- ax hi,bg8 hi (fun e=>hz (by rw[e];exact hf.symm))]
def avx{i:Nat}(hi:i<l.length)(m:MK):CoM (w7 (a2t (l.take i)) (.i .u32 (asI (l.getD i default).lhs)) (.raw (.int .u32 (cu .or .u32 (asI (mgR (l.take i) (l.getD i default).lhs)) (asI (l.getD i default).rhs)))) m) (a2t (l.take (i+1)) m):=by
 refine CoM.of_eq ?_;unfold w7
 cases m with
 |s b=>rfl
 | i q z =>
  by_cases hq:q=.u32
  · subst hq
    show(bif (decide True&&decide (z=_))then _ else za _ z)=za _ z;rw[<- auv hi z];by_cases hz:z=asI (l.getD i default).lhs
    · rw[if_pos hz,decide_eq_true hz];rfl
    rw[if_neg hz,decide_eq_false hz];rfl
  have h1:MK.same (.i q z) (.i .u32 (asI (l.getD i default).lhs))=false:=by
   show(decide _&&decide _)=false;rw[decide_eq_false hq,Bool.false_and]
  rw[h1];cases q<;>first|rfl|exact absurd rfl hq
end
end
section
def cnI(l:List Int)(c:List Nat)(j:Nat)(z:Int):Option PV:=if aww l c j z=0 then none else some (.raw (.int .i64 (aww l c j z:Int)))
def cnF (l:List Int) (c:List Nat) (j:Nat):MK->Option PV
 | .i .i64 z=>cnI l c j z
 |_=>none
def pgT(l:List Int)(c:List Nat)(j:Nat):List (Int×List Nat):=gr (fun i=>l.getD i default) (c.take j)
def bh3 (g:List (List Nat)):Nat->PV
 |0=>ill g
 |_=>.any
abbrev bjx(l:List (List (List Nat))):PV:=psl 1 bh3 l
end
end Go.Hx
