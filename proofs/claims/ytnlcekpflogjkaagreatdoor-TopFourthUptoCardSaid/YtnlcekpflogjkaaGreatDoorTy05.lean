/- A part of the proof: Hx6. -/
import Derived.Test.YtnlcekpflogjkaaGreatDoorTy04
set_option linter.all false
namespace Go.Hx
section
open Go.RowKit
section
variable {P:Program}{E:Env}{w0:World}{nt:Nat}{c:Ctx}{s:S}{a:Act}{w:World}
section
variable {out:Out}{t:TypeId}{x:Operand}
def akz (hE:d7 P E) (h:ah w0 nt c s a w) {ix:Operand} (hq:yx E (ev s) t x ix=some out) (hp:out.pre):
 ∃v,(Instr.index t (a.eval x) (a.eval ix)).run P w=.ok v w/\ar c s.o out.val v:=by
 unfold yx at hq;split at hq<;>try(cases hq;done)
 rename_i ti b k i hti hx hix;split at hq<;>try(cases hq;done)
 rename_i hk;simp only[bst]at hq;subst hq;obtain⟨e1,_⟩:=af h hx;obtain⟨e2,_⟩:=af h hix;obtain⟨ii,d,h1,h2,h3,_⟩:=b5 (hE t ti hti);have:d=.string:=by cases d<;>simp_all [iz]
 subst this;rw[e1,e2];refine⟨_, ?_,e9 rfl⟩;have hlt:i.toNat<b.size:=by have:=hp.2;have:=hp.1;omega
 have hb:b[i.toNat]? = some b[i.toNat]:=by simp[hlt]
 have hv:ce b i.toNat=((b[i.toNat].toNat:Nat):Int):=by
  unfold ce;have h2:i.toNat<b.data.toList.length:=by simpa using hlt
  rw[bsv,bsu h2];rfl
 have hp0:0<=i:=hp.1;simp only[Instr.index,asIntOf,bu3,buh,bth,run_underlying h2,hp0,if_true,hb,hv]
def afx (h:ah w0 nt c s a w) {i:Nat} (hq:uo (ev s) x i=some out):
 ∃v,(Instr.extract (a.eval x) i).run P w=.ok v w/\ar c s.o out.val v:=by
 unfold uo at hq;split at hq<;>try(cases hq;done)
 rename_i l hx;split at hq<;>try(cases hq;done)
 rename_i cc hi;simp only[bst]at hq;subst hq;obtain⟨us,e1,hl⟩:=af h hx;obtain⟨u,hu,hr⟩:=hl.get i cc hi;rw[e1];exact⟨u,by simp[Instr.extract,hu],hr⟩
def arv(hE:d7 P E)(h:ah w0 nt c s a w){b:Builtin}{args:List Operand}{tys:List TypeId}{ty:TypeId}{cs:Array Bool}(hq:up E (ev s) b args tys=some out):∃v,(builtin b tys.toArray ty cs (args.map a.eval).toArray).run P w=.ok (.value v) w/\ar c s.o out.val v:=by
 unfold up at hq;split at hq<;>try(cases hq;done)
 · rename_i x t tr
   split at hq<;>try(cases hq;done)
   rename_i ti hti;obtain⟨ii,d,h1,h2,h3,_⟩:=b5 (hE t ti hti);split at hq<;>try(cases hq;done)
   · rename_i hk hx
     simp only[bst]at hq;subst hq;obtain⟨e1,_⟩:=af h hx;have:d=.string:=by cases d<;>simp_all [iz]
     subst this;refine⟨_, ?_,e9 rfl⟩;simp[builtin,Builtin.len_,e1,run_underlying h2,goInt]
   rename_i el hk hx;simp only[bst]at hq;subst hq;obtain⟨ad,cap,e1,_⟩:=af h hx;obtain rfl:=eo (h3.symm.trans hk);refine⟨_, ?_,e9 rfl⟩;simp[builtin,Builtin.len_,e1,run_underlying h2,goInt]
 · rename_i x y _
   split at hq<;>try(cases hq;done)
   rename_i k p kk q hx hy;simp only[bst]at hq;subst hq;obtain⟨e1,_⟩:=af h hx;obtain⟨e2,_⟩:=af h hy;refine⟨_, ?_,e9 rfl⟩;simp[builtin,Builtin.min_,e1,e2,Builtin.min2]
 rename_i x y _;split at hq<;>try(cases hq;done)
 rename_i k p kk q hx hy;simp only[bst]at hq;subst hq;obtain⟨e1,_⟩:=af h hx;obtain⟨e2,_⟩:=af h hy;refine⟨_, ?_,e9 rfl⟩;simp[builtin,Builtin.max_,e1,e2,Builtin.max2]
def aho(hE:d7 P E)(h:ah w0 nt c s a w){b:Builtin}{args:List Operand}{tys:List TypeId}{ty:TypeId}{cs:Array Bool}(hq:vt E s.o (ev s) b args tys=some out)(hp:out.pre):∃v,(builtin b tys.toArray ty cs (args.map a.eval).toArray).run P w=.ok (.value v) w/\ar c s.o out.val v:=by
 unfold vt at hq;split at hq<;>try(cases hq;done)
 rename_i x t tr;split at hq<;>try(cases hq;done)
 rename_i ti hti;obtain⟨ii,d,h1,h2,h3,_⟩:=b5 (hE t ti hti);split at hq<;>try(cases hq;done)
 rename_i el hk;split at hq<;>try(cases hq;done)
 rename_i hv0 hx;unfold a8e at hq;split at hq<;>try(cases hq;done)
 · rename_i id n
   have key:∀(ob:a7) (sz:Nat) (e:TypeId) (n':Nat),s.o id=some ob->ob.dim=some (sz,e,n')->(∃ad cap,c.own id=.slice ad n' cap/\n'<=cap/\cap<=maxLen)->n'=n ->
    ∃v,(builtin .len (t::tr).toArray ty cs ([x].map a.eval).toArray).run P w=.ok (.value v) w/\ar c s.o (bp (.raw (.int .i64 n))) v:=by
    rintro ob sz e n' ho hdm hany rfl;obtain⟨_,_,h3'⟩:=af h hx;obtain⟨_,hown⟩:=h3' _ _ _ _ ho hdm;have hu:=hown rfl;obtain rfl:=eo (h3.symm.trans hk);obtain⟨ad,cap,hv,_⟩:=hany;rw[hv]at hu;refine⟨_, ?_,e9 rfl⟩;simp[builtin,Builtin.len_,hu,run_underlying h2,goInt]
   split at hq<;>try(cases hq;done)
   · rename_i wr sz e n' f ho
     simp only[bst]at hq;subst hq;exact key _ _ _ _ ho rfl (zf (h.objs id _ ho)) hp
   · rename_i sz e n' ms f ho
     simp only[bst]at hq;subst hq;exact key _ _ _ _ ho rfl (ac7 (h.objs id _ ho)) hp
   rename_i e et es n' m g ho;simp only[bst]at hq;subst hq;refine key _ _ _ _ ho rfl ?_ hp;obtain⟨ad,cap,q1,q2,q3,_⟩:=adh (h.objs id _ ho);exact⟨ad,cap,q1,q2,q3⟩
 · rename_i id i k
   split at hq<;>try(cases hq;done)
   rename_i e et es n m g pd ho;simp only[bst]at hq;subst hq;obtain⟨hi,rfl⟩:=hp;obtain⟨_,h3'⟩:=af h hx;obtain⟨_,_,hrow⟩:=h3' _ _ _ _ _ _ _ ho;have hu:=hrow rfl;obtain rfl:=eo (h3.symm.trans hk);obtain⟨ad,cap,hv,_⟩:=ak9 (h.objs id _ ho) hi;rw[hv]at hu;refine⟨_, ?_,e9 rfl⟩;simp[builtin,Builtin.len_,hu,run_underlying h2,goInt]
 rename_i id n wi wm
 have key:∀(ob:a7) (sz:Nat) (e:TypeId) (n':Nat),s.o id=some ob->ob.dim=some (sz,e,n')->(∃ad cap,c.own id=.slice ad n' cap/\n'<=cap/\cap<=maxLen)->n'=n ->
  ∃v,(builtin .len (t::tr).toArray ty cs ([x].map a.eval).toArray).run P w=.ok (.value v) w/\ar c s.o (bp (.raw (.int .i64 wm))) v:=by
  rintro ob sz e n' ho hdm hany rfl;obtain⟨_,_,h3'⟩:=af h hx;obtain⟨_,hown⟩:=h3' _ _ _ _ ho hdm;obtain⟨_,_,_,_,hu,_⟩:=hown rfl;obtain rfl:=eo (h3.symm.trans hk);refine⟨_, ?_,e9 rfl⟩;simp[builtin,Builtin.len_,hu,run_underlying h2,goInt]
 split at hq<;>try(cases hq;done)
 · rename_i wr sz e n' f ho
   simp only[bst]at hq;subst hq;exact key _ _ _ _ ho rfl (zf (h.objs id _ ho)) hp
 rename_i sz e n' ms f ho;simp only[bst]at hq;subst hq;exact key _ _ _ _ ho rfl (ac7 (h.objs id _ ho)) hp
def ab6 (h:ah w0 nt c s a w):∀{xs:List Operand} {l:List PV},a1p (ev s) xs=some l->fl c.imm l (xs.map a.eval)
 | [],l,hl=>by simp[a1p]at hl;subst hl;trivial
 | x::xs,l,hl=>by
  simp only[a1p]at hl;split at hl<;>try(cases hl;done)
  rename_i y l' hx hr;simp only[bst]at hl;subst hl;exact⟨af h hx,ab6 h hr⟩
def abb (h:ah w0 nt c s a w):∀{xs:List Operand} {l:List HV},a12 (ev s) xs=some l->bf c s.o l (xs.map a.eval)
 | [],l,hl=>by simp[a12]at hl;subst hl;trivial
 | x::xs,l,hl=>by
  simp only[a12]at hl;split at hl<;>try(cases hl;done)
  rename_i y l' hx hr;simp only[bst]at hl;subst hl;exact⟨af h hx,abb h hr⟩
def a67 {c:Ctx} {o:au}:∀{l:List HV} {us:List Value} {ps:List PV},bf c o l us->l5 l=some ps->fl c.imm ps us
 | [],[],ps,_,h=>by simp[l5]at h;subst h;trivial
 | .p x::r,u::us,ps,hr,h=>by
  simp only[l5]at h;split at h<;>try(cases h;done)
  rename_i l hl;simp only[bst]at h;subst h;exact⟨hr.1,a67 hr.2 hl⟩
 | .ref _ _::_,_,_,_,h=>by simp[l5]at h
 | .ptr _ _::_,_,_,_,h=>by simp[l5]at h
 | .eptr _ _ _ _::_,_,_,_,h=>by simp[l5]at h
 | .win _ _ _ _::_,_,_,_,h=>by simp[l5]at h
 | .clo _ _ _::_,_,_,_,h=>by simp[l5]at h
 | .row _ _ _::_,_,_,_,h=>by simp[l5]at h
 | .rptr _ _ _ _ _::_,_,_,_,h=>by simp[l5]at h
 | .pin _ _ _ _::_,_,_,_,h=>by simp[l5]at h
 | [],_::_,_,hr,_=>hr.elim
 | .p _::_,[],_,hr,_=>hr.elim
theorem als (h:ah w0 nt c s a w) {fn:Fn} {first caps:Array Operand} (hq:a2z (ev s) fn first.toList caps.toList=some out):
 ∃v,(Instr.makeFunc fn (first.map a.eval) (caps.map a.eval)).run P w=.ok v w/\ar c s.o out.val v:=by
 unfold a2z at hq;split at hq<;>try(cases hq;done)
 rotate_left
 · rename_i f x hfirst
   split at hq<;>try(cases hq;done)
   rename_i hs hcaps hx;split at hq<;>try(cases hq;done)
   rename_i l hl;simp only[bst]at hq;subst hq
   have hf:first=#[x]:=by
    grind
   have hc:caps=#[]:=by
    grind
   subst hf hc;obtain⟨us,e1,hr⟩:=af h hx;have hp:=a67 hr hl;refine⟨.func (.func f) #[.agg us.toArray] #[],by simp[Instr.makeFunc,e1],us,rfl,hp.length,fun i hi=>?_⟩;obtain⟨u,hu,hrr⟩:=hp.get i l[i] (bsu hi)
   grind
 rename_i f hfirst
 have hf:first=#[]:=by
  grind
 subst hf;split at hq
 rotate_left
 · split at hq<;>try(cases hq;done)
   rename_i l hl;simp only[bst]at hq;subst hq;have hr:=abb h hl;refine⟨.func (.func f) #[] (caps.map a.eval),by simp[Instr.makeFunc],caps.toList.map a.eval,by rw[<- bvp,bvf],by rw[hr.length],fun i hi=>?_⟩;obtain⟨u,hu,hrr⟩:=hr.get i l[i] (bsu hi)
   grind
 rename_i l hl;simp only[bst]at hq;subst hq;have hr:=ab6 h hl;refine⟨.func (.func f) #[] (caps.map a.eval),by simp[Instr.makeFunc],caps.toList.map a.eval,by rw[<- bvp,bvf],by rw[hr.length],fun i hi=>?_⟩;obtain⟨u,hu,hrr⟩:=hr.get i l[i] (bsu hi)
 grind
def arh{o:Oper}(ho:o.op=.nilCheck x)(h:ah w0 nt c s a w)(hq:tk s.o (ev s) x=some out)(hp:out.pre):
 ∃v,(execOp a.eval o).run P w=.ok (.value v) w/\ar c s.o out.val v:=by
 unfold tk at hq;split at hq<;>try(cases hq;done)
 · rename_i g k cc hx
   simp only[bst]at hq;subst hq;obtain⟨cs,e1,h2,h3⟩:=af h hx;refine⟨_, ?_,cs,e1,h2,h3⟩;unfold execOp;simp[ho,e1]
 · rename_i g k cc hx
   simp only[bst]at hq;subst hq;obtain⟨cs,e1,h2,h3⟩:=af h hx;refine⟨_, ?_,cs,e1,h2,h3⟩;unfold execOp;simp[ho,e1]
 rename_i hh _ _ hx;split at hq<;>try(cases hq;done)
 rename_i p _ _ ht;simp only[bst]at hq;subst hq;have hu:=af h hx;obtain⟨ad,e1,_⟩:=xl h hu ht hp;refine⟨_, ?_,hu⟩;unfold execOp;simp[ho,e1]
def a3c (hE : d7 P E) : ∀ (fs : List Field) (l : List (Nat × Nat)), a0w E (fs.map fun f => (f.offset, f.type, f.name == "_")) = some l ->
 fs.mapM (fun f=>(P.info? f.type).map fun i=>(f.offset,i.size))=some l
 | [],l,h=>by simp[a0w]at h;subst h;rfl
 | f::fs,l,h=>by
  simp only[buf,a0w]at h;split at h<;>try(cases h;done)
  rename_i fi l' hfi hr;simp only[bst]at h;subst h;obtain⟨ii,d,h1,h2,h3,h4,_⟩:=b5 (hE _ _ hfi);simp[List.mapM_cons,h1,h4,a3c hE fs l' hr]
theorem a74 (o:Nat):∀(vs:List Value) (i:Nat) (cs:List Value),o+i+vs.length<=cs.length ->
 (vs.zipIdx i).foldl (fun(cs:Array Value) (p:Value×Nat)=>cs.setIfInBounds (o+p.2) p.1) cs.toArray=(cs.take (o+i)++vs++cs.drop (o+i+vs.length)).toArray
 | [],i,cs,_=>by simp
 | v::vs,i,cs,h=>by
  simp only[List.zipIdx_cons,bvl];have hset:(cs.toArray.setIfInBounds (o+i) v)=(cs.set (o+i) v).toArray:=by simp
  rw[hset,a74 o vs (i+1) (cs.set (o+i) v) (by simp at h ⊢;omega)];congr 1;have h':o+i+(vs.length+1)<=cs.length:=by simpa using h
  apply bvu;intro j;simp only[List.getElem?_append,bt4,bus,bsy,bto,btx,bvz,List.getElem?_set]
  grind
def mr {o:au} {x:HC} {u:Value} (h:fu c o x u):bf c o x.cells u.cells.toList/\(x.cells.length=u.cells.size):=by
 cases x with
 | one h1 =>
  have hone:=bj.oneCell (c:=c) (o:=o) (h:=h1) h;have:u.cells=#[u]:=by cases u<;>simp_all [Value.cells,Value.oneCell']
  rw[this];exact⟨⟨h,trivial⟩,rfl⟩
 | agg l =>
  obtain⟨us,rfl,hl⟩:=h;exact⟨by simpa [Value.cells,HC.cells]using hl,by simp[Value.cells,HC.cells,hl.length]⟩
def bxc{p:Prop}(h:p:=by simp;omega):p:=h
theorem x9 (h:ah w0 nt c s a w) (places:List (Nat×Nat)):∀(parts:List (Nat×Operand)) (cells:List HV) (us:List Value) (l:List HV),bf c s.o cells us->it (ev s) places cells parts=some l ->
 ∃vs:List Value,Instr.fill (fun i=>places[i]?) us.toArray (parts.map fun p=>(p.1,a.eval p.2))=some vs.toArray/\bf c s.o l vs
 | [],cells,us,l,hc,hf=>by
  simp only[it,bst]at hf;subst hf;exact⟨us,by simp[Instr.fill],hc⟩
 | (i,x)::r,cells,us,l,hc,hf=>by
  simp only[it]at hf;split at hf<;>try(cases hf;done)
  rename_i off size cc hpl hx;split at hf<;>try(cases hf;done)
  rename_i h1 h2;have h1:=of_decide_eq_true h1;have h2:=of_decide_eq_true h2;have hu:fu c s.o cc (a.eval x):=af h hx;obtain⟨hcl,hsz⟩:=mr hu;have hlen:=hc.length;have hset:bf c s.o (bo cells off cc.cells) (us.take off++(a.eval x).cells.toList++us.drop (off+cc.cells.length)):=((hc.take off).append hcl).append (hc.drop _);obtain⟨vs,hv,hr⟩:=x9 h places r _ _ l hset hf;refine⟨vs, ?_,hr⟩;simp only[buf,Instr.fill,hpl]
  have hb:((a.eval x).cells.size≠size||off+(a.eval x).cells.size > us.toArray.size)=false:=by
   grind
  have hb':¬(decide ((a.eval x).cells.size≠size)||decide (off+(a.eval x).cells.size > us.toArray.size))=true:=by
   grind
  rw[if_neg hb'];have hfold:=a74 off (a.eval x).cells.toList 0 us bxc;simp only[bur,bu2]at hfold
  have hz:(a.eval x).cells.zipIdx.foldl (fun cs (p:Value×Nat)=>cs.setIfInBounds (off+p.2) p.1) us.toArray=((a.eval x).cells.toList.zipIdx 0).foldl (fun(cs:Array Value) (p:Value×Nat)=>cs.setIfInBounds (off+p.2) p.1) us.toArray:=by
   rw[<- Array.foldl_toList];simp
  grind
def ajr{f g:Nat->Option (Nat×Nat)}(hfg:∀i p,f i=some p->g i=some p):∀{parts:List (Nat×Value)} {cells out:Array Value},Instr.fill f cells parts=some out->Instr.fill g cells parts=some out
 | [],_,_,h=>h
 | (i,v)::r,cells,out,h=>by
  unfold Instr.fill at h ⊢
  cases hp:f i with
  |none=>rw[hp]at h;cases h
  | some p =>
   obtain⟨off,size⟩:=p;rw[hp]at h;rw[hfg i _ hp];dsimp only at h ⊢;split at h
   · cases h
   rename_i hn;rw[if_neg hn];exact ajr hfg h
theorem al1 (hE:d7 P E) (h:ah w0 nt c s a w) {parts:Array (Nat×Operand)} (hq:zg E (ev s) t parts.toList=some out):
 ∃v,(Instr.build t (parts.map fun(i,x)=>(i,a.eval x))).run P w=.ok v w/\ar c s.o out.val v:=by
 unfold zg at hq;split at hq<;>try(cases hq;done)
 rename_i i hi;split at hq<;>try(cases hq;done)
 · rename_i fs z hk hz
   split at hq<;>try(cases hq;done)
   rename_i places hpl hone;split at hq<;>try(cases hq;done)
   rename_i l hf;simp only[bst]at hq;subst hq;obtain⟨ii,d,h1,h2,h3,h4,h5,h6,_⟩:=b5 (hE t i hi);obtain⟨fa,rfl,hfa⟩:=xh (h3.symm.trans hk);rw[hfa]at hpl;have hplaces:=a3c hE fa.toList places hpl;rw[hz]at h6
   cases hiz:ii.zero with
   |none=>rw[hiz]at h6;cases h6
   | some zv =>
    rw[hiz]at h6;simp only[btr,bst]at h6;obtain⟨vs,hv,hr⟩:=x9 h places parts.toList _ z l (vk c s.o z (jm hone)) hf;refine⟨.agg vs.toArray, ?_,vs,rfl,hr⟩;refine run_build w t _ vs.toArray ?_;unfold Program.built;simp_all
 rename_i n el z hk hz;split at hq<;>try(cases hq;done)
 rename_i ie hie hone;split at hq<;>try(cases hq;done)
 rename_i l hf;simp only[bst]at hq;subst hq;obtain⟨ii,d,h1,h2,h3,h4,h5,h6,_⟩:=b5 (hE t i hi);obtain⟨je,de,g1,g2,g3,g4,g5,g6,_⟩:=b5 (hE el ie hie);have hd:=aer (h3.symm.trans hk);subst hd;rw[hz]at h6
 cases hiz:ii.zero with
 |none=>rw[hiz]at h6;cases h6
 | some zv =>
  rw[hiz]at h6;simp only[btr,bst]at h6;obtain⟨vs,hv,hr⟩:=x9 h _ parts.toList _ z l (vk c s.o z (jm hone)) hf
  have hv:=ajr (g:=fun k=>some (k*ie.size,ie.size)) (fun k p hp=>by
   rw[btf]at hp;by_cases hk:k<n
   · grind
   rw[bwr bxc]at hp;cases hp) hv
  refine⟨.agg vs.toArray, ?_,vs,rfl,hr⟩;refine run_build w t _ vs.toArray ?_;unfold Program.built;simp_all
def zx (w:World) (d:Nat) (t e:TypeId) (ad:Option Addr) (l cp:Nat) (h:P.underlying t=some (.slice e)):(Op.equalIn (d+1) t (.slice ad l cp) (.slice none 0 0)).run P w=.ok ad.isNone w:=by
 cases ad<;>simp[Op.equalIn,run_underlying h]
def ape (w:World) (t e:TypeId) (ad:Option Addr) (l cp:Nat) (h:P.underlying t=some (.slice e)):(binOp .eql t (.slice ad l cp) (.slice none 0 0)).run P w=.ok (.bool ad.isNone) w:=by
 have h1:binOp .eql t (.slice ad l cp) (.slice none 0 0)=(Op.equal t (.slice ad l cp) (.slice none 0 0) >>= fun b=>pure (.bool b)):=by simp only[binOp]
 have h2:(Op.equal t (.slice ad l cp) (.slice none 0 0)).run P w=.ok ad.isNone w:=zx w 9999 t e ad l cp h;simp_all
def amv (w:World) (t e:TypeId) (ad:Option Addr) (l cp:Nat) (h:P.underlying t=some (.slice e)):(binOp .neq t (.slice ad l cp) (.slice none 0 0)).run P w=.ok (.bool (!ad.isNone)) w:=by
 have h1:binOp .neq t (.slice ad l cp) (.slice none 0 0)=(Op.equal t (.slice ad l cp) (.slice none 0 0) >>= fun b=>pure (.bool (!b))):=by simp only[binOp]
 have h2:(Op.equal t (.slice ad l cp) (.slice none 0 0)).run P w=.ok ad.isNone w:=zx w 9999 t e ad l cp h;simp_all
theorem age (hE:d7 P E) (h:ah w0 nt c s a w) {op:BinOp} {y:Operand} (hq:wq E (ev s) op t x y=some out) (hp:out.pre):
 ∃v,(do eqGuard op t x y (a.eval x) (a.eval y);binOp op t (a.eval x) (a.eval y):Sem Value).run P w=.ok v w/\ar c s.o out.val v:=by
 unfold wq at hq;split at hq<;>try(cases hq;done)
 split at hq<;>try(cases hq;done)
 rename_i i hi;split at hq<;>try(cases hq;done)
 rename_i el hk;obtain⟨ii,d,h1,h2,h3,_⟩:=b5 (hE t i hi);obtain rfl:=eo (h3.symm.trans hk);have hg:∀ad l cp,(eqGuard op t x (.const (.slice none 0 0)) (.slice ad l cp) (.slice none 0 0)).run P w=.ok () w:=by intro ad l cp;cases op<;>simp[eqGuard]
 have core:∀ad l cp,a.eval x=.slice ad l cp->a3q op ad=some out->∃v,(do eqGuard op t x (.const (.slice none 0 0)) (a.eval x) (a.eval (.const (.slice none 0 0)));binOp op t (a.eval x) (a.eval (.const (.slice none 0 0))):Sem Value).run P w=.ok v w/\ar c s.o out.val v:=by
  intro ad l cp he hn;have e2:a.eval (.const (.slice none 0 0))=.slice none 0 0:=rfl;rw[he,e2,bu3,hg,bth];cases op<;>simp only[a3q]at hn<;>try(cases hn;done)
  · simp only [bst]at hn;subst hn
    exact⟨_,ape w t el ad l cp h2,e9 rfl⟩
  simp only[bst]at hn;subst hn;exact⟨_,amv w t el ad l cp h2,e9 rfl⟩
 split at hq<;>try(cases hq;done)
 · rename_i n sz cl f hx
   obtain⟨ad,cap,e1,_,_,_,hc⟩:=af h hx
   have hn:0<n:=by
    cases op<;>simp only[aqd]at hq<;>first|(cases hq;done)|(simp only[bst]at hq;subst hq;exact hp)
   obtain⟨b,off,rfl,_⟩:=hc hn;refine core _ _ _ e1 ?_;cases op<;>simp only[aqd]at hq<;>first|(cases hq;done)|skip
   · simp only [bst]at hq;subst hq
     have:(0<n)=True:=by simp[hn]
     simp[a3q,this]
   simp only[bst]at hq;subst hq;have:(0<n)=True:=by simp[hn]
   simp[a3q,this]
 rename_i ad l cp hx;obtain⟨e1,_⟩:=af h hx
 grind
def arc {d:TypeDesc} {e:TypeId} (h:iz d=.pointer e):d=.pointer e:=by
 cases d<;>simp[iz]at h;rw[h]
def a02 (w:World) (d:Nat) (t e:TypeId) (p:Option Addr) (h:P.underlying t=some (.pointer e)):(Op.equalIn (d+1) t (.pointer p) (.pointer none)).run P w=.ok p.isNone w:=by
 cases p<;>simp[Op.equalIn,run_underlying h]
def ar2 (w:World) (t e:TypeId) (p:Option Addr) (h:P.underlying t=some (.pointer e)):(binOp .eql t (.pointer p) (.pointer none)).run P w=.ok (.bool p.isNone) w:=by
 have h1:binOp .eql t (.pointer p) (.pointer none)=(Op.equal t (.pointer p) (.pointer none) >>= fun b=>pure (.bool b)):=by simp only[binOp]
 have h2:(Op.equal t (.pointer p) (.pointer none)).run P w=.ok p.isNone w:=a02 w 9999 t e p h;simp_all
def amy (w:World) (t e:TypeId) (p:Option Addr) (h:P.underlying t=some (.pointer e)):(binOp .neq t (.pointer p) (.pointer none)).run P w=.ok (.bool (!p.isNone)) w:=by
 have h1:binOp .neq t (.pointer p) (.pointer none)=(Op.equal t (.pointer p) (.pointer none) >>= fun b=>pure (.bool (!b))):=by simp only[binOp]
 have h2:(Op.equal t (.pointer p) (.pointer none)).run P w=.ok p.isNone w:=a02 w 9999 t e p h;simp_all
theorem ahg (hE:d7 P E) (h:ah w0 nt c s a w) {op:BinOp} {y:Operand} (hq:l8 E s.o (ev s) op t x y=some out) (hp:out.pre):
 ∃v,(do eqGuard op t x y (a.eval x) (a.eval y);binOp op t (a.eval x) (a.eval y):Sem Value).run P w=.ok v w/\ar c s.o out.val v:=by
 unfold l8 at hq;split at hq<;>try(cases hq;done)
 split at hq<;>try(cases hq;done)
 rename_i i hi;split at hq<;>try(cases hq;done)
 rename_i el hk;obtain⟨ii,d,h1,h2,h3,_⟩:=b5 (hE t i hi);obtain rfl:=arc (h3.symm.trans hk);have hg:∀p,(eqGuard op t x (.const (.pointer none)) (.pointer p) (.pointer none)).run P w=.ok () w:=by intro p;cases op<;>simp[eqGuard]
 have core:∀p,a.eval x=.pointer p->aei op p.isNone=some out->∃v,(do eqGuard op t x (.const (.pointer none)) (a.eval x) (a.eval (.const (.pointer none)));binOp op t (a.eval x) (a.eval (.const (.pointer none))):Sem Value).run P w=.ok v w/\ar c s.o out.val v:=by
  intro p he hn;have e2:a.eval (.const (.pointer none))=.pointer none:=rfl;rw[he,e2,bu3,hg,bth];cases op<;>simp only[aei]at hn<;>try(cases hn;done)
  · simp only [bst]at hn;subst hn
    exact⟨_,ar2 w t el p h2,e9 rfl⟩
  simp only[bst]at hn;subst hn;exact⟨_,amy w t el p h2,e9 rfl⟩
 split at hq<;>try(cases hq;done)
 rename_i hv hx;have hr:=af h hx;unfold a3n at hq;split at hq<;>try(cases hq;done)
 · rename_i id off
   split at hq<;>try(cases hq;done)
   rename_i l hl;obtain⟨b,_,hu⟩:=hr.2.2 l hl
   grind
 rename_i p;exact core p hr.1 hq
def aqc{o:Oper}{x0 y:Operand}(ho:o.op=.pick x0 x y)(h:ah w0 nt c s a w)(hq:a43 (ev s) x0 x y=some out)(hp:out.pre):
 ∃v,(execOp a.eval o).run P w=.ok (.value v) w/\ar c s.o out.val v:=by
 unfold a43 at hq;split at hq<;>try(cases hq;done)
 rename_i b hb;obtain⟨e1,_⟩:=af h hb;have hrun:(execOp a.eval o).run P w=.ok (.value (if b then a.eval x else a.eval y)) w:=by simp[execOp,ho,e1,asBool]
 refine⟨_,hrun, ?_⟩;unfold b97 at hq;split at hq
 · rename_i u v hx hy
   simp only[bst]at hq;subst hq;obtain⟨e2,_⟩:=af h hx;obtain⟨e3,_⟩:=af h hy;rw[e2,e3];cases b<;>exact⟨rfl,rfl⟩
 · rename_i r hx hy
   simp only[bst]at hq;subst hq;have hp:b=true:=hp;subst hp;exact af h hx
 · rename_i r _ hx hy
   simp only[bst]at hq;subst hq;have hp:b=true:=hp;subst hp;exact af h hx
 · rename_i r hx hy
   simp only[bst]at hq;subst hq;have hp:b=false:=hp;subst hp;exact af h hy
 · rename_i r _ _ hx hy
   simp only[bst]at hq;subst hq;have hp:b=false:=hp;subst hp;exact af h hy
 · rename_i r r' _ _ _ hx hy
   cases b
   · simp only [bst]at hq
     subst hq;exact af h hy
   simp only[bst]at hq;subst hq;exact af h hx
 cases hq
def aql{k:TypeId}{ki:TI}(hE:d7 P E)(hk:E k=some ki){kk:KK}(hkk:ade ki.k=some kk):Go.Maps.Keyed P k/\∀m,MK.ok kk m->∃l,keyOf P k m.val=some l:=by
 obtain⟨ii,d,h1,h2,h3,_⟩:=b5 (hE k ki hk);rw[h3]at hkk;cases d<;>simp only[iz,ade]at hkk<;>try(cases hkk;done)
 · rename_i q
   simp only[bst]at hkk;subst hkk;refine⟨Go.Maps.int_keyed h2,fun m hm=>?_⟩
   cases m with
   | i q' n =>
    obtain⟨rfl,hw⟩:=hm;exact⟨_,Go.Maps.keyOf_int_mk h2 hw⟩
   |s b=>exact hm.elim
 simp only[bst]at hkk;subst hkk;refine⟨Go.Maps.string_keyed h2,fun m hm=>?_⟩
 cases m with
 |i q' n=>exact hm.elim
 |s b=>exact⟨_,Go.WideMaps.keyOf_string_mk h2 hm⟩
theorem ara (hE:d7 P E) {kt et:TypeId} {kk:KK} {z:Value} (ht:P.underlying t=some (.map kt et)) (hlk:alh E kt et=some (kk,z)) {b:Nat} {es:Array MapEntry} {clock:Nat} (q4:w.heap[b]? = some (.map es clock)) (q5:Go.MapKept.Stamped es clock) (q7:es.size<=maxLen) {has:MK->Prop} {R:MK->Value->Prop} (q8:∀x∈es.toList,∃key,x.key=key.val/\has key/\R key x.val) (q9:∀key,has key->MK.ok kk key/\∃x∈es.toList,x.key=key.val) {m:MK} (hok:MK.ok kk m) (cm:Bool):
 z.oneCell'=true/\((¬has m/\(Instr.lookup t (.map (some b)) m.val cm).run P w=.ok (if cm then .tuple #[z, .bool false]else z) w) \/
 ∃v,has m/\R m v/\(Instr.lookup t (.map (some b)) m.val cm).run P w=.ok (if cm then .tuple #[v, .bool true]else v) w):=by
 unfold alh at hlk;split at hlk<;>try(cases hlk;done)
 rename_i ki ei hki hei;split at hlk<;>try(cases hlk;done)
 rename_i kk2 z2 e1 e2 e3;simp only[bst,bt2]at hlk;obtain⟨rfl,rfl⟩:=hlk;obtain⟨hz,hz1⟩:=axr (hE et ei hei) e3 e2 w;obtain⟨K,hkey⟩:=aql hE hki e1;obtain⟨l,hl⟩:=hkey m hok;refine⟨hz1, ?_⟩
 rcases ad1 cm K ht hz q4 q7 q5 (fun x hx=>by
  obtain⟨key,r1,r2,_⟩:=q8 x hx;rw[r1]
  exact hkey key (q9 key r2).1) hl with⟨hrun,hno⟩|⟨e0,he0,hk0,hrun⟩
 · grind
 obtain⟨key,r1,r2,r3⟩:=q8 e0 he0;have hkm:key=m:=MK.val_inj (r1.symm.trans hk0)
 grind
theorem ahs (hE:d7 P E) (h:ah w0 nt c s a w) {ix:Operand} {cm:Bool} (hq':li E s.o (ev s) t x ix cm=some out) (hp:out.pre):
 ∃v,(Instr.lookup t (a.eval x) (a.eval ix) cm).run P w=.ok v w/\ar c s.o out.val v:=by
 unfold li at hq';split at hq'<;>try(cases hq';done)
 rename_i i hi;split at hq'<;>try(cases hq';done)
 rename_i kt et hmk;split at hq'<;>try(cases hq';done)
 rename_i kk z hlk;split at hq'<;>try(cases hq';done)
 rename_i kv hix;split at hq'<;>try(cases hq';done)
 rename_i m hm;split at hq'<;>try(cases hq';done)
 rename_i hv hx;obtain⟨ii,d,h1,h2,h3,_⟩:=b5 (hE t i hi)
 have ht:P.underlying t=some (.map kt et):=by
  rw[h2];have h4:=h3.symm.trans hmk;cases d<;>simp[iz]at h4
  grind
 obtain⟨hu2,_⟩:=af h hix;have hmv:=aol hm;rw[hu2,<- hmv];unfold ads at hq';split at hq'<;>try(cases hq';done)
 · rename_i kk' n has f
   have hp':kk'=kk/\MK.ok kk m:=by
    grind
   obtain⟨rfl,hok⟩:=hp';obtain⟨b,es,clock,q1,q4,q5,q6,q7,q8,q9⟩:=af h hx;rw[q1];obtain⟨hz1,⟨hno,hrun⟩|⟨v,hyes,hR,hrun⟩⟩:=ara (has:=fun k=>has k=true) (R:=fun k v=>aq c.imm (f k) v) hE ht hlk (h.imm _ _ q4) q5 q7 q8 q9 hok cm
   · refine ⟨_,hrun, ?_⟩
     have hat:xk has f m z=lp z:=by unfold xk;rw[Bool.not_eq_true _ |>.mp hno]
     rw[hat]at hq'
     cases cm with
     | true =>
      simp only[bst]at hq';subst hq';rw[Bool.not_eq_true _ |>.mp hno];exact⟨[z, .bool false],rfl,n9 _ _ hz1,⟨rfl,rfl⟩,trivial⟩
     | false =>
      simp only[bst]at hq';subst hq';exact n9 _ _ hz1
   refine⟨_,hrun, ?_⟩;have hat:xk has f m z=f m:=by unfold xk;rw[hyes]
   rw[hat]at hq'
   cases cm with
   | true =>
    simp only[bst]at hq';subst hq';rw[hyes];exact⟨[v, .bool true],rfl,hR,⟨rfl,rfl⟩,trivial⟩
   | false =>
    simp only[bst]at hq';subst hq';exact hR
 rename_i id k0;split at hq'<;>try(cases hq';done)
 rename_i kk' n f hob;obtain⟨b,es,clock,q1,q2,q3,q4,q5,q6,q7,q8,q9⟩:=h.objs id _ hob;obtain⟨_,_,g3⟩:=af h hx;obtain⟨g4,g5⟩:=g3 _ _ _ _ hob rfl;have hu:a.eval x=.map (some b):=by rw[g5 bww,q1]
 have hp':kk'=kk/\MK.ok kk m:=by
  grind
 obtain⟨rfl,hok⟩:=hp';rw[hu]
 obtain ⟨hz1,⟨hno,hrun⟩|⟨v,_,⟨y,hy,hR⟩,hrun⟩⟩:=ara (has:=fun k=>f k≠none) (R:=fun k v=>∃y,f k=some y/\aq c.imm y v) hE ht hlk q4 q5 q7
  (fun x hx=>by
   obtain⟨key,y,r1,r2,r3⟩:=q8 x hx
   exact⟨key,r1,by rw[r2];simp,y,r2,r3⟩)
  (fun key hk=>by
   cases hf:f key with
   |none=>exact absurd hf hk
   |some y=>exact q9 key y hf) hok cm
 · have hf:f m=none:=Classical.not_not.1 hno
   have hat:a51 f m z=lp z:=by unfold a51;rw[hf]
   have hhas:a6t f m=false:=by unfold a6t;rw[hf]
   refine⟨_,hrun, ?_⟩
   cases cm with
   | true =>
    simp only[bst]at hq';subst hq';rw[hat,hhas];exact⟨[z, .bool false],rfl,n9 _ _ hz1,⟨rfl,rfl⟩,trivial⟩
   | false =>
    simp only[bst]at hq';subst hq';rw[hat];exact n9 _ _ hz1
 have hat:a51 f m z=y:=by unfold a51;rw[hy]
 have hhas:a6t f m=true:=by unfold a6t;rw[hy]
 refine⟨_,hrun, ?_⟩
 cases cm with
 | true =>
  simp only[bst]at hq';subst hq';rw[hat,hhas];exact⟨[v, .bool true],rfl,hR,⟨rfl,rfl⟩,trivial⟩
 | false =>
  simp only[bst]at hq';subst hq';rw[hat];exact hR
def b66(hE:d7 P E){ex:Bool}(h:ah w0 nt c s a w){o:Oper}(hq':hq E ex s.o (ev s) o.op=some out)(hp:out.pre):
 ∃v,(execOp a.eval o).run P w=.ok (.value v) w/\ar c s.o out.val v:=by
 cases ho:o.op<;>rw[ho]at hq'<;>simp only[hq]at hq'<;>try(cases hq';done)
 case move x =>
  cases hx:ev s x with
  |none=>rw[hx]at hq';cases hq'
  | some r =>
   rw[hx]at hq';simp only[btr,bst]at hq';subst hq';exact⟨_,by simp[execOp,ho],af h hx⟩
 case assign x =>
  cases hx:ev s x with
  |none=>rw[hx]at hq';cases hq'
  | some r =>
   rw[hx]at hq';simp only[btr,bst]at hq';subst hq';exact⟨_,by simp[execOp,ho],af h hx⟩
 case pick cc x y=>exact aqc ho h hq' hp
 case nilCheck x=>exact arh ho h hq' hp
 case load t x =>
  obtain⟨v,h1,h2⟩:=a8q hE h hq' hp;exact⟨v,by simp[execOp,ho,h1],h2⟩
 case fieldAddr t x k =>
  obtain⟨v,h1,h2⟩:=aaj hE h hq' hp;exact⟨v,by simp[execOp,ho,h1],h2⟩
 case field t x k =>
  obtain⟨v,h1,h2⟩:=al0 hE h hq';exact⟨v,by simp[execOp,ho,h1],h2⟩
 case indexAddr t x i =>
  obtain⟨v,h1,h2⟩:=aal hE h hq' hp;exact⟨v,by simp[execOp,ho,h1],h2⟩
 case lookup t x i cm =>
  obtain⟨v,h1,h2⟩:=ahs hE h hq' hp;exact⟨v,by simp[execOp,ho,h1],h2⟩
 case index t x i =>
  obtain⟨v,h1,h2⟩:=akz hE h hq' hp;exact⟨v,by simp[execOp,ho,h1],h2⟩
 case binOp op t x y ty =>
  obtain ⟨v,h1,h2⟩:∃v,(do eqGuard op t x y (a.eval x) (a.eval y);binOp op t (a.eval x) (a.eval y):Sem Value).run P w=.ok v w/\ar c s.o out.val v:=by
   split at hq'
   · rename_i r hr
     simp only[bst]at hq';subst hq';exact age hE h hr hp
   split at hq'
   · rename_i r hr
     simp only[bst]at hq';subst hq';exact ahg hE h hr hp
   exact ari hE h hq' hp
  refine⟨v, ?_,h2⟩;unfold execOp;simp only[ho];rw[bu3,h1];rfl
 case unOp op t x =>
  obtain⟨v,h1,h2⟩:=axi (P:=P) h hq' hp;exact⟨v,by simp[execOp,ho,h1],h2⟩
 case convert src dst x =>
  obtain⟨v,h1,h2⟩:=an5 hE h hq' hp;exact⟨v,by simp[execOp,ho,h1],h2⟩
 case extract x i =>
  obtain⟨v,h1,h2⟩:=afx (P:=P) h hq';exact⟨v,by simp[execOp,ho,h1],h2⟩
 case slice t x lo hi mx =>
  obtain ⟨v,h1,h2⟩:∃v,(Instr.sliceAt t (a.eval x) (lo.map a.eval) (hi.map a.eval) (mx.map a.eval)).run P w=.ok v w/\ar c s.o out.val v:=by
   split at hq'
   · rename_i r hr
     simp only[bst]at hq';subst hq';exact a68 hE h hr hp
   exact arz hE h hq' hp
  exact⟨v,by simp[execOp,ho,h1],h2⟩
 case makeFunc fn first caps =>
  obtain⟨v,h1,h2⟩:=als (P:=P) h hq';exact⟨v,by simp[execOp,ho,h1],h2⟩
 case build t parts =>
  obtain⟨v,h1,h2⟩:=al1 hE h hq';exact⟨v,by simp[execOp,ho,h1],h2⟩
 case call cl =>
  split at hq'<;>try(cases hq';done)
  rename_i b hb
  have hrun:∀v,(builtin b cl.argTypes o.type (cl.args.map fun | .const _=>true|_=>false) (cl.args.map a.eval)).run P w=.ok (.value v) w->(execOp a.eval o).run P w=.ok (.value v) w:=by
   intro v hv;unfold execOp;simp only[ho,resolve,hb,bu3,buh,bth,invoke];exact hv
  split at hq'
  · rename_i r hr
    simp only[bst]at hq';subst hq';obtain⟨v,h1,h2⟩:=arv (ty:=o.type) (cs:=cl.args.map fun | .const _=>true|_=>false) hE h hr;exact⟨v,hrun v (by rw[<- bvp,bvf,bvf]at h1;exact h1),h2⟩
  obtain⟨v,h1,h2⟩:=aho (ty:=o.type) (cs:=cl.args.map fun | .const _=>true|_=>false) hE h hq' hp;exact⟨v,hrun v (by rw[<- bvp,bvf,bvf]at h1;exact h1),h2⟩
end
end
end
end Go.Hx
