/- A part of the proof: Hx7 Hx8. -/
import Derived.Maps.AppendAt
import Derived.WideMake
import Derived.Test.YtnlcekpflogjkaaGreatDoorTy05
set_option linter.all false
namespace Go.Hx
section
open Go.RowKit
def aa4(e:Ev)(sz n:Nat):List (Nat×Operand)->List HV->Option (List HV):=fun parts cells=>it e ((List.range n).map fun i=>(i*sz,sz)) cells parts
def md:List HV->Option (List PV)
 | []=>some []
 | .p x::r=>match md r with|some l=>some (x::l)|none=>none
 |_::_=>none
def t7 {c:Ctx} {o:au}:∀{l:List HV} {us:List Value} {ps:List PV},bf c o l us->md l=some ps->fl c.imm ps us
 | [],[],ps,_,h=>by simp[md]at h;subst h;trivial
 | .p x::r,u::us,ps,hr,h=>by
  simp only[md]at h;split at h<;>try(cases h;done)
  rename_i l hl;simp only[bst]at h;subst h;exact⟨hr.1,t7 hr.2 hl⟩
 | .ref _ _::_,_,_,_,h=>by simp[md]at h
 | .ptr _ _::_,_,_,_,h=>by simp[md]at h
 | .eptr _ _ _ _::_,_,_,_,h=>by simp[md]at h
 | .win _ _ _ _::_,_,_,_,h=>by simp[md]at h
 | .clo _ _ _::_,_,_,_,h=>by simp[md]at h
 | .row _ _ _::_,_,_,_,h=>by simp[md]at h
 | .rptr _ _ _ _ _::_,_,_,_,h=>by simp[md]at h
 | .pin _ _ _ _::_,_,_,_,h=>by simp[md]at h
 | [],_::_,_,hr,_=>hr.elim
 | .p _::_,[],_,hr,_=>hr.elim
def an1 (f:Nat->List Nat):Nat->List Nat
 |0=>[]
 |n+1=>an1 f n++f n
def apa{f:Nat->List Nat}{k:Nat}:∀{n:Nat},k∈an1 f n<->∃i,i<n/\k∈f i
 |0=>by simp[an1]
 | n + 1=>by
  simp only[an1,btd,apa (n:=n)];constructor
  · rintro (⟨i,h1,h2⟩|h)
    · exact⟨i,by omega,h2⟩
    exact⟨n,by omega,h⟩
  rintro⟨i,h1,h2⟩;by_cases h:i=n
  · subst h;exact .inr h2
  exact .inl ⟨i,by omega,h2⟩
def HV.ids:HV->List Nat
 | .p _=>[]
 | .ref id _=>[id]
 | .ptr id _=>[id]
 | .eptr id _ _ _=>[id]
 | .win id _ _ _=>[id]
 | .clo _ k caps=>an1 (fun i=>(caps i).ids) k
 | .row id _ _=>[id]
 | .rptr id _ _ _ _=>[id]
 | .pin id _ _ _=>[id]
def ji:List HV->List Nat
 | []=>[]
 |h::r=>h.ids++ji r
theorem HV.men_ids' {h:HV} {k:Nat}:h.men k<->k∈h.ids:=by
 induction h with
 | clo g n caps ih =>
  simp only[HV.men,HV.ids,apa];exact exists_congr fun i=>and_congr Iff.rfl (ih i)
 |_=>simp[HV.men,HV.ids]
theorem HV.men_ids{h:HV}{k:Nat}:h.men k->k∈h.ids:=HV.men_ids'.1
def ot:∀{l:List HV} {k:Nat},(∃h∈l,h.men k)->k∈ji l
 | h::r,k,⟨x,hx,hm⟩=>by
  rcases bt7.1 hx with rfl|hx
  · exact btg _ (HV.men_ids hm)
  exact btv _ (ot ⟨x,hx,hm⟩)
def idsL_mem':∀{l:List HV} {k:Nat},k∈ji l->∃h∈l,h.men k
 | h::r,k,hk=>by
  rcases btd.1 hk with hk|hk
  · exact⟨h,by simp,HV.men_ids'.2 hk⟩
  obtain⟨x,hx,hm⟩:=idsL_mem' hk;exact⟨x,by simp[hx],hm⟩
structure New where
 pre:Prop
 val:HR
 ob:a7
def aw1 (t:TypeId) (z:List Value):Option TypeId :=
 match bap with
 | some (T,e) =>
  match Nat.beq t T,z with
  |true,[.pointer none, .slice none 0 0]=>some e
  |_,_=>none
 |none=>none
def axk{t e:TypeId}{z:List Value}(h:aw1 t z=some e):z=[.pointer none, .slice none 0 0]:=by
 unfold aw1 at h;split at h
 · split at h
   · rfl
   cases h
 cases h
def ha(E:Env)(e:Ev)(id:Nat):Op->Option New
 | .alloc t =>
  match E t with
  | some i =>
   match i.zero with
   | some z =>
    match aw1 t z with
    |some e=>some ⟨True, .v (.one (.ref id 0)), .bld true t e []⟩
    |none=>match qg z with|true=>some ⟨True, .v (.one (.ptr id 0)), .box (z.map fun c=>.p (lp c))⟩|false=>none
   |none=>none
  |none=>none
 | .box _ x =>
  match e x with
  |some (.v c)=>some ⟨True, .v (.one (.ptr id 0)), .box c.cells⟩
  |_=>none
 | .buildSlice t n parts =>
  match E t with
  | some i =>
   match i.k with
   | .slice el =>
    match E el with
    | some ei =>
     match ei.zero with
     | some z =>
      match qg z,decide (z.length=ei.size/\0<ei.size/\n*ei.size<=16777216),aa4 e ei.size n parts.toList ((List.range (n*ei.size)).map fun k=>.p (lp (z.getD (k%ei.size) (.bool false)))) with
      | true,true,some l =>
       match md l with
       |some ps=>some ⟨True, .v (.one (.ref id n)), .arr true ei.size el n fun i j=>ps.getD (i*ei.size+j) .any⟩
       |none=>some ⟨True, .v (.one (.ref id n)), .arrh ei.size el n (ji l) fun i j=>l.getD (i*ei.size+j) (.p .any)⟩
      |_,_,_=>none
     |none=>none
    |none=>none
   |_=>none
  |none=>none
 | .makeMap t r =>
  match E t,r with
  | some i,none =>
   match i.k with
   | .map kt _ =>
    match E kt with
    |some ki=>match ade ki.k with|some kk=>some ⟨True, .v (.one (.ref id 0)), .mp kk 0 fun _=>none⟩|none=>none
    |none=>none
   |_=>none
  |_,_=>none
 | .makeSlice t l cp =>
  match E t,e l,e cp with
  | some i,some (.v (.one (.p (.raw (.int _ n))))),some (.v (.one (.p (.raw (.int _ m))))) =>
   match i.k with
   | .slice el =>
    match E el with
    | some ei =>
     match ei.zero with
     | some z =>
      match qg z,decide (z.length=ei.size/\0<ei.size) with
      |true,true=>some ⟨0<=n/\n<=m/\m<=9223372036854775807/\(ei.bytes:Int)*m<=281474976710656, .v (.one (.ref id n.toNat)), .arr true ei.size el n.toNat fun _ j=>lp (z.getD j (.bool false))⟩
      |_,_=>none
     |none=>none
    |none=>none
   |_=>none
  |_,_,_=>none
 |_=>none
section
variable {P:Program}{E:Env}{w0:World}{nt:Nat}{c:Ctx}{s:S}{a:Act}{w:World}
def ad5{id:Nat}(hm:NM s id){x:Operand}{r:HR}(hx:ev s x=some r):¬r.men id:=by
 cases x with
 |tmp d=>exact hm.1 d r hx
 | const v =>
  simp only[ev,aez]at hx;split at hx
  · split at hx<;>try(cases hx;done)
    simp only[bst]at hx;subst hx;rintro⟨h,hh,hmn⟩;obtain⟨u,_,rfl⟩:=bti.1 hh;exact hmn
  · cases hx
  simp only[bst]at hx;subst hx;exact fun hf=>hf
 | global g =>
  simp only[ev]at hx;split at hx
  · simp only [bst]at hx
    subst hx;exact fun hf=>hf
  cases hx
 | func f =>
  simp only[ev,bst]at hx;subst hx;exact fun hf=>hf
def b05(h:ah w0 nt c s a w)(id:Nat)(hm:NM s id)(hn:s.o id=none)(l:List HV)(C:Array Value)(t:TypeId)(hl:∀k,(∃x∈l,x.men k)->k≠id)(hr:bf c s.o l C.toList) :
 ∃c',c'.old=c.old/\ah w0 nt c' (s.setO id (some (.box l))) a (w.alloc (.cells C t))/\ar c' (s.setO id (some (.box l))).o (.v (.one (.ptr id 0))) (.pointer (some ⟨w.heap.size,0,none⟩)):=by
 refine⟨_,(by rfl),h.fresh id hm hn (.box l) (w.alloc (.cells C t)) (.pointer (some ⟨w.heap.size,0,none⟩)) (zt w.heap.size) (Grw.alloc w _ none) (fun b hb=>bwe (Eq.symm hb)) ⟨w.heap.size,C,t,by simp,by simp,bsx _,heap_alloc_new w _, ?_⟩,rfl,fun ob d hob=>by simp[S.setO]at hob;subst hob;simp[a7.dim],fun l' _=>⟨w.heap.size,by simp,rfl⟩⟩
 exact bf.evo (c:=c) (o:=s.o) (c':={ old:=c.old,imm:=c.imm,tab:=c.tab,own:=fun k=>if k=id then Value.pointer (some ⟨w.heap.size,0,none⟩)else c.own k,blk:=fun k=>if k=id then zt w.heap.size else c.blk k,rows:=c.rows })
  (o':=(s.setO id (some (a7.box l))).o) (Imm.le.refl c.imm) (fun k hk=>by
   have hne:=hl k hk
   exact Evo.of_same (by simp[S.setO,hne]) (by simp[hne])) hr
def ata {i j sz:Nat} (hj:j<sz):(i*sz+j)/sz=i/\(i*sz+j)%sz=j:=by
 constructor
 · rw[Nat.add_comm,Nat.add_mul_div_right _ _ bww,Nat.div_eq_of_lt hj,btk]
 rw[Nat.add_comm,Nat.add_mul_mod_self_right,bwt hj]
def b0w(h:ah w0 nt c s a w)(id:Nat)(hm:NM s id)(hn:s.o id=none)(sz:Nat)(el:TypeId)(n cap:Nat)(f:Nat->Nat->PV)(C:Array Value)(hsz:0<sz)(hcap:n<=cap)(hmax:cap<=maxLen)(hC:C.size=cap*sz)
 (hr:∀i j,i<n->j<sz->∃x,C.toList[i*sz+j]? = some x/\aq c.imm (f i j) x) :
 ∃c',c'.old=c.old/\ah w0 nt c' (s.setO id (some (.arr true sz el n f))) a (w.alloc (.cells C el))/\ar c' (s.setO id (some (.arr true sz el n f))).o (.v (.one (.ref id n))) (.slice (some ⟨w.heap.size,0,none⟩) n cap):=by
 refine⟨_,(by rfl),h.fresh id hm hn (.arr true sz el n f) (w.alloc (.cells C el)) (.slice (some ⟨w.heap.size,0,none⟩) n cap) (ew (.slice (some ⟨w.heap.size,0,none⟩) n cap)) (Grw.alloc w _ none) (fun b hb=>by simp[ew,cu]at hb;omega) ⟨hsz,by omega, .inl ⟨by simp,C.toList.take (n*sz), ?_,fun i j hi hj=>?_⟩⟩,rfl,fun l=>by simp[S.setO],fun ob2 s2 e2 n2 ho2 hd2=>?_⟩
 · refine ⟨?_, .inr ⟨w.heap.size,cap,C,by simp,bsx _,heap_alloc_new w _,hcap,hmax,hC,rfl⟩⟩
   have:n*sz<=cap*sz:=bt9 _ hcap;rw[bt4,bu2,hC,btz this]
 · obtain ⟨x,hx,hxr⟩:=hr i j hi hj
   refine⟨x, ?_,hxr⟩
   have:i*sz+j<n*sz:=by
    have:(i+1)*sz<=n*sz:=bt9 _ bww;rw[bu6]at this;omega
   rw[btx,if_pos this];exact hx
 simp only[S.setO,if_true,bst]at ho2;subst ho2;simp only[a7.dim,bst,bt2]at hd2;obtain⟨rfl,rfl,rfl⟩:=hd2;exact⟨bsw _,fun _=>by simp⟩
def bet(h:ah w0 nt c s a w)(id:Nat)(hm:NM s id)(hn:s.o id=none)(sz:Nat)(el:TypeId)(n cap:Nat)(ms:List Nat)(f:Nat->Nat->HV)(C:Array Value)(hsz:0<sz)(hcap:n<=cap)(hmax:cap<=maxLen)(hC:C.size=cap*sz)
 (hms:∀i j k,i<n->j<sz->(f i j).men k->k∈ms) (hid:id∉ms) (hr:∀i j,i<n->j<sz->∃x,C.toList[i*sz+j]? = some x/\bj c s.o (f i j) x) :
 ∃c',c'.old=c.old/\ah w0 nt c' (s.setO id (some (.arrh sz el n ms f))) a (w.alloc (.cells C el))/\ar c' (s.setO id (some (.arrh sz el n ms f))).o (.v (.one (.ref id n))) (.slice (some ⟨w.heap.size,0,none⟩) n cap):=by
 refine⟨_,(by rfl),h.fresh id hm hn (.arrh sz el n ms f) (w.alloc (.cells C el)) (.slice (some ⟨w.heap.size,0,none⟩) n cap) (ew (.slice (some ⟨w.heap.size,0,none⟩) n cap)) (Grw.alloc w _ none) (fun b hb=>by simp[ew,cu]at hb;omega) ⟨hsz,by omega,hms, .inl ⟨by simp,C.toList.take (n*sz), ?_,fun i j hi hj=>?_⟩⟩,rfl,fun l=>by simp[S.setO],fun ob2 s2 e2 n2 ho2 hd2=>?_⟩
 · refine ⟨?_, .inr ⟨w.heap.size,cap,C,by simp,bsx _,heap_alloc_new w _,hcap,hmax,hC,rfl⟩⟩
   have:n*sz<=cap*sz:=bt9 _ hcap;rw[bt4,bu2,hC,btz this]
 · obtain ⟨x,hx,hxr⟩:=hr i j hi hj
   refine⟨x, ?_, ?_⟩
   · have:i*sz+j<n*sz:=by
      have:(i+1)*sz<=n*sz:=bt9 _ bww;rw[bu6]at this;omega
     rw[btx,if_pos this];exact hx
   refine bj.evo (c:=c) (o:=s.o) (Imm.le.refl c.imm) (fun k hk=>?_) hxr;have hne:k≠id:=by rintro rfl;exact hid (hms i j k hi hj hk)
   exact Evo.of_same (by simp[S.setO,hne]) (by simp[hne])
 simp only[S.setO,if_true,bst]at ho2;subst ho2;simp only[a7.dim,bst,bt2]at hd2;obtain⟨rfl,rfl,rfl⟩:=hd2;exact⟨bsw _,fun _=>by simp⟩
def ayr{e:Ev}{id:Nat}(he:∀x r,e x=some r->¬r.men id)(places:List (Nat×Nat)):∀(parts:List (Nat×Operand)) (cells l:List HV),it e places cells parts=some l->(∀x∈cells,¬x.men id)->∀x∈l,¬x.men id:=by
 intro parts
 induction parts with
 |nil=>intro cells l h hc;simp[it]at h;rw[<- h];exact hc
 | cons p r ih =>
  intro cells l h hc;obtain⟨i,x⟩:=p;simp only[it]at h;split at h<;>try(cases h;done)
  rename_i off size cc hpl hx;split at h<;>try(cases h;done)
  refine ih _ _ h fun y hy=>?_;simp only[bo,bts,btd]at hy
  rcases hy with hy|hy|hy
  · exact hc y (bvg hy)
  · have:=he x _ hx
    intro hm;apply this
    cases cc with
    |one hh=>simp only[HC.cells,bte]at hy;subst hy;exact hm
    |agg l=>exact⟨y,hy,hm⟩
  exact hc y (List.mem_of_mem_drop hy)
def fillH_sound' (h:ah w0 nt c s a w)(places:List (Nat×Nat))(place:Nat->Option (Nat×Nat))(hpl:∀i p,places[i]? = some p->place i=some p):∀(parts:List (Nat×Operand)) (cells:List HV) (us:List Value) (l:List HV),bf c s.o cells us->it (ev s) places cells parts=some l ->
 ∃vs:List Value,Instr.fill place us.toArray (parts.map fun p=>(p.1,a.eval p.2))=some vs.toArray/\bf c s.o l vs:=by
 intro parts
 induction parts with
 | nil =>
  intro cells us l hc hf;simp only[it,bst]at hf;subst hf;exact⟨us,by simp[Instr.fill],hc⟩
 | cons p r ih =>
  intro cells us l hc hf;obtain⟨i,x⟩:=p;have hf0:=hf;simp only[it]at hf;split at hf<;>try(cases hf;done)
  rename_i off size cc hplc hx;split at hf<;>try(cases hf;done)
  rename_i h1 h2;have h1:=of_decide_eq_true h1;have h2:=of_decide_eq_true h2;have hu:fu c s.o cc (a.eval x):=af h hx;obtain⟨hcl,hsz⟩:=mr hu;have hset:bf c s.o (bo cells off cc.cells) (us.take off++(a.eval x).cells.toList++us.drop (off+cc.cells.length)):=((hc.take off).append hcl).append (hc.drop _);obtain⟨vs,hv,hr⟩:=ih _ _ l hset hf;obtain⟨vs1,hv1,_⟩:=x9 h places [(i,x)] cells us (bo cells off cc.cells) hc (by simp only[it,hplc,hx];simp[h1,h2]);refine⟨vs, ?_,hr⟩;simp only[buf,List.map_nil,Instr.fill,hplc]at hv1;simp only[buf,Instr.fill,hpl i _ hplc];have hlen:=hc.length
  have hb:¬(decide ((a.eval x).cells.size≠size)||decide (off+(a.eval x).cells.size > us.toArray.size))=true:=by
   simp only[bud,decide_eq_true_eq,bu0,not_or];omega
  rw[if_neg hb]at hv1 ⊢;have hfold:=a74 off (a.eval x).cells.toList 0 us bxc;simp only[bur,bu2]at hfold
  have hz:(a.eval x).cells.zipIdx.foldl (fun cs (p:Value×Nat)=>cs.setIfInBounds (off+p.2) p.1) us.toArray=((a.eval x).cells.toList.zipIdx 0).foldl (fun(cs:Array Value) (p:Value×Nat)=>cs.setIfInBounds (off+p.2) p.1) us.toArray:=by
   rw[<- Array.foldl_toList];simp
  rw[hz,hfold];rw[hsz]at hv;exact hv
def b3m(hE:d7 P E)(h:ah w0 nt c s a w){o:Oper}{id:Nat}{nw:New}(hq':ha E (ev s) id o.op=some nw)(hp:nw.pre)(hm:NM s id)(hn:s.o id=none) :
 ∃v w' c',(execOp a.eval o).run P w=.ok (.value v) w'/\c'.old=c.old/\ah w0 nt c' (s.setO id (some nw.ob)) a w'/\ar c' (s.setO id (some nw.ob)).o nw.val v:=by
 cases ho:o.op<;>rw[ho]at hq'<;>simp only[ha]at hq'<;>try(cases hq';done)
 case alloc t =>
  split at hq'<;>try(cases hq';done)
  rename_i i hi;split at hq'<;>try(cases hq';done)
  rename_i z hz;split at hq'
  · rename_i e8 hb8
    simp only[bst]at hq';subst hq';have hz2:=axk hb8;subst hz2;obtain⟨ii,d,h1,h2,h3,h4,h5,h6,_⟩:=b5 (hE t i hi);rw[hz]at h6
    cases hiz:ii.zero with
    |none=>rw[hiz]at h6;cases h6
    | some zv =>
     rw[hiz]at h6;simp only[btr,bst]at h6;have hzc:zv.cells=#[.pointer none, .slice none 0 0]:=Array.ext' h6.symm
     have hr:=h.fresh id hm hn (.bld true t e8 []) (w.alloc (.cells zv.cells t)) (.pointer (some ⟨w.heap.size,0,none⟩)) (zt w.heap.size) (Grw.alloc w _ none) (fun b hb=>bwe (Eq.symm hb))
      ⟨w.heap.size, .pointer none, .slice none 0 0,by simp,bsx _,by rw[hzc];exact heap_alloc_new w _, .inl rfl,bwo _ _ _ _,by simp[cu],(fun k=>by simp[cu,zt]),fun _=>⟨rfl,rfl⟩⟩
     refine⟨.pointer (some ⟨w.heap.size,0,none⟩),_,_, ?_,(by rfl),hr,rfl,fun l=>by simp[S.setO],fun ob2 s2 e2 n2 ho2 hd2=>?_⟩
     · simp[execOp,ho,Instr.alloc,zeroValue,typeInfo,h1,hiz,newVar,newRow]
     simp only[S.setO,if_true,bst]at ho2;subst ho2;simp only[a7.dim,bst,bt2]at hd2;obtain⟨rfl,rfl,rfl⟩:=hd2;exact⟨bsw _,fun _=>by simp⟩
  split at hq'<;>try(cases hq';done)
  rename_i hone;simp only[bst]at hq';subst hq';obtain⟨ii,d,h1,h2,h3,h4,h5,h6,_⟩:=b5 (hE t i hi);rw[hz]at h6
  cases hiz:ii.zero with
  |none=>rw[hiz]at h6;cases h6
  | some zv =>
   rw[hiz]at h6;simp only[btr,bst]at h6
   obtain ⟨c',hold,hr,hv⟩:=b05 h id hm hn (z.map fun c=>.p (lp c)) zv.cells t (fun k ⟨x,hx,hmn⟩=>by
    obtain⟨u,_,rfl⟩:=bti.1 hx
    exact hmn.elim) (by rw[<- h6];exact vk c s.o z (jm hone))
   refine⟨_,_,c', ?_,hold,hr,hv⟩;simp[execOp,ho,Instr.alloc,zeroValue,typeInfo,h1,hiz,newVar,newRow]
 case box t x =>
  split at hq'<;>try(cases hq';done)
  rename_i cc hx;simp only[bst]at hq';subst hq';have hu:=af h hx;obtain⟨hcl,_⟩:=mr (x:=cc) hu;have hnm:=ad5 hm hx
  obtain ⟨c',hold,hr,hv⟩:=b05 h id hm hn cc.cells (a.eval x).cells t (fun k ⟨y,hy,hmn⟩ e=>by
   subst e;apply hnm
   cases cc with
   |one hh=>simp only[HC.cells,bte]at hy;subst hy;exact hmn
   |agg l=>exact⟨y,hy,hmn⟩) hcl
  refine⟨_,_,c', ?_,hold,hr,hv⟩;simp[execOp,ho,Instr.box,newVar,newRow]
 case buildSlice t n parts =>
  split at hq'<;>try(cases hq';done)
  rename_i i hi;split at hq'<;>try(cases hq';done)
  rename_i el hel;split at hq'<;>try(cases hq';done)
  rename_i ei hei;split at hq'<;>try(cases hq';done)
  rename_i z hz;split at hq'<;>try(cases hq';done)
  rename_i l hone hdec hfl;obtain⟨hzl,hsz,hbig⟩:=of_decide_eq_true hdec;obtain⟨ii,d,h1,h2,h3,_⟩:=b5 (hE t i hi);obtain rfl:=eo (h3.symm.trans hel);obtain⟨ie,de,e1,e2,e3,e4,e5,e6,_⟩:=b5 (hE el ei hei);rw[hz]at e6
  cases hiz:ie.zero with
  |none=>rw[hiz]at e6;cases e6
  | some zv =>
   rw[hiz]at e6;simp only[btr,bst]at e6;have hzz:zv.cells=z.toArray:=by rw[e6]
   have hinit:bf c s.o ((List.range (n*ei.size)).map fun k=>HV.p (lp (z.getD (k%ei.size) (.bool false)))) ((List.range (n*ei.size)).map fun k=>z.getD (k%ei.size) (.bool false)):=by
    refine bf.of_get bx0 fun k x u hx hu=>?_;simp only[btf]at hx hu
    cases hk:(List.range (n*ei.size))[k]? with
    |none=>rw[hk]at hx;cases hx
    | some kk =>
     rw[hk]at hx hu;simp only[btr,bst]at hx hu;subst hx hu;refine n9 _ _ (jm hone _ ?_);have:kk%ei.size<z.length:=by rw[hzl];exact Nat.mod_lt _ hsz
     rw[bsv,bsu this];exact bta this
   obtain ⟨vs,hv,hr⟩:=fillH_sound' h _ (fun i=>some (i*ei.size,ei.size)) (fun i p hp=>by
    simp only[btf]at hp
    cases hk:(List.range n)[i]? with
    |none=>rw[hk]at hp;cases hp
    | some k =>
     rw[hk]at hp;have:=buw.1 hk;obtain⟨hlt,hke⟩:=this;simp at hke;subst hke
     simpa using hp) parts.toList _ _ l hinit hfl
   have hlen:vs.length=n*ei.size:=by
    have h1:=hr.length
    have h2:l.length=n*ei.size:=by
     have key:∀(parts:List (Nat×Operand)) (cells l:List HV),it (ev s) ((List.range n).map fun i=>(i*ei.size,ei.size)) cells parts=some l->l.length=cells.length:=by
      intro parts
      induction parts with
      |nil=>intro cells l h;simp[it]at h;rw[h]
      | cons p r ih =>
       intro cells l h;obtain⟨i,x⟩:=p;simp only[it]at h;split at h<;>try(cases h;done)
       split at h<;>try(cases h;done)
       rename_i g1 g2;have g1:=of_decide_eq_true g1;have g2:=of_decide_eq_true g2;rw[ih _ _ h];simp only[bo,bsy,bt4,bvh];omega
     rw[key _ _ _ hfl];simp
    omega
   have hmaxn:n<=maxLen:=by
    have:n*1<=n*ei.size:=Nat.mul_le_mul_left _ hsz;simp only[maxLen];omega
   have hll:l.length=n*ei.size:=by rw[<- hr.length,hlen]
   have hs':(sizeOf el).run P w=.ok ei.size w:=ef (hE el ei hei) w;have hzv:(zeroValue el).run P w=.ok zv w:=by simp[zeroValue,typeInfo,e1,hiz]
   have hparts:(Array.map (fun(x:Nat×Operand)=>match x with|(i,x)=>(i,a.eval x)) parts).toList=parts.toList.map fun p=>(p.1,a.eval p.2):=by simp
   have hfin:∀A:Array Value,A=((List.range (n*ei.size)).map fun k=>z.getD (k%ei.size) (.bool false)).toArray ->
    Instr.fill (fun i=>some (i*ei.size,ei.size)) A (Array.map (fun(x:Nat×Operand)=>match x with|(i,x)=>(i,a.eval x)) parts).toList=some vs.toArray:=by
    intro A hA;rw[hA,hparts];exact hv
   have hexec:(execOp a.eval o).run P w=.ok (.value (.slice (some ⟨w.heap.size,0,none⟩) n n)) (w.alloc (.cells vs.toArray el)):=by
    unfold execOp;simp only[ho,Instr.buildSlice,bu3,run_underlying h2 w,bth,hs',Sem.run_ite];rw[if_neg bww];by_cases hne:n*ei.size=0
    · simp only [if_pos hne,buh,bth]
      rw[hfin _ (by rw[hne];simp)];simp[newRow]
    simp only[if_neg hne,hzv,bth,buh]
    rw [hfin _ (by
     apply Array.ext';simp only[bvp,Array.toList_range];apply bvc;intro k hk;have:k%ei.size<z.length:=by rw[hzl];exact Nat.mod_lt _ hsz
     simp only[hzz,bu0,hzl]
     simp[this])]
    simp[newRow]
   split at hq'
   · rename_i ps hps
     simp only[bst]at hq';subst hq';have hP:=t7 hr hps
     obtain ⟨c',hold,hr',hv'⟩:=b0w h id hm hn ei.size el n n (fun i j=>ps.getD (i*ei.size+j) .any) vs.toArray hsz (bsw _) hmaxn (by simp[hlen]) (fun i j hi hj=>by
      have hlt:i*ei.size+j<n*ei.size:=by
       have:(i+1)*ei.size<=n*ei.size:=bt9 _ bww;rw[bu6]at this;omega
      have hplen:ps.length=n*ei.size:=by rw[<- hP.length,hlen]
      obtain⟨u,hu,hru⟩:=hP.get (i*ei.size+j) ps[i*ei.size+j] (bsu bww)
      exact⟨u,by simpa using hu,by simpa [List.getD,bsu (show i*ei.size+j<ps.length by omega)]using hru⟩)
     exact⟨_,_,c',hexec,hold,hr',hv'⟩
   simp only[bst]at hq';subst hq'
   have hmem:∀i j,i<n->j<ei.size->∃hlt:i*ei.size+j<l.length,l.getD (i*ei.size+j) (.p .any)=l[i*ei.size+j]:=fun i j hi hj=>by
    have hlt:i*ei.size+j<l.length:=by
     have:(i+1)*ei.size<=n*ei.size:=bt9 _ bww;rw[bu6]at this;omega
    exact⟨hlt,by simp[List.getD,bsu hlt]⟩
   obtain ⟨c',hold,hr',hv'⟩:=bet h id hm hn ei.size el n n (ji l) (fun i j=>l.getD (i*ei.size+j) (.p .any)) vs.toArray hsz (bsw _) hmaxn (by simp[hlen]) (fun i j k hi hj hk=>by
    obtain⟨hlt,he⟩:=hmem i j hi hj;rw[he]at hk
    exact ot ⟨_,bta hlt,hk⟩) (fun hk=>by
    obtain⟨x,hx,hmx⟩:=idsL_mem' hk;refine ayr (e:=ev s) (id:=id) (fun x r hx=>ad5 hm hx) _ _ _ _ hfl (fun y hy=>?_) x hx hmx;obtain⟨u,_,rfl⟩:=bti.1 hy
    exact fun hf=>hf) (fun i j hi hj=>by
    obtain⟨hlt,he⟩:=hmem i j hi hj;rw[he];obtain⟨u,hu,hru⟩:=hr.get (i*ei.size+j) l[i*ei.size+j] (bsu hlt)
    exact⟨u,by simpa using hu,hru⟩)
   exact⟨_,_,c',hexec,hold,hr',hv'⟩
 case makeMap t r =>
  split at hq'<;>try(cases hq';done)
  rename_i i hi;split at hq'<;>try(cases hq';done)
  split at hq'<;>try(cases hq';done)
  split at hq'<;>try(cases hq';done)
  rename_i kk hkk;simp only[bst]at hq';subst hq'
  have hr:=h.fresh id hm hn (.mp kk 0 fun _=>none) (w.alloc (.map #[] 0)) (.map (some w.heap.size)) (zt w.heap.size) (Grw.alloc w _ none) (fun b hb=>bwe (Eq.symm hb))
   ⟨w.heap.size,#[],0,by simp,by simp,⟨bsx _,b7v hkk _⟩,heap_alloc_new w _,Go.MapKept.stamped_empty 0,by simp,by simp,(fun x hx=>by simp at hx),(fun key y hy=>by cases hy)⟩
  refine⟨.map (some w.heap.size),_,_, ?_,(by rfl),hr,rfl,fun l=>by simp[S.setO],fun ob2 s2 e2 n2 ho2 hd2=>?_⟩
  · simp[execOp,ho,Go.run_makeMap_plain]
  simp only[S.setO,if_true,bst]at ho2;subst ho2;simp only[a7.dim,bst,bt2]at hd2;obtain⟨rfl,rfl,rfl⟩:=hd2;exact⟨bsw _,fun _=>by simp⟩
 case makeSlice t l cp =>
  split at hq'<;>try(cases hq';done)
  rename_i i k n k2 m hi hl hc;split at hq'<;>try(cases hq';done)
  rename_i el hel;split at hq'<;>try(cases hq';done)
  rename_i ei hei;split at hq'<;>try(cases hq';done)
  rename_i z hz;split at hq'<;>try(cases hq';done)
  rename_i hone hdec;obtain⟨hzl,hsz⟩:=of_decide_eq_true hdec;simp only[bst]at hq';subst hq';obtain⟨p1,p2,p3,p4⟩:=hp;obtain⟨u1,_⟩:=af h hl;obtain⟨u2,_⟩:=af h hc;obtain⟨ii,d,h1,h2,h3,_⟩:=b5 (hE t i hi);obtain rfl:=eo (h3.symm.trans hel);obtain⟨ie,de,e1,e2,e3,e4,e5,e6,_⟩:=b5 (hE el ei hei);rw[hz]at e6
  cases hiz:ie.zero with
  |none=>rw[hiz]at e6;cases e6
  | some zv =>
   rw[hiz]at e6;simp only[btr,bst]at e6;have hzz:zv.cells=z.toArray:=by rw[e6]
   have hrun:=run_make (P:=P) w t el ie zv h2 e1 hiz k k2 n m p1 p2 (by rw[<- e5];exact p4) p3
   obtain ⟨c',hold,hr',hv'⟩:=b0w h id hm hn ei.size el n.toNat m.toNat (fun _ j=>lp (z.getD j (.bool false))) (madeCells zv.cells (m.toNat*ie.size)) hsz bww (by simp only[maxLen];omega) (by rw[size_madeCells,e4]) (fun i j hi hj=>by
    have hlt:i*ei.size+j<m.toNat*ei.size:=by
     have:(i+1)*ei.size<=m.toNat*ei.size:=bt9 _ bww;rw[bu6]at this;omega
    have hjz:j<z.length:=by omega
    refine⟨z[j], ?_, ?_⟩
    · simp only [madeCells,hzz,<- e4,bvp,Array.toList_range,btf,bu8 hlt,btr,bu0,hzl,(ata hj).2]
      simp[hjz]
    rw[bsv,bsu hjz]
    exact n9 _ _ (jm hone _ (bta hjz)))
   refine⟨_,_,c', ?_,hold,hr',hv'⟩;simp[execOp,ho,u1,u2,hrun]
end
end
section
open Go.RowKit
structure Upd where
 pre:Prop
 id:Nat
 ob:a7
def eu(f:Nat->Nat->PV)(r j:Nat)(ps:List PV):Nat->Nat->PV:=fun a b=>if a=r/\j<=b/\b<j+ps.length then ps.getD (b-j) .any else f a b
def jt(f:Nat->Nat->HV)(r j:Nat)(l:List HV):Nat->Nat->HV:=fun a b=>if a=r/\j<=b/\b<j+l.length then l.getD (b-j) (.p .any)else f a b
def sd(g:Nat->Nat->Nat->PV)(i r j:Nat)(ps:List PV):Nat->Nat->Nat->PV:=fun a=>if a=i then eu (g a) r j ps else g a
def m7 (E:Env) (o:au) (e:Ev) (t:TypeId) (addr v:Operand):Option Upd :=
 match E t,e v,e addr with
 | some i,some (.v cc),some (.v (.one (.ptr id off))) =>
  match o id with
  |some (.box l)=>match decide (cc.cells.length=i.size) with|true=>some ⟨off+i.size<=l.length,id, .box (bo l off cc.cells)⟩|false=>none
  |_=>none
 | some i,some (.v cc),some (.v (.one (.eptr id n r j))) =>
  match o id,md cc.cells with
  |some (.arr true s el n' f),some ps=>match decide (cc.cells.length=i.size) with|true=>some ⟨n'=n/\r<n/\j+i.size<=s,id, .arr true s el n' (eu f r j ps)⟩|false=>none
  |some (.arrh s el n' ms f),_=>match decide (cc.cells.length=i.size) with|true=>some ⟨n'=n/\r<n/\j+i.size<=s,id, .arrh s el n' (ji cc.cells++ms) (jt f r j cc.cells)⟩|false=>none
  |_,_=>none
 | some i,some (.v cc),some (.v (.one (.rptr id ri k r j))) =>
  match o id,md cc.cells with
  |some (.nest el et es n m g pd),some ps=>match decide (cc.cells.length=i.size) with|true=>some ⟨ri<n/\m ri=k/\r<k/\j+i.size<=es,id, .nest el et es n m (sd g ri r j ps) pd⟩|false=>none
  |_,_=>none
 |_,_,_=>none
def vh(f:MK->Option PV)(m:MK)(y:PV):MK->Option PV:=fun k=>bif k.same m then some y else f k
def a6h (o:au) (kk:KK) (m:MK) (y:PV):HV->Option Upd
 | .ref id _ =>
  match o id with
  |some (.mp kk' n f)=>some ⟨kk'.base=kk/\MK.ok kk m/\n<maxLen,id, .mp kk' (n+1) (vh f m y)⟩
  |_=>none
 |_=>none
def mf(E:Env)(o:au)(e:Ev)(t:TypeId)(x ix v:Operand):Option Upd :=
 match E t with
 | some i =>
  match i.k with
  | .map kt _ =>
   match E kt with
   | some ki =>
    match e x with
    | some (.v (.one h)) =>
     match ade ki.k,e ix,e v with
     | some kk,some (.v (.one (.p (.raw kv)))),some (.v (.one (.p y))) =>
      match awq kv with
      |some m=>a6h o kk m y h
      |none=>none
     |_,_,_=>none
    |_=>none
   |none=>none
  |_=>none
 |none=>none
def hs (E:Env) (o:au) (e:Ev):Op->Option Upd
 | .store t addr v=>m7 E o e t addr v
 | .mapUpdate t x ix v=>mf E o e t x ix v
 | .insert t x ix v=>mf E o e t x ix v
 |_=>none
def ny (w:World) (g:Nat) (cs:Array Value):Grw w (w.setRow g cs) (some g) :=
 ⟨⟨rfl,rfl,rfl,by simp,fun k _ hk=>setRow_other w g k cs (fun e=>hk (by rw[e]))⟩,bsw _⟩
section
variable {P:Program}{E:Env}{w0:World}{nt:Nat}{c:Ctx}{s:S}{a:Act}{w:World}
theorem a6r {α:Type} (l new:List α) (off:Nat) (h:off+new.length<=l.length):(l.take off++new++l.drop (off+new.length)).length=l.length:=by
 grind
theorem db {α:Type} (l new:List α) (off k:Nat) (h:off+new.length<=l.length) :
 (l.take off++new++l.drop (off+new.length))[k]? = if off<=k/\k<off+new.length then new[k-off]? else l[k]?:=by
 rw[bts,List.getElem?_append,bt4,btz bww]
 grind
theorem abd (hE:d7 P E) (h:ah w0 nt c s a w) {t:TypeId} {x ix v:Operand} {u:Upd} (hq':mf E s.o (ev s) t x ix v=some u) (hp:u.pre) :
 ∃w' c',(Instr.mapUpdate t (a.eval x) (a.eval ix) (a.eval v)).run P w=.ok () w'/\c'.old=c.old/\ah w0 nt c' (s.setO u.id (some u.ob)) a w':=by
 unfold mf at hq';split at hq'<;>try(cases hq';done)
 rename_i i hi;split at hq'<;>try(cases hq';done)
 rename_i kt et hmk;split at hq'<;>try(cases hq';done)
 rename_i ki hki;split at hq'<;>try(cases hq';done)
 rename_i hv hx;split at hq'<;>try(cases hq';done)
 rename_i kk kv y hkk hix hvv;split at hq'<;>try(cases hq';done)
 rename_i m hm;unfold a6h at hq';split at hq'<;>try(cases hq';done)
 rename_i id k0;split at hq'<;>try(cases hq';done)
 rename_i kk' n f hob;simp only[bst]at hq';subst hq';obtain⟨rfl,hok,hn⟩:=hp;obtain⟨ii,d,h1,h2,h3,_⟩:=b5 (hE t i hi)
 have ht:P.underlying t=some (.map kt et):=by
  rw[h2];have h4:=h3.symm.trans hmk;cases d<;>simp[iz]at h4
  grind
 obtain⟨K,hkey⟩:=aql hE hki hkk;obtain⟨b,es,clock,q1,q2,q3,q4,q5,q6,q7,q8,q9⟩:=h.objs id _ hob;obtain⟨_,_,g3⟩:=af h hx;obtain⟨g4,g5⟩:=g3 _ _ _ _ hob rfl;have hu:a.eval x=.map (some b):=by rw[g5 bww,q1]
 obtain⟨hu2,_⟩:=af h hix;have hu3:aq c.imm y (a.eval v):=af h hvv;obtain⟨l,hl⟩:=hkey m hok;have hmv:=aol hm;rw[hmv]at hl
 obtain ⟨es',clock',hrun,hst,hsz,hall,hnew,hold⟩:=akd (val:=a.eval v) K ht q4 bww q5 (fun x hx=>by
  obtain⟨key,y,r1,r2,_⟩:=q8 x hx;rw[r1]
  exact hkey key (MK.ok_base.2 (q9 key y r2).1)) hl
 rw[hu,hu2];have hblk:=Go.ChangeMaps.heap_setBlock_same q4 (.map es' clock')
 refine ⟨_,_,hrun,(by rfl),h.write id _ hob (.mp kk' (n+1) (vh f m y)) (Go.ChangeMaps.setBlock w b (.map es' clock')) (c.own id) (c.blk id) (some b) (by
  exact⟨⟨rfl,rfl,rfl,by simp[Go.ChangeMaps.setBlock],fun i _ hi=>Go.ChangeMaps.heap_setBlock_other q4 _ (fun e=>hi (by rw[e]))⟩,bsw _⟩) (fun b' hb'=>by cases hb';rw[q2];rfl)
  (.inr (.inr ⟨_, .mp kk' (n+1) (vh f m y),0,0,0,0,hob,rfl,by simp[S.setO],rfl,bsw _,fun _=>by simp,fun _ _ _ _ _ _ _ hb=>by cases hb⟩)) (fun b hb=>.inl hb)
  ⟨b,es',clock',by simpa using q1,by simpa using q2,q3,hblk,hst,by omega,by omega,fun x' hx'=>?_,fun key y' hy'=>?_⟩⟩
 · rcases hall x' hx' with⟨r1,r2⟩|⟨r1,r2⟩
   · obtain ⟨key,y0,t1,t2,t3⟩:=q8 x' r1
     refine⟨key,y0,t1, ?_,t3⟩
     have hne:key.same m=false:=by
      rw[btb];intro hs;rw[MK.same_iff.1 hs]at t1
      grind
     unfold vh
     grind
   refine⟨m,y,r1.trans hmv.symm, ?_,by rw[r2];exact hu3⟩;unfold vh;rw[MK.same_iff.2 rfl];rfl
 unfold vh at hy'
 cases hs:key.same m with
 | true =>
  rw[MK.same_iff.1 hs];obtain⟨x0,hx0,hk0⟩:=hnew;exact⟨MK.ok_base.1 hok,x0,hx0,hk0.trans hmv.symm⟩
 | false =>
  grind
theorem aba{w:World}{base el sz:Nat}{v:Value}{n g cap r j:Nat}{xs news:List Value}{cur:Array Value}(hxl:xs.length=n*sz)(hown:v=.slice (some ⟨g,0,none⟩) n cap)(hbase:base<=g)(hheap:w.heap[g]? = some (.cells cur el (0,0)))(hnc:n<=cap)(hcm:cap<=maxLen)(hcs:cur.size=cap*sz)(htake:cur.toList.take (n*sz)=xs)
 (hr:r<n) (hj:j+news.length<=sz):(w.setRow g (cur.toList.take (r*sz+j)++news++cur.toList.drop (r*sz+j+news.length)).toArray).ownsRow base el sz v n (xs.take (r*sz+j)++news++xs.drop (r*sz+j+news.length)) /\
 ∀(ps:List PV) (f:Nat->Nat->PV) (imm:Imm),fl imm ps news->(∀i j,i<n->j<sz->∃x,xs[i*sz+j]? = some x/\aq imm (f i j) x)->∀p q,p<n->q<sz->∃x,(xs.take (r*sz+j)++news++xs.drop (r*sz+j+news.length))[p*sz+q]? = some x/\aq imm (eu f r j ps p q) x:=by
 have hlt:(r+1)*sz<=n*sz:=bt9 _ bww;have hlt2:n*sz<=cap*sz:=bt9 _ hnc;rw[bu6]at hlt;refine⟨⟨?_, .inr ⟨g,cap,_,hown,hbase,setRow_heap w g cur _ el _ hheap,hnc,hcm, ?_, ?_⟩⟩,fun ps f imm hP h4 p q hp hq=>?_⟩
 · rw[a6r _ _ _ bww];exact hxl
 · grind
 · apply bvu
   intro k;have hcl':cur.toList.length=cap*sz:=by simpa using hcs
   rw[btx,List.toList_toArray];have e1:=db cur.toList news (r*sz+j) k (by rw[hcl'];omega);have e2:=db xs news (r*sz+j) k (by rw[hxl];omega);rw[e1,e2];by_cases hk:k<n*sz
   · rw [if_pos hk]
     grind
   rw[if_neg hk,if_neg bww]
   grind
 have e2:=db xs news (r*sz+j) (p*sz+q) (by rw[hxl];omega);rw[e2];have hpl:=hP.length
 have hpq:(r*sz+j<=p*sz+q/\p*sz+q<r*sz+j+news.length)<->(p=r/\j<=q/\q<j+ps.length):=by
  rw[hpl];constructor
  · rintro ⟨g1,g2⟩
    have:p=r:=by
     rcases bwp p r with hlt|heq|hgt
     · have:(p+1)*sz<=r*sz:=bt9 _ bww
       grind
     · exact heq
     have:(r+1)*sz<=p*sz:=bt9 _ bww
     grind
    grind
  grind
 unfold eu;by_cases hc:p=r/\j<=q/\q<j+ps.length
 · rw [if_pos (hpq.2 hc),if_pos hc]
   obtain⟨rfl,g1,g2⟩:=hc;obtain⟨u,hu',hru⟩:=hP.get (q-j) ps[q-j] (bsu bww);refine⟨u, ?_,by simpa [List.getD,bsu (show q-j<ps.length by omega)]using hru⟩;rw[show p*sz+q-(p*sz+j)=q-j by omega];exact hu'
 rw[if_neg (fun hh=>hc (hpq.1 hh)),if_neg hc];simp_all
def b4o(hE:d7 P E)(h:ah w0 nt c s a w){o:Oper}{u:Upd}(hq':hs E s.o (ev s) o.op=some u)(hp:u.pre) :
 ∃w' c',(execOp a.eval o).run P w=.ok .skip w'/\c'.old=c.old/\ah w0 nt c' (s.setO u.id (some u.ob)) a w':=by
 cases ho:o.op<;>rw[ho]at hq'<;>simp only[hs]at hq'<;>try(cases hq';done)
 case mapUpdate t x ix v =>
  obtain⟨w',c',h1,h2,h3⟩:=abd hE h hq' hp;exact⟨w',c',by simp[execOp,ho,h1],h2,h3⟩
 case insert t x ix v =>
  obtain⟨w',c',h1,h2,h3⟩:=abd hE h hq' hp;exact⟨w',c',by simp[execOp,ho,h1],h2,h3⟩
 case store t addr v =>
  have hexec:∀w',(Instr.storeAt t (a.eval addr) (a.eval v)).run P w=.ok () w'->(execOp a.eval o).run P w=.ok .skip w':=by
   intro w' hw;unfold execOp;simp[ho,hw]
  unfold m7 at hq';split at hq'<;>try(cases hq';done)
  · rename_i i cc id off hi hv had
    split at hq'<;>try(cases hq';done)
    rename_i l hl;split at hq'<;>try(cases hq';done)
    rename_i hdec;have hlen:=of_decide_eq_true hdec;simp only[bst]at hq';subst hq';have hp':off+i.size<=l.length:=hp;obtain⟨hcl,hsz⟩:=mr (x:=cc) (af h hv);obtain⟨_,_,h3⟩:=af h had;obtain⟨b,hb,hu⟩:=h3 l hl;obtain⟨b',C,e,h1,h1',h2,h4,h5⟩:=h.objs id _ hl;rw[hb]at h1;simp only[Value.pointer.injEq,bst,Addr.mk.injEq,and_true]at h1;subst h1;have hCl:=h5.length;have hst:=run_storeCells_at P b off e (a.eval v).cells.toList 0 C w h4 (by simp at hCl ⊢;omega) (hcl.oneCell);simp only[bur,bu2]at hst
    refine ⟨_,_,hexec _ ?_,(by rfl),h.write id _ hl (.box (bo l off cc.cells)) (w.setRow b (C.toList.take off++(a.eval v).cells.toList++C.toList.drop (off+(a.eval v).cells.size)).toArray) (c.own id) (c.blk id) (some b) (ny _ _ _) (fun b' hb'=>by cases hb';rw[h1'];rfl) (.inr (.inl ⟨l,bo l off cc.cells,hl,by simp[S.setO],by simp⟩)) (fun b hb=>.inl hb)
     ⟨b,_,e,by simpa using hb,by simpa using h1',h2,setRow_heap w b C _ e _ h4, ?_⟩⟩
    · have hs':(sizeOf t).run P w=.ok i.size w:=ef (hE t i hi) w
      have hne:¬((a.eval v).cells.size≠i.size):=by omega
      simp only[Instr.storeAt,hu,Instr.sureAddr,bu3,buh,bth,storeVar,hs',Sem.run_ite,if_neg hne];exact hst
    have:=(((h5.take off).append hcl).append (h5.drop (off+cc.cells.length)));rw[hsz]at this
    have h6:bf c s.o (bo l off cc.cells) (C.toList.take off++(a.eval v).cells.toList++C.toList.drop (off+(a.eval v).cells.size)):=by
     unfold bo;rw[hsz];exact this
    have h7:bf c s.o (bo l off cc.cells) ((C.toList.take off++(a.eval v).cells.toList++C.toList.drop (off+(a.eval v).cells.size)).toArray).toList:=h6;refine bf.evo (c:=c) (o:=s.o) ?_ (fun k _=>?_) h7
    · exact Imm.le.refl c.imm
    by_cases hk:k=id
    · subst hk
      exact .inr (.inl ⟨l,bo l off cc.cells,hl,by simp[S.setO],by simp⟩)
    exact Evo.of_same (by simp[S.setO,hk]) (by simp[hk])
  · rename_i i cc id n r j hi hv had
    split at hq'<;>try(cases hq';done)
    rotate_left
    · rename_i _ sz el n' ms f hob
      split at hq'<;>try(cases hq';done)
      rename_i hdec;have hlen:=of_decide_eq_true hdec;simp only[bst]at hq';subst hq';obtain⟨rfl,hr,hj⟩:=hp;obtain⟨hcl,hsz⟩:=mr (x:=cc) (af h hv);obtain⟨_,_,h3⟩:=af h had;obtain⟨b,off,cap,hb,hu⟩:=(h3 _ _ _ _ hob rfl).2 rfl hr;have hobj:=h.objs id _ hob;obtain⟨h0,h1,h1m,h5⟩:=hobj
      obtain ⟨h6,xs,h2,h4⟩:c.blk id=ew (c.own id)/\∃xs,w.ownsRow 0 el sz (c.own id) n' xs/\∀i j,i<n'->j<sz->∃x,xs[i*sz+j]? = some x/\bj c s.o (f i j) x:=by
       rcases h5 with h5|⟨h6,_⟩
       · exact h5
       omega
      obtain⟨hxl,hrow⟩:=h2
      rcases hrow with⟨hv0,_⟩|⟨g,cap',cur,hown,hbase,hheap,hnc,hcm,hcs,htake⟩
      · rw[hv0]at hb;cases hb
      rw[hown]at hb;simp only[Value.slice.injEq,bst,Addr.mk.injEq,and_true,true_and]at hb;obtain⟨⟨rfl,rfl⟩,rfl⟩:=hb;rw[btk]at hu;have hpl:cc.cells.length=i.size:=hlen;have hlt:(r+1)*sz<=n'*sz:=bt9 _ bww;have hlt2:n'*sz<=cap'*sz:=bt9 _ hnc;rw[bu6]at hlt;have hsize:(a.eval v).cells.size=i.size:=by omega
      have hst:=run_storeCells_at P g (r*sz+j) el (a.eval v).cells.toList 0 cur w hheap (by simp[hcs,hsize];omega) (hcl.oneCell);simp only[bur,bu2]at hst;have hblk:c.blk id g:=by rw[h6,hown];rfl
      have hnl:(a.eval v).cells.toList.length=i.size:=by simp[hsize]
      obtain⟨hw1,_⟩:=aba (news:=(a.eval v).cells.toList) (r:=r) (j:=j) hxl hown hbase hheap hnc hcm hcs htake hr (by rw[hnl];exact hj);rw[bu2]at hw1
      have hev:Evo c s.o { old:=c.old,imm:=c.imm,tab:=c.tab,own:=fun k=>if k=id then c.own id else c.own k,blk:=fun k=>if k=id then c.blk id else c.blk k,rows:=c.rows } (s.setO id (some (.arrh sz el n' (ji cc.cells++ms) (jt f r j cc.cells)))).o id :=
       .inr (.inr ⟨_, .arrh sz el n' (ji cc.cells++ms) (jt f r j cc.cells),sz,el,n',n',hob,rfl,by simp[S.setO],rfl,bsw _,fun _=>by simp,fun _ _ _ _ _ _ _ hb=>by cases hb⟩)
      have hevo:∀k,Evo c s.o { old:=c.old,imm:=c.imm,tab:=c.tab,own:=fun k=>if k=id then c.own id else c.own k,blk:=fun k=>if k=id then c.blk id else c.blk k,rows:=c.rows } (s.setO id (some (.arrh sz el n' (ji cc.cells++ms) (jt f r j cc.cells)))).o k:=fun k=>by
       by_cases hk:k=id
       · subst hk;exact hev
       exact Evo.of_same (by simp[S.setO,hk]) (by simp[hk])
      refine ⟨_,_,hexec _ ?_,(by rfl),h.write id _ hob (.arrh sz el n' (ji cc.cells++ms) (jt f r j cc.cells)) (w.setRow g (cur.toList.take (r*sz+j)++(a.eval v).cells.toList++cur.toList.drop (r*sz+j+(a.eval v).cells.size)).toArray) (c.own id) (c.blk id) (some g) (ny _ _ _) (fun b' hb'=>by cases hb';exact hblk) hev (fun b hb=>.inl hb)
       ⟨h0,h1,fun p q k hp hq hk=>?_, .inl ⟨by simpa using h6,xs.take (r*sz+j)++(a.eval v).cells.toList++xs.drop (r*sz+j+(a.eval v).cells.toList.length),by simpa using hw1,fun p q hp hq=>?_⟩⟩⟩
      · have hs':(sizeOf t).run P w=.ok i.size w:=ef (hE t i hi) w
        have hne:¬((a.eval v).cells.size≠i.size):=by omega
        simp only[Instr.storeAt,hu,Instr.sureAddr,bu3,buh,bth,storeVar,hs',Sem.run_ite,if_neg hne];exact hst
      · unfold jt at hk
        split at hk
        · rename_i hc
          refine btg _ (ot ⟨_, ?_,hk⟩);have:q-j<cc.cells.length:=by omega
          rw[bsv,bsu this];exact bta this
        exact btv _ (h1m p q k hp hq hk)
      have e2:=db xs (a.eval v).cells.toList (r*sz+j) (p*sz+q) (by rw[hnl,hxl];omega);rw[e2]
      have hpq:(r*sz+j<=p*sz+q/\p*sz+q<r*sz+j+(a.eval v).cells.toList.length)<->(p=r/\j<=q/\q<j+cc.cells.length):=by
       rw[hnl,hpl];constructor
       · rintro ⟨g1,g2⟩
         have:p=r:=by
          rcases bwp p r with hlt|heq|hgt
          · have:(p+1)*sz<=r*sz:=bt9 _ bww
            rw[bu6]at this;omega
          · exact heq
          have:(r+1)*sz<=p*sz:=bt9 _ bww;rw[bu6]at this;omega
         subst this;omega
       rintro⟨rfl,g1,g2⟩;omega
      unfold jt;by_cases hc:p=r/\j<=q/\q<j+cc.cells.length
      · rw [if_pos (hpq.2 hc),if_pos hc]
        obtain⟨rfl,g1,g2⟩:=hc;obtain⟨u,hu',hru⟩:=hcl.get (q-j) cc.cells[q-j] (bsu bww);refine⟨u, ?_,bj.evo (c:=c) (o:=s.o) (Imm.le.refl c.imm) (fun k _=>hevo k) (by simpa [List.getD,bsu (show q-j<cc.cells.length by omega)]using hru)⟩;rw[show p*sz+q-(p*sz+j)=q-j by omega];exact hu'
      rw[if_neg (fun hh=>hc (hpq.1 hh)),if_neg hc];obtain⟨u,hu',hru⟩:=h4 p q hp hq;exact⟨u,hu',bj.evo (c:=c) (o:=s.o) (Imm.le.refl c.imm) (fun k _=>hevo k) hru⟩
    rename_i sz el n' f ps hob hps;split at hq'<;>try(cases hq';done)
    rename_i hdec;have hlen:=of_decide_eq_true hdec;simp only[bst]at hq';subst hq';obtain⟨rfl,hr,hj⟩:=hp;obtain⟨hcl,hsz⟩:=mr (x:=cc) (af h hv);have hP:=t7 hcl hps;obtain⟨_,_,h3⟩:=af h had;obtain⟨b,off,cap,hb,hu⟩:=(h3 _ _ _ _ hob rfl).2 rfl hr;have hobj:=h.objs id _ hob;obtain⟨h0,h1,h5⟩:=hobj
    obtain ⟨h6,xs,h2,h4⟩:c.blk id=ew (c.own id)/\∃xs,w.ownsRow 0 el sz (c.own id) n' xs/\∀i j,i<n'->j<sz->∃x,xs[i*sz+j]? = some x/\aq c.imm (f i j) x:=by
     rcases h5 with h5|⟨h6|h6,_⟩
     · exact h5
     · cases h6
     omega
    have h2':=h2;obtain⟨hxl,hrow⟩:=h2
    rcases hrow with⟨hv0,_⟩|⟨g,cap',cur,hown,hbase,hheap,hnc,hcm,hcs,htake⟩
    · rw[hv0]at hb;cases hb
    rw[hown]at hb;simp only[Value.slice.injEq,bst,Addr.mk.injEq,and_true,true_and]at hb;obtain⟨⟨rfl,rfl⟩,rfl⟩:=hb;rw[btk]at hu;have hpl:ps.length=i.size:=by rw[<- hP.length,bu2,<- hsz,hlen]
    have hlt:(r+1)*sz<=n'*sz:=bt9 _ bww;have hlt2:n'*sz<=cap'*sz:=bt9 _ hnc;rw[bu6]at hlt;have hsize:(a.eval v).cells.size=i.size:=by omega
    have hst:=run_storeCells_at P g (r*sz+j) el (a.eval v).cells.toList 0 cur w hheap (by simp[hcs,hsize];omega) (hcl.oneCell);simp only[bur,bu2]at hst;have hblk:c.blk id g:=by rw[h6,hown];rfl
    have hnl:(a.eval v).cells.toList.length=i.size:=by simp[hsize]
    refine ⟨_,_,hexec _ ?_,(by rfl),h.write id _ hob (.arr true sz el n' (eu f r j ps)) (w.setRow g (cur.toList.take (r*sz+j)++(a.eval v).cells.toList++cur.toList.drop (r*sz+j+(a.eval v).cells.size)).toArray) (c.own id) (c.blk id) (some g) (ny _ _ _) (fun b' hb'=>by cases hb';exact hblk) (.inr (.inr ⟨_, .arr true sz el n' (eu f r j ps),sz,el,n',n',hob,rfl,by simp[S.setO],rfl,bsw _,fun _=>by simp,fun _ _ _ _ _ _ _ hb=>by cases hb⟩)) (fun b hb=>.inl hb)
     ⟨h0,h1, .inl ⟨by simpa using h6,xs.take (r*sz+j)++(a.eval v).cells.toList++xs.drop (r*sz+j+(a.eval v).cells.toList.length), ?_,fun p q hp hq=>?_⟩⟩⟩
    · have hs':(sizeOf t).run P w=.ok i.size w:=ef (hE t i hi) w
      have hne:¬((a.eval v).cells.size≠i.size):=by omega
      simp only[Instr.storeAt,hu,Instr.sureAddr,bu3,buh,bth,storeVar,hs',Sem.run_ite,if_neg hne];exact hst
    · refine ⟨?_, .inr ⟨g,cap',_,by simpa using hown,hbase,setRow_heap w g cur _ el _ hheap,hnc,hcm, ?_, ?_⟩⟩
      · rw[a6r _ _ _ (by rw[hnl];omega)];exact hxl
      · simp only [bu0,bsy,bt4,bvh,bu2]
        omega
      apply bvu;intro k;have hcl':cur.toList.length=cap'*sz:=by simpa using hcs
      rw[btx,List.toList_toArray];have e1:=db cur.toList (a.eval v).cells.toList (r*sz+j) k (by rw[hnl,hcl'];omega);have e2:=db xs (a.eval v).cells.toList (r*sz+j) k (by rw[hnl,hxl];omega);rw[hnl]at e1 e2;rw[hsize,hnl,e1,e2];by_cases hk:k<n'*sz
      · rw [if_pos hk]
        split
        · rfl
        rw[<- htake,btx,if_pos hk]
      rw[if_neg hk,if_neg bww];exact(bwr bww).symm
    have e2:=db xs (a.eval v).cells.toList (r*sz+j) (p*sz+q) (by rw[hnl,hxl];omega);rw[e2]
    have hpq:(r*sz+j<=p*sz+q/\p*sz+q<r*sz+j+(a.eval v).cells.toList.length)<->(p=r/\j<=q/\q<j+ps.length):=by
     rw[hnl,hpl];constructor
     · rintro ⟨g1,g2⟩
       have:p=r:=by
        rcases bwp p r with hlt|heq|hgt
        · have:(p+1)*sz<=r*sz:=bt9 _ bww
          rw[bu6]at this;omega
        · exact heq
        have:(r+1)*sz<=p*sz:=bt9 _ bww;rw[bu6]at this;omega
       subst this;omega
     rintro⟨rfl,g1,g2⟩;omega
    unfold eu;by_cases hc:p=r/\j<=q/\q<j+ps.length
    · rw [if_pos (hpq.2 hc),if_pos hc]
      obtain⟨rfl,g1,g2⟩:=hc;obtain⟨u,hu',hru⟩:=hP.get (q-j) ps[q-j] (bsu bww);refine⟨u, ?_,by simpa [List.getD,bsu (show q-j<ps.length by omega)]using hru⟩;rw[show p*sz+q-(p*sz+j)=q-j by omega];exact hu'
    rw[if_neg (fun hh=>hc (hpq.1 hh)),if_neg hc];exact h4 p q hp hq
  rename_i i cc id ri k r j hi hv had;split at hq'<;>try(cases hq';done)
  rename_i el et es n m g0 pd ps hob hps;split at hq'<;>try(cases hq';done)
  rename_i hdec;have hlen:=of_decide_eq_true hdec;simp only[bst]at hq';subst hq';obtain⟨hri,rfl,hr,hj⟩:=hp;obtain⟨hcl,hsz⟩:=mr (x:=cc) (af h hv);have hP:=t7 hcl hps;obtain⟨_,h3⟩:=af h had;obtain⟨_,_,h4⟩:=h3 _ _ _ _ _ _ _ hob;obtain⟨b,off,cap,hb,hu⟩:=h4 rfl hr;have hnk:lm 0 c s.o w id el et es n m g0 pd:=h.objs id _ hob
  obtain ⟨ys,hrow,hys⟩:∃ys,w.ownsRow 0 et es (c.rows id ri) (m ri) ys/\∀r j,r<m ri->j<es->∃x,ys[r*es+j]? = some x/\aq c.imm (g0 ri r j) x:=by
   rcases hnk.row ri hri with⟨h0,_⟩|h1
   · omega
   exact h1
  have hcb:az (c.rows id ri)=some b:=by
   rcases gk hrow with⟨h0,_⟩|⟨b',cap',rv,rb⟩
   · omega
   rw[rb];rw[rv]at hb;simp only[Value.slice.injEq,bst,Addr.mk.injEq]at hb;rw[hb.1.1]
  obtain⟨hyl,hform⟩:=hrow
  rcases hform with⟨hv0,_⟩|⟨g,cap',cur,hown,hbase,hheap,hnc,hcm,hcs,htake⟩
  · rw[hv0]at hb;cases hb
  rw[hown]at hb;simp only[Value.slice.injEq,bst,Addr.mk.injEq,and_true,true_and]at hb;obtain⟨⟨rfl,rfl⟩,rfl⟩:=hb;rw[btk]at hu;have hsize:(a.eval v).cells.size=i.size:=by omega
  have hnl:(a.eval v).cells.toList.length=i.size:=by simp[hsize]
  have hlt:(r+1)*es<=m ri*es:=bt9 _ bww;have hlt2:m ri*es<=cap'*es:=bt9 _ hnc;rw[bu6]at hlt;have hst:=run_storeCells_at P g (r*es+j) et (a.eval v).cells.toList 0 cur w hheap (by simp[hcs,hsize];omega) (hcl.oneCell);simp only[bur,bu2]at hst;have hblk:c.blk id g:=(hnk.blks g).2 (.inr ⟨ri,hri,hcb⟩);obtain⟨hw1,hw2⟩:=aba (news:=(a.eval v).cells.toList) (r:=r) (j:=j) hyl hown hbase hheap hnc hcm hcs htake hr (by rw[hnl];exact hj);rw[bu2]at hw1;have hother:∀b':Nat,b'≠g->(w.setRow g (cur.toList.take (r*es+j)++(a.eval v).cells.toList++cur.toList.drop (r*es+j+(a.eval v).cells.size)).toArray).heap[b']? = w.heap[b']?:=fun b' hne=>setRow_other w g b' _ hne
  have hevo:∀k,Evo c s.o { old:=c.old,imm:=c.imm,tab:=c.tab,own:=fun k=>if k=id then c.own id else c.own k,blk:=fun k=>if k=id then c.blk id else c.blk k,rows:=c.rows } (s.setO id (some (.nest el et es n m (sd g0 ri r j ps) pd))).o k:=fun k=>by
   by_cases hk:k=id
   · subst hk
     exact .inr (.inr ⟨_,_,1,el,n+ni pd,n+ni pd,hob,a5f,(by show(if k=k then _ else _)=_;rw[if_pos rfl]),a5f,bsw _,fun _=>by simp,fun e2 et2 es2 n2 m2 g2 pd2 hb2=>by
      cases hb2
      exact⟨_,_,_,_,_,_,rfl,bsw _,fun i _=>⟨bsw _,fun _=>rfl⟩⟩⟩)
   exact Evo.of_same (by simp[S.setO,hk]) (by simp[hk])
  refine⟨_,_,hexec _ ?_,(by rfl),h.write id _ hob (.nest el et es n m (sd g0 ri r j ps) pd) (w.setRow g (cur.toList.take (r*es+j)++(a.eval v).cells.toList++cur.toList.drop (r*es+j+(a.eval v).cells.size)).toArray) (c.own id) (c.blk id) (some g) (ny _ _ _) (fun b' hb'=>by cases hb';exact hblk) (hevo id) (fun b hb=>.inl hb) ?_⟩
  · have hs':(sizeOf t).run P w=.ok i.size w:=ef (hE t i hi) w
    have hne:¬((a.eval v).cells.size≠i.size):=by omega
    simp only[Instr.storeAt,hu,Instr.sureAddr,bu3,buh,bth,storeVar,hs',Sem.run_ite,if_neg hne];exact hst
  refine⟨hnk.pos,hnk.len,hnk.lens,by simpa using hnk.blks,by simpa using hnk.apart,fun a hai=>?_, ?_⟩
  · by_cases har:a=ri
    · subst har
      refine .inr ⟨_,hw1,fun p q hp hq=>?_⟩;rw[bu2]at hw2;obtain⟨x,hx,hxr⟩:=hw2 ps (g0 a) c.imm hP hys p q hp hq;refine⟨x,hx, ?_⟩;show aq c.imm (sd g0 a r j ps a p q) x;unfold sd;rw[if_pos rfl];exact hxr
    rcases hnk.row a hai with r0|⟨zs,r1,r2⟩
    · exact .inl r0
    rcases gk r1 with r0|⟨b',cap2,rv,rb⟩
    · exact .inl r0
    refine .inr ⟨zs,ns r1 fun b2 hb2=>hother b2 fun e2=>?_,fun p q hp hq=>?_⟩
    · rw [rv]at hb2
      simp only[cu,bst]at hb2;subst hb2;subst e2;exact har ((hnk.apart ri b' hri hcb).2 a hai rb)
    obtain⟨x,hx,hxr⟩:=r2 p q hp hq;refine⟨x,hx, ?_⟩;show aq c.imm (sd g0 ri r j ps a p q) x;unfold sd;rw[if_neg har];exact hxr
  simp only[if_true]
  rcases hnk.top with r0|⟨xs,t1,t2,t3⟩
  · exact .inl r0
  rcases gk t1 with r0|⟨b',cap2,rv,rb⟩
  · exact .inl r0
  refine .inr ⟨xs,ns t1 fun b2 hb2=>hother b2 fun e2=>?_,t2,fun p hp=>?_⟩
  · rw [rv]at hb2
    simp only[cu,bst]at hb2;subst hb2;subst e2;exact(hnk.apart ri b' hri hcb).1 rb
  obtain⟨x,hx,hxr⟩:=t3 p hp;exact⟨x,hx,bj.evo (c:=c) (o:=s.o) (Imm.le.refl c.imm) (fun k _=>hevo k) hxr⟩
end
end
end Go.Hx
