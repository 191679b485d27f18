/- A part of the proof: Hx12. -/
import Derived.Test.YtmoggbnlhllhaaaGreatDoorUx08
set_option linter.all false
namespace Go.Hx
section
open Go.RowKit
def o6 (o:ap):List Nat->List Nat
 | []=>[]
 |k::r=>k::((match o k with|some ob=>ob.ids|none=>[])++o6 o r)
def uq {o:ap}:∀{l:List Nat} {k:Nat},k∈l->k∈o6 o l
 | x::l,k,h=>by
  rcases bm9.1 h with rfl|h
  · simp[o6]
  simp only[o6,bm9,bmg];exact .inr (.inr (uq h))
def a0e {o:ap} {id:Nat} {ob:aa} (ho:o id=some ob):∀{l:List Nat} {k:Nat},id∈l->k∈ob.ids->k∈o6 o l
 | x::l,k,h,hk=>by
  rcases bm9.1 h with rfl|h
  · simp only[o6,ho,bm9,bmg];exact .inr (.inl hk)
  simp only[o6,bm9,bmg];exact .inr (.inr (a0e ho h hk))
def aav {o o':ap}:∀{l:List Nat},(∀k∈l,o' k=o k)->o6 o' l=o6 o l
 | [],_=>rfl
 | x::l,h=>by
  simp only[o6];rw[h x bpz,aav fun y hy=>h y (by simp[hy])]
section
variable {o o':ap}{e e':Ev}
def afx:∀(n:Nat) (l:List HV) (k:Nat),k∈iw (l.drop n)->k∈iw l
 |0,l,k,h=>h
 |n+1,[],k,h=>h
 | n+1,x::l,k,h=>by
  simp only[iw,bmg];exact .inr (afx n l k h)
def a0d:∀{l:List HV},(∀k∈iw l,o' k=o k)->x9 o' l=x9 o l
 | [],_=>rfl
 | x::l,h=>by
  simp only[x9];rw[a8o (o:=o) (o':=o') (h:=x) fun k hk=>h k (bmi _ hk),a0d fun k hk=>h k (bmx _ hk)]
def amv{h:HV}(ho:∀k∈o6 o h.ids,o' k=o k):a6v o' h=a6v o h:=by
 cases h with
 |p x=>rfl
 |ref id n=>exact a8o fun k hk=>ho k (uq hk)
 |eptr id n i j=>rfl
 |win id n i m=>rfl
 |clo g k caps=>rfl
 |row id i k=>rfl
 |rptr id i k r j=>rfl
 |pin id n ad cap=>rfl
 | ptr id off =>
  have hid:=ho id (uq bq6);simp only[a6v];rw[hid]
  cases hob:o id with
  |none=>rfl
  | some ob =>
   cases ob with
   |mp kk n f=>rfl
   |bld fr T e l=>rfl
   |ex d v b x=>rfl
   |bun B=>rfl
   |opq s e n R=>rfl
   |nest e et es n m g pd=>rfl
   |arr wr s e n f=>rfl
   |arrh s e n ms f=>rfl
   | box l =>
    dsimp only;rw[a0d (o:=o) (o':=o') fun k hk=>ho k (a0e hob bq6 (by simpa [aa.ids]using afx off l k hk))]
theorem a4o {l l':List Nat} (h:∀k∈l,k∈l'):∀k∈o6 o l,k∈o6 o l':=by
 induction l with
 |nil=>intro k hk;simp[o6]at hk
 | cons x l ih =>
  intro k hk;simp only[o6,bm9,bmg]at hk
  rcases hk with rfl|hk|hk
  · exact uq (h _ bpz)
  · cases hx:o x with
    |none=>rw[hx]at hk;cases hk
    |some ob=>rw[hx]at hk;exact a0e hx (h x bpz) hk
  grind
def amd {x:HC} (ho:∀k∈o6 o x.ids,o' k=o k):yz o' x=yz o x:=by
 cases x with
 |one h=>simp only[yz];rw[amv (o:=o) (o':=o') ho]
 |agg l=>simp only[yz];rw[a0d (o:=o) (o':=o') fun k hk=>ho k (uq hk)]
theorem a12:∀{l:List Operand},(∀x∈l,e' x=e x)->(∀k∈o6 o (cw e l),o' k=o k)->ju o' e' l=ju o e l
 | [],_,_=>rfl
 | x :: l,hx,ho=>by
  simp only[ju];rw[hx x bpz,a12 (fun y hy=>hx y (by simp[hy])) (fun k hk=>ho k (a4o (fun j hj=>by simp only[cw];exact bmx _ hj) k hk))]
  cases hex:e x with
  |none=>rfl
  | some r =>
   cases r with
   |tup l=>rfl
   | v cc =>
    have:=amd (o:=o) (o':=o') (x:=cc) fun k hk=>ho k (a4o (fun j hj=>by simp only[cw,hex];exact bmi _ hj) k hk)
    grind
end
def a1q(o:Oper):Bool:=match o.op with | .call c=>(match c.callee with | .value _=>true|_=>false)|_=>false
def vn(o:Oper):Bool:=match o.op with | .move _=>true | .assign _=>true|_=>false
theorem axv {o:Oper} (h:vn o=true):∃x,o.op=.move x\/o.op=.assign x:=by
 unfold vn at h
 grind
def looks(s:S)(o:Oper):List Nat:=bif vn o then[]else bif a1q o then o6 s.o (cw (ev s) o.op.operands.toList)else cw (ev s) o.op.operands.toList
def a6b {s:S} {o:Oper} {k:Nat} (hs:vn o=false) (h:k∈cw (ev s) o.op.operands.toList):k∈looks s o:=by
 unfold looks;rw[hs,cond_false]
 cases a1q o with
 |true=>exact uq h
 |false=>exact h
section
variable {P:Program}{E:Env}{nt:Nat}{s s':S}{ops:Array Oper}{o:Oper}{an:Ann}
section
variable {x:Option HR}
theorem an7 {wr:Wr} (he:Eff P E nt ops o an s x wr):∀q∈wr,q.1∈an.W:=by
 intro q h
 cases he with
 |skip=>cases h
 | cut out id hw hd hq' hp hW =>
  grind
 |quiet=>cases h
 |make nw hw hd hq' hp hm hn hW hN hM=>rw[bmu.1 h,hW];exact bmu.2 rfl
 |store u hw hd hq' hp hW hM=>rw[bmu.1 h,hW];exact bmu.2 rfl
 |app u hw hd hq' hp hn hW hN hM=>rw[bmu.1 h,hW];exact bmu.2 rfl
 |call=>cases h
 |conv=>cases h
 | fcall cl f caps args hcs o1 o2 res fx hw hd ho hc hf hv hco hfun hsub hnew hnm hcl hclr hW hN hM =>
  rw[hW]
  rcases bmg.1 h with h|h
  · obtain ⟨p,hp,rfl⟩:=bml.1 h
    exact bmx _ (bml.2 ⟨p,hp,rfl⟩)
  obtain⟨p,hp,rfl⟩:=bml.1 h;exact bmi _ (bml.2 ⟨p,hp,rfl⟩)
def a2u:∀{l:List (Nat×aa)} {p:Nat×aa} {k:Nat},p∈l->k∈p.2.ids->k∈a9x l
 | (i,x)::l,p,k,h,hk=>by
  rcases bm9.1 h with rfl|h
  · exact bmi _ hk
  exact bmx _ (a2u h hk)
theorem azy {wr:Wr} (he:Eff P E nt ops o an s x wr):(∀r,x=some r->∀k∈r.ids,k∈an.M)/\(∀id ob,(id,some ob)∈wr->∀k∈ob.ids,k∈an.M):=by
 cases he with
 |skip=>exact⟨(fun r h k hk=>by cases h;simp[HR.ids,a2p]at hk),(fun id ob h=>by cases h)⟩
 | cut out id hw hd hq' hp hW=>exact⟨(fun r h k hk=>by
  cases h;unfold xc at hq';split at hq'<;>try(cases hq';done)
  split at hq'<;>try(cases hq';done)
  split at hq'<;>try(cases hq';done)
  split at hq'<;>try(cases hq';done)
  rename_i out1 hsl;simp only[bly,bm4]at hq';obtain⟨rfl,_⟩:=hq';obtain⟨y,hy⟩:=amw hsl;have hk':k∈out1.val.ids:=hk;rw[hy]at hk'
  simp[br,HR.ids,HC.ids,HV.ids]at hk'),(fun id ob h=>by simp at h)⟩
 | quiet out hw hd hq' hp hM =>
  grind
 | make nw hw hd hq' hp hm hn hW hN hM =>
  grind
 | store u hw hd hq' hp hW hM =>
  grind
 | app u hw hd hq' hp hn hW hN hM =>
  grind
 | call cl f fst caps args p vs b hw hd ho hc hf hv hp hco hpure hb hM =>
  refine⟨fun r h k hk=>?_,(fun id ob h=>by cases h)⟩;simp only[bly]at h;subst h;rw[PR.ids_toH]at hk;cases hk
 | conv sr ds x b hw hd ho hcv hp hM =>
  refine⟨fun r h k hk=>?_,(fun id ob h=>by cases h)⟩;simp only[bly]at h;subst h;simp[HR.ids,HC.ids,HV.ids]at hk
 | fcall cl f caps args hcs o1 o2 res fx hw hd ho hc hf hv hco hfun hsub hnew hnm hcl hclr hW hN hM =>
  refine⟨fun r h k hk=>?_,fun id ob h k hk=>?_⟩
  · grind
  rw[hM]
  rcases bmg.1 h with h|h
  · obtain ⟨p,hp,e⟩:=bml.1 h
    simp only[bm4,bly]at e;refine bmx _ (a2u hp ?_)
    grind
  grind
theorem ami{E:Env}{o o':ap}{e e':Ev}{op:Op}(hx:∀x∈op.operands,e' x=e x)(ho:∀k∈cw e op.operands.toList,o' k=o k):xc E o' e' op=xc E o e op:=by
 cases op with
 | slice t x lo hi mx =>
  cases x with
  | tmp d =>
   have h1:=hx (.tmp d) bq1;simp only[xc];rw[h1]
   cases he:e (.tmp d) with
   |none=>rfl
   | some r =>
    match r,he with
    | .v (.one (.ref id n)),he =>
     dsimp only;rw[ho id (ef (e:=e) (x:=.tmp d) he bq1 id (by simp[HR.ids,HC.ids,HV.ids]))]
     have hc:∀r,∀y∈(Op.slice t (.tmp d) lo hi mx).operands,z8 e' d r y=z8 e d r y:=fun r y hy=>by
      cases y with
      | tmp k =>
       simp only[z8]
       grind
      |const v=>exact hx _ hy
      |func v=>exact hx _ hy
      |global v=>exact hx _ hy
     cases ho:o id with
     |none=>rfl
     | some ob =>
      cases ob with
      | arr wr sz el n' f =>
       dsimp only
       have:∀r,lh E (z8 e' d r) t (.tmp d) lo hi mx=lh E (z8 e d r) t (.tmp d) lo hi mx:=fun r=>by
        unfold lh;rw[hc r (.tmp d) bq1,mn (x:=lo) fun y hy=>hc r y (by simp[Op.operands]at hy ⊢;simp[hy]),mn (x:=hi) fun y hy=>hc r y (by simp[Op.operands]at hy ⊢;simp[hy]),mn (x:=mx) fun y hy=>hc r y (by simp[Op.operands]at hy ⊢;simp[hy])]
       rw[this]
      |_=>rfl
    | .v (.one (.p _)),_=>rfl
    | .v (.one (.ptr _ _)),_=>rfl
    | .v (.one (.eptr _ _ _ _)),_=>rfl
    | .v (.one (.win _ _ _ _)),_=>rfl
    | .v (.one (.clo _ _ _)),_=>rfl
    | .v (.one (.row _ _ _)),_=>rfl
    | .v (.one (.rptr _ _ _ _ _)),_=>rfl
    | .v (.one (.pin _ _ _ _)),_=>rfl
    | .v (.agg _),_=>rfl
    | .tup _,_=>rfl
  |_=>rfl
 |_=>rfl
theorem af5 {wr:Wr} (he:Eff P E nt ops o an s x wr) (hx:∀y∈o.op.operands,ev s' y=ev s y) (hg:b5 ops s' o=b5 ops s o) (ho:∀k∈looks s o,s'.o k=s.o k) (hW:∀k∈an.W,s'.o k=s.o k) (hN:∀k∈an.N,NMx s an.W k->NMx s' an.W k):Eff P E nt ops o an s' x wr:=by
 cases hst:vn o with
 | true =>
  obtain⟨y,hop⟩:=axv hst;have hy:ev s' y=ev s y:=hx y (by rcases hop with h|h<;>simp[h,Op.operands])
  cases he with
  |skip hw hd=>exact .skip (hg.trans hw) hd
  | quiet out hw hd hq' hp hM =>
   refine .quiet out (hg.trans hw) hd ?_ hp hM;rw[<- hq']
   rcases hop with h|h<;>rw[h]<;>simp only[hq]<;>rw[hy]
  |cut out id hw hd hq' hp hW'=>rcases hop with h|h<;>rw[h]at hq'<;>cases hq'
  |make nw hw hd hq' hp hm hn hW' hN' hM=>rcases hop with h|h<;>rw[h]at hq'<;>cases hq'
  |store u hw hd hq' hp hW' hM=>rcases hop with h|h<;>rw[h]at hq'<;>cases hq'
  |app u hw hd hq' hp hn hW' hN' hM=>rcases hop with h|h<;>rw[h]at hq'<;>cases hq'
  |call cl f fst caps args p vs b hw hd hop2=>rcases hop with h|h<;>rw[h]at hop2<;>cases hop2
  |conv sr ds x b hw hd hop2=>rcases hop with h|h<;>rw[h]at hop2<;>cases hop2
  |fcall cl f caps args hcs o1 o2 res fx hw hd hop2=>rcases hop with h|h<;>rw[h]at hop2<;>cases hop2
 |false =>
 have ho1:∀k∈cw (ev s) o.op.operands.toList,s'.o k=s.o k:=fun k hk=>ho k (a6b hst hk)
 cases he with
 |skip hw hd=>exact .skip (hg.trans hw) hd
 |cut out id hw hd hq' hp hW'=>exact .cut out id (hg.trans hw) hd ((ami hx ho1).trans hq') hp hW'
 |quiet out hw hd hq' hp hM=>exact .quiet out (hg.trans hw) hd ((awv hx ho1).trans hq') hp hM
 | make nw hw hd hq' hp hm hn hW' hN' hM =>
  have e:=(hW _ (by rw[hW'];simp)).trans hn;have q:=hN an.id (by rw[hN'];simp) (hm.nmx _);rw[hW']at q;exact .make nw (hg.trans hw) hd ((awa hx).trans hq') hp (q.nm e) e hW' hN' hM
 |store u hw hd hq' hp hW' hM=>exact .store u (hg.trans hw) hd ((al3 hx ho1).trans hq') hp hW' hM
 | app u hw hd hq' hp hn hW' hN' hM =>
  refine .app u (hg.trans hw) hd ((aua hx ho1).trans hq') hp (fun h=>?_) hW' hN' hM;obtain⟨h1,h2⟩:=hn h
  have hid:u.id=an.id:=by
   have:=hq';unfold hap at this;split at this<;>try(cases this;done)
   split at this<;>try(cases this;done)
   case h_2 =>
    have e:u.new=false:=by
     unfold y6 at this;split at this<;>try(cases this;done)
     split at this<;>try(cases this;done)
     split at this<;>try(cases this;done)
     split at this<;>try(cases this;done)
     split at this<;>try(cases this;done)
     split at this<;>try(cases this;done)
     split at this<;>try(cases this;done)
     unfold acy at this
     grind
    grind
   unfold a79 at this;split at this<;>try(cases this;done)
   split at this<;>try(cases this;done)
   unfold a6p at this;split at this<;>try(cases this;done)
   split at this<;>try(cases this;done)
   split at this<;>try(cases this;done)
   split at this<;>try(cases this;done)
   unfold x5 at this;split at this<;>try(cases this;done)
   · unfold a3j at this
     grind
   · grind
   · grind
   grind
  have e:=(hW _ (by rw[hW',hid];simp)).trans h2;have q:=hN an.id (by rw[hN' h];simp) (h1.nmx _);rw[hW',hid]at q;exact⟨q.nm e,e⟩
 | conv sr ds x b hw hd hop hcv hp hM =>
  refine .conv sr ds x b (hg.trans hw) hd hop ?_ hp hM;have hxx:ev s' x=ev s x:=hx x (by rw[hop];simp[Op.operands]);unfold ac6 at hcv ⊢
  grind
 | call cl f fst caps args p vs b hw hd hop hc hf hv hp hco hpure hb hM =>
  have hxa:∀y∈cl.args.toList,ev s' y=ev s y:=fun y hy=>hx y (by rw[hop];simp only[Op.operands,Call.operands];simp;exact .inr (by simpa using hy))
  have hcal:callee (ev s') cl=callee (ev s) cl:=by
   unfold callee;split
   · rename_i fo hcl
     rw[hx fo (by rw[hop];simp[Op.operands,Call.operands,hcl])]
   rfl
  refine .call cl f fst caps args p vs b (hg.trans hw) hd hop (hcal.trans hc) hf ((a12 hxa fun k hk=>ho k ?_).trans hv) hp hco hpure hb hM
  obtain ⟨fo,hcl⟩:∃fo,cl.callee=.value fo:=by
   unfold callee at hc
   grind
  unfold looks;rw[hst,cond_false,show a1q o=true from by unfold a1q;rw[hop];simp only[hcl]];refine a4o (fun j hj=>?_) k hk;rw[hop];simp only[Op.operands,Call.operands]
  have key:∀l1 l2:List Operand,∀j∈cw (ev s) l2,j∈cw (ev s) (l1++l2):=by
   intro l1
   induction l1 with
   |nil=>intro l2 j hj;exact hj
   |cons y l1 ih=>intro l2 j hj;simp only[bog,cw];exact bmx _ (ih l2 j hj)
  grind
 | fcall cl f caps args hcs o1 o2 res fx hw hd hop hc hf hv hco hfun hsub hnew hnm hcl hclr hW' hN' hM =>
  have hxa:∀y∈cl.args.toList,ev s' y=ev s y:=fun y hy=>hx y (by rw[hop];simp only[Op.operands,Call.operands];simp;exact .inr (by simpa using hy))
  have hcal:ul (ev s') cl=ul (ev s) cl:=by
   unfold ul;split
   · rename_i fo hcl
     rw[hx fo (by rw[hop];simp[Op.operands,Call.operands,hcl])]
   rfl
  have hv':qu (ev s') cl.args.toList=qu (ev s) cl.args.toList:=by
   have:∀l:List Operand,(∀y∈l,ev s' y=ev s y)->qu (ev s') l=qu (ev s) l:=by
    intro l
    induction l with
    |nil=>intro _;rfl
    | cons y l ih =>
     intro hl;simp only[qu]
     grind
   grind
  have hsame:∀k,k∈keys o1++keys o2->s'.o k=s.o k:=fun k hk=>hW k (by rw[hW'];exact hk);refine .fcall cl f caps args hcs o1 o2 res fx (hg.trans hw) hd hop (hcal.trans hc) hf (hv'.trans hv) hco hfun (fun id ob hid=>?_) (fun id h2 h1=>?_) (fun id h2 h1=>?_) hcl hclr hW' hN' hM
  · rw [hsame id (bmi _ (a0v hid))]
    grind
  · grind
  grind
end
end
structure b9j where
 R:List Nat
 W:List Nat
 N:List Nat
 M:List Nat
 O:List Nat
def wh (s:S):Wr->List Nat
 | []=>[]
 |(id,_)::r=>(match s.o id with|some ob=>ob.ids|none=>[])++wh s r
def cb (s:S) (d:Option Tmp) (wr:Wr):List Nat :=
 (match d with|some d=>(match s.t d with|some v=>v.ids|none=>[])|none=>[])++wh s wr
theorem al6 {s:S} {id:Nat} {ob:aa} (ho:s.o id=some ob) {k:Nat} (hk:k∈ob.ids):∀{l:Wr} {r:Option aa},(id,r)∈l->k∈wh s l
 | (e,x)::l,r,h=>by
  rcases bm9.1 h with h|h
  · simp only [bm4]at h
    obtain⟨rfl,rfl⟩:=h;simp only[wh,ho]
    grind
  simp only[wh];exact bmx _ (al6 ho hk h)
def a3r {s s':S}:∀{l:Wr},(∀q∈l,s'.o q.1=s.o q.1)->wh s' l=wh s l
 | [],_=>rfl
 | (id,x)::l,h=>by
  simp only[wh];rw[h (id,x) bpz,a3r fun q hq=>h q (by simp[hq])]
def a4u:List Nat->List Nat->Bool
 | [],_=>true
 |x::l,m=>!(m.any (Nat.beq x))&&a4u l m
def sx:∀{l m:List Nat},a4u l m=true->∀k∈l,k∉m
 | x :: l,m,h,k,hk,hm=>by
  simp only[a4u,bm8,bn8]at h
  rcases bm9.1 hk with rfl|hk
  · have:=h.1
    rw[boa]at this;exact this k hm bpz
  exact sx h.2 k hk hm
def ae8 (ops:Array Oper) (ox oy:Oper) (x y:b9j):Bool :=
 ox.apart ops oy&&a4u x.W y.R&&a4u x.W y.W&&a4u y.W x.R&&a4u y.N x.O&&a4u x.N y.M
section
variable {P:Program}{E:Env}{nt:Nat}{s:S}{ops:Array Oper}
section
variable {d:Option Tmp}{k:Nat}{wr:Wr}{x:Option HR}
def f7 (h:d≠some k):(s.after d x wr).t k=s.t k:=by
 unfold S.after S.putD
 cases d with
 |none=>rfl
 | some j =>
  have hne:k≠j:=fun e=>h (by rw[e]);simp[S.put,S.setW,hne]
def oo:(s.after d x wr).o k=match gn wr k with|some r=>r|none=>s.o k:=by
 unfold S.after S.putD;cases d<;>rfl
def ad0 (h:∀q∈wr,q.1≠k):(s.after d x wr).o k=s.o k:=by
 rw[oo,as9 h]
def a2j {y:Operand} (h:∀k,d=some k->y≠.tmp k):ev (s.after d x wr) y=ev s y:=by
 cases y with
 |tmp k=>exact f7 fun e=>h k e rfl
 |_=>rfl
variable {o:Oper}
def u7 (h:∀k,d=some k->k∉o.looksAt ops):b5 ops (s.after d x wr) o=b5 ops s o:=by
 unfold b5;split
 · rfl
 rename_i j want hg
 cases hd:(ops[j]?).bind (·.dst) with
 |none=>rfl
 | some k =>
  dsimp only;rw[f7 fun e=>h k e (by simp[Oper.looksAt,hg,hd])]
def qw (h:k∉o.looksAt ops):∀y∈o.op.operands,y≠.tmp k:=by
 rintro y hy rfl;apply h;unfold Oper.looksAt;apply bmi;rw[List.mem_filterMap];exact⟨.tmp k,by simpa using hy,rfl⟩
def agx{W:List Nat}(hs:NMx s W k)(hx:∀r,x=some r->k∉r.ids)(hw:∀id ob,(id,some ob)∈wr->k∉ob.ids):NMx (s.after d x wr) W k:=by
 refine⟨?_, ?_,hs.2.2⟩
 · intro j r hr hm
   by_cases hj:d=some j
   · subst hj
     have:(s.after (some j) x wr).t j=x:=by unfold S.after S.putD;simp[S.put]
     rw[this]at hr;exact hx r hr (HR.men_ids hm)
   rw[f7 hj]at hr;exact hs.1 j r hr hm
 intro id ob hidW hob hm;rw[oo]at hob
 cases hl:gn wr id with
 |none=>rw[hl]at hob;exact hs.2.1 id ob hidW hob hm
 | some r =>
  rw[hl]at hob;have hob:r=some ob:=hob;subst hob;exact hw id ob (sh hl) (aa.men_ids hm)
def amb{W:List Nat}(hs:NMx (s.after d x wr) W k)(ho:k∉cb s d wr):NMx s W k:=by
 refine⟨?_, ?_,hs.2.2⟩
 · intro j r hr hm
   by_cases hj:d=some j
   · subst hj
     apply ho;unfold cb;simp only[hr];exact bmi _ (HR.men_ids hm)
   exact hs.1 j r (by rw[f7 hj];exact hr) hm
 intro id ob hidW hob hm
 cases hl:gn wr id with
 |none=>exact hs.2.1 id ob hidW (by rw[oo,hl];exact hob) hm
 | some r =>
  apply ho;unfold cb;exact bmx _ (al6 hob (aa.men_ids hm) (sh hl))
def aq6{d':Option Tmp}{x':Option HR}{wr':Wr}(hd:∀k,d=some k->d'≠some k)(hw:∀q∈wr,∀q'∈wr',q.1≠q'.1):
 (s.after d x wr).after d' x' wr'=(s.after d' x' wr').after d x wr:=by
 have ht:∀k,((s.after d x wr).after d' x' wr').t k=((s.after d' x' wr').after d x wr).t k:=by
  intro k;by_cases h1:d=some k
  · have h2:=hd k h1
    subst h1;rw[f7 h2];have e1:(s.after (some k) x wr).t k=x:=by unfold S.after S.putD;simp[S.put]
    have e2:((s.after d' x' wr').after (some k) x wr).t k=x:=by unfold S.after S.putD;simp[S.put]
    rw[e1,e2]
  by_cases h2:d'=some k
  · subst h2
    rw[f7 (s:=s.after (some k) x' wr') h1];have e1:((s.after d x wr).after (some k) x' wr').t k=x':=by unfold S.after S.putD;simp[S.put]
    have e2:(s.after (some k) x' wr').t k=x':=by unfold S.after S.putD;simp[S.put]
    rw[e1,e2]
  rw[f7 h2,f7 h1,f7 h1,f7 h2]
 have ho:∀k,((s.after d x wr).after d' x' wr').o k=((s.after d' x' wr').after d x wr).o k:=by
  intro k;rw[oo,oo,oo,oo]
  cases h1:gn wr k with
  |none=>rfl
  | some r =>
   cases h2:gn wr' k with
   |none=>rfl
   |some r'=>exact(hw (k,r) (sh h1) (k,r') (sh h2) rfl).elim
 cases h1:(s.after d x wr).after d' x' wr' with
 | mk t1 o1 =>
  cases h2:(s.after d' x' wr').after d x wr with
  | mk t2 o2 =>
   rw[h1,h2]at ht ho;have:t1=t2:=funext ht;have:o1=o2:=funext ho;simp_all
structure a3d where
 id:Nat
 off:Nat
 len:Nat
 wr:Bool
def f8 (E:Env) (s:S) (o:Oper):Option a3d :=
 match o.op with
 | .load t x=>match E t,ev s x with|some i,some (.v (.one (.ptr id off)))=>some ⟨id,off,i.size,false⟩|_,_=>none
 | .nilCheck x=>match ev s x with|some (.v (.one (.ptr id off)))=>some ⟨id,off,0,false⟩|_=>none
 | .move x=>match ev s x with|some (.v (.one (.ptr id off)))=>some ⟨id,off,0,false⟩|_=>none
 | .assign x=>match ev s x with|some (.v (.one (.ptr id off)))=>some ⟨id,off,0,false⟩|_=>none
 | .fieldAddr _ x _=>match ev s x with|some (.v (.one (.ptr id off)))=>some ⟨id,off,0,false⟩|_=>none
 | .store t x _=>match E t,ev s x with|some i,some (.v (.one (.ptr id off)))=>some ⟨id,off,i.size,true⟩|_,_=>none
 |_=>none
def tv {E:Env} {s s':S} (h:∀y∈o.op.operands,ev s' y=ev s y):f8 E s' o=f8 E s o:=by
 unfold f8;cases ho:o.op<;>rw[ho]at h<;>simp only[Op.operands]at h<;>try rfl
 all_goals (dsimp only;rw[h _ bpz])
structure Tr where
 i:Nat
 an:Ann
 R:List Nat
 O:List Nat
 F:Option a3d
def Tr.foot(t:Tr):b9j:=⟨t.R,t.an.W,t.an.N,t.an.M,t.O⟩
inductive mi (P:Program) (E:Env) (nt:Nat) (ops:Array Oper):List Tr->S->S->Prop where
 |nil (s:S):mi P E nt ops [] s s
 | cons {i:Nat} {an:Ann} {R O:List Nat} {F:Option a3d} {o:Oper} {s s':S} {x:Option HR} {wr:Wr} {T:List Tr} (hi:ops[i]? = some o) (he:Eff P E nt ops o an s x wr) (hR:looks s o=R) (hO:∀k∈cb s o.dst wr,k∈O)
  (hF:∀f,F=some f->f8 E s o=some f/\b5 ops s o=some true) (hT:mi P E nt ops T (s.after o.dst x wr) s'):mi P E nt ops (⟨i,an,R,O,F⟩::T) s s'
def a65(l m:List Nat):Bool:=l.all fun k=>m.any (Nat.beq k)
def sk {l m:List Nat} (h:a65 l m=true):∀k∈l,k∈m:=by
 intro k hk;unfold a65 at h;simp_all
def ads(ops:Array Oper)(ox oy:Oper)(x y:Tr):Bool :=
 match x.F,y.F with
 | some f,some g =>
  ox.apart ops oy&&Nat.beq f.id g.id&&(Nat.ble (f.off+f.len) g.off||Nat.ble (g.off+g.len) f.off)&&x.an.N.isEmpty&&y.an.N.isEmpty &&
  (match f.wr,g.wr with
   |true,true=>a65 x.O y.an.M&&a65 x.O x.an.M&&a65 y.an.M x.an.M&&a65 x.O y.O&&a65 y.an.M x.O&&a65 x.an.M y.an.M
   |true,false=>true
   |false,true=>true
   |false,false=>false)
 |_,_=>false
def ab9 (ops:Array Oper) (x y:Tr):Bool :=
 match ops[x.i]?,ops[y.i]? with
 |some ox,some oy=>ae8 ops ox oy x.foot y.foot||ads ops ox oy x y
 |_,_=>false
def a8g (h:∀y∈o.op.operands,ev (s.after d x wr) y=ev s y) (ho:vn o=false->∀k∈cw (ev s) o.op.operands.toList,(s.after d x wr).o k=s.o k):looks (s.after d x wr) o=looks s o:=by
 unfold looks
 cases hst:vn o with
 |true=>rfl
 |false =>
 have ho:=ho hst;rw[qk (e:=ev s) (fun y hy=>h y (by simpa using hy)),aav ho]
variable {T:List Tr}
theorem be4 {sf:S} {x y:Tr} {ox0 oy0:Oper} (h:mi P E nt ops (x::y::T) s sf) (hx0:ops[x.i]? = some ox0) (hy0:ops[y.i]? = some oy0) (hp:ae8 ops ox0 oy0 x.foot y.foot=true):mi P E nt ops (y::x::T) s sf:=by
 cases h with
 | @cons ix anx Rx Ox Fx ox _ _ vx wx _ hix hex hRx hOx hFx h =>
 cases h with
 | @cons iy any Ry Oy Fy oy _ _ vy wy _ hiy hey hRy hOy hFy h =>
 obtain rfl:ox0=ox:=by have:=hx0.symm.trans hix;simpa using this
 obtain rfl:oy0=oy:=by have:=hy0.symm.trans hiy;simpa using this
 simp only[ae8,bm8,Tr.foot]at hp;obtain⟨⟨⟨⟨⟨hap,h1⟩,h2⟩,h3⟩,h4⟩,h5⟩:=hp;have h1:=sx h1;have h2:=sx h2;have h3:=sx h3;have h4:=sx h4;have h5:=sx h5;obtain⟨a1,a2,a3⟩:=Oper.apart_spec hap;have hwx:=an7 hex;have hwy:=an7 hey;have eyx:∀z∈oy0.op.operands,ev (s.after ox0.dst vx wx) z=ev s z:=fun z hz=>a2j fun k hk=>qw (a1 k hk) z hz;have gy:b5 ops (s.after ox0.dst vx wx) oy0=b5 ops s oy0:=u7 a1
 have oyx:∀k∈Ry++any.W,(s.after ox0.dst vx wx).o k=s.o k:=fun k hk=>ad0 fun q hw e=>by
  grind
 have hlk:looks s oy0=Ry:=by
  rw[<- hRy]
  have hids:vn oy0=false->∀k∈cw (ev s) oy0.op.operands.toList,(s.after ox0.dst vx wx).o k=s.o k:=by
   intro hst k hk;refine oyx k (bmi _ ?_);rw[<- hRy];refine a6b hst ?_;rw[qk (e:=ev s) (fun z hz=>eyx z (by simpa using hz))];exact hk
  exact(a8g eyx hids).symm
 have hey':Eff P E nt ops oy0 any s vy wy:=af5 hey (fun z hz=>(eyx z hz).symm) gy.symm (fun k hk=>by
  rw[hRy]at hk
  exact(oyx k (bmi _ hk)).symm) (fun k hk=>(oyx k (bmx _ hk)).symm) (fun k hk hnm=>amb hnm (fun hk'=>h4 k hk (hOx k hk')))
 have exy:∀z∈ox0.op.operands,ev (s.after oy0.dst vy wy) z=ev s z:=fun z hz=>a2j fun k hk=>qw (a3 k hk) z hz;have gx:b5 ops (s.after oy0.dst vy wy) ox0=b5 ops s ox0:=u7 a3
 have oxy:∀k∈Rx++anx.W,(s.after oy0.dst vy wy).o k=s.o k:=fun k hk=>ad0 fun q hw e=>by
  grind
 have hlx:looks (s.after oy0.dst vy wy) ox0=Rx:=by
  rw[a8g exy (fun hst k hk=>oxy k (bmi _ (by rw[<- hRx];exact a6b hst hk))),hRx]
 obtain⟨m1,m2⟩:=azy hey
 have hex':Eff P E nt ops ox0 anx (s.after oy0.dst vy wy) vx wx:=af5 hex exy gx (fun k hk=>oxy k (bmi _ (by rw[<- hRx];exact hk))) (fun k hk=>oxy k (bmx _ hk))
  (fun k hk hnm=>agx hnm (fun r hr hkr=>h5 k hk (m1 r hr k hkr)) (fun id ob hw hko=>h5 k hk (m2 id ob hw k hko)))
 have hdne:∀k,ox0.dst=some k->oy0.dst≠some k:=a2
 have hOy':cb s oy0.dst wy=cb (s.after ox0.dst vx wx) oy0.dst wy:=by
  unfold cb;congr 1
  · cases hd:oy0.dst with
    |none=>rfl
    |some k=>dsimp only;rw[f7 fun e=>a2 k e hd]
  exact(a3r fun q hq=>oyx q.1 (bmx _ (hwy q hq))).symm
 have hOx':cb (s.after oy0.dst vy wy) ox0.dst wx=cb s ox0.dst wx:=by
  unfold cb;congr 1
  · cases hd:ox0.dst with
    |none=>rfl
    |some k=>dsimp only;rw[f7 (a2 k hd)]
  exact a3r fun q hq=>oxy q.1 (bmx _ (hwx q hq))
 rw[aq6 hdne fun q hq q' hq' e=>h2 q.1 (hwx q hq) (by rw[e];exact hwy q' hq')]at h;exact .cons hiy hey' hlk (fun k hk=>hOy k (by rw[<- hOy'];exact hk)) (fun f hf=>⟨(tv eyx).symm.trans (hFy f hf).1,gy.symm.trans (hFy f hf).2⟩) (.cons hix hex' hlx (fun k hk=>hOx k (by rw[<- hOx'];exact hk)) (fun f hf=>⟨(tv exy).trans (hFx f hf).1,gx.trans (hFx f hf).2⟩) h)
variable {f:a3d}
theorem y7 (h:f8 E s o=some f):(f.wr=false/\((∃t x,o.op=.load t x)\/(∃x,o.op=.nilCheck x)\/(∃t x k,o.op=.fieldAddr t x k)\/(∃x,o.op=.move x)\/∃x,o.op=.assign x))\/(f.wr=true/\∃t x v,o.op=.store t x v):=by
 unfold f8 at h
 grind
theorem ai9 {an:Ann} (he:Eff P E nt ops o an s x wr) (hf:f8 E s o=some f) (hw:b5 ops s o=some true) (hr:f.wr=false):
 ∃out,x=some out.val/\wr=[]/\hq E an.ex s.o (ev s) o.op=some out/\out.pre/\cj nt o.dst=true/\out.val.ids=an.M:=by
 have hops:(∃t x,o.op=.load t x)\/(∃x,o.op=.nilCheck x)\/(∃t x k,o.op=.fieldAddr t x k)\/(∃x,o.op=.move x)\/∃x,o.op=.assign x:=by
  rcases y7 hf with⟨_,h⟩|⟨h,_⟩
  · exact h
  grind
 cases he with
 |skip hw' hd=>rw[hw]at hw';cases hw'
 |quiet out hw hd hq' hp hM=>exact⟨out,rfl,rfl,hq',hp,hd,hM⟩
 |cut out id hw hd hq' hp hW=>rcases hops with⟨t,x,h⟩|⟨x,h⟩|⟨t,x,k,h⟩|⟨x,h⟩|⟨x,h⟩<;>(rw[h]at hq';cases hq')
 |make nw hw hd hq' hp hm hn hW hN hM=>rcases hops with⟨t,x,h⟩|⟨x,h⟩|⟨t,x,k,h⟩|⟨x,h⟩|⟨x,h⟩<;>(rw[h]at hq';cases hq')
 |store u hw hd hq' hp hW hM=>rcases hops with⟨t,x,h⟩|⟨x,h⟩|⟨t,x,k,h⟩|⟨x,h⟩|⟨x,h⟩<;>(rw[h]at hq';cases hq')
 |app u hw hd hq' hp hn hW hN hM=>rcases hops with⟨t,x,h⟩|⟨x,h⟩|⟨t,x,k,h⟩|⟨x,h⟩|⟨x,h⟩<;>(rw[h]at hq';cases hq')
 |call cl f fst caps args p vs b hw hd ho hc hf hv hp hco hpure hb hM=>rcases hops with⟨t,x,h⟩|⟨x,h⟩|⟨t,x,k,h⟩|⟨x,h⟩|⟨x,h⟩<;>(rw[h]at ho;cases ho)
 |conv sr ds x b hw hd ho hcv hp hM=>rcases hops with⟨t,x,h⟩|⟨x,h⟩|⟨t,x,k,h⟩|⟨x,h⟩|⟨x,h⟩<;>(rw[h]at ho;cases ho)
 |fcall cl f caps args hcs o1 o2 res fx hw hd ho hc hf hv hco hfun hsub hnew hnm hcl hclr hW hN hM=>rcases hops with⟨t,x,h⟩|⟨x,h⟩|⟨t,x,k,h⟩|⟨x,h⟩|⟨x,h⟩<;>(rw[h]at ho;cases ho)
theorem a5z {an:Ann} (he:Eff P E nt ops o an s x wr) (hf:f8 E s o=some f) (hw:b5 ops s o=some true) (hr:f.wr=true):
 ∃u,x=none/\wr=[(u.id,some u.ob)]/\hs E s.o (ev s) o.op=some u/\u.pre/\an.W=[u.id]/\(∀k∈u.ob.ids,k∈an.M)/\cj nt o.dst=true:=by
 have hops:∃t x v,o.op=.store t x v:=by
  rcases y7 hf with⟨h,_⟩|⟨_,h⟩
  · grind
  exact h
 obtain⟨t,ad,v,h⟩:=hops
 cases he with
 |skip hw' hd=>rw[hw]at hw';cases hw'
 |quiet out hw hd hq' hp hM=>rw[h]at hq';cases hq'
 |cut out id hw hd hq' hp hW=>rw[h]at hq';cases hq'
 |make nw hw hd hq' hp hm hn hW hN hM=>rw[h]at hq';cases hq'
 |store u hw hd hq' hp hW hM=>exact⟨u,rfl,rfl,hq',hp,hW,hM,hd⟩
 |app u hw hd hq' hp hn hW hN hM=>rw[h]at hq';cases hq'
 |call cl f fst caps args p vs b hw hd ho hc hf hv hp hco hpure hb hM=>rw[h]at ho;cases ho
 |conv sr ds x b hw hd ho hcv hp hM=>rw[h]at ho;cases ho
 |fcall cl f caps args hcs o1 o2 res fx hw hd ho hc hf hv hco hfun hsub hnew hnm hcl hclr hW hN hM=>rw[h]at ho;cases ho
theorem ae0 (hf:f8 E s o=some f) (hr:f.wr=true) {u:Upd} (hu:hs E s.o (ev s) o.op=some u):
 ∃ l new,s.o f.id=some (.box l)/\new.length=f.len/\u=⟨f.off+f.len<=l.length,f.id, .box (bn l f.off new)⟩ /\
  ∀(o':ap) (e':Ev) (l':List HV),o' f.id=some (.box l')->(∀y∈o.op.operands,e' y=ev s y)->hs E o' e' o.op=some ⟨f.off+f.len<=l'.length,f.id, .box (bn l' f.off new)⟩:=by
 have hops:∃t x v,o.op=.store t x v:=by
  rcases y7 hf with⟨h,_⟩|⟨_,h⟩
  · grind
  exact h
 obtain⟨t,ad,v,h⟩:=hops;unfold f8 at hf;rw[h]at hf hu ⊢;dsimp only at hf;split at hf<;>try(cases hf;done)
 rename_i i id off hE he;simp only[bly]at hf;subst hf;simp only[hs,lc,hE,he]at hu
 cases hv:ev s v with
 |none=>rw[hv]at hu;cases hu
 | some rv =>
  cases rv with
  |tup l=>rw[hv]at hu;cases hu
  | v cc =>
   rw[hv]at hu;dsimp only at hu
   cases hob:s.o id with
   |none=>rw[hob]at hu;cases hu
   | some ob =>
    cases ob with
    |mp kk' n' f'=>rw[hob]at hu;cases hu
    |bld fr' T' e' l'=>rw[hob]at hu;cases hu
    |ex d' v' b' x'=>rw[hob]at hu;cases hu
    |bun B'=>rw[hob]at hu;cases hu
    |opq s' e' n' R'=>rw[hob]at hu;cases hu
    |nest e' et' es' n' m' g' pd'=>rw[hob]at hu;cases hu
    |arr wr' s' e' n' f'=>rw[hob]at hu;cases hu
    |arrh s' e' n' ms' f'=>rw[hob]at hu;cases hu
    | box l =>
     rw[hob]at hu;dsimp only at hu;split at hu<;>try(cases hu;done)
     rename_i hlen;simp only[bly]at hu;subst hu;refine⟨l,cc.cells,rfl,of_decide_eq_true hlen,rfl,fun o' e' l' ho' he'=>?_⟩;simp only[Op.operands]at he';simp only[hs,lc,hE]
     grind
def a42 {g g':Nat->HV}:∀(n i:Nat),(∀j,i<=j->j<i+n->g j=g' j)->n4 g n i=n4 g' n i
 |0,_,_=>rfl
 | n+1,i,h=>by
  simp only[n4];rw[h i (bm1 _) bpw,a42 n (i+1) fun j h1 h2=>h j bpw bpw]
variable {l:List HV}
theorem aof {ex:Bool} (hf:f8 E s o=some f) (hr:f.wr=false) {l':List HV} {o':ap} {e':Ev} (hl:s.o f.id=some (.box l)) (hl':o' f.id=some (.box l')) (hlen:l'.length=l.length) (hj:∀j,f.off<=j->j<f.off+f.len->l'[j]? = l[j]?) (he':∀y∈o.op.operands,e' y=ev s y):hq E ex o' e' o.op=hq E ex s.o (ev s) o.op:=by
 have hops:(∃t x,o.op=.load t x)\/(∃x,o.op=.nilCheck x)\/(∃t x k,o.op=.fieldAddr t x k)\/(∃x,o.op=.move x)\/∃x,o.op=.assign x:=by
  rcases y7 hf with⟨_,h⟩|⟨h,_⟩
  · exact h
  grind
 unfold f8 at hf
 rcases hops with⟨t,x,h⟩|⟨x,h⟩|⟨t,x,k,h⟩|⟨x,h⟩|⟨x,h⟩
 · rw [h]at hf he' ⊢
   dsimp only at hf;split at hf<;>try(cases hf;done)
   rename_i i id off hE he;simp only[bly]at hf;subst hf;simp only[Op.operands]at he';simp only[hq,n7,hE];rw[he' x bpz,he];dsimp only at hl hl' hj ⊢;simp only[tgt,hl,hl']
   have hg:∀j,j<i.size->l'.getD (off+j) (.p .any)=l.getD (off+j) (.p .any):=fun j hjl=>by
    grind
   cases i.k.isAgg with
   | true =>
    dsimp only;rw[hlen,a42 i.size 0 fun j _ h2=>hg j bpw]
   | false =>
    grind
 · rw [h]at hf he' ⊢
   dsimp only at hf;split at hf<;>try(cases hf;done)
   rename_i id off he;simp only[bly]at hf;subst hf;simp only[Op.operands]at he';simp only[hq,qt];rw[he' x bpz,he];dsimp only at hl hl' ⊢;simp only[tgt,hl,hl']
 · rw [h]at hf he' ⊢
   dsimp only at hf;split at hf<;>try(cases hf;done)
   rename_i id off he;simp only[bly]at hf;subst hf;simp only[Op.operands]at he';simp only[hq,fj];rw[he' x bpz,he];dsimp only at hl hl' ⊢;simp only[tgt,hl,hl']
   grind
 · rw [h]at he' ⊢
   simp only[Op.operands]at he';simp only[hq]
   grind
 rw[h]at he' ⊢;simp only[Op.operands]at he';simp only[hq]
 grind
variable {new:List HV}{off:Nat}
def mo(h:off+new.length<=l.length):(bn l off new).length=l.length:=a5n l new off h
def sm(k:Nat)(h:off+new.length<=l.length):(bn l off new)[k]? = if off<=k/\k<off+new.length then new[k-off]? else l[k]?:=d4 l new off k h
theorem as5 {a b:List HV} {i j:Nat} (ha:i+a.length<=l.length) (hb:j+b.length<=l.length) (hd:i+a.length<=j\/j+b.length<=i):bn (bn l i a) j b=bn (bn l j b) i a:=by
 apply bot;intro k;rw[sm k (by rw[mo ha];exact hb),sm k ha,sm k (by rw[mo hb];exact ha),sm k hb]
 grind
def zf(h:k∈iw (bn l off new)):k∈iw l\/k∈iw new:=by
 obtain⟨x,hx,hk⟩:=idsL_mem' h;unfold bn at hx
 rcases bmg.1 hx with hx|hx
 · rcases bmg.1 hx with hx|hx
   · exact .inl (n9 ⟨x,bo6 hx,hk⟩)
   exact .inr (n9 ⟨x,hx,hk⟩)
 exact .inl (n9 ⟨x,List.mem_of_mem_drop hx,hk⟩)
def anf (h:k∈iw new):k∈iw (bn l off new):=by
 obtain⟨x,hx,hk⟩:=idsL_mem' h;exact n9 ⟨x,bmi _ (bmx _ hx),hk⟩
def after_comm' {d':Option Tmp}{x':Option HR}{wr' wr1 wr1':Wr}(hd:∀k,d=some k->d'≠some k)(ho:∀k,((s.after d x wr).after d' x' wr').o k=((s.after d' x' wr1').after d x wr1).o k):
 (s.after d x wr).after d' x' wr'=(s.after d' x' wr1').after d x wr1:=by
 have ht:∀k,((s.after d x wr).after d' x' wr').t k=((s.after d' x' wr1').after d x wr1).t k:=by
  intro k;by_cases h1:d=some k
  · have h2:=hd k h1
    subst h1;rw[f7 h2];have e1:(s.after (some k) x wr).t k=x:=by unfold S.after S.putD;simp[S.put]
    have e2:((s.after d' x' wr1').after (some k) x wr1).t k=x:=by unfold S.after S.putD;simp[S.put]
    rw[e1,e2]
  by_cases h2:d'=some k
  · subst h2
    rw[f7 (s:=s.after (some k) x' wr1') h1];have e1:((s.after d x wr).after (some k) x' wr').t k=x':=by unfold S.after S.putD;simp[S.put]
    have e2:(s.after (some k) x' wr1').t k=x':=by unfold S.after S.putD;simp[S.put]
    rw[e1,e2]
  rw[f7 h2,f7 h1,f7 h1,f7 h2]
 cases h1:(s.after d x wr).after d' x' wr' with
 | mk t1 o1 =>
  cases h2:(s.after d' x' wr1').after d x wr1 with
  | mk t2 o2 =>
   rw[h1,h2]at ht ho;have:t1=t2:=funext ht;have:o1=o2:=funext ho;simp_all
def rh {id:Nat} {ob:aa}:(s.after d x [(id,some ob)]).o=fun k=>if k=id then some ob else s.o k:=by
 funext k;rw[oo];simp only[gn];by_cases h:k=id
 · subst h;simp
 have:Nat.beq id k=false:=by rw[bmh];exact fun hb=>h (bmt hb).symm
 simp[this,h]
def ux:(s.after d x []).o=s.o:=by
 funext k;exact ad0 fun q hq=>by cases hq
theorem a5s {s':S} {id:Nat} {ob ob':aa} (hd:∀k,d=some k->s'.t k=s.t k) {l':List HV} (hl':s'.o id=some (.box l')) (hk:k∈cb s' d [(id,some ob')]):
 k∈cb s d [(id,some ob)]\/k∈iw l':=by
 unfold cb at hk ⊢
 rcases bmg.1 hk with hk|hk
 · grind
 simp only[wh,hl',aa.ids,bmv]at hk;exact .inr hk
def bfr{sf:S}{x y:Tr}{ox oy:Oper}(h:mi P E nt ops (x::y::T) s sf)(hx0:ops[x.i]? = some ox)(hy0:ops[y.i]? = some oy)(hp:ads ops ox oy x y=true):mi P E nt ops (y::x::T) s sf:=by
 cases h with
 | @cons ix anx Rx Ox Fx ox1 _ _ vx wx _ hix hex hRx hOx hFx h =>
 cases h with
 | @cons iy any Ry Oy Fy oy1 _ _ vy wy _ hiy hey hRy hOy hFy h =>
 obtain rfl:ox=ox1:=by have:=hx0.symm.trans hix;simpa using this
 obtain rfl:oy=oy1:=by have:=hy0.symm.trans hiy;simpa using this
 unfold ads at hp;dsimp only at hp
 cases Fx with
 |none=>cases hp
 |some f =>
 cases Fy with
 |none=>cases hp
 |some g =>
 simp only[bm8]at hp;obtain⟨⟨⟨⟨⟨hap,hid⟩,hdis⟩,hNx⟩,hNy⟩,hm⟩:=hp;have hid:f.id=g.id:=bmt hid
 have hdis:f.off+f.len<=g.off\/g.off+g.len<=f.off:=by
  rcases(bnf _ _▸hdis:_\/_)with h'|h'
  · exact .inl (bm0 h')
  exact .inr (bm0 h')
 have hNx:anx.N=[]:=by simpa using hNx
 have hNy:any.N=[]:=by simpa using hNy
 obtain⟨a1,a2,a3⟩:=Oper.apart_spec hap;obtain⟨fx1,fx2⟩:=hFx f rfl;obtain⟨fy1,fy2⟩:=hFy g rfl;have eyx:∀{d wr},(∀k,d=some k->ox.dst=some k)->∀z∈oy.op.operands,ev (s.after d vx wr) z=ev s z:=fun hd z hz=>a2j fun k hk=>qw (a1 k (hd k hk)) z hz;have exy:∀{v wr},∀z∈ox.op.operands,ev (s.after oy.dst v wr) z=ev s z:=fun z hz=>a2j fun k hk=>qw (a3 k hk) z hz;have eyx':∀z∈oy.op.operands,ev (s.after ox.dst vx wx) z=ev s z:=eyx fun k hk=>hk;have gy:b5 ops (s.after ox.dst vx wx) oy=b5 ops s oy:=u7 a1;have gx:∀{v wr},b5 ops (s.after oy.dst v wr) ox=b5 ops s ox:=u7 a3;have fyS:f8 E s oy=some g:=(tv eyx').symm.trans fy1;have fyW:b5 ops s oy=some true:=gy.symm.trans fy2
 have notcall:∀{st:S} {o:Oper} {q:a3d},f8 E st o=some q->a1q o=false:=fun {st o q} hq=>by
  unfold a1q
  rcases y7 hq with⟨_,⟨t,x,h'⟩|⟨x,h'⟩|⟨t,x,k,h'⟩|⟨x,h'⟩|⟨x,h'⟩⟩|⟨_,t,x,v,h'⟩<;>rw[h']
 have lky:looks s oy=Ry:=by
  rw[<- hRy];unfold looks
  cases vn oy with
  |true=>rfl
  |false =>
  rw[notcall fyS];exact(qk fun z hz=>eyx' z (by simpa using hz)).symm
 have lkx:∀{v wr},looks (s.after oy.dst v wr) ox=Rx:=fun {v wr}=>by
  rw[<- hRx];unfold looks
  cases vn ox with
  |true=>rfl
  |false =>
  rw[notcall fx1];exact qk fun z hz=>exy z (by simpa using hz)
 have tdy:∀k,oy.dst=some k->(s.after ox.dst vx wx).t k=s.t k:=fun k hk=>f7 fun e=>a2 k e hk;have tdx:∀{v wr} k,ox.dst=some k->(s.after oy.dst v wr).t k=s.t k:=fun k hk=>f7 (a2 k hk)
 have fxS:∀{v wr},∀q,some f=some q->f8 E (s.after oy.dst v wr) ox=some q/\b5 ops (s.after oy.dst v wr) ox=some true:=fun q hq=>by
  rw[<- hq];exact⟨(tv exy).trans fx1,gx.trans fx2⟩
 have fyS':∀q,some g=some q->f8 E s oy=some q/\b5 ops s oy=some true:=fun q hq=>by
  rw[<- hq];exact⟨fyS,fyW⟩
 cases hfw:f.wr with
 | false =>
  cases hgw:g.wr with
  |false=>rw[hfw,hgw]at hm;cases hm
  | true =>
   obtain⟨out,rfl,rfl,hq1,hpre,hdx,hMx⟩:=ai9 hex fx1 fx2 hfw;obtain⟨u,rfl,rfl,hu,hup,hWy,hMy,hdy⟩:=a5z hey fy1 fy2 hgw;rw[ux]at hu
   have hu':hs E s.o (ev s) oy.op=some u:=by
    rw[<- hu];exact(al3 eyx' (fun _ _=>rfl)).symm
   obtain⟨l,new,hl,hnl,rfl,_⟩:=ae0 fyS hgw hu';dsimp only at hup hMy hWy h ⊢;have hlx:s.o f.id=some (.box l):=by rw[hid];exact hl
   have hxq:hq E anx.ex (s.after oy.dst none [(g.id,some (aa.box (bn l g.off new)))]).o (ev (s.after oy.dst none [(g.id,some (aa.box (bn l g.off new)))])) ox.op=some out:=by
    rw[<- hq1];refine aof (l':=bn l g.off new) fx1 hfw hlx (by rw[rh,hid];simp) (mo bpw) (fun j h1 h2=>?_) exy;rw[sm j bpw,if_neg bpw]
   rw[after_comm' (wr1:=[]) (wr1':=[(g.id,some (aa.box (bn l g.off new)))]) a2 (fun k=>by simp only[rh,ux])]at h;refine .cons hiy (.store _ fyW hdy hu' hup hWy hMy) lky (fun k hk=>hOy k ?_) fyS' (.cons hix (.quiet out (gx.trans fx2) hdx hxq hpre hMx) lkx (fun k hk=>hOx k ?_) fxS h)
   · unfold cb at hk ⊢
     rcases bmg.1 hk with hk|hk
     · refine bmi _ ?_
       cases hd:oy.dst with
       |none=>rw[hd]at hk;exact hk
       |some j=>rw[hd]at hk;dsimp only at hk ⊢;rw[tdy j hd];exact hk
     refine bmx _ ?_;simp only[wh,ux]at hk ⊢;exact hk
   unfold cb at hk ⊢
   rcases bmg.1 hk with hk|hk
   · refine bmi _ ?_
     cases hd:ox.dst with
     |none=>rw[hd]at hk;exact hk
     |some j=>rw[hd]at hk;dsimp only at hk ⊢;rw[tdx j hd]at hk;exact hk
   cases hk
 | true =>
  obtain⟨u,rfl,rfl,hu,hup,hWx,hMx,hdx⟩:=a5z hex fx1 fx2 hfw;obtain⟨l,new,hl,hnl,rfl,hsx⟩:=ae0 fx1 hfw hu;dsimp only at hup hMx hWx h hOx hOy hFy hey gy eyx' tdy fy1 fy2 ⊢;have hly:s.o g.id=some (.box l):=by rw[<- hid];exact hl
  have hlx1:(s.after ox.dst none [(f.id,some (aa.box (bn l f.off new)))]).o g.id=some (.box (bn l f.off new)):=by rw[rh,<- hid];simp
  cases hgw:g.wr with
  | false =>
   obtain⟨out,rfl,rfl,hq1,hpre,hdy,hMy⟩:=ai9 hey fy1 fy2 hgw
   have hyq:hq E any.ex s.o (ev s) oy.op=some out:=by
    rw[<- hq1];refine(aof fyS hgw hly hlx1 (mo bpw) (fun j h1 h2=>?_) eyx').symm;rw[sm j bpw,if_neg bpw]
   have hxs:hs E (s.after oy.dst (some out.val) []).o (ev (s.after oy.dst (some out.val) [])) ox.op=some ⟨f.off+f.len<=l.length,f.id, .box (bn l f.off new)⟩:=hsx _ _ l (by rw[ux];exact hl) exy;rw[after_comm' (wr1:=[(f.id,some (aa.box (bn l f.off new)))]) (wr1':=[]) a2 (fun k=>by simp only[rh,ux])]at h;refine .cons hiy (.quiet out fyW hdy hyq hpre hMy) lky (fun k hk=>hOy k ?_) fyS' (.cons hix (.store _ (gx.trans fx2) hdx hxs hup hWx hMx) lkx (fun k hk=>hOx k ?_) fxS h)
   · unfold cb at hk ⊢
     rcases bmg.1 hk with hk|hk
     · refine bmi _ ?_
       cases hd:oy.dst with
       |none=>rw[hd]at hk;exact hk
       |some j=>rw[hd]at hk;dsimp only at hk ⊢;rw[tdy j hd];exact hk
     cases hk
   unfold cb at hk ⊢
   rcases bmg.1 hk with hk|hk
   · refine bmi _ ?_
     cases hd:ox.dst with
     |none=>rw[hd]at hk;exact hk
     |some j=>rw[hd]at hk;dsimp only at hk ⊢;rw[tdx j hd]at hk;exact hk
   refine bmx _ ?_;simp only[wh,ux]at hk ⊢;exact hk
  | true =>
   rw[hfw,hgw]at hm;simp only[bm8]at hm;obtain⟨⟨⟨⟨⟨m1,m2⟩,m3⟩,m4⟩,m5⟩,m6⟩:=hm;have m1:=sk m1;have m2:=sk m2;have m3:=sk m3;have m4:=sk m4;have m5:=sk m5;have m6:=sk m6;obtain⟨u,rfl,rfl,hu2,hup2,hWy,hMy,hdy⟩:=a5z hey fy1 fy2 hgw;obtain⟨l2,new2,hl2,hnl2,rfl,hsy⟩:=ae0 fy1 hgw hu2;dsimp only at hup2 hMy hWy h hOy ⊢;obtain rfl:l2=bn l f.off new:=by rw[hlx1]at hl2;simpa using hl2.symm
   have hlen1:(bn l f.off new).length=l.length:=mo bpw;rw[hlen1]at hup2;have hys:hs E s.o (ev s) oy.op=some ⟨g.off+g.len<=l.length,g.id, .box (bn l g.off new2)⟩:=hsy s.o (ev s) l hly (fun z hz=>(eyx' z hz).symm)
   have hxs:hs E (s.after oy.dst none [(g.id,some (aa.box (bn l g.off new2)))]).o (ev (s.after oy.dst none [(g.id,some (aa.box (bn l g.off new2)))])) ox.op=some ⟨f.off+f.len<=(bn l g.off new2).length,f.id, .box (bn (bn l g.off new2) f.off new)⟩ :=
    hsx _ _ _ (by rw[rh,hid];simp) exy
   have hlO:∀k∈iw l,k∈Ox:=fun k hk=>hOx k (by
    unfold cb;refine bmx _ ?_;simp only[wh,hl,aa.ids,bmv]
    exact hk)
   have hn1:∀k∈iw new,k∈anx.M:=fun k hk=>hMx k (anf hk);have hn2:∀k∈iw new2,k∈any.M:=fun k hk=>hMy k (anf hk)
   rw [after_comm' (wr1:=[(f.id,some (aa.box (bn (bn l g.off new2) f.off new)))]) (wr1':=[(g.id,some (aa.box (bn l g.off new2)))]) a2 (fun k=>by
    simp only[rh,hid];by_cases hk:k=g.id
    · simp only [hk,if_true]
      rw[as5 bpw bpw bpw]
    simp only[hk,if_false])]at h
   refine .cons hiy (.store _ fyW hdy hys hup2 hWy (fun k hk=>?_)) lky (fun k hk=>?_) fyS' (.cons hix (.store _ (gx.trans fx2) hdx hxs (by dsimp only;rw[mo bpw];exact hup) hWx (fun k hk=>?_)) lkx (fun k hk=>?_) fxS h)
   · rcases zf hk with hk|hk
     · exact m1 k (hlO k hk)
     exact hn2 k hk
   · rcases a5s (s:=s.after ox.dst none [(f.id,some (aa.box (bn l f.off new)))]) (s':=s) (ob:=aa.box (bn (bn l f.off new) g.off new2)) (fun k hk=>(tdy k hk).symm) hly hk with hk|hk
     · exact hOy k hk
     exact m4 k (hlO k hk)
   · rcases zf hk with hk|hk
     · rcases zf hk with hk|hk
       · exact m2 k (hlO k hk)
       exact m3 k (hn2 k hk)
     exact hn1 k hk
   rcases a5s (s:=s) (s':=s.after oy.dst none [(g.id,some (aa.box (bn l g.off new2)))]) (ob:=aa.box (bn l f.off new)) (l':=bn l g.off new2) (fun k hk=>tdx k hk) (by rw[rh,hid];simp) hk with hk|hk
   · exact hOx k hk
   rcases zf hk with hk|hk
   · exact hlO k hk
   exact m5 k (hn2 k hk)
def swap{sf:S}{x y:Tr}(h:mi P E nt ops (x::y::T) s sf)(hp:ab9 ops x y=true):mi P E nt ops (y::x::T) s sf:=by
 unfold ab9 at hp;split at hp
 · rename_i ox oy h1 h2
   rcases(bnf _ _▸hp:_\/_)with hp|hp
   · exact be4 h h1 h2 hp
   exact bfr h h1 h2 hp
 cases hp
def aia {sf:S} {y:Tr}:∀{pre:List Tr} {s:S},mi P E nt ops (pre++y::T) s sf->(∀x∈pre,ab9 ops x y=true)->mi P E nt ops (y::(pre++T)) s sf
 | [],_,h,_=>h
 | x::pre,s,h,hp=>by
  rw[bog]at h;have hx:=hp x bpz
  cases h with
  |cons hi he hR hO hF hT =>
  have:=aia hT fun z hz=>hp z (by simp[hz]);exact swap (.cons hi he hR hO hF this) hx
end
end
end
end Go.Hx
