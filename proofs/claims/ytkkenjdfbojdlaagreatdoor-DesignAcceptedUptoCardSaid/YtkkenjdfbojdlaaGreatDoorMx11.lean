/- A part of the proof: Hx12. -/
import Derived.Test.YtkkenjdfbojdlaaGreatDoorMx10
set_option linter.all false
namespace Go.Hx
section
open Go.RowKit
def qr (o:b4):List Nat -> List Nat
 | []=>[]
 | k :: r=>k :: ((match o k with | some ob=>ob.ids | none=>[]) ++ qr o r)
def y6 {o:b4}:∀ {l:List Nat} {k:Nat},k ∈ l -> k ∈ qr o l
 | x :: l,k,h=>by
  rcases bok.1 h with rfl | h
  · simp [qr]
  simp only [qr,bok,boj];exact .inr (.inr (y6 h))
def a30 {o:b4} {id:Nat} {ob:a8} (ho:o id = some ob):∀ {l:List Nat} {k:Nat},id ∈ l -> k ∈ ob.ids -> k ∈ qr o l
 | x :: l,k,h,hk=>by
  rcases bok.1 h with rfl | h
  · simp only [qr,ho,bok,boj];exact .inr (.inl hk)
  simp only [qr,bok,boj];exact .inr (.inr (a30 ho h hk))
def aed {o o':b4}:∀ {l:List Nat},(∀ k ∈ l,o' k = o k) -> qr o' l = qr o l
 | [],_=>rfl
 | x :: l,h=>by
  simp only [qr];rw [h x bst,aed fun y hy=>h y (by simp [hy])]
section
variable {o o':b4} {e e':Ev}
def aj5:∀ (n:Nat) (l:List HV) (k:Nat),k ∈ mn (l.drop n) -> k ∈ mn l
 | 0,l,k,h=>h
 | n + 1,[],k,h=>h
 | n + 1,x :: l,k,h=>by
  simp only [mn,boj];exact .inr (aj5 n l k h)
def a2u:∀ {l:List HV},(∀ k ∈ mn l,o' k = o k) -> zw o' l = zw o l
 | [],_=>rfl
 | x :: l,h=>by
  simp only [zw];rw [abg (o:=o) (o':=o') (h:=x) fun k hk=>h k (boq _ hk),a2u fun k hk=>h k (bos _ hk)]
def aql {h:HV} (ho:∀ k ∈ qr o h.ids,o' k = o k):aa2 o' h = aa2 o h:=by
 cases h with
 | p x=>rfl
 | ref id n=>exact abg fun k hk=>ho k (y6 hk)
 | eptr id n i j=>rfl
 | win id n i m=>rfl
 | clo g k caps=>rfl
 | row id i k=>rfl
 | rptr id i k r j=>rfl
 | pin id n ad cap=>rfl
 | ptr id off =>
  have hid:=ho id (y6 bt1);simp only [aa2];rw [hid]
  cases hob:o id with
  | none=>rfl
  | some ob =>
   cases ob with
   | mp kk n f=>rfl
   | bld fr T e l=>rfl
   | ex d v b x=>rfl
   | nest e et es n m g pd=>rfl
   | arr wr s e n f=>rfl
   | arrh s e n ms f=>rfl
   | box l =>
    dsimp only;rw [a2u (o:=o) (o':=o') fun k hk=>ho k (a30 hob bt1 (by simpa [a8.ids] using aj5 off l k hk))]
def a8t {l l':List Nat} (h:∀ k ∈ l,k ∈ l'):∀ k ∈ qr o l,k ∈ qr o l':=by
 induction l with
 | nil=>intro k hk;simp [qr] at hk
 | cons x l ih =>
  intro k hk;simp only [qr,bok,boj] at hk
  rcases hk with rfl | hk | hk
  · exact y6 (h _ bst)
  · cases hx:o x with
    | none=>rw [hx] at hk;cases hk
    | some ob=>rw [hx] at hk;exact a30 hx (h x bst) hk
  exact ih (fun y hy=>h y (by simp [hy])) k hk
def aqv {x:HC} (ho:∀ k ∈ qr o x.ids,o' k = o k):a2q o' x = a2q o x:=by
 cases x with
 | one h=>simp only [a2q];rw [aql (o:=o) (o':=o') ho]
 | agg l=>simp only [a2q];rw [a2u (o:=o) (o':=o') fun k hk=>ho k (y6 hk)]
def a4n:∀ {l:List Operand},(∀ x ∈ l,e' x = e x) -> (∀ k ∈ qr o (en e l),o' k = o k) -> l7 o' e' l = l7 o e l
 | [],_,_=>rfl
 | x :: l,hx,ho=>by
  simp only [l7];rw [hx x bst,a4n (fun y hy=>hx y (by simp [hy])) (fun k hk=>ho k (a8t (fun j hj=>by simp only [en];exact bos _ hj) k hk))]
  cases hex:e x with
  | none=>rfl
  | some r =>
   cases r with
   | tup l=>rfl
   | v cc =>
    have:=aqv (o:=o) (o':=o') (x:=cc) fun k hk=>ho k (a8t (fun j hj=>by simp only [en,hex];exact boq _ hj) k hk)
    cases l7 o e l with
    | none=>rfl
    | some q =>
     obtain ⟨q1,q2,q3⟩:=q;dsimp only;rw [this]
end
def a3n (o:Oper):Bool:=match o.op with | .call c=>(match c.callee with | .value _=>true | _=>false) | _=>false
def yg (o:Oper):Bool:=match o.op with | .move _=>true | .assign _=>true | _=>false
def b1p {o:Oper} (h:yg o = true):∃ x,o.op = .move x \/ o.op = .assign x:=by
 unfold yg at h;split at h
 · rename_i x e;exact ⟨x, .inl e⟩
 · rename_i x e;exact ⟨x, .inr e⟩
 cases h
def looks (s:S) (o:Oper):List Nat:=bif yg o then [] else bif a3n o then qr s.o (en (ev s) o.op.operands.toList) else en (ev s) o.op.operands.toList
def a8x {s:S} {o:Oper} {k:Nat} (hs:yg o = false) (h:k ∈ en (ev s) o.op.operands.toList):k ∈ looks s o:=by
 unfold looks;rw [hs,cond_false]
 cases a3n o with
 | true=>exact y6 h
 | false=>exact h
section
variable {P:Program} {E:Env} {nt:Nat} {s s':S} {ops:Array Oper} {o:Oper} {an:Ann}
section
variable {x:Option HR}
def auc {wr:Wr} (he:Eff P E nt ops o an s x wr):∀ q ∈ wr,q.1 ∈ an.W:=by
 intro q h
 cases he with
 | skip=>cases h
 | cut out id hw hd hq' hp hW =>
  rw [hW];simp only [bom] at h;subst h;simp
 | quiet=>cases h
 | make nw hw hd hq' hp hm hn hW hN hM=>rw [bom.1 h,hW];exact bom.2 rfl
 | store u hw hd hq' hp hW hM=>rw [bom.1 h,hW];exact bom.2 rfl
 | app u hw hd hq' hp hn hW hN hM=>rw [bom.1 h,hW];exact bom.2 rfl
 | call=>cases h
 | conv=>cases h
 | fcall cl f caps args hcs o1 o2 res fx hw hd ho hc hf hv hco hfun hsub hnew hnm hcl hclr hW hN hM =>
  rw [hW]
  rcases boj.1 h with h | h
  · obtain ⟨p,hp,rfl⟩:=boo.1 h
    exact bos _ (boo.2 ⟨p,hp,rfl⟩)
  obtain ⟨p,hp,rfl⟩:=boo.1 h;exact boq _ (boo.2 ⟨p,hp,rfl⟩)
def a5l:∀ {l:List (Nat × a8)} {p:Nat × a8} {k:Nat},p ∈ l -> k ∈ p.2.ids -> k ∈ abr l
 | (i,x) :: l,p,k,h,hk=>by
  rcases bok.1 h with rfl | h
  · exact boq _ hk
  exact bos _ (a5l h hk)
def b4u {wr:Wr} (he:Eff P E nt ops o an s x wr):(∀ r,x = some r -> ∀ k ∈ r.ids,k ∈ an.M) /\ (∀ id ob,(id,some ob) ∈ wr -> ∀ k ∈ ob.ids,k ∈ an.M):=by
 cases he with
 | skip=>exact ⟨(fun r h k hk=>by cases h;simp [HR.ids,a4v] at hk),(fun id ob h=>by cases h)⟩
 | cut out id hw hd hq' hp hW=>exact ⟨(fun r h k hk=>by
  cases h;unfold a0a at hq';split at hq' <;> try (cases hq';done)
  split at hq' <;> try (cases hq';done)
  split at hq' <;> try (cases hq';done)
  split at hq' <;> try (cases hq';done)
  rename_i out1 hsl;simp only [bo5,bof] at hq';obtain ⟨rfl,_⟩:=hq';obtain ⟨y,hy⟩:=aqg hsl;have hk':k ∈ out1.val.ids:=hk;rw [hy] at hk'
  simp [bn,HR.ids,HC.ids,HV.ids] at hk'),(fun id ob h=>by simp at h)⟩
 | quiet out hw hd hq' hp hM =>
  refine ⟨fun r h k hk=>?_,(fun id ob h=>by cases h)⟩;simp only [bo5] at h;subst h;rw [<- hM];exact hk
 | make nw hw hd hq' hp hm hn hW hN hM =>
  refine ⟨fun r h k hk=>?_,fun id ob h k hk=>?_⟩
  · simp only [bo5] at h;subst h;rw [<- hM];exact boq _ hk
  simp only [bom,bof,bo5] at h;rw [<- hM,<- h.2];exact bos _ hk
 | store u hw hd hq' hp hW hM =>
  refine ⟨(fun r h=>by cases h),fun id ob h k hk=>?_⟩;simp only [bom,bof,bo5] at h;rw [h.2] at hk;exact hM k hk
 | app u hw hd hq' hp hn hW hN hM =>
  refine ⟨fun r h k hk=>?_,fun id ob h k hk=>?_⟩
  · simp only [bo5] at h;subst h;rw [<- hM];exact boq _ hk
  simp only [bom,bof,bo5] at h;rw [<- hM,<- h.2];exact bos _ hk
 | call cl f fst caps args p vs b hw hd ho hc hf hv hp hco hpure hb hM =>
  refine ⟨fun r h k hk=>?_,(fun id ob h=>by cases h)⟩;simp only [bo5] at h;subst h;rw [PR.ids_toH] at hk;cases hk
 | conv sr ds x b hw hd ho hcv hp hM =>
  refine ⟨fun r h k hk=>?_,(fun id ob h=>by cases h)⟩;simp only [bo5] at h;subst h;simp [HR.ids,HC.ids,HV.ids] at hk
 | fcall cl f caps args hcs o1 o2 res fx hw hd ho hc hf hv hco hfun hsub hnew hnm hcl hclr hW hN hM =>
  refine ⟨fun r h k hk=>?_,fun id ob h k hk=>?_⟩
  · simp only [bo5] at h;subst h;rw [hM];exact boq _ hk
  rw [hM]
  rcases boj.1 h with h | h
  · obtain ⟨p,hp,e⟩:=boo.1 h
    simp only [bof,bo5] at e;refine bos _ (a5l hp ?_);rw [e.2];exact hk
  obtain ⟨p,hp,e⟩:=boo.1 h;simp at e
def aqm {E:Env} {o o':b4} {e e':Ev} {op:Op} (hx:∀ x ∈ op.operands,e' x = e x) (ho:∀ k ∈ en e op.operands.toList,o' k = o k):a0a E o' e' op = a0a E o e op:=by
 cases op with
 | slice t x lo hi mx =>
  cases x with
  | tmp d =>
   have h1:=hx (.tmp d) bsw;simp only [a0a];rw [h1]
   cases he:e (.tmp d) with
   | none=>rfl
   | some r =>
    match r,he with
    | .v (.one (.ref id n)),he =>
     dsimp only;rw [ho id (gh (e:=e) (x:=.tmp d) he bsw id (by simp [HR.ids,HC.ids,HV.ids]))]
     have hc:∀ r,∀ y ∈ (Op.slice t (.tmp d) lo hi mx).operands,a2j e' d r y = a2j e d r y:=fun r y hy=>by
      cases y with
      | tmp k =>
       simp only [a2j]
       cases hb:Nat.beq k d with
       | true=>rfl
       | false=>exact hx _ hy
      | const v=>exact hx _ hy
      | func v=>exact hx _ hy
      | global v=>exact hx _ hy
     cases ho:o id with
     | none=>rfl
     | some ob =>
      cases ob with
      | arr wr sz el n' f =>
       dsimp only
       have:∀ r,n7 E (a2j e' d r) t (.tmp d) lo hi mx = n7 E (a2j e d r) t (.tmp d) lo hi mx:=fun r=>by
        unfold n7;rw [hc r (.tmp d) bsw,p7 (x:=lo) fun y hy=>hc r y (by simp [Op.operands] at hy ⊢;simp [hy]),p7 (x:=hi) fun y hy=>hc r y (by simp [Op.operands] at hy ⊢;simp [hy]),p7 (x:=mx) fun y hy=>hc r y (by simp [Op.operands] at hy ⊢;simp [hy])]
       rw [this]
      | _=>rfl
    | .v (.one (.p _)),_=>rfl
    | .v (.one (.ptr _ _)),_=>rfl
    | .v (.one (.eptr _ _ _ _)),_=>rfl
    | .v (.one (.win _ _ _ _)),_=>rfl
    | .v (.one (.clo _ _ _)),_=>rfl
    | .v (.one (.row _ _ _)),_=>rfl
    | .v (.one (.rptr _ _ _ _ _)),_=>rfl
    | .v (.one (.pin _ _ _ _)),_=>rfl
    | .v (.agg _),_=>rfl
    | .tup _,_=>rfl
  | _=>rfl
 | _=>rfl
def aib {wr:Wr} (he:Eff P E nt ops o an s x wr) (hx:∀ y ∈ o.op.operands,ev s' y = ev s y) (hg:ax ops s' o = ax ops s o) (ho:∀ k ∈ looks s o,s'.o k = s.o k) (hW:∀ k ∈ an.W,s'.o k = s.o k) (hN:∀ k ∈ an.N,NMx s an.W k -> NMx s' an.W k):Eff P E nt ops o an s' x wr:=by
 cases hst:yg o with
 | true =>
  obtain ⟨y,hop⟩:=b1p hst;have hy:ev s' y = ev s y:=hx y (by rcases hop with h | h <;> simp [h,Op.operands])
  cases he with
  | skip hw hd=>exact .skip (hg.trans hw) hd
  | quiet out hw hd hq' hp hM =>
   refine .quiet out (hg.trans hw) hd ?_ hp hM;rw [<- hq']
   rcases hop with h | h <;> rw [h] <;> simp only [hq] <;> rw [hy]
  | cut out id hw hd hq' hp hW'=>rcases hop with h | h <;> rw [h] at hq' <;> cases hq'
  | make nw hw hd hq' hp hm hn hW' hN' hM=>rcases hop with h | h <;> rw [h] at hq' <;> cases hq'
  | store u hw hd hq' hp hW' hM=>rcases hop with h | h <;> rw [h] at hq' <;> cases hq'
  | app u hw hd hq' hp hn hW' hN' hM=>rcases hop with h | h <;> rw [h] at hq' <;> cases hq'
  | call cl f fst caps args p vs b hw hd hop2=>rcases hop with h | h <;> rw [h] at hop2 <;> cases hop2
  | conv sr ds x b hw hd hop2=>rcases hop with h | h <;> rw [h] at hop2 <;> cases hop2
  | fcall cl f caps args hcs o1 o2 res fx hw hd hop2=>rcases hop with h | h <;> rw [h] at hop2 <;> cases hop2
 | false =>
 have ho1:∀ k ∈ en (ev s) o.op.operands.toList,s'.o k = s.o k:=fun k hk=>ho k (a8x hst hk)
 cases he with
 | skip hw hd=>exact .skip (hg.trans hw) hd
 | cut out id hw hd hq' hp hW'=>exact .cut out id (hg.trans hw) hd ((aqm hx ho1).trans hq') hp hW'
 | quiet out hw hd hq' hp hM=>exact .quiet out (hg.trans hw) hd ((b4f hx ho1).trans hq') hp hM
 | make nw hw hd hq' hp hm hn hW' hN' hM =>
  have e:=(hW _ (by rw [hW'];simp)).trans hn;have q:=hN an.id (by rw [hN'];simp) (hm.nmx _);rw [hW'] at q;exact .make nw (hg.trans hw) hd ((b2x hx).trans hq') hp (q.nm e) e hW' hN' hM
 | store u hw hd hq' hp hW' hM=>exact .store u (hg.trans hw) hd ((aqe hx ho1).trans hq') hp hW' hM
 | app u hw hd hq' hp hn hW' hN' hM =>
  refine .app u (hg.trans hw) hd ((b0l hx ho1).trans hq') hp (fun h=>?_) hW' hN' hM;obtain ⟨h1,h2⟩:=hn h
  have hid:u.id = an.id:=by
   have:=hq';unfold hap at this;split at this <;> try (cases this;done)
   split at this <;> try (cases this;done)
   case h_2 =>
    have e:u.new = false:=by
     unfold a12 at this;split at this <;> try (cases this;done)
     split at this <;> try (cases this;done)
     split at this <;> try (cases this;done)
     split at this <;> try (cases this;done)
     split at this <;> try (cases this;done)
     split at this <;> try (cases this;done)
     split at this <;> try (cases this;done)
     unfold ahv at this;split at this <;> try (cases this;done)
     split at this <;> try (cases this;done)
     simp only [bo5] at this;subst this;rfl
    rw [e] at h;cases h
   unfold aak at this;split at this <;> try (cases this;done)
   split at this <;> try (cases this;done)
   unfold a9d at this;split at this <;> try (cases this;done)
   split at this <;> try (cases this;done)
   split at this <;> try (cases this;done)
   split at this <;> try (cases this;done)
   unfold a07 at this;split at this <;> try (cases this;done)
   · unfold a5h at this
     split at this <;> try (cases this;done)
     split at this <;> try (cases this;done)
     simp only [bo5] at this;subst this;cases h
   · split at this <;> try (cases this;done)
     split at this <;> try (cases this;done)
     simp only [bo5] at this;subst this;cases h
   · split at this
     · split at this <;> try (cases this;done)
       simp only [bo5] at this;subst this;cases h
     split at this
     · split at this <;> try (cases this;done)
       simp only [bo5] at this;subst this;cases h
     split at this <;> try (cases this;done)
     simp only [bo5] at this;subst this;cases h
   split at this <;> try (cases this;done)
   split at this <;> try (cases this;done)
   split at this <;> try (cases this;done)
   simp only [bo5] at this;subst this;rfl
  have e:=(hW _ (by rw [hW',hid];simp)).trans h2;have q:=hN an.id (by rw [hN' h];simp) (h1.nmx _);rw [hW',hid] at q;exact ⟨q.nm e,e⟩
 | conv sr ds x b hw hd hop hcv hp hM =>
  refine .conv sr ds x b (hg.trans hw) hd hop ?_ hp hM;have hxx:ev s' x = ev s x:=hx x (by rw [hop];simp [Op.operands]);unfold adt at hcv ⊢;rw [hxx];exact hcv
 | call cl f fst caps args p vs b hw hd hop hc hf hv hp hco hpure hb hM =>
  have hxa:∀ y ∈ cl.args.toList,ev s' y = ev s y:=fun y hy=>hx y (by rw [hop];simp only [Op.operands,Call.operands];simp;exact .inr (by simpa using hy))
  have hcal:callee (ev s') cl = callee (ev s) cl:=by
   unfold callee;split
   · rename_i fo hcl
     rw [hx fo (by rw [hop];simp [Op.operands,Call.operands,hcl])]
   rfl
  refine .call cl f fst caps args p vs b (hg.trans hw) hd hop (hcal.trans hc) hf ((a4n hxa fun k hk=>ho k ?_).trans hv) hp hco hpure hb hM
  obtain ⟨fo,hcl⟩:∃ fo,cl.callee = .value fo:=by
   unfold callee at hc;split at hc
   · rename_i fo h;exact ⟨fo,h⟩
   cases hc
  unfold looks;rw [hst,cond_false,show a3n o = true from by unfold a3n;rw [hop];simp only [hcl]];refine a8t (fun j hj=>?_) k hk;rw [hop];simp only [Op.operands,Call.operands]
  have key:∀ l1 l2:List Operand,∀ j ∈ en (ev s) l2,j ∈ en (ev s) (l1 ++ l2):=by
   intro l1
   induction l1 with
   | nil=>intro l2 j hj;exact hj
   | cons y l1 ih=>intro l2 j hj;simp only [br9,en];exact bos _ (ih l2 j hj)
  rw [hcl];simpa using key [fo] cl.args.toList j hj
 | fcall cl f caps args hcs o1 o2 res fx hw hd hop hc hf hv hco hfun hsub hnew hnm hcl hclr hW' hN' hM =>
  have hxa:∀ y ∈ cl.args.toList,ev s' y = ev s y:=fun y hy=>hx y (by rw [hop];simp only [Op.operands,Call.operands];simp;exact .inr (by simpa using hy))
  have hcal:xt (ev s') cl = xt (ev s) cl:=by
   unfold xt;split
   · rename_i fo hcl
     rw [hx fo (by rw [hop];simp [Op.operands,Call.operands,hcl])]
   rfl
  have hv':ud (ev s') cl.args.toList = ud (ev s) cl.args.toList:=by
   have:∀ l:List Operand,(∀ y ∈ l,ev s' y = ev s y) -> ud (ev s') l = ud (ev s) l:=by
    intro l
    induction l with
    | nil=>intro _;rfl
    | cons y l ih =>
     intro hl;simp only [ud];rw [hl y bst,ih fun z hz=>hl z (by simp [hz])]
   exact this _ hxa
  have hsame:∀ k,k ∈ dn o1 ++ dn o2 -> s'.o k = s.o k:=fun k hk=>hW k (by rw [hW'];exact hk);refine .fcall cl f caps args hcs o1 o2 res fx (hg.trans hw) hd hop (hcal.trans hc) hf (hv'.trans hv) hco hfun (fun id ob hid=>?_) (fun id h2 h1=>?_) (fun id h2 h1=>?_) hcl hclr hW' hN' hM
  · rw [hsame id (boq _ (a4f hid))]
    exact hsub id ob hid
  · rw [hsame id (bos _ h2)]
    exact hnew id h2 h1
  have:=hN id (hN' id h2 h1);rw [hW'] at this;exact this (hnm id h2 h1)
end
end
structure bi5 where
 R:List Nat
 W:List Nat
 N:List Nat
 M:List Nat
 O:List Nat
def zt (s:S):Wr -> List Nat
 | []=>[]
 | (id,_) :: r=>(match s.o id with | some ob=>ob.ids | none=>[]) ++ zt s r
def d4 (s:S) (d:Option Tmp) (wr:Wr):List Nat :=
 (match d with | some d=>(match s.t d with | some v=>v.ids | none=>[]) | none=>[]) ++ zt s wr
def aos {s:S} {id:Nat} {ob:a8} (ho:s.o id = some ob) {k:Nat} (hk:k ∈ ob.ids):∀ {l:Wr} {r:Option a8},(id,r) ∈ l -> k ∈ zt s l
 | (e,x) :: l,r,h=>by
  rcases bok.1 h with h | h
  · simp only [bof] at h
    obtain ⟨rfl,rfl⟩:=h;simp only [zt,ho];exact boq _ hk
  simp only [zt];exact bos _ (aos ho hk h)
def a6k {s s':S}:∀ {l:Wr},(∀ q ∈ l,s'.o q.1 = s.o q.1) -> zt s' l = zt s l
 | [],_=>rfl
 | (id,x) :: l,h=>by
  simp only [zt];rw [h (id,x) bst,a6k fun q hq=>h q (by simp [hq])]
def a8d:List Nat -> List Nat -> Bool
 | [],_=>true
 | x :: l,m=>!(m.any (Nat.beq x)) && a8d l m
def vl:∀ {l m:List Nat},a8d l m = true -> ∀ k ∈ l,k ∉ m
 | x :: l,m,h,k,hk,hm=>by
  simp only [a8d,boc,boz] at h
  rcases bok.1 hk with rfl | hk
  · have:=h.1
    rw [bpw] at this;exact this k hm bst
  exact vl h.2 k hk hm
def ag8 (ops:Array Oper) (ox oy:Oper) (x y:bi5):Bool :=
 ox.apart ops oy && a8d x.W y.R && a8d x.W y.W && a8d y.W x.R && a8d y.N x.O && a8d x.N y.M
section
variable {P:Program} {E:Env} {nt:Nat} {s:S} {ops:Array Oper}
section
variable {d:Option Tmp} {k:Nat} {wr:Wr} {x:Option HR}
def gm (h:d ≠ some k):(s.after d x wr).t k = s.t k:=by
 unfold S.after S.putD
 cases d with
 | none=>rfl
 | some j =>
  have hne:k ≠ j:=fun e=>h (by rw [e]);simp [S.put,S.setW,hne]
def rh:(s.after d x wr).o k = match j7 wr k with | some r=>r | none=>s.o k:=by
 unfold S.after S.putD;cases d <;> rfl
def agf (h:∀ q ∈ wr,q.1 ≠ k):(s.after d x wr).o k = s.o k:=by
 rw [rh,awi h]
def a5t {y:Operand} (h:∀ k,d = some k -> y ≠ .tmp k):ev (s.after d x wr) y = ev s y:=by
 cases y with
 | tmp k=>exact gm fun e=>h k e rfl
 | _=>rfl
variable {o:Oper}
def wh (h:∀ k,d = some k -> k ∉ o.looksAt ops):ax ops (s.after d x wr) o = ax ops s o:=by
 unfold ax;split
 · rfl
 rename_i j want hg
 cases hd:(ops[j]?).bind (·.dst) with
 | none=>rfl
 | some k =>
  dsimp only;rw [gm fun e=>h k e (by simp [Oper.looksAt,hg,hd])]
def uf (h:k ∉ o.looksAt ops):∀ y ∈ o.op.operands,y ≠ .tmp k:=by
 rintro y hy rfl;apply h;unfold Oper.looksAt;apply boq;rw [List.mem_filterMap];exact ⟨.tmp k,by simpa using hy,rfl⟩
def ajy {W:List Nat} (hs:NMx s W k) (hx:∀ r,x = some r -> k ∉ r.ids) (hw:∀ id ob,(id,some ob) ∈ wr -> k ∉ ob.ids):NMx (s.after d x wr) W k:=by
 refine ⟨?_, ?_,hs.2.2⟩
 · intro j r hr hm
   by_cases hj:d = some j
   · subst hj
     have:(s.after (some j) x wr).t j = x:=by unfold S.after S.putD;simp [S.put]
     rw [this] at hr;exact hx r hr (HR.men_ids hm)
   rw [gm hj] at hr;exact hs.1 j r hr hm
 intro id ob hidW hob hm;rw [rh] at hob
 cases hl:j7 wr id with
 | none=>rw [hl] at hob;exact hs.2.1 id ob hidW hob hm
 | some r =>
  rw [hl] at hob;have hob:r = some ob:=hob;subst hob;exact hw id ob (vj hl) (a8.men_ids hm)
def aqi {W:List Nat} (hs:NMx (s.after d x wr) W k) (ho:k ∉ d4 s d wr):NMx s W k:=by
 refine ⟨?_, ?_,hs.2.2⟩
 · intro j r hr hm
   by_cases hj:d = some j
   · subst hj
     apply ho;unfold d4;simp only [hr];exact boq _ (HR.men_ids hm)
   exact hs.1 j r (by rw [gm hj];exact hr) hm
 intro id ob hidW hob hm
 cases hl:j7 wr id with
 | none=>exact hs.2.1 id ob hidW (by rw [rh,hl];exact hob) hm
 | some r =>
  apply ho;unfold d4;exact bos _ (aos hob (a8.men_ids hm) (vj hl))
def aw7 {d':Option Tmp} {x':Option HR} {wr':Wr} (hd:∀ k,d = some k -> d' ≠ some k) (hw:∀ q ∈ wr,∀ q' ∈ wr',q.1 ≠ q'.1):
 (s.after d x wr).after d' x' wr' = (s.after d' x' wr').after d x wr:=by
 have ht:∀ k,((s.after d x wr).after d' x' wr').t k = ((s.after d' x' wr').after d x wr).t k:=by
  intro k;by_cases h1:d = some k
  · have h2:=hd k h1
    subst h1;rw [gm h2];have e1:(s.after (some k) x wr).t k = x:=by unfold S.after S.putD;simp [S.put]
    have e2:((s.after d' x' wr').after (some k) x wr).t k = x:=by unfold S.after S.putD;simp [S.put]
    rw [e1,e2]
  by_cases h2:d' = some k
  · subst h2
    rw [gm (s:=s.after (some k) x' wr') h1];have e1:((s.after d x wr).after (some k) x' wr').t k = x':=by unfold S.after S.putD;simp [S.put]
    have e2:(s.after (some k) x' wr').t k = x':=by unfold S.after S.putD;simp [S.put]
    rw [e1,e2]
  rw [gm h2,gm h1,gm h1,gm h2]
 have ho:∀ k,((s.after d x wr).after d' x' wr').o k = ((s.after d' x' wr').after d x wr).o k:=by
  intro k;rw [rh,rh,rh,rh]
  cases h1:j7 wr k with
  | none=>rfl
  | some r =>
   cases h2:j7 wr' k with
   | none=>rfl
   | some r'=>exact (hw (k,r) (vj h1) (k,r') (vj h2) rfl).elim
 cases h1:(s.after d x wr).after d' x' wr' with
 | mk t1 o1 =>
  cases h2:(s.after d' x' wr').after d x wr with
  | mk t2 o2 =>
   rw [h1,h2] at ht ho;have:t1 = t2:=funext ht;have:o1 = o2:=funext ho;simp_all
structure a5j where
 id:Nat
 off:Nat
 len:Nat
 wr:Bool
def gq (E:Env) (s:S) (o:Oper):Option a5j :=
 match o.op with
 | .load t x=>match E t,ev s x with | some i,some (.v (.one (.ptr id off)))=>some ⟨id,off,i.size,false⟩ | _,_=>none
 | .nilCheck x=>match ev s x with | some (.v (.one (.ptr id off)))=>some ⟨id,off,0,false⟩ | _=>none
 | .move x=>match ev s x with | some (.v (.one (.ptr id off)))=>some ⟨id,off,0,false⟩ | _=>none
 | .assign x=>match ev s x with | some (.v (.one (.ptr id off)))=>some ⟨id,off,0,false⟩ | _=>none
 | .fieldAddr _ x _=>match ev s x with | some (.v (.one (.ptr id off)))=>some ⟨id,off,0,false⟩ | _=>none
 | .store t x _=>match E t,ev s x with | some i,some (.v (.one (.ptr id off)))=>some ⟨id,off,i.size,true⟩ | _,_=>none
 | _=>none
def wn {E:Env} {s s':S} (h:∀ y ∈ o.op.operands,ev s' y = ev s y):gq E s' o = gq E s o:=by
 unfold gq;cases ho:o.op <;> rw [ho] at h <;> simp only [Op.operands] at h <;> try rfl
 all_goals (dsimp only;rw [h _ bst])
structure Tr where
 i:Nat
 an:Ann
 R:List Nat
 O:List Nat
 F:Option a5j
def Tr.foot (t:Tr):bi5:=⟨t.R,t.an.W,t.an.N,t.an.M,t.O⟩
inductive oh (P:Program) (E:Env) (nt:Nat) (ops:Array Oper):List Tr -> S -> S -> Prop where
 | nil (s:S):oh P E nt ops [] s s
 | cons {i:Nat} {an:Ann} {R O:List Nat} {F:Option a5j} {o:Oper} {s s':S} {x:Option HR} {wr:Wr} {T:List Tr} (hi:ops[i]? = some o) (he:Eff P E nt ops o an s x wr) (hR:looks s o = R) (hO:∀ k ∈ d4 s o.dst wr,k ∈ O)
  (hF:∀ f,F = some f -> gq E s o = some f /\ ax ops s o = some true) (hT:oh P E nt ops T (s.after o.dst x wr) s'):oh P E nt ops (⟨i,an,R,O,F⟩ :: T) s s'
def a7d (l m:List Nat):Bool:=l.all fun k=>m.any (Nat.beq k)
def v8 {l m:List Nat} (h:a7d l m = true):∀ k ∈ l,k ∈ m:=by
 intro k hk;unfold a7d at h;rw [bp1] at h;have:=h k hk;rw [bp4] at this;obtain ⟨x,hx,hb⟩:=this;rw [bp6 hb];exact hx
def ah8 (ops:Array Oper) (ox oy:Oper) (x y:Tr):Bool :=
 match x.F,y.F with
 | some f,some g =>
  ox.apart ops oy && Nat.beq f.id g.id && (Nat.ble (f.off + f.len) g.off || Nat.ble (g.off + g.len) f.off) && x.an.N.isEmpty && y.an.N.isEmpty &&
  (match f.wr,g.wr with
   | true,true=>a7d x.O y.an.M && a7d x.O x.an.M && a7d y.an.M x.an.M && a7d x.O y.O && a7d y.an.M x.O && a7d x.an.M y.an.M
   | true,false=>true
   | false,true=>true
   | false,false=>false)
 | _,_=>false
def aec (ops:Array Oper) (x y:Tr):Bool :=
 match ops[x.i]?,ops[y.i]? with
 | some ox,some oy=>ag8 ops ox oy x.foot y.foot || ah8 ops ox oy x y
 | _,_=>false
def ab7 (h:∀ y ∈ o.op.operands,ev (s.after d x wr) y = ev s y) (ho:yg o = false -> ∀ k ∈ en (ev s) o.op.operands.toList,(s.after d x wr).o k = s.o k):looks (s.after d x wr) o = looks s o:=by
 unfold looks
 cases hst:yg o with
 | true=>rfl
 | false =>
 have ho:=ho hst;rw [tv (e:=ev s) (fun y hy=>h y (by simpa using hy)),aed ho]
variable {T:List Tr}
def bje {sf:S} {x y:Tr} {ox0 oy0:Oper} (h:oh P E nt ops (x :: y :: T) s sf) (hx0:ops[x.i]? = some ox0) (hy0:ops[y.i]? = some oy0) (hp:ag8 ops ox0 oy0 x.foot y.foot = true):oh P E nt ops (y :: x :: T) s sf:=by
 cases h with
 | @cons ix anx Rx Ox Fx ox _ _ vx wx _ hix hex hRx hOx hFx h =>
 cases h with
 | @cons iy any Ry Oy Fy oy _ _ vy wy _ hiy hey hRy hOy hFy h =>
 obtain rfl:ox0 = ox:=by have:=hx0.symm.trans hix;simpa using this
 obtain rfl:oy0 = oy:=by have:=hy0.symm.trans hiy;simpa using this
 simp only [ag8,boc,Tr.foot] at hp;obtain ⟨⟨⟨⟨⟨hap,h1⟩,h2⟩,h3⟩,h4⟩,h5⟩:=hp;have h1:=vl h1;have h2:=vl h2;have h3:=vl h3;have h4:=vl h4;have h5:=vl h5;obtain ⟨a1,a2,a3⟩:=Oper.apart_spec hap;have hwx:=auc hex;have hwy:=auc hey;have eyx:∀ z ∈ oy0.op.operands,ev (s.after ox0.dst vx wx) z = ev s z:=fun z hz=>a5t fun k hk=>uf (a1 k hk) z hz;have gy:ax ops (s.after ox0.dst vx wx) oy0 = ax ops s oy0:=wh a1
 have oyx:∀ k ∈ Ry ++ any.W,(s.after ox0.dst vx wx).o k = s.o k:=fun k hk=>agf fun q hw e=>by
  have hin:=hwx q hw;rw [e] at hin
  rcases boj.1 hk with hk | hk
  · exact h1 k hin hk
  exact h2 k hin hk
 have hlk:looks s oy0 = Ry:=by
  rw [<- hRy]
  have hids:yg oy0 = false -> ∀ k ∈ en (ev s) oy0.op.operands.toList,(s.after ox0.dst vx wx).o k = s.o k:=by
   intro hst k hk;refine oyx k (boq _ ?_);rw [<- hRy];refine a8x hst ?_;rw [tv (e:=ev s) (fun z hz=>eyx z (by simpa using hz))];exact hk
  exact (ab7 eyx hids).symm
 have hey':Eff P E nt ops oy0 any s vy wy:=aib hey (fun z hz=>(eyx z hz).symm) gy.symm (fun k hk=>by
  rw [hRy] at hk
  exact (oyx k (boq _ hk)).symm) (fun k hk=>(oyx k (bos _ hk)).symm) (fun k hk hnm=>aqi hnm (fun hk'=>h4 k hk (hOx k hk')))
 have exy:∀ z ∈ ox0.op.operands,ev (s.after oy0.dst vy wy) z = ev s z:=fun z hz=>a5t fun k hk=>uf (a3 k hk) z hz;have gx:ax ops (s.after oy0.dst vy wy) ox0 = ax ops s ox0:=wh a3
 have oxy:∀ k ∈ Rx ++ anx.W,(s.after oy0.dst vy wy).o k = s.o k:=fun k hk=>agf fun q hw e=>by
  have hin:=hwy q hw;rw [e] at hin
  rcases boj.1 hk with hk | hk
  · exact h3 k hin hk
  exact h2 k hk hin
 have hlx:looks (s.after oy0.dst vy wy) ox0 = Rx:=by
  rw [ab7 exy (fun hst k hk=>oxy k (boq _ (by rw [<- hRx];exact a8x hst hk))),hRx]
 obtain ⟨m1,m2⟩:=b4u hey
 have hex':Eff P E nt ops ox0 anx (s.after oy0.dst vy wy) vx wx:=aib hex exy gx (fun k hk=>oxy k (boq _ (by rw [<- hRx];exact hk))) (fun k hk=>oxy k (bos _ hk))
  (fun k hk hnm=>ajy hnm (fun r hr hkr=>h5 k hk (m1 r hr k hkr)) (fun id ob hw hko=>h5 k hk (m2 id ob hw k hko)))
 have hdne:∀ k,ox0.dst = some k -> oy0.dst ≠ some k:=a2
 have hOy':d4 s oy0.dst wy = d4 (s.after ox0.dst vx wx) oy0.dst wy:=by
  unfold d4;congr 1
  · cases hd:oy0.dst with
    | none=>rfl
    | some k=>dsimp only;rw [gm fun e=>a2 k e hd]
  exact (a6k fun q hq=>oyx q.1 (bos _ (hwy q hq))).symm
 have hOx':d4 (s.after oy0.dst vy wy) ox0.dst wx = d4 s ox0.dst wx:=by
  unfold d4;congr 1
  · cases hd:ox0.dst with
    | none=>rfl
    | some k=>dsimp only;rw [gm (a2 k hd)]
  exact a6k fun q hq=>oxy q.1 (bos _ (hwx q hq))
 rw [aw7 hdne fun q hq q' hq' e=>h2 q.1 (hwx q hq) (by rw [e];exact hwy q' hq')] at h;exact .cons hiy hey' hlk (fun k hk=>hOy k (by rw [<- hOy'];exact hk)) (fun f hf=>⟨(wn eyx).symm.trans (hFy f hf).1,gy.symm.trans (hFy f hf).2⟩) (.cons hix hex' hlx (fun k hk=>hOx k (by rw [<- hOx'];exact hk)) (fun f hf=>⟨(wn exy).trans (hFx f hf).1,gx.trans (hFx f hf).2⟩) h)
variable {f:a5j}
def a0w (h:gq E s o = some f):(f.wr = false /\ ((∃ t x,o.op = .load t x) \/ (∃ x,o.op = .nilCheck x) \/ (∃ t x k,o.op = .fieldAddr t x k) \/ (∃ x,o.op = .move x) \/ ∃ x,o.op = .assign x)) \/ (f.wr = true /\ ∃ t x v,o.op = .store t x v):=by
 unfold gq at h;split at h
 · split at h <;> try (cases h;done)
   simp only [bo5] at h;subst h;exact .inl ⟨rfl, .inl ⟨_,_,by assumption⟩⟩
 · split at h <;> try (cases h;done)
   simp only [bo5] at h;subst h;exact .inl ⟨rfl, .inr (.inl ⟨_,by assumption⟩)⟩
 · split at h <;> try (cases h;done)
   simp only [bo5] at h;subst h;exact .inl ⟨rfl, .inr (.inr (.inr (.inl ⟨_,by assumption⟩)))⟩
 · split at h <;> try (cases h;done)
   simp only [bo5] at h;subst h;exact .inl ⟨rfl, .inr (.inr (.inr (.inr ⟨_,by assumption⟩)))⟩
 · split at h <;> try (cases h;done)
   simp only [bo5] at h;subst h;exact .inl ⟨rfl, .inr (.inr (.inl ⟨_,_,_,by assumption⟩))⟩
 · split at h <;> try (cases h;done)
   simp only [bo5] at h;subst h;exact .inr ⟨rfl,_,_,_,by assumption⟩
 cases h
def ap7 {an:Ann} (he:Eff P E nt ops o an s x wr) (hf:gq E s o = some f) (hw:ax ops s o = some true) (hr:f.wr = false):
 ∃ out,x = some out.val /\ wr = [] /\ hq E an.ex s.o (ev s) o.op = some out /\ out.pre /\ dg nt o.dst = true /\ out.val.ids = an.M:=by
 have hops:(∃ t x,o.op = .load t x) \/ (∃ x,o.op = .nilCheck x) \/ (∃ t x k,o.op = .fieldAddr t x k) \/ (∃ x,o.op = .move x) \/ ∃ x,o.op = .assign x:=by
  rcases a0w hf with ⟨_,h⟩ | ⟨h,_⟩
  · exact h
  rw [hr] at h;cases h
 cases he with
 | skip hw' hd=>rw [hw] at hw';cases hw'
 | quiet out hw hd hq' hp hM=>exact ⟨out,rfl,rfl,hq',hp,hd,hM⟩
 | cut out id hw hd hq' hp hW=>rcases hops with ⟨t,x,h⟩ | ⟨x,h⟩ | ⟨t,x,k,h⟩ | ⟨x,h⟩ | ⟨x,h⟩ <;> (rw [h] at hq';cases hq')
 | make nw hw hd hq' hp hm hn hW hN hM=>rcases hops with ⟨t,x,h⟩ | ⟨x,h⟩ | ⟨t,x,k,h⟩ | ⟨x,h⟩ | ⟨x,h⟩ <;> (rw [h] at hq';cases hq')
 | store u hw hd hq' hp hW hM=>rcases hops with ⟨t,x,h⟩ | ⟨x,h⟩ | ⟨t,x,k,h⟩ | ⟨x,h⟩ | ⟨x,h⟩ <;> (rw [h] at hq';cases hq')
 | app u hw hd hq' hp hn hW hN hM=>rcases hops with ⟨t,x,h⟩ | ⟨x,h⟩ | ⟨t,x,k,h⟩ | ⟨x,h⟩ | ⟨x,h⟩ <;> (rw [h] at hq';cases hq')
 | call cl f fst caps args p vs b hw hd ho hc hf hv hp hco hpure hb hM=>rcases hops with ⟨t,x,h⟩ | ⟨x,h⟩ | ⟨t,x,k,h⟩ | ⟨x,h⟩ | ⟨x,h⟩ <;> (rw [h] at ho;cases ho)
 | conv sr ds x b hw hd ho hcv hp hM=>rcases hops with ⟨t,x,h⟩ | ⟨x,h⟩ | ⟨t,x,k,h⟩ | ⟨x,h⟩ | ⟨x,h⟩ <;> (rw [h] at ho;cases ho)
 | fcall cl f caps args hcs o1 o2 res fx hw hd ho hc hf hv hco hfun hsub hnew hnm hcl hclr hW hN hM=>rcases hops with ⟨t,x,h⟩ | ⟨x,h⟩ | ⟨t,x,k,h⟩ | ⟨x,h⟩ | ⟨x,h⟩ <;> (rw [h] at ho;cases ho)
def a7l {an:Ann} (he:Eff P E nt ops o an s x wr) (hf:gq E s o = some f) (hw:ax ops s o = some true) (hr:f.wr = true):
 ∃ u,x = none /\ wr = [(u.id,some u.ob)] /\ hs E s.o (ev s) o.op = some u /\ u.pre /\ an.W = [u.id] /\ (∀ k ∈ u.ob.ids,k ∈ an.M) /\ dg nt o.dst = true:=by
 have hops:∃ t x v,o.op = .store t x v:=by
  rcases a0w hf with ⟨h,_⟩ | ⟨_,h⟩
  · rw [hr] at h;cases h
  exact h
 obtain ⟨t,ad,v,h⟩:=hops
 cases he with
 | skip hw' hd=>rw [hw] at hw';cases hw'
 | quiet out hw hd hq' hp hM=>rw [h] at hq';cases hq'
 | cut out id hw hd hq' hp hW=>rw [h] at hq';cases hq'
 | make nw hw hd hq' hp hm hn hW hN hM=>rw [h] at hq';cases hq'
 | store u hw hd hq' hp hW hM=>exact ⟨u,rfl,rfl,hq',hp,hW,hM,hd⟩
 | app u hw hd hq' hp hn hW hN hM=>rw [h] at hq';cases hq'
 | call cl f fst caps args p vs b hw hd ho hc hf hv hp hco hpure hb hM=>rw [h] at ho;cases ho
 | conv sr ds x b hw hd ho hcv hp hM=>rw [h] at ho;cases ho
 | fcall cl f caps args hcs o1 o2 res fx hw hd ho hc hf hv hco hfun hsub hnew hnm hcl hclr hW hN hM=>rw [h] at ho;cases ho
def afr (hf:gq E s o = some f) (hr:f.wr = true) {u:Upd} (hu:hs E s.o (ev s) o.op = some u):
 ∃ l new,s.o f.id = some (.box l) /\ new.length = f.len /\ u = ⟨f.off + f.len <= l.length,f.id, .box (b9 l f.off new)⟩ /\
  ∀ (o':b4) (e':Ev) (l':List HV),o' f.id = some (.box l') -> (∀ y ∈ o.op.operands,e' y = ev s y) -> hs E o' e' o.op = some ⟨f.off + f.len <= l'.length,f.id, .box (b9 l' f.off new)⟩:=by
 have hops:∃ t x v,o.op = .store t x v:=by
  rcases a0w hf with ⟨h,_⟩ | ⟨_,h⟩
  · rw [hr] at h;cases h
  exact h
 obtain ⟨t,ad,v,h⟩:=hops;unfold gq at hf;rw [h] at hf hu ⊢;dsimp only at hf;split at hf <;> try (cases hf;done)
 rename_i i id off hE he;simp only [bo5] at hf;subst hf;simp only [hs,n8,hE,he] at hu
 cases hv:ev s v with
 | none=>rw [hv] at hu;cases hu
 | some rv =>
  cases rv with
  | tup l=>rw [hv] at hu;cases hu
  | v cc =>
   rw [hv] at hu;dsimp only at hu
   cases hob:s.o id with
   | none=>rw [hob] at hu;cases hu
   | some ob =>
    cases ob with
    | mp kk' n' f'=>rw [hob] at hu;cases hu
    | bld fr' T' e' l'=>rw [hob] at hu;cases hu
    | ex d' v' b' x'=>rw [hob] at hu;cases hu
    | nest e' et' es' n' m' g' pd'=>rw [hob] at hu;cases hu
    | arr wr' s' e' n' f'=>rw [hob] at hu;cases hu
    | arrh s' e' n' ms' f'=>rw [hob] at hu;cases hu
    | box l =>
     rw [hob] at hu;dsimp only at hu;split at hu <;> try (cases hu;done)
     rename_i hlen;simp only [bo5] at hu;subst hu;refine ⟨l,cc.cells,rfl,of_decide_eq_true hlen,rfl,fun o' e' l' ho' he'=>?_⟩;simp only [Op.operands] at he';simp only [hs,n8,hE];rw [he' v bst,he' ad bst,hv,he];dsimp only;rw [ho'];dsimp only;rw [hlen]
def a6y {g g':Nat -> HV}:∀ (n i:Nat),(∀ j,i <= j -> j < i + n -> g j = g' j) -> oq g n i = oq g' n i
 | 0,_,_=>rfl
 | n + 1,i,h=>by
  simp only [oq];rw [h i (bo9 _) bsq,a6y n (i + 1) fun j h1 h2=>h j bsq bsq]
variable {l:List HV}
def arw {ex:Bool} (hf:gq E s o = some f) (hr:f.wr = false) {l':List HV} {o':b4} {e':Ev} (hl:s.o f.id = some (.box l)) (hl':o' f.id = some (.box l')) (hlen:l'.length = l.length) (hj:∀ j,f.off <= j -> j < f.off + f.len -> l'[j]? = l[j]?) (he':∀ y ∈ o.op.operands,e' y = ev s y):hq E ex o' e' o.op = hq E ex s.o (ev s) o.op:=by
 have hops:(∃ t x,o.op = .load t x) \/ (∃ x,o.op = .nilCheck x) \/ (∃ t x k,o.op = .fieldAddr t x k) \/ (∃ x,o.op = .move x) \/ ∃ x,o.op = .assign x:=by
  rcases a0w hf with ⟨_,h⟩ | ⟨h,_⟩
  · exact h
  rw [hr] at h;cases h
 unfold gq at hf
 rcases hops with ⟨t,x,h⟩ | ⟨x,h⟩ | ⟨t,x,k,h⟩ | ⟨x,h⟩ | ⟨x,h⟩
 · rw [h] at hf he' ⊢
   dsimp only at hf;split at hf <;> try (cases hf;done)
   rename_i i id off hE he;simp only [bo5] at hf;subst hf;simp only [Op.operands] at he';simp only [hq,pg,hE];rw [he' x bst,he];dsimp only at hl hl' hj ⊢;simp only [tgt,hl,hl']
   have hg:∀ j,j < i.size -> l'.getD (off + j) (.p .any) = l.getD (off + j) (.p .any):=fun j hjl=>by
    rw [bo7,bo7,hj (off + j) bsq bsq]
   cases i.k.isAgg with
   | true =>
    dsimp only;rw [hlen,a6y i.size 0 fun j _ h2=>hg j bsq]
   | false =>
    dsimp only;split
    · rename_i h1
      rw [hlen];have:=hg 0 bsq;simp only [bqo] at this ⊢;rw [this]
    rfl
 · rw [h] at hf he' ⊢
   dsimp only at hf;split at hf <;> try (cases hf;done)
   rename_i id off he;simp only [bo5] at hf;subst hf;simp only [Op.operands] at he';simp only [hq,uc];rw [he' x bst,he];dsimp only at hl hl' ⊢;simp only [tgt,hl,hl']
 · rw [h] at hf he' ⊢
   dsimp only at hf;split at hf <;> try (cases hf;done)
   rename_i id off he;simp only [bo5] at hf;subst hf;simp only [Op.operands] at he';simp only [hq,gw];rw [he' x bst,he];dsimp only at hl hl' ⊢;simp only [tgt,hl,hl']
   cases E t with
   | none=>rfl
   | some i =>
    dsimp only;cases i.k <;> rfl
 · rw [h] at he' ⊢
   simp only [Op.operands] at he';simp only [hq];rw [he' x bst]
 rw [h] at he' ⊢;simp only [Op.operands] at he';simp only [hq];rw [he' x bst]
variable {new:List HV} {off:Nat}
def oo (h:off + new.length <= l.length):(b9 l off new).length = l.length:=a2p l new off h
def ve (k:Nat) (h:off + new.length <= l.length):(b9 l off new)[k]? = if off <= k /\ k < off + new.length then new[k - off]? else l[k]?:=dw l new off k h
def auu {a b:List HV} {i j:Nat} (ha:i + a.length <= l.length) (hb:j + b.length <= l.length) (hd:i + a.length <= j \/ j + b.length <= i):b9 (b9 l i a) j b = b9 (b9 l j b) i a:=by
 apply bqw;intro k;rw [ve k (by rw [oo ha];exact hb),ve k ha,ve k (by rw [oo hb];exact ha),ve k hb];by_cases h1:i <= k /\ k < i + a.length
 · rw [if_pos h1,if_neg bsq,if_pos h1]
 rw [if_neg h1,if_neg h1]
def a2n (h:k ∈ mn (b9 l off new)):k ∈ mn l \/ k ∈ mn new:=by
 obtain ⟨x,hx,hk⟩:=idsL_mem' h;unfold b9 at hx
 rcases boj.1 hx with hx | hx
 · rcases boj.1 hx with hx | hx
   · exact .inl (rr ⟨x,bq8 hx,hk⟩)
   exact .inr (rr ⟨x,hx,hk⟩)
 exact .inl (rr ⟨x,bru hx,hk⟩)
def at0 (h:k ∈ mn new):k ∈ mn (b9 l off new):=by
 obtain ⟨x,hx,hk⟩:=idsL_mem' h;exact rr ⟨x,boq _ (bos _ hx),hk⟩
def after_comm' {d':Option Tmp} {x':Option HR} {wr' wr1 wr1':Wr} (hd:∀ k,d = some k -> d' ≠ some k) (ho:∀ k,((s.after d x wr).after d' x' wr').o k = ((s.after d' x' wr1').after d x wr1).o k):
 (s.after d x wr).after d' x' wr' = (s.after d' x' wr1').after d x wr1:=by
 have ht:∀ k,((s.after d x wr).after d' x' wr').t k = ((s.after d' x' wr1').after d x wr1).t k:=by
  intro k;by_cases h1:d = some k
  · have h2:=hd k h1
    subst h1;rw [gm h2];have e1:(s.after (some k) x wr).t k = x:=by unfold S.after S.putD;simp [S.put]
    have e2:((s.after d' x' wr1').after (some k) x wr1).t k = x:=by unfold S.after S.putD;simp [S.put]
    rw [e1,e2]
  by_cases h2:d' = some k
  · subst h2
    rw [gm (s:=s.after (some k) x' wr1') h1];have e1:((s.after d x wr).after (some k) x' wr').t k = x':=by unfold S.after S.putD;simp [S.put]
    have e2:(s.after (some k) x' wr1').t k = x':=by unfold S.after S.putD;simp [S.put]
    rw [e1,e2]
  rw [gm h2,gm h1,gm h1,gm h2]
 cases h1:(s.after d x wr).after d' x' wr' with
 | mk t1 o1 =>
  cases h2:(s.after d' x' wr1').after d x wr1 with
  | mk t2 o2 =>
   rw [h1,h2] at ht ho;have:t1 = t2:=funext ht;have:o1 = o2:=funext ho;simp_all
def ur {id:Nat} {ob:a8}:(s.after d x [(id,some ob)]).o = fun k=>if k = id then some ob else s.o k:=by
 funext k;rw [rh];simp only [j7];by_cases h:k = id
 · subst h;simp
 have:Nat.beq id k = false:=by rw [bol];exact fun hb=>h (bp6 hb).symm
 simp [this,h]
def x8:(s.after d x []).o = s.o:=by
 funext k;exact agf fun q hq=>by cases hq
def a8h {s':S} {id:Nat} {ob ob':a8} (hd:∀ k,d = some k -> s'.t k = s.t k) {l':List HV} (hl':s'.o id = some (.box l')) (hk:k ∈ d4 s' d [(id,some ob')]):
 k ∈ d4 s d [(id,some ob)] \/ k ∈ mn l':=by
 unfold d4 at hk ⊢
 rcases boj.1 hk with hk | hk
 · refine .inl (boq _ ?_)
   cases d with
   | none=>exact hk
   | some j=>dsimp only at hk ⊢;rw [hd j rfl] at hk;exact hk
 simp only [zt,hl',a8.ids,bpd] at hk;exact .inr hk
def bkj {sf:S} {x y:Tr} {ox oy:Oper} (h:oh P E nt ops (x :: y :: T) s sf) (hx0:ops[x.i]? = some ox) (hy0:ops[y.i]? = some oy) (hp:ah8 ops ox oy x y = true):oh P E nt ops (y :: x :: T) s sf:=by
 cases h with
 | @cons ix anx Rx Ox Fx ox1 _ _ vx wx _ hix hex hRx hOx hFx h =>
 cases h with
 | @cons iy any Ry Oy Fy oy1 _ _ vy wy _ hiy hey hRy hOy hFy h =>
 obtain rfl:ox = ox1:=by have:=hx0.symm.trans hix;simpa using this
 obtain rfl:oy = oy1:=by have:=hy0.symm.trans hiy;simpa using this
 unfold ah8 at hp;dsimp only at hp
 cases Fx with
 | none=>cases hp
 | some f =>
 cases Fy with
 | none=>cases hp
 | some g =>
 simp only [boc] at hp;obtain ⟨⟨⟨⟨⟨hap,hid⟩,hdis⟩,hNx⟩,hNy⟩,hm⟩:=hp;have hid:f.id = g.id:=bp6 hid
 have hdis:f.off + f.len <= g.off \/ g.off + g.len <= f.off:=by
  rcases (bph _ _ ▸ hdis:_ \/ _) with h' | h'
  · exact .inl (bo8 h')
  exact .inr (bo8 h')
 have hNx:anx.N = []:=by simpa using hNx
 have hNy:any.N = []:=by simpa using hNy
 obtain ⟨a1,a2,a3⟩:=Oper.apart_spec hap;obtain ⟨fx1,fx2⟩:=hFx f rfl;obtain ⟨fy1,fy2⟩:=hFy g rfl;have eyx:∀ {d wr},(∀ k,d = some k -> ox.dst = some k) -> ∀ z ∈ oy.op.operands,ev (s.after d vx wr) z = ev s z:=fun hd z hz=>a5t fun k hk=>uf (a1 k (hd k hk)) z hz;have exy:∀ {v wr},∀ z ∈ ox.op.operands,ev (s.after oy.dst v wr) z = ev s z:=fun z hz=>a5t fun k hk=>uf (a3 k hk) z hz;have eyx':∀ z ∈ oy.op.operands,ev (s.after ox.dst vx wx) z = ev s z:=eyx fun k hk=>hk;have gy:ax ops (s.after ox.dst vx wx) oy = ax ops s oy:=wh a1;have gx:∀ {v wr},ax ops (s.after oy.dst v wr) ox = ax ops s ox:=wh a3;have fyS:gq E s oy = some g:=(wn eyx').symm.trans fy1;have fyW:ax ops s oy = some true:=gy.symm.trans fy2
 have notcall:∀ {st:S} {o:Oper} {q:a5j},gq E st o = some q -> a3n o = false:=fun {st o q} hq=>by
  unfold a3n
  rcases a0w hq with ⟨_,⟨t,x,h'⟩ | ⟨x,h'⟩ | ⟨t,x,k,h'⟩ | ⟨x,h'⟩ | ⟨x,h'⟩⟩ | ⟨_,t,x,v,h'⟩ <;> rw [h']
 have lky:looks s oy = Ry:=by
  rw [<- hRy];unfold looks
  cases yg oy with
  | true=>rfl
  | false =>
  rw [notcall fyS];exact (tv fun z hz=>eyx' z (by simpa using hz)).symm
 have lkx:∀ {v wr},looks (s.after oy.dst v wr) ox = Rx:=fun {v wr}=>by
  rw [<- hRx];unfold looks
  cases yg ox with
  | true=>rfl
  | false =>
  rw [notcall fx1];exact tv fun z hz=>exy z (by simpa using hz)
 have tdy:∀ k,oy.dst = some k -> (s.after ox.dst vx wx).t k = s.t k:=fun k hk=>gm fun e=>a2 k e hk;have tdx:∀ {v wr} k,ox.dst = some k -> (s.after oy.dst v wr).t k = s.t k:=fun k hk=>gm (a2 k hk)
 have fxS:∀ {v wr},∀ q,some f = some q -> gq E (s.after oy.dst v wr) ox = some q /\ ax ops (s.after oy.dst v wr) ox = some true:=fun q hq=>by
  rw [<- hq];exact ⟨(wn exy).trans fx1,gx.trans fx2⟩
 have fyS':∀ q,some g = some q -> gq E s oy = some q /\ ax ops s oy = some true:=fun q hq=>by
  rw [<- hq];exact ⟨fyS,fyW⟩
 cases hfw:f.wr with
 | false =>
  cases hgw:g.wr with
  | false=>rw [hfw,hgw] at hm;cases hm
  | true =>
   obtain ⟨out,rfl,rfl,hq1,hpre,hdx,hMx⟩:=ap7 hex fx1 fx2 hfw;obtain ⟨u,rfl,rfl,hu,hup,hWy,hMy,hdy⟩:=a7l hey fy1 fy2 hgw;rw [x8] at hu
   have hu':hs E s.o (ev s) oy.op = some u:=by
    rw [<- hu];exact (aqe eyx' (fun _ _=>rfl)).symm
   obtain ⟨l,new,hl,hnl,rfl,_⟩:=afr fyS hgw hu';dsimp only at hup hMy hWy h ⊢;have hlx:s.o f.id = some (.box l):=by rw [hid];exact hl
   have hxq:hq E anx.ex (s.after oy.dst none [(g.id,some (a8.box (b9 l g.off new)))]).o (ev (s.after oy.dst none [(g.id,some (a8.box (b9 l g.off new)))])) ox.op = some out:=by
    rw [<- hq1];refine arw (l':=b9 l g.off new) fx1 hfw hlx (by rw [ur,hid];simp) (oo bsq) (fun j h1 h2=>?_) exy;rw [ve j bsq,if_neg bsq]
   rw [after_comm' (wr1:=[]) (wr1':=[(g.id,some (a8.box (b9 l g.off new)))]) a2 (fun k=>by simp only [ur,x8])] at h;refine .cons hiy (.store _ fyW hdy hu' hup hWy hMy) lky (fun k hk=>hOy k ?_) fyS' (.cons hix (.quiet out (gx.trans fx2) hdx hxq hpre hMx) lkx (fun k hk=>hOx k ?_) fxS h)
   · unfold d4 at hk ⊢
     rcases boj.1 hk with hk | hk
     · refine boq _ ?_
       cases hd:oy.dst with
       | none=>rw [hd] at hk;exact hk
       | some j=>rw [hd] at hk;dsimp only at hk ⊢;rw [tdy j hd];exact hk
     refine bos _ ?_;simp only [zt,x8] at hk ⊢;exact hk
   unfold d4 at hk ⊢
   rcases boj.1 hk with hk | hk
   · refine boq _ ?_
     cases hd:ox.dst with
     | none=>rw [hd] at hk;exact hk
     | some j=>rw [hd] at hk;dsimp only at hk ⊢;rw [tdx j hd] at hk;exact hk
   cases hk
 | true =>
  obtain ⟨u,rfl,rfl,hu,hup,hWx,hMx,hdx⟩:=a7l hex fx1 fx2 hfw;obtain ⟨l,new,hl,hnl,rfl,hsx⟩:=afr fx1 hfw hu;dsimp only at hup hMx hWx h hOx hOy hFy hey gy eyx' tdy fy1 fy2 ⊢;have hly:s.o g.id = some (.box l):=by rw [<- hid];exact hl
  have hlx1:(s.after ox.dst none [(f.id,some (a8.box (b9 l f.off new)))]).o g.id = some (.box (b9 l f.off new)):=by rw [ur,<- hid];simp
  cases hgw:g.wr with
  | false =>
   obtain ⟨out,rfl,rfl,hq1,hpre,hdy,hMy⟩:=ap7 hey fy1 fy2 hgw
   have hyq:hq E any.ex s.o (ev s) oy.op = some out:=by
    rw [<- hq1];refine (arw fyS hgw hly hlx1 (oo bsq) (fun j h1 h2=>?_) eyx').symm;rw [ve j bsq,if_neg bsq]
   have hxs:hs E (s.after oy.dst (some out.val) []).o (ev (s.after oy.dst (some out.val) [])) ox.op = some ⟨f.off + f.len <= l.length,f.id, .box (b9 l f.off new)⟩:=hsx _ _ l (by rw [x8];exact hl) exy;rw [after_comm' (wr1:=[(f.id,some (a8.box (b9 l f.off new)))]) (wr1':=[]) a2 (fun k=>by simp only [ur,x8])] at h;refine .cons hiy (.quiet out fyW hdy hyq hpre hMy) lky (fun k hk=>hOy k ?_) fyS' (.cons hix (.store _ (gx.trans fx2) hdx hxs hup hWx hMx) lkx (fun k hk=>hOx k ?_) fxS h)
   · unfold d4 at hk ⊢
     rcases boj.1 hk with hk | hk
     · refine boq _ ?_
       cases hd:oy.dst with
       | none=>rw [hd] at hk;exact hk
       | some j=>rw [hd] at hk;dsimp only at hk ⊢;rw [tdy j hd];exact hk
     cases hk
   unfold d4 at hk ⊢
   rcases boj.1 hk with hk | hk
   · refine boq _ ?_
     cases hd:ox.dst with
     | none=>rw [hd] at hk;exact hk
     | some j=>rw [hd] at hk;dsimp only at hk ⊢;rw [tdx j hd] at hk;exact hk
   refine bos _ ?_;simp only [zt,x8] at hk ⊢;exact hk
  | true =>
   rw [hfw,hgw] at hm;simp only [boc] at hm;obtain ⟨⟨⟨⟨⟨m1,m2⟩,m3⟩,m4⟩,m5⟩,m6⟩:=hm;have m1:=v8 m1;have m2:=v8 m2;have m3:=v8 m3;have m4:=v8 m4;have m5:=v8 m5;have m6:=v8 m6;obtain ⟨u,rfl,rfl,hu2,hup2,hWy,hMy,hdy⟩:=a7l hey fy1 fy2 hgw;obtain ⟨l2,new2,hl2,hnl2,rfl,hsy⟩:=afr fy1 hgw hu2;dsimp only at hup2 hMy hWy h hOy ⊢;obtain rfl:l2 = b9 l f.off new:=by rw [hlx1] at hl2;simpa using hl2.symm
   have hlen1:(b9 l f.off new).length = l.length:=oo bsq;rw [hlen1] at hup2;have hys:hs E s.o (ev s) oy.op = some ⟨g.off + g.len <= l.length,g.id, .box (b9 l g.off new2)⟩:=hsy s.o (ev s) l hly (fun z hz=>(eyx' z hz).symm)
   have hxs:hs E (s.after oy.dst none [(g.id,some (a8.box (b9 l g.off new2)))]).o (ev (s.after oy.dst none [(g.id,some (a8.box (b9 l g.off new2)))])) ox.op = some ⟨f.off + f.len <= (b9 l g.off new2).length,f.id, .box (b9 (b9 l g.off new2) f.off new)⟩ :=
    hsx _ _ _ (by rw [ur,hid];simp) exy
   have hlO:∀ k ∈ mn l,k ∈ Ox:=fun k hk=>hOx k (by
    unfold d4;refine bos _ ?_;simp only [zt,hl,a8.ids,bpd]
    exact hk)
   have hn1:∀ k ∈ mn new,k ∈ anx.M:=fun k hk=>hMx k (at0 hk);have hn2:∀ k ∈ mn new2,k ∈ any.M:=fun k hk=>hMy k (at0 hk)
   rw [after_comm' (wr1:=[(f.id,some (a8.box (b9 (b9 l g.off new2) f.off new)))]) (wr1':=[(g.id,some (a8.box (b9 l g.off new2)))]) a2 (fun k=>by
    simp only [ur,hid];by_cases hk:k = g.id
    · simp only [hk,if_true]
      rw [auu bsq bsq bsq]
    simp only [hk,if_false])] at h
   refine .cons hiy (.store _ fyW hdy hys hup2 hWy (fun k hk=>?_)) lky (fun k hk=>?_) fyS' (.cons hix (.store _ (gx.trans fx2) hdx hxs (by dsimp only;rw [oo bsq];exact hup) hWx (fun k hk=>?_)) lkx (fun k hk=>?_) fxS h)
   · rcases a2n hk with hk | hk
     · exact m1 k (hlO k hk)
     exact hn2 k hk
   · rcases a8h (s:=s.after ox.dst none [(f.id,some (a8.box (b9 l f.off new)))]) (s':=s) (ob:=a8.box (b9 (b9 l f.off new) g.off new2)) (fun k hk=>(tdy k hk).symm) hly hk with hk | hk
     · exact hOy k hk
     exact m4 k (hlO k hk)
   · rcases a2n hk with hk | hk
     · rcases a2n hk with hk | hk
       · exact m2 k (hlO k hk)
       exact m3 k (hn2 k hk)
     exact hn1 k hk
   rcases a8h (s:=s) (s':=s.after oy.dst none [(g.id,some (a8.box (b9 l g.off new2)))]) (ob:=a8.box (b9 l f.off new)) (l':=b9 l g.off new2) (fun k hk=>tdx k hk) (by rw [ur,hid];simp) hk with hk | hk
   · exact hOx k hk
   rcases a2n hk with hk | hk
   · exact hlO k hk
   exact m5 k (hn2 k hk)
def swap {sf:S} {x y:Tr} (h:oh P E nt ops (x :: y :: T) s sf) (hp:aec ops x y = true):oh P E nt ops (y :: x :: T) s sf:=by
 unfold aec at hp;split at hp
 · rename_i ox oy h1 h2
   rcases (bph _ _ ▸ hp:_ \/ _) with hp | hp
   · exact bje h h1 h2 hp
   exact bkj h h1 h2 hp
 cases hp
def ao7 {sf:S} {y:Tr}:∀ {pre:List Tr} {s:S},oh P E nt ops (pre ++ y :: T) s sf -> (∀ x ∈ pre,aec ops x y = true) -> oh P E nt ops (y :: (pre ++ T)) s sf
 | [],_,h,_=>h
 | x :: pre,s,h,hp=>by
  rw [br9] at h;have hx:=hp x bst
  cases h with
  | cons hi he hR hO hF hT =>
  have:=ao7 hT fun z hz=>hp z (by simp [hz]);exact swap (.cons hi he hR hO hF this) hx
end
end
end
end Go.Hx
