/- A part of the proof: Hx12. -/
import Derived.Test.YtdcdbghdgjlhhaaGreatOx09
set_option linter.all false
namespace Go.Hx
section
open Go.RowKit
def kg (o:aw):List Nat → List Nat
 | []=>[]
 | k :: r=>k :: ((match o k with | some ob=>ob.ids | none=>[]) ++ kg o r)
theorem og {o:aw}:∀ {l:List Nat} {k:Nat},k ∈ l → k ∈ kg o l
 | x :: l,k,h=>by
  rcases List.mem_cons.1 h with rfl | h
  · simp [kg]
  simp only [kg,List.mem_cons,List.mem_append];exact .inr (.inr (og h))
theorem ub {o:aw} {id:Nat} {ob:af} (ho:o id = some ob):∀ {l:List Nat} {k:Nat},id ∈ l → k ∈ ob.ids → k ∈ kg o l
 | x :: l,k,h,hk=>by
  rcases List.mem_cons.1 h with rfl | h
  · simp only [kg,ho,List.mem_cons,List.mem_append];exact .inr (.inl hk)
  simp only [kg,List.mem_cons,List.mem_append];exact .inr (.inr (ub ho h hk))
theorem a1q {o o':aw}:∀ {l:List Nat},(∀ k ∈ l,o' k = o k) → kg o' l = kg o l
 | [],_=>rfl
 | x :: l,h=>by
  simp only [kg]
  rw [h x (by simp),a1q fun y hy=>h y (by simp [hy])]
section
variable {o o':aw} {e e':Ev}
theorem a41:∀ (n:Nat) (l:List HV) (k:Nat),k ∈ gl (l.drop n) → k ∈ gl l
 | 0,l,k,h=>h
 | n + 1,[],k,h=>h
 | n + 1,x :: l,k,h=>by
  simp only [gl,List.mem_append]
  exact .inr (a41 n l k h)
theorem u7:∀ {l:List HV},(∀ k ∈ gl l,o' k = o k) → qk o' l = qk o l
 | [],_=>rfl
 | x :: l,h=>by
  simp only [qk]
  rw [zj (o:=o) (o':=o') (h:=x) fun k hk=>h k (List.mem_append_left _ hk),u7 fun k hk=>h k (List.mem_append_right _ hk)]
theorem a6z {h:HV} (ho:∀ k ∈ kg o h.ids,o' k = o k):zb o' h = zb o h:=by
 cases h with
 | p x=>rfl
 | ref id n=>exact zj fun k hk=>ho k (og hk)
 | eptr id n i j=>rfl
 | win id n i m=>rfl
 | clo g k caps=>rfl
 | row id i k=>rfl
 | rptr id i k r j=>rfl
 | pin id n ad cap=>rfl
 | ptr id off =>
  have hid:=ho id (og (by simp [HV.ids]))
  simp only [zb]
  rw [hid]
  cases hob:o id with
  | none=>rfl
  | some ob =>
   cases ob with
   | mp kk n f=>rfl
   | bld fr T e l=>rfl
   | ex d v b x=>rfl
   | bun B=>rfl
   | opq s e n R=>rfl
   | nest e et es n m g pd=>rfl
   | arr wr s e n f=>rfl
   | arrh s e n ms f=>rfl
   | box l =>
    dsimp only
    rw [u7 (o:=o) (o':=o') fun k hk=>ho k (ub hob (by simp [HV.ids]) (by simpa [af.ids] using a41 off l k hk))]
theorem xi {l l':List Nat} (h:∀ k ∈ l,k ∈ l'):∀ k ∈ kg o l,k ∈ kg o l':=by
 induction l with
 | nil=>intro k hk;simp [kg] at hk
 | cons x l ih =>
  intro k hk
  simp only [kg,List.mem_cons,List.mem_append] at hk
  rcases hk with rfl | hk | hk
  · exact og (h _ (by simp))
  · cases hx:o x with
    | none=>rw [hx] at hk;cases hk
    | some ob=>rw [hx] at hk;exact ub hx (h x (by simp)) hk
  grind
theorem a6v {x:HC} (ho:∀ k ∈ kg o x.ids,o' k = o k):t7 o' x = t7 o x:=by
 cases x with
 | one h=>simp only [t7];rw [a6z (o:=o) (o':=o') ho]
 | agg l=>simp only [t7];rw [u7 (o:=o) (o':=o') fun k hk=>ho k (og hk)]
theorem uj:∀ {l:List Operand},(∀ x ∈ l,e' x = e x) → (∀ k ∈ kg o (d6 e l),o' k = o k) → iw o' e' l = iw o e l
 | [],_,_=>rfl
 | x :: l,hx,ho=>by
  simp only [iw]
  rw [hx x (by simp),uj (fun y hy=>hx y (by simp [hy])) (fun k hk=>ho k (xi (fun j hj=>by simp only [d6];exact List.mem_append_right _ hj) k hk))]
  cases hex:e x with
  | none=>rfl
  | some r =>
   cases r with
   | tup l=>rfl
   | v cc =>
    have:=a6v (o:=o) (o':=o') (x:=cc) fun k hk=>ho k (xi (fun j hj=>by simp only [d6,hex];exact List.mem_append_left _ hj) k hk)
    grind
end
def vd (o:Oper):Bool:=match o.op with | .call c=>(match c.callee with | .value _=>true | _=>false) | _=>false
def ou (o:Oper):Bool:=match o.op with | .move _=>true | .assign _=>true | _=>false
theorem adi {o:Oper} (h:ou o = true):∃ x,o.op = .move x ∨ o.op = .assign x:=by
 unfold ou at h
 grind
def dl (s:S) (o:Oper):List Nat:=bif ou o then [] else bif vd o then kg s.o (d6 (ev s) o.op.operands.toList) else d6 (ev s) o.op.operands.toList
theorem xc {s:S} {o:Oper} {k:Nat} (hs:ou o = false) (h:k ∈ d6 (ev s) o.op.operands.toList):k ∈ dl s o:=by
 unfold dl
 rw [hs,cond_false]
 cases vd o with
 | true=>exact og h
 | false=>exact h
section
variable {P:Program} {E:Env} {nt:Nat} {s s':S} {ops:Array Oper} {o:Oper} {an:Ann}
theorem a7d {x:Option HR} {wr:Wr} (he:Eff P E nt ops o an s x wr):∀ q ∈ wr,q.1 ∈ an.W:=by
 intro q h
 cases he with
 | skip=>cases h
 | cut out id hw hd hq' hp hW =>
  grind
 | quiet=>cases h
 | make nw hw hd hq' hp hm hn hW hN hM=>rw [List.mem_singleton.1 h,hW];exact List.mem_singleton.2 rfl
 | store u hw hd hq' hp hW hM=>rw [List.mem_singleton.1 h,hW];exact List.mem_singleton.2 rfl
 | app u hw hd hq' hp hn hW hN hM=>rw [List.mem_singleton.1 h,hW];exact List.mem_singleton.2 rfl
 | call=>cases h
 | conv=>cases h
 | fcall cl f caps args hcs o1 o2 res fx hw hd ho hc hf hv hco hfun hsub hnew hnm hcl hclr hW hN hM =>
  rw [hW]
  rcases List.mem_append.1 h with h | h
  · obtain ⟨p,hp,rfl⟩:=List.mem_map.1 h
    exact List.mem_append_right _ (List.mem_map.2 ⟨p,hp,rfl⟩)
  obtain ⟨p,hp,rfl⟩:=List.mem_map.1 h
  exact List.mem_append_left _ (List.mem_map.2 ⟨p,hp,rfl⟩)
theorem vi:∀ {l:List (Nat × af)} {p:Nat × af} {k:Nat},p ∈ l → k ∈ p.2.ids → k ∈ a30 l
 | (i,x) :: l,p,k,h,hk=>by
  rcases List.mem_cons.1 h with rfl | h
  · exact List.mem_append_left _ hk
  exact List.mem_append_right _ (vi h hk)
theorem ad3 {x:Option HR} {wr:Wr} (he:Eff P E nt ops o an s x wr):(∀ r,x = some r → ∀ k ∈ r.ids,k ∈ an.M) ∧ (∀ id ob,(id,some ob) ∈ wr → ∀ k ∈ ob.ids,k ∈ an.M):=by
 cases he with
 | skip=>exact ⟨(fun r h k hk=>by cases h;simp [HR.ids,ww] at hk),(fun id ob h=>by cases h)⟩
 | cut out id hw hd hq' hp hW=>exact ⟨(fun r h k hk=>by
  cases h
  unfold qn at hq'
  split at hq' <;> try (cases hq';done)
  split at hq' <;> try (cases hq';done)
  split at hq' <;> try (cases hq';done)
  split at hq' <;> try (cases hq';done)
  rename_i out1 hsl
  simp only [Option.some.injEq,Prod.mk.injEq] at hq'
  obtain ⟨rfl,_⟩:=hq'
  obtain ⟨y,hy⟩:=a6u hsl
  have hk':k ∈ out1.val.ids:=hk
  rw [hy] at hk'
  simp [cf,HR.ids,HC.ids,HV.ids] at hk'),(fun id ob h=>by simp at h)⟩
 | quiet out hw hd hq' hp hM =>
  grind
 | make nw hw hd hq' hp hm hn hW hN hM =>
  grind
 | store u hw hd hq' hp hW hM =>
  grind
 | app u hw hd hq' hp hn hW hN hM =>
  grind
 | call cl f fst caps args p vs b hw hd ho hc hf hv hp hco hpure hb hM =>
  refine ⟨fun r h k hk=>?_,(fun id ob h=>by cases h)⟩
  simp only [Option.some.injEq] at h;subst h;rw [PR.ids_toH] at hk;cases hk
 | conv sr ds x b hw hd ho hcv hp hM =>
  refine ⟨fun r h k hk=>?_,(fun id ob h=>by cases h)⟩
  simp only [Option.some.injEq] at h;subst h;simp [HR.ids,HC.ids,HV.ids] at hk
 | fcall cl f caps args hcs o1 o2 res fx hw hd ho hc hf hv hco hfun hsub hnew hnm hcl hclr hW hN hM =>
  refine ⟨fun r h k hk=>?_,fun id ob h k hk=>?_⟩
  · grind
  rw [hM]
  rcases List.mem_append.1 h with h | h
  · obtain ⟨p,hp,e⟩:=List.mem_map.1 h
    simp only [Prod.mk.injEq,Option.some.injEq] at e
    refine List.mem_append_right _ (vi hp ?_)
    grind
  grind
theorem a73 {E:Env} {o o':aw} {e e':Ev} {op:Op} (hx:∀ x ∈ op.operands,e' x = e x) (ho:∀ k ∈ d6 e op.operands.toList,o' k = o k):qn E o' e' op = qn E o e op:=by
 cases op with
 | slice t x lo hi mx =>
  cases x with
  | tmp d =>
   have h1:=hx (.tmp d) (by simp [Op.operands])
   simp only [qn]
   rw [h1]
   cases he:e (.tmp d) with
   | none=>rfl
   | some r =>
    match r,he with
    | .v (.one (.ref id n)),he =>
     dsimp only
     rw [ho id (ef (e:=e) (x:=.tmp d) he (by simp [Op.operands]) id (by simp [HR.ids,HC.ids,HV.ids]))]
     have hc:∀ r,∀ y ∈ (Op.slice t (.tmp d) lo hi mx).operands,tg e' d r y = tg e d r y:=fun r y hy=>by
      cases y with
      | tmp k =>
       simp only [tg]
       grind
      | const v=>exact hx _ hy
      | func v=>exact hx _ hy
      | global v=>exact hx _ hy
     cases ho:o id with
     | none=>rfl
     | some ob =>
      cases ob with
      | arr wr sz el n' f =>
       dsimp only
       have:∀ r,j5 E (tg e' d r) t (.tmp d) lo hi mx = j5 E (tg e d r) t (.tmp d) lo hi mx:=fun r=>by
        unfold j5
        rw [hc r (.tmp d) (by simp [Op.operands]),jt (x:=lo) fun y hy=>hc r y (by simp [Op.operands] at hy ⊢;simp [hy]),jt (x:=hi) fun y hy=>hc r y (by simp [Op.operands] at hy ⊢;simp [hy]),jt (x:=mx) fun y hy=>hc r y (by simp [Op.operands] at hy ⊢;simp [hy])]
       rw [this]
      | _=>rfl
    | .v (.one (.p _)),_=>rfl
    | .v (.one (.ptr _ _)),_=>rfl
    | .v (.one (.eptr _ _ _ _)),_=>rfl
    | .v (.one (.win _ _ _ _)),_=>rfl
    | .v (.one (.clo _ _ _)),_=>rfl
    | .v (.one (.row _ _ _)),_=>rfl
    | .v (.one (.rptr _ _ _ _ _)),_=>rfl
    | .v (.one (.pin _ _ _ _)),_=>rfl
    | .v (.agg _),_=>rfl
    | .tup _,_=>rfl
  | _=>rfl
 | _=>rfl
theorem a3i {x:Option HR} {wr:Wr} (he:Eff P E nt ops o an s x wr) (hx:∀ y ∈ o.op.operands,ev s' y = ev s y) (hg:bj ops s' o = bj ops s o)
 (ho:∀ k ∈ dl s o,s'.o k = s.o k) (hW:∀ k ∈ an.W,s'.o k = s.o k) (hN:∀ k ∈ an.N,NMx s an.W k → NMx s' an.W k):Eff P E nt ops o an s' x wr:=by
 cases hst:ou o with
 | true =>
  obtain ⟨y,hop⟩:=adi hst
  have hy:ev s' y = ev s y:=hx y (by rcases hop with h | h <;> simp [h,Op.operands])
  cases he with
  | skip hw hd=>exact .skip (hg.trans hw) hd
  | quiet out hw hd hq' hp hM =>
   refine .quiet out (hg.trans hw) hd ?_ hp hM
   rw [← hq']
   rcases hop with h | h <;> rw [h] <;> simp only [hq] <;> rw [hy]
  | cut out id hw hd hq' hp hW'=>rcases hop with h | h <;> rw [h] at hq' <;> cases hq'
  | make nw hw hd hq' hp hm hn hW' hN' hM=>rcases hop with h | h <;> rw [h] at hq' <;> cases hq'
  | store u hw hd hq' hp hW' hM=>rcases hop with h | h <;> rw [h] at hq' <;> cases hq'
  | app u hw hd hq' hp hn hW' hN' hM=>rcases hop with h | h <;> rw [h] at hq' <;> cases hq'
  | call cl f fst caps args p vs b hw hd hop2=>rcases hop with h | h <;> rw [h] at hop2 <;> cases hop2
  | conv sr ds x b hw hd hop2=>rcases hop with h | h <;> rw [h] at hop2 <;> cases hop2
  | fcall cl f caps args hcs o1 o2 res fx hw hd hop2=>rcases hop with h | h <;> rw [h] at hop2 <;> cases hop2
 | false =>
 have ho1:∀ k ∈ d6 (ev s) o.op.operands.toList,s'.o k = s.o k:=fun k hk=>ho k (xc hst hk)
 cases he with
 | skip hw hd=>exact .skip (hg.trans hw) hd
 | cut out id hw hd hq' hp hW'=>exact .cut out id (hg.trans hw) hd ((a73 hx ho1).trans hq') hp hW'
 | quiet out hw hd hq' hp hM=>exact .quiet out (hg.trans hw) hd ((acz hx ho1).trans hq') hp hM
 | make nw hw hd hq' hp hm hn hW' hN' hM =>
  have e:=(hW _ (by rw [hW'];simp)).trans hn
  have q:=hN an.id (by rw [hN'];simp) (hm.nmx _)
  rw [hW'] at q
  exact .make nw (hg.trans hw) hd ((acy hx).trans hq') hp (q.nm e) e hW' hN' hM
 | store u hw hd hq' hp hW' hM=>exact .store u (hg.trans hw) hd ((a5q hx ho1).trans hq') hp hW' hM
 | app u hw hd hq' hp hn hW' hN' hM =>
  refine .app u (hg.trans hw) hd ((aaq hx ho1).trans hq') hp (fun h=>?_) hW' hN' hM
  obtain ⟨h1,h2⟩:=hn h
  have hid:u.id = an.id:=by
   have:=hq'
   unfold hap at this
   split at this <;> try (cases this;done)
   split at this <;> try (cases this;done)
   case h_2 =>
    have e:u.new = false:=by
     unfold se at this
     split at this <;> try (cases this;done)
     split at this <;> try (cases this;done)
     split at this <;> try (cases this;done)
     split at this <;> try (cases this;done)
     split at this <;> try (cases this;done)
     split at this <;> try (cases this;done)
     split at this <;> try (cases this;done)
     unfold a2n at this
     grind
    grind
   unfold z1 at this
   split at this <;> try (cases this;done)
   split at this <;> try (cases this;done)
   unfold yp at this
   split at this <;> try (cases this;done)
   split at this <;> try (cases this;done)
   split at this <;> try (cases this;done)
   split at this <;> try (cases this;done)
   unfold qf at this
   split at this <;> try (cases this;done)
   · unfold vt at this
     grind
   · grind
   · grind
   grind
  have e:=(hW _ (by rw [hW',hid];simp)).trans h2
  have q:=hN an.id (by rw [hN' h];simp) (h1.nmx _)
  rw [hW',hid] at q
  exact ⟨q.nm e,e⟩
 | conv sr ds x b hw hd hop hcv hp hM =>
  refine .conv sr ds x b (hg.trans hw) hd hop ?_ hp hM
  have hxx:ev s' x = ev s x:=hx x (by rw [hop];simp [Op.operands])
  unfold a14 at hcv ⊢
  grind
 | call cl f fst caps args p vs b hw hd hop hc hf hv hp hco hpure hb hM =>
  have hxa:∀ y ∈ cl.args.toList,ev s' y = ev s y:=fun y hy=>hx y (by rw [hop];simp only [Op.operands,Call.operands];simp;exact .inr (by simpa using hy))
  have hcal:callee (ev s') cl = callee (ev s) cl:=by
   unfold callee
   split
   · rename_i fo hcl
     rw [hx fo (by rw [hop];simp [Op.operands,Call.operands,hcl])]
   rfl
  refine .call cl f fst caps args p vs b (hg.trans hw) hd hop (hcal.trans hc) hf ((uj hxa fun k hk=>ho k ?_).trans hv) hp hco hpure hb hM
  obtain ⟨fo,hcl⟩:∃ fo,cl.callee = .value fo:=by
   unfold callee at hc
   grind
  unfold dl
  rw [hst,cond_false,show vd o = true from by unfold vd;rw [hop];simp only [hcl]]
  refine xi (fun j hj=>?_) k hk
  rw [hop]
  simp only [Op.operands,Call.operands]
  have key:∀ l1 l2:List Operand,∀ j ∈ d6 (ev s) l2,j ∈ d6 (ev s) (l1 ++ l2):=by
   intro l1
   induction l1 with
   | nil=>intro l2 j hj;exact hj
   | cons y l1 ih=>intro l2 j hj;simp only [List.cons_append,d6];exact List.mem_append_right _ (ih l2 j hj)
  grind
 | fcall cl f caps args hcs o1 o2 res fx hw hd hop hc hf hv hco hfun hsub hnew hnm hcl hclr hW' hN' hM =>
  have hxa:∀ y ∈ cl.args.toList,ev s' y = ev s y:=fun y hy=>hx y (by rw [hop];simp only [Op.operands,Call.operands];simp;exact .inr (by simpa using hy))
  have hcal:qu (ev s') cl = qu (ev s) cl:=by
   unfold qu
   split
   · rename_i fo hcl
     rw [hx fo (by rw [hop];simp [Op.operands,Call.operands,hcl])]
   rfl
  have hv':o0 (ev s') cl.args.toList = o0 (ev s) cl.args.toList:=by
   have:∀ l:List Operand,(∀ y ∈ l,ev s' y = ev s y) → o0 (ev s') l = o0 (ev s) l:=by
    intro l
    induction l with
    | nil=>intro _;rfl
    | cons y l ih =>
     intro hl
     simp only [o0]
     grind
   grind
  have hsame:∀ k,k ∈ d7 o1 ++ d7 o2 → s'.o k = s.o k:=fun k hk=>hW k (by rw [hW'];exact hk)
  refine .fcall cl f caps args hcs o1 o2 res fx (hg.trans hw) hd hop (hcal.trans hc) hf (hv'.trans hv) hco hfun (fun id ob hid=>?_) (fun id h2 h1=>?_) (fun id h2 h1=>?_) hcl hclr hW' hN' hM
  · rw [hsame id (List.mem_append_left _ (ux hid))]
    grind
  · grind
  grind
end
structure ag9 where
 R:List Nat
 W:List Nat
 N:List Nat
 M:List Nat
 O:List Nat
def pz (s:S):Wr → List Nat
 | []=>[]
 | (id,_) :: r=>(match s.o id with | some ob=>ob.ids | none=>[]) ++ pz s r
def cq (s:S) (d:Option Tmp) (wr:Wr):List Nat :=
 (match d with | some d=>(match s.t d with | some v=>v.ids | none=>[]) | none=>[]) ++ pz s wr
theorem a6b {s:S} {id:Nat} {ob:af} (ho:s.o id = some ob) {k:Nat} (hk:k ∈ ob.ids):∀ {l:Wr} {r:Option af},(id,r) ∈ l → k ∈ pz s l
 | (e,x) :: l,r,h=>by
  rcases List.mem_cons.1 h with h | h
  · simp only [Prod.mk.injEq] at h
    obtain ⟨rfl,rfl⟩:=h
    simp only [pz,ho]
    grind
  simp only [pz]
  exact List.mem_append_right _ (a6b ho hk h)
theorem vj {s s':S}:∀ {l:Wr},(∀ q ∈ l,s'.o q.1 = s.o q.1) → pz s' l = pz s l
 | [],_=>rfl
 | (id,x) :: l,h=>by
  simp only [pz]
  rw [h (id,x) (by simp),vj fun q hq=>h q (by simp [hq])]
def yf:List Nat → List Nat → Bool
 | [],_=>true
 | x :: l,m=>!(m.any (Nat.beq x)) && yf l m
theorem n5:∀ {l m:List Nat},yf l m = true → ∀ k ∈ l,k ∉ m
 | x :: l,m,h,k,hk,hm=>by
  simp only [yf,Bool.and_eq_true,Bool.not_eq_true'] at h
  rcases List.mem_cons.1 hk with rfl | hk
  · have:=h.1
    rw [List.any_eq_false] at this
    exact this k hm (by simp)
  exact n5 h.2 k hk hm
def a35 (ops:Array Oper) (ox oy:Oper) (x y:ag9):Bool :=
 ox.apart ops oy && yf x.W y.R && yf x.W y.W && yf y.W x.R && yf y.N x.O && yf x.N y.M
section
variable {P:Program} {E:Env} {nt:Nat} {s:S} {ops:Array Oper}
theorem eu {d:Option Tmp} {x:Option HR} {wr:Wr} {k:Nat} (h:d ≠ some k):(s.after d x wr).t k = s.t k:=by
 unfold S.after S.putD
 cases d with
 | none=>rfl
 | some j =>
  have hne:k ≠ j:=fun e=>h (by rw [e])
  simp [S.put,S.setW,hne]
theorem l8 {d:Option Tmp} {x:Option HR} {wr:Wr} {k:Nat}:(s.after d x wr).o k = match fw wr k with | some r=>r | none=>s.o k:=by
 unfold S.after S.putD
 cases d <;> rfl
theorem a2i {d:Option Tmp} {x:Option HR} {wr:Wr} {k:Nat} (h:∀ q ∈ wr,q.1 ≠ k):(s.after d x wr).o k = s.o k:=by
 rw [l8,a8j h]
theorem vq {d:Option Tmp} {x:Option HR} {wr:Wr} {y:Operand} (h:∀ k,d = some k → y ≠ .tmp k):ev (s.after d x wr) y = ev s y:=by
 cases y with
 | tmp k=>exact eu fun e=>h k e rfl
 | _=>rfl
theorem ni {o:Oper} {d:Option Tmp} {x:Option HR} {wr:Wr} (h:∀ k,d = some k → k ∉ o.looksAt ops):bj ops (s.after d x wr) o = bj ops s o:=by
 unfold bj
 split
 · rfl
 rename_i j want hg
 cases hd:(ops[j]?).bind (·.dst) with
 | none=>rfl
 | some k =>
  dsimp only
  rw [eu fun e=>h k e (by simp [Oper.looksAt,hg,hd])]
theorem mg {o:Oper} {k:Nat} (h:k ∉ o.looksAt ops):∀ y ∈ o.op.operands,y ≠ .tmp k:=by
 rintro y hy rfl
 apply h
 unfold Oper.looksAt
 apply List.mem_append_left
 rw [List.mem_filterMap]
 exact ⟨.tmp k,by simpa using hy,rfl⟩
theorem a4b {d:Option Tmp} {x:Option HR} {wr:Wr} {k:Nat} {W:List Nat} (hs:NMx s W k) (hx:∀ r,x = some r → k ∉ r.ids) (hw:∀ id ob,(id,some ob) ∈ wr → k ∉ ob.ids):NMx (s.after d x wr) W k:=by
 refine ⟨?_, ?_,hs.2.2⟩
 · intro j r hr hm
   by_cases hj:d = some j
   · subst hj
     have:(s.after (some j) x wr).t j = x:=by unfold S.after S.putD;simp [S.put]
     rw [this] at hr
     exact hx r hr (HR.men_ids hm)
   rw [eu hj] at hr
   exact hs.1 j r hr hm
 intro id ob hidW hob hm
 rw [l8] at hob
 cases hl:fw wr id with
 | none=>rw [hl] at hob;exact hs.2.1 id ob hidW hob hm
 | some r =>
  rw [hl] at hob
  have hob:r = some ob:=hob
  subst hob
  exact hw id ob (nf hl) (af.men_ids hm)
theorem a6q {d:Option Tmp} {x:Option HR} {wr:Wr} {k:Nat} {W:List Nat} (hs:NMx (s.after d x wr) W k) (ho:k ∉ cq s d wr):NMx s W k:=by
 refine ⟨?_, ?_,hs.2.2⟩
 · intro j r hr hm
   by_cases hj:d = some j
   · subst hj
     apply ho
     unfold cq
     simp only [hr]
     exact List.mem_append_left _ (HR.men_ids hm)
   exact hs.1 j r (by rw [eu hj];exact hr) hm
 intro id ob hidW hob hm
 cases hl:fw wr id with
 | none=>exact hs.2.1 id ob hidW (by rw [l8,hl];exact hob) hm
 | some r =>
  apply ho
  unfold cq
  exact List.mem_append_right _ (a6b hob (af.men_ids hm) (nf hl))
theorem a8e {d d':Option Tmp} {x x':Option HR} {wr wr':Wr} (hd:∀ k,d = some k → d' ≠ some k) (hw:∀ q ∈ wr,∀ q' ∈ wr',q.1 ≠ q'.1) :
 (s.after d x wr).after d' x' wr' = (s.after d' x' wr').after d x wr:=by
 have ht:∀ k,((s.after d x wr).after d' x' wr').t k = ((s.after d' x' wr').after d x wr).t k:=by
  intro k
  by_cases h1:d = some k
  · have h2:=hd k h1
    subst h1
    rw [eu h2]
    have e1:(s.after (some k) x wr).t k = x:=by unfold S.after S.putD;simp [S.put]
    have e2:((s.after d' x' wr').after (some k) x wr).t k = x:=by unfold S.after S.putD;simp [S.put]
    rw [e1,e2]
  by_cases h2:d' = some k
  · subst h2
    rw [eu (s:=s.after (some k) x' wr') h1]
    have e1:((s.after d x wr).after (some k) x' wr').t k = x':=by unfold S.after S.putD;simp [S.put]
    have e2:(s.after (some k) x' wr').t k = x':=by unfold S.after S.putD;simp [S.put]
    rw [e1,e2]
  rw [eu h2,eu h1,eu h1,eu h2]
 have ho:∀ k,((s.after d x wr).after d' x' wr').o k = ((s.after d' x' wr').after d x wr).o k:=by
  intro k
  rw [l8,l8,l8,l8]
  cases h1:fw wr k with
  | none=>rfl
  | some r =>
   cases h2:fw wr' k with
   | none=>rfl
   | some r'=>exact (hw (k,r) (nf h1) (k,r') (nf h2) rfl).elim
 cases h1:(s.after d x wr).after d' x' wr' with
 | mk t1 o1 =>
  cases h2:(s.after d' x' wr').after d x wr with
  | mk t2 o2 =>
   rw [h1,h2] at ht ho
   have:t1 = t2:=funext ht
   have:o1 = o2:=funext ho
   simp_all
structure vk where
 id:Nat
 off:Nat
 len:Nat
 wr:Bool
def f5 (E:Env) (s:S) (o:Oper):Option vk :=
 match o.op with
 | .load t x=>match E t,ev s x with | some i,some (.v (.one (.ptr id off)))=>some ⟨id,off,i.size,false⟩ | _,_=>none
 | .nilCheck x=>match ev s x with | some (.v (.one (.ptr id off)))=>some ⟨id,off,0,false⟩ | _=>none
 | .move x=>match ev s x with | some (.v (.one (.ptr id off)))=>some ⟨id,off,0,false⟩ | _=>none
 | .assign x=>match ev s x with | some (.v (.one (.ptr id off)))=>some ⟨id,off,0,false⟩ | _=>none
 | .fieldAddr _ x _=>match ev s x with | some (.v (.one (.ptr id off)))=>some ⟨id,off,0,false⟩ | _=>none
 | .store t x _=>match E t,ev s x with | some i,some (.v (.one (.ptr id off)))=>some ⟨id,off,i.size,true⟩ | _,_=>none
 | _=>none
theorem o3 {E:Env} {s s':S} {o:Oper} (h:∀ y ∈ o.op.operands,ev s' y = ev s y):f5 E s' o = f5 E s o:=by
 unfold f5
 cases ho:o.op <;> rw [ho] at h <;> simp only [Op.operands] at h <;> try rfl
 all_goals (dsimp only;rw [h _ (by simp)])
structure Tr where
 i:Nat
 an:Ann
 R:List Nat
 O:List Nat
 F:Option vk
def Tr.foot (t:Tr):ag9:=⟨t.R,t.an.W,t.an.N,t.an.M,t.O⟩
inductive jk (P:Program) (E:Env) (nt:Nat) (ops:Array Oper):List Tr → S → S → Prop where
 | nil (s:S):jk P E nt ops [] s s
 | cons {i:Nat} {an:Ann} {R O:List Nat} {F:Option vk} {o:Oper} {s s':S} {x:Option HR} {wr:Wr} {T:List Tr} (hi:ops[i]? = some o) (he:Eff P E nt ops o an s x wr) (hR:dl s o = R) (hO:∀ k ∈ cq s o.dst wr,k ∈ O)
  (hF:∀ f,F = some f → f5 E s o = some f ∧ bj ops s o = some true) (hT:jk P E nt ops T (s.after o.dst x wr) s'):jk P E nt ops (⟨i,an,R,O,F⟩ :: T) s s'
def yi (l m:List Nat):Bool:=l.all fun k=>m.any (Nat.beq k)
theorem n8 {l m:List Nat} (h:yi l m = true):∀ k ∈ l,k ∈ m:=by
 intro k hk
 unfold yi at h
 simp_all
def a34 (ops:Array Oper) (ox oy:Oper) (x y:Tr):Bool :=
 match x.F,y.F with
 | some f,some g =>
  ox.apart ops oy && Nat.beq f.id g.id && (Nat.ble (f.off + f.len) g.off || Nat.ble (g.off + g.len) f.off) && x.an.N.isEmpty && y.an.N.isEmpty &&
  (match f.wr,g.wr with
   | true,true=>yi x.O y.an.M && yi x.O x.an.M && yi y.an.M x.an.M && yi x.O y.O && yi y.an.M x.O && yi x.an.M y.an.M
   | true,false=>true
   | false,true=>true
   | false,false=>false)
 | _,_=>false
def a1z (ops:Array Oper) (x y:Tr):Bool :=
 match ops[x.i]?,ops[y.i]? with
 | some ox,some oy=>a35 ops ox oy x.foot y.foot || a34 ops ox oy x y
 | _,_=>false
theorem zq {o:Oper} {d:Option Tmp} {x:Option HR} {wr:Wr} (h:∀ y ∈ o.op.operands,ev (s.after d x wr) y = ev s y) (ho:ou o = false → ∀ k ∈ d6 (ev s) o.op.operands.toList,(s.after d x wr).o k = s.o k):dl (s.after d x wr) o = dl s o:=by
 unfold dl
 cases hst:ou o with
 | true=>rfl
 | false =>
 have ho:=ho hst
 rw [lx (e:=ev s) (fun y hy=>h y (by simpa using hy)),a1q ho]
theorem ahe {sf:S} {x y:Tr} {T:List Tr} {ox0 oy0:Oper} (h:jk P E nt ops (x :: y :: T) s sf) (hx0:ops[x.i]? = some ox0) (hy0:ops[y.i]? = some oy0) (hp:a35 ops ox0 oy0 x.foot y.foot = true):jk P E nt ops (y :: x :: T) s sf:=by
 cases h with
 | @cons ix anx Rx Ox Fx ox _ _ vx wx _ hix hex hRx hOx hFx h =>
 cases h with
 | @cons iy any Ry Oy Fy oy _ _ vy wy _ hiy hey hRy hOy hFy h =>
 obtain rfl:ox0 = ox:=by have:=hx0.symm.trans hix;simpa using this
 obtain rfl:oy0 = oy:=by have:=hy0.symm.trans hiy;simpa using this
 simp only [a35,Bool.and_eq_true,Tr.foot] at hp
 obtain ⟨⟨⟨⟨⟨hap,h1⟩,h2⟩,h3⟩,h4⟩,h5⟩:=hp
 have h1:=n5 h1
 have h2:=n5 h2
 have h3:=n5 h3
 have h4:=n5 h4
 have h5:=n5 h5
 obtain ⟨a1,a2,a3⟩:=Oper.apart_spec hap
 have hwx:=a7d hex
 have hwy:=a7d hey
 have eyx:∀ z ∈ oy0.op.operands,ev (s.after ox0.dst vx wx) z = ev s z:=fun z hz=>vq fun k hk=>mg (a1 k hk) z hz
 have gy:bj ops (s.after ox0.dst vx wx) oy0 = bj ops s oy0:=ni a1
 have oyx:∀ k ∈ Ry ++ any.W,(s.after ox0.dst vx wx).o k = s.o k:=fun k hk=>a2i fun q hw e=>by
  grind
 have hlk:dl s oy0 = Ry:=by
  rw [← hRy]
  have hids:ou oy0 = false → ∀ k ∈ d6 (ev s) oy0.op.operands.toList,(s.after ox0.dst vx wx).o k = s.o k:=by
   intro hst k hk
   refine oyx k (List.mem_append_left _ ?_)
   rw [← hRy]
   refine xc hst ?_
   rw [lx (e:=ev s) (fun z hz=>eyx z (by simpa using hz))]
   exact hk
  exact (zq eyx hids).symm
 have hey':Eff P E nt ops oy0 any s vy wy:=a3i hey (fun z hz=>(eyx z hz).symm) gy.symm (fun k hk=>by
  rw [hRy] at hk
  exact (oyx k (List.mem_append_left _ hk)).symm) (fun k hk=>(oyx k (List.mem_append_right _ hk)).symm) (fun k hk hnm=>a6q hnm (fun hk'=>h4 k hk (hOx k hk')))
 have exy:∀ z ∈ ox0.op.operands,ev (s.after oy0.dst vy wy) z = ev s z:=fun z hz=>vq fun k hk=>mg (a3 k hk) z hz
 have gx:bj ops (s.after oy0.dst vy wy) ox0 = bj ops s ox0:=ni a3
 have oxy:∀ k ∈ Rx ++ anx.W,(s.after oy0.dst vy wy).o k = s.o k:=fun k hk=>a2i fun q hw e=>by
  grind
 have hlx:dl (s.after oy0.dst vy wy) ox0 = Rx:=by
  rw [zq exy (fun hst k hk=>oxy k (List.mem_append_left _ (by rw [← hRx];exact xc hst hk))),hRx]
 obtain ⟨m1,m2⟩:=ad3 hey
 have hex':Eff P E nt ops ox0 anx (s.after oy0.dst vy wy) vx wx:=a3i hex exy gx (fun k hk=>oxy k (List.mem_append_left _ (by rw [← hRx];exact hk))) (fun k hk=>oxy k (List.mem_append_right _ hk))
  (fun k hk hnm=>a4b hnm (fun r hr hkr=>h5 k hk (m1 r hr k hkr)) (fun id ob hw hko=>h5 k hk (m2 id ob hw k hko)))
 have hdne:∀ k,ox0.dst = some k → oy0.dst ≠ some k:=a2
 have hOy':cq s oy0.dst wy = cq (s.after ox0.dst vx wx) oy0.dst wy:=by
  unfold cq
  congr 1
  · cases hd:oy0.dst with
    | none=>rfl
    | some k=>dsimp only;rw [eu fun e=>a2 k e hd]
  exact (vj fun q hq=>oyx q.1 (List.mem_append_right _ (hwy q hq))).symm
 have hOx':cq (s.after oy0.dst vy wy) ox0.dst wx = cq s ox0.dst wx:=by
  unfold cq
  congr 1
  · cases hd:ox0.dst with
    | none=>rfl
    | some k=>dsimp only;rw [eu (a2 k hd)]
  exact vj fun q hq=>oxy q.1 (List.mem_append_right _ (hwx q hq))
 rw [a8e hdne fun q hq q' hq' e=>h2 q.1 (hwx q hq) (by rw [e];exact hwy q' hq')] at h
 exact .cons hiy hey' hlk (fun k hk=>hOy k (by rw [← hOy'];exact hk)) (fun f hf=>⟨(o3 eyx).symm.trans (hFy f hf).1,gy.symm.trans (hFy f hf).2⟩) (.cons hix hex' hlx (fun k hk=>hOx k (by rw [← hOx'];exact hk)) (fun f hf=>⟨(o3 exy).trans (hFx f hf).1,gx.trans (hFx f hf).2⟩) h)
theorem sn {o:Oper} {f:vk} (h:f5 E s o = some f):(f.wr = false ∧ ((∃ t x,o.op = .load t x) ∨ (∃ x,o.op = .nilCheck x) ∨ (∃ t x k,o.op = .fieldAddr t x k) ∨ (∃ x,o.op = .move x) ∨ ∃ x,o.op = .assign x)) ∨ (f.wr = true ∧ ∃ t x v,o.op = .store t x v):=by
 unfold f5 at h
 grind
theorem a4r {o:Oper} {an:Ann} {x:Option HR} {wr:Wr} {f:vk} (he:Eff P E nt ops o an s x wr) (hf:f5 E s o = some f) (hw:bj ops s o = some true) (hr:f.wr = false) :
 ∃ out,x = some out.val ∧ wr = [] ∧ hq E an.ex s.o (ev s) o.op = some out ∧ out.pre ∧ dk nt o.dst = true ∧ out.val.ids = an.M:=by
 have hops:(∃ t x,o.op = .load t x) ∨ (∃ x,o.op = .nilCheck x) ∨ (∃ t x k,o.op = .fieldAddr t x k) ∨ (∃ x,o.op = .move x) ∨ ∃ x,o.op = .assign x:=by
  rcases sn hf with ⟨_,h⟩ | ⟨h,_⟩
  · exact h
  grind
 cases he with
 | skip hw' hd=>rw [hw] at hw';cases hw'
 | quiet out hw hd hq' hp hM=>exact ⟨out,rfl,rfl,hq',hp,hd,hM⟩
 | cut out id hw hd hq' hp hW=>rcases hops with ⟨t,x,h⟩ | ⟨x,h⟩ | ⟨t,x,k,h⟩ | ⟨x,h⟩ | ⟨x,h⟩ <;> (rw [h] at hq';cases hq')
 | make nw hw hd hq' hp hm hn hW hN hM=>rcases hops with ⟨t,x,h⟩ | ⟨x,h⟩ | ⟨t,x,k,h⟩ | ⟨x,h⟩ | ⟨x,h⟩ <;> (rw [h] at hq';cases hq')
 | store u hw hd hq' hp hW hM=>rcases hops with ⟨t,x,h⟩ | ⟨x,h⟩ | ⟨t,x,k,h⟩ | ⟨x,h⟩ | ⟨x,h⟩ <;> (rw [h] at hq';cases hq')
 | app u hw hd hq' hp hn hW hN hM=>rcases hops with ⟨t,x,h⟩ | ⟨x,h⟩ | ⟨t,x,k,h⟩ | ⟨x,h⟩ | ⟨x,h⟩ <;> (rw [h] at hq';cases hq')
 | call cl f fst caps args p vs b hw hd ho hc hf hv hp hco hpure hb hM=>rcases hops with ⟨t,x,h⟩ | ⟨x,h⟩ | ⟨t,x,k,h⟩ | ⟨x,h⟩ | ⟨x,h⟩ <;> (rw [h] at ho;cases ho)
 | conv sr ds x b hw hd ho hcv hp hM=>rcases hops with ⟨t,x,h⟩ | ⟨x,h⟩ | ⟨t,x,k,h⟩ | ⟨x,h⟩ | ⟨x,h⟩ <;> (rw [h] at ho;cases ho)
 | fcall cl f caps args hcs o1 o2 res fx hw hd ho hc hf hv hco hfun hsub hnew hnm hcl hclr hW hN hM=>rcases hops with ⟨t,x,h⟩ | ⟨x,h⟩ | ⟨t,x,k,h⟩ | ⟨x,h⟩ | ⟨x,h⟩ <;> (rw [h] at ho;cases ho)
theorem yj {o:Oper} {an:Ann} {x:Option HR} {wr:Wr} {f:vk} (he:Eff P E nt ops o an s x wr) (hf:f5 E s o = some f) (hw:bj ops s o = some true) (hr:f.wr = true) :
 ∃ u,x = none ∧ wr = [(u.id,some u.ob)] ∧ hs E s.o (ev s) o.op = some u ∧ u.pre ∧ an.W = [u.id] ∧ (∀ k ∈ u.ob.ids,k ∈ an.M) ∧ dk nt o.dst = true:=by
 have hops:∃ t x v,o.op = .store t x v:=by
  rcases sn hf with ⟨h,_⟩ | ⟨_,h⟩
  · grind
  exact h
 obtain ⟨t,ad,v,h⟩:=hops
 cases he with
 | skip hw' hd=>rw [hw] at hw';cases hw'
 | quiet out hw hd hq' hp hM=>rw [h] at hq';cases hq'
 | cut out id hw hd hq' hp hW=>rw [h] at hq';cases hq'
 | make nw hw hd hq' hp hm hn hW hN hM=>rw [h] at hq';cases hq'
 | store u hw hd hq' hp hW hM=>exact ⟨u,rfl,rfl,hq',hp,hW,hM,hd⟩
 | app u hw hd hq' hp hn hW hN hM=>rw [h] at hq';cases hq'
 | call cl f fst caps args p vs b hw hd ho hc hf hv hp hco hpure hb hM=>rw [h] at ho;cases ho
 | conv sr ds x b hw hd ho hcv hp hM=>rw [h] at ho;cases ho
 | fcall cl f caps args hcs o1 o2 res fx hw hd ho hc hf hv hco hfun hsub hnew hnm hcl hclr hW hN hM=>rw [h] at ho;cases ho
theorem a2j {o:Oper} {f:vk} (hf:f5 E s o = some f) (hr:f.wr = true) {u:Upd} (hu:hs E s.o (ev s) o.op = some u) :
 ∃ l new,s.o f.id = some (.box l) ∧ new.length = f.len ∧ u = ⟨f.off + f.len ≤ l.length,f.id, .box (bp l f.off new)⟩ ∧
  ∀ (o':aw) (e':Ev) (l':List HV),o' f.id = some (.box l') → (∀ y ∈ o.op.operands,e' y = ev s y) → hs E o' e' o.op = some ⟨f.off + f.len ≤ l'.length,f.id, .box (bp l' f.off new)⟩:=by
 have hops:∃ t x v,o.op = .store t x v:=by
  rcases sn hf with ⟨h,_⟩ | ⟨_,h⟩
  · grind
  exact h
 obtain ⟨t,ad,v,h⟩:=hops
 unfold f5 at hf
 rw [h] at hf hu ⊢
 dsimp only at hf
 split at hf <;> try (cases hf;done)
 rename_i i id off hE he
 simp only [Option.some.injEq] at hf
 subst hf
 simp only [hs,j4,hE,he] at hu
 cases hv:ev s v with
 | none=>rw [hv] at hu;cases hu
 | some rv =>
  cases rv with
  | tup l=>rw [hv] at hu;cases hu
  | v cc =>
   rw [hv] at hu
   dsimp only at hu
   cases hob:s.o id with
   | none=>rw [hob] at hu;cases hu
   | some ob =>
    cases ob with
    | mp kk' n' f'=>rw [hob] at hu;cases hu
    | bld fr' T' e' l'=>rw [hob] at hu;cases hu
    | ex d' v' b' x'=>rw [hob] at hu;cases hu
    | bun B'=>rw [hob] at hu;cases hu
    | opq s' e' n' R'=>rw [hob] at hu;cases hu
    | nest e' et' es' n' m' g' pd'=>rw [hob] at hu;cases hu
    | arr wr' s' e' n' f'=>rw [hob] at hu;cases hu
    | arrh s' e' n' ms' f'=>rw [hob] at hu;cases hu
    | box l =>
     rw [hob] at hu
     dsimp only at hu
     split at hu <;> try (cases hu;done)
     rename_i hlen
     simp only [Option.some.injEq] at hu
     subst hu
     refine ⟨l,cc.cells,rfl,of_decide_eq_true hlen,rfl,fun o' e' l' ho' he'=>?_⟩
     simp only [Op.operands] at he'
     simp only [hs,j4,hE]
     grind
theorem x4 {g g':Nat → HV}:∀ (n i:Nat),(∀ j,i ≤ j → j < i + n → g j = g' j) → jm g n i = jm g' n i
 | 0,_,_=>rfl
 | n + 1,i,h=>by
  simp only [jm]
  rw [h i (Nat.le_refl _) (by omega),x4 n (i + 1) fun j h1 h2=>h j (by omega) (by omega)]
theorem a7v {ex:Bool} {o:Oper} {f:vk} (hf:f5 E s o = some f) (hr:f.wr = false) {l l':List HV} {o':aw} {e':Ev} (hl:s.o f.id = some (.box l)) (hl':o' f.id = some (.box l')) (hlen:l'.length = l.length)
 (hj:∀ j,f.off ≤ j → j < f.off + f.len → l'[j]? = l[j]?) (he':∀ y ∈ o.op.operands,e' y = ev s y):hq E ex o' e' o.op = hq E ex s.o (ev s) o.op:=by
 have hops:(∃ t x,o.op = .load t x) ∨ (∃ x,o.op = .nilCheck x) ∨ (∃ t x k,o.op = .fieldAddr t x k) ∨ (∃ x,o.op = .move x) ∨ ∃ x,o.op = .assign x:=by
  rcases sn hf with ⟨_,h⟩ | ⟨h,_⟩
  · exact h
  grind
 unfold f5 at hf
 rcases hops with ⟨t,x,h⟩ | ⟨x,h⟩ | ⟨t,x,k,h⟩ | ⟨x,h⟩ | ⟨x,h⟩
 · rw [h] at hf he' ⊢
   dsimp only at hf
   split at hf <;> try (cases hf;done)
   rename_i i id off hE he
   simp only [Option.some.injEq] at hf
   subst hf
   simp only [Op.operands] at he'
   simp only [hq,jn,hE]
   rw [he' x (by simp),he]
   dsimp only at hl hl' hj ⊢
   simp only [tgt,hl,hl']
   have hg:∀ j,j < i.size → l'.getD (off + j) (.p .any) = l.getD (off + j) (.p .any):=fun j hjl=>by
    grind
   cases i.k.isAgg with
   | true =>
    dsimp only
    rw [hlen,x4 i.size 0 fun j _ h2=>hg j (by omega)]
   | false =>
    grind
 · rw [h] at hf he' ⊢
   dsimp only at hf
   split at hf <;> try (cases hf;done)
   rename_i id off he
   simp only [Option.some.injEq] at hf
   subst hf
   simp only [Op.operands] at he'
   simp only [hq,mh]
   rw [he' x (by simp),he]
   dsimp only at hl hl' ⊢
   simp only [tgt,hl,hl']
 · rw [h] at hf he' ⊢
   dsimp only at hf
   split at hf <;> try (cases hf;done)
   rename_i id off he
   simp only [Option.some.injEq] at hf
   subst hf
   simp only [Op.operands] at he'
   simp only [hq,f3]
   rw [he' x (by simp),he]
   dsimp only at hl hl' ⊢
   simp only [tgt,hl,hl']
   grind
 · rw [h] at he' ⊢
   simp only [Op.operands] at he'
   simp only [hq]
   grind
 rw [h] at he' ⊢
 simp only [Op.operands] at he'
 simp only [hq]
 grind
theorem jp {l new:List HV} {off:Nat} (h:off + new.length ≤ l.length):(bp l off new).length = l.length:=yk l new off h
theorem mz {l new:List HV} {off:Nat} (k:Nat) (h:off + new.length ≤ l.length):(bp l off new)[k]? = if off ≤ k ∧ k < off + new.length then new[k - off]? else l[k]?:=cu l new off k h
theorem a92 {l a b:List HV} {i j:Nat} (ha:i + a.length ≤ l.length) (hb:j + b.length ≤ l.length) (hd:i + a.length ≤ j ∨ j + b.length ≤ i):bp (bp l i a) j b = bp (bp l j b) i a:=by
 apply List.ext_getElem?
 intro k
 rw [mz k (by rw [jp ha];exact hb),mz k ha,mz k (by rw [jp hb];exact ha),mz k hb]
 grind
theorem t8 {l new:List HV} {off k:Nat} (h:k ∈ gl (bp l off new)):k ∈ gl l ∨ k ∈ gl new:=by
 obtain ⟨x,hx,hk⟩:=idsL_mem' h
 unfold bp at hx
 rcases List.mem_append.1 hx with hx | hx
 · rcases List.mem_append.1 hx with hx | hx
   · exact .inl (jx ⟨x,List.mem_of_mem_take hx,hk⟩)
   exact .inr (jx ⟨x,hx,hk⟩)
 exact .inl (jx ⟨x,List.mem_of_mem_drop hx,hk⟩)
theorem a7z {l new:List HV} {off k:Nat} (h:k ∈ gl new):k ∈ gl (bp l off new):=by
 obtain ⟨x,hx,hk⟩:=idsL_mem' h
 exact jx ⟨x,List.mem_append_left _ (List.mem_append_right _ hx),hk⟩
theorem after_comm' {d d':Option Tmp} {x x':Option HR} {wr wr' wr1 wr1':Wr} (hd:∀ k,d = some k → d' ≠ some k) (ho:∀ k,((s.after d x wr).after d' x' wr').o k = ((s.after d' x' wr1').after d x wr1).o k) :
 (s.after d x wr).after d' x' wr' = (s.after d' x' wr1').after d x wr1:=by
 have ht:∀ k,((s.after d x wr).after d' x' wr').t k = ((s.after d' x' wr1').after d x wr1).t k:=by
  intro k
  by_cases h1:d = some k
  · have h2:=hd k h1
    subst h1
    rw [eu h2]
    have e1:(s.after (some k) x wr).t k = x:=by unfold S.after S.putD;simp [S.put]
    have e2:((s.after d' x' wr1').after (some k) x wr1).t k = x:=by unfold S.after S.putD;simp [S.put]
    rw [e1,e2]
  by_cases h2:d' = some k
  · subst h2
    rw [eu (s:=s.after (some k) x' wr1') h1]
    have e1:((s.after d x wr).after (some k) x' wr').t k = x':=by unfold S.after S.putD;simp [S.put]
    have e2:(s.after (some k) x' wr1').t k = x':=by unfold S.after S.putD;simp [S.put]
    rw [e1,e2]
  rw [eu h2,eu h1,eu h1,eu h2]
 cases h1:(s.after d x wr).after d' x' wr' with
 | mk t1 o1 =>
  cases h2:(s.after d' x' wr1').after d x wr1 with
  | mk t2 o2 =>
   rw [h1,h2] at ht ho
   have:t1 = t2:=funext ht
   have:o1 = o2:=funext ho
   simp_all
theorem mr {d:Option Tmp} {x:Option HR} {id:Nat} {ob:af}:(s.after d x [(id,some ob)]).o = fun k=>if k = id then some ob else s.o k:=by
 funext k
 rw [l8]
 simp only [fw]
 by_cases h:k = id
 · subst h;simp
 have:Nat.beq id k = false:=by rw [Bool.eq_false_iff];exact fun hb=>h (Nat.eq_of_beq_eq_true hb).symm
 simp [this,h]
theorem oh {d:Option Tmp} {x:Option HR}:(s.after d x []).o = s.o:=by
 funext k
 exact a2i fun q hq=>by cases hq
theorem ya {s':S} {d:Option Tmp} {id:Nat} {ob ob':af} (hd:∀ k,d = some k → s'.t k = s.t k) {l':List HV} (hl':s'.o id = some (.box l')) {k:Nat} (hk:k ∈ cq s' d [(id,some ob')]) :
 k ∈ cq s d [(id,some ob)] ∨ k ∈ gl l':=by
 unfold cq at hk ⊢
 rcases List.mem_append.1 hk with hk | hk
 · grind
 simp only [pz,hl',af.ids,List.append_nil] at hk
 exact .inr hk
theorem ahh {sf:S} {x y:Tr} {T:List Tr} {ox oy:Oper} (h:jk P E nt ops (x :: y :: T) s sf) (hx0:ops[x.i]? = some ox) (hy0:ops[y.i]? = some oy) (hp:a34 ops ox oy x y = true):jk P E nt ops (y :: x :: T) s sf:=by
 cases h with
 | @cons ix anx Rx Ox Fx ox1 _ _ vx wx _ hix hex hRx hOx hFx h =>
 cases h with
 | @cons iy any Ry Oy Fy oy1 _ _ vy wy _ hiy hey hRy hOy hFy h =>
 obtain rfl:ox = ox1:=by have:=hx0.symm.trans hix;simpa using this
 obtain rfl:oy = oy1:=by have:=hy0.symm.trans hiy;simpa using this
 unfold a34 at hp
 dsimp only at hp
 cases Fx with
 | none=>cases hp
 | some f =>
 cases Fy with
 | none=>cases hp
 | some g =>
 simp only [Bool.and_eq_true] at hp
 obtain ⟨⟨⟨⟨⟨hap,hid⟩,hdis⟩,hNx⟩,hNy⟩,hm⟩:=hp
 have hid:f.id = g.id:=Nat.eq_of_beq_eq_true hid
 have hdis:f.off + f.len ≤ g.off ∨ g.off + g.len ≤ f.off:=by
  rcases (Bool.or_eq_true _ _ ▸ hdis:_ ∨ _) with h' | h'
  · exact .inl (Nat.le_of_ble_eq_true h')
  exact .inr (Nat.le_of_ble_eq_true h')
 have hNx:anx.N = []:=by simpa using hNx
 have hNy:any.N = []:=by simpa using hNy
 obtain ⟨a1,a2,a3⟩:=Oper.apart_spec hap
 obtain ⟨fx1,fx2⟩:=hFx f rfl
 obtain ⟨fy1,fy2⟩:=hFy g rfl
 have eyx:∀ {d wr},(∀ k,d = some k → ox.dst = some k) → ∀ z ∈ oy.op.operands,ev (s.after d vx wr) z = ev s z:=fun hd z hz=>vq fun k hk=>mg (a1 k (hd k hk)) z hz
 have exy:∀ {v wr},∀ z ∈ ox.op.operands,ev (s.after oy.dst v wr) z = ev s z:=fun z hz=>vq fun k hk=>mg (a3 k hk) z hz
 have eyx':∀ z ∈ oy.op.operands,ev (s.after ox.dst vx wx) z = ev s z:=eyx fun k hk=>hk
 have gy:bj ops (s.after ox.dst vx wx) oy = bj ops s oy:=ni a1
 have gx:∀ {v wr},bj ops (s.after oy.dst v wr) ox = bj ops s ox:=ni a3
 have fyS:f5 E s oy = some g:=(o3 eyx').symm.trans fy1
 have fyW:bj ops s oy = some true:=gy.symm.trans fy2
 have notcall:∀ {st:S} {o:Oper} {q:vk},f5 E st o = some q → vd o = false:=fun {st o q} hq=>by
  unfold vd
  rcases sn hq with ⟨_,⟨t,x,h'⟩ | ⟨x,h'⟩ | ⟨t,x,k,h'⟩ | ⟨x,h'⟩ | ⟨x,h'⟩⟩ | ⟨_,t,x,v,h'⟩ <;> rw [h']
 have lky:dl s oy = Ry:=by
  rw [← hRy]
  unfold dl
  cases ou oy with
  | true=>rfl
  | false =>
  rw [notcall fyS]
  exact (lx fun z hz=>eyx' z (by simpa using hz)).symm
 have lkx:∀ {v wr},dl (s.after oy.dst v wr) ox = Rx:=fun {v wr}=>by
  rw [← hRx]
  unfold dl
  cases ou ox with
  | true=>rfl
  | false =>
  rw [notcall fx1]
  exact lx fun z hz=>exy z (by simpa using hz)
 have tdy:∀ k,oy.dst = some k → (s.after ox.dst vx wx).t k = s.t k:=fun k hk=>eu fun e=>a2 k e hk
 have tdx:∀ {v wr} k,ox.dst = some k → (s.after oy.dst v wr).t k = s.t k:=fun k hk=>eu (a2 k hk)
 have fxS:∀ {v wr},∀ q,some f = some q → f5 E (s.after oy.dst v wr) ox = some q ∧ bj ops (s.after oy.dst v wr) ox = some true:=fun q hq=>by
  rw [← hq];exact ⟨(o3 exy).trans fx1,gx.trans fx2⟩
 have fyS':∀ q,some g = some q → f5 E s oy = some q ∧ bj ops s oy = some true:=fun q hq=>by
  rw [← hq];exact ⟨fyS,fyW⟩
 cases hfw:f.wr with
 | false =>
  cases hgw:g.wr with
  | false=>rw [hfw,hgw] at hm;cases hm
  | true =>
   obtain ⟨out,rfl,rfl,hq1,hpre,hdx,hMx⟩:=a4r hex fx1 fx2 hfw
   obtain ⟨u,rfl,rfl,hu,hup,hWy,hMy,hdy⟩:=yj hey fy1 fy2 hgw
   rw [oh] at hu
   have hu':hs E s.o (ev s) oy.op = some u:=by
    rw [← hu]
    exact (a5q eyx' (fun _ _=>rfl)).symm
   obtain ⟨l,new,hl,hnl,rfl,_⟩:=a2j fyS hgw hu'
   dsimp only at hup hMy hWy h ⊢
   have hlx:s.o f.id = some (.box l):=by rw [hid];exact hl
   have hxq:hq E anx.ex (s.after oy.dst none [(g.id,some (af.box (bp l g.off new)))]).o (ev (s.after oy.dst none [(g.id,some (af.box (bp l g.off new)))])) ox.op = some out:=by
    rw [← hq1]
    refine a7v (l':=bp l g.off new) fx1 hfw hlx (by rw [mr,hid];simp) (jp (by omega)) (fun j h1 h2=>?_) exy
    rw [mz j (by omega),if_neg (by omega)]
   rw [after_comm' (wr1:=[]) (wr1':=[(g.id,some (af.box (bp l g.off new)))]) a2 (fun k=>by simp only [mr,oh])] at h
   refine .cons hiy (.store _ fyW hdy hu' hup hWy hMy) lky (fun k hk=>hOy k ?_) fyS' (.cons hix (.quiet out (gx.trans fx2) hdx hxq hpre hMx) lkx (fun k hk=>hOx k ?_) fxS h)
   · unfold cq at hk ⊢
     rcases List.mem_append.1 hk with hk | hk
     · refine List.mem_append_left _ ?_
       cases hd:oy.dst with
       | none=>rw [hd] at hk;exact hk
       | some j=>rw [hd] at hk;dsimp only at hk ⊢;rw [tdy j hd];exact hk
     refine List.mem_append_right _ ?_
     simp only [pz,oh] at hk ⊢
     exact hk
   unfold cq at hk ⊢
   rcases List.mem_append.1 hk with hk | hk
   · refine List.mem_append_left _ ?_
     cases hd:ox.dst with
     | none=>rw [hd] at hk;exact hk
     | some j=>rw [hd] at hk;dsimp only at hk ⊢;rw [tdx j hd] at hk;exact hk
   cases hk
 | true =>
  obtain ⟨u,rfl,rfl,hu,hup,hWx,hMx,hdx⟩:=yj hex fx1 fx2 hfw
  obtain ⟨l,new,hl,hnl,rfl,hsx⟩:=a2j fx1 hfw hu
  dsimp only at hup hMx hWx h hOx hOy hFy hey gy eyx' tdy fy1 fy2 ⊢
  have hly:s.o g.id = some (.box l):=by rw [← hid];exact hl
  have hlx1:(s.after ox.dst none [(f.id,some (af.box (bp l f.off new)))]).o g.id = some (.box (bp l f.off new)):=by rw [mr,← hid];simp
  cases hgw:g.wr with
  | false =>
   obtain ⟨out,rfl,rfl,hq1,hpre,hdy,hMy⟩:=a4r hey fy1 fy2 hgw
   have hyq:hq E any.ex s.o (ev s) oy.op = some out:=by
    rw [← hq1]
    refine (a7v fyS hgw hly hlx1 (jp (by omega)) (fun j h1 h2=>?_) eyx').symm
    rw [mz j (by omega),if_neg (by omega)]
   have hxs:hs E (s.after oy.dst (some out.val) []).o (ev (s.after oy.dst (some out.val) [])) ox.op = some ⟨f.off + f.len ≤ l.length,f.id, .box (bp l f.off new)⟩:=hsx _ _ l (by rw [oh];exact hl) exy
   rw [after_comm' (wr1:=[(f.id,some (af.box (bp l f.off new)))]) (wr1':=[]) a2 (fun k=>by simp only [mr,oh])] at h
   refine .cons hiy (.quiet out fyW hdy hyq hpre hMy) lky (fun k hk=>hOy k ?_) fyS' (.cons hix (.store _ (gx.trans fx2) hdx hxs hup hWx hMx) lkx (fun k hk=>hOx k ?_) fxS h)
   · unfold cq at hk ⊢
     rcases List.mem_append.1 hk with hk | hk
     · refine List.mem_append_left _ ?_
       cases hd:oy.dst with
       | none=>rw [hd] at hk;exact hk
       | some j=>rw [hd] at hk;dsimp only at hk ⊢;rw [tdy j hd];exact hk
     cases hk
   unfold cq at hk ⊢
   rcases List.mem_append.1 hk with hk | hk
   · refine List.mem_append_left _ ?_
     cases hd:ox.dst with
     | none=>rw [hd] at hk;exact hk
     | some j=>rw [hd] at hk;dsimp only at hk ⊢;rw [tdx j hd] at hk;exact hk
   refine List.mem_append_right _ ?_
   simp only [pz,oh] at hk ⊢
   exact hk
  | true =>
   rw [hfw,hgw] at hm
   simp only [Bool.and_eq_true] at hm
   obtain ⟨⟨⟨⟨⟨m1,m2⟩,m3⟩,m4⟩,m5⟩,m6⟩:=hm
   have m1:=n8 m1
   have m2:=n8 m2
   have m3:=n8 m3
   have m4:=n8 m4
   have m5:=n8 m5
   have m6:=n8 m6
   obtain ⟨u,rfl,rfl,hu2,hup2,hWy,hMy,hdy⟩:=yj hey fy1 fy2 hgw
   obtain ⟨l2,new2,hl2,hnl2,rfl,hsy⟩:=a2j fy1 hgw hu2
   dsimp only at hup2 hMy hWy h hOy ⊢
   obtain rfl:l2 = bp l f.off new:=by rw [hlx1] at hl2;simpa using hl2.symm
   have hlen1:(bp l f.off new).length = l.length:=jp (by omega)
   rw [hlen1] at hup2
   have hys:hs E s.o (ev s) oy.op = some ⟨g.off + g.len ≤ l.length,g.id, .box (bp l g.off new2)⟩:=hsy s.o (ev s) l hly (fun z hz=>(eyx' z hz).symm)
   have hxs:hs E (s.after oy.dst none [(g.id,some (af.box (bp l g.off new2)))]).o (ev (s.after oy.dst none [(g.id,some (af.box (bp l g.off new2)))])) ox.op = some ⟨f.off + f.len ≤ (bp l g.off new2).length,f.id, .box (bp (bp l g.off new2) f.off new)⟩ :=
    hsx _ _ _ (by rw [mr,hid];simp) exy
   have hlO:∀ k ∈ gl l,k ∈ Ox:=fun k hk=>hOx k (by
    unfold cq
    refine List.mem_append_right _ ?_
    simp only [pz,hl,af.ids,List.append_nil]
    exact hk)
   have hn1:∀ k ∈ gl new,k ∈ anx.M:=fun k hk=>hMx k (a7z hk)
   have hn2:∀ k ∈ gl new2,k ∈ any.M:=fun k hk=>hMy k (a7z hk)
   rw [after_comm' (wr1:=[(f.id,some (af.box (bp (bp l g.off new2) f.off new)))]) (wr1':=[(g.id,some (af.box (bp l g.off new2)))]) a2 (fun k=>by
    simp only [mr,hid]
    by_cases hk:k = g.id
    · simp only [hk,if_true]
      rw [a92 (by omega) (by omega) (by omega)]
    simp only [hk,if_false])] at h
   refine .cons hiy (.store _ fyW hdy hys hup2 hWy (fun k hk=>?_)) lky (fun k hk=>?_) fyS' (.cons hix (.store _ (gx.trans fx2) hdx hxs (by dsimp only;rw [jp (by omega)];exact hup) hWx (fun k hk=>?_)) lkx (fun k hk=>?_) fxS h)
   · rcases t8 hk with hk | hk
     · exact m1 k (hlO k hk)
     exact hn2 k hk
   · rcases ya (s:=s.after ox.dst none [(f.id,some (af.box (bp l f.off new)))]) (s':=s) (ob:=af.box (bp (bp l f.off new) g.off new2)) (fun k hk=>(tdy k hk).symm) hly hk with hk | hk
     · exact hOy k hk
     exact m4 k (hlO k hk)
   · rcases t8 hk with hk | hk
     · rcases t8 hk with hk | hk
       · exact m2 k (hlO k hk)
       exact m3 k (hn2 k hk)
     exact hn1 k hk
   rcases ya (s:=s) (s':=s.after oy.dst none [(g.id,some (af.box (bp l g.off new2)))]) (ob:=af.box (bp l f.off new)) (l':=bp l g.off new2) (fun k hk=>tdx k hk) (by rw [mr,hid];simp) hk with hk | hk
   · exact hOx k hk
   rcases t8 hk with hk | hk
   · exact hlO k hk
   exact m5 k (hn2 k hk)
theorem swap {sf:S} {x y:Tr} {T:List Tr} (h:jk P E nt ops (x :: y :: T) s sf) (hp:a1z ops x y = true):jk P E nt ops (y :: x :: T) s sf:=by
 unfold a1z at hp
 split at hp
 · rename_i ox oy h1 h2
   rcases (Bool.or_eq_true _ _ ▸ hp:_ ∨ _) with hp | hp
   · exact ahe h h1 h2 hp
   exact ahh h h1 h2 hp
 cases hp
theorem a4h {sf:S} {y:Tr} {T:List Tr}:∀ {pre:List Tr} {s:S},jk P E nt ops (pre ++ y :: T) s sf → (∀ x ∈ pre,a1z ops x y = true) → jk P E nt ops (y :: (pre ++ T)) s sf
 | [],_,h,_=>h
 | x :: pre,s,h,hp=>by
  rw [List.cons_append] at h
  have hx:=hp x (by simp)
  cases h with
  | cons hi he hR hO hF hT =>
  have:=a4h hT fun z hz=>hp z (by simp [hz])
  exact swap (.cons hi he hR hO hF this) hx
end
end
end Go.Hx
