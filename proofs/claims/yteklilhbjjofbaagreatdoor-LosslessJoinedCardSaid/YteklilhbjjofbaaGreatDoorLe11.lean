/- A part of the proof: Hx12. -/
import Derived.Test.YteklilhbjjofbaaGreatDoorLe10
set_option linter.all false
namespace Go.Hx
section
open Go.RowKit
def kc (o:am):List Nat -> List Nat
 | []=>[]
 | k :: r=>k :: ((match o k with | some ob=>ob.ids | none=>[]) ++ kc o r)
def p6 {o:am}:∀ {l:List Nat} {k:Nat},k ∈ l -> k ∈ kc o l
 | x :: l,k,h=>by
  rcases b2s.1 h with rfl | h
  · simp [kc]
  simp only [kc,b2s,b2z];exact .inr (.inr (p6 h))
def ux {o:am} {id:Nat} {ob:a6} (ho:o id = some ob):∀ {l:List Nat} {k:Nat},id ∈ l -> k ∈ ob.ids -> k ∈ kc o l
 | x :: l,k,h,hk=>by
  rcases b2s.1 h with rfl | h
  · simp only [kc,ho,b2s,b2z];exact .inr (.inl hk)
  simp only [kc,b2s,b2z];exact .inr (.inr (ux ho h hk))
def a3x {o o':am}:∀ {l:List Nat},(∀ k ∈ l,o' k = o k) -> kc o' l = kc o l
 | [],_=>rfl
 | x :: l,h=>by
  simp only [kc];rw [h x b5k,a3x fun y hy=>h y (by simp [hy])]
section
variable {o o':am} {e e':Ev}
def a7o:∀ (n:Nat) (l:List HV) (k:Nat),k ∈ fl (l.drop n) -> k ∈ fl l
 | 0,l,k,h=>h
 | n + 1,[],k,h=>h
 | n + 1,x :: l,k,h=>by
  simp only [fl,b2z];exact .inr (a7o n l k h)
def uy:∀ {l:List HV},(∀ k ∈ fl l,o' k = o k) -> rg o' l = rg o l
 | [],_=>rfl
 | x :: l,h=>by
  simp only [rg];rw [a1i (o:=o) (o':=o') (h:=x) fun k hk=>h k (b2t _ hk),uy fun k hk=>h k (b2x _ hk)]
def ad8 {h:HV} (ho:∀ k ∈ kc o h.ids,o' k = o k):a12 o' h = a12 o h:=by
 cases h with
 | p x=>rfl
 | ref id n=>exact a1i fun k hk=>ho k (p6 hk)
 | eptr id n i j=>rfl
 | win id n i m=>rfl
 | clo g k caps=>rfl
 | row id i k=>rfl
 | rptr id i k r j=>rfl
 | pin id n ad cap=>rfl
 | ptr id off =>
  have hid:=ho id (p6 b5o);simp only [a12];rw [hid]
  cases hob:o id with
  | none=>rfl
  | some ob =>
   cases ob with
   | mp kk n f=>rfl
   | bld fr T e l=>rfl
   | ex d v b x=>rfl
   | bun B=>rfl
   | nest e et es n m g pd=>rfl
   | arr wr s e n f=>rfl
   | arrh s e n ms f=>rfl
   | box l =>
    dsimp only;rw [uy (o:=o) (o':=o') fun k hk=>ho k (ux hob b5o (by simpa [a6.ids] using a7o off l k hk))]
def a00 {l l':List Nat} (h:∀ k ∈ l,k ∈ l'):∀ k ∈ kc o l,k ∈ kc o l':=by
 induction l with
 | nil=>intro k hk;simp [kc] at hk
 | cons x l ih =>
  intro k hk;simp only [kc,b2s,b2z] at hk
  rcases hk with rfl | hk | hk
  · exact p6 (h _ b5k)
  · cases hx:o x with
    | none=>rw [hx] at hk;cases hk
    | some ob=>rw [hx] at hk;exact ux hx (h x b5k) hk
  exact ih (fun y hy=>h y (by simp [hy])) k hk
def adj {x:HC} (ho:∀ k ∈ kc o x.ids,o' k = o k):ul o' x = ul o x:=by
 cases x with
 | one h=>simp only [ul];rw [ad8 (o:=o) (o':=o') ho]
 | agg l=>simp only [ul];rw [uy (o:=o) (o':=o') fun k hk=>ho k (p6 hk)]
def wd:∀ {l:List Operand},(∀ x ∈ l,e' x = e x) -> (∀ k ∈ kc o (bz e l),o' k = o k) -> fv o' e' l = fv o e l
 | [],_,_=>rfl
 | x :: l,hx,ho=>by
  simp only [fv];rw [hx x b5k,wd (fun y hy=>hx y (by simp [hy])) (fun k hk=>ho k (a00 (fun j hj=>by simp only [bz];exact b2x _ hj) k hk))]
  cases hex:e x with
  | none=>rfl
  | some r =>
   cases r with
   | tup l=>rfl
   | v cc =>
    have:=adj (o:=o) (o':=o') (x:=cc) fun k hk=>ho k (a00 (fun j hj=>by simp only [bz,hex];exact b2t _ hj) k hk)
    cases fv o e l with
    | none=>rfl
    | some q =>
     obtain ⟨q1,q2,q3⟩:=q;dsimp only;rw [this]
end
def vz (o:Oper):Bool:=match o.op with | .call c=>(match c.callee with | .value _=>true | _=>false) | _=>false
def pw (o:Oper):Bool:=match o.op with | .move _=>true | .assign _=>true | _=>false
def al7 {o:Oper} (h:pw o = true):∃ x,o.op = .move x \/ o.op = .assign x:=by
 unfold pw at h;split at h
 · rename_i x e;exact ⟨x, .inl e⟩
 · rename_i x e;exact ⟨x, .inr e⟩
 cases h
def looks (s:S) (o:Oper):List Nat:=bif pw o then [] else bif vz o then kc s.o (bz (ev s) o.op.operands.toList) else bz (ev s) o.op.operands.toList
def zp {s:S} {o:Oper} {k:Nat} (hs:pw o = false) (h:k ∈ bz (ev s) o.op.operands.toList):k ∈ looks s o:=by
 unfold looks;rw [hs,cond_false]
 cases vz o with
 | true=>exact p6 h
 | false=>exact h
section
variable {P:Program} {E:Env} {nt:Nat} {s s':S} {ops:Array Oper} {o:Oper} {an:Ann}
section
variable {x:Option HR}
def aet {wr:Wr} (he:Eff P E nt ops o an s x wr):∀ q ∈ wr,q.1 ∈ an.W:=by
 intro q h
 cases he with
 | skip=>cases h
 | cut out id hw hd hq' hp hW =>
  rw [hW];simp only [b2u] at h;subst h;simp
 | quiet=>cases h
 | make nw hw hd hq' hp hm hn hW hN hM=>rw [b2u.1 h,hW];exact b2u.2 rfl
 | store u hw hd hq' hp hW hM=>rw [b2u.1 h,hW];exact b2u.2 rfl
 | app u hw hd hq' hp hn hW hN hM=>rw [b2u.1 h,hW];exact b2u.2 rfl
 | call=>cases h
 | conv=>cases h
 | fcall cl f caps args hcs o1 o2 res fx hw hd ho hc hf hv hco hfun hsub hnew hnm hcl hclr hW hN hM =>
  rw [hW]
  rcases b2z.1 h with h | h
  · obtain ⟨p,hp,rfl⟩:=b37.1 h
    exact b2x _ (b37.2 ⟨p,hp,rfl⟩)
  obtain ⟨p,hp,rfl⟩:=b37.1 h;exact b2t _ (b37.2 ⟨p,hp,rfl⟩)
def a2d:∀ {l:List (Nat × a6)} {p:Nat × a6} {k:Nat},p ∈ l -> k ∈ p.2.ids -> k ∈ a33 l
 | (i,x) :: l,p,k,h,hk=>by
  rcases b2s.1 h with rfl | h
  · exact b2t _ hk
  exact b2x _ (a2d h hk)
def alo {wr:Wr} (he:Eff P E nt ops o an s x wr):(∀ r,x = some r -> ∀ k ∈ r.ids,k ∈ an.M) /\ (∀ id ob,(id,some ob) ∈ wr -> ∀ k ∈ ob.ids,k ∈ an.M):=by
 cases he with
 | skip=>exact ⟨(fun r h k hk=>by cases h;simp [HR.ids,xl] at hk),(fun id ob h=>by cases h)⟩
 | cut out id hw hd hq' hp hW=>exact ⟨(fun r h k hk=>by
  cases h;unfold rt at hq';split at hq' <;> try (cases hq';done)
  split at hq' <;> try (cases hq';done)
  split at hq' <;> try (cases hq';done)
  split at hq' <;> try (cases hq';done)
  rename_i out1 hsl;simp only [b2g,b2l] at hq';obtain ⟨rfl,_⟩:=hq';obtain ⟨y,hy⟩:=ad6 hsl;have hk':k ∈ out1.val.ids:=hk;rw [hy] at hk'
  simp [az,HR.ids,HC.ids,HV.ids] at hk'),(fun id ob h=>by simp at h)⟩
 | quiet out hw hd hq' hp hM =>
  refine ⟨fun r h k hk=>?_,(fun id ob h=>by cases h)⟩;simp only [b2g] at h;subst h;rw [<- hM];exact hk
 | make nw hw hd hq' hp hm hn hW hN hM =>
  refine ⟨fun r h k hk=>?_,fun id ob h k hk=>?_⟩
  · simp only [b2g] at h;subst h;rw [<- hM];exact b2t _ hk
  simp only [b2u,b2l,b2g] at h;rw [<- hM,<- h.2];exact b2x _ hk
 | store u hw hd hq' hp hW hM =>
  refine ⟨(fun r h=>by cases h),fun id ob h k hk=>?_⟩;simp only [b2u,b2l,b2g] at h;rw [h.2] at hk;exact hM k hk
 | app u hw hd hq' hp hn hW hN hM =>
  refine ⟨fun r h k hk=>?_,fun id ob h k hk=>?_⟩
  · simp only [b2g] at h;subst h;rw [<- hM];exact b2t _ hk
  simp only [b2u,b2l,b2g] at h;rw [<- hM,<- h.2];exact b2x _ hk
 | call cl f fst caps args p vs b hw hd ho hc hf hv hp hco hpure hb hM =>
  refine ⟨fun r h k hk=>?_,(fun id ob h=>by cases h)⟩;simp only [b2g] at h;subst h;rw [PR.ids_toH] at hk;cases hk
 | conv sr ds x b hw hd ho hcv hp hM =>
  refine ⟨fun r h k hk=>?_,(fun id ob h=>by cases h)⟩;simp only [b2g] at h;subst h;simp [HR.ids,HC.ids,HV.ids] at hk
 | fcall cl f caps args hcs o1 o2 res fx hw hd ho hc hf hv hco hfun hsub hnew hnm hcl hclr hW hN hM =>
  refine ⟨fun r h k hk=>?_,fun id ob h k hk=>?_⟩
  · simp only [b2g] at h;subst h;rw [hM];exact b2t _ hk
  rw [hM]
  rcases b2z.1 h with h | h
  · obtain ⟨p,hp,e⟩:=b37.1 h
    simp only [b2l,b2g] at e;refine b2x _ (a2d hp ?_);rw [e.2];exact hk
  obtain ⟨p,hp,e⟩:=b37.1 h;simp at e
def adh {E:Env} {o o':am} {e e':Ev} {op:Op} (hx:∀ x ∈ op.operands,e' x = e x) (ho:∀ k ∈ bz e op.operands.toList,o' k = o k):rt E o' e' op = rt E o e op:=by
 cases op with
 | slice t x lo hi mx =>
  cases x with
  | tmp d =>
   have h1:=hx (.tmp d) b5l;simp only [rt];rw [h1]
   cases he:e (.tmp d) with
   | none=>rfl
   | some r =>
    match r,he with
    | .v (.one (.ref id n)),he =>
     dsimp only;rw [ho id (d4 (e:=e) (x:=.tmp d) he b5l id (by simp [HR.ids,HC.ids,HV.ids]))]
     have hc:∀ r,∀ y ∈ (Op.slice t (.tmp d) lo hi mx).operands,uh e' d r y = uh e d r y:=fun r y hy=>by
      cases y with
      | tmp k =>
       simp only [uh]
       cases hb:Nat.beq k d with
       | true=>rfl
       | false=>exact hx _ hy
      | const v=>exact hx _ hy
      | func v=>exact hx _ hy
      | global v=>exact hx _ hy
     cases ho:o id with
     | none=>rfl
     | some ob =>
      cases ob with
      | arr wr sz el n' f =>
       dsimp only
       have:∀ r,i7 E (uh e' d r) t (.tmp d) lo hi mx = i7 E (uh e d r) t (.tmp d) lo hi mx:=fun r=>by
        unfold i7;rw [hc r (.tmp d) b5l,j0 (x:=lo) fun y hy=>hc r y (by simp [Op.operands] at hy ⊢;simp [hy]),j0 (x:=hi) fun y hy=>hc r y (by simp [Op.operands] at hy ⊢;simp [hy]),j0 (x:=mx) fun y hy=>hc r y (by simp [Op.operands] at hy ⊢;simp [hy])]
       rw [this]
      | _=>rfl
    | .v (.one (.p _)),_=>rfl
    | .v (.one (.ptr _ _)),_=>rfl
    | .v (.one (.eptr _ _ _ _)),_=>rfl
    | .v (.one (.win _ _ _ _)),_=>rfl
    | .v (.one (.clo _ _ _)),_=>rfl
    | .v (.one (.row _ _ _)),_=>rfl
    | .v (.one (.rptr _ _ _ _ _)),_=>rfl
    | .v (.one (.pin _ _ _ _)),_=>rfl
    | .v (.agg _),_=>rfl
    | .tup _,_=>rfl
  | _=>rfl
 | _=>rfl
def a88 {wr:Wr} (he:Eff P E nt ops o an s x wr) (hx:∀ y ∈ o.op.operands,ev s' y = ev s y) (hg:al ops s' o = al ops s o) (ho:∀ k ∈ looks s o,s'.o k = s.o k) (hW:∀ k ∈ an.W,s'.o k = s.o k) (hN:∀ k ∈ an.N,NMx s an.W k -> NMx s' an.W k):Eff P E nt ops o an s' x wr:=by
 cases hst:pw o with
 | true =>
  obtain ⟨y,hop⟩:=al7 hst;have hy:ev s' y = ev s y:=hx y (by rcases hop with h | h <;> simp [h,Op.operands])
  cases he with
  | skip hw hd=>exact .skip (hg.trans hw) hd
  | quiet out hw hd hq' hp hM =>
   refine .quiet out (hg.trans hw) hd ?_ hp hM;rw [<- hq']
   rcases hop with h | h <;> rw [h] <;> simp only [hq] <;> rw [hy]
  | cut out id hw hd hq' hp hW'=>rcases hop with h | h <;> rw [h] at hq' <;> cases hq'
  | make nw hw hd hq' hp hm hn hW' hN' hM=>rcases hop with h | h <;> rw [h] at hq' <;> cases hq'
  | store u hw hd hq' hp hW' hM=>rcases hop with h | h <;> rw [h] at hq' <;> cases hq'
  | app u hw hd hq' hp hn hW' hN' hM=>rcases hop with h | h <;> rw [h] at hq' <;> cases hq'
  | call cl f fst caps args p vs b hw hd hop2=>rcases hop with h | h <;> rw [h] at hop2 <;> cases hop2
  | conv sr ds x b hw hd hop2=>rcases hop with h | h <;> rw [h] at hop2 <;> cases hop2
  | fcall cl f caps args hcs o1 o2 res fx hw hd hop2=>rcases hop with h | h <;> rw [h] at hop2 <;> cases hop2
 | false =>
 have ho1:∀ k ∈ bz (ev s) o.op.operands.toList,s'.o k = s.o k:=fun k hk=>ho k (zp hst hk)
 cases he with
 | skip hw hd=>exact .skip (hg.trans hw) hd
 | cut out id hw hd hq' hp hW'=>exact .cut out id (hg.trans hw) hd ((adh hx ho1).trans hq') hp hW'
 | quiet out hw hd hq' hp hM=>exact .quiet out (hg.trans hw) hd ((amu hx ho1).trans hq') hp hM
 | make nw hw hd hq' hp hm hn hW' hN' hM =>
  have e:=(hW _ (by rw [hW'];simp)).trans hn;have q:=hN an.id (by rw [hN'];simp) (hm.nmx _);rw [hW'] at q;exact .make nw (hg.trans hw) hd ((alg hx).trans hq') hp (q.nm e) e hW' hN' hM
 | store u hw hd hq' hp hW' hM=>exact .store u (hg.trans hw) hd ((abn hx ho1).trans hq') hp hW' hM
 | app u hw hd hq' hp hn hW' hN' hM =>
  refine .app u (hg.trans hw) hd ((aj8 hx ho1).trans hq') hp (fun h=>?_) hW' hN' hM;obtain ⟨h1,h2⟩:=hn h
  have hid:u.id = an.id:=by
   have:=hq';unfold hap at this;split at this <;> try (cases this;done)
   split at this <;> try (cases this;done)
   case h_2 =>
    have e:u.new = false:=by
     unfold sq at this;split at this <;> try (cases this;done)
     split at this <;> try (cases this;done)
     split at this <;> try (cases this;done)
     split at this <;> try (cases this;done)
     split at this <;> try (cases this;done)
     split at this <;> try (cases this;done)
     split at this <;> try (cases this;done)
     unfold a6s at this;split at this <;> try (cases this;done)
     split at this <;> try (cases this;done)
     simp only [b2g] at this;subst this;rfl
    rw [e] at h;cases h
   unfold a0q at this;split at this <;> try (cases this;done)
   split at this <;> try (cases this;done)
   unfold a0a at this;split at this <;> try (cases this;done)
   split at this <;> try (cases this;done)
   split at this <;> try (cases this;done)
   split at this <;> try (cases this;done)
   unfold qz at this;split at this <;> try (cases this;done)
   · unfold xz at this
     split at this <;> try (cases this;done)
     split at this <;> try (cases this;done)
     simp only [b2g] at this;subst this;cases h
   · split at this <;> try (cases this;done)
     split at this <;> try (cases this;done)
     simp only [b2g] at this;subst this;cases h
   · split at this
     · split at this <;> try (cases this;done)
       simp only [b2g] at this;subst this;cases h
     split at this
     · split at this <;> try (cases this;done)
       simp only [b2g] at this;subst this;cases h
     split at this <;> try (cases this;done)
     simp only [b2g] at this;subst this;cases h
   split at this <;> try (cases this;done)
   split at this <;> try (cases this;done)
   split at this <;> try (cases this;done)
   simp only [b2g] at this;subst this;rfl
  have e:=(hW _ (by rw [hW',hid];simp)).trans h2;have q:=hN an.id (by rw [hN' h];simp) (h1.nmx _);rw [hW',hid] at q;exact ⟨q.nm e,e⟩
 | conv sr ds x b hw hd hop hcv hp hM =>
  refine .conv sr ds x b (hg.trans hw) hd hop ?_ hp hM;have hxx:ev s' x = ev s x:=hx x (by rw [hop];simp [Op.operands]);unfold a3z at hcv ⊢;rw [hxx];exact hcv
 | call cl f fst caps args p vs b hw hd hop hc hf hv hp hco hpure hb hM =>
  have hxa:∀ y ∈ cl.args.toList,ev s' y = ev s y:=fun y hy=>hx y (by rw [hop];simp only [Op.operands,Call.operands];simp;exact .inr (by simpa using hy))
  have hcal:callee (ev s') cl = callee (ev s) cl:=by
   unfold callee;split
   · rename_i fo hcl
     rw [hx fo (by rw [hop];simp [Op.operands,Call.operands,hcl])]
   rfl
  refine .call cl f fst caps args p vs b (hg.trans hw) hd hop (hcal.trans hc) hf ((wd hxa fun k hk=>ho k ?_).trans hv) hp hco hpure hb hM
  obtain ⟨fo,hcl⟩:∃ fo,cl.callee = .value fo:=by
   unfold callee at hc;split at hc
   · rename_i fo h;exact ⟨fo,h⟩
   cases hc
  unfold looks;rw [hst,cond_false,show vz o = true from by unfold vz;rw [hop];simp only [hcl]];refine a00 (fun j hj=>?_) k hk;rw [hop];simp only [Op.operands,Call.operands]
  have key:∀ l1 l2:List Operand,∀ j ∈ bz (ev s) l2,j ∈ bz (ev s) (l1 ++ l2):=by
   intro l1
   induction l1 with
   | nil=>intro l2 j hj;exact hj
   | cons y l1 ih=>intro l2 j hj;simp only [b43,bz];exact b2x _ (ih l2 j hj)
  rw [hcl];simpa using key [fo] cl.args.toList j hj
 | fcall cl f caps args hcs o1 o2 res fx hw hd hop hc hf hv hco hfun hsub hnew hnm hcl hclr hW' hN' hM =>
  have hxa:∀ y ∈ cl.args.toList,ev s' y = ev s y:=fun y hy=>hx y (by rw [hop];simp only [Op.operands,Call.operands];simp;exact .inr (by simpa using hy))
  have hcal:oh (ev s') cl = oh (ev s) cl:=by
   unfold oh;split
   · rename_i fo hcl
     rw [hx fo (by rw [hop];simp [Op.operands,Call.operands,hcl])]
   rfl
  have hv':mf (ev s') cl.args.toList = mf (ev s) cl.args.toList:=by
   have:∀ l:List Operand,(∀ y ∈ l,ev s' y = ev s y) -> mf (ev s') l = mf (ev s) l:=by
    intro l
    induction l with
    | nil=>intro _;rfl
    | cons y l ih =>
     intro hl;simp only [mf];rw [hl y b5k,ih fun z hz=>hl z (by simp [hz])]
   exact this _ hxa
  have hsame:∀ k,k ∈ c0 o1 ++ c0 o2 -> s'.o k = s.o k:=fun k hk=>hW k (by rw [hW'];exact hk);refine .fcall cl f caps args hcs o1 o2 res fx (hg.trans hw) hd hop (hcal.trans hc) hf (hv'.trans hv) hco hfun (fun id ob hid=>?_) (fun id h2 h1=>?_) (fun id h2 h1=>?_) hcl hclr hW' hN' hM
  · rw [hsame id (b2t _ (a5y hid))]
    exact hsub id ob hid
  · rw [hsame id (b2x _ h2)]
    exact hnew id h2 h1
  have:=hN id (hN' id h2 h1);rw [hW'] at this;exact this (hnm id h2 h1)
end
end
structure aw1 where
 R:List Nat
 W:List Nat
 N:List Nat
 M:List Nat
 O:List Nat
def qs (s:S):Wr -> List Nat
 | []=>[]
 | (id,_) :: r=>(match s.o id with | some ob=>ob.ids | none=>[]) ++ qs s r
def bg (s:S) (d:Option Tmp) (wr:Wr):List Nat :=
 (match d with | some d=>(match s.t d with | some v=>v.ids | none=>[]) | none=>[]) ++ qs s wr
def aah {s:S} {id:Nat} {ob:a6} (ho:s.o id = some ob) {k:Nat} (hk:k ∈ ob.ids):∀ {l:Wr} {r:Option a6},(id,r) ∈ l -> k ∈ qs s l
 | (e,x) :: l,r,h=>by
  rcases b2s.1 h with h | h
  · simp only [b2l] at h
    obtain ⟨rfl,rfl⟩:=h;simp only [qs,ho];exact b2t _ hk
  simp only [qs];exact b2x _ (aah ho hk h)
def xk {s s':S}:∀ {l:Wr},(∀ q ∈ l,s'.o q.1 = s.o q.1) -> qs s' l = qs s l
 | [],_=>rfl
 | (id,x) :: l,h=>by
  simp only [qs];rw [h (id,x) b5k,xk fun q hq=>h q (by simp [hq])]
def a01:List Nat -> List Nat -> Bool
 | [],_=>true
 | x :: l,m=>!(m.any (Nat.beq x)) && a01 l m
def n9:∀ {l m:List Nat},a01 l m = true -> ∀ k ∈ l,k ∉ m
 | x :: l,m,h,k,hk,hm=>by
  simp only [a01,b2p,b3k] at h
  rcases b2s.1 hk with rfl | hk
  · have:=h.1
    rw [b3x] at this;exact this k hm b5k
  exact n9 h.2 k hk hm
def a5w (ops:Array Oper) (ox oy:Oper) (x y:aw1):Bool :=
 ox.apart ops oy && a01 x.W y.R && a01 x.W y.W && a01 y.W x.R && a01 y.N x.O && a01 x.N y.M
section
variable {P:Program} {E:Env} {nt:Nat} {s:S} {ops:Array Oper}
section
variable {d:Option Tmp} {k:Nat} {wr:Wr} {x:Option HR}
def dh (h:d ≠ some k):(s.after d x wr).t k = s.t k:=by
 unfold S.after S.putD
 cases d with
 | none=>rfl
 | some j =>
  have hne:k ≠ j:=fun e=>h (by rw [e]);simp [S.put,S.setW,hne]
def kz:(s.after d x wr).o k = match f8 wr k with | some r=>r | none=>s.o k:=by
 unfold S.after S.putD;cases d <;> rfl
def a75 (h:∀ q ∈ wr,q.1 ≠ k):(s.after d x wr).o k = s.o k:=by
 rw [kz,ahf h]
def xh {y:Operand} (h:∀ k,d = some k -> y ≠ .tmp k):ev (s.after d x wr) y = ev s y:=by
 cases y with
 | tmp k=>exact dh fun e=>h k e rfl
 | _=>rfl
variable {o:Oper}
def nu (h:∀ k,d = some k -> k ∉ o.looksAt ops):al ops (s.after d x wr) o = al ops s o:=by
 unfold al;split
 · rfl
 rename_i j want hg
 cases hd:(ops[j]?).bind (·.dst) with
 | none=>rfl
 | some k =>
  dsimp only;rw [dh fun e=>h k e (by simp [Oper.looksAt,hg,hd])]
def me (h:k ∉ o.looksAt ops):∀ y ∈ o.op.operands,y ≠ .tmp k:=by
 rintro y hy rfl;apply h;unfold Oper.looksAt;apply b2t;rw [List.mem_filterMap];exact ⟨.tmp k,by simpa using hy,rfl⟩
def a8e {W:List Nat} (hs:NMx s W k) (hx:∀ r,x = some r -> k ∉ r.ids) (hw:∀ id ob,(id,some ob) ∈ wr -> k ∉ ob.ids):NMx (s.after d x wr) W k:=by
 refine ⟨?_, ?_,hs.2.2⟩
 · intro j r hr hm
   by_cases hj:d = some j
   · subst hj
     have:(s.after (some j) x wr).t j = x:=by unfold S.after S.putD;simp [S.put]
     rw [this] at hr;exact hx r hr (HR.men_ids hm)
   rw [dh hj] at hr;exact hs.1 j r hr hm
 intro id ob hidW hob hm;rw [kz] at hob
 cases hl:f8 wr id with
 | none=>rw [hl] at hob;exact hs.2.1 id ob hidW hob hm
 | some r =>
  rw [hl] at hob;have hob:r = some ob:=hob;subst hob;exact hw id ob (n3 hl) (a6.men_ids hm)
def adr {W:List Nat} (hs:NMx (s.after d x wr) W k) (ho:k ∉ bg s d wr):NMx s W k:=by
 refine ⟨?_, ?_,hs.2.2⟩
 · intro j r hr hm
   by_cases hj:d = some j
   · subst hj
     apply ho;unfold bg;simp only [hr];exact b2t _ (HR.men_ids hm)
   exact hs.1 j r (by rw [dh hj];exact hr) hm
 intro id ob hidW hob hm
 cases hl:f8 wr id with
 | none=>exact hs.2.1 id ob hidW (by rw [kz,hl];exact hob) hm
 | some r =>
  apply ho;unfold bg;exact b2x _ (aah hob (a6.men_ids hm) (n3 hl))
def ag5 {d':Option Tmp} {x':Option HR} {wr':Wr} (hd:∀ k,d = some k -> d' ≠ some k) (hw:∀ q ∈ wr,∀ q' ∈ wr',q.1 ≠ q'.1):
 (s.after d x wr).after d' x' wr' = (s.after d' x' wr').after d x wr:=by
 have ht:∀ k,((s.after d x wr).after d' x' wr').t k = ((s.after d' x' wr').after d x wr).t k:=by
  intro k;by_cases h1:d = some k
  · have h2:=hd k h1
    subst h1;rw [dh h2];have e1:(s.after (some k) x wr).t k = x:=by unfold S.after S.putD;simp [S.put]
    have e2:((s.after d' x' wr').after (some k) x wr).t k = x:=by unfold S.after S.putD;simp [S.put]
    rw [e1,e2]
  by_cases h2:d' = some k
  · subst h2
    rw [dh (s:=s.after (some k) x' wr') h1];have e1:((s.after d x wr).after (some k) x' wr').t k = x':=by unfold S.after S.putD;simp [S.put]
    have e2:(s.after (some k) x' wr').t k = x':=by unfold S.after S.putD;simp [S.put]
    rw [e1,e2]
  rw [dh h2,dh h1,dh h1,dh h2]
 have ho:∀ k,((s.after d x wr).after d' x' wr').o k = ((s.after d' x' wr').after d x wr).o k:=by
  intro k;rw [kz,kz,kz,kz]
  cases h1:f8 wr k with
  | none=>rfl
  | some r =>
   cases h2:f8 wr' k with
   | none=>rfl
   | some r'=>exact (hw (k,r) (n3 h1) (k,r') (n3 h2) rfl).elim
 cases h1:(s.after d x wr).after d' x' wr' with
 | mk t1 o1 =>
  cases h2:(s.after d' x' wr').after d x wr with
  | mk t2 o2 =>
   rw [h1,h2] at ht ho;have:t1 = t2:=funext ht;have:o1 = o2:=funext ho;simp_all
structure x6 where
 id:Nat
 off:Nat
 len:Nat
 wr:Bool
def dp (E:Env) (s:S) (o:Oper):Option x6 :=
 match o.op with
 | .load t x=>match E t,ev s x with | some i,some (.v (.one (.ptr id off)))=>some ⟨id,off,i.size,false⟩ | _,_=>none
 | .nilCheck x=>match ev s x with | some (.v (.one (.ptr id off)))=>some ⟨id,off,0,false⟩ | _=>none
 | .move x=>match ev s x with | some (.v (.one (.ptr id off)))=>some ⟨id,off,0,false⟩ | _=>none
 | .assign x=>match ev s x with | some (.v (.one (.ptr id off)))=>some ⟨id,off,0,false⟩ | _=>none
 | .fieldAddr _ x _=>match ev s x with | some (.v (.one (.ptr id off)))=>some ⟨id,off,0,false⟩ | _=>none
 | .store t x _=>match E t,ev s x with | some i,some (.v (.one (.ptr id off)))=>some ⟨id,off,i.size,true⟩ | _,_=>none
 | _=>none
def ny {E:Env} {s s':S} (h:∀ y ∈ o.op.operands,ev s' y = ev s y):dp E s' o = dp E s o:=by
 unfold dp;cases ho:o.op <;> rw [ho] at h <;> simp only [Op.operands] at h <;> try rfl
 all_goals (dsimp only;rw [h _ b5k])
structure Tr where
 i:Nat
 an:Ann
 R:List Nat
 O:List Nat
 F:Option x6
def Tr.foot (t:Tr):aw1:=⟨t.R,t.an.W,t.an.N,t.an.M,t.O⟩
inductive it (P:Program) (E:Env) (nt:Nat) (ops:Array Oper):List Tr -> S -> S -> Prop where
 | nil (s:S):it P E nt ops [] s s
 | cons {i:Nat} {an:Ann} {R O:List Nat} {F:Option x6} {o:Oper} {s s':S} {x:Option HR} {wr:Wr} {T:List Tr} (hi:ops[i]? = some o) (he:Eff P E nt ops o an s x wr) (hR:looks s o = R) (hO:∀ k ∈ bg s o.dst wr,k ∈ O)
  (hF:∀ f,F = some f -> dp E s o = some f /\ al ops s o = some true) (hT:it P E nt ops T (s.after o.dst x wr) s'):it P E nt ops (⟨i,an,R,O,F⟩ :: T) s s'
def zc (l m:List Nat):Bool:=l.all fun k=>m.any (Nat.beq k)
def n5 {l m:List Nat} (h:zc l m = true):∀ k ∈ l,k ∈ m:=by
 intro k hk;unfold zc at h;rw [b3c] at h;have:=h k hk;rw [b3g] at this;obtain ⟨x,hx,hb⟩:=this;rw [b34 hb];exact hx
def a6h (ops:Array Oper) (ox oy:Oper) (x y:Tr):Bool :=
 match x.F,y.F with
 | some f,some g =>
  ox.apart ops oy && Nat.beq f.id g.id && (Nat.ble (f.off + f.len) g.off || Nat.ble (g.off + g.len) f.off) && x.an.N.isEmpty && y.an.N.isEmpty &&
  (match f.wr,g.wr with
   | true,true=>zc x.O y.an.M && zc x.O x.an.M && zc y.an.M x.an.M && zc x.O y.O && zc y.an.M x.O && zc x.an.M y.an.M
   | true,false=>true
   | false,true=>true
   | false,false=>false)
 | _,_=>false
def a3w (ops:Array Oper) (x y:Tr):Bool :=
 match ops[x.i]?,ops[y.i]? with
 | some ox,some oy=>a5w ops ox oy x.foot y.foot || a6h ops ox oy x y
 | _,_=>false
def a1t (h:∀ y ∈ o.op.operands,ev (s.after d x wr) y = ev s y) (ho:pw o = false -> ∀ k ∈ bz (ev s) o.op.operands.toList,(s.after d x wr).o k = s.o k):looks (s.after d x wr) o = looks s o:=by
 unfold looks
 cases hst:pw o with
 | true=>rfl
 | false =>
 have ho:=ho hst;rw [m7 (e:=ev s) (fun y hy=>h y (by simpa using hy)),a3x ho]
variable {T:List Tr}
def awk {sf:S} {x y:Tr} {ox0 oy0:Oper} (h:it P E nt ops (x :: y :: T) s sf) (hx0:ops[x.i]? = some ox0) (hy0:ops[y.i]? = some oy0) (hp:a5w ops ox0 oy0 x.foot y.foot = true):it P E nt ops (y :: x :: T) s sf:=by
 cases h with
 | @cons ix anx Rx Ox Fx ox _ _ vx wx _ hix hex hRx hOx hFx h =>
 cases h with
 | @cons iy any Ry Oy Fy oy _ _ vy wy _ hiy hey hRy hOy hFy h =>
 obtain rfl:ox0 = ox:=by have:=hx0.symm.trans hix;simpa using this
 obtain rfl:oy0 = oy:=by have:=hy0.symm.trans hiy;simpa using this
 simp only [a5w,b2p,Tr.foot] at hp;obtain ⟨⟨⟨⟨⟨hap,h1⟩,h2⟩,h3⟩,h4⟩,h5⟩:=hp;have h1:=n9 h1;have h2:=n9 h2;have h3:=n9 h3;have h4:=n9 h4;have h5:=n9 h5;obtain ⟨a1,a2,a3⟩:=Oper.apart_spec hap;have hwx:=aet hex;have hwy:=aet hey;have eyx:∀ z ∈ oy0.op.operands,ev (s.after ox0.dst vx wx) z = ev s z:=fun z hz=>xh fun k hk=>me (a1 k hk) z hz;have gy:al ops (s.after ox0.dst vx wx) oy0 = al ops s oy0:=nu a1
 have oyx:∀ k ∈ Ry ++ any.W,(s.after ox0.dst vx wx).o k = s.o k:=fun k hk=>a75 fun q hw e=>by
  have hin:=hwx q hw;rw [e] at hin
  rcases b2z.1 hk with hk | hk
  · exact h1 k hin hk
  exact h2 k hin hk
 have hlk:looks s oy0 = Ry:=by
  rw [<- hRy]
  have hids:pw oy0 = false -> ∀ k ∈ bz (ev s) oy0.op.operands.toList,(s.after ox0.dst vx wx).o k = s.o k:=by
   intro hst k hk;refine oyx k (b2t _ ?_);rw [<- hRy];refine zp hst ?_;rw [m7 (e:=ev s) (fun z hz=>eyx z (by simpa using hz))];exact hk
  exact (a1t eyx hids).symm
 have hey':Eff P E nt ops oy0 any s vy wy:=a88 hey (fun z hz=>(eyx z hz).symm) gy.symm (fun k hk=>by
  rw [hRy] at hk
  exact (oyx k (b2t _ hk)).symm) (fun k hk=>(oyx k (b2x _ hk)).symm) (fun k hk hnm=>adr hnm (fun hk'=>h4 k hk (hOx k hk')))
 have exy:∀ z ∈ ox0.op.operands,ev (s.after oy0.dst vy wy) z = ev s z:=fun z hz=>xh fun k hk=>me (a3 k hk) z hz;have gx:al ops (s.after oy0.dst vy wy) ox0 = al ops s ox0:=nu a3
 have oxy:∀ k ∈ Rx ++ anx.W,(s.after oy0.dst vy wy).o k = s.o k:=fun k hk=>a75 fun q hw e=>by
  have hin:=hwy q hw;rw [e] at hin
  rcases b2z.1 hk with hk | hk
  · exact h3 k hin hk
  exact h2 k hk hin
 have hlx:looks (s.after oy0.dst vy wy) ox0 = Rx:=by
  rw [a1t exy (fun hst k hk=>oxy k (b2t _ (by rw [<- hRx];exact zp hst hk))),hRx]
 obtain ⟨m1,m2⟩:=alo hey
 have hex':Eff P E nt ops ox0 anx (s.after oy0.dst vy wy) vx wx:=a88 hex exy gx (fun k hk=>oxy k (b2t _ (by rw [<- hRx];exact hk))) (fun k hk=>oxy k (b2x _ hk))
  (fun k hk hnm=>a8e hnm (fun r hr hkr=>h5 k hk (m1 r hr k hkr)) (fun id ob hw hko=>h5 k hk (m2 id ob hw k hko)))
 have hdne:∀ k,ox0.dst = some k -> oy0.dst ≠ some k:=a2
 have hOy':bg s oy0.dst wy = bg (s.after ox0.dst vx wx) oy0.dst wy:=by
  unfold bg;congr 1
  · cases hd:oy0.dst with
    | none=>rfl
    | some k=>dsimp only;rw [dh fun e=>a2 k e hd]
  exact (xk fun q hq=>oyx q.1 (b2x _ (hwy q hq))).symm
 have hOx':bg (s.after oy0.dst vy wy) ox0.dst wx = bg s ox0.dst wx:=by
  unfold bg;congr 1
  · cases hd:ox0.dst with
    | none=>rfl
    | some k=>dsimp only;rw [dh (a2 k hd)]
  exact xk fun q hq=>oxy q.1 (b2x _ (hwx q hq))
 rw [ag5 hdne fun q hq q' hq' e=>h2 q.1 (hwx q hq) (by rw [e];exact hwy q' hq')] at h;exact .cons hiy hey' hlk (fun k hk=>hOy k (by rw [<- hOy'];exact hk)) (fun f hf=>⟨(ny eyx).symm.trans (hFy f hf).1,gy.symm.trans (hFy f hf).2⟩) (.cons hix hex' hlx (fun k hk=>hOx k (by rw [<- hOx'];exact hk)) (fun f hf=>⟨(ny exy).trans (hFx f hf).1,gx.trans (hFx f hf).2⟩) h)
variable {f:x6}
def so (h:dp E s o = some f):(f.wr = false /\ ((∃ t x,o.op = .load t x) \/ (∃ x,o.op = .nilCheck x) \/ (∃ t x k,o.op = .fieldAddr t x k) \/ (∃ x,o.op = .move x) \/ ∃ x,o.op = .assign x)) \/ (f.wr = true /\ ∃ t x v,o.op = .store t x v):=by
 unfold dp at h;split at h
 · split at h <;> try (cases h;done)
   simp only [b2g] at h;subst h;exact .inl ⟨rfl, .inl ⟨_,_,by assumption⟩⟩
 · split at h <;> try (cases h;done)
   simp only [b2g] at h;subst h;exact .inl ⟨rfl, .inr (.inl ⟨_,by assumption⟩)⟩
 · split at h <;> try (cases h;done)
   simp only [b2g] at h;subst h;exact .inl ⟨rfl, .inr (.inr (.inr (.inl ⟨_,by assumption⟩)))⟩
 · split at h <;> try (cases h;done)
   simp only [b2g] at h;subst h;exact .inl ⟨rfl, .inr (.inr (.inr (.inr ⟨_,by assumption⟩)))⟩
 · split at h <;> try (cases h;done)
   simp only [b2g] at h;subst h;exact .inl ⟨rfl, .inr (.inr (.inl ⟨_,_,_,by assumption⟩))⟩
 · split at h <;> try (cases h;done)
   simp only [b2g] at h;subst h;exact .inr ⟨rfl,_,_,_,by assumption⟩
 cases h
def ac1 {an:Ann} (he:Eff P E nt ops o an s x wr) (hf:dp E s o = some f) (hw:al ops s o = some true) (hr:f.wr = false):
 ∃ out,x = some out.val /\ wr = [] /\ hq E an.ex s.o (ev s) o.op = some out /\ out.pre /\ c4 nt o.dst = true /\ out.val.ids = an.M:=by
 have hops:(∃ t x,o.op = .load t x) \/ (∃ x,o.op = .nilCheck x) \/ (∃ t x k,o.op = .fieldAddr t x k) \/ (∃ x,o.op = .move x) \/ ∃ x,o.op = .assign x:=by
  rcases so hf with ⟨_,h⟩ | ⟨h,_⟩
  · exact h
  rw [hr] at h;cases h
 cases he with
 | skip hw' hd=>rw [hw] at hw';cases hw'
 | quiet out hw hd hq' hp hM=>exact ⟨out,rfl,rfl,hq',hp,hd,hM⟩
 | cut out id hw hd hq' hp hW=>rcases hops with ⟨t,x,h⟩ | ⟨x,h⟩ | ⟨t,x,k,h⟩ | ⟨x,h⟩ | ⟨x,h⟩ <;> (rw [h] at hq';cases hq')
 | make nw hw hd hq' hp hm hn hW hN hM=>rcases hops with ⟨t,x,h⟩ | ⟨x,h⟩ | ⟨t,x,k,h⟩ | ⟨x,h⟩ | ⟨x,h⟩ <;> (rw [h] at hq';cases hq')
 | store u hw hd hq' hp hW hM=>rcases hops with ⟨t,x,h⟩ | ⟨x,h⟩ | ⟨t,x,k,h⟩ | ⟨x,h⟩ | ⟨x,h⟩ <;> (rw [h] at hq';cases hq')
 | app u hw hd hq' hp hn hW hN hM=>rcases hops with ⟨t,x,h⟩ | ⟨x,h⟩ | ⟨t,x,k,h⟩ | ⟨x,h⟩ | ⟨x,h⟩ <;> (rw [h] at hq';cases hq')
 | call cl f fst caps args p vs b hw hd ho hc hf hv hp hco hpure hb hM=>rcases hops with ⟨t,x,h⟩ | ⟨x,h⟩ | ⟨t,x,k,h⟩ | ⟨x,h⟩ | ⟨x,h⟩ <;> (rw [h] at ho;cases ho)
 | conv sr ds x b hw hd ho hcv hp hM=>rcases hops with ⟨t,x,h⟩ | ⟨x,h⟩ | ⟨t,x,k,h⟩ | ⟨x,h⟩ | ⟨x,h⟩ <;> (rw [h] at ho;cases ho)
 | fcall cl f caps args hcs o1 o2 res fx hw hd ho hc hf hv hco hfun hsub hnew hnm hcl hclr hW hN hM=>rcases hops with ⟨t,x,h⟩ | ⟨x,h⟩ | ⟨t,x,k,h⟩ | ⟨x,h⟩ | ⟨x,h⟩ <;> (rw [h] at ho;cases ho)
def zn {an:Ann} (he:Eff P E nt ops o an s x wr) (hf:dp E s o = some f) (hw:al ops s o = some true) (hr:f.wr = true):
 ∃ u,x = none /\ wr = [(u.id,some u.ob)] /\ hs E s.o (ev s) o.op = some u /\ u.pre /\ an.W = [u.id] /\ (∀ k ∈ u.ob.ids,k ∈ an.M) /\ c4 nt o.dst = true:=by
 have hops:∃ t x v,o.op = .store t x v:=by
  rcases so hf with ⟨h,_⟩ | ⟨_,h⟩
  · rw [hr] at h;cases h
  exact h
 obtain ⟨t,ad,v,h⟩:=hops
 cases he with
 | skip hw' hd=>rw [hw] at hw';cases hw'
 | quiet out hw hd hq' hp hM=>rw [h] at hq';cases hq'
 | cut out id hw hd hq' hp hW=>rw [h] at hq';cases hq'
 | make nw hw hd hq' hp hm hn hW hN hM=>rw [h] at hq';cases hq'
 | store u hw hd hq' hp hW hM=>exact ⟨u,rfl,rfl,hq',hp,hW,hM,hd⟩
 | app u hw hd hq' hp hn hW hN hM=>rw [h] at hq';cases hq'
 | call cl f fst caps args p vs b hw hd ho hc hf hv hp hco hpure hb hM=>rw [h] at ho;cases ho
 | conv sr ds x b hw hd ho hcv hp hM=>rw [h] at ho;cases ho
 | fcall cl f caps args hcs o1 o2 res fx hw hd ho hc hf hv hco hfun hsub hnew hnm hcl hclr hW hN hM=>rw [h] at ho;cases ho
def a5v (hf:dp E s o = some f) (hr:f.wr = true) {u:Upd} (hu:hs E s.o (ev s) o.op = some u):
 ∃ l new,s.o f.id = some (.box l) /\ new.length = f.len /\ u = ⟨f.off + f.len <= l.length,f.id, .box (ap l f.off new)⟩ /\
  ∀ (o':am) (e':Ev) (l':List HV),o' f.id = some (.box l') -> (∀ y ∈ o.op.operands,e' y = ev s y) -> hs E o' e' o.op = some ⟨f.off + f.len <= l'.length,f.id, .box (ap l' f.off new)⟩:=by
 have hops:∃ t x v,o.op = .store t x v:=by
  rcases so hf with ⟨h,_⟩ | ⟨_,h⟩
  · rw [hr] at h;cases h
  exact h
 obtain ⟨t,ad,v,h⟩:=hops;unfold dp at hf;rw [h] at hf hu ⊢;dsimp only at hf;split at hf <;> try (cases hf;done)
 rename_i i id off hE he;simp only [b2g] at hf;subst hf;simp only [hs,i6,hE,he] at hu
 cases hv:ev s v with
 | none=>rw [hv] at hu;cases hu
 | some rv =>
  cases rv with
  | tup l=>rw [hv] at hu;cases hu
  | v cc =>
   rw [hv] at hu;dsimp only at hu
   cases hob:s.o id with
   | none=>rw [hob] at hu;cases hu
   | some ob =>
    cases ob with
    | mp kk' n' f'=>rw [hob] at hu;cases hu
    | bld fr' T' e' l'=>rw [hob] at hu;cases hu
    | ex d' v' b' x'=>rw [hob] at hu;cases hu
    | bun B'=>rw [hob] at hu;cases hu
    | nest e' et' es' n' m' g' pd'=>rw [hob] at hu;cases hu
    | arr wr' s' e' n' f'=>rw [hob] at hu;cases hu
    | arrh s' e' n' ms' f'=>rw [hob] at hu;cases hu
    | box l =>
     rw [hob] at hu;dsimp only at hu;split at hu <;> try (cases hu;done)
     rename_i hlen;simp only [b2g] at hu;subst hu;refine ⟨l,cc.cells,rfl,of_decide_eq_true hlen,rfl,fun o' e' l' ho' he'=>?_⟩;simp only [Op.operands] at he';simp only [hs,i6,hE];rw [he' v b5k,he' ad b5k,hv,he];dsimp only;rw [ho'];dsimp only;rw [hlen]
def yc {g g':Nat -> HV}:∀ (n i:Nat),(∀ j,i <= j -> j < i + n -> g j = g' j) -> ja g n i = ja g' n i
 | 0,_,_=>rfl
 | n + 1,i,h=>by
  simp only [ja];rw [h i (b2j _) b5h,yc n (i + 1) fun j h1 h2=>h j b5h b5h]
variable {l:List HV}
def aei {ex:Bool} (hf:dp E s o = some f) (hr:f.wr = false) {l':List HV} {o':am} {e':Ev} (hl:s.o f.id = some (.box l)) (hl':o' f.id = some (.box l')) (hlen:l'.length = l.length) (hj:∀ j,f.off <= j -> j < f.off + f.len -> l'[j]? = l[j]?) (he':∀ y ∈ o.op.operands,e' y = ev s y):hq E ex o' e' o.op = hq E ex s.o (ev s) o.op:=by
 have hops:(∃ t x,o.op = .load t x) \/ (∃ x,o.op = .nilCheck x) \/ (∃ t x k,o.op = .fieldAddr t x k) \/ (∃ x,o.op = .move x) \/ ∃ x,o.op = .assign x:=by
  rcases so hf with ⟨_,h⟩ | ⟨h,_⟩
  · exact h
  rw [hr] at h;cases h
 unfold dp at hf
 rcases hops with ⟨t,x,h⟩ | ⟨x,h⟩ | ⟨t,x,k,h⟩ | ⟨x,h⟩ | ⟨x,h⟩
 · rw [h] at hf he' ⊢
   dsimp only at hf;split at hf <;> try (cases hf;done)
   rename_i i id off hE he;simp only [b2g] at hf;subst hf;simp only [Op.operands] at he';simp only [hq,iz,hE];rw [he' x b5k,he];dsimp only at hl hl' hj ⊢;simp only [tgt,hl,hl']
   have hg:∀ j,j < i.size -> l'.getD (off + j) (.p .any) = l.getD (off + j) (.p .any):=fun j hjl=>by
    rw [b2i,b2i,hj (off + j) b5h b5h]
   cases i.k.isAgg with
   | true =>
    dsimp only;rw [hlen,yc i.size 0 fun j _ h2=>hg j b5h]
   | false =>
    dsimp only;split
    · rename_i h1
      rw [hlen];have:=hg 0 b5h;simp only [b49] at this ⊢;rw [this]
    rfl
 · rw [h] at hf he' ⊢
   dsimp only at hf;split at hf <;> try (cases hf;done)
   rename_i id off he;simp only [b2g] at hf;subst hf;simp only [Op.operands] at he';simp only [hq,mh];rw [he' x b5k,he];dsimp only at hl hl' ⊢;simp only [tgt,hl,hl']
 · rw [h] at hf he' ⊢
   dsimp only at hf;split at hf <;> try (cases hf;done)
   rename_i id off he;simp only [b2g] at hf;subst hf;simp only [Op.operands] at he';simp only [hq,dq];rw [he' x b5k,he];dsimp only at hl hl' ⊢;simp only [tgt,hl,hl']
   cases E t with
   | none=>rfl
   | some i =>
    dsimp only;cases i.k <;> rfl
 · rw [h] at he' ⊢
   simp only [Op.operands] at he';simp only [hq];rw [he' x b5k]
 rw [h] at he' ⊢;simp only [Op.operands] at he';simp only [hq];rw [he' x b5k]
variable {new:List HV} {off:Nat}
def j2 (h:off + new.length <= l.length):(ap l off new).length = l.length:=ut l new off h
def nb (k:Nat) (h:off + new.length <= l.length):(ap l off new)[k]? = if off <= k /\ k < off + new.length then new[k - off]? else l[k]?:=bw l new off k h
def agf {a b:List HV} {i j:Nat} (ha:i + a.length <= l.length) (hb:j + b.length <= l.length) (hd:i + a.length <= j \/ j + b.length <= i):ap (ap l i a) j b = ap (ap l j b) i a:=by
 apply b4s;intro k;rw [nb k (by rw [j2 ha];exact hb),nb k ha,nb k (by rw [j2 hb];exact ha),nb k hb];by_cases h1:i <= k /\ k < i + a.length
 · rw [if_pos h1,if_neg b5h,if_pos h1]
 rw [if_neg h1,if_neg h1]
def u7 (h:k ∈ fl (ap l off new)):k ∈ fl l \/ k ∈ fl new:=by
 obtain ⟨x,hx,hk⟩:=idsL_mem' h;unfold ap at hx
 rcases b2z.1 hx with hx | hx
 · rcases b2z.1 hx with hx | hx
   · exact .inl (jt ⟨x,b54 hx,hk⟩)
   exact .inr (jt ⟨x,hx,hk⟩)
 exact .inl (jt ⟨x,List.mem_of_mem_drop hx,hk⟩)
def ae6 (h:k ∈ fl new):k ∈ fl (ap l off new):=by
 obtain ⟨x,hx,hk⟩:=idsL_mem' h;exact jt ⟨x,b2t _ (b2x _ hx),hk⟩
def after_comm' {d':Option Tmp} {x':Option HR} {wr' wr1 wr1':Wr} (hd:∀ k,d = some k -> d' ≠ some k) (ho:∀ k,((s.after d x wr).after d' x' wr').o k = ((s.after d' x' wr1').after d x wr1).o k):
 (s.after d x wr).after d' x' wr' = (s.after d' x' wr1').after d x wr1:=by
 have ht:∀ k,((s.after d x wr).after d' x' wr').t k = ((s.after d' x' wr1').after d x wr1).t k:=by
  intro k;by_cases h1:d = some k
  · have h2:=hd k h1
    subst h1;rw [dh h2];have e1:(s.after (some k) x wr).t k = x:=by unfold S.after S.putD;simp [S.put]
    have e2:((s.after d' x' wr1').after (some k) x wr1).t k = x:=by unfold S.after S.putD;simp [S.put]
    rw [e1,e2]
  by_cases h2:d' = some k
  · subst h2
    rw [dh (s:=s.after (some k) x' wr1') h1];have e1:((s.after d x wr).after (some k) x' wr').t k = x':=by unfold S.after S.putD;simp [S.put]
    have e2:(s.after (some k) x' wr1').t k = x':=by unfold S.after S.putD;simp [S.put]
    rw [e1,e2]
  rw [dh h2,dh h1,dh h1,dh h2]
 cases h1:(s.after d x wr).after d' x' wr' with
 | mk t1 o1 =>
  cases h2:(s.after d' x' wr1').after d x wr1 with
  | mk t2 o2 =>
   rw [h1,h2] at ht ho;have:t1 = t2:=funext ht;have:o1 = o2:=funext ho;simp_all
def mr {id:Nat} {ob:a6}:(s.after d x [(id,some ob)]).o = fun k=>if k = id then some ob else s.o k:=by
 funext k;rw [kz];simp only [f8];by_cases h:k = id
 · subst h;simp
 have:Nat.beq id k = false:=by rw [b33];exact fun hb=>h (b34 hb).symm
 simp [this,h]
def pi:(s.after d x []).o = s.o:=by
 funext k;exact a75 fun q hq=>by cases hq
def a06 {s':S} {id:Nat} {ob ob':a6} (hd:∀ k,d = some k -> s'.t k = s.t k) {l':List HV} (hl':s'.o id = some (.box l')) (hk:k ∈ bg s' d [(id,some ob')]):
 k ∈ bg s d [(id,some ob)] \/ k ∈ fl l':=by
 unfold bg at hk ⊢
 rcases b2z.1 hk with hk | hk
 · refine .inl (b2t _ ?_)
   cases d with
   | none=>exact hk
   | some j=>dsimp only at hk ⊢;rw [hd j rfl] at hk;exact hk
 simp only [qs,hl',a6.ids,b3i] at hk;exact .inr hk
def awz {sf:S} {x y:Tr} {ox oy:Oper} (h:it P E nt ops (x :: y :: T) s sf) (hx0:ops[x.i]? = some ox) (hy0:ops[y.i]? = some oy) (hp:a6h ops ox oy x y = true):it P E nt ops (y :: x :: T) s sf:=by
 cases h with
 | @cons ix anx Rx Ox Fx ox1 _ _ vx wx _ hix hex hRx hOx hFx h =>
 cases h with
 | @cons iy any Ry Oy Fy oy1 _ _ vy wy _ hiy hey hRy hOy hFy h =>
 obtain rfl:ox = ox1:=by have:=hx0.symm.trans hix;simpa using this
 obtain rfl:oy = oy1:=by have:=hy0.symm.trans hiy;simpa using this
 unfold a6h at hp;dsimp only at hp
 cases Fx with
 | none=>cases hp
 | some f =>
 cases Fy with
 | none=>cases hp
 | some g =>
 simp only [b2p] at hp;obtain ⟨⟨⟨⟨⟨hap,hid⟩,hdis⟩,hNx⟩,hNy⟩,hm⟩:=hp;have hid:f.id = g.id:=b34 hid
 have hdis:f.off + f.len <= g.off \/ g.off + g.len <= f.off:=by
  rcases (b3s _ _ ▸ hdis:_ \/ _) with h' | h'
  · exact .inl (b2k h')
  exact .inr (b2k h')
 have hNx:anx.N = []:=by simpa using hNx
 have hNy:any.N = []:=by simpa using hNy
 obtain ⟨a1,a2,a3⟩:=Oper.apart_spec hap;obtain ⟨fx1,fx2⟩:=hFx f rfl;obtain ⟨fy1,fy2⟩:=hFy g rfl;have eyx:∀ {d wr},(∀ k,d = some k -> ox.dst = some k) -> ∀ z ∈ oy.op.operands,ev (s.after d vx wr) z = ev s z:=fun hd z hz=>xh fun k hk=>me (a1 k (hd k hk)) z hz;have exy:∀ {v wr},∀ z ∈ ox.op.operands,ev (s.after oy.dst v wr) z = ev s z:=fun z hz=>xh fun k hk=>me (a3 k hk) z hz;have eyx':∀ z ∈ oy.op.operands,ev (s.after ox.dst vx wx) z = ev s z:=eyx fun k hk=>hk;have gy:al ops (s.after ox.dst vx wx) oy = al ops s oy:=nu a1;have gx:∀ {v wr},al ops (s.after oy.dst v wr) ox = al ops s ox:=nu a3;have fyS:dp E s oy = some g:=(ny eyx').symm.trans fy1;have fyW:al ops s oy = some true:=gy.symm.trans fy2
 have notcall:∀ {st:S} {o:Oper} {q:x6},dp E st o = some q -> vz o = false:=fun {st o q} hq=>by
  unfold vz
  rcases so hq with ⟨_,⟨t,x,h'⟩ | ⟨x,h'⟩ | ⟨t,x,k,h'⟩ | ⟨x,h'⟩ | ⟨x,h'⟩⟩ | ⟨_,t,x,v,h'⟩ <;> rw [h']
 have lky:looks s oy = Ry:=by
  rw [<- hRy];unfold looks
  cases pw oy with
  | true=>rfl
  | false =>
  rw [notcall fyS];exact (m7 fun z hz=>eyx' z (by simpa using hz)).symm
 have lkx:∀ {v wr},looks (s.after oy.dst v wr) ox = Rx:=fun {v wr}=>by
  rw [<- hRx];unfold looks
  cases pw ox with
  | true=>rfl
  | false =>
  rw [notcall fx1];exact m7 fun z hz=>exy z (by simpa using hz)
 have tdy:∀ k,oy.dst = some k -> (s.after ox.dst vx wx).t k = s.t k:=fun k hk=>dh fun e=>a2 k e hk;have tdx:∀ {v wr} k,ox.dst = some k -> (s.after oy.dst v wr).t k = s.t k:=fun k hk=>dh (a2 k hk)
 have fxS:∀ {v wr},∀ q,some f = some q -> dp E (s.after oy.dst v wr) ox = some q /\ al ops (s.after oy.dst v wr) ox = some true:=fun q hq=>by
  rw [<- hq];exact ⟨(ny exy).trans fx1,gx.trans fx2⟩
 have fyS':∀ q,some g = some q -> dp E s oy = some q /\ al ops s oy = some true:=fun q hq=>by
  rw [<- hq];exact ⟨fyS,fyW⟩
 cases hfw:f.wr with
 | false =>
  cases hgw:g.wr with
  | false=>rw [hfw,hgw] at hm;cases hm
  | true =>
   obtain ⟨out,rfl,rfl,hq1,hpre,hdx,hMx⟩:=ac1 hex fx1 fx2 hfw;obtain ⟨u,rfl,rfl,hu,hup,hWy,hMy,hdy⟩:=zn hey fy1 fy2 hgw;rw [pi] at hu
   have hu':hs E s.o (ev s) oy.op = some u:=by
    rw [<- hu];exact (abn eyx' (fun _ _=>rfl)).symm
   obtain ⟨l,new,hl,hnl,rfl,_⟩:=a5v fyS hgw hu';dsimp only at hup hMy hWy h ⊢;have hlx:s.o f.id = some (.box l):=by rw [hid];exact hl
   have hxq:hq E anx.ex (s.after oy.dst none [(g.id,some (a6.box (ap l g.off new)))]).o (ev (s.after oy.dst none [(g.id,some (a6.box (ap l g.off new)))])) ox.op = some out:=by
    rw [<- hq1];refine aei (l':=ap l g.off new) fx1 hfw hlx (by rw [mr,hid];simp) (j2 b5h) (fun j h1 h2=>?_) exy;rw [nb j b5h,if_neg b5h]
   rw [after_comm' (wr1:=[]) (wr1':=[(g.id,some (a6.box (ap l g.off new)))]) a2 (fun k=>by simp only [mr,pi])] at h;refine .cons hiy (.store _ fyW hdy hu' hup hWy hMy) lky (fun k hk=>hOy k ?_) fyS' (.cons hix (.quiet out (gx.trans fx2) hdx hxq hpre hMx) lkx (fun k hk=>hOx k ?_) fxS h)
   · unfold bg at hk ⊢
     rcases b2z.1 hk with hk | hk
     · refine b2t _ ?_
       cases hd:oy.dst with
       | none=>rw [hd] at hk;exact hk
       | some j=>rw [hd] at hk;dsimp only at hk ⊢;rw [tdy j hd];exact hk
     refine b2x _ ?_;simp only [qs,pi] at hk ⊢;exact hk
   unfold bg at hk ⊢
   rcases b2z.1 hk with hk | hk
   · refine b2t _ ?_
     cases hd:ox.dst with
     | none=>rw [hd] at hk;exact hk
     | some j=>rw [hd] at hk;dsimp only at hk ⊢;rw [tdx j hd] at hk;exact hk
   cases hk
 | true =>
  obtain ⟨u,rfl,rfl,hu,hup,hWx,hMx,hdx⟩:=zn hex fx1 fx2 hfw;obtain ⟨l,new,hl,hnl,rfl,hsx⟩:=a5v fx1 hfw hu;dsimp only at hup hMx hWx h hOx hOy hFy hey gy eyx' tdy fy1 fy2 ⊢;have hly:s.o g.id = some (.box l):=by rw [<- hid];exact hl
  have hlx1:(s.after ox.dst none [(f.id,some (a6.box (ap l f.off new)))]).o g.id = some (.box (ap l f.off new)):=by rw [mr,<- hid];simp
  cases hgw:g.wr with
  | false =>
   obtain ⟨out,rfl,rfl,hq1,hpre,hdy,hMy⟩:=ac1 hey fy1 fy2 hgw
   have hyq:hq E any.ex s.o (ev s) oy.op = some out:=by
    rw [<- hq1];refine (aei fyS hgw hly hlx1 (j2 b5h) (fun j h1 h2=>?_) eyx').symm;rw [nb j b5h,if_neg b5h]
   have hxs:hs E (s.after oy.dst (some out.val) []).o (ev (s.after oy.dst (some out.val) [])) ox.op = some ⟨f.off + f.len <= l.length,f.id, .box (ap l f.off new)⟩:=hsx _ _ l (by rw [pi];exact hl) exy;rw [after_comm' (wr1:=[(f.id,some (a6.box (ap l f.off new)))]) (wr1':=[]) a2 (fun k=>by simp only [mr,pi])] at h;refine .cons hiy (.quiet out fyW hdy hyq hpre hMy) lky (fun k hk=>hOy k ?_) fyS' (.cons hix (.store _ (gx.trans fx2) hdx hxs hup hWx hMx) lkx (fun k hk=>hOx k ?_) fxS h)
   · unfold bg at hk ⊢
     rcases b2z.1 hk with hk | hk
     · refine b2t _ ?_
       cases hd:oy.dst with
       | none=>rw [hd] at hk;exact hk
       | some j=>rw [hd] at hk;dsimp only at hk ⊢;rw [tdy j hd];exact hk
     cases hk
   unfold bg at hk ⊢
   rcases b2z.1 hk with hk | hk
   · refine b2t _ ?_
     cases hd:ox.dst with
     | none=>rw [hd] at hk;exact hk
     | some j=>rw [hd] at hk;dsimp only at hk ⊢;rw [tdx j hd] at hk;exact hk
   refine b2x _ ?_;simp only [qs,pi] at hk ⊢;exact hk
  | true =>
   rw [hfw,hgw] at hm;simp only [b2p] at hm;obtain ⟨⟨⟨⟨⟨m1,m2⟩,m3⟩,m4⟩,m5⟩,m6⟩:=hm;have m1:=n5 m1;have m2:=n5 m2;have m3:=n5 m3;have m4:=n5 m4;have m5:=n5 m5;have m6:=n5 m6;obtain ⟨u,rfl,rfl,hu2,hup2,hWy,hMy,hdy⟩:=zn hey fy1 fy2 hgw;obtain ⟨l2,new2,hl2,hnl2,rfl,hsy⟩:=a5v fy1 hgw hu2;dsimp only at hup2 hMy hWy h hOy ⊢;obtain rfl:l2 = ap l f.off new:=by rw [hlx1] at hl2;simpa using hl2.symm
   have hlen1:(ap l f.off new).length = l.length:=j2 b5h;rw [hlen1] at hup2;have hys:hs E s.o (ev s) oy.op = some ⟨g.off + g.len <= l.length,g.id, .box (ap l g.off new2)⟩:=hsy s.o (ev s) l hly (fun z hz=>(eyx' z hz).symm)
   have hxs:hs E (s.after oy.dst none [(g.id,some (a6.box (ap l g.off new2)))]).o (ev (s.after oy.dst none [(g.id,some (a6.box (ap l g.off new2)))])) ox.op = some ⟨f.off + f.len <= (ap l g.off new2).length,f.id, .box (ap (ap l g.off new2) f.off new)⟩ :=
    hsx _ _ _ (by rw [mr,hid];simp) exy
   have hlO:∀ k ∈ fl l,k ∈ Ox:=fun k hk=>hOx k (by
    unfold bg;refine b2x _ ?_;simp only [qs,hl,a6.ids,b3i]
    exact hk)
   have hn1:∀ k ∈ fl new,k ∈ anx.M:=fun k hk=>hMx k (ae6 hk);have hn2:∀ k ∈ fl new2,k ∈ any.M:=fun k hk=>hMy k (ae6 hk)
   rw [after_comm' (wr1:=[(f.id,some (a6.box (ap (ap l g.off new2) f.off new)))]) (wr1':=[(g.id,some (a6.box (ap l g.off new2)))]) a2 (fun k=>by
    simp only [mr,hid];by_cases hk:k = g.id
    · simp only [hk,if_true]
      rw [agf b5h b5h b5h]
    simp only [hk,if_false])] at h
   refine .cons hiy (.store _ fyW hdy hys hup2 hWy (fun k hk=>?_)) lky (fun k hk=>?_) fyS' (.cons hix (.store _ (gx.trans fx2) hdx hxs (by dsimp only;rw [j2 b5h];exact hup) hWx (fun k hk=>?_)) lkx (fun k hk=>?_) fxS h)
   · rcases u7 hk with hk | hk
     · exact m1 k (hlO k hk)
     exact hn2 k hk
   · rcases a06 (s:=s.after ox.dst none [(f.id,some (a6.box (ap l f.off new)))]) (s':=s) (ob:=a6.box (ap (ap l f.off new) g.off new2)) (fun k hk=>(tdy k hk).symm) hly hk with hk | hk
     · exact hOy k hk
     exact m4 k (hlO k hk)
   · rcases u7 hk with hk | hk
     · rcases u7 hk with hk | hk
       · exact m2 k (hlO k hk)
       exact m3 k (hn2 k hk)
     exact hn1 k hk
   rcases a06 (s:=s) (s':=s.after oy.dst none [(g.id,some (a6.box (ap l g.off new2)))]) (ob:=a6.box (ap l f.off new)) (l':=ap l g.off new2) (fun k hk=>tdx k hk) (by rw [mr,hid];simp) hk with hk | hk
   · exact hOx k hk
   rcases u7 hk with hk | hk
   · exact hlO k hk
   exact m5 k (hn2 k hk)
def swap {sf:S} {x y:Tr} (h:it P E nt ops (x :: y :: T) s sf) (hp:a3w ops x y = true):it P E nt ops (y :: x :: T) s sf:=by
 unfold a3w at hp;split at hp
 · rename_i ox oy h1 h2
   rcases (b3s _ _ ▸ hp:_ \/ _) with hp | hp
   · exact awk h h1 h2 hp
   exact awz h h1 h2 hp
 cases hp
def abl {sf:S} {y:Tr}:∀ {pre:List Tr} {s:S},it P E nt ops (pre ++ y :: T) s sf -> (∀ x ∈ pre,a3w ops x y = true) -> it P E nt ops (y :: (pre ++ T)) s sf
 | [],_,h,_=>h
 | x :: pre,s,h,hp=>by
  rw [b43] at h;have hx:=hp x b5k
  cases h with
  | cons hi he hR hO hF hT =>
  have:=abl hT fun z hz=>hp z (by simp [hz]);exact swap (.cons hi he hR hO hF this) hx
end
end
end
end Go.Hx
