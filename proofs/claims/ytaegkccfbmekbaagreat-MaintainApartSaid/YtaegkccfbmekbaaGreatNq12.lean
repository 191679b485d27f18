/- A part of the proof: Hx12. -/
import Derived.Test.YtaegkccfbmekbaaGreatNq11
set_option linter.all false
section
namespace Go.Hx
open Go.RowKit
def lc (o:b8):List Nat → List Nat
 | []=>[]
 | k :: r=>k :: ((match o k with | some ob=>ob.ids | none=>[]) ++ lc o r)
theorem pj {o:b8}:∀ {l:List Nat} {k:Nat},k ∈ l → k ∈ lc o l
 | x :: l,k,h=>by
  rcases List.mem_cons.1 h with rfl | h
  · simp [lc]
  · simp only [lc,List.mem_cons,List.mem_append];exact .inr (.inr (pj h))
theorem vm {o:b8} {id:Nat} {ob:ag} (ho:o id = some ob):∀ {l:List Nat} {k:Nat},id ∈ l → k ∈ ob.ids → k ∈ lc o l
 | x :: l,k,h,hk=>by
  rcases List.mem_cons.1 h with rfl | h
  · simp only [lc,ho,List.mem_cons,List.mem_append];exact .inr (.inl hk)
  · simp only [lc,List.mem_cons,List.mem_append];exact .inr (.inr (vm ho h hk))
theorem a5m {o o':b8}:∀ {l:List Nat},(∀ k ∈ l,o' k = o k) → lc o' l = lc o l
 | [],_=>rfl
 | x :: l,h=>by
  simp only [lc]
  rw [h x (by simp),a5m fun y hy=>h y (by simp [hy])]
section
variable {o o':b8} {e e':Ev}
theorem a7w:∀ (n:Nat) (l:List HV) (k:Nat),k ∈ gi (l.drop n) → k ∈ gi l
 | 0,l,k,h=>h
 | n + 1,[],k,h=>h
 | n + 1,x :: l,k,h=>by
  simp only [gi,List.mem_append]
  exact .inr (a7w n l k h)
theorem va:∀ {l:List HV},(∀ k ∈ gi l,o' k = o k) → s8 o' l = s8 o l
 | [],_=>rfl
 | x :: l,h=>by
  simp only [s8]
  rw [a23 (o:=o) (o':=o') (h:=x) fun k hk=>h k (List.mem_append_left _ hk),va fun k hk=>h k (List.mem_append_right _ hk)]
theorem acy {h:HV} (ho:∀ k ∈ lc o h.ids,o' k = o k):a1i o' h = a1i o h:=by
 cases h with
 | p x=>rfl
 | ref id n=>exact a23 fun k hk=>ho k (pj hk)
 | eptr id n i j=>rfl
 | win id n i m=>rfl
 | clo g k caps=>rfl
 | row id i k=>rfl
 | rptr id i k r j=>rfl
 | pin id n ad cap=>rfl
 | ptr id off =>
  have hid:=ho id (pj (by simp [HV.ids]))
  simp only [a1i]
  rw [hid]
  cases hob:o id with
  | none=>rfl
  | some ob =>
   cases ob with
   | mp kk n f=>rfl
   | bld fr T e l=>rfl
   | ex d v b x=>rfl
   | bun B=>rfl
   | opq s e n R=>rfl
   | nest e et es n m g pd=>rfl
   | arr wr s e n f=>rfl
   | arrh s e n ms f=>rfl
   | box l =>
    dsimp only
    rw [va (o:=o) (o':=o') fun k hk=>ho k (vm hob (by simp [HV.ids]) (by simpa [ag.ids] using a7w off l k hk))]
theorem zp {l l':List Nat} (h:∀ k ∈ l,k ∈ l'):∀ k ∈ lc o l,k ∈ lc o l':=by
 induction l with
 | nil=>intro k hk;simp [lc] at hk
 | cons x l ih =>
  intro k hk
  simp only [lc,List.mem_cons,List.mem_append] at hk
  rcases hk with rfl | hk | hk
  · exact pj (h _ (by simp))
  · cases hx:o x with
    | none=>rw [hx] at hk;cases hk
    | some ob=>rw [hx] at hk;exact vm hx (h x (by simp)) hk
  · exact ih (fun y hy=>h y (by simp [hy])) k hk
theorem ad8 {x:HC} (ho:∀ k ∈ lc o x.ids,o' k = o k):uj o' x = uj o x:=by
 cases x with
 | one h=>simp only [uj];rw [acy (o:=o) (o':=o') ho]
 | agg l=>simp only [uj];rw [va (o:=o) (o':=o') fun k hk=>ho k (pj hk)]
theorem x8:∀ {l:List Operand},(∀ x ∈ l,e' x = e x) → (∀ k ∈ lc o (d7 e l),o' k = o k) → io o' e' l = io o e l
 | [],_,_=>rfl
 | x :: l,hx,ho=>by
  simp only [io]
  rw [hx x (by simp),x8 (fun y hy=>hx y (by simp [hy])) (fun k hk=>ho k (zp (fun j hj=>by simp only [d7];exact List.mem_append_right _ hj) k hk))]
  cases hex:e x with
  | none=>rfl
  | some r =>
   cases r with
   | tup l=>rfl
   | v cc =>
    have:=ad8 (o:=o) (o':=o') (x:=cc) fun k hk=>ho k (zp (fun j hj=>by simp only [d7,hex];exact List.mem_append_left _ hj) k hk)
    cases io o e l with
    | none=>rfl
    | some q =>
     obtain ⟨q1,q2,q3⟩:=q
     dsimp only
     rw [this]
end
def wu (o:Oper):Bool:=match o.op with | .call c=>(match c.callee with | .value _=>true | _=>false) | _=>false
def qh (o:Oper):Bool:=match o.op with | .move _=>true | .assign _=>true | _=>false
theorem alb {o:Oper} (h:qh o = true):∃ x,o.op = .move x ∨ o.op = .assign x:=by
 unfold qh at h
 split at h
 · rename_i x e;exact ⟨x, .inl e⟩
 · rename_i x e;exact ⟨x, .inr e⟩
 · cases h
def dt (s:S) (o:Oper):List Nat:=bif qh o then [] else bif wu o then lc s.o (d7 (ev s) o.op.operands.toList) else d7 (ev s) o.op.operands.toList
theorem a03 {s:S} {o:Oper} {k:Nat} (hs:qh o = false) (h:k ∈ d7 (ev s) o.op.operands.toList):k ∈ dt s o:=by
 unfold dt
 rw [hs,cond_false]
 cases wu o with
 | true=>exact pj h
 | false=>exact h
section
variable {P:Program} {E:Env} {nt:Nat} {s s':S} {ops:Array Oper} {o:Oper} {an:Ann}
theorem aea {x:Option HR} {wr:Wr} (he:Eff P E nt ops o an s x wr):∀ q ∈ wr,q.1 ∈ an.W:=by
 intro q h
 cases he with
 | skip=>cases h
 | cut out id hw hd hq' hp hW =>
  rw [hW]
  simp only [List.mem_singleton] at h
  subst h
  simp
 | quiet=>cases h
 | make nw hw hd hq' hp hm hn hW hN hM=>rw [List.mem_singleton.1 h,hW];exact List.mem_singleton.2 rfl
 | store u hw hd hq' hp hW hM=>rw [List.mem_singleton.1 h,hW];exact List.mem_singleton.2 rfl
 | app u hw hd hq' hp hn hW hN hM=>rw [List.mem_singleton.1 h,hW];exact List.mem_singleton.2 rfl
 | call=>cases h
 | conv=>cases h
 | fcall cl f caps args hcs o1 o2 res fx hw hd ho hc hf hv hco hfun hsub hnew hnm hcl hclr hW hN hM =>
  rw [hW]
  rcases List.mem_append.1 h with h | h
  · obtain ⟨p,hp,rfl⟩:=List.mem_map.1 h
    exact List.mem_append_right _ (List.mem_map.2 ⟨p,hp,rfl⟩)
  · obtain ⟨p,hp,rfl⟩:=List.mem_map.1 h
    exact List.mem_append_left _ (List.mem_map.2 ⟨p,hp,rfl⟩)
theorem a2s:∀ {l:List (Nat × ag)} {p:Nat × ag} {k:Nat},p ∈ l → k ∈ p.2.ids → k ∈ a7f l
 | (i,x) :: l,p,k,h,hk=>by
  rcases List.mem_cons.1 h with rfl | h
  · exact List.mem_append_left _ hk
  · exact List.mem_append_right _ (a2s h hk)
theorem alk {x:Option HR} {wr:Wr} (he:Eff P E nt ops o an s x wr):(∀ r,x = some r → ∀ k ∈ r.ids,k ∈ an.M) ∧ (∀ id ob,(id,some ob) ∈ wr → ∀ k ∈ ob.ids,k ∈ an.M):=by
 cases he with
 | skip=>exact ⟨(fun r h k hk=>by cases h;simp [HR.ids,y7] at hk),(fun id ob h=>by cases h)⟩
 | cut out id hw hd hq' hp hW=>exact ⟨(fun r h k hk=>by
  cases h
  unfold sh at hq'
  split at hq' <;> try (cases hq';done)
  split at hq' <;> try (cases hq';done)
  split at hq' <;> try (cases hq';done)
  split at hq' <;> try (cases hq';done)
  rename_i out1 hsl
  simp only [Option.some.injEq,Prod.mk.injEq] at hq'
  obtain ⟨rfl,_⟩:=hq'
  obtain ⟨y,hy⟩:=act hsl
  have hk':k ∈ out1.val.ids:=hk
  rw [hy] at hk'
  simp [c5,HR.ids,HC.ids,HV.ids] at hk'),(fun id ob h=>by simp at h)⟩
 | quiet out hw hd hq' hp hM =>
  refine ⟨fun r h k hk=>?_,(fun id ob h=>by cases h)⟩
  simp only [Option.some.injEq] at h
  subst h
  rw [← hM];exact hk
 | make nw hw hd hq' hp hm hn hW hN hM =>
  refine ⟨fun r h k hk=>?_,fun id ob h k hk=>?_⟩
  · simp only [Option.some.injEq] at h;subst h;rw [← hM];exact List.mem_append_left _ hk
  · simp only [List.mem_singleton,Prod.mk.injEq,Option.some.injEq] at h;rw [← hM,← h.2];exact List.mem_append_right _ hk
 | store u hw hd hq' hp hW hM =>
  refine ⟨(fun r h=>by cases h),fun id ob h k hk=>?_⟩
  simp only [List.mem_singleton,Prod.mk.injEq,Option.some.injEq] at h;rw [h.2] at hk;exact hM k hk
 | app u hw hd hq' hp hn hW hN hM =>
  refine ⟨fun r h k hk=>?_,fun id ob h k hk=>?_⟩
  · simp only [Option.some.injEq] at h;subst h;rw [← hM];exact List.mem_append_left _ hk
  · simp only [List.mem_singleton,Prod.mk.injEq,Option.some.injEq] at h;rw [← hM,← h.2];exact List.mem_append_right _ hk
 | call cl f fst caps args p vs b hw hd ho hc hf hv hp hco hpure hb hM =>
  refine ⟨fun r h k hk=>?_,(fun id ob h=>by cases h)⟩
  simp only [Option.some.injEq] at h;subst h;rw [PR.ids_toH] at hk;cases hk
 | conv sr ds x b hw hd ho hcv hp hM =>
  refine ⟨fun r h k hk=>?_,(fun id ob h=>by cases h)⟩
  simp only [Option.some.injEq] at h;subst h;simp [HR.ids,HC.ids,HV.ids] at hk
 | fcall cl f caps args hcs o1 o2 res fx hw hd ho hc hf hv hco hfun hsub hnew hnm hcl hclr hW hN hM =>
  refine ⟨fun r h k hk=>?_,fun id ob h k hk=>?_⟩
  · simp only [Option.some.injEq] at h;subst h;rw [hM];exact List.mem_append_left _ hk
  · rw [hM]
    rcases List.mem_append.1 h with h | h
    · obtain ⟨p,hp,e⟩:=List.mem_map.1 h
      simp only [Prod.mk.injEq,Option.some.injEq] at e
      refine List.mem_append_right _ (a2s hp ?_)
      rw [e.2];exact hk
    · obtain ⟨p,hp,e⟩:=List.mem_map.1 h
      simp at e
theorem acu {E:Env} {o o':b8} {e e':Ev} {op:Op} (hx:∀ x ∈ op.operands,e' x = e x) (ho:∀ k ∈ d7 e op.operands.toList,o' k = o k):sh E o' e' op = sh E o e op:=by
 cases op with
 | slice t x lo hi mx =>
  cases x with
  | tmp d =>
   have h1:=hx (.tmp d) (by simp [Op.operands])
   simp only [sh]
   rw [h1]
   cases he:e (.tmp d) with
   | none=>rfl
   | some r =>
    match r,he with
    | .v (.one (.ref id n)),he =>
     dsimp only
     rw [ho id (eg (e:=e) (x:=.tmp d) he (by simp [Op.operands]) id (by simp [HR.ids,HC.ids,HV.ids]))]
     have hc:∀ r,∀ y ∈ (Op.slice t (.tmp d) lo hi mx).operands,uv e' d r y = uv e d r y:=fun r y hy=>by
      cases y with
      | tmp k =>
       simp only [uv]
       cases hb:Nat.beq k d with
       | true=>rfl
       | false=>exact hx _ hy
      | const v=>exact hx _ hy
      | func v=>exact hx _ hy
      | global v=>exact hx _ hy
     cases ho:o id with
     | none=>rfl
     | some ob =>
      cases ob with
      | arr wr sz el n' f =>
       dsimp only
       have:∀ r,j4 E (uv e' d r) t (.tmp d) lo hi mx = j4 E (uv e d r) t (.tmp d) lo hi mx:=fun r=>by
        unfold j4
        rw [hc r (.tmp d) (by simp [Op.operands]),jn (x:=lo) fun y hy=>hc r y (by simp [Op.operands] at hy ⊢;simp [hy]),jn (x:=hi) fun y hy=>hc r y (by simp [Op.operands] at hy ⊢;simp [hy]),jn (x:=mx) fun y hy=>hc r y (by simp [Op.operands] at hy ⊢;simp [hy])]
       rw [this]
      | _=>rfl
    | .v (.one (.p _)),_=>rfl
    | .v (.one (.ptr _ _)),_=>rfl
    | .v (.one (.eptr _ _ _ _)),_=>rfl
    | .v (.one (.win _ _ _ _)),_=>rfl
    | .v (.one (.clo _ _ _)),_=>rfl
    | .v (.one (.row _ _ _)),_=>rfl
    | .v (.one (.rptr _ _ _ _ _)),_=>rfl
    | .v (.one (.pin _ _ _ _)),_=>rfl
    | .v (.agg _),_=>rfl
    | .tup _,_=>rfl
  | _=>rfl
 | _=>rfl
theorem a7z {x:Option HR} {wr:Wr} (he:Eff P E nt ops o an s x wr) (hx:∀ y ∈ o.op.operands,ev s' y = ev s y) (hg:bh ops s' o = bh ops s o)
 (ho:∀ k ∈ dt s o,s'.o k = s.o k) (hW:∀ k ∈ an.W,s'.o k = s.o k) (hN:∀ k ∈ an.N,NMx s an.W k → NMx s' an.W k):Eff P E nt ops o an s' x wr:=by
 cases hst:qh o with
 | true =>
  obtain ⟨y,hop⟩:=alb hst
  have hy:ev s' y = ev s y:=hx y (by rcases hop with h | h <;> simp [h,Op.operands])
  cases he with
  | skip hw hd=>exact .skip (hg.trans hw) hd
  | quiet out hw hd hq' hp hM =>
   refine .quiet out (hg.trans hw) hd ?_ hp hM
   rw [← hq']
   rcases hop with h | h <;> rw [h] <;> simp only [hq] <;> rw [hy]
  | cut out id hw hd hq' hp hW'=>rcases hop with h | h <;> rw [h] at hq' <;> cases hq'
  | make nw hw hd hq' hp hm hn hW' hN' hM=>rcases hop with h | h <;> rw [h] at hq' <;> cases hq'
  | store u hw hd hq' hp hW' hM=>rcases hop with h | h <;> rw [h] at hq' <;> cases hq'
  | app u hw hd hq' hp hn hW' hN' hM=>rcases hop with h | h <;> rw [h] at hq' <;> cases hq'
  | call cl f fst caps args p vs b hw hd hop2=>rcases hop with h | h <;> rw [h] at hop2 <;> cases hop2
  | conv sr ds x b hw hd hop2=>rcases hop with h | h <;> rw [h] at hop2 <;> cases hop2
  | fcall cl f caps args hcs o1 o2 res fx hw hd hop2=>rcases hop with h | h <;> rw [h] at hop2 <;> cases hop2
 | false =>
 have ho1:∀ k ∈ d7 (ev s) o.op.operands.toList,s'.o k = s.o k:=fun k hk=>ho k (a03 hst hk)
 cases he with
 | skip hw hd=>exact .skip (hg.trans hw) hd
 | cut out id hw hd hq' hp hW'=>exact .cut out id (hg.trans hw) hd ((acu hx ho1).trans hq') hp hW'
 | quiet out hw hd hq' hp hM=>exact .quiet out (hg.trans hw) hd ((am0 hx ho1).trans hq') hp hM
 | make nw hw hd hq' hp hm hn hW' hN' hM =>
  have e:=(hW _ (by rw [hW'];simp)).trans hn
  have q:=hN an.id (by rw [hN'];simp) (hm.nmx _)
  rw [hW'] at q
  exact .make nw (hg.trans hw) hd ((am1 hx).trans hq') hp (q.nm e) e hW' hN' hM
 | store u hw hd hq' hp hW' hM=>exact .store u (hg.trans hw) hd ((abn hx ho1).trans hq') hp hW' hM
 | app u hw hd hq' hp hn hW' hN' hM =>
  refine .app u (hg.trans hw) hd ((aiw hx ho1).trans hq') hp (fun h=>?_) hW' hN' hM
  obtain ⟨h1,h2⟩:=hn h
  have hid:u.id = an.id:=by
   have:=hq'
   unfold hap at this
   split at this <;> try (cases this;done)
   split at this <;> try (cases this;done)
   case h_2 =>
    have e:u.new = false:=by
     unfold tk at this
     split at this <;> try (cases this;done)
     split at this <;> try (cases this;done)
     split at this <;> try (cases this;done)
     split at this <;> try (cases this;done)
     split at this <;> try (cases this;done)
     split at this <;> try (cases this;done)
     split at this <;> try (cases this;done)
     unfold a74 at this
     split at this <;> try (cases this;done)
     split at this <;> try (cases this;done)
     simp only [Option.some.injEq] at this
     subst this
     rfl
    rw [e] at h
    cases h
   unfold a1f at this
   split at this <;> try (cases this;done)
   split at this <;> try (cases this;done)
   unfold a1g at this
   split at this <;> try (cases this;done)
   split at this <;> try (cases this;done)
   split at this <;> try (cases this;done)
   split at this <;> try (cases this;done)
   unfold sa at this
   split at this <;> try (cases this;done)
   · unfold yn at this
     split at this <;> try (cases this;done)
     split at this <;> try (cases this;done)
     simp only [Option.some.injEq] at this
     subst this
     cases h
   · split at this <;> try (cases this;done)
     split at this <;> try (cases this;done)
     simp only [Option.some.injEq] at this
     subst this
     cases h
   · split at this
     · split at this <;> try (cases this;done)
       simp only [Option.some.injEq] at this
       subst this
       cases h
     · split at this
       · split at this <;> try (cases this;done)
         simp only [Option.some.injEq] at this
         subst this
         cases h
       · split at this <;> try (cases this;done)
         simp only [Option.some.injEq] at this
         subst this
         cases h
   · split at this <;> try (cases this;done)
     split at this <;> try (cases this;done)
     split at this <;> try (cases this;done)
     simp only [Option.some.injEq] at this
     subst this
     rfl
  have e:=(hW _ (by rw [hW',hid];simp)).trans h2
  have q:=hN an.id (by rw [hN' h];simp) (h1.nmx _)
  rw [hW',hid] at q
  exact ⟨q.nm e,e⟩
 | conv sr ds x b hw hd hop hcv hp hM =>
  refine .conv sr ds x b (hg.trans hw) hd hop ?_ hp hM
  have hxx:ev s' x = ev s x:=hx x (by rw [hop];simp [Op.operands])
  unfold a4k at hcv ⊢
  rw [hxx]
  exact hcv
 | call cl f fst caps args p vs b hw hd hop hc hf hv hp hco hpure hb hM =>
  have hxa:∀ y ∈ cl.args.toList,ev s' y = ev s y:=fun y hy=>hx y (by rw [hop];simp only [Op.operands,Call.operands];simp;exact .inr (by simpa using hy))
  have hcal:callee (ev s') cl = callee (ev s) cl:=by
   unfold callee
   split
   · rename_i fo hcl
     rw [hx fo (by rw [hop];simp [Op.operands,Call.operands,hcl])]
   · rfl
  refine .call cl f fst caps args p vs b (hg.trans hw) hd hop (hcal.trans hc) hf ((x8 hxa fun k hk=>ho k ?_).trans hv) hp hco hpure hb hM
  obtain ⟨fo,hcl⟩:∃ fo,cl.callee = .value fo:=by
   unfold callee at hc
   split at hc
   · rename_i fo h;exact ⟨fo,h⟩
   · cases hc
  unfold dt
  rw [hst,cond_false,show wu o = true from by unfold wu;rw [hop];simp only [hcl]]
  refine zp (fun j hj=>?_) k hk
  rw [hop]
  simp only [Op.operands,Call.operands]
  have key:∀ l1 l2:List Operand,∀ j ∈ d7 (ev s) l2,j ∈ d7 (ev s) (l1 ++ l2):=by
   intro l1
   induction l1 with
   | nil=>intro l2 j hj;exact hj
   | cons y l1 ih=>intro l2 j hj;simp only [List.cons_append,d7];exact List.mem_append_right _ (ih l2 j hj)
  rw [hcl]
  simpa using key [fo] cl.args.toList j hj
 | fcall cl f caps args hcs o1 o2 res fx hw hd hop hc hf hv hco hfun hsub hnew hnm hcl hclr hW' hN' hM =>
  have hxa:∀ y ∈ cl.args.toList,ev s' y = ev s y:=fun y hy=>hx y (by rw [hop];simp only [Op.operands,Call.operands];simp;exact .inr (by simpa using hy))
  have hcal:sq (ev s') cl = sq (ev s) cl:=by
   unfold sq
   split
   · rename_i fo hcl
     rw [hx fo (by rw [hop];simp [Op.operands,Call.operands,hcl])]
   · rfl
  have hv':o7 (ev s') cl.args.toList = o7 (ev s) cl.args.toList:=by
   have:∀ l:List Operand,(∀ y ∈ l,ev s' y = ev s y) → o7 (ev s') l = o7 (ev s) l:=by
    intro l
    induction l with
    | nil=>intro _;rfl
    | cons y l ih =>
     intro hl
     simp only [o7]
     rw [hl y (by simp),ih fun z hz=>hl z (by simp [hz])]
   exact this _ hxa
  have hsame:∀ k,k ∈ dh o1 ++ dh o2 → s'.o k = s.o k:=fun k hk=>hW k (by rw [hW'];exact hk)
  refine .fcall cl f caps args hcs o1 o2 res fx (hg.trans hw) hd hop (hcal.trans hc) hf (hv'.trans hv) hco hfun (fun id ob hid=>?_) (fun id h2 h1=>?_) (fun id h2 h1=>?_) hcl hclr hW' hN' hM
  · rw [hsame id (List.mem_append_left _ (a78 hid))]
    exact hsub id ob hid
  · rw [hsame id (List.mem_append_right _ h2)]
    exact hnew id h2 h1
  · have:=hN id (hN' id h2 h1)
    rw [hW'] at this
    exact this (hnm id h2 h1)
end
structure ass where
 R:List Nat
 W:List Nat
 N:List Nat
 M:List Nat
 O:List Nat
def rp (s:S):Wr → List Nat
 | []=>[]
 | (id,_) :: r=>(match s.o id with | some ob=>ob.ids | none=>[]) ++ rp s r
def cn (s:S) (d:Option Tmp) (wr:Wr):List Nat :=
 (match d with | some d=>(match s.t d with | some v=>v.ids | none=>[]) | none=>[]) ++ rp s wr
theorem ab9 {s:S} {id:Nat} {ob:ag} (ho:s.o id = some ob) {k:Nat} (hk:k ∈ ob.ids):∀ {l:Wr} {r:Option ag},(id,r) ∈ l → k ∈ rp s l
 | (e,x) :: l,r,h=>by
  rcases List.mem_cons.1 h with h | h
  · simp only [Prod.mk.injEq] at h
    obtain ⟨rfl,rfl⟩:=h
    simp only [rp,ho]
    exact List.mem_append_left _ hk
  · simp only [rp]
    exact List.mem_append_right _ (ab9 ho hk h)
theorem yi {s s':S}:∀ {l:Wr},(∀ q ∈ l,s'.o q.1 = s.o q.1) → rp s' l = rp s l
 | [],_=>rfl
 | (id,x) :: l,h=>by
  simp only [rp]
  rw [h (id,x) (by simp),yi fun q hq=>h q (by simp [hq])]
def a0m:List Nat → List Nat → Bool
 | [],_=>true
 | x :: l,m=>!(m.any (Nat.beq x)) && a0m l m
theorem nz:∀ {l m:List Nat},a0m l m = true → ∀ k ∈ l,k ∉ m
 | x :: l,m,h,k,hk,hm=>by
  simp only [a0m,Bool.and_eq_true,Bool.not_eq_true'] at h
  rcases List.mem_cons.1 hk with rfl | hk
  · have:=h.1
    rw [List.any_eq_false] at this
    exact this k hm (by simp)
  · exact nz h.2 k hk hm
def a75 (ops:Array Oper) (ox oy:Oper) (x y:ass):Bool :=
 ox.apart ops oy && a0m x.W y.R && a0m x.W y.W && a0m y.W x.R && a0m y.N x.O && a0m x.N y.M
section
variable {P:Program} {E:Env} {nt:Nat} {s:S} {ops:Array Oper}
theorem ey {d:Option Tmp} {x:Option HR} {wr:Wr} {k:Nat} (h:d ≠ some k):(s.after d x wr).t k = s.t k:=by
 unfold S.after S.putD
 cases d with
 | none=>rfl
 | some j =>
  have hne:k ≠ j:=fun e=>h (by rw [e])
  simp [S.put,S.setW,hne]
theorem lz {d:Option Tmp} {x:Option HR} {wr:Wr} {k:Nat}:(s.after d x wr).o k = match gd wr k with | some r=>r | none=>s.o k:=by
 unfold S.after S.putD
 cases d <;> rfl
theorem a6i {d:Option Tmp} {x:Option HR} {wr:Wr} {k:Nat} (h:∀ q ∈ wr,q.1 ≠ k):(s.after d x wr).o k = s.o k:=by
 rw [lz,afb h]
theorem y4 {d:Option Tmp} {x:Option HR} {wr:Wr} {y:Operand} (h:∀ k,d = some k → y ≠ .tmp k):ev (s.after d x wr) y = ev s y:=by
 cases y with
 | tmp k=>exact ey fun e=>h k e rfl
 | _=>rfl
theorem ol {o:Oper} {d:Option Tmp} {x:Option HR} {wr:Wr} (h:∀ k,d = some k → k ∉ o.looksAt ops):bh ops (s.after d x wr) o = bh ops s o:=by
 unfold bh
 split
 · rfl
 · rename_i j want hg
   cases hd:(ops[j]?).bind (·.dst) with
   | none=>rfl
   | some k =>
    dsimp only
    rw [ey fun e=>h k e (by simp [Oper.looksAt,hg,hd])]
theorem n7 {o:Oper} {k:Nat} (h:k ∉ o.looksAt ops):∀ y ∈ o.op.operands,y ≠ .tmp k:=by
 rintro y hy rfl
 apply h
 unfold Oper.looksAt
 apply List.mem_append_left
 rw [List.mem_filterMap]
 exact ⟨.tmp k,by simpa using hy,rfl⟩
theorem a8t {d:Option Tmp} {x:Option HR} {wr:Wr} {k:Nat} {W:List Nat} (hs:NMx s W k) (hx:∀ r,x = some r → k ∉ r.ids) (hw:∀ id ob,(id,some ob) ∈ wr → k ∉ ob.ids):NMx (s.after d x wr) W k:=by
 refine ⟨?_, ?_,hs.2.2⟩
 · intro j r hr hm
   by_cases hj:d = some j
   · subst hj
     have:(s.after (some j) x wr).t j = x:=by unfold S.after S.putD;simp [S.put]
     rw [this] at hr
     exact hx r hr (HR.men_ids hm)
   · rw [ey hj] at hr
     exact hs.1 j r hr hm
 · intro id ob hidW hob hm
   rw [lz] at hob
   cases hl:gd wr id with
   | none=>rw [hl] at hob;exact hs.2.1 id ob hidW hob hm
   | some r =>
    rw [hl] at hob
    have hob:r = some ob:=hob
    subst hob
    exact hw id ob (o5 hl) (ag.men_ids hm)
theorem acq {d:Option Tmp} {x:Option HR} {wr:Wr} {k:Nat} {W:List Nat} (hs:NMx (s.after d x wr) W k) (ho:k ∉ cn s d wr):NMx s W k:=by
 refine ⟨?_, ?_,hs.2.2⟩
 · intro j r hr hm
   by_cases hj:d = some j
   · subst hj
     apply ho
     unfold cn
     simp only [hr]
     exact List.mem_append_left _ (HR.men_ids hm)
   · exact hs.1 j r (by rw [ey hj];exact hr) hm
 · intro id ob hidW hob hm
   cases hl:gd wr id with
   | none=>exact hs.2.1 id ob hidW (by rw [lz,hl];exact hob) hm
   | some r =>
    apply ho
    unfold cn
    exact List.mem_append_right _ (ab9 hob (ag.men_ids hm) (o5 hl))
theorem aey {d d':Option Tmp} {x x':Option HR} {wr wr':Wr} (hd:∀ k,d = some k → d' ≠ some k) (hw:∀ q ∈ wr,∀ q' ∈ wr',q.1 ≠ q'.1) :
 (s.after d x wr).after d' x' wr' = (s.after d' x' wr').after d x wr:=by
 have ht:∀ k,((s.after d x wr).after d' x' wr').t k = ((s.after d' x' wr').after d x wr).t k:=by
  intro k
  by_cases h1:d = some k
  · have h2:=hd k h1
    subst h1
    rw [ey h2]
    have e1:(s.after (some k) x wr).t k = x:=by unfold S.after S.putD;simp [S.put]
    have e2:((s.after d' x' wr').after (some k) x wr).t k = x:=by unfold S.after S.putD;simp [S.put]
    rw [e1,e2]
  · by_cases h2:d' = some k
    · subst h2
      rw [ey (s:=s.after (some k) x' wr') h1]
      have e1:((s.after d x wr).after (some k) x' wr').t k = x':=by unfold S.after S.putD;simp [S.put]
      have e2:(s.after (some k) x' wr').t k = x':=by unfold S.after S.putD;simp [S.put]
      rw [e1,e2]
    · rw [ey h2,ey h1,ey h1,ey h2]
 have ho:∀ k,((s.after d x wr).after d' x' wr').o k = ((s.after d' x' wr').after d x wr).o k:=by
  intro k
  rw [lz,lz,lz,lz]
  cases h1:gd wr k with
  | none=>rfl
  | some r =>
   cases h2:gd wr' k with
   | none=>rfl
   | some r'=>exact (hw (k,r) (o5 h1) (k,r') (o5 h2) rfl).elim
 cases h1:(s.after d x wr).after d' x' wr' with
 | mk t1 o1 =>
  cases h2:(s.after d' x' wr').after d x wr with
  | mk t2 o2 =>
   rw [h1,h2] at ht ho
   have:t1 = t2:=funext ht
   have:o1 = o2:=funext ho
   simp_all
structure yl where
 id:Nat
 off:Nat
 len:Nat
 wr:Bool
def ez (E:Env) (s:S) (o:Oper):Option yl :=
 match o.op with
 | .load t x=>match E t,ev s x with | some i,some (.v (.one (.ptr id off)))=>some ⟨id,off,i.size,false⟩ | _,_=>none
 | .nilCheck x=>match ev s x with | some (.v (.one (.ptr id off)))=>some ⟨id,off,0,false⟩ | _=>none
 | .move x=>match ev s x with | some (.v (.one (.ptr id off)))=>some ⟨id,off,0,false⟩ | _=>none
 | .assign x=>match ev s x with | some (.v (.one (.ptr id off)))=>some ⟨id,off,0,false⟩ | _=>none
 | .fieldAddr _ x _=>match ev s x with | some (.v (.one (.ptr id off)))=>some ⟨id,off,0,false⟩ | _=>none
 | .store t x _=>match E t,ev s x with | some i,some (.v (.one (.ptr id off)))=>some ⟨id,off,i.size,true⟩ | _,_=>none
 | _=>none
theorem og {E:Env} {s s':S} {o:Oper} (h:∀ y ∈ o.op.operands,ev s' y = ev s y):ez E s' o = ez E s o:=by
 unfold ez
 cases ho:o.op <;> rw [ho] at h <;> simp only [Op.operands] at h <;> try rfl
 all_goals (dsimp only;rw [h _ (by simp)])
structure Tr where
 i:Nat
 an:Ann
 R:List Nat
 O:List Nat
 F:Option yl
def Tr.foot (t:Tr):ass:=⟨t.R,t.an.W,t.an.N,t.an.M,t.O⟩
inductive jl (P:Program) (E:Env) (nt:Nat) (ops:Array Oper):List Tr → S → S → Prop where
 | nil (s:S):jl P E nt ops [] s s
 | cons {i:Nat} {an:Ann} {R O:List Nat} {F:Option yl} {o:Oper} {s s':S} {x:Option HR} {wr:Wr} {T:List Tr} (hi:ops[i]? = some o) (he:Eff P E nt ops o an s x wr) (hR:dt s o = R) (hO:∀ k ∈ cn s o.dst wr,k ∈ O)
  (hF:∀ f,F = some f → ez E s o = some f ∧ bh ops s o = some true) (hT:jl P E nt ops T (s.after o.dst x wr) s'):jl P E nt ops (⟨i,an,R,O,F⟩ :: T) s s'
def zi (l m:List Nat):Bool:=l.all fun k=>m.any (Nat.beq k)
theorem o6 {l m:List Nat} (h:zi l m = true):∀ k ∈ l,k ∈ m:=by
 intro k hk
 unfold zi at h
 rw [List.all_eq_true] at h
 have:=h k hk
 rw [List.any_eq_true] at this
 obtain ⟨x,hx,hb⟩:=this
 rw [Nat.eq_of_beq_eq_true hb]
 exact hx
def a62 (ops:Array Oper) (ox oy:Oper) (x y:Tr):Bool :=
 match x.F,y.F with
 | some f,some g =>
  ox.apart ops oy && Nat.beq f.id g.id && (Nat.ble (f.off + f.len) g.off || Nat.ble (g.off + g.len) f.off) && x.an.N.isEmpty && y.an.N.isEmpty &&
  (match f.wr,g.wr with
   | true,true=>zi x.O y.an.M && zi x.O x.an.M && zi y.an.M x.an.M && zi x.O y.O && zi y.an.M x.O && zi x.an.M y.an.M
   | true,false=>true
   | false,true=>true
   | false,false=>false)
 | _,_=>false
def a4t (ops:Array Oper) (x y:Tr):Bool :=
 match ops[x.i]?,ops[y.i]? with
 | some ox,some oy=>a75 ops ox oy x.foot y.foot || a62 ops ox oy x y
 | _,_=>false
theorem a20 {o:Oper} {d:Option Tmp} {x:Option HR} {wr:Wr} (h:∀ y ∈ o.op.operands,ev (s.after d x wr) y = ev s y) (ho:qh o = false → ∀ k ∈ d7 (ev s) o.op.operands.toList,(s.after d x wr).o k = s.o k):dt (s.after d x wr) o = dt s o:=by
 unfold dt
 cases hst:qh o with
 | true=>rfl
 | false =>
 have ho:=ho hst
 rw [my (e:=ev s) (fun y hy=>h y (by simpa using hy)),a5m ho]
theorem aul {sf:S} {x y:Tr} {T:List Tr} {ox0 oy0:Oper} (h:jl P E nt ops (x :: y :: T) s sf) (hx0:ops[x.i]? = some ox0) (hy0:ops[y.i]? = some oy0) (hp:a75 ops ox0 oy0 x.foot y.foot = true):jl P E nt ops (y :: x :: T) s sf:=by
 cases h with
 | @cons ix anx Rx Ox Fx ox _ _ vx wx _ hix hex hRx hOx hFx h =>
 cases h with
 | @cons iy any Ry Oy Fy oy _ _ vy wy _ hiy hey hRy hOy hFy h =>
 obtain rfl:ox0 = ox:=by have:=hx0.symm.trans hix;simpa using this
 obtain rfl:oy0 = oy:=by have:=hy0.symm.trans hiy;simpa using this
 simp only [a75,Bool.and_eq_true,Tr.foot] at hp
 obtain ⟨⟨⟨⟨⟨hap,h1⟩,h2⟩,h3⟩,h4⟩,h5⟩:=hp
 have h1:=nz h1
 have h2:=nz h2
 have h3:=nz h3
 have h4:=nz h4
 have h5:=nz h5
 obtain ⟨a1,a2,a3⟩:=Oper.apart_spec hap
 have hwx:=aea hex
 have hwy:=aea hey
 have eyx:∀ z ∈ oy0.op.operands,ev (s.after ox0.dst vx wx) z = ev s z:=fun z hz=>y4 fun k hk=>n7 (a1 k hk) z hz
 have gy:bh ops (s.after ox0.dst vx wx) oy0 = bh ops s oy0:=ol a1
 have oyx:∀ k ∈ Ry ++ any.W,(s.after ox0.dst vx wx).o k = s.o k:=fun k hk=>a6i fun q hw e=>by
  have hin:=hwx q hw
  rw [e] at hin
  rcases List.mem_append.1 hk with hk | hk
  · exact h1 k hin hk
  · exact h2 k hin hk
 have hlk:dt s oy0 = Ry:=by
  rw [← hRy]
  have hids:qh oy0 = false → ∀ k ∈ d7 (ev s) oy0.op.operands.toList,(s.after ox0.dst vx wx).o k = s.o k:=by
   intro hst k hk
   refine oyx k (List.mem_append_left _ ?_)
   rw [← hRy]
   refine a03 hst ?_
   rw [my (e:=ev s) (fun z hz=>eyx z (by simpa using hz))]
   exact hk
  exact (a20 eyx hids).symm
 have hey':Eff P E nt ops oy0 any s vy wy:=a7z hey (fun z hz=>(eyx z hz).symm) gy.symm (fun k hk=>by
  rw [hRy] at hk
  exact (oyx k (List.mem_append_left _ hk)).symm) (fun k hk=>(oyx k (List.mem_append_right _ hk)).symm) (fun k hk hnm=>acq hnm (fun hk'=>h4 k hk (hOx k hk')))
 have exy:∀ z ∈ ox0.op.operands,ev (s.after oy0.dst vy wy) z = ev s z:=fun z hz=>y4 fun k hk=>n7 (a3 k hk) z hz
 have gx:bh ops (s.after oy0.dst vy wy) ox0 = bh ops s ox0:=ol a3
 have oxy:∀ k ∈ Rx ++ anx.W,(s.after oy0.dst vy wy).o k = s.o k:=fun k hk=>a6i fun q hw e=>by
  have hin:=hwy q hw
  rw [e] at hin
  rcases List.mem_append.1 hk with hk | hk
  · exact h3 k hin hk
  · exact h2 k hk hin
 have hlx:dt (s.after oy0.dst vy wy) ox0 = Rx:=by
  rw [a20 exy (fun hst k hk=>oxy k (List.mem_append_left _ (by rw [← hRx];exact a03 hst hk))),hRx]
 obtain ⟨m1,m2⟩:=alk hey
 have hex':Eff P E nt ops ox0 anx (s.after oy0.dst vy wy) vx wx:=a7z hex exy gx (fun k hk=>oxy k (List.mem_append_left _ (by rw [← hRx];exact hk))) (fun k hk=>oxy k (List.mem_append_right _ hk))
  (fun k hk hnm=>a8t hnm (fun r hr hkr=>h5 k hk (m1 r hr k hkr)) (fun id ob hw hko=>h5 k hk (m2 id ob hw k hko)))
 have hdne:∀ k,ox0.dst = some k → oy0.dst ≠ some k:=a2
 have hOy':cn s oy0.dst wy = cn (s.after ox0.dst vx wx) oy0.dst wy:=by
  unfold cn
  congr 1
  · cases hd:oy0.dst with
    | none=>rfl
    | some k=>dsimp only;rw [ey fun e=>a2 k e hd]
  · exact (yi fun q hq=>oyx q.1 (List.mem_append_right _ (hwy q hq))).symm
 have hOx':cn (s.after oy0.dst vy wy) ox0.dst wx = cn s ox0.dst wx:=by
  unfold cn
  congr 1
  · cases hd:ox0.dst with
    | none=>rfl
    | some k=>dsimp only;rw [ey (a2 k hd)]
  · exact yi fun q hq=>oxy q.1 (List.mem_append_right _ (hwx q hq))
 rw [aey hdne fun q hq q' hq' e=>h2 q.1 (hwx q hq) (by rw [e];exact hwy q' hq')] at h
 exact .cons hiy hey' hlk (fun k hk=>hOy k (by rw [← hOy'];exact hk)) (fun f hf=>⟨(og eyx).symm.trans (hFy f hf).1,gy.symm.trans (hFy f hf).2⟩) (.cons hix hex' hlx (fun k hk=>hOx k (by rw [← hOx'];exact hk)) (fun f hf=>⟨(og exy).trans (hFx f hf).1,gx.trans (hFx f hf).2⟩) h)
theorem uh {o:Oper} {f:yl} (h:ez E s o = some f):(f.wr = false ∧ ((∃ t x,o.op = .load t x) ∨ (∃ x,o.op = .nilCheck x) ∨ (∃ t x k,o.op = .fieldAddr t x k) ∨ (∃ x,o.op = .move x) ∨ ∃ x,o.op = .assign x)) ∨ (f.wr = true ∧ ∃ t x v,o.op = .store t x v):=by
 unfold ez at h
 split at h
 · split at h <;> try (cases h;done)
   simp only [Option.some.injEq] at h
   subst h
   exact .inl ⟨rfl, .inl ⟨_,_,by assumption⟩⟩
 · split at h <;> try (cases h;done)
   simp only [Option.some.injEq] at h
   subst h
   exact .inl ⟨rfl, .inr (.inl ⟨_,by assumption⟩)⟩
 · split at h <;> try (cases h;done)
   simp only [Option.some.injEq] at h
   subst h
   exact .inl ⟨rfl, .inr (.inr (.inr (.inl ⟨_,by assumption⟩)))⟩
 · split at h <;> try (cases h;done)
   simp only [Option.some.injEq] at h
   subst h
   exact .inl ⟨rfl, .inr (.inr (.inr (.inr ⟨_,by assumption⟩)))⟩
 · split at h <;> try (cases h;done)
   simp only [Option.some.injEq] at h
   subst h
   exact .inl ⟨rfl, .inr (.inr (.inl ⟨_,_,_,by assumption⟩))⟩
 · split at h <;> try (cases h;done)
   simp only [Option.some.injEq] at h
   subst h
   exact .inr ⟨rfl,_,_,_,by assumption⟩
 · cases h
theorem aaj {o:Oper} {an:Ann} {x:Option HR} {wr:Wr} {f:yl} (he:Eff P E nt ops o an s x wr) (hf:ez E s o = some f) (hw:bh ops s o = some true) (hr:f.wr = false) :
 ∃ out,x = some out.val ∧ wr = [] ∧ hq E an.ex s.o (ev s) o.op = some out ∧ out.pre ∧ d8 nt o.dst = true ∧ out.val.ids = an.M:=by
 have hops:(∃ t x,o.op = .load t x) ∨ (∃ x,o.op = .nilCheck x) ∨ (∃ t x k,o.op = .fieldAddr t x k) ∨ (∃ x,o.op = .move x) ∨ ∃ x,o.op = .assign x:=by
  rcases uh hf with ⟨_,h⟩ | ⟨h,_⟩
  · exact h
  · rw [hr] at h;cases h
 cases he with
 | skip hw' hd=>rw [hw] at hw';cases hw'
 | quiet out hw hd hq' hp hM=>exact ⟨out,rfl,rfl,hq',hp,hd,hM⟩
 | cut out id hw hd hq' hp hW=>rcases hops with ⟨t,x,h⟩ | ⟨x,h⟩ | ⟨t,x,k,h⟩ | ⟨x,h⟩ | ⟨x,h⟩ <;> (rw [h] at hq';cases hq')
 | make nw hw hd hq' hp hm hn hW hN hM=>rcases hops with ⟨t,x,h⟩ | ⟨x,h⟩ | ⟨t,x,k,h⟩ | ⟨x,h⟩ | ⟨x,h⟩ <;> (rw [h] at hq';cases hq')
 | store u hw hd hq' hp hW hM=>rcases hops with ⟨t,x,h⟩ | ⟨x,h⟩ | ⟨t,x,k,h⟩ | ⟨x,h⟩ | ⟨x,h⟩ <;> (rw [h] at hq';cases hq')
 | app u hw hd hq' hp hn hW hN hM=>rcases hops with ⟨t,x,h⟩ | ⟨x,h⟩ | ⟨t,x,k,h⟩ | ⟨x,h⟩ | ⟨x,h⟩ <;> (rw [h] at hq';cases hq')
 | call cl f fst caps args p vs b hw hd ho hc hf hv hp hco hpure hb hM=>rcases hops with ⟨t,x,h⟩ | ⟨x,h⟩ | ⟨t,x,k,h⟩ | ⟨x,h⟩ | ⟨x,h⟩ <;> (rw [h] at ho;cases ho)
 | conv sr ds x b hw hd ho hcv hp hM=>rcases hops with ⟨t,x,h⟩ | ⟨x,h⟩ | ⟨t,x,k,h⟩ | ⟨x,h⟩ | ⟨x,h⟩ <;> (rw [h] at ho;cases ho)
 | fcall cl f caps args hcs o1 o2 res fx hw hd ho hc hf hv hco hfun hsub hnew hnm hcl hclr hW hN hM=>rcases hops with ⟨t,x,h⟩ | ⟨x,h⟩ | ⟨t,x,k,h⟩ | ⟨x,h⟩ | ⟨x,h⟩ <;> (rw [h] at ho;cases ho)
theorem a05 {o:Oper} {an:Ann} {x:Option HR} {wr:Wr} {f:yl} (he:Eff P E nt ops o an s x wr) (hf:ez E s o = some f) (hw:bh ops s o = some true) (hr:f.wr = true) :
 ∃ u,x = none ∧ wr = [(u.id,some u.ob)] ∧ hs E s.o (ev s) o.op = some u ∧ u.pre ∧ an.W = [u.id] ∧ (∀ k ∈ u.ob.ids,k ∈ an.M) ∧ d8 nt o.dst = true:=by
 have hops:∃ t x v,o.op = .store t x v:=by
  rcases uh hf with ⟨h,_⟩ | ⟨_,h⟩
  · rw [hr] at h;cases h
  · exact h
 obtain ⟨t,ad,v,h⟩:=hops
 cases he with
 | skip hw' hd=>rw [hw] at hw';cases hw'
 | quiet out hw hd hq' hp hM=>rw [h] at hq';cases hq'
 | cut out id hw hd hq' hp hW=>rw [h] at hq';cases hq'
 | make nw hw hd hq' hp hm hn hW hN hM=>rw [h] at hq';cases hq'
 | store u hw hd hq' hp hW hM=>exact ⟨u,rfl,rfl,hq',hp,hW,hM,hd⟩
 | app u hw hd hq' hp hn hW hN hM=>rw [h] at hq';cases hq'
 | call cl f fst caps args p vs b hw hd ho hc hf hv hp hco hpure hb hM=>rw [h] at ho;cases ho
 | conv sr ds x b hw hd ho hcv hp hM=>rw [h] at ho;cases ho
 | fcall cl f caps args hcs o1 o2 res fx hw hd ho hc hf hv hco hfun hsub hnew hnm hcl hclr hW hN hM=>rw [h] at ho;cases ho
theorem a6x {o:Oper} {f:yl} (hf:ez E s o = some f) (hr:f.wr = true) {u:Upd} (hu:hs E s.o (ev s) o.op = some u) :
 ∃ l new,s.o f.id = some (.box l) ∧ new.length = f.len ∧ u = ⟨f.off + f.len ≤ l.length,f.id, .box (bu l f.off new)⟩ ∧
  ∀ (o':b8) (e':Ev) (l':List HV),o' f.id = some (.box l') → (∀ y ∈ o.op.operands,e' y = ev s y) → hs E o' e' o.op = some ⟨f.off + f.len ≤ l'.length,f.id, .box (bu l' f.off new)⟩:=by
 have hops:∃ t x v,o.op = .store t x v:=by
  rcases uh hf with ⟨h,_⟩ | ⟨_,h⟩
  · rw [hr] at h;cases h
  · exact h
 obtain ⟨t,ad,v,h⟩:=hops
 unfold ez at hf
 rw [h] at hf hu ⊢
 dsimp only at hf
 split at hf <;> try (cases hf;done)
 rename_i i id off hE he
 simp only [Option.some.injEq] at hf
 subst hf
 simp only [hs,j3,hE,he] at hu
 cases hv:ev s v with
 | none=>rw [hv] at hu;cases hu
 | some rv =>
  cases rv with
  | tup l=>rw [hv] at hu;cases hu
  | v cc =>
   rw [hv] at hu
   dsimp only at hu
   cases hob:s.o id with
   | none=>rw [hob] at hu;cases hu
   | some ob =>
    cases ob with
    | mp kk' n' f'=>rw [hob] at hu;cases hu
    | bld fr' T' e' l'=>rw [hob] at hu;cases hu
    | ex d' v' b' x'=>rw [hob] at hu;cases hu
    | bun B'=>rw [hob] at hu;cases hu
    | opq s' e' n' R'=>rw [hob] at hu;cases hu
    | nest e' et' es' n' m' g' pd'=>rw [hob] at hu;cases hu
    | arr wr' s' e' n' f'=>rw [hob] at hu;cases hu
    | arrh s' e' n' ms' f'=>rw [hob] at hu;cases hu
    | box l =>
     rw [hob] at hu
     dsimp only at hu
     split at hu <;> try (cases hu;done)
     rename_i hlen
     simp only [Option.some.injEq] at hu
     subst hu
     refine ⟨l,cc.cells,rfl,of_decide_eq_true hlen,rfl,fun o' e' l' ho' he'=>?_⟩
     simp only [Op.operands] at he'
     simp only [hs,j3,hE]
     rw [he' v (by simp),he' ad (by simp),hv,he]
     dsimp only
     rw [ho']
     dsimp only
     rw [hlen]
theorem yz {g g':Nat → HV}:∀ (n i:Nat),(∀ j,i ≤ j → j < i + n → g j = g' j) → k7 g n i = k7 g' n i
 | 0,_,_=>rfl
 | n + 1,i,h=>by
  simp only [k7]
  rw [h i (Nat.le_refl _) (by omega),yz n (i + 1) fun j h1 h2=>h j (by omega) (by omega)]
theorem adh {ex:Bool} {o:Oper} {f:yl} (hf:ez E s o = some f) (hr:f.wr = false) {l l':List HV} {o':b8} {e':Ev} (hl:s.o f.id = some (.box l)) (hl':o' f.id = some (.box l')) (hlen:l'.length = l.length)
 (hj:∀ j,f.off ≤ j → j < f.off + f.len → l'[j]? = l[j]?) (he':∀ y ∈ o.op.operands,e' y = ev s y):hq E ex o' e' o.op = hq E ex s.o (ev s) o.op:=by
 have hops:(∃ t x,o.op = .load t x) ∨ (∃ x,o.op = .nilCheck x) ∨ (∃ t x k,o.op = .fieldAddr t x k) ∨ (∃ x,o.op = .move x) ∨ ∃ x,o.op = .assign x:=by
  rcases uh hf with ⟨_,h⟩ | ⟨h,_⟩
  · exact h
  · rw [hr] at h;cases h
 unfold ez at hf
 rcases hops with ⟨t,x,h⟩ | ⟨x,h⟩ | ⟨t,x,k,h⟩ | ⟨x,h⟩ | ⟨x,h⟩
 · rw [h] at hf he' ⊢
   dsimp only at hf
   split at hf <;> try (cases hf;done)
   rename_i i id off hE he
   simp only [Option.some.injEq] at hf
   subst hf
   simp only [Op.operands] at he'
   simp only [hq,jw,hE]
   rw [he' x (by simp),he]
   dsimp only at hl hl' hj ⊢
   simp only [tgt,hl,hl']
   have hg:∀ j,j < i.size → l'.getD (off + j) (.p .any) = l.getD (off + j) (.p .any):=fun j hjl=>by
    rw [List.getD_eq_getElem?_getD,List.getD_eq_getElem?_getD,hj (off + j) (by omega) (by omega)]
   cases i.k.isAgg with
   | true =>
    dsimp only
    rw [hlen,yz i.size 0 fun j _ h2=>hg j (by omega)]
   | false =>
    dsimp only
    split
    · rename_i h1
      rw [hlen]
      have:=hg 0 (by omega)
      simp only [Nat.add_zero] at this ⊢
      rw [this]
    · rfl
 · rw [h] at hf he' ⊢
   dsimp only at hf
   split at hf <;> try (cases hf;done)
   rename_i id off he
   simp only [Option.some.injEq] at hf
   subst hf
   simp only [Op.operands] at he'
   simp only [hq,n8]
   rw [he' x (by simp),he]
   dsimp only at hl hl' ⊢
   simp only [tgt,hl,hl']
 · rw [h] at hf he' ⊢
   dsimp only at hf
   split at hf <;> try (cases hf;done)
   rename_i id off he
   simp only [Option.some.injEq] at hf
   subst hf
   simp only [Op.operands] at he'
   simp only [hq,f4]
   rw [he' x (by simp),he]
   dsimp only at hl hl' ⊢
   simp only [tgt,hl,hl']
   cases E t with
   | none=>rfl
   | some i =>
    dsimp only
    cases i.k <;> rfl
 · rw [h] at he' ⊢
   simp only [Op.operands] at he'
   simp only [hq]
   rw [he' x (by simp)]
 · rw [h] at he' ⊢
   simp only [Op.operands] at he'
   simp only [hq]
   rw [he' x (by simp)]
theorem jz {l new:List HV} {off:Nat} (h:off + new.length ≤ l.length):(bu l off new).length = l.length:=ut l new off h
theorem nn {l new:List HV} {off:Nat} (k:Nat) (h:off + new.length ≤ l.length):(bu l off new)[k]? = if off ≤ k ∧ k < off + new.length then new[k - off]? else l[k]?:=d9 l new off k h
theorem af2 {l a b:List HV} {i j:Nat} (ha:i + a.length ≤ l.length) (hb:j + b.length ≤ l.length) (hd:i + a.length ≤ j ∨ j + b.length ≤ i):bu (bu l i a) j b = bu (bu l j b) i a:=by
 apply List.ext_getElem?
 intro k
 rw [nn k (by rw [jz ha];exact hb),nn k ha,nn k (by rw [jz hb];exact ha),nn k hb]
 by_cases h1:i ≤ k ∧ k < i + a.length
 · rw [if_pos h1,if_neg (by omega),if_pos h1]
 · rw [if_neg h1,if_neg h1]
theorem v8 {l new:List HV} {off k:Nat} (h:k ∈ gi (bu l off new)):k ∈ gi l ∨ k ∈ gi new:=by
 obtain ⟨x,hx,hk⟩:=idsL_mem' h
 unfold bu at hx
 rcases List.mem_append.1 hx with hx | hx
 · rcases List.mem_append.1 hx with hx | hx
   · exact .inl (kg ⟨x,List.mem_of_mem_take hx,hk⟩)
   · exact .inr (kg ⟨x,hx,hk⟩)
 · exact .inl (kg ⟨x,List.mem_of_mem_drop hx,hk⟩)
theorem adm {l new:List HV} {off k:Nat} (h:k ∈ gi new):k ∈ gi (bu l off new):=by
 obtain ⟨x,hx,hk⟩:=idsL_mem' h
 exact kg ⟨x,List.mem_append_left _ (List.mem_append_right _ hx),hk⟩
theorem after_comm' {d d':Option Tmp} {x x':Option HR} {wr wr' wr1 wr1':Wr} (hd:∀ k,d = some k → d' ≠ some k) (ho:∀ k,((s.after d x wr).after d' x' wr').o k = ((s.after d' x' wr1').after d x wr1).o k) :
 (s.after d x wr).after d' x' wr' = (s.after d' x' wr1').after d x wr1:=by
 have ht:∀ k,((s.after d x wr).after d' x' wr').t k = ((s.after d' x' wr1').after d x wr1).t k:=by
  intro k
  by_cases h1:d = some k
  · have h2:=hd k h1
    subst h1
    rw [ey h2]
    have e1:(s.after (some k) x wr).t k = x:=by unfold S.after S.putD;simp [S.put]
    have e2:((s.after d' x' wr1').after (some k) x wr1).t k = x:=by unfold S.after S.putD;simp [S.put]
    rw [e1,e2]
  · by_cases h2:d' = some k
    · subst h2
      rw [ey (s:=s.after (some k) x' wr1') h1]
      have e1:((s.after d x wr).after (some k) x' wr').t k = x':=by unfold S.after S.putD;simp [S.put]
      have e2:(s.after (some k) x' wr1').t k = x':=by unfold S.after S.putD;simp [S.put]
      rw [e1,e2]
    · rw [ey h2,ey h1,ey h1,ey h2]
 cases h1:(s.after d x wr).after d' x' wr' with
 | mk t1 o1 =>
  cases h2:(s.after d' x' wr1').after d x wr1 with
  | mk t2 o2 =>
   rw [h1,h2] at ht ho
   have:t1 = t2:=funext ht
   have:o1 = o2:=funext ho
   simp_all
theorem ne {d:Option Tmp} {x:Option HR} {id:Nat} {ob:ag}:(s.after d x [(id,some ob)]).o = fun k=>if k = id then some ob else s.o k:=by
 funext k
 rw [lz]
 simp only [gd]
 by_cases h:k = id
 · subst h;simp
 · have:Nat.beq id k = false:=by rw [Bool.eq_false_iff];exact fun hb=>h (Nat.eq_of_beq_eq_true hb).symm
   simp [this,h]
theorem pg {d:Option Tmp} {x:Option HR}:(s.after d x []).o = s.o:=by
 funext k
 exact a6i fun q hq=>by cases hq
theorem a09 {s':S} {d:Option Tmp} {id:Nat} {ob ob':ag} (hd:∀ k,d = some k → s'.t k = s.t k) {l':List HV} (hl':s'.o id = some (.box l')) {k:Nat} (hk:k ∈ cn s' d [(id,some ob')]) :
 k ∈ cn s d [(id,some ob)] ∨ k ∈ gi l':=by
 unfold cn at hk ⊢
 rcases List.mem_append.1 hk with hk | hk
 · refine .inl (List.mem_append_left _ ?_)
   cases d with
   | none=>exact hk
   | some j=>dsimp only at hk ⊢;rw [hd j rfl] at hk;exact hk
 · simp only [rp,hl',ag.ids,List.append_nil] at hk
   exact .inr hk
theorem aua {sf:S} {x y:Tr} {T:List Tr} {ox oy:Oper} (h:jl P E nt ops (x :: y :: T) s sf) (hx0:ops[x.i]? = some ox) (hy0:ops[y.i]? = some oy) (hp:a62 ops ox oy x y = true):jl P E nt ops (y :: x :: T) s sf:=by
 cases h with
 | @cons ix anx Rx Ox Fx ox1 _ _ vx wx _ hix hex hRx hOx hFx h =>
 cases h with
 | @cons iy any Ry Oy Fy oy1 _ _ vy wy _ hiy hey hRy hOy hFy h =>
 obtain rfl:ox = ox1:=by have:=hx0.symm.trans hix;simpa using this
 obtain rfl:oy = oy1:=by have:=hy0.symm.trans hiy;simpa using this
 unfold a62 at hp
 dsimp only at hp
 cases Fx with
 | none=>cases hp
 | some f =>
 cases Fy with
 | none=>cases hp
 | some g =>
 simp only [Bool.and_eq_true] at hp
 obtain ⟨⟨⟨⟨⟨hap,hid⟩,hdis⟩,hNx⟩,hNy⟩,hm⟩:=hp
 have hid:f.id = g.id:=Nat.eq_of_beq_eq_true hid
 have hdis:f.off + f.len ≤ g.off ∨ g.off + g.len ≤ f.off:=by
  rcases (Bool.or_eq_true _ _ ▸ hdis:_ ∨ _) with h' | h'
  · exact .inl (Nat.le_of_ble_eq_true h')
  · exact .inr (Nat.le_of_ble_eq_true h')
 have hNx:anx.N = []:=by simpa using hNx
 have hNy:any.N = []:=by simpa using hNy
 obtain ⟨a1,a2,a3⟩:=Oper.apart_spec hap
 obtain ⟨fx1,fx2⟩:=hFx f rfl
 obtain ⟨fy1,fy2⟩:=hFy g rfl
 have eyx:∀ {d wr},(∀ k,d = some k → ox.dst = some k) → ∀ z ∈ oy.op.operands,ev (s.after d vx wr) z = ev s z:=fun hd z hz=>y4 fun k hk=>n7 (a1 k (hd k hk)) z hz
 have exy:∀ {v wr},∀ z ∈ ox.op.operands,ev (s.after oy.dst v wr) z = ev s z:=fun z hz=>y4 fun k hk=>n7 (a3 k hk) z hz
 have eyx':∀ z ∈ oy.op.operands,ev (s.after ox.dst vx wx) z = ev s z:=eyx fun k hk=>hk
 have gy:bh ops (s.after ox.dst vx wx) oy = bh ops s oy:=ol a1
 have gx:∀ {v wr},bh ops (s.after oy.dst v wr) ox = bh ops s ox:=ol a3
 have fyS:ez E s oy = some g:=(og eyx').symm.trans fy1
 have fyW:bh ops s oy = some true:=gy.symm.trans fy2
 have notcall:∀ {st:S} {o:Oper} {q:yl},ez E st o = some q → wu o = false:=fun {st o q} hq=>by
  unfold wu
  rcases uh hq with ⟨_,⟨t,x,h'⟩ | ⟨x,h'⟩ | ⟨t,x,k,h'⟩ | ⟨x,h'⟩ | ⟨x,h'⟩⟩ | ⟨_,t,x,v,h'⟩ <;> rw [h']
 have lky:dt s oy = Ry:=by
  rw [← hRy]
  unfold dt
  cases qh oy with
  | true=>rfl
  | false =>
  rw [notcall fyS]
  exact (my fun z hz=>eyx' z (by simpa using hz)).symm
 have lkx:∀ {v wr},dt (s.after oy.dst v wr) ox = Rx:=fun {v wr}=>by
  rw [← hRx]
  unfold dt
  cases qh ox with
  | true=>rfl
  | false =>
  rw [notcall fx1]
  exact my fun z hz=>exy z (by simpa using hz)
 have tdy:∀ k,oy.dst = some k → (s.after ox.dst vx wx).t k = s.t k:=fun k hk=>ey fun e=>a2 k e hk
 have tdx:∀ {v wr} k,ox.dst = some k → (s.after oy.dst v wr).t k = s.t k:=fun k hk=>ey (a2 k hk)
 have fxS:∀ {v wr},∀ q,some f = some q → ez E (s.after oy.dst v wr) ox = some q ∧ bh ops (s.after oy.dst v wr) ox = some true:=fun q hq=>by
  rw [← hq];exact ⟨(og exy).trans fx1,gx.trans fx2⟩
 have fyS':∀ q,some g = some q → ez E s oy = some q ∧ bh ops s oy = some true:=fun q hq=>by
  rw [← hq];exact ⟨fyS,fyW⟩
 cases hfw:f.wr with
 | false =>
  cases hgw:g.wr with
  | false=>rw [hfw,hgw] at hm;cases hm
  | true =>
   obtain ⟨out,rfl,rfl,hq1,hpre,hdx,hMx⟩:=aaj hex fx1 fx2 hfw
   obtain ⟨u,rfl,rfl,hu,hup,hWy,hMy,hdy⟩:=a05 hey fy1 fy2 hgw
   rw [pg] at hu
   have hu':hs E s.o (ev s) oy.op = some u:=by
    rw [← hu]
    exact (abn eyx' (fun _ _=>rfl)).symm
   obtain ⟨l,new,hl,hnl,rfl,_⟩:=a6x fyS hgw hu'
   dsimp only at hup hMy hWy h ⊢
   have hlx:s.o f.id = some (.box l):=by rw [hid];exact hl
   have hxq:hq E anx.ex (s.after oy.dst none [(g.id,some (ag.box (bu l g.off new)))]).o (ev (s.after oy.dst none [(g.id,some (ag.box (bu l g.off new)))])) ox.op = some out:=by
    rw [← hq1]
    refine adh (l':=bu l g.off new) fx1 hfw hlx (by rw [ne,hid];simp) (jz (by omega)) (fun j h1 h2=>?_) exy
    rw [nn j (by omega),if_neg (by omega)]
   rw [after_comm' (wr1:=[]) (wr1':=[(g.id,some (ag.box (bu l g.off new)))]) a2 (fun k=>by simp only [ne,pg])] at h
   refine .cons hiy (.store _ fyW hdy hu' hup hWy hMy) lky (fun k hk=>hOy k ?_) fyS' (.cons hix (.quiet out (gx.trans fx2) hdx hxq hpre hMx) lkx (fun k hk=>hOx k ?_) fxS h)
   · unfold cn at hk ⊢
     rcases List.mem_append.1 hk with hk | hk
     · refine List.mem_append_left _ ?_
       cases hd:oy.dst with
       | none=>rw [hd] at hk;exact hk
       | some j=>rw [hd] at hk;dsimp only at hk ⊢;rw [tdy j hd];exact hk
     · refine List.mem_append_right _ ?_
       simp only [rp,pg] at hk ⊢
       exact hk
   · unfold cn at hk ⊢
     rcases List.mem_append.1 hk with hk | hk
     · refine List.mem_append_left _ ?_
       cases hd:ox.dst with
       | none=>rw [hd] at hk;exact hk
       | some j=>rw [hd] at hk;dsimp only at hk ⊢;rw [tdx j hd] at hk;exact hk
     · cases hk
 | true =>
  obtain ⟨u,rfl,rfl,hu,hup,hWx,hMx,hdx⟩:=a05 hex fx1 fx2 hfw
  obtain ⟨l,new,hl,hnl,rfl,hsx⟩:=a6x fx1 hfw hu
  dsimp only at hup hMx hWx h hOx hOy hFy hey gy eyx' tdy fy1 fy2 ⊢
  have hly:s.o g.id = some (.box l):=by rw [← hid];exact hl
  have hlx1:(s.after ox.dst none [(f.id,some (ag.box (bu l f.off new)))]).o g.id = some (.box (bu l f.off new)):=by rw [ne,← hid];simp
  cases hgw:g.wr with
  | false =>
   obtain ⟨out,rfl,rfl,hq1,hpre,hdy,hMy⟩:=aaj hey fy1 fy2 hgw
   have hyq:hq E any.ex s.o (ev s) oy.op = some out:=by
    rw [← hq1]
    refine (adh fyS hgw hly hlx1 (jz (by omega)) (fun j h1 h2=>?_) eyx').symm
    rw [nn j (by omega),if_neg (by omega)]
   have hxs:hs E (s.after oy.dst (some out.val) []).o (ev (s.after oy.dst (some out.val) [])) ox.op = some ⟨f.off + f.len ≤ l.length,f.id, .box (bu l f.off new)⟩:=hsx _ _ l (by rw [pg];exact hl) exy
   rw [after_comm' (wr1:=[(f.id,some (ag.box (bu l f.off new)))]) (wr1':=[]) a2 (fun k=>by simp only [ne,pg])] at h
   refine .cons hiy (.quiet out fyW hdy hyq hpre hMy) lky (fun k hk=>hOy k ?_) fyS' (.cons hix (.store _ (gx.trans fx2) hdx hxs hup hWx hMx) lkx (fun k hk=>hOx k ?_) fxS h)
   · unfold cn at hk ⊢
     rcases List.mem_append.1 hk with hk | hk
     · refine List.mem_append_left _ ?_
       cases hd:oy.dst with
       | none=>rw [hd] at hk;exact hk
       | some j=>rw [hd] at hk;dsimp only at hk ⊢;rw [tdy j hd];exact hk
     · cases hk
   · unfold cn at hk ⊢
     rcases List.mem_append.1 hk with hk | hk
     · refine List.mem_append_left _ ?_
       cases hd:ox.dst with
       | none=>rw [hd] at hk;exact hk
       | some j=>rw [hd] at hk;dsimp only at hk ⊢;rw [tdx j hd] at hk;exact hk
     · refine List.mem_append_right _ ?_
       simp only [rp,pg] at hk ⊢
       exact hk
  | true =>
   rw [hfw,hgw] at hm
   simp only [Bool.and_eq_true] at hm
   obtain ⟨⟨⟨⟨⟨m1,m2⟩,m3⟩,m4⟩,m5⟩,m6⟩:=hm
   have m1:=o6 m1
   have m2:=o6 m2
   have m3:=o6 m3
   have m4:=o6 m4
   have m5:=o6 m5
   have m6:=o6 m6
   obtain ⟨u,rfl,rfl,hu2,hup2,hWy,hMy,hdy⟩:=a05 hey fy1 fy2 hgw
   obtain ⟨l2,new2,hl2,hnl2,rfl,hsy⟩:=a6x fy1 hgw hu2
   dsimp only at hup2 hMy hWy h hOy ⊢
   obtain rfl:l2 = bu l f.off new:=by rw [hlx1] at hl2;simpa using hl2.symm
   have hlen1:(bu l f.off new).length = l.length:=jz (by omega)
   rw [hlen1] at hup2
   have hys:hs E s.o (ev s) oy.op = some ⟨g.off + g.len ≤ l.length,g.id, .box (bu l g.off new2)⟩:=hsy s.o (ev s) l hly (fun z hz=>(eyx' z hz).symm)
   have hxs:hs E (s.after oy.dst none [(g.id,some (ag.box (bu l g.off new2)))]).o (ev (s.after oy.dst none [(g.id,some (ag.box (bu l g.off new2)))])) ox.op = some ⟨f.off + f.len ≤ (bu l g.off new2).length,f.id, .box (bu (bu l g.off new2) f.off new)⟩ :=
    hsx _ _ _ (by rw [ne,hid];simp) exy
   have hlO:∀ k ∈ gi l,k ∈ Ox:=fun k hk=>hOx k (by
    unfold cn
    refine List.mem_append_right _ ?_
    simp only [rp,hl,ag.ids,List.append_nil]
    exact hk)
   have hn1:∀ k ∈ gi new,k ∈ anx.M:=fun k hk=>hMx k (adm hk)
   have hn2:∀ k ∈ gi new2,k ∈ any.M:=fun k hk=>hMy k (adm hk)
   rw [after_comm' (wr1:=[(f.id,some (ag.box (bu (bu l g.off new2) f.off new)))]) (wr1':=[(g.id,some (ag.box (bu l g.off new2)))]) a2 (fun k=>by
    simp only [ne,hid]
    by_cases hk:k = g.id
    · simp only [hk,if_true]
      rw [af2 (by omega) (by omega) (by omega)]
    · simp only [hk,if_false])] at h
   refine .cons hiy (.store _ fyW hdy hys hup2 hWy (fun k hk=>?_)) lky (fun k hk=>?_) fyS' (.cons hix (.store _ (gx.trans fx2) hdx hxs (by dsimp only;rw [jz (by omega)];exact hup) hWx (fun k hk=>?_)) lkx (fun k hk=>?_) fxS h)
   · rcases v8 hk with hk | hk
     · exact m1 k (hlO k hk)
     · exact hn2 k hk
   · rcases a09 (s:=s.after ox.dst none [(f.id,some (ag.box (bu l f.off new)))]) (s':=s) (ob:=ag.box (bu (bu l f.off new) g.off new2)) (fun k hk=>(tdy k hk).symm) hly hk with hk | hk
     · exact hOy k hk
     · exact m4 k (hlO k hk)
   · rcases v8 hk with hk | hk
     · rcases v8 hk with hk | hk
       · exact m2 k (hlO k hk)
       · exact m3 k (hn2 k hk)
     · exact hn1 k hk
   · rcases a09 (s:=s) (s':=s.after oy.dst none [(g.id,some (ag.box (bu l g.off new2)))]) (ob:=ag.box (bu l f.off new)) (l':=bu l g.off new2) (fun k hk=>tdx k hk) (by rw [ne,hid];simp) hk with hk | hk
     · exact hOx k hk
     · rcases v8 hk with hk | hk
       · exact hlO k hk
       · exact m5 k (hn2 k hk)
theorem swap {sf:S} {x y:Tr} {T:List Tr} (h:jl P E nt ops (x :: y :: T) s sf) (hp:a4t ops x y = true):jl P E nt ops (y :: x :: T) s sf:=by
 unfold a4t at hp
 split at hp
 · rename_i ox oy h1 h2
   rcases (Bool.or_eq_true _ _ ▸ hp:_ ∨ _) with hp | hp
   · exact aul h h1 h2 hp
   · exact aua h h1 h2 hp
 · cases hp
theorem ab3 {sf:S} {y:Tr} {T:List Tr}:∀ {pre:List Tr} {s:S},jl P E nt ops (pre ++ y :: T) s sf → (∀ x ∈ pre,a4t ops x y = true) → jl P E nt ops (y :: (pre ++ T)) s sf
 | [],_,h,_=>h
 | x :: pre,s,h,hp=>by
  rw [List.cons_append] at h
  have hx:=hp x (by simp)
  cases h with
  | cons hi he hR hO hF hT =>
  have:=ab3 hT fun z hz=>hp z (by simp [hz])
  exact swap (.cons hi he hR hO hF this) hx
end
end Go.Hx
end
