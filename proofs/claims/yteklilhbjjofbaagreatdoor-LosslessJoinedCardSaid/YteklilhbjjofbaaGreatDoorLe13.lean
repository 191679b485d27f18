/- A part of the proof: Hx15 Hx16 Hx17 Hx18. -/
import Derived.Test.YteklilhbjjofbaaGreatDoorLe12
set_option linter.all false
namespace Go.Hx
section
open Go.RowKit
def ph (l:List Nat) (k:Nat):Bool:=l.any (Nat.beq k)
def jj {l:List Nat} {k:Nat}:ph l k = true <-> k ∈ l:=by
 unfold ph;rw [b3g];constructor
 · rintro ⟨x,hx,hb⟩
   rw [b34 hb];exact hx
 exact fun h=>⟨k,h,by simp⟩
def a2i (W:List Nat) (id:Nat):List (Nat × Option a6) -> Bool
 | []=>true
 | (e,some x) :: r=>(ph W e || a3s id x.ids) && a2i W id r
 | (_,none) :: r=>a2i W id r
def zo {W:List Nat} {id:Nat}:∀ {l:List (Nat × Option a6)},a2i W id l = true -> ∀ d x,d ∉ W -> b6 l d = some x -> ¬ x.men id
 | [],_,d,x,_,h=>by simp [b6] at h
 | (e,some y) :: r,h,d,x,hd,hl=>by
  simp only [a2i,b2p,b3s] at h;rw [ar] at hl;dsimp only at hl;split at hl
  · rename_i he
    subst he;simp only [b2g] at hl;subst hl
    rcases h.1 with h1 | h1
    · exact absurd (jj.1 h1) hd
    exact fun hm=>x9 h1 (a6.men_ids hm)
  exact zo h.2 d x hd hl
 | (e,none) :: r,h,d,x,hd,hl=>by
  rw [ar] at hl;dsimp only at hl;split at hl
  · cases hl
  exact zo (l:=r) (by simpa [a2i] using h) d x hd hl
def isNone (x:Option a6):Bool:=match x with | none=>true | some _=>false
def fcB (o1 o2:List (Nat × a6)) (res:HR) (fx:List Nat) (st:HSt):Bool :=
 ((c0 o2).all fun id=>(ph fx id && ph (c0 o1) id) || (Nat.blt id 1000 && nmT id st.t && a2i (c0 o1 ++ c0 o2) id st.o && (ph (c0 o1) id || isNone (b6 st.o id)))) &&
 ((a33 o2).all (ph (c0 o2)) && res.ids.all (ph (c0 o2)))
def a9p:List (Nat × a6) -> am -> Prop
 | [],_=>True
 | (id,ob) :: r,o=>(∃ ob',o id = some ob' /\ CoO ob' ob) /\ a9p r o
def yw {o:am}:∀ {l:List (Nat × a6)},a9p l o -> ∀ id ob,lk l id = some ob -> ∃ ob',o id = some ob' /\ CoO ob' ob
 | (e,x) :: l,h,id,ob,hl=>by
  simp only [lk] at hl;by_cases hk:e = id
  · subst hk
    simp only [Nat.beq_refl,cond_true,b2g] at hl;subst hl;exact h.1
  have:Nat.beq e id = false:=by
   rw [b33];exact fun hb=>hk (b34 hb)
  rw [this] at hl;exact yw h.2 id ob (by simpa using hl)
section
variable {P:Program} {E:Env} {nt:Nat} {ops:Array Oper} {i:Nat} {o:Oper} {st:HSt} {L:List Nat} {K:List Tr -> HSt -> Prop}
def acd (o1 o2:List (Nat × a6)) (fx:List Nat):List Nat:=(c0 o2).filter fun id=>!(ph fx id && ph (c0 o1) id)
def gl {cl:Call} {f:FuncId} {caps:List HC} {args hcs:List HC} {o1 o2:List (Nat × a6)} {res:HR} {fx:List Nat} {gb:Bool} (hi:ops[i]? = some o) (hw:al ops st.den o = some gb) (hd:c4 nt o.dst = true) (ho:o.op = .call cl)
 (hc:oh (ev st.den) cl = some (f,caps)) (hv:mf (ev st.den) cl.args.toList = some hcs) (hf:goodFn P f) (hfun:ci P f args o1 res o2 fx) (hco:nq (hcs ++ caps) args) (hsub:a9p o1 st.den.o) (hB:fcB o1 o2 res fx st = true) (hg:gb = true)
 (hT:Reg P E nt ops L (st.after o.dst (some res) (sv o1 o2)) fun T sf=>K (⟨i,⟨0,false,true, .tup [],c0 o1 ++ c0 o2,acd o1 o2 fx,res.ids ++ a33 o2⟩,looks st.den o,bg st.den o.dst (sv o1 o2),none⟩ :: T) sf):Reg P E nt ops (i :: L) st K:=by
 obtain ⟨T,sf,h1,h2,h3⟩:=hT;simp only [fcB,b2p,b3c] at hB;obtain ⟨b1,b2,b3⟩:=hB
 have key:∀ id ∈ c0 o2,id ∉ fx \/ id ∉ c0 o1 -> id < 1000 /\ nmT id st.t = true /\ a2i (c0 o1 ++ c0 o2) id st.o = true /\ (id ∈ c0 o1 \/ b6 st.o id = none):=by
  intro id hid hor;have:=b1 id hid;simp only [b3s,b2p] at this
  rcases this with ⟨q1,q2⟩ | ⟨⟨⟨q1,q2⟩,q3⟩,q4⟩
  · rcases hor with e | e
    · exact absurd (jj.1 q1) e
    exact absurd (jj.1 q2) e
  refine ⟨by simpa [Nat.blt_eq] using q1,q2,q3, ?_⟩
  rcases q4 with q4 | q4
  · exact .inl (jj.1 q4)
  refine .inr ?_
  cases hl:b6 st.o id with
  | none=>rfl
  | some x=>rw [hl] at q4;cases q4
 refine ⟨_,sf,by rw [<- h1];rfl, .cons hi (.fcall cl f caps args hcs o1 o2 res fx (by rw [hw,hg]) hd ho hc hf hv hco hfun (yw hsub) (fun id h2 h1=>?_) (fun id h2 h1=>?_) (fun id ob hid k hk=>?_) (fun k hk=>?_) rfl (fun id h2 h1=>?_) rfl) rfl (fun _ hk=>hk) (by intro _ hf;cases hf) (by rw [ic] at h2;exact h2),h3⟩
 · rcases (key id h2 (.inr h1)).2.2.2 with e | e
   · exact absurd e h1
   exact e
 · obtain ⟨q1,q2,q3,_⟩:=key id h2 h1
   exact ⟨x2 q2,fun d x hd hx=>zo q3 d x hd hx,q1⟩
 · have hmem:∀ {l:List (Nat × a6)},lk l id = some ob -> (id,ob) ∈ l:=by
    intro l
    induction l with
    | nil=>intro h;cases h
    | cons p l ih =>
     obtain ⟨e,x⟩:=p;intro h;simp only [lk] at h
     cases hb:Nat.beq e id with
     | true =>
      rw [hb] at h;simp only [cond_true,b2g] at h;rw [<- b34 hb,h];exact b3u
     | false =>
      rw [hb] at h;exact b38 _ (ih (by simpa using h))
   exact jj.1 (b2 k (a2d (hmem hid) (a6.men_ids hk)))
 · exact jj.1 (b3 k (HR.men_ids hk))
 refine b4r.2 ⟨h2, ?_⟩;simp only [b3k,b4p]
 rcases h1 with e | e
 · exact .inl (by rw [b33];exact fun hb=>e (jj.1 hb))
 exact .inr (by rw [b33];exact fun hb=>e (jj.1 hb))
end
def u6:Nat -> List HC -> List (Nat × Option HR)
 | _,[]=>[]
 | i,x :: r=>(i,some (.v x)) :: u6 (i + 1) r
def a42:∀ (l:List HC) (i d:Nat) (r:HR),b6 (u6 i l) d = some r -> ∃ x,i <= d /\ l[d - i]? = some x /\ r = .v x
 | [],i,d,r,h=>by simp [u6,b6] at h
 | x :: l,i,d,r,h=>by
  simp only [u6] at h;rw [ar] at h;dsimp only at h;split at h
  · rename_i hd
    subst hd;simp only [b2g] at h;exact ⟨x,b2j _,by simp,h.symm⟩
  rename_i hd;obtain ⟨y,h1,h2,h3⟩:=a42 l (i + 1) d r h;refine ⟨y,by omega, ?_,h3⟩;rw [show d - i = (d - (i + 1)) + 1 by omega];simpa using h2
def a0l (l:List (Nat × a6)):List (Nat × Option a6):=l.map fun p=>(p.1,some p.2)
def a4r:∀ (l:List (Nat × a6)),b6 (a0l l) = lk l
 | []=>rfl
 | (e,x) :: r=>by
  funext k;have:=congrFun (a4r r) k;unfold a0l at this ⊢;simp only [b48,b6,lk];rw [this]
def agl:List HC -> HR
 | [x]=>.v x
 | l=>.tup l
def auj (E:Env) (st:HSt) (rs:List ResultVar) (res:HR) (o2:List (Nat × a6)):Prop :=
 ∃ p l,u0 E st.den rs = some (p,l) /\ p /\ CoR (agl l) res /\ a9p o2 st.den.o
section
variable {P:Program} {E:Env} {nt:Nat}
def asa (hE:bu P E) {f:FuncId} {fn:Func} {body:Code} {args:List HC} {o1 o2:List (Nat × a6)} {res:HR} {fx:List Nat} (hf:P.funcs[f]? = some fn) (hb:fn.body = some body) (hn:fn.ntmps = nt) (hl:args.length <= nt)
 (hfx:fx.all (Nat.ble 1000) = true) (h:HW (ro:=none) P nt body ⟨u6 0 args,a0l o1⟩ fun e st=>(e = .normal \/ e = .ret) /\ auj E st fn.results.toList res o2):ci P f args o1 res o2 fx:=by
 classical
 intro w c us hm hargs;refine (callsIn_wide (n:=0)).1 (callsIn_of_wp_marks hf hb trivial ?_ rfl)
 have hul:us.length = args.length:=by
  have:∀ {xs:List HC} {us:List Value},b7 c (lk o1) xs us -> us.length = xs.length:=by
   intro xs
   induction xs with
   | nil=>intro us hh;cases us with | nil=>rfl | cons=>exact hh.elim
   | cons x xs ih=>intro us hh;cases us with | nil=>exact hh.elim | cons u us=>simp [ih hh.2]
  exact this hargs
 let a0:Act:={ tmps:=us.toArray ++ Array.replicate (fn.ntmps - us.toArray.size) undef,defers:=[] }
 let frm:Imm:=fun b=>if (∃ id ob,lk o1 id = some ob /\ c.blk id b) then none else w.heap[b]?
 let old:Old:=(c.imm,frm,c.own,lk o1,c.rows)
 have hden:(HSt.den ⟨u6 0 args,a0l o1⟩).o = lk o1:=a4r o1
 have hrel:Rel w old nt (HSt.den ⟨u6 0 args,a0l o1⟩) a0 w:=by
  refine ⟨{ old:=old,imm:=c.imm,tab:=c.tab,own:=c.own,blk:=c.blk,rows:=c.rows },rfl,o0.nil _ _ _ _, ?_,Below.refl _ _,fun d x hx=>?_,fun id ob ho=>?_,fun i i' ob ob' b ho ho'=>?_,hm.imm,fun id ob b ho=>?_,fun b _=>rfl,fun b ob hbo=>?_,fun id ob b ho hbb=>?_,fun id _=>?_⟩
  · simp only [a0,b5d,Array.size_replicate,b3f,hn];omega
  · obtain ⟨y,_,hy,rfl⟩:=a42 args 0 d x hx
    simp only [b57] at hy;obtain ⟨u,hu,hr⟩:=hargs.get d y hy;have hd:d < us.length:=(b40.1 hu).1
    have:a0.tmps.getD d undef = u:=by
     have e1:a0.tmps[d]? = some u:=by
      simp only [a0];rw [Array.getElem?_append_left (by simpa using hd)];simpa using hu
     rw [Array.getD_eq_getD_getElem?,e1];rfl
    rw [this,hden];exact dv.evo (c:=c) (o:=lk o1) (Imm.le.refl c.imm) (fun _ _=>Evo.of_same rfl rfl) hr
  · rw [hden] at ho ⊢
    exact (hm.objs id ob ho).keep (Imm.le.refl c.imm) rfl rfl (fun _ _=>Evo.of_same rfl rfl) fun _ _=>rfl
  · rw [hden] at ho ho'
    exact hm.inj i i' ob ob' b ho ho'
  · rw [hden] at ho
    exact hm.sep id ob b ho
  · have hbo:frm b = some ob:=hbo
    simp only [frm] at hbo;split at hbo
    · cases hbo
    exact hbo
  · rw [hden] at ho
    show frm b = none;simp only [frm];rw [if_pos ⟨id,ob,ho,hbb⟩]
  rw [hden];exact Evo.of_same rfl rfl
 refine wpIn_mono (h w old a0 w hrel) fun e a' w1 ⟨st',⟨hex,hres⟩,hr1⟩=>?_
 suffices key:LeavesInM (rf none) 0 P fn a'.tmps _ a'.defers .returning w1 by
  rcases hex with rfl | rfl <;> exact key
 refine Rel.strike rfl hr1 fun w' hr'=>?_;obtain ⟨c',hold,hrc⟩:=hr';obtain ⟨p,l,h1,h2,h3,h4⟩:=hres;have hsub:=yw h4;have hrc2:=hrc.relax ⟨fun _=>none,lk o2⟩ (fun d x hx=>by cases hx) hsub
 have hnf:∀ b,b < w.heap.size -> (∀ id ob,lk o1 id = some ob -> ¬ c.blk id b) -> c'.frm b = some w.heap[b]! /\ w.heap[b]? = some w.heap[b]!:=fun b hb hno=>by
  have e2:w.heap[b]? = some w.heap[b]!:=by simp [hb]
  refine ⟨?_,e2⟩;show c'.old.2.1 b = _;rw [hold];show frm b = _;simp only [frm];rw [if_neg (fun ⟨id,ob,q1,q2⟩=>hno id ob q1 q2)];exact e2
 have hrv:∃ v,(results fn a'.tmps).run P w' = .ok v w' /\ ah c' (lk o2) res v:=by
  let F:ResultVar -> Sem Value:=fun | .tmp t=>pure (a'.tmps.getD t undef) | .cell ad t=>do loadVar t (<- asAddr (a'.tmps.getD ad undef))
  obtain ⟨uvs,hrun,hrep⟩:=rp hE hrc F (fun _=>rfl) (fun _ _=>rfl) h1 h2;have hF:results fn a'.tmps = (do let vs <- fn.results.mapM F;pure (if h:vs.size = 1 then vs[0] else .tuple vs)):=rfl;rw [hF,Array.mapM_eq_mapM_toList,b39,Sem.run_map];have hview:b7 c' (lk o2) l uvs:=b7.evo (Imm.le.refl c'.imm) (fun k _=>zb hsub k) hrep;rw [hrun];simp only [b2w,b3p];refine ⟨_,rfl,ah.co h3 ?_⟩
  match l,uvs,hview with
  | [x],[u],hv=>simp only [agl,ah];simpa using hv.1
  | [],[],hv=>exact ⟨[],by simp,trivial⟩
  | x :: y :: r,u :: v :: t,hv=>exact ⟨u :: v :: t,by simp,hv⟩
  | [],_ :: _,hv=>exact hv.elim
  | [_],[],hv=>exact hv.elim
  | [_],_ :: _ :: _,hv=>exact hv.2.elim
  | _ :: _ :: _,[],hv=>exact hv.elim
  | _ :: _ :: _,[_],hv=>exact hv.2.elim
 obtain ⟨v,hv1,hv2⟩:=hrv
 have hfin:(∃ v_1 c'_1,Ending.returned v = Ending.returned v_1 /\ ah c'_1 (lk o2) res v_1 /\ Mem c'_1 (lk o2) w' /\ Below 0 w w' /\
  (∀ b,b < w.heap.size -> (∀ id ob,lk o1 id = some ob -> ¬ c.blk id b) -> w'.heap[b]? = w.heap[b]? /\ c'_1.imm b = c.imm b) /\
  (∀ id ob b,lk o2 id = some ob -> c'_1.blk id b -> w.heap.size <= b \/ ∃ id0 ob0,lk o1 id0 = some ob0 /\ c.blk id0 b) /\
  (∀ id ∈ fx,Evo c (lk o1) c'_1 (lk o2) id)):=by
  refine ⟨v,c',rfl,hv2,⟨hrc2.objs,hrc2.inj,hrc2.imm,hrc2.sep⟩,hrc.below,fun b hb hno=>?_,fun id ob b ho hbb=>?_,fun id hid=>?_⟩
  · obtain ⟨e1,e2⟩:=hnf b hb hno
    refine ⟨by rw [hrc.frm b _ e1,e2], ?_⟩;rw [hrc.was b (by rw [e1];simp),hold]
  · have e:=hrc2.fsep id ob b ho hbb
    by_cases hfoot:∃ id0 ob0,lk o1 id0 = some ob0 /\ c.blk id0 b
    · exact .inr hfoot
    refine .inl ?_
    have e':frm b = none:=by
     have:c'.old.2.1 b = none:=e;rw [hold] at this;exact this
    simp only [frm] at e';rw [if_neg hfoot] at e';exact Nat.le_of_not_lt fun hlt=>by simp [hlt] at e'
  have e:=hrc2.fixed id (b2k (b3c.1 hfx id hid));unfold Evo Ctx.start at e;unfold Evo;rw [hold] at e;exact e
 exact ⟨v,hv1,hfin⟩
end
end
section
open Go.RowKit
section
variable {ro:Option Nat} {P:Program} {E:Env} {nt:Nat} {st:HSt} {Q:Exit -> HSt -> Prop} {w0:World} {m0:Old} {a:Act} {w:World}
def om (st:HSt) (id:Nat) (ob:a6):(HSt.den ⟨st.t,(id,some ob) :: st.o⟩) = st.den.setO id (some ob):=by
 unfold HSt.den S.setO;simp [ar]
def ao2 {ι:Type} (I:ι -> HSt) (p:ι -> Prop) (Q:Exit -> HSt -> Prop):Exit -> HSt -> Prop
 | .normal,st=>∃ i,p i /\ Sub (I i) st
 | e,st=>Q e st
def vv {ι:Type} {x y:Code} (I:ι -> HSt) (p:ι -> Prop) (h1:HW (ro:=ro) P nt x st (ao2 I p Q)) (h2:∀ i,p i -> HW (ro:=ro) P nt y (I i) Q):HW (ro:=ro) P nt (.seq x y) st Q:=by
 refine dn (aeu h1 fun e st' h=>?_);cases e <;> try exact h
 obtain ⟨i,hp,hs⟩:=h;exact akc (I i) hs (h2 i hp)
def hw_exact' {c:Code} (d:Nat) {s:Nat} {cl:Bool} {f:Nat -> Nat -> PV} (hd:b6 st.t d = some (az (.sl 0 s cl f))) (h:∀ ad cap,cap <= maxLen -> HW (ro:=ro) P nt c ⟨(d,some (az (.raw (.slice ad 0 cap)))) :: st.t,st.o⟩ Q):HW (ro:=ro) P nt c st Q:=fun w0 m0 a w hr=>by
 obtain ⟨cc,hold,hrr⟩:=hr;obtain ⟨ad,cap,e1,_,hcap,_⟩:=hrr.tmps d _ hd;refine h ad cap hcap w0 m0 a w ⟨cc,hold,hrr.defers,hrr.size,hrr.below,fun k x hx=>?_,hrr.objs,hrr.inj,hrr.imm,hrr.sep,hrr.was,hrr.frm,hrr.fsep,hrr.fixed⟩;simp only [HSt.den] at hx;rw [ar] at hx;dsimp only at hx;split at hx
 · rename_i hk
   subst hk;simp only [b2g] at hx;subst hx;exact ⟨e1,rfl⟩
 exact hrr.tmps k x hx
def gn {c:Code} (d id:Nat) (wr:Bool) {n s':Nat} {f':Nat -> Nat -> PV} (s:Nat) (e:TypeId) (f:Nat -> Nat -> PV) (hs:0 < s) (hd:b6 st.t d = some (az (.sl n s' true f'))) (hco:CoP (.sl n s' true f') (.sl n s true f)) (hwr:wr = false \/ n = 0) (hn:o7 id st = true)
 (h:HW (ro:=ro) P nt c ⟨(d,some (.v (.one (.ref id n)))) :: st.t,(id,some (.arr wr s e n f)) :: st.o⟩ Q):HW (ro:=ro) P nt c st Q:=by
 obtain ⟨hnm,hno⟩:=jk hn;refine a4k ⟨st.t,(id,some (.arr wr s e n f)) :: st.o⟩ d (.v (.one (.ref id n))) (fun w0 m0 a w hr=>?_) h;obtain ⟨cc,hold,hrr⟩:=hr;have hx:ag cc.imm (.sl n s true f) (a.tmps.getD d undef):=hco _ _ (hrr.tmps d _ hd);have hnm':n <= maxLen:=by obtain ⟨ad,cap,_,q1,q2,_⟩:=hx;omega
 have hfresh:=hrr.fresh id hnm hno (.arr wr s e n f) w (a.tmps.getD d undef) noB (Grw.refl w none) (fun b hb=>hb.elim)
  ⟨hs,hnm', .inr ⟨hwr,by simp,by simpa using hx⟩⟩
 refine ⟨_, ?_,by rw [om];exact hfresh, ?_⟩
 · exact hold
 rw [om];refine ⟨ag.oneCell hx,fun l=>by simp [S.setO],fun ob1 s1 e1 n1 ho hd1=>?_⟩;simp only [S.setO,if_true,b2g] at ho;subst ho;simp only [a6.dim,b2g,b2l] at hd1;obtain ⟨rfl,rfl,rfl⟩:=hd1;exact ⟨b2j _,fun _=>by simp⟩
end
def swp (x y k:Nat):Nat:=bif Nat.beq k x then y else bif Nat.beq k y then x else k
def aw2 (x y k:Nat):swp x y k = if k = x then y else if k = y then x else k:=by
 unfold swp;by_cases h1:k = x
 · simp [h1]
 have e1:Nat.beq k x = false:=by rw [b33];exact fun hb=>h1 (b34 hb)
 by_cases h2:k = y
 · simp [h2]
 have e2:Nat.beq k y = false:=by rw [b33];exact fun hb=>h2 (b34 hb)
 simp [e1,e2,h1,h2]
def ar2 (x y k:Nat):swp x y (swp x y k) = k:=by
 simp only [aw2];by_cases h1:k = x
 · subst h1
   by_cases h2:y = k
   · simp [h2]
   simp [h2]
 by_cases h2:k = y
 · subst h2;simp [h1]
 simp [h1,h2]
def HV.ren (r:Nat -> Nat):HV -> HV
 | .p x=>.p x
 | .ref id n=>.ref (r id) n
 | .ptr id off=>.ptr (r id) off
 | .eptr id n i j=>.eptr (r id) n i j
 | .win id n i m=>.win (r id) n i m
 | .clo g k caps=>.clo g k fun i=>(caps i).ren r
 | .row id i k=>.row (r id) i k
 | .rptr id i k a j=>.rptr (r id) i k a j
 | .pin id n ad cap=>.pin (r id) n ad cap
def agd (r:Nat -> Nat):List HV -> List HV
 | []=>[]
 | x :: l=>x.ren r :: agd r l
def HC.ren (r:Nat -> Nat):HC -> HC
 | .one h=>.one (h.ren r)
 | .agg l=>.agg (agd r l)
def a3o (r:Nat -> Nat):List HC -> List HC
 | []=>[]
 | x :: l=>x.ren r :: a3o r l
def HR.ren (r:Nat -> Nat):HR -> HR
 | .v x=>.v (x.ren r)
 | .tup l=>.tup (a3o r l)
def a02 (r:Nat -> Nat):List Nat -> List Nat
 | []=>[]
 | x :: l=>r x :: a02 r l
def a6.ren (r:Nat -> Nat):a6 -> a6
 | .mp kk n f=>.mp kk n f
 | .bld fr T e l=>.bld fr T e l
 | .ex d v b x=>.ex d v b x
 | .bun B=>.bun B
 | .box l=>.box (agd r l)
 | .arr wr s e n f=>.arr wr s e n f
 | .arrh s e n ms f=>.arrh s e n (a02 r ms) fun i j=>(f i j).ren r
 | .nest e et es n m g none=>.nest e et es n m g none
 | .nest e et es n m g (some p)=>.nest e et es n m g (some (r p.1,p.2))
def a6.ren_dim (r:Nat -> Nat) (x:a6):(x.ren r).dim = x.dim:=by
 cases x with
 | nest e et es n m g pd=>cases pd <;> rfl
 | _=>rfl
def x4 (r:Nat -> Nat):List (Nat × a6) -> List (Nat × a6)
 | []=>[]
 | (id,ob) :: l=>(r id,ob.ren r) :: x4 r l
def Ctx.ren (c:Ctx) (r:Nat -> Nat):Ctx:={ old:=c.old,imm:=c.imm,tab:=c.tab,own:=fun k=>c.own (r k),blk:=fun k=>c.blk (r k),rows:=fun k=>c.rows (r k) }
section
variable {r:Nat -> Nat} {c:Ctx} {o o':am}
def zu (hr:∀ k,r (r k) = k):∀ (l:List (Nat × a6)) (k:Nat),lk (x4 r l) (r k) = (lk l k).map (a6.ren r)
 | [],k=>rfl
 | (e,x) :: l,k=>by
  simp only [x4,lk];by_cases h:e = k
  · subst h;simp
  have e1:Nat.beq e k = false:=by rw [b33];exact fun hb=>h (b34 hb)
  have e2:Nat.beq (r e) (r k) = false:=by
   rw [b33];intro hb;have:=congrArg r (b34 hb);rw [hr,hr] at this;exact h this
  rw [e1,e2];simpa using zu hr l k
theorem HV.ren_men {r:Nat -> Nat} (hr:∀ k,r (r k) = k) {h:HV} {k:Nat}:(h.ren r).men k <-> h.men (r k):=by
 have key:∀ id,k = r id <-> r k = id:=fun id=>⟨fun e=>by rw [e,hr],fun e=>by rw [<- e,hr]⟩
 induction h with
 | clo g n caps ih=>exact exists_congr fun i=>and_congr Iff.rfl (ih i)
 | _=>simp only [HV.ren,HV.men] <;> exact key _
def a2j {r:Nat -> Nat} (hr:∀ k,r (r k) = k):∀ {l:List Nat} {k:Nat},k ∈ a02 r l <-> r k ∈ l
 | [],k=>by simp [a02]
 | x :: l,k=>by
  simp only [a02,b2s,a2j hr (l:=l)];exact or_congr ⟨fun e=>by rw [e,hr],fun e=>by rw [<- e,hr]⟩ Iff.rfl
def aw.ren (ho:∀ k,o' (r k) = (o k).map (a6.ren r)) {h:HV} {u:Value}:aw c o' (h.ren r) u <-> aw (c.ren r) o h u:=by
 have hbox:∀ id,(∀ l,o' (r id) ≠ some (.box l)) <-> ∀ l,o id ≠ some (.box l):=fun id=>by
  rw [ho]
  cases hid:o id with
  | none=>simp
  | some ob =>
   cases ob with
   | nest e et es n m g pd=>cases pd <;> simp [a6.ren]
   | _=>simp [a6.ren]
 have hnest:∀ id (Q:TypeId -> TypeId -> Nat -> Nat -> (Nat -> Nat) -> (Nat -> Nat -> Nat -> PV) -> Prop),(∀ e et es n m g pd,o' (r id) = some (.nest e et es n m g pd) -> Q e et es n m g) <-> ∀ e et es n m g pd,o id = some (.nest e et es n m g pd) -> Q e et es n m g:=fun id Q=>by
  rw [ho];constructor
  · intro h e et es n m g pd hid
    rw [hid] at h
    cases pd with
    | none=>exact h _ _ _ _ _ _ none rfl
    | some p=>exact h _ _ _ _ _ _ (some (r p.1,p.2)) rfl
  intro h e et es n m g pd hid
  cases ho1:o id with
  | none=>rw [ho1] at hid;cases hid
  | some ob =>
   rw [ho1] at hid h
   cases ob with
   | nest e0 et0 es0 n0 m0 g0 pd0 =>
    cases pd0 with
    | none=>simp only [b31,a6.ren,b2g,a6.nest.injEq] at hid;obtain ⟨rfl,rfl,rfl,rfl,rfl,rfl,_⟩:=hid;exact h _ _ _ _ _ _ _ rfl
    | some p=>simp only [b31,a6.ren,b2g,a6.nest.injEq] at hid;obtain ⟨rfl,rfl,rfl,rfl,rfl,rfl,_⟩:=hid;exact h _ _ _ _ _ _ _ rfl
   | _=>simp [a6.ren] at hid
 have hdim:∀ id (Q:Nat -> TypeId -> Nat -> Prop),(∀ ob s e n,o' (r id) = some ob -> ob.dim = some (s,e,n) -> Q s e n) <-> ∀ ob s e n,o id = some ob -> ob.dim = some (s,e,n) -> Q s e n:=fun id Q=>by
  rw [ho]
  cases hid:o id with
  | none=>simp
  | some ob =>
   constructor
   · rintro g ob1 s e n h1 h2
     simp only [b2g] at h1;subst h1;exact g _ s e n rfl (by rw [a6.ren_dim];exact h2)
   rintro g ob1 s e n h1 h2;simp only [b31,b2g] at h1;subst h1;exact g _ s e n rfl (by rw [a6.ren_dim] at h2;exact h2)
 induction h generalizing u with
 | p x=>exact Iff.rfl
 | clo g k caps ih =>
  simp only [HV.ren,aw];exact exists_congr fun cs=>and_congr Iff.rfl (and_congr Iff.rfl (forall_congr' fun i=>forall_congr' fun hi=>exists_congr fun x=>and_congr Iff.rfl (ih i)))
 | ref id k =>
  simp only [HV.ren,aw];exact and_congr Iff.rfl (and_congr (hbox id) (hdim id _))
 | ptr id off =>
  simp only [HV.ren,aw];refine and_congr Iff.rfl (and_congr ?_ ?_)
  · rw [ho]
    cases hid:o id with
    | none=>simp
    | some ob =>
     constructor
     · rintro g ob1 d h1 h2
       simp only [b2g] at h1;subst h1;exact g _ d rfl (by rw [a6.ren_dim];exact h2)
     rintro g ob1 d h1 h2;simp only [b31,b2g] at h1;subst h1;exact g _ d rfl (by rw [a6.ren_dim] at h2;exact h2)
  rw [ho]
  cases hid:o id with
  | none=>simp
  | some ob =>
   cases ob with
   | nest e et es n m g pd=>cases pd <;> simp [a6.ren]
   | _=>simp [a6.ren,Ctx.ren]
 | eptr id k i j =>
  simp only [HV.ren,aw];exact and_congr Iff.rfl (and_congr (hbox id) (hdim id _))
 | win id k i m =>
  simp only [HV.ren,aw];exact and_congr Iff.rfl (and_congr (hbox id) (hdim id _))
 | row id i k =>
  simp only [HV.ren,aw];exact and_congr Iff.rfl (hnest id fun e et es n m g=>i < n /\ k <= m i /\ (k = m i -> u = c.rows (r id) i))
 | pin id k ad cap =>
  simp only [HV.ren,aw];exact and_congr Iff.rfl (and_congr (hbox id) (hdim id _))
 | rptr id i k a j =>
  simp only [HV.ren,aw];exact and_congr Iff.rfl (hnest id fun e et es n m g=>i < n /\ k <= m i /\ (k = m i -> a < k -> ∃ b off cap,c.rows (r id) i = .slice (some ⟨b,off,none⟩) k cap /\ u = .pointer (some ⟨b,off + (a * es + j),none⟩)))
def aq.ren (ho:∀ k,o' (r k) = (o k).map (a6.ren r)):∀ {xs:List HV} {us:List Value},aq c o' (agd r xs) us <-> aq (c.ren r) o xs us
 | [],[]=>Iff.rfl
 | _ :: _,_ :: _=>and_congr (aw.ren ho) (aq.ren ho)
 | [],_ :: _=>Iff.rfl
 | _ :: _,[]=>Iff.rfl
def dv.ren (ho:∀ k,o' (r k) = (o k).map (a6.ren r)) {x:HC} {u:Value}:dv c o' (x.ren r) u <-> dv (c.ren r) o x u:=by
 cases x with
 | one h=>exact aw.ren ho
 | agg l=>exact exists_congr fun us=>and_congr Iff.rfl (aq.ren ho)
def b7.ren (ho:∀ k,o' (r k) = (o k).map (a6.ren r)):∀ {xs:List HC} {us:List Value},b7 c o' (a3o r xs) us <-> b7 (c.ren r) o xs us
 | [],[]=>Iff.rfl
 | _ :: _,_ :: _=>and_congr (dv.ren ho) (b7.ren ho)
 | [],_ :: _=>Iff.rfl
 | _ :: _,[]=>Iff.rfl
def ah.ren (ho:∀ k,o' (r k) = (o k).map (a6.ren r)) {x:HR} {u:Value}:ah c o' (x.ren r) u <-> ah (c.ren r) o x u:=by
 cases x with
 | v x=>exact dv.ren ho
 | tup l=>exact exists_congr fun us=>and_congr Iff.rfl (b7.ren ho)
def ck.ren (hr:∀ k,r (r k) = k) (ho:∀ k,o' (r k) = (o k).map (a6.ren r)) {base:Nat} {w:World} {id:Nat} {ob:a6}:ck base c o' w (r id) (ob.ren r) <-> ck base (c.ren r) o w id ob:=by
 cases ob with
 | mp kk n f=>exact Iff.rfl
 | bld fr T e l=>exact Iff.rfl
 | ex d v b x=>exact Iff.rfl
 | bun B=>exact Iff.rfl
 | nest e et es n m g pd =>
  cases pd with
  | none=>exact ⟨fun ⟨q1,q2,q3,q4,q5,q6,q7⟩=>⟨q1,q2,q3,q4,q5,q6,q7.imp (fun z=>z) fun ⟨xs,q7,q8,_⟩=>⟨xs,q7,q8,fun p hp=>by cases hp⟩⟩,fun ⟨q1,q2,q3,q4,q5,q6,q7⟩=>⟨q1,q2,q3,q4,q5,q6,q7.imp (fun z=>z) fun ⟨xs,q7,q8,_⟩=>⟨xs,q7,q8,fun p hp=>by cases hp⟩⟩⟩
  | some p =>
   refine ⟨fun ⟨q1,q2,q3,q4,q5,q6,q7⟩=>⟨q1,q2,q3,q4,q5,q6,q7.imp (fun z=>z) fun ⟨xs,q7,q8,q9⟩=>⟨xs,q7,q8,fun p' hp=>?_⟩⟩,fun ⟨q1,q2,q3,q4,q5,q6,q7⟩=>⟨q1,q2,q3,q4,q5,q6,q7.imp (fun z=>z) fun ⟨xs,q7,q8,q9⟩=>⟨xs,q7,q8,fun p' hp=>?_⟩⟩⟩
   · cases hp
     obtain ⟨x,hx,hr⟩:=q9 _ rfl;exact ⟨x,hx,(aw.ren ho (h:=.ref p.1 p.2)).1 hr⟩
   cases hp;obtain ⟨x,hx,hr⟩:=q9 _ rfl;exact ⟨x,hx,(aw.ren ho (h:=.ref p.1 p.2)).2 hr⟩
 | box l =>
  simp only [a6.ren,ck,aq.ren ho];exact Iff.rfl
 | arr wr s e n f=>exact Iff.rfl
 | arrh s e n ms f =>
  simp only [a6.ren,ck,aw.ren ho];refine and_congr Iff.rfl (and_congr Iff.rfl (and_congr ?_ Iff.rfl));constructor
  · intro g i j k hi hj hk
    have:=g i j (r k) hi hj ((HV.ren_men hr).2 (by rw [hr];exact hk));rw [a2j hr,hr] at this;exact this
  intro g i j k hi hj hk;exact (a2j hr).2 (g i j (r k) hi hj ((HV.ren_men hr).1 hk))
theorem Mem.ren (hr:∀ k,r (r k) = k) (ho:∀ k,o' (r k) = (o k).map (a6.ren r)) {w:World}:Mem c o' w <-> Mem (c.ren r) o w:=by
 have back:∀ id ob,o id = some ob -> o' (r id) = some (ob.ren r):=fun id ob h=>by rw [ho,h];rfl
 have forth:∀ id ob,o' id = some ob -> ∃ ob',o (r id) = some ob' /\ ob = ob'.ren r:=fun id ob h=>by
  have:=ho (r id);rw [hr,h] at this
  cases hid:o (r id) with
  | none=>rw [hid] at this;cases this
  | some ob'=>rw [hid] at this;exact ⟨ob',rfl,by simpa using this⟩
 constructor
 · intro h
   refine ⟨fun id ob hob=>(ck.ren hr ho).1 (h.objs _ _ (back id ob hob)),fun i i' ob ob' b h1 h2 h3 h4=>?_,h.imm,fun id ob b h1 h2=>h.sep _ _ b (back id ob h1) h2⟩;have:=h.inj _ _ _ _ b (back i ob h1) (back i' ob' h2) h3 h4;have:=congrArg r this;rwa [hr,hr] at this
 intro h;refine ⟨fun id ob hob=>?_,fun i i' ob ob' b h1 h2 h3 h4=>?_,h.imm,fun id ob b h1 h2=>?_⟩
 · obtain ⟨ob',q1,rfl⟩:=forth id ob hob
   have:=(ck.ren hr ho).2 (h.objs _ _ q1);rwa [hr] at this
 · obtain ⟨x,q1,_⟩:=forth i ob h1
   obtain ⟨x',q1',_⟩:=forth i' ob' h2;have:=h.inj _ _ _ _ b q1 q1' (by show c.blk (r (r i)) b;rw [hr];exact h3) (by show c.blk (r (r i')) b;rw [hr];exact h4);have:=congrArg r this;rwa [hr,hr] at this
 obtain ⟨x,q1,_⟩:=forth id ob h1;exact h.sep _ _ b q1 (by show c.blk (r (r id)) b;rw [hr];exact h2)
end
section
variable {r:Nat -> Nat}
def abx:∀ {l:List Nat} {k:Nat},k ∈ a02 r l -> ∃ j ∈ l,k = r j
 | x :: l,k,h=>by
  rcases b2s.1 h with h | h
  · exact ⟨x,by simp,h⟩
  obtain ⟨j,hj,e⟩:=abx h;exact ⟨j,by simp [hj],e⟩
theorem Ctx.ren_ren (hr:∀ k,r (r k) = k) (c:Ctx):(c.ren r).ren r = c:=by
 unfold Ctx.ren;simp [hr]
def ci.ren {P:Program} (hr:∀ k,r (r k) = k) {f:FuncId} {args:List HC} {o1 o2:List (Nat × a6)} {res:HR} {fx:List Nat} (h:ci P f args o1 res o2 fx):ci P f (a3o r args) (x4 r o1) (res.ren r) (x4 r o2) (a02 r fx):=by
 intro w c us hm hargs;have ho1:=zu hr o1;have ho2:=zu hr o2;refine (h w (c.ren r) us ((Mem.ren hr ho1).1 hm) ((b7.ren ho1).1 hargs)).mono ?_;rintro e w' ⟨v,c',rfl,h1,h2,h3,h4,h5,h6⟩
 have forth:∀ (l:List (Nat × a6)) id ob,lk (x4 r l) id = some ob -> ∃ ob',lk l (r id) = some ob' /\ ob = ob'.ren r:=fun l id ob h=>by
  have:=zu hr l (r id);rw [hr,h] at this
  cases hid:lk l (r id) with
  | none=>rw [hid] at this;cases this
  | some ob'=>rw [hid] at this;exact ⟨ob',rfl,by simpa using this⟩
 have back:∀ (l:List (Nat × a6)) id ob,lk l id = some ob -> lk (x4 r l) (r id) = some (ob.ren r):=fun l id ob h=>by rw [zu hr,h];rfl
 have hcc:=Ctx.ren_ren hr c';refine ⟨v,c'.ren r,rfl,(ah.ren ho2).2 (by rw [hcc];exact h1),(Mem.ren hr ho2).2 (by rw [hcc];exact h2),h3,fun b hb hno=>h4 b hb fun id ob hid hbk=>hno (r id) _ (back o1 id ob hid) hbk,fun id ob b hid hbk=>?_,fun id hid=>?_⟩
 · obtain ⟨x,q1,_⟩:=forth o2 id ob hid
   rcases h5 (r id) x b q1 hbk with e | ⟨i0,ob0,e1,e2⟩
   · exact .inl e
   exact .inr ⟨r i0,_,back o1 i0 ob0 e1,e2⟩
 obtain ⟨j,hj,rfl⟩:=abx hid
 rcases h6 j hj with e | ⟨l,l',e1,e2,e3⟩ | ⟨oa,ob',s,e,n,n',e1,e1',e2,e2',e3,e4,e5⟩
 · exact .inl (by rw [ho2,e];rfl)
 · exact .inr (.inl ⟨_,_,back o1 j _ e1,back o2 j _ e2,by show c'.own (r (r j)) = _;rw [hr];exact e3⟩)
 exact .inr (.inr ⟨_,_,s,e,n,n',back o1 j _ e1,by rw [a6.ren_dim];exact e1',back o2 j _ e2,by rw [a6.ren_dim];exact e2',e3,fun hn=>by show c'.own (r (r j)) = _;rw [hr];exact e4 hn,fun ea et es na ma ga pd hb=>by
  obtain ⟨pd',hb'⟩:∃ pd',ob' = .nest ea et es na ma ga pd':=by
   cases ob' with
   | nest e0 et0 es0 n0 m0 g0 pd0 =>
    cases pd0 with
    | none=>simp only [a6.ren,a6.nest.injEq] at hb;obtain ⟨rfl,rfl,rfl,rfl,rfl,rfl,_⟩:=hb;exact ⟨_,rfl⟩
    | some p=>simp only [a6.ren,a6.nest.injEq] at hb;obtain ⟨rfl,rfl,rfl,rfl,rfl,rfl,_⟩:=hb;exact ⟨_,rfl⟩
   | _=>simp [a6.ren] at hb
  obtain ⟨e0,et0,n0,m0,g0,pd0,r1,r2,r3⟩:=e5 _ _ _ _ _ _ _ hb';subst r1;refine ⟨e0,et0,n0,m0,g0,pd0.map fun p=>(r p.1,p.2),by cases pd0 <;> rfl,r2,fun i hi=>⟨(r3 i hi).1,fun hm=>?_⟩⟩;show c'.rows (r (r j)) i = _;rw [hr]
  exact (r3 i hi).2 hm⟩)
def ci.swap {P:Program} (x y:Nat) {f:FuncId} {args:List HC} {o1 o2:List (Nat × a6)} {res:HR} {fx:List Nat} (h:ci P f args o1 res o2 fx):ci P f (a3o (swp x y) args) (x4 (swp x y) o1) (res.ren (swp x y)) (x4 (swp x y) o2) (a02 (swp x y) fx):=h.ren (ar2 x y)
end
end
section
open Go.RowKit
def ci.pure {P:Program} {f:FuncId} {args:List PC} {l:List HC} {o2:List (Nat × a6)} {q:Prop} {vs:List PC} (h:ci P f (args.map PC.toH) [] (agl l) o2 []) (hv:mb (lk o2) l = some (q,vs)) (hq:q):aa P f args (af vs):=by
 intro w imm us htab himm hargs
 let c:Ctx:={ old:=(imm,dg w,(fun _=>undef),(fun _=>none),fun _ _=>undef),imm:=imm,tab:=htab,own:=fun _=>undef,blk:=fun _=>noB,rows:=fun _ _=>undef }
 have hmem:Mem c (lk []) w:=⟨(fun id ob ho=>by cases ho),(fun i i' ob ob' b ho=>by cases ho),himm,(fun id ob b ho=>by cases ho)⟩;refine (h w c us hmem (b7.of_P hargs)).mono ?_;rintro e w' ⟨v,c',rfl,hr,hm,hb,hfr,hbk,_⟩;have hfr':∀ b,b < w.heap.size -> w'.heap[b]? = w.heap[b]? /\ c'.imm b = imm b:=fun b hlt=>hfr b hlt fun id ob ho=>by cases ho
 let c2:Ctx:={ old:=(imm,dg w,c'.own,lk o2,c'.rows),imm:=c'.imm,tab:=c'.tab,own:=c'.own,blk:=c'.blk,rows:=c'.rows }
 have hfn:∀ b,c2.frm b ≠ none -> b < w.heap.size:=fun b hne=>by
  have hne:w.heap[b]? ≠ none:=hne;exact Nat.lt_of_not_le fun hle=>hne (b4a hle)
 have hrel:ae w 0 c2 ⟨fun _=>none,lk o2⟩ { tmps:=#[],defers:=[] } w':=by
  refine ⟨o0.nil _ _ _ _,rfl,hb,(fun d x hx=>by cases hx),fun id ob ho=>?_,hm.inj,hm.imm,hm.sep,fun b hne=>(hfr' b (hfn b hne)).2,fun b ob hbo=>?_,fun id ob b ho hbb=>?_,fun id _=>Evo.of_same rfl rfl⟩
  · exact (hm.objs id ob ho).keep (Imm.le.refl c'.imm) rfl rfl (fun _ _=>Evo.of_same rfl rfl) fun _ _=>rfl
  · have hbo:w.heap[b]? = some ob:=hbo
    rw [(hfr' b (b2m.1 hbo).1).1];exact hbo
  show w.heap[b]? = none
  rcases hbk id ob b ho hbb with e | ⟨_,_,e,_⟩
  · exact b4a e
  cases e
 let m:Imm:=fun b=>if b < w.heap.size then imm b else w'.heap[b]?
 have hseen:v6 w c2 w' m:=by
  refine ⟨fun b ob hbo=>?_,fun b hb' _=>?_⟩
  · have hbo:c'.imm b = some ob:=hbo
    by_cases hlt:b < w.heap.size
    · simp only [m,hlt,if_true]
      rw [<- (hfr' b hlt).2];exact hbo
    simp only [m,hlt,if_false];exact hm.imm b ob hbo
  have hb':w.heap[b]? = none:=hb';have:¬ b < w.heap.size:=fun hlt=>by simp [hlt] at hb'
  simp [m,this]
 have hrep:ah c2 (lk o2) (agl l) v:=ah.evo (c:=c') (o:=lk o2) (Imm.le.refl c'.imm) (fun _ _=>Evo.of_same rfl rfl) hr;refine ⟨v,m,rfl, ?_,fun b hlt=>by simp [m,hlt],fun b ob hbo=>?_,⟨hb.os,hb.tape,hb.output,hb.size,fun k hk=>(hfr' k hk).1,hb.drawn⟩⟩
 · match l,hv,hrep with
   | [],hv,hrep =>
    obtain ⟨us',rfl,hl⟩:=hrep;simp only [mb,b2g,b2l] at hv;obtain ⟨_,rfl⟩:=hv;exact ⟨us',rfl,by cases us' with | nil=>trivial | cons=>exact hl.elim⟩
   | [x],hv,hrep =>
    have hl:b7 c2 (lk o2) [x] [v]:=⟨hrep,trivial⟩;have:=o4 hrel hseen hl hv hq
    match vs,this with
    | [y],this=>exact this.1
    | [],this=>exact this.elim
    | _ :: _ :: _,this=>exact this.2.elim
   | x :: y :: r,hv,hrep =>
    obtain ⟨us',rfl,hl⟩:=hrep;have:=o4 hrel hseen hl hv hq
    match vs,us',this with
    | a :: b :: t,us',this=>exact ⟨us',rfl,this⟩
    | [],us',this=>cases us' with | nil=>exact hl.elim | cons=>exact this.elim
    | [a],us',this =>
     match us',hl,this with
     | [],hl,_=>exact hl.elim
     | [_],hl,_=>exact hl.2.elim
     | _ :: _ :: _,_,this=>exact this.2.elim
 by_cases hlt:b < w.heap.size
 · simp only [m,hlt,if_true] at hbo
   rw [(hfr' b hlt).1];exact himm b ob hbo
 simpa [m,hlt] using hbo
end
section
open Go.RowKit
section
variable {ro:Option Nat} {P:Program} {E:Env} {nt:Nat} {ops:Array Oper} {i:Nat} {o:Oper} {st:HSt} {T:List Tr} {sf:S} {L:List Nat} {K:List Tr -> HSt -> Prop}
def aja (b:ByteArray) (i:Nat):0 <= bn b i /\ bn b i <= 255:=by
 unfold bn;have:=(b.data.toList.getD i 0).toNat_lt;omega
def a9b (b:ByteArray) (i:Nat):(fw true .i64 (bn b i)).1:=by
 have:=aja b i;simp only [fw,inR,uw,a07];omega
section
variable {gb:Bool}
def rq {out:Out} (hi:ops[i]? = some o) (hw:al ops st.den o = some gb) (hd:c4 nt o.dst = true) (hq':hq E true st.den.o (ev st.den) o.op = some out) (hg:gb = true) (hT:Reg P E nt ops L (st.after o.dst (some out.val) []) fun T sf=>K (⟨i,a2g true out.val.ids,looks st.den o,bg st.den o.dst [],dp E st.den o⟩ :: T) sf) (hp:out.pre:=by first | exact trivial | (simp only [fw,inR,uw,a07];omega) | exact a9b _ _ | exact ⟨trivial,trivial⟩ | exact ⟨trivial,b2k rfl⟩ | (try dsimp only) <;> ((repeat' apply And.intro) <;> first | trivial | rfl | omega | (simp only [fu,bo];omega) | assumption | exact b2k rfl)):
 Reg P E nt ops (i :: L) st K:=bi true hi hw hd hq' hg hp hT
def rqw {out:Out} (hi:ops[i]? = some o) (hw:al ops st.den o = some gb) (hd:c4 nt o.dst = true) (hq':hq E false st.den.o (ev st.den) o.op = some out) (hg:gb = true) (hT:Reg P E nt ops L (st.after o.dst (some out.val) []) fun T sf=>K (⟨i,a2g false out.val.ids,looks st.den o,bg st.den o.dst [],dp E st.den o⟩ :: T) sf) (hp:out.pre:=by first | exact trivial | (simp only [fw,inR,uw,a07];omega) | exact a9b _ _ | exact ⟨trivial,trivial⟩ | exact ⟨trivial,b2k rfl⟩ | (try dsimp only) <;> ((repeat' apply And.intro) <;> first | trivial | rfl | omega | (simp only [fu,bo];omega) | assumption | exact b2k rfl)):
 Reg P E nt ops (i :: L) st K:=bi false hi hw hd hq' hg hp hT
def rm (id:Nat) {nw:New} (hi:ops[i]? = some o) (hw:al ops st.den o = some gb) (hd:c4 nt o.dst = true) (hq':ha E (ev st.den) id o.op = some nw) (hn:o7 id st = true) (hg:gb = true) (hT:Reg P E nt ops L (st.after o.dst (some nw.val) [(id,some nw.ob)]) fun T sf=>K (⟨i,⟨id,false,true, .tup [],[id],[id],nw.val.ids ++ nw.ob.ids⟩,looks st.den o,bg st.den o.dst [(id,some nw.ob)],none⟩ :: T) sf) (hp:nw.pre:=by first | exact trivial | (try dsimp only) <;> ((repeat' apply And.intro) <;> first | trivial | rfl | omega | assumption)):Reg P E nt ops (i :: L) st K:=sc id hi hw hd hq' hn hg hp hT
def rs {u:Upd} (hi:ops[i]? = some o) (hw:al ops st.den o = some gb) (hd:c4 nt o.dst = true) (hq':hs E st.den.o (ev st.den) o.op = some u) (hg:gb = true) (hT:Reg P E nt ops L (st.after o.dst none [(u.id,some u.ob)]) fun T sf=>K (⟨i,⟨0,false,true, .tup [],[u.id],[],u.ob.ids⟩,looks st.den o,bg st.den o.dst [(u.id,some u.ob)],dp E st.den o⟩ :: T) sf) (hp:u.pre:=by first | exact b2k rfl | (try dsimp only) <;> ((repeat' apply And.intro) <;> first | trivial | rfl | omega | (simp only [fu,bo];omega) | assumption | exact b2k rfl)):Reg P E nt ops (i :: L) st K:=a95 hi hw hd hq' hg hp hT
def ra (id:Nat) (wb:Bool) {u:App} (hi:ops[i]? = some o) (hw:al ops st.den o = some gb) (hd:c4 nt o.dst = true) (hq':hap E st.den.o (ev st.den) id wb o.op = some u) (hn:(!u.new || o7 id st) = true) (hg:gb = true) (hT:Reg P E nt ops L (st.after o.dst (some u.val) [(u.id,some u.ob)]) fun T sf=>K (⟨i,⟨id,wb,true, .tup [],[u.id],if u.new then [id] else [],u.val.ids ++ u.ob.ids⟩,looks st.den o,bg st.den o.dst [(u.id,some u.ob)],none⟩ :: T) sf) (hp:u.pre:=by (try dsimp only) <;> ((repeat' apply And.intro) <;> first | trivial | rfl | assumption | omega | (simp only [b41];omega) | (simp only [fu,bo];omega) | exact Or.inl rfl | exact Or.inr rfl | exact (fun _=>Or.inl rfl) | exact (fun _=>Or.inr (b2k rfl)) | exact b2k rfl | (intro h;cases h;done))):Reg P E nt ops (i :: L) st K:=w9 id wb hi hw hd hq' hn hg hp hT
variable {b:Bool}
def rc {cl:Call} {f:FuncId} {fst caps args vs:List PC} {p:Prop} {res:PR} (hi:ops[i]? = some o) (hw:al ops st.den o = some gb) (hd:c4 nt o.dst = true) (ho:o.op = .call cl) (hc:callee (ev st.den) cl = some (f,fst,caps)) (hv:fv st.den.o (ev st.den) cl.args.toList = some (p,vs,b)) (hf:goodFn P f) (hpure:aa P f args res) (hco:CoL (fst ++ (vs ++ caps)) args) (hb:(!b || res.flat) = true) (hg:gb = true) (hT:Reg P E nt ops L (st.after o.dst (some res.toH) []) fun T sf=>K (⟨i,⟨0,false,true,res,[],[],[]⟩,looks st.den o,bg st.den o.dst [],none⟩ :: T) sf) (hp:p:=by (try dsimp only) <;> ((repeat' apply And.intro) <;> first | trivial | rfl | omega | assumption)):Reg P E nt ops (i :: L) st K:=aeb hi hw hd ho hc hv hf hpure hco hg hp hb hT
def rv {sr ds:TypeId} {x:Operand} {b:ByteArray} (hi:ops[i]? = some o) (hw:al ops st.den o = some gb) (hd:c4 nt o.dst = true) (ho:o.op = .convert sr ds x) (hcv:a3z E (ev st.den) sr ds x = some b) (hg:gb = true) (hT:Reg P E nt ops L (st.after o.dst (some (.v (.one (.p (.sl b.size 1 false (ah3 b)))))) []) fun T sf=>K (⟨i,⟨0,false,true, .tup [],[],[],[]⟩,looks st.den o,bg st.den o.dst [],none⟩ :: T) sf) (hp:b.size <= maxLen:=by first | assumption | (unfold maxLen;omega)):Reg P E nt ops (i :: L) st K:=apr hi hw hd ho hcv hg hp hT
def rk (hi:ops[i]? = some o) (hw:al ops st.den o = some gb) (hd:c4 nt o.dst = true) (hg:gb = false) (hT:Reg P E nt ops L (st.after o.dst (some (.tup [])) []) fun T sf=>K (⟨i,a2g true [],looks st.den o,bg st.den o.dst [],none⟩ :: T) sf):Reg P E nt ops (i :: L) st K:=aew hi hw hd hg hT
def atw {out:Out} {id:Nat} (hi:ops[i]? = some o) (hw:al ops st.den o = some gb) (hd:c4 nt o.dst = true) (hq':rt E st.den.o (ev st.den) o.op = some (out,id)) (hg:gb = true) (hT:Reg P E nt ops L (st.after o.dst (some out.val) [(id,none)]) fun T sf=>K (⟨i,⟨0,false,true, .tup [],[id],[],[]⟩,looks st.den o,bg st.den o.dst [(id,none)],none⟩ :: T) sf) (hp:out.pre:=by (try dsimp only) <;> ((repeat' apply And.intro) <;> first | trivial | rfl | omega | (simp only [fu,bo];omega) | assumption | exact b2k rfl)):Reg P E nt ops (i :: L) st K:=asy hi hw hd hq' hg hp hT
def ab {w:Bool} (hi:ops[i]? = some o) (hw:al ops st.den o = some (b == w)) (ht:b = true -> Reg P E nt ops (i :: L) st K) (hf:b = false -> Reg P E nt ops (i :: L) st K):Reg P E nt ops (i :: L) st K:=by
 cases hb:b with
 | true=>exact ht hb
 | false=>exact hf hb
def gtt (h:b = true):(b == true) = true:=by subst h;rfl
def gff (h:b = false):(b == false) = true:=by subst h;rfl
def gtf (h:b = true):(b == false) = false:=by subst h;rfl
def gft (h:b = false):(b == true) = false:=by subst h;rfl
end
end
section
variable {b v x y:Bool}
def ao (h:b = false) (e:(bif b then x else y) = v):y = v:=by subst h;exact e
def b4 (h:b = true) (e:(bif b then x else y) = v):x = v:=by subst h;exact e
def ta (h:b = false) (e:y = v):(bif b then x else y) = v:=by subst h;exact e
def wv (h:b = true) (e:x = v):(bif b then x else y) = v:=by subst h;exact e
def ec (e:(!x) = true):x = false:=by simpa using e
def eg (e:(!x) = false):x = true:=by simpa using e
def coi {k:IntKind} {a b:Int} (h:a = b):CoR (az (.raw (.int k a))) (az (.raw (.int k b))):=CoR.of_eq (by rw [h])
def cob {a:Bool} (h:a = b):CoR (az (.raw (.bool a))) (az (.raw (.bool b))):=CoR.of_eq (by rw [h])
def coS {a b:ByteArray} (h:a = b):CoR (az (.raw (.string a))) (az (.raw (.string b))):=CoR.of_eq (by rw [h])
theorem CoC.of_eq {x y:PC} (h:x = y):CoC x y:=h ▸ CoC.refl x
theorem CoL.of_eq {x y:List PC} (h:x = y):CoL x y:=h ▸ CoL.refl x
def cci {k:IntKind} {a b:Int} (h:a = b):CoC (.one (.raw (.int k a))) (.one (.raw (.int k b))):=CoC.of_eq (by rw [h])
def ccb {a:Bool} (h:a = b):CoC (.one (.raw (.bool a))) (.one (.raw (.bool b))):=CoC.of_eq (by rw [h])
theorem CoC.one {x y:PV} (h:CoP x y):CoC (.one x) (.one y):=h
def yn:List PV -> List PV -> Prop
 | [],[]=>True
 | x :: xs,y :: ys=>CoP x y /\ yn xs ys
 | _,_=>False
def yn.refl:∀ (l:List PV),yn l l
 | []=>trivial
 | x :: l=>⟨CoP.refl x,yn.refl l⟩
def yn.sound {m:Imm}:∀ {xs ys:List PV} {us:List Value},yn xs ys -> dc m xs us -> dc m ys us
 | [],[],[],_,_=>trivial
 | _ :: _,_ :: _,_ :: _,h,k=>⟨h.1 _ _ k.1,yn.sound h.2 k.2⟩
 | [],_ :: _,_,h,_=>h.elim
 | _ :: _,[],_,h,_=>h.elim
 | [],[],_ :: _,_,h=>h.elim
 | _ :: _,_ :: _,[],_,h=>h.elim
theorem CoC.agg {l l':List PV} (h:yn l l'):CoC (.agg l) (.agg l'):=by
 rintro m u ⟨us,e,hl⟩;exact ⟨us,e,h.sound hl⟩
def lf {α:Type} [Inhabited α] (c:α -> Nat -> PV) (l:List α):Nat -> Nat -> PV:=fun i j=>c (l.getD i default) j
def psl {α:Type} [Inhabited α] (s:Nat) (c:α -> Nat -> PV) (l:List α):PV:=.sl l.length s false (lf c l)
variable {cl:Bool} {s:Nat} {α:Type} {c:α -> Nat -> PV} {l:List α}
def a0t [Inhabited α] {k:Nat} (hk:k <= l.length):CoP (.sl k s cl (lf c l)) (psl s c (l.take k)):=by
 refine CoP.sl (by simp [hk]) (.inl rfl) (fun h=>by cases h) fun i j hi hj=>CoP.of_eq ?_;simp only [lf,List.getD,b3d,hi,if_true]
def akt [Inhabited α] {wr wr':Bool} {e:TypeId} {m:Nat} {g:Nat -> Nat -> PV} (l':List α) (hw:wr' = true -> wr = true) (hm:m = l'.length) (hg:∀ i j,i < l'.length -> j < s -> CoP (g i j) (lf c l' i j)):
 CoO (.arr wr s e (l.length + m) (d8 l.length (lf c l) g)) (.arr wr' s e (l ++ l').length (lf c (l ++ l'))):=by
 subst hm;refine ⟨hw,rfl,rfl,by simp,fun i j hi hj=>?_⟩;unfold d8;by_cases h:i < l.length
 · rw [if_pos h]
   refine CoP.of_eq ?_;simp only [lf,List.getD,b4q h]
 rw [if_neg h];have:=hg (i - l.length) j b5h hj;have e:lf c (l ++ l') i j = lf c l' (i - l.length) j:=by simp only [lf,List.getD,b4k (Nat.le_of_not_lt h)]
 rw [e];exact this
variable {f:Nat -> Nat -> PV}
def aem [Inhabited α]:CoP (.sl (0 + l.length) s cl (d8 0 f (lf c l))) (psl s c l) :=
 CoP.sl (b30 _).symm (.inl rfl) (fun h=>by cases h) fun i j _ _=>CoP.of_eq (by simp [d8])
def li [Inhabited α] {wr wr':Bool} {i:Nat} {e:TypeId} {g:Nat -> Nat -> PV} (hw:wr' = true -> wr = true) (hg:∀ j,j < s -> CoP (g 0 j) (lf c l i j)):
 CoO (.arr wr s e (i + 1) (d8 i (lf c l) g)) (.arr wr' s e (i + 1) (lf c l)):=by
 refine ⟨hw,rfl,rfl,rfl,fun a j ha hj=>?_⟩;unfold d8;by_cases h:a < i
 · rw [if_pos h];exact CoP.refl _
 obtain rfl:a = i:=by omega
 rw [if_neg h,Nat.sub_self];exact hg j hj
def kx {s':Nat} {f':Nat -> Nat -> PV}:CoP (.sl 0 s cl f) (.sl 0 s' false f'):=CoP.sl rfl (.inr rfl) (fun h=>by cases h) fun i j hi _=>absurd hi (b2o i)
def as7 [Inhabited α] {x:α} (h:∀ j,j < s -> CoP (f 0 j) (c x j)):CoP (.sl 1 s cl f) (psl s c [x]) :=
 CoP.sl rfl (.inl rfl) (fun h=>by cases h) fun i j hi hj=>by
  obtain rfl:i = 0:=by omega
  exact h j hj
variable {P:Nat -> Prop}
def lt1 (h0:P 0):∀ j,j < 1 -> P j:=fun j hj=>by
 obtain rfl:j = 0:=by omega
 exact h0
def ava {P:Nat -> Nat -> Prop} (h:∀ j,j < s -> P 0 j):∀ i j,i < 1 -> j < s -> P i j:=fun i j hi hj=>by
 obtain rfl:i = 0:=by omega
 exact h j hj
def lt2 (h0:P 0) (h1:P 1):∀ j,j < 2 -> P j:=fun j hj=>by
 rcases j with _ | _ | j
 · exact h0
 · exact h1
 omega
def b0t (i0:Nat) (h:HV) (f:Nat -> Nat -> PV):Nat -> Nat -> HV:=fun i j=>if i = i0 /\ j = 1 then h else .p (f i j)
def ax {i:Nat} (h:∀ j,j < i -> P j) (hn:P i):∀ j,j < i + 1 -> P j:=fun j hj=>by
 rcases Nat.lt_succ_iff_lt_or_eq.1 hj with h1 | rfl
 · exact h j h1
 exact hn
def bh:∀ j,j < 0 -> P j:=fun j hj=>absurd hj (b2o j)
end
section
variable {α:Type} [Inhabited α] {p:α -> Bool} {l:List α} {i:Nat}
def a4v (hi:i < l.length) (h:p (l.getD i default) = false):l.all p = false:=by
 rw [List.all_eq_false];refine ⟨l[i],b2q hi, ?_⟩;simp only [List.getD,b2h hi,b3l] at h;simp [h]
def a51 (h:∀ j,j < l.length -> p (l.getD j default) = true):l.all p = true:=by
 rw [b3c];intro x hx;obtain ⟨j,hj,rfl⟩:=b35 hx;have:=h j hj;simpa only [List.getD,b2h hj,b3l] using this
def aoi (hi:i < l.length) (h:p (l.getD i default) = true):l.any p = true:=by
 rw [b3g];refine ⟨l[i],b2q hi, ?_⟩;simpa only [List.getD,b2h hi,b3l] using h
def ap0 (h:∀ j,j < l.length -> p (l.getD j default) = false):l.any p = false:=by
 rw [b3x];intro x hx;obtain ⟨j,hj,rfl⟩:=b35 hx;have:=h j hj;simp only [List.getD,b2h hj,b3l] at this;simp [this]
def idx (p:α -> Bool) (l:List α):Int:=match l.findIdx? p with | some i=>i | none=>-1
def a0k (hi:i < l.length) (hb:∀ j,j < i -> p (l.getD j default) = false) (h:p (l.getD i default) = true):idx p l = i:=by
 have:l.findIdx? p = some i:=by
  rw [b4d];refine ⟨hi, ?_,fun j hj=>?_⟩
  · simpa only [List.getD,b2h hi,b3l] using h
  have:=hb j hj;simp only [List.getD,b2h (Nat.lt_trans hj hi),b3l] at this;simp [this]
 simp [idx,this]
def a0w (h:∀ j,j < l.length -> p (l.getD j default) = false):idx p l = -1:=by
 have:l.findIdx? p = none:=by
  rw [List.findIdx?_eq_none_iff];intro x hx;obtain ⟨j,hj,rfl⟩:=b35 hx;have:=h j hj;simpa only [List.getD,b2h hj,b3l] using this
 simp [idx,this]
def gh {l l':List α} (hl:l.length = l'.length) (h:∀ j,j < l.length -> l.getD j default = l'.getD j default):l = l':=by
 refine List.ext_getElem hl fun j h1 h2=>?_;have:=h j h1;simpa only [List.getD,b2h h1,b2h h2,b3l] using this
end
def HSt.app (a b:HSt):HSt:=⟨a.t ++ b.t,a.o ++ b.o⟩
def a36:∀ {a b l:List (Nat × Option HR)},lm a l -> lm b l -> lm (a ++ b) l
 | [],_,_,_,h=>h
 | (_,some _) :: _,_,_,h,k=>⟨h.1,a36 h.2 k⟩
 | (_,none) :: r,b,l,h,k=>a36 (a:=r) (b:=b) (l:=l) h k
def a2q:∀ {a b l:List (Nat × Option a6)},ml a l -> ml b l -> ml (a ++ b) l
 | [],_,_,_,h=>h
 | (_,some _) :: _,_,_,h,k=>⟨h.1,a2q h.2 k⟩
 | (_,none) :: r,b,l,h,k=>a2q (a:=r) (b:=b) (l:=l) h k
theorem Sub.app {a b st:HSt} (h:Sub a st) (k:Sub b st):Sub (a.app b) st:=⟨a36 h.1 k.1,a2q h.2 k.2⟩
section
variable {ro:Option Nat} {P:Program} {nt:Nat} {st:HSt} {Q:Exit -> HSt -> Prop}
def aae {ι:Type} {body:Code} (K:HSt) (hK:Sub K st) (J:ι -> HSt) (p:ι -> Prop) (μ:ι -> Nat) (i0:ι) (h0:p i0) (hs:Sub (J i0) st) (round:∀ i,p i -> HW (ro:=ro) P nt body ((J i).app K) (a8o (fun i=>(J i).app K) p μ i Q)):HW (ro:=ro) P nt (.loop body) st Q :=
 are (fun i=>(J i).app K) p μ i0 h0 (hs.app hK) round
def abu {ι:Type} {x y:Code} (K:HSt) (hK:Sub K st) (J:ι -> HSt) (p:ι -> Prop) (h1:HW (ro:=ro) P nt x st (ao2 (fun i=>(J i).app K) p Q)) (h2:∀ i,p i -> HW (ro:=ro) P nt y ((J i).app K) Q):HW (ro:=ro) P nt (.seq x y) st Q :=
 vv (fun i=>(J i).app K) p h1 h2
section
variable {c:Code}
def a91 (K:HSt) (hK:Sub K st) (h:HW (ro:=ro) P nt c K Q):HW (ro:=ro) P nt c st Q:=akc K hK h
def ep (bx off id:Nat) (wr:Bool) {n s':Nat} {f':Nat -> Nat -> PV} {l:List HV} (s:Nat) (e:TypeId) (f:Nat -> Nat -> PV) (hs:0 < s) (hb:b6 st.o bx = some (.box l)) (hl:l[off]? = some (.p (.sl n s' true f'))) (hco:CoP (.sl n s' true f') (.sl n s true f)) (hwr:wr = false \/ n = 0) (hn:o7 id st = true) (hne:Nat.beq bx id = false) (h:HW (ro:=ro) P nt c ⟨st.t,(bx,some (.box (ap l off [.ref id n]))) :: (id,some (.arr wr s e n f)) :: st.o⟩ Q):HW (ro:=ro) P nt c st Q:=fun w0 m0 a w hr=>by
 obtain ⟨hnm,hno⟩:=jk hn;obtain ⟨cc,hold,hrr⟩:=hr;have hbi:bx ≠ id:=by rintro rfl;simp at hne
 obtain ⟨b0,C0,e0,p1,p2,p3,p4,p5⟩:=hrr.objs bx _ hb;obtain ⟨u,hu,hur⟩:=p5.get off _ hl;have hx:ag cc.imm (.sl n s true f) u:=hco _ _ hur;have hnm':n <= maxLen:=by obtain ⟨ad,cap,_,q1,q2,_⟩:=hx;omega
 have hfresh:=hrr.fresh id hnm hno (.arr wr s e n f) w u noB (Grw.refl w none) (fun b hb=>hb.elim) ⟨hs,hnm', .inr ⟨hwr,by simp,by simpa using hx⟩⟩;rw [<- om] at hfresh
 have hb':(HSt.den ⟨st.t,(id,some (.arr wr s e n f)) :: st.o⟩).o bx = some (.box l):=by
  simp only [HSt.den,ar,hbi,if_false];exact hb
 refine h w0 m0 a w ?_
 have hevo:∀ (c1:Ctx),c1.own = (fun k=>if k = id then u else cc.own k) -> Evo { old:=cc.old,imm:=cc.imm,tab:=cc.tab,own:=fun k=>if k = id then u else cc.own k,blk:=fun k=>if k = id then noB else cc.blk k,rows:=cc.rows } (HSt.den ⟨st.t,(id,some (.arr wr s e n f)) :: st.o⟩).o c1 ((HSt.den ⟨st.t,(id,some (.arr wr s e n f)) :: st.o⟩).setO bx (some (.box (ap l off [.ref id n])))).o bx:=fun c1 h1 =>
  .inr (.inl ⟨l,ap l off [.ref id n],hb',by simp [S.setO],by rw [h1]⟩)
 have hown:(fun k=>if k = bx then (fun k=>if k = id then u else cc.own k) bx else (fun k=>if k = id then u else cc.own k) k) = fun k=>if k = id then u else cc.own k:=by
  funext k;by_cases hk:k = bx
  · subst hk;simp
  simp [hk]
 have hw:=hfresh.write bx (.box l) hb' (.box (ap l off [.ref id n])) w ((fun k=>if k = id then u else cc.own k) bx) ((fun k=>if k = id then noB else cc.blk k) bx) none (Grw.refl w _) (fun _ e=>by cases e) (hevo _ (by exact hown)) (fun b hb=>.inl hb) (by
  refine ⟨b0,C0,e0,by simpa [hbi] using p1,by simpa [hbi] using p2,p3,p4, ?_⟩;have hoff:off < l.length:=(b40.1 hl).1;have hcl:=p5.length;refine aq.of_get ?_ fun k x u' hx' hu'=>?_
  · simp only [ap,b2v,b2y,b4l,b3q];omega
  have hx2:=hx';unfold ap at hx2;rw [bw l [HV.ref id n] off k b5v] at hx2;by_cases hk:k = off
  · subst hk
    simp at hx2;subst hx2;rw [hu] at hu';simp only [b2g] at hu';subst hu';refine ⟨ag.oneCell hx,fun l2=>by simp [S.setO,HSt.den,ar,Ne.symm hbi],fun ob1 s1 e1 n1 ho hd1=>?_⟩;simp only [S.setO,HSt.den,ar,Ne.symm hbi,if_false,if_true,b2g] at ho;subst ho;simp only [a6.dim,b2g,b2l] at hd1;obtain ⟨rfl,rfl,rfl⟩:=hd1;exact ⟨b2j _,fun _=>by simp [Ne.symm hbi]⟩
  rw [if_neg b5v] at hx2;obtain ⟨u2,hu2,hr2⟩:=p5.get k x hx2;rw [hu'] at hu2;simp only [b2g] at hu2;subst hu2;refine aw.evo (c:=cc) (o:=st.den.o) (Imm.le.refl cc.imm) (fun j hj=>?_) hr2
  have hji:j ≠ id:=by
   rintro rfl;exact hnm.2.1 bx _ hb ⟨x,List.mem_of_getElem? hx2,hj⟩
  by_cases hjb:j = bx
  · subst hjb;exact .inr (.inl ⟨l,ap l off [.ref id n],hb,by simp [S.setO],by simp [hji]⟩)
  exact Evo.of_same (by simp [S.setO,hjb,HSt.den,ar,hji]) (by simp [hjb,hji]))
 have e:HSt.den ⟨st.t,(bx,some (.box (ap l off [.ref id n]))) :: (id,some (.arr wr s e n f)) :: st.o⟩ = (HSt.den ⟨st.t,(id,some (.arr wr s e n f)) :: st.o⟩).setO bx (some (.box (ap l off [.ref id n]))):=by
  unfold HSt.den S.setO;simp only [S.mk.injEq,true_and];funext k;simp only [ar]
 rw [e];exact ⟨_,(by exact hold),hw⟩
variable {f:Nat -> Nat -> PV}
def df (d:Nat) {n s:Nat} {cl:Bool} (hd:b6 st.t d = some (az (.sl n s cl f))) (h:n <= 9223372036854775807 -> HW (ro:=ro) P nt c st Q):HW (ro:=ro) P nt c st Q:=fun w0 m0 a w hr=>by
 have hr':=hr;obtain ⟨cc,hold,hrr⟩:=hr';obtain ⟨ad,cap,_,h1,h2,_⟩:=hrr.tmps d _ hd;exact h (by simp only [maxLen] at h2;omega) w0 m0 a w hr
def awr (id off:Nat) {n s:Nat} {cl:Bool} {l:List HV} (hb:b6 st.o id = some (.box l)) (hl:l[off]? = some (.p (.sl n s cl f))) (h:n <= 9223372036854775807 -> HW (ro:=ro) P nt c st Q):HW (ro:=ro) P nt c st Q:=fun w0 m0 a w hr=>by
 have hr':=hr;obtain ⟨cc,hold,hrr⟩:=hr';obtain ⟨b,C,e,_,_,_,_,q5⟩:=hrr.objs id _ hb;obtain ⟨u,_,ad,cap,_,h1,h2,_⟩:=q5.get off _ hl;exact h (by simp only [maxLen] at h2;omega) w0 m0 a w hr
def afr (id:Nat) {n s:Nat} {wr:Bool} {e:TypeId} (hb:b6 st.o id = some (.arr wr s e n f)) (h:n <= 9223372036854775807 -> HW (ro:=ro) P nt c st Q):HW (ro:=ro) P nt c st Q:=fun w0 m0 a w hr=>by
 have hr':=hr;obtain ⟨cc,hold,hrr⟩:=hr';have:=(hrr.objs id _ hb).2.1;exact h (by simp only [maxLen] at this;omega) w0 m0 a w hr
end
end
end
end Go.Hx
