/- A part of the proof: Hx15 Hx16 Hx17. -/
import Derived.Test.YtnlcekpflogjkaaGreatDoorTx12
set_option linter.all false
namespace Go.Hx
section
open Go.RowKit
def wj (l:List Nat) (k:Nat):Bool:=l.any (Nat.beq k)
def oc {l:List Nat} {k:Nat}:wj l k = true <-> k ∈ l:=by
 unfold wj;rw [bsf];constructor
 · rintro ⟨x,hx,hb⟩
   rw [bs9 hb];exact hx
 exact fun h=>⟨k,h,by simp⟩
def aas (W:List Nat) (id:Nat):List (Nat × Option a7) -> Bool
 | []=>true
 | (e,some x) :: r=>(wj W e || ad8 id x.ids) && aas W id r
 | (_,none) :: r=>aas W id r
def a6r {W:List Nat} {id:Nat}:∀ {l:List (Nat × Option a7)},aas W id l = true -> ∀ d x,d ∉ W -> b9 l d = some x -> ¬ x.men id
 | [],_,d,x,_,h=>by simp [b9] at h
 | (e,some y) :: r,h,d,x,hd,hl=>by
  simp only [aas,brk,bsl] at h;rw [ar] at hl;dsimp only at hl;split at hl
  · rename_i he
    subst he;simp only [bra] at hl;subst hl
    rcases h.1 with h1 | h1
    · exact absurd (oc.1 h1) hd
    exact fun hm=>a4x h1 (a7.men_ids hm)
  exact a6r h.2 d x hd hl
 | (e,none) :: r,h,d,x,hd,hl=>by
  rw [ar] at hl;dsimp only at hl;split at hl
  · cases hl
  exact a6r (l:=r) (by simpa [aas] using h) d x hd hl
def isNone (x:Option a7):Bool:=match x with | none=>true | some _=>false
def fcB (o1 o2:List (Nat × a7)) (res:HR) (fx:List Nat) (st:HSt):Bool :=
 ((keys o2).all fun id=>(wj fx id && wj (keys o1) id) || (Nat.blt id 1000 && nmT id st.t && aas (keys o1 ++ keys o2) id st.o && (wj (keys o1) id || isNone (b9 st.o id)))) &&
 ((ac7 o2).all (wj (keys o2)) && res.ids.all (wj (keys o2)))
def an1:List (Nat × a7) -> ap -> Prop
 | [],_=>True
 | (id,ob) :: r,o=>(∃ ob',o id = some ob' /\ CoO ob' ob) /\ an1 r o
def a7o {o:ap}:∀ {l:List (Nat × a7)},an1 l o -> ∀ id ob,lk l id = some ob -> ∃ ob',o id = some ob' /\ CoO ob' ob
 | (e,x) :: l,h,id,ob,hl=>by
  simp only [lk] at hl;by_cases hk:e = id
  · subst hk
    simp only [Nat.beq_refl,cond_true,bra] at hl;subst hl;exact h.1
  have:Nat.beq e id = false:=by
   rw [brt];exact fun hb=>hk (bs9 hb)
  rw [this] at hl;exact a7o h.2 id ob (by simpa using hl)
section
variable {P:Program} {E:Env} {nt:Nat} {ops:Array Oper} {i:Nat} {o:Oper} {st:HSt} {L:List Nat} {K:List Tr -> HSt -> Prop}
def aoa (o1 o2:List (Nat × a7)) (fx:List Nat):List Nat:=(keys o2).filter fun id=>!(wj fx id && wj (keys o1) id)
def jc {cl:Call} {f:FuncId} {caps:List HC} {args hcs:List HC} {o1 o2:List (Nat × a7)} {res:HR} {fx:List Nat} {gb:Bool} (hi:ops[i]? = some o) (hw:b7 ops st.den o = some gb) (hd:cj nt o.dst = true) (ho:o.op = .call cl)
 (hc:w9 (ev st.den) cl = some (f,caps)) (hv:sx (ev st.den) cl.args.toList = some hcs) (hf:goodFn P f) (hfun:cz P f args o1 res o2 fx) (hco:uz (hcs ++ caps) args) (hsub:an1 o1 st.den.o) (hB:fcB o1 o2 res fx st = true) (hg:gb = true)
 (hT:Reg P E nt ops L (st.after o.dst (some res) (a0d o1 o2)) fun T sf=>K (⟨i,⟨0,false,true, .tup [],keys o1 ++ keys o2,aoa o1 o2 fx,res.ids ++ ac7 o2⟩,looks st.den o,cb st.den o.dst (a0d o1 o2),none⟩ :: T) sf):Reg P E nt ops (i :: L) st K:=by
 obtain ⟨T,sf,h1,h2,h3⟩:=hT;simp only [fcB,brk,bs2] at hB;obtain ⟨b1,b2,b3⟩:=hB
 have key:∀ id ∈ keys o2,id ∉ fx \/ id ∉ keys o1 -> id < 1000 /\ nmT id st.t = true /\ aas (keys o1 ++ keys o2) id st.o = true /\ (id ∈ keys o1 \/ b9 st.o id = none):=by
  intro id hid hor;have:=b1 id hid;simp only [bsl,brk] at this
  rcases this with ⟨q1,q2⟩ | ⟨⟨⟨q1,q2⟩,q3⟩,q4⟩
  · rcases hor with e | e
    · exact absurd (oc.1 q1) e
    exact absurd (oc.1 q2) e
  refine ⟨by simpa [bu9] using q1,q2,q3, ?_⟩
  rcases q4 with q4 | q4
  · exact .inl (oc.1 q4)
  refine .inr ?_
  cases hl:b9 st.o id with
  | none=>rfl
  | some x=>rw [hl] at q4;cases q4
 refine ⟨_,sf,by rw [<- h1];rfl, .cons hi (.fcall cl f caps args hcs o1 o2 res fx (by rw [hw,hg]) hd ho hc hf hv hco hfun (a7o hsub) (fun id h2 h1=>?_) (fun id h2 h1=>?_) (fun id ob hid k hk=>?_) (fun k hk=>?_) rfl (fun id h2 h1=>?_) rfl) rfl (fun _ hk=>hk) (by intro _ hf;cases hf) (by rw [me] at h2;exact h2),h3⟩
 · rcases (key id h2 (.inr h1)).2.2.2 with e | e
   · exact absurd e h1
   exact e
 · obtain ⟨q1,q2,q3,_⟩:=key id h2 h1
   exact ⟨a4s q2,fun d x hd hx=>a6r q3 d x hd hx,q1⟩
 · have hmem:∀ {l:List (Nat × a7)},lk l id = some ob -> (id,ob) ∈ l:=by
    intro l
    induction l with
    | nil=>intro h;cases h
    | cons p l ih =>
     obtain ⟨e,x⟩:=p;intro h;simp only [lk] at h
     cases hb:Nat.beq e id with
     | true =>
      rw [hb] at h;simp only [cond_true,bra] at h;rw [<- bs9 hb,h];exact bsj
     | false =>
      rw [hb] at h;exact bs1 _ (ih (by simpa using h))
   exact oc.1 (b2 k (acj (hmem hid) (a7.men_ids hk)))
 · exact oc.1 (b3 k (HR.men_ids hk))
 refine bt4.2 ⟨h2, ?_⟩;simp only [bsd,Bool.and_eq_false_iff]
 rcases h1 with e | e
 · exact .inl (by rw [brt];exact fun hb=>e (oc.1 hb))
 exact .inr (by rw [brt];exact fun hb=>e (oc.1 hb))
end
def a1a:Nat -> List HC -> List (Nat × Option HR)
 | _,[]=>[]
 | i,x :: r=>(i,some (.v x)) :: a1a (i + 1) r
def ada:∀ (l:List HC) (i d:Nat) (r:HR),b9 (a1a i l) d = some r -> ∃ x,i <= d /\ l[d - i]? = some x /\ r = .v x
 | [],i,d,r,h=>by simp [a1a,b9] at h
 | x :: l,i,d,r,h=>by
  simp only [a1a] at h;rw [ar] at h;dsimp only at h;split at h
  · rename_i hd
    subst hd;simp only [bra] at h;exact ⟨x,brd _,by simp,h.symm⟩
  rename_i hd;obtain ⟨y,h1,h2,h3⟩:=ada l (i + 1) d r h;refine ⟨y,by omega, ?_,h3⟩;rw [show d - i = (d - (i + 1)) + 1 by omega];simpa using h2
def a9l (l:List (Nat × a7)):List (Nat × Option a7):=l.map fun p=>(p.1,some p.2)
def adq:∀ (l:List (Nat × a7)),b9 (a9l l) = lk l
 | []=>rfl
 | (e,x) :: r=>by
  funext k;have:=congrFun (adq r) k;unfold a9l at this ⊢;simp only [bt3,b9,lk];rw [this]
def avi:List HC -> HR
 | [x]=>.v x
 | l=>.tup l
def beu (E:Env) (st:HSt) (rs:List ResultVar) (res:HR) (o2:List (Nat × a7)):Prop :=
 ∃ p l,zi E st.den rs = some (p,l) /\ p /\ CoR (avi l) res /\ an1 o2 st.den.o
section
variable {P:Program} {E:Env} {nt:Nat}
def bab (hE:cr P E) {f:FuncId} {fn:Func} {body:Code} {args:List HC} {o1 o2:List (Nat × a7)} {res:HR} {fx:List Nat} (hf:P.funcs[f]? = some fn) (hb:fn.body = some body) (hn:fn.ntmps = nt) (hl:args.length <= nt)
 (hfx:fx.all (Nat.ble 1000) = true) (h:HW (ro:=none) P nt body ⟨a1a 0 args,a9l o1⟩ fun e st=>(e = .normal \/ e = .ret) /\ beu E st fn.results.toList res o2):cz P f args o1 res o2 fx:=by
 classical
 intro w c us hm hargs;refine (callsIn_wide (n:=0)).1 (callsIn_of_wp_marks hf hb trivial ?_ rfl)
 have hul:us.length = args.length:=by
  have:∀ {xs:List HC} {us:List Value},bu c (lk o1) xs us -> us.length = xs.length:=by
   intro xs
   induction xs with
   | nil=>intro us hh;cases us with | nil=>rfl | cons=>exact hh.elim
   | cons x xs ih=>intro us hh;cases us with | nil=>exact hh.elim | cons u us=>simp [ih hh.2]
  exact this hargs
 let a0:Act:={ tmps:=us.toArray ++ Array.replicate (fn.ntmps - us.toArray.size) undef,defers:=[] }
 let frm:Imm:=fun b=>if (∃ id ob,lk o1 id = some ob /\ c.blk id b) then none else w.heap[b]?
 let old:Old:=(c.imm,frm,c.own,lk o1,c.rows)
 have hden:(HSt.den ⟨a1a 0 args,a9l o1⟩).o = lk o1:=adq o1
 have hrel:Rel w old nt (HSt.den ⟨a1a 0 args,a9l o1⟩) a0 w:=by
  refine ⟨{ old:=old,imm:=c.imm,tab:=c.tab,own:=c.own,blk:=c.blk,rows:=c.rows },rfl,ta.nil _ _ _ _, ?_,Below.refl _ _,fun d x hx=>?_,fun id ob ho=>?_,fun i i' ob ob' b ho ho'=>?_,hm.imm,fun id ob b ho=>?_,fun b _=>rfl,fun b ob hbo=>?_,fun id ob b ho hbb=>?_,fun id _=>?_⟩
  · simp only [a0,bum,Array.size_replicate,bsg,hn];omega
  · obtain ⟨y,_,hy,rfl⟩:=ada args 0 d x hx
    simp only [Nat.sub_zero] at hy;obtain ⟨u,hu,hr⟩:=hargs.get d y hy;have hd:d < us.length:=(bt7.1 hu).1
    have:a0.tmps.getD d undef = u:=by
     have e1:a0.tmps[d]? = some u:=by
      simp only [a0];rw [Array.getElem?_append_left (by simpa using hd)];simpa using hu
     rw [Array.getD_eq_getD_getElem?,e1];rfl
    rw [this,hden];exact fv.evo (c:=c) (o:=lk o1) (Imm.le.refl c.imm) (fun _ _=>Evo.of_same rfl rfl) hr
  · rw [hden] at ho ⊢
    exact (hm.objs id ob ho).keep (Imm.le.refl c.imm) rfl rfl (fun _ _=>Evo.of_same rfl rfl) fun _ _=>rfl
  · rw [hden] at ho ho'
    exact hm.inj i i' ob ob' b ho ho'
  · rw [hden] at ho
    exact hm.sep id ob b ho
  · have hbo:frm b = some ob:=hbo
    simp only [frm] at hbo;split at hbo
    · cases hbo
    exact hbo
  · rw [hden] at ho
    show frm b = none;simp only [frm];rw [if_pos ⟨id,ob,ho,hbb⟩]
  rw [hden];exact Evo.of_same rfl rfl
 refine wpIn_mono (h w old a0 w hrel) fun e a' w1 ⟨st',⟨hex,hres⟩,hr1⟩=>?_
 suffices key:LeavesInM (rf none) 0 P fn a'.tmps _ a'.defers .returning w1 by
  rcases hex with rfl | rfl <;> exact key
 refine Rel.strike rfl hr1 fun w' hr'=>?_;obtain ⟨c',hold,hrc⟩:=hr';obtain ⟨p,l,h1,h2,h3,h4⟩:=hres;have hsub:=a7o h4;have hrc2:=hrc.relax ⟨fun _=>none,lk o2⟩ (fun d x hx=>by cases hx) hsub
 have hnf:∀ b,b < w.heap.size -> (∀ id ob,lk o1 id = some ob -> ¬ c.blk id b) -> c'.frm b = some w.heap[b]! /\ w.heap[b]? = some w.heap[b]!:=fun b hb hno=>by
  have e2:w.heap[b]? = some w.heap[b]!:=by simp [hb]
  refine ⟨?_,e2⟩;show c'.old.2.1 b = _;rw [hold];show frm b = _;simp only [frm];rw [if_neg (fun ⟨id,ob,q1,q2⟩=>hno id ob q1 q2)];exact e2
 have hrv:∃ v,(results fn a'.tmps).run P w' = .ok v w' /\ am c' (lk o2) res v:=by
  let F:ResultVar -> Sem Value:=fun | .tmp t=>pure (a'.tmps.getD t undef) | .cell ad t=>do loadVar t (<- asAddr (a'.tmps.getD ad undef))
  obtain ⟨uvs,hrun,hrep⟩:=yg hE hrc F (fun _=>rfl) (fun _ _=>rfl) h1 h2;have hF:results fn a'.tmps = (do let vs <- fn.results.mapM F;pure (if h:vs.size = 1 then vs[0] else .tuple vs)):=rfl;rw [hF,Array.mapM_eq_mapM_toList,bsk,Sem.run_map];have hview:bu c' (lk o2) l uvs:=bu.evo (Imm.le.refl c'.imm) (fun k _=>a78 hsub k) hrep;rw [hrun];simp only [bs0,bsy];refine ⟨_,rfl,am.co h3 ?_⟩
  match l,uvs,hview with
  | [x],[u],hv=>simp only [avi,am];simpa using hv.1
  | [],[],hv=>exact ⟨[],by simp,trivial⟩
  | x :: y :: r,u :: v :: t,hv=>exact ⟨u :: v :: t,by simp,hv⟩
  | [],_ :: _,hv=>exact hv.elim
  | [_],[],hv=>exact hv.elim
  | [_],_ :: _ :: _,hv=>exact hv.2.elim
  | _ :: _ :: _,[],hv=>exact hv.elim
  | _ :: _ :: _,[_],hv=>exact hv.2.elim
 obtain ⟨v,hv1,hv2⟩:=hrv
 have hfin:(∃ v_1 c'_1,Ending.returned v = Ending.returned v_1 /\ am c'_1 (lk o2) res v_1 /\ Mem c'_1 (lk o2) w' /\ Below 0 w w' /\
  (∀ b,b < w.heap.size -> (∀ id ob,lk o1 id = some ob -> ¬ c.blk id b) -> w'.heap[b]? = w.heap[b]? /\ c'_1.imm b = c.imm b) /\
  (∀ id ob b,lk o2 id = some ob -> c'_1.blk id b -> w.heap.size <= b \/ ∃ id0 ob0,lk o1 id0 = some ob0 /\ c.blk id0 b) /\
  (∀ id ∈ fx,Evo c (lk o1) c'_1 (lk o2) id)):=by
  refine ⟨v,c',rfl,hv2,⟨hrc2.objs,hrc2.inj,hrc2.imm,hrc2.sep⟩,hrc.below,fun b hb hno=>?_,fun id ob b ho hbb=>?_,fun id hid=>?_⟩
  · obtain ⟨e1,e2⟩:=hnf b hb hno
    refine ⟨by rw [hrc.frm b _ e1,e2], ?_⟩;rw [hrc.was b (by rw [e1];simp),hold]
  · have e:=hrc2.fsep id ob b ho hbb
    by_cases hfoot:∃ id0 ob0,lk o1 id0 = some ob0 /\ c.blk id0 b
    · exact .inr hfoot
    refine .inl ?_
    have e':frm b = none:=by
     have:c'.old.2.1 b = none:=e;rw [hold] at this;exact this
    simp only [frm] at e';rw [if_neg hfoot] at e';exact Nat.le_of_not_lt fun hlt=>by simp [hlt] at e'
  have e:=hrc2.fixed id (brf (bs2.1 hfx id hid));unfold Evo Ctx.start at e;unfold Evo;rw [hold] at e;exact e
 exact ⟨v,hv1,hfin⟩
end
end
section
open Go.RowKit
section
variable {ro:Option Nat} {P:Program} {E:Env} {nt:Nat} {st:HSt} {Q:Exit -> HSt -> Prop} {w0:World} {m0:Old} {a:Act} {w:World}
def jf (st:HSt) (id:Nat) (ob:a7):(HSt.den ⟨st.t,(id,some ob) :: st.o⟩) = st.den.setO id (some ob):=by
 unfold HSt.den S.setO;simp [ar]
def b3x {ι:Type} (I:ι -> HSt) (p:ι -> Prop) (Q:Exit -> HSt -> Prop):Exit -> HSt -> Prop
 | .normal,st=>∃ i,p i /\ Sub (I i) st
 | e,st=>Q e st
def a3j {ι:Type} {x y:Code} (I:ι -> HSt) (p:ι -> Prop) (h1:HW (ro:=ro) P nt x st (b3x I p Q)) (h2:∀ i,p i -> HW (ro:=ro) P nt y (I i) Q):HW (ro:=ro) P nt (.seq x y) st Q:=by
 refine cq (as7 h1 fun e st' h=>?_);cases e <;> try exact h
 obtain ⟨i,hp,hs⟩:=h;exact b0k (I i) hs (h2 i hp)
def hw_exact' {c:Code} (d:Nat) {s:Nat} {cl:Bool} {f:Nat -> Nat -> PV} (hd:b9 st.t d = some (bp (.sl 0 s cl f))) (h:∀ ad cap,cap <= maxLen -> HW (ro:=ro) P nt c ⟨(d,some (bp (.raw (.slice ad 0 cap)))) :: st.t,st.o⟩ Q):HW (ro:=ro) P nt c st Q:=fun w0 m0 a w hr=>by
 obtain ⟨cc,hold,hrr⟩:=hr;obtain ⟨ad,cap,e1,_,hcap,_⟩:=hrr.tmps d _ hd;refine h ad cap hcap w0 m0 a w ⟨cc,hold,hrr.defers,hrr.size,hrr.below,fun k x hx=>?_,hrr.objs,hrr.inj,hrr.imm,hrr.sep,hrr.was,hrr.frm,hrr.fsep,hrr.fixed⟩;simp only [HSt.den] at hx;rw [ar] at hx;dsimp only at hx;split at hx
 · rename_i hk
   subst hk;simp only [bra] at hx;subst hx;exact ⟨e1,rfl⟩
 exact hrr.tmps k x hx
def df {c:Code} (d id:Nat) (wr:Bool) {n s':Nat} {f':Nat -> Nat -> PV} (s:Nat) (e:TypeId) (f:Nat -> Nat -> PV) (hs:0 < s) (hd:b9 st.t d = some (bp (.sl n s' true f'))) (hco:CoP (.sl n s' true f') (.sl n s true f)) (hwr:wr = false \/ n = 0) (hn:ju id st = true)
 (h:HW (ro:=ro) P nt c ⟨(d,some (.v (.one (.ref id n)))) :: st.t,(id,some (.arr wr s e n f)) :: st.o⟩ Q):HW (ro:=ro) P nt c st Q:=by
 obtain ⟨hnm,hno⟩:=e9 hn;refine xk ⟨st.t,(id,some (.arr wr s e n f)) :: st.o⟩ d (.v (.one (.ref id n))) (fun w0 m0 a w hr=>?_) h;obtain ⟨cc,hold,hrr⟩:=hr;have hx:ak cc.imm (.sl n s true f) (a.tmps.getD d undef):=hco _ _ (hrr.tmps d _ hd);have hnm':n <= maxLen:=by obtain ⟨ad,cap,_,q1,q2,_⟩:=hx;omega
 have hfresh:=hrr.fresh id hnm hno (.arr wr s e n f) w (a.tmps.getD d undef) noB (Grw.refl w none) (fun b hb=>hb.elim)
  ⟨hs,hnm', .inr ⟨hwr,by simp,by simpa using hx⟩⟩
 refine ⟨_, ?_,by rw [jf];exact hfresh, ?_⟩
 · exact hold
 rw [jf];refine ⟨ak.oneCell hx,fun l=>by simp [S.setO],fun ob1 s1 e1 n1 ho hd1=>?_⟩;simp only [S.setO,if_true,bra] at ho;subst ho;simp only [a7.dim,bra,bri] at hd1;obtain ⟨rfl,rfl,rfl⟩:=hd1;exact ⟨brd _,fun _=>by simp⟩
end
def swp (x y k:Nat):Nat:=bif Nat.beq k x then y else bif Nat.beq k y then x else k
def bh6 (x y k:Nat):swp x y k = if k = x then y else if k = y then x else k:=by
 unfold swp;by_cases h1:k = x
 · simp [h1]
 have e1:Nat.beq k x = false:=by rw [brt];exact fun hb=>h1 (bs9 hb)
 by_cases h2:k = y
 · simp [h2]
 have e2:Nat.beq k y = false:=by rw [brt];exact fun hb=>h2 (bs9 hb)
 simp [e1,e2,h1,h2]
def bek (x y k:Nat):swp x y (swp x y k) = k:=by
 simp only [bh6];by_cases h1:k = x
 · subst h1
   by_cases h2:y = k
   · simp [h2]
   simp [h2]
 by_cases h2:k = y
 · subst h2;simp [h1]
 simp [h1,h2]
def HV.ren (r:Nat -> Nat):HV -> HV
 | .p x=>.p x
 | .ref id n=>.ref (r id) n
 | .ptr id off=>.ptr (r id) off
 | .eptr id n i j=>.eptr (r id) n i j
 | .win id n i m=>.win (r id) n i m
 | .clo g k caps=>.clo g k fun i=>(caps i).ren r
 | .row id i k=>.row (r id) i k
 | .rptr id i k a j=>.rptr (r id) i k a j
 | .pin id n ad cap=>.pin (r id) n ad cap
def ax7 (r:Nat -> Nat):List HV -> List HV
 | []=>[]
 | x :: l=>x.ren r :: ax7 r l
def HC.ren (r:Nat -> Nat):HC -> HC
 | .one h=>.one (h.ren r)
 | .agg l=>.agg (ax7 r l)
def adk (r:Nat -> Nat):List HC -> List HC
 | []=>[]
 | x :: l=>x.ren r :: adk r l
def HR.ren (r:Nat -> Nat):HR -> HR
 | .v x=>.v (x.ren r)
 | .tup l=>.tup (adk r l)
def renN (r:Nat -> Nat):List Nat -> List Nat
 | []=>[]
 | x :: l=>r x :: renN r l
def a7.ren (r:Nat -> Nat):a7 -> a7
 | .mp kk n f=>.mp kk n f
 | .bld fr T e l=>.bld fr T e l
 | .ex d v b x=>.ex d v b x
 | .bun B=>.bun B
 | .opq s e n R=>.opq s e n R
 | .box l=>.box (ax7 r l)
 | .arr wr s e n f=>.arr wr s e n f
 | .arrh s e n ms f=>.arrh s e n (renN r ms) fun i j=>(f i j).ren r
 | .nest e et es n m g none=>.nest e et es n m g none
 | .nest e et es n m g (some p)=>.nest e et es n m g (some (r p.1,p.2))
def a7.ren_dim (r:Nat -> Nat) (x:a7):(x.ren r).dim = x.dim:=by
 cases x with
 | nest e et es n m g pd=>cases pd <;> rfl
 | _=>rfl
def a42 (r:Nat -> Nat):List (Nat × a7) -> List (Nat × a7)
 | []=>[]
 | (id,ob) :: l=>(r id,ob.ren r) :: a42 r l
def Ctx.ren (c:Ctx) (r:Nat -> Nat):Ctx:={ old:=c.old,imm:=c.imm,tab:=c.tab,own:=fun k=>c.own (r k),blk:=fun k=>c.blk (r k),rows:=fun k=>c.rows (r k) }
section
variable {r:Nat -> Nat} {c:Ctx} {o o':ap}
def a7f (hr:∀ k,r (r k) = k):∀ (l:List (Nat × a7)) (k:Nat),lk (a42 r l) (r k) = (lk l k).map (a7.ren r)
 | [],k=>rfl
 | (e,x) :: l,k=>by
  simp only [a42,lk];by_cases h:e = k
  · subst h;simp
  have e1:Nat.beq e k = false:=by rw [brt];exact fun hb=>h (bs9 hb)
  have e2:Nat.beq (r e) (r k) = false:=by
   rw [brt];intro hb;have:=congrArg r (bs9 hb);rw [hr,hr] at this;exact h this
  rw [e1,e2];simpa using a7f hr l k
theorem HV.ren_men {r:Nat -> Nat} (hr:∀ k,r (r k) = k) {h:HV} {k:Nat}:(h.ren r).men k <-> h.men (r k):=by
 have key:∀ id,k = r id <-> r k = id:=fun id=>⟨fun e=>by rw [e,hr],fun e=>by rw [<- e,hr]⟩
 induction h with
 | clo g n caps ih=>exact exists_congr fun i=>and_congr Iff.rfl (ih i)
 | _=>simp only [HV.ren,HV.men] <;> exact key _
def aaz {r:Nat -> Nat} (hr:∀ k,r (r k) = k):∀ {l:List Nat} {k:Nat},k ∈ renN r l <-> r k ∈ l
 | [],k=>by simp [renN]
 | x :: l,k=>by
  simp only [renN,brm,aaz hr (l:=l)];exact or_congr ⟨fun e=>by rw [e,hr],fun e=>by rw [<- e,hr]⟩ Iff.rfl
def bm.ren (ho:∀ k,o' (r k) = (o k).map (a7.ren r)) {h:HV} {u:Value}:bm c o' (h.ren r) u <-> bm (c.ren r) o h u:=by
 have hbox:∀ id,(∀ l,o' (r id) ≠ some (.box l)) <-> ∀ l,o id ≠ some (.box l):=fun id=>by
  rw [ho]
  cases hid:o id with
  | none=>simp
  | some ob =>
   cases ob with
   | nest e et es n m g pd=>cases pd <;> simp [a7.ren]
   | _=>simp [a7.ren]
 have hnest:∀ id (Q:TypeId -> TypeId -> Nat -> Nat -> (Nat -> Nat) -> (Nat -> Nat -> Nat -> PV) -> Prop),(∀ e et es n m g pd,o' (r id) = some (.nest e et es n m g pd) -> Q e et es n m g) <-> ∀ e et es n m g pd,o id = some (.nest e et es n m g pd) -> Q e et es n m g:=fun id Q=>by
  rw [ho];constructor
  · intro h e et es n m g pd hid
    rw [hid] at h
    cases pd with
    | none=>exact h _ _ _ _ _ _ none rfl
    | some p=>exact h _ _ _ _ _ _ (some (r p.1,p.2)) rfl
  intro h e et es n m g pd hid
  cases ho1:o id with
  | none=>rw [ho1] at hid;cases hid
  | some ob =>
   rw [ho1] at hid h
   cases ob with
   | nest e0 et0 es0 n0 m0 g0 pd0 =>
    cases pd0 with
    | none=>simp only [bs7,a7.ren,bra,a7.nest.injEq] at hid;obtain ⟨rfl,rfl,rfl,rfl,rfl,rfl,_⟩:=hid;exact h _ _ _ _ _ _ _ rfl
    | some p=>simp only [bs7,a7.ren,bra,a7.nest.injEq] at hid;obtain ⟨rfl,rfl,rfl,rfl,rfl,rfl,_⟩:=hid;exact h _ _ _ _ _ _ _ rfl
   | _=>simp [a7.ren] at hid
 have hdim:∀ id (Q:Nat -> TypeId -> Nat -> Prop),(∀ ob s e n,o' (r id) = some ob -> ob.dim = some (s,e,n) -> Q s e n) <-> ∀ ob s e n,o id = some ob -> ob.dim = some (s,e,n) -> Q s e n:=fun id Q=>by
  rw [ho]
  cases hid:o id with
  | none=>simp
  | some ob =>
   constructor
   · rintro g ob1 s e n h1 h2
     simp only [bra] at h1;subst h1;exact g _ s e n rfl (by rw [a7.ren_dim];exact h2)
   rintro g ob1 s e n h1 h2;simp only [bs7,bra] at h1;subst h1;exact g _ s e n rfl (by rw [a7.ren_dim] at h2;exact h2)
 induction h generalizing u with
 | p x=>exact Iff.rfl
 | clo g k caps ih =>
  simp only [HV.ren,bm];exact exists_congr fun cs=>and_congr Iff.rfl (and_congr Iff.rfl (forall_congr' fun i=>forall_congr' fun hi=>exists_congr fun x=>and_congr Iff.rfl (ih i)))
 | ref id k =>
  simp only [HV.ren,bm];exact and_congr Iff.rfl (and_congr (hbox id) (hdim id _))
 | ptr id off =>
  simp only [HV.ren,bm];refine and_congr Iff.rfl (and_congr ?_ ?_)
  · rw [ho]
    cases hid:o id with
    | none=>simp
    | some ob =>
     constructor
     · rintro g ob1 d h1 h2
       simp only [bra] at h1;subst h1;exact g _ d rfl (by rw [a7.ren_dim];exact h2)
     rintro g ob1 d h1 h2;simp only [bs7,bra] at h1;subst h1;exact g _ d rfl (by rw [a7.ren_dim] at h2;exact h2)
  rw [ho]
  cases hid:o id with
  | none=>simp
  | some ob =>
   cases ob with
   | nest e et es n m g pd=>cases pd <;> simp [a7.ren]
   | _=>simp [a7.ren,Ctx.ren]
 | eptr id k i j =>
  simp only [HV.ren,bm];exact and_congr Iff.rfl (and_congr (hbox id) (hdim id _))
 | win id k i m =>
  simp only [HV.ren,bm];exact and_congr Iff.rfl (and_congr (hbox id) (hdim id _))
 | row id i k =>
  simp only [HV.ren,bm];exact and_congr Iff.rfl (hnest id fun e et es n m g=>i < n /\ k <= m i /\ (k = m i -> u = c.rows (r id) i))
 | pin id k ad cap =>
  simp only [HV.ren,bm];exact and_congr Iff.rfl (and_congr (hbox id) (hdim id _))
 | rptr id i k a j =>
  simp only [HV.ren,bm];exact and_congr Iff.rfl (hnest id fun e et es n m g=>i < n /\ k <= m i /\ (k = m i -> a < k -> ∃ b off cap,c.rows (r id) i = .slice (some ⟨b,off,none⟩) k cap /\ u = .pointer (some ⟨b,off + (a * es + j),none⟩)))
def bc.ren (ho:∀ k,o' (r k) = (o k).map (a7.ren r)):∀ {xs:List HV} {us:List Value},bc c o' (ax7 r xs) us <-> bc (c.ren r) o xs us
 | [],[]=>Iff.rfl
 | _ :: _,_ :: _=>and_congr (bm.ren ho) (bc.ren ho)
 | [],_ :: _=>Iff.rfl
 | _ :: _,[]=>Iff.rfl
def fv.ren (ho:∀ k,o' (r k) = (o k).map (a7.ren r)) {x:HC} {u:Value}:fv c o' (x.ren r) u <-> fv (c.ren r) o x u:=by
 cases x with
 | one h=>exact bm.ren ho
 | agg l=>exact exists_congr fun us=>and_congr Iff.rfl (bc.ren ho)
def bu.ren (ho:∀ k,o' (r k) = (o k).map (a7.ren r)):∀ {xs:List HC} {us:List Value},bu c o' (adk r xs) us <-> bu (c.ren r) o xs us
 | [],[]=>Iff.rfl
 | _ :: _,_ :: _=>and_congr (fv.ren ho) (bu.ren ho)
 | [],_ :: _=>Iff.rfl
 | _ :: _,[]=>Iff.rfl
def am.ren (ho:∀ k,o' (r k) = (o k).map (a7.ren r)) {x:HR} {u:Value}:am c o' (x.ren r) u <-> am (c.ren r) o x u:=by
 cases x with
 | v x=>exact fv.ren ho
 | tup l=>exact exists_congr fun us=>and_congr Iff.rfl (bu.ren ho)
def dz.ren (hr:∀ k,r (r k) = k) (ho:∀ k,o' (r k) = (o k).map (a7.ren r)) {base:Nat} {w:World} {id:Nat} {ob:a7}:dz base c o' w (r id) (ob.ren r) <-> dz base (c.ren r) o w id ob:=by
 cases ob with
 | mp kk n f=>exact Iff.rfl
 | bld fr T e l=>exact Iff.rfl
 | ex d v b x=>exact Iff.rfl
 | bun B=>exact Iff.rfl
 | opq s e n R=>exact Iff.rfl
 | nest e et es n m g pd =>
  cases pd with
  | none=>exact ⟨fun ⟨q1,q2,q3,q4,q5,q6,q7⟩=>⟨q1,q2,q3,q4,q5,q6,q7.imp (fun z=>z) fun ⟨xs,q7,q8,_⟩=>⟨xs,q7,q8,fun p hp=>by cases hp⟩⟩,fun ⟨q1,q2,q3,q4,q5,q6,q7⟩=>⟨q1,q2,q3,q4,q5,q6,q7.imp (fun z=>z) fun ⟨xs,q7,q8,_⟩=>⟨xs,q7,q8,fun p hp=>by cases hp⟩⟩⟩
  | some p =>
   refine ⟨fun ⟨q1,q2,q3,q4,q5,q6,q7⟩=>⟨q1,q2,q3,q4,q5,q6,q7.imp (fun z=>z) fun ⟨xs,q7,q8,q9⟩=>⟨xs,q7,q8,fun p' hp=>?_⟩⟩,fun ⟨q1,q2,q3,q4,q5,q6,q7⟩=>⟨q1,q2,q3,q4,q5,q6,q7.imp (fun z=>z) fun ⟨xs,q7,q8,q9⟩=>⟨xs,q7,q8,fun p' hp=>?_⟩⟩⟩
   · cases hp
     obtain ⟨x,hx,hr⟩:=q9 _ rfl;exact ⟨x,hx,(bm.ren ho (h:=.ref p.1 p.2)).1 hr⟩
   cases hp;obtain ⟨x,hx,hr⟩:=q9 _ rfl;exact ⟨x,hx,(bm.ren ho (h:=.ref p.1 p.2)).2 hr⟩
 | box l =>
  simp only [a7.ren,dz,bc.ren ho];exact Iff.rfl
 | arr wr s e n f=>exact Iff.rfl
 | arrh s e n ms f =>
  simp only [a7.ren,dz,bm.ren ho];refine and_congr Iff.rfl (and_congr Iff.rfl (and_congr ?_ Iff.rfl));constructor
  · intro g i j k hi hj hk
    have:=g i j (r k) hi hj ((HV.ren_men hr).2 (by rw [hr];exact hk));rw [aaz hr,hr] at this;exact this
  intro g i j k hi hj hk;exact (aaz hr).2 (g i j (r k) hi hj ((HV.ren_men hr).1 hk))
theorem Mem.ren (hr:∀ k,r (r k) = k) (ho:∀ k,o' (r k) = (o k).map (a7.ren r)) {w:World}:Mem c o' w <-> Mem (c.ren r) o w:=by
 have back:∀ id ob,o id = some ob -> o' (r id) = some (ob.ren r):=fun id ob h=>by rw [ho,h];rfl
 have forth:∀ id ob,o' id = some ob -> ∃ ob',o (r id) = some ob' /\ ob = ob'.ren r:=fun id ob h=>by
  have:=ho (r id);rw [hr,h] at this
  cases hid:o (r id) with
  | none=>rw [hid] at this;cases this
  | some ob'=>rw [hid] at this;exact ⟨ob',rfl,by simpa using this⟩
 constructor
 · intro h
   refine ⟨fun id ob hob=>(dz.ren hr ho).1 (h.objs _ _ (back id ob hob)),fun i i' ob ob' b h1 h2 h3 h4=>?_,h.imm,fun id ob b h1 h2=>h.sep _ _ b (back id ob h1) h2⟩;have:=h.inj _ _ _ _ b (back i ob h1) (back i' ob' h2) h3 h4;have:=congrArg r this;rwa [hr,hr] at this
 intro h;refine ⟨fun id ob hob=>?_,fun i i' ob ob' b h1 h2 h3 h4=>?_,h.imm,fun id ob b h1 h2=>?_⟩
 · obtain ⟨ob',q1,rfl⟩:=forth id ob hob
   have:=(dz.ren hr ho).2 (h.objs _ _ q1);rwa [hr] at this
 · obtain ⟨x,q1,_⟩:=forth i ob h1
   obtain ⟨x',q1',_⟩:=forth i' ob' h2;have:=h.inj _ _ _ _ b q1 q1' (by show c.blk (r (r i)) b;rw [hr];exact h3) (by show c.blk (r (r i')) b;rw [hr];exact h4);have:=congrArg r this;rwa [hr,hr] at this
 obtain ⟨x,q1,_⟩:=forth id ob h1;exact h.sep _ _ b q1 (by show c.blk (r (r id)) b;rw [hr];exact h2)
end
section
variable {r:Nat -> Nat}
def ams:∀ {l:List Nat} {k:Nat},k ∈ renN r l -> ∃ j ∈ l,k = r j
 | x :: l,k,h=>by
  rcases brm.1 h with h | h
  · exact ⟨x,by simp,h⟩
  obtain ⟨j,hj,e⟩:=ams h;exact ⟨j,by simp [hj],e⟩
theorem Ctx.ren_ren (hr:∀ k,r (r k) = k) (c:Ctx):(c.ren r).ren r = c:=by
 unfold Ctx.ren;simp [hr]
def cz.ren {P:Program} (hr:∀ k,r (r k) = k) {f:FuncId} {args:List HC} {o1 o2:List (Nat × a7)} {res:HR} {fx:List Nat} (h:cz P f args o1 res o2 fx):cz P f (adk r args) (a42 r o1) (res.ren r) (a42 r o2) (renN r fx):=by
 intro w c us hm hargs;have ho1:=a7f hr o1;have ho2:=a7f hr o2;refine (h w (c.ren r) us ((Mem.ren hr ho1).1 hm) ((bu.ren ho1).1 hargs)).mono ?_;rintro e w' ⟨v,c',rfl,h1,h2,h3,h4,h5,h6⟩
 have forth:∀ (l:List (Nat × a7)) id ob,lk (a42 r l) id = some ob -> ∃ ob',lk l (r id) = some ob' /\ ob = ob'.ren r:=fun l id ob h=>by
  have:=a7f hr l (r id);rw [hr,h] at this
  cases hid:lk l (r id) with
  | none=>rw [hid] at this;cases this
  | some ob'=>rw [hid] at this;exact ⟨ob',rfl,by simpa using this⟩
 have back:∀ (l:List (Nat × a7)) id ob,lk l id = some ob -> lk (a42 r l) (r id) = some (ob.ren r):=fun l id ob h=>by rw [a7f hr,h];rfl
 have hcc:=Ctx.ren_ren hr c';refine ⟨v,c'.ren r,rfl,(am.ren ho2).2 (by rw [hcc];exact h1),(Mem.ren hr ho2).2 (by rw [hcc];exact h2),h3,fun b hb hno=>h4 b hb fun id ob hid hbk=>hno (r id) _ (back o1 id ob hid) hbk,fun id ob b hid hbk=>?_,fun id hid=>?_⟩
 · obtain ⟨x,q1,_⟩:=forth o2 id ob hid
   rcases h5 (r id) x b q1 hbk with e | ⟨i0,ob0,e1,e2⟩
   · exact .inl e
   exact .inr ⟨r i0,_,back o1 i0 ob0 e1,e2⟩
 obtain ⟨j,hj,rfl⟩:=ams hid
 rcases h6 j hj with e | ⟨l,l',e1,e2,e3⟩ | ⟨oa,ob',s,e,n,n',e1,e1',e2,e2',e3,e4,e5⟩
 · exact .inl (by rw [ho2,e];rfl)
 · exact .inr (.inl ⟨_,_,back o1 j _ e1,back o2 j _ e2,by show c'.own (r (r j)) = _;rw [hr];exact e3⟩)
 exact .inr (.inr ⟨_,_,s,e,n,n',back o1 j _ e1,by rw [a7.ren_dim];exact e1',back o2 j _ e2,by rw [a7.ren_dim];exact e2',e3,fun hn=>by show c'.own (r (r j)) = _;rw [hr];exact e4 hn,fun ea et es na ma ga pd hb=>by
  obtain ⟨pd',hb'⟩:∃ pd',ob' = .nest ea et es na ma ga pd':=by
   cases ob' with
   | nest e0 et0 es0 n0 m0 g0 pd0 =>
    cases pd0 with
    | none=>simp only [a7.ren,a7.nest.injEq] at hb;obtain ⟨rfl,rfl,rfl,rfl,rfl,rfl,_⟩:=hb;exact ⟨_,rfl⟩
    | some p=>simp only [a7.ren,a7.nest.injEq] at hb;obtain ⟨rfl,rfl,rfl,rfl,rfl,rfl,_⟩:=hb;exact ⟨_,rfl⟩
   | _=>simp [a7.ren] at hb
  obtain ⟨e0,et0,n0,m0,g0,pd0,r1,r2,r3⟩:=e5 _ _ _ _ _ _ _ hb';subst r1;refine ⟨e0,et0,n0,m0,g0,pd0.map fun p=>(r p.1,p.2),by cases pd0 <;> rfl,r2,fun i hi=>⟨(r3 i hi).1,fun hm=>?_⟩⟩;show c'.rows (r (r j)) i = _;rw [hr]
  exact (r3 i hi).2 hm⟩)
def cz.swap {P:Program} (x y:Nat) {f:FuncId} {args:List HC} {o1 o2:List (Nat × a7)} {res:HR} {fx:List Nat} (h:cz P f args o1 res o2 fx):cz P f (adk (swp x y) args) (a42 (swp x y) o1) (res.ren (swp x y)) (a42 (swp x y) o2) (renN (swp x y) fx):=h.ren (bek x y)
end
end
section
open Go.RowKit
def cz.pure {P:Program} {f:FuncId} {args:List PC} {l:List HC} {o2:List (Nat × a7)} {q:Prop} {vs:List PC} (h:cz P f (args.map PC.toH) [] (avi l) o2 []) (hv:po (lk o2) l = some (q,vs)) (hq:q):a6 P f args (af vs):=by
 intro w imm us htab himm hargs
 let c:Ctx:={ old:=(imm,fq w,(fun _=>undef),(fun _=>none),fun _ _=>undef),imm:=imm,tab:=htab,own:=fun _=>undef,blk:=fun _=>noB,rows:=fun _ _=>undef }
 have hmem:Mem c (lk []) w:=⟨(fun id ob ho=>by cases ho),(fun i i' ob ob' b ho=>by cases ho),himm,(fun id ob b ho=>by cases ho)⟩;refine (h w c us hmem (bu.of_P hargs)).mono ?_;rintro e w' ⟨v,c',rfl,hr,hm,hb,hfr,hbk,_⟩;have hfr':∀ b,b < w.heap.size -> w'.heap[b]? = w.heap[b]? /\ c'.imm b = imm b:=fun b hlt=>hfr b hlt fun id ob ho=>by cases ho
 let c2:Ctx:={ old:=(imm,fq w,c'.own,lk o2,c'.rows),imm:=c'.imm,tab:=c'.tab,own:=c'.own,blk:=c'.blk,rows:=c'.rows }
 have hfn:∀ b,c2.frm b ≠ none -> b < w.heap.size:=fun b hne=>by
  have hne:w.heap[b]? ≠ none:=hne;exact Nat.lt_of_not_le fun hle=>hne (btw hle)
 have hrel:ag w 0 c2 ⟨fun _=>none,lk o2⟩ { tmps:=#[],defers:=[] } w':=by
  refine ⟨ta.nil _ _ _ _,rfl,hb,(fun d x hx=>by cases hx),fun id ob ho=>?_,hm.inj,hm.imm,hm.sep,fun b hne=>(hfr' b (hfn b hne)).2,fun b ob hbo=>?_,fun id ob b ho hbb=>?_,fun id _=>Evo.of_same rfl rfl⟩
  · exact (hm.objs id ob ho).keep (Imm.le.refl c'.imm) rfl rfl (fun _ _=>Evo.of_same rfl rfl) fun _ _=>rfl
  · have hbo:w.heap[b]? = some ob:=hbo
    rw [(hfr' b (brj.1 hbo).1).1];exact hbo
  show w.heap[b]? = none
  rcases hbk id ob b ho hbb with e | ⟨_,_,e,_⟩
  · exact btw e
  cases e
 let m:Imm:=fun b=>if b < w.heap.size then imm b else w'.heap[b]?
 have hseen:a0n w c2 w' m:=by
  refine ⟨fun b ob hbo=>?_,fun b hb' _=>?_⟩
  · have hbo:c'.imm b = some ob:=hbo
    by_cases hlt:b < w.heap.size
    · simp only [m,hlt,if_true]
      rw [<- (hfr' b hlt).2];exact hbo
    simp only [m,hlt,if_false];exact hm.imm b ob hbo
  have hb':w.heap[b]? = none:=hb';have:¬ b < w.heap.size:=fun hlt=>by simp [hlt] at hb'
  simp [m,this]
 have hrep:am c2 (lk o2) (avi l) v:=am.evo (c:=c') (o:=lk o2) (Imm.le.refl c'.imm) (fun _ _=>Evo.of_same rfl rfl) hr;refine ⟨v,m,rfl, ?_,fun b hlt=>by simp [m,hlt],fun b ob hbo=>?_,⟨hb.os,hb.tape,hb.output,hb.size,fun k hk=>(hfr' k hk).1,hb.drawn⟩⟩
 · match l,hv,hrep with
   | [],hv,hrep =>
    obtain ⟨us',rfl,hl⟩:=hrep;simp only [po,bra,bri] at hv;obtain ⟨_,rfl⟩:=hv;exact ⟨us',rfl,by cases us' with | nil=>trivial | cons=>exact hl.elim⟩
   | [x],hv,hrep =>
    have hl:bu c2 (lk o2) [x] [v]:=⟨hrep,trivial⟩;have:=qx hrel hseen hl hv hq
    match vs,this with
    | [y],this=>exact this.1
    | [],this=>exact this.elim
    | _ :: _ :: _,this=>exact this.2.elim
   | x :: y :: r,hv,hrep =>
    obtain ⟨us',rfl,hl⟩:=hrep;have:=qx hrel hseen hl hv hq
    match vs,us',this with
    | a :: b :: t,us',this=>exact ⟨us',rfl,this⟩
    | [],us',this=>cases us' with | nil=>exact hl.elim | cons=>exact this.elim
    | [a],us',this =>
     match us',hl,this with
     | [],hl,_=>exact hl.elim
     | [_],hl,_=>exact hl.2.elim
     | _ :: _ :: _,_,this=>exact this.2.elim
 by_cases hlt:b < w.heap.size
 · simp only [m,hlt,if_true] at hbo
   rw [(hfr' b hlt).1];exact himm b ob hbo
 simpa [m,hlt] using hbo
end
end Go.Hx
