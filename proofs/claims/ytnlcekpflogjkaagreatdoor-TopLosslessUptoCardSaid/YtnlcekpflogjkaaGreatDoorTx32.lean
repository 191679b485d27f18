/- A part of the proof: Hx31 Kb2 Kw2. -/
import Derived.Test.YtnlcekpflogjkaaGreatDoorTx29
import Derived.Test.YtnlcekpflogjkaaGreatDoorTx31
set_option linter.all false
set_option maxRecDepth 100000
set_option maxHeartbeats 1000000
namespace Go.Hx
section
open Go.RowKit
def b6l (id n s:Nat) (F:Nat -> Nat -> PV):List HC -> List HC -> Prop
 | [],[]=>True
 | x :: xs,y :: ys=>(y = x \/ (x = .one (.ref id n) /\ y = .one (.p (.sl n s false F)))) /\ b6l id n s F xs ys
 | _,_=>False
section
variable {e:TypeId} {n:Nat}
def cz.eat1 {P:Program} {f:FuncId} {args args':List HC} {o1:List (Nat × a7)} {res:HR} {o2:List (Nat × a7)} {fx:List Nat} {id s:Nat} {wr:Bool} {F:Nat -> Nat -> PV} (h:cz P f args o1 res o2 fx) (ha:b6l id n s F args' args) (hid:lk o1 id = none) (hfx:∀ k ∈ fx,k ≠ id):cz P f args' ((id, .arr wr s e n F) :: o1) res o2 fx:=by
 classical
 intro w c us hm hargs
 have hlk:∀ k,k ≠ id -> lk ((id,a7.arr wr s e n F) :: o1) k = lk o1 k:=fun k hk=>by
  simp only [lk]
  have:Nat.beq id k = false:=by
   rw [brt];exact fun hb=>hk (bs9 hb).symm
  rw [this];rfl
 have hlki:lk ((id,a7.arr wr s e n F) :: o1) id = some (.arr wr s e n F):=by simp [lk]
 let frm:Imm:=fun b=>none
 let c2:Ctx:={ old:=(c.imm,frm,c.own,lk ((id,a7.arr wr s e n F) :: o1),c.rows),imm:=c.imm,tab:=c.tab,own:=c.own,blk:=c.blk,rows:=c.rows }
 have hrel:ag w 0 c2 ⟨fun _=>none,lk ((id,a7.arr wr s e n F) :: o1)⟩ { tmps:=#[],defers:=[] } w:=by
  refine ⟨ta.nil _ _ _ _,rfl,Below.refl _ _,(fun d x hx=>by cases hx),fun id ob ho=>?_,hm.inj,hm.imm,hm.sep,fun b _=>rfl,(fun b ob hbo=>by cases hbo),fun id ob b ho hbb=>rfl,fun id _=>Evo.of_same rfl rfl⟩;exact (hm.objs id ob ho).keep (Imm.le.refl c.imm) rfl rfl (fun _ _=>Evo.of_same rfl rfl) fun _ _=>rfl
 have hf:=hrel.freeze (id:=id) hlki;have hfa:=ym hrel hlki
 have ho:(S.setO ⟨fun _=>none,lk ((id,a7.arr wr s e n F) :: o1)⟩ id none).o = lk o1:=by
  funext k;simp only [S.setO];by_cases hk:k = id
  · subst hk;rw [if_pos rfl,hid]
  rw [if_neg hk,hlk k hk]
 let c1:Ctx:={ old:=c.old,imm:=frozenImm c2 w id,tab:=re hrel hlki,own:=c.own,blk:=c.blk,rows:=c.rows }
 have hm1:Mem c1 (lk o1) w:=by
  rw [<- ho];exact ⟨fun k ob hk=>(hf.objs k ob hk).keep (c':=c1) (Imm.le.refl _) rfl rfl (fun _ _=>Evo.of_same rfl rfl) fun _ _=>rfl,hf.inj,hf.imm,hf.sep⟩
 have hevo:∀ k,Evo c (lk ((id,a7.arr wr s e n F) :: o1)) c1 (lk o1) k:=fun k=>by
  by_cases hk:k = id
  · subst hk;exact .inl hid
  exact Evo.of_same (hlk k hk).symm rfl
 have hle0:=uq hrel hlki;have hle:Imm.le c.imm c1.imm:=hle0
 have hrep:∀ {xs ys:List HC} {us:List Value},b6l id n s F xs ys -> bu c (lk ((id,a7.arr wr s e n F) :: o1)) xs us -> bu c1 (lk o1) ys us:=by
  intro xs
  induction xs with
  | nil=>intro ys us h1 h2;cases ys <;> cases us <;> first | trivial | exact h1.elim | exact h2.elim
  | cons x xs ih =>
   intro ys us h1 h2
   cases ys with
   | nil=>exact h1.elim
   | cons y ys =>
    cases us with
    | nil=>exact h2.elim
    | cons u us =>
     refine ⟨?_,ih h1.2 h2.2⟩
     rcases h1.1 with rfl | ⟨rfl,rfl⟩
     · exact fv.evo hle (fun k _=>hevo k) h2.1
     obtain ⟨_,_,h3⟩:=h2.1;have hu:=(h3 _ _ _ _ hlki rfl).2 rfl;show ak (frozenImm c2 w id) (.sl n s false F) u;rw [hu];exact hfa
 refine (h w c1 us hm1 (hrep ha hargs)).mono ?_;rintro ex w' ⟨v,c',rfl,h1,h2,h3,h4,h5,h6⟩;refine ⟨v,c',rfl,h1,h2,h3,fun b hb hno=>?_,fun k ob b hk hb=>?_,fun k hk=>?_⟩
 · have hnb:¬ c.blk id b:=hno id _ hlki
   obtain ⟨q1,q2⟩:=h4 b hb fun k ob hk=>by
    by_cases hki:k = id
    · subst hki;rw [hid] at hk;cases hk
    exact hno k ob (by rw [hlk k hki];exact hk)
   refine ⟨q1,q2.trans ?_⟩;show frozenImm c2 w id b = c.imm b;unfold frozenImm;rw [if_neg hnb]
 · rcases h5 k ob b hk hb with h5 | ⟨id0,ob0,q1,q2⟩
   · exact .inl h5
   by_cases hki:id0 = id
   · subst hki;rw [hid] at q1;cases q1
   exact .inr ⟨id0,ob0,by rw [hlk id0 hki];exact q1,q2⟩
 have hki:=hfx k hk;exact (Evo.of_same (hlk k hki).symm rfl:Evo c (lk ((id,a7.arr wr s e n F) :: o1)) c1 (lk o1) k).trans (h6 k hk)
def ik (i0:Nat) (h:HV) (g:Nat -> Nat -> PV):Nat -> Nat -> HV:=fun i j=>if i = i0 then h else .p (g i j)
variable {g:Nat -> Nat -> PV}
def a58 {i0:Nat} {h:HV} {j:Nat}:ik i0 h g i0 j = h:=if_pos rfl
variable {f':Nat -> Nat -> PV} {nt:Nat} {st:HSt}
def a3p {w0:World} {m0:Old} {a:Act} {w:World} (x i0 id:Nat) (wr:Bool) {n2 s':Nat} {e2:TypeId} (s:Nat) (e:TypeId) (f:Nat -> Nat -> PV) (hs:0 < s) (hb:b9 st.o x = some (.arr true 1 e2 n2 g)) (hi:i0 < n2) (hl:g i0 0 = .sl n s' true f') (hco:CoP (.sl n s' true f') (.sl n s true f)) (hwr:wr = false \/ n = 0) (hn:ju id st = true) (hne:Nat.beq x id = false) (hr:Rel w0 m0 nt st.den a w):Rel w0 m0 nt (HSt.den ⟨st.t,(x,some (.arrh 1 e2 n2 [id] (ik i0 (.ref id n) g))) :: (id,some (.arr wr s e n f)) :: st.o⟩) a w:=by
 obtain ⟨hnm,hno⟩:=e9 hn;obtain ⟨cc,hold,hrr⟩:=hr;have hbi:x ≠ id:=by rintro rfl;simp at hne
 obtain ⟨p0,p1,p2⟩:=hrr.objs x _ hb
 obtain ⟨p3,xs,p4,p5⟩:cc.blk x = en (cc.own x) /\ ∃ xs,w.ownsRow 0 e2 1 (cc.own x) n2 xs /\ ∀ i j,i < n2 -> j < 1 -> ∃ u,xs[i * 1 + j]? = some u /\ ak cc.imm (g i j) u:=by
  rcases p2 with p2 | ⟨p2 | p2,_⟩
  · exact p2
  · cases p2
  omega
 obtain ⟨u,hu,hur⟩:=p5 i0 0 hi bv9;rw [hl] at hur;have hx:ak cc.imm (.sl n s true f) u:=hco _ _ hur;have hnm':n <= maxLen:=by obtain ⟨ad,cap,_,q1,q2,_⟩:=hx;omega
 have hfresh:=hrr.fresh id hnm hno (.arr wr s e n f) w u noB (Grw.refl w none) (fun b hb=>hb.elim) ⟨hs,hnm', .inr ⟨hwr,by simp,by simpa using hx⟩⟩;rw [<- jf] at hfresh
 have hb':(HSt.den ⟨st.t,(id,some (.arr wr s e n f)) :: st.o⟩).o x = some (.arr true 1 e2 n2 g):=by
  simp only [HSt.den,ar,hbi,if_false];exact hb
 have hevo:∀ (c1:Ctx),c1.own = (fun k=>if k = id then u else cc.own k) -> Evo { old:=cc.old,imm:=cc.imm,tab:=cc.tab,own:=fun k=>if k = id then u else cc.own k,blk:=fun k=>if k = id then noB else cc.blk k,rows:=cc.rows } (HSt.den ⟨st.t,(id,some (.arr wr s e n f)) :: st.o⟩).o c1 ((HSt.den ⟨st.t,(id,some (.arr wr s e n f)) :: st.o⟩).setO x (some (.arrh 1 e2 n2 [id] (ik i0 (.ref id n) g)))).o x:=fun c1 h1 =>
  .inr (.inr ⟨_, .arrh 1 e2 n2 [id] (ik i0 (.ref id n) g),1,e2,n2,n2,hb',rfl,by simp [S.setO],rfl,brd _,fun _=>by rw [h1],fun _ _ _ _ _ _ _ hb=>by cases hb⟩)
 have hown:(fun k=>if k = x then (fun k=>if k = id then u else cc.own k) x else (fun k=>if k = id then u else cc.own k) k) = fun k=>if k = id then u else cc.own k:=by
  funext k;by_cases hk:k = x
  · subst hk;simp
  simp [hk]
 have hw:=hfresh.write x _ hb' (.arrh 1 e2 n2 [id] (ik i0 (.ref id n) g)) w ((fun k=>if k = id then u else cc.own k) x) ((fun k=>if k = id then noB else cc.blk k) x) none (Grw.refl w _) (fun _ e=>by cases e) (hevo _ (by exact hown)) (fun b hb=>.inl hb) (by
  refine ⟨by omega,p1,fun i j k hi hj hk=>?_, .inl ⟨by simpa [hbi] using p3,xs,by simpa [hbi] using p4,fun i j hi' hj=>?_⟩⟩
  · unfold ik at hk
    split at hk
    · have hk:k = id:=hk
      rw [hk];exact bru.2 rfl
    exact hk.elim
  obtain ⟨u',hu',hr'⟩:=p5 i j hi' hj;refine ⟨u',hu', ?_⟩;obtain rfl:j = 0:=by omega
  unfold ik;by_cases hk:i = i0
  · subst hk
    rw [if_pos rfl];rw [hu] at hu';simp only [bra] at hu';subst hu';refine ⟨ak.oneCell hx,fun l2=>by simp [S.setO,HSt.den,ar,Ne.symm hbi],fun ob1 s1 e1 n1 ho hd1=>?_⟩;simp only [S.setO,HSt.den,ar,Ne.symm hbi,if_false,if_true,bra] at ho;subst ho;simp only [a7.dim,bra,bri] at hd1;obtain ⟨rfl,rfl,rfl⟩:=hd1;exact ⟨brd _,fun _=>by simp [Ne.symm hbi]⟩
  rw [if_neg hk]
  exact hr')
 have e:HSt.den ⟨st.t,(x,some (.arrh 1 e2 n2 [id] (ik i0 (.ref id n) g))) :: (id,some (.arr wr s e n f)) :: st.o⟩ = (HSt.den ⟨st.t,(id,some (.arr wr s e n f)) :: st.o⟩).setO x (some (.arrh 1 e2 n2 [id] (ik i0 (.ref id n) g))):=by
  unfold HSt.den S.setO;simp only [S.mk.injEq,true_and];funext k;simp only [ar]
 rw [e];exact ⟨_,(by exact hold),hw⟩
variable {Q:Exit -> HSt -> Prop}
def akb {ro:Option Nat} {P:Program} {co:Code} (x i0 id:Nat) (wr:Bool) {n2 s':Nat} {e2:TypeId} (s:Nat) (e:TypeId) (f:Nat -> Nat -> PV) (hs:0 < s) (hb:b9 st.o x = some (.arr true 1 e2 n2 g)) (hi:i0 < n2) (hl:g i0 0 = .sl n s' true f') (hco:CoP (.sl n s' true f') (.sl n s true f)) (hwr:wr = false \/ n = 0) (hn:ju id st = true) (hne:Nat.beq x id = false) (h:HW (ro:=ro) P nt co ⟨st.t,(x,some (.arrh 1 e2 n2 [id] (ik i0 (.ref id n) g))) :: (id,some (.arr wr s e n f)) :: st.o⟩ Q):HW (ro:=ro) P nt co st Q:=fun w0 m0 a w hr=>h w0 m0 a w (a3p x i0 id wr s e f hs hb hi hl hco hwr hn hne hr)
def bgh {ro:Option Nat} {P:Program} {co:Code} (x:Nat) (ob':a7) {ob:a7} (ho:b9 st.o x = some ob) (hc:CoO ob ob') (h:HW (ro:=ro) P nt co ⟨st.t,(x,some ob') :: st.o⟩ Q):HW (ro:=ro) P nt co st Q:=fun w0 m0 a w hr=>by
 obtain ⟨cc,hold,hrr⟩:=hr;refine h w0 m0 a w ⟨cc,hold,hrr.relax _ (fun d y hy=>⟨y,hy,CoR.refl _⟩) fun id ob2 ho2=>?_⟩;simp only [HSt.den,ar] at ho2;by_cases hk:id = x
 · subst hk
   rw [if_pos rfl] at ho2;simp only [bra] at ho2;subst ho2;exact ⟨ob,ho,hc⟩
 rw [if_neg hk] at ho2;exact ⟨ob2,ho2,CoO.refl _⟩
def bjr {s:Nat}:CoO (.arr true s e n g) (.arrh s e n [] fun i j=>.p (g i j)):=⟨.inl rfl,rfl,rfl,rfl,fun _ _ _ _=>CoP.refl _⟩
variable {ms:List Nat}
def ard {a a' X:Nat} {h0 h1:HV} (h:a' = a) (hm:∀ k,h1.men k -> k = X:=by exact fun _ h=>h):CoO (.arrh 1 e n ms (jq (ik a h0 g) a' 0 [h1])) (.arrh 1 e n [X] (ik a h1 g)):=by
 subst h;refine ⟨rfl,rfl,rfl,fun i j hi hj=>?_, .inr fun i j k hi hj hk=>?_⟩
 · obtain rfl:j = 0:=by omega
   unfold jq ik;by_cases hia:i = a'
   · subst hia
     rw [if_pos ⟨rfl,by omega,by simp⟩,if_pos rfl];exact CoH.refl _
   rw [if_neg (fun e=>hia e.1),if_neg hia,if_neg hia];exact CoH.refl _
 unfold ik at hk;split at hk
 · rw [hm k hk];exact bru.2 rfl
 exact hk.elim
def arh {a a' X:Nat} {h1:HV} (h:a' = a) (hm:∀ k,h1.men k -> k = X:=by exact fun _ h=>h):CoO (.arrh 1 e n ms (jq (fun i j=>.p (g i j)) a' 0 [h1])) (.arrh 1 e n [X] (ik a h1 g)):=by
 subst h;refine ⟨rfl,rfl,rfl,fun i j hi hj=>?_, .inr fun i j k hi hj hk=>?_⟩
 · obtain rfl:j = 0:=by omega
   unfold jq ik;by_cases hia:i = a'
   · subst hia
     rw [if_pos ⟨rfl,by omega,by simp⟩,if_pos rfl];exact CoH.refl _
   rw [if_neg (fun e=>hia e.1),if_neg hia];exact CoH.refl _
 unfold ik at hk;split at hk
 · rw [hm k hk];exact bru.2 rfl
 exact hk.elim
def anb {a a':Nat} {h0:HV} {y:PV} {g':Nat -> Nat -> PV} (h:a' = a) (hy:CoP y (g' a 0)) (hg:∀ i,i < n -> i ≠ a -> CoP (g i 0) (g' i 0)):CoO (.arrh 1 e n ms (jq (ik a h0 g) a' 0 [.p y])) (.arr true 1 e n g'):=by
 subst h;refine ⟨rfl,rfl,rfl,fun i j hi hj=>?_⟩;obtain rfl:j = 0:=by omega
 unfold jq ik;by_cases hia:i = a'
 · subst hia
   rw [if_pos ⟨rfl,by omega,by simp⟩];exact hy
 rw [if_neg (fun e=>hia e.1),if_neg hia];exact hg i hi hia
def amg {Q:HSt -> Prop} (d id:Nat) (wr:Bool) {s':Nat} (s:Nat) (e:TypeId) (f:Nat -> Nat -> PV) (hs:0 < s) (hd:b9 st.t d = some (bp (.sl n s' true f'))) (hco:CoP (.sl n s' true f') (.sl n s true f)) (hwr:wr = false \/ n = 0) (hn:ju id st = true) (h:HE nt ⟨(d,some (.v (.one (.ref id n)))) :: st.t,(id,some (.arr wr s e n f)) :: st.o⟩ Q):HE nt st Q:=by
 obtain ⟨hnm,hno⟩:=e9 hn;refine aq5 ⟨st.t,(id,some (.arr wr s e n f)) :: st.o⟩ d (.v (.one (.ref id n))) (fun w0 m0 a w hr=>?_) h;obtain ⟨cc,hold,hrr⟩:=hr;have hx:ak cc.imm (.sl n s true f) (a.tmps.getD d undef):=hco _ _ (hrr.tmps d _ hd);have hnm':n <= maxLen:=by obtain ⟨ad,cap,_,q1,q2,_⟩:=hx;omega
 have hfresh:=hrr.fresh id hnm hno (.arr wr s e n f) w (a.tmps.getD d undef) noB (Grw.refl w none) (fun b hb=>hb.elim)
  ⟨hs,hnm', .inr ⟨hwr,by simp,by simpa using hx⟩⟩
 refine ⟨_, ?_,by rw [jf];exact hfresh, ?_⟩
 · exact hold
 rw [jf];refine ⟨ak.oneCell hx,fun l=>by simp [S.setO],fun ob1 s1 e1 n1 ho hd1=>?_⟩;simp only [S.setO,if_true,bra] at ho;subst ho;simp only [a7.dim,bra,bri] at hd1;obtain ⟨rfl,rfl,rfl⟩:=hd1;exact ⟨brd _,fun _=>by simp⟩
end
end
section
section
variable {κ:Type} [DecidableEq κ] [Inhabited κ]
def db (g:List (κ × List Nat)) (k:κ):List (κ × List Nat):=if fm g k < g.length then g else g ++ [(k,[])]
section
variable {g:List (κ × List Nat)} {k:κ}
def afu:fm g k <= g.length:=List.findIdx_le_length
def as2 (h:fm g k < g.length):(g.getD (fm g k) default).1 = k:=by
 have:=List.findIdx_getElem (p:=fun x:κ × List Nat=>decide (x.1 = k)) (xs:=g) (w:=h);rw [bw _ _ h];exact of_decide_eq_true this
def b9a (h:∀ r,r < g.length -> (g.getD r default).1 ≠ k):fm g k = g.length:=by
 rcases buw (fm g k) g.length with h1 | h1
 · exact absurd (as2 h1) (h _ h1)
 exact Nat.le_antisymm afu h1
variable {r:Nat}
def bdh (hr:r < g.length) (h:(g.getD r default).1 = k) (hd:∀ p q,p < g.length -> q < g.length -> (g.getD p default).1 = (g.getD q default).1 -> p = q):fm g k = r:=by
 have h1:fm g k < g.length:=by
  rcases buw (fm g k) g.length with h1 | h1
  · exact h1
  exfalso;have:=List.findIdx_lt_length_of_exists (p:=fun x:κ × List Nat=>decide (x.1 = k)) (xs:=g) ⟨g.getD r default,by rw [bw _ _ hr];exact brs hr,decide_eq_true h⟩;exact absurd this (Nat.not_lt.2 h1)
 exact hd _ _ h1 hr ((as2 h1).trans h.symm)
theorem au2:fm g k < (db g k).length:=by
 unfold db;split
 · assumption
 have:=afu (g:=g) (k:=k)
 grind
variable {i:Nat}
theorem vu:a1r g k i = (db g k).modify (fm g k) (fun x=>(x.1,x.2 ++ [i])):=by
 unfold a1r db;by_cases h:fm g k < g.length
 · grind
 rw [if_neg h,if_neg h,show fm g k = g.length from Nat.le_antisymm afu (Nat.not_lt.1 h)];refine btd bvd fun j h1 h2=>?_
 grind
def agt (g:List (κ × List Nat)):Prop:=∀ p q,p < g.length -> q < g.length -> (g.getD p default).1 = (g.getD q default).1 -> p = q
theorem bi3 (h:agt g):agt (db g k):=by
 unfold db;by_cases hk:fm g k < g.length
 · grind
 rw [if_neg hk];have hno:∀ x ∈ g,x.1 ≠ k:=fun x hx e=>hk (List.findIdx_lt_length_of_exists (p:=fun x:κ × List Nat=>decide (x.1 = k)) ⟨x,hx,decide_eq_true e⟩);intro p q hp hq e;simp only [brh,bst] at hp hq
 have hL:∀ r,r < g.length -> ((g ++ [(k,([]:List Nat))]).getD r default) = g.getD r default /\ (g.getD r default).1 ≠ k:=fun r hr=>by
  grind
 have hE:((g ++ [(k,([]:List Nat))]).getD g.length default) = (k,[]):=by simp [List.getD]
 by_cases h1:p < g.length
 · by_cases h2:q < g.length
   · rw [(hL p h1).1,(hL q h2).1] at e
     exact h p q h1 h2 e
   grind
 grind
def a30:(g.modify r (fun x=>(x.1,x.2 ++ [i]))).length = g.length:=List.length_modify ..
theorem ayg {j:Nat} (hj:j < g.length):(g.modify r (fun x=>(x.1,x.2 ++ [i]))).getD j default = if r = j then ((g.getD j default).1,(g.getD j default).2 ++ [i]) else g.getD j default:=by
 grind
theorem bhg (h:agt g):agt (a1r g k i):=by
 rw [vu];have h2:=bi3 (k:=k) h;intro p q hp hq e;rw [a30] at hp hq;refine h2 p q hp hq ?_
 grind
def aor {ks:List κ}:∀ {i:Nat},agt (c6 ks i)
 | 0=>fun p q hp=>absurd hp (brg p)
 | i + 1=>by rw [mo];exact bhg aor
abbrev grM (g:List (κ × List Nat)):Nat -> Nat:=fun r=>(g.getD r default).2.length
abbrev grG (g:List (κ × List Nat)):Nat -> Nat -> Nat -> PV:=fun r=>lf iC (g.getD r default).2
abbrev grN (e et:TypeId) (g:List (κ × List Nat)):a7:=.nest e et 1 g.length (grM g) (grG g) none
def ayy {n:Nat}:∀ b q j,b < n -> q < grM g b -> j < 1 -> ∃ v,grG g b q j = .raw v:=fun b q j _ _ hj=>by
 obtain rfl:j = 0:=by omega
 exact ⟨_,rfl⟩
variable {e et:TypeId}
def azc {m:Nat -> Nat} {f:Nat -> Nat -> Nat -> PV} (h:g = []):CoO (.nest e et 1 0 m f none) (grN e et g):=by
 subst h;exact ⟨rfl,rfl,rfl,rfl,rfl,fun i hi=>absurd hi (brg i),fun i r j hi=>absurd hi (brg i)⟩
variable {ff:Nat -> Nat -> PV}
theorem ae4 (h:¬ fm g k < g.length):CoO (.nest e et 1 (g.length + 1) (fj (grM g) g.length 0) (fu (grG g) g.length ff) none) (grN e et (db g k)):=by
 unfold db;rw [if_neg h];refine ⟨rfl,rfl,rfl,by simp,rfl,fun b hb=>?_,fun b r j hb hr hj=>?_⟩
 · show ((g ++ [(k,([]:List Nat))]).getD b default).2.length = fj (grM g) g.length 0 b
   by_cases h1:b = g.length
   · subst h1;rw [rp];simp [List.getD]
   rw [qn h1]
   grind
 by_cases h1:b = g.length
 · subst h1
   rw [rp] at hr
   grind
 have:Nat.beq b g.length = false:=by rw [brt];exact fun hb=>h1 (bs9 hb)
 rw [show fu (grG g) g.length ff b = grG g b by simp [fu,this]];refine CoP.of_eq ?_
 grind
def a96 (h:fm g k < g.length):CoO (grN e et g) (grN e et (db g k)):=by
 unfold db;rw [if_pos h];exact CoO.refl _
variable {g':List (κ × List Nat)}
theorem aua {kk:Nat} (hg:g' = g.modify r (fun x=>(x.1,x.2 ++ [i]))) (hr:r < g.length) (h:CoO (.arr true 1 et kk ff) (.arr true 1 et ((g.getD r default).2 ++ [i]).length (lf iC ((g.getD r default).2 ++ [i])))):
 CoO (.nest e et 1 g.length (fj (grM g) r kk) (fu (grG g) r ff) none) (grN e et g'):=by
 subst hg;obtain ⟨_,_,_,hl,hc⟩:=h;refine ⟨rfl,rfl,rfl,a30,rfl,fun b hb=>?_,fun b q j hb hq hj=>?_⟩
 · show ((g.modify r _).getD b default).2.length = fj (grM g) r kk b
   rw [ayg hb];by_cases h1:b = r
   · subst h1;rw [rp,if_pos rfl,hl]
   rw [qn h1,if_neg (fun e=>h1 e.symm)]
 show CoP (fu (grG g) r ff b q j) (lf iC ((g.modify r _).getD b default).2 q j);rw [ayg hb];by_cases h1:b = r
 · subst h1
   rw [rp] at hq;rw [if_pos rfl,show fu (grG g) b ff b = ff by simp [fu]]
   grind
 have:Nat.beq b r = false:=by rw [brt];exact fun hb=>h1 (bs9 hb)
 rw [if_neg (fun e=>h1 e.symm),show fu (grG g) r ff b = grG g b by simp [fu,this]];exact CoP.refl _
def aui:CoO (.arr true 1 e g.length (a1i 1 (grM g) (grG g))) (.arr true 1 e (g.map (·.2)).length (lf ilC (g.map (·.2)))):=by
 refine ⟨fun h=>h,rfl,rfl,by simp,fun i j hi hj=>?_⟩;obtain rfl:j = 0:=by omega
 show CoP (.sl (grM g i) 1 false (grG g i)) (il ((g.map (·.2)).getD i default));have:(g.map (·.2)).getD i default = (g.getD i default).2:=by simp [List.getD,hi]
 rw [this];exact CoP.refl _
structure AtI (P:Program) (kt:TypeId) (kv:κ -> Value) (es:Array MapEntry) (clock:Nat) (g:List (κ × List Nat)):Prop where
 mx:oj P kt es clock
 to:∀ e ∈ es.toList,∃ r,r < g.length /\ e.key = kv (g.getD r default).1 /\ e.val = .int .i64 (r:Int)
 at_:∀ r,r < g.length -> ∃ e ∈ es.toList,e.key = kv (g.getD r default).1
variable {P:Program} {clock:Nat} {kt:TypeId} {kv:κ -> Value}
theorem AtI.nil:AtI P kt kv #[] clock []:=⟨oj.nil,fun e he=>by simp at he,fun r hr=>absurd hr (brg r)⟩
variable {es:Array MapEntry}
theorem AtI.of_keys (h:AtI P kt kv es clock g) (hl:g'.length = g.length) (hk:∀ r,r < g.length -> (g'.getD r default).1 = (g.getD r default).1):AtI P kt kv es clock g' :=
 ⟨h.mx,fun e he=>by
  obtain ⟨r,h1,h2,h3⟩:=h.to e he
  exact ⟨r,by omega,by rw [hk r h1];exact h2,h3⟩,fun r hr=>by
  obtain ⟨e,h1,h2⟩:=h.at_ r bv9
  exact ⟨e,h1,by rw [hk r bv9];exact h2⟩⟩
theorem AtI.modify (h:AtI P kt kv es clock g) (hg:g' = g.modify r (fun x=>(x.1,x.2 ++ [i]))):AtI P kt kv es clock g':=by
 subst hg;refine h.of_keys a30 fun j hj=>?_
 grind
theorem AtI.found (h:AtI P kt kv es clock g) (hi:∀ a b,kv a = kv b -> a = b) (hd:agt g) {e:MapEntry} (he:e ∈ es.toList) (hk:e.key = kv k):fm g k < g.length /\ e.val = .int .i64 (fm g k:Int):=by
 obtain ⟨r,h1,h2,h3⟩:=h.to e he;have:=bdh h1 (hi _ _ (h2.symm.trans hk)) hd
 grind
theorem AtI.absent (h:AtI P kt kv es clock g) (hn:∀ e ∈ es.toList,e.key ≠ kv k):fm g k = g.length:=b9a fun r hr e=>by
 obtain ⟨x,h1,h2⟩:=h.at_ r hr
 grind
theorem AtI.put {es':Array MapEntry} {clock':Nat} (h:AtI P kt kv es clock g) (hn:fm g k = g.length) (hX:oj P kt es' clock') (hP:aq3 es es' (kv k) (.int .i64 (g.length:Int))):AtI P kt kv es' clock' (db g k):=by
 unfold db;rw [if_neg bv9];have hL:∀ r,r < g.length -> ((g ++ [(k,([]:List Nat))]).getD r default) = g.getD r default:=fun r hr=>by simp [List.getD,List.getElem?_append,hr]
 have hE:((g ++ [(k,([]:List Nat))]).getD g.length default) = (k,[]):=by simp [List.getD]
 refine ⟨hX,fun e he=>?_,fun r hr=>?_⟩
 · rcases hP.to e he with ⟨h1,h2⟩ | ⟨h1,h2⟩
   · obtain ⟨r,r1,r2,r3⟩:=h.to e h1
     grind
   grind
 simp only [brh,bst] at hr;by_cases h1:r < g.length
 · obtain ⟨x,x1,x2⟩:=h.at_ r h1
   by_cases hx:x.key = kv k
   · obtain ⟨y,y1,y2,_⟩:=hP.at_
     grind
   obtain ⟨y,y1,y2,_⟩:=hP.old x x1 hx
   grind
 obtain rfl:r = g.length:=by omega
 obtain ⟨y,y1,y2,_⟩:=hP.at_
 grind
theorem AtI.keep (h:AtI P kt kv es clock g) (hk:fm g k < g.length):AtI P kt kv es clock (db g k):=by
 unfold db
 grind
theorem AtI.size (h:AtI P kt kv es clock g):es.size <= g.length:=by
 have hm:(es.toList.map fun e=>match e.val with | .int _ n=>n.toNat | _=>0).Nodup:=by
  rw [List.nodup_iff_pairwise_ne,List.pairwise_map];have hp:=((Go.MapKept.stamped_iff es clock).1 h.mx.st).2.2;refine List.Pairwise.imp_of_mem (fun {a b} ha hb hab=>?_) hp;obtain ⟨r,r1,r2,r3⟩:=h.to a ha;obtain ⟨q,q1,q2,q3⟩:=h.to b hb
  grind
 have:=hm.length_le_of_subset (l₂:=List.range g.length) fun x hx=>by
  obtain ⟨e,he,rfl⟩:=brp.1 hx;obtain ⟨r,r1,_,r3⟩:=h.to e he
  grind
 grind
end
end
def az6 {hd:Nat -> Value} {id r k k2:Nat}:jq (hdF hd id r k) r 0 [.ref id k2] r 0 = .ref id k2:=by simp [jq]
def b09 {hd:Nat -> Value} {id r k k2 i:Nat} (h:i ≠ r):jq (hdF hd id r k) r 0 [.ref id k2] i 0 = .p (.raw (hd i)):=by
 simp only [jq];rw [if_neg (fun e=>h e.1),a7i h]
theorem b2g {κ:Type} [DecidableEq κ] [Inhabited κ] {g:List (κ × List Nat)} {k:κ} {m:Nat} (h:∀ x ∈ g,x.2.length <= m):∀ x ∈ db g k,x.2.length <= m:=by
 unfold db
 grind
def al8 {κ:Type} [DecidableEq κ] [Inhabited κ] {ks:List κ} {i r:Nat} {k:κ} (hr:r < (db (c6 ks i) k).length):((db (c6 ks i) k).getD r default).2.length <= i:=by
 rw [bw _ _ hr];exact b2g an5 _ (brs hr)
def AtJ {κ:Type} [DecidableEq κ] [Inhabited κ] (P:Program) (kt:TypeId) (kv:κ -> Value) (g:List (κ × List Nat)) (y:Array MapEntry × Nat):Prop:=AtI P kt kv y.1 y.2 g
def b5z {α:Type} [Inhabited α] {s:Nat} {c:α -> Nat -> PV} {l:List α} {p:α -> Bool} (h:∀ j,j < l.length -> p (l.getD j default) = false):CoP (.sl l.length s false (lf c l)) (psl s c (l.filter fun x=>!p x)):=by
 have:=yi (brd l.length) h;rw [bro] at this;rw [this];exact CoP.refl _
def b5d {α:Type} [Inhabited α] {c:α -> Nat -> PV} {l m:List α} {p:α -> Bool} {k q n a d:Nat} {cl:Bool} {z:List Value} (hC:DfI p l k q m) (hq:¬ q < l.length) (ha:k <= a):CoP (.sl (dn (b5 n (some (k:Int))) none) 1 cl (nf (nq (lf c m) a d z) none)) (psl 1 c (l.filter fun x=>!p x)):=by
 have e:=hC.pre;have h1:=hC.ql;have h2:=hC.len;have h3:=hC.kq;rw [show q = l.length by omega,bro] at e;have el:(l.filter fun x=>!p x).length = k:=by rw [<- e];simp;omega
 exact a98 (by rw [el];rfl) rfl bv9 (by rw [el,e])
def a5w {nt:Nat} {st:HSt} {Q:HSt -> Prop} (x i0 id:Nat) (wr:Bool) {n n2 s':Nat} {e2:TypeId} {f':Nat -> Nat -> PV} {g:Nat -> Nat -> PV} (s:Nat) (e:TypeId) (f:Nat -> Nat -> PV) (hs:0 < s)
 (hb:b9 st.o x = some (.arr true 1 e2 n2 g)) (hi:i0 < n2) (hl:g i0 0 = .sl n s' true f') (hco:CoP (.sl n s' true f') (.sl n s true f)) (hwr:wr = false \/ n = 0) (hn:ju id st = true) (hne:Nat.beq x id = false)
 (h:HE nt ⟨st.t,(x,some (.arrh 1 e2 n2 [id] (ik i0 (.ref id n) g))) :: (id,some (.arr wr s e n f)) :: st.o⟩ Q):HE nt st Q:=fun w0 m0 a w hr=>h w0 m0 a w (a3p x i0 id wr s e f hs hb hi hl hco hwr hn hne hr)
theorem a1l {nt:Nat} {st:HSt} {Q:HSt -> Prop} (id id':Nat) {k n:Nat} {e et:TypeId} {es:Nat} {m:Nat -> Nat} {g:Nat -> Nat -> Nat -> PV} {f:Nat -> Nat -> PV} (ho:b9 st.o id = some (.nest e et es n m g (some (id',k)))) (ho':b9 st.o id' = some (.arr true es et k f))
 (h:HE nt ⟨st.t,(id',none) :: (id,some (.nest e et es (n + 1) (fj m n k) (fu g n f) none)) :: st.o⟩ Q):HE nt st Q:=fun w0 m0 a w hr=>by
 obtain ⟨cc,hold,hrr⟩:=hr;obtain ⟨c',h1,h2⟩:=hrr.absorb ho ho';refine h w0 m0 a w ⟨c',h1.trans hold, ?_⟩;have e1:=wd ⟨st.t,(id,some (.nest e et es (n + 1) (fj m n k) (fu g n f) none)) :: st.o⟩ id';rw [jf] at e1
 grind
end
section
open Go.Proofs
def bk6 (l:List (List Nat)) (g k:Nat) (caps:Nat -> PV) (V:List Nat -> Bool) (hg:goodFn bw0 g) (hV:∀ x,a6 bw0 g (pP (il x) :: iu caps k 0) (af [pB (V x)])):a6 bw0 191 [pP (ill l),pP (.fn g k caps)] (af [pI (idx V l)]):=by
 refine hpx (nt:=19) Tryz.func191 ?_;refine cq ?_;refine cu 0 rfl fun hn=>?_;refine w_3 ?_;refine d5 (ι:=Unit) kn km (fun _i=>⟨[],[]⟩) (fun _i=>idx V l = -1) ?_ ?_
 ·
  refine w_7 ?_;refine ah (ι:=Nat) (ka 0 (ka 1 (ka 7 kn))) km (fun i=>⟨[(8,some (vI i))],[]⟩) (fun i=>i <= l.length /\ (∀ j,j < i -> V (l.getD j default) = false)) (fun i=>l.length - i) (0) (⟨bre _,c7⟩) kk ?_;rintro i ⟨hi,hIi⟩;refine w_5 ?_;refine hcd (fun h0=>?_) (fun h0=>?_)
  ·
   refine k8 ?_;refine rc rfl rfl rfl rfl rfl rfl hg (hV (l.getD i default)) (CoL.refl _) rfl rfl ?_;refine cw ?_;refine hcb (fun h1=>?_) (fun h1=>?_)
   · refine v_5 ?_;exact ⟨cci (xf (i:=i) bv9 hIi bva).symm,trivial⟩
   refine w_5 ?_;refine lpz (i + 1) kk ?_;exact ⟨by show i + 1 <= _;omega,bo hIi bva⟩
  refine d7 ?_;refine ⟨(), ?_, ?_⟩
  · exact wq fun j hj=>hIi j bv9
  exact ⟨trivial,trivial⟩
 rintro _ hj;refine v_4 ?_;exact ⟨cci hj.symm,trivial⟩
def b83 (l:List (List Nat)) (g k:Nat) (caps:Nat -> PV) (V:List Nat -> Bool) (hg:goodFn bw0 g) (hV:∀ x,a6 bw0 g (pP (il x) :: iu caps k 0) (af [pB (V x)])):cz bw0 258 [.one (.ref 900 l.length), .one (.p (.fn g k caps))] [(900, .arr true 1 124 l.length (lf ilC l))] (.v (.one (.p (ill (l.filter fun x=>!V x))))) [] []:=by
 refine hfx (nt:=42) Tryz.func258 ?_;refine cq ?_;refine a8p 900 rfl fun hlen=>?_;refine w_7 ?_;refine qcx (wgx Tryz.func191) (bk6 l g k caps V hg hV) ?_;refine w_8 ?_;refine hcd (fun h0=>?_) (fun h0=>?_)
 · refine w_5 ?_;refine bn 4 rfl rfl rfl ?_;refine hrr ?_;exact ⟨_,_,rfl,bvb,b5z (ao5 bva),trivial⟩
 obtain ⟨i0,hi0,hi1,hi2,hi3⟩:=amq h0;refine w_9 ?_;refine ah (ι:=Nat × Nat × List (List Nat)) (ka 0 (ka 1 kn)) km (fun x=>⟨[(5,some (vI x.1)),(6,some (vI x.2.1))],[(900,some (.arr true 1 124 l.length (lf ilC x.2.2)))]⟩) (fun x=>DfI V l x.1 x.2.1 x.2.2) (fun x=>l.length - x.2.1) ((i0,i0 + 1,l)) (DfI.start hi1 hi2 hi3) ⟨⟨⟨_,rfl,(coi hi0)⟩,⟨_,rfl,(coi (by dsimp only;omega))⟩,trivial⟩,uu⟩ ?_;rintro x hC;have hC0:=hC;obtain ⟨hml,hkq,hql,_,_⟩:=hC0;refine w_8 ?_;refine hcd (fun h1=>?_) (fun h1=>?_)
 ·
  refine k8 ?_;refine rc rfl rfl rfl rfl rfl rfl hg (hV (x.2.2.getD (x.2.1:Int).toNat default)) (CoL.refl _) rfl rfl ?_;refine w_2 ?_;refine hcv (fun h2=>?_) (fun h2=>?_)
  ·
   have hv:=h2;refine aau ?_
   first | (refine lpz (x.1 + 1, x.2.1 + 1, x.2.2.set x.1 (x.2.2.getD x.2.1 default)) ⟨⟨⟨_, rfl, (coi bve)⟩, ⟨_, rfl, (coi bve)⟩, tt⟩, ⟨⟨_, rfl, (p9 id hml.symm bv9 bv9 bv9)⟩, trivial⟩⟩ ?_; exact hC.keep bv9 (by simpa using hv))
         | (refine lpz (x.1,x.2.1 + 1,x.2.2) ⟨⟨⟨_,rfl,(coi bvc)⟩,⟨_,rfl,(coi bvc)⟩,tt⟩,uu⟩ ?_;exact hC.skip bv9 (by simpa using hv))
  have hv:=h2;refine w_6 ?_
  first | (refine lpz (x.1 + 1, x.2.1 + 1, x.2.2.set x.1 (x.2.2.getD x.2.1 default)) ⟨⟨⟨_, rfl, (coi bve)⟩, ⟨_, rfl, (coi bve)⟩, tt⟩, ⟨⟨_, rfl, (p9 id hml.symm bv9 bv9 bv9)⟩, trivial⟩⟩ ?_; exact hC.keep bv9 (by simpa using hv))
        | (refine lpz (x.1,x.2.1 + 1,x.2.2) ⟨⟨⟨_,rfl,(coi bvc)⟩,⟨_,rfl,(coi bvc)⟩,tt⟩,uu⟩ ?_;exact hC.skip bv9 (by simpa using hv))
 have hq:=h1;refine w_6 ?_;refine r9 0 true ?_;refine w_5 ?_;refine afl rfl rfl rfl rfl rfl ?_;refine w_2 ?_;refine hrr ?_;exact ⟨_,_,rfl,bvb,b5d hC bv9 (by simp [b5]),trivial⟩
def bi8 (l:List Nat):a6 bw0 274 [pP (il l)] (af [pB (decide (l.length < 2))]):=by
 refine hpx (nt:=6) Tryz.func274 ?_;refine w_5 ?_;refine cu 0 rfl fun hn=>?_;refine v_6 ?_;exact ⟨ccb (decide_eq_decide.2 bv9),trivial⟩
def bmg (ks:List ByteArray) (hks:ks.length <= 1000) (hsz:∀ i,i < ks.length -> (ks.getD i default).size <= maxLen):a6 bw0 257 [pP (a2m ks)] (af [pP (ill (afr ks))]):=by
 refine hpx (nt:=46) Tryz.func257 ?_;refine w_5 ?_;refine f5 [] [0,1] rfl ?_;refine a4n (k:=0) (L:=[1]) 901 rfl (fun bg=>?_);refine eu (E:=ef) (L1:=[1]) (L2:=[]) dm ?_;refine w_2 ?_;refine jv ?_;refine j4 ?_;refine ai8 4 900 124 3 1 (fun _=>0) (fun _ _ _=>.any) bvg rfl rfl ?_;refine ah (ι:=Nat × Array MapEntry × Nat) (ka 3 (ka 10 (ka 11 kn))) km (fun x=>⟨[(4,some (.v (.one (.ref 900 (c6 ks x.1).length)))),(12,some (vI x.1))],[(900,some (grN 124 3 (c6 ks x.1))),(901,some (mpO bg x.2.1 x.2.2))]⟩) (fun x=>x.1 <= ks.length /\ AtI bw0 9 Value.string x.2.1 x.2.2 (c6 ks x.1)) (fun x=>ks.length - x.1) ((0,#[],0)) (⟨bre _,AtI.nil⟩) ⟨tt,⟨⟨_,rfl,(azc rfl)⟩,uu⟩⟩ ?_;rintro ⟨i,es,clock⟩ ⟨hi,hA⟩;dsimp only at hi hA ⊢;have hgl:=abg (ks:=ks) (i:=i);refine w_5 ?_;refine hcd (fun h0=>?_) (fun h0=>?_)
 ·
  refine j4 ?_;refine f5 [] [0,1,2,3,4,5,6,7] rfl ?_;refine eu (E:=ef) (L1:=[0,1]) (L2:=[2,3,4,5,6,7]) dm ?_;refine w_3 ?_;refine abf (mid:=901) (k:=2) (L:=[3,4,5,6,7]) rfl Tryz.underlying318 (Go.Maps.string_keyed Tryz.underlying9) Tryz.zeroValue3 rfl hA.mx (Go.WideMaps.keyOf_string_mk Tryz.underlying9 (by show (ks.getD i default).size <= maxLen;exact hsz i bv9)) rfl (fun ok v hy hn1=>?_)
  obtain ⟨nv,rfl⟩:∃ nv:Int,v = .int .i64 nv:=by
   cases ok with
   | true =>
    obtain ⟨e,he,hk,rfl⟩:=hy rfl;obtain ⟨r,_,_,h3⟩:=hA.to e he;exact ⟨_,h3⟩
   | false=>exact ⟨0,(hn1 rfl).1⟩
  refine eu (E:=ef) (L1:=[3,4,5,6,7]) (L2:=[]) dm ?_;refine w_6 ?_;refine jv ?_;refine d5 (ι:=Array MapEntry × Nat) (ka 3 (ka 5 (ka 10 (ka 11 (ka 12 kn))))) km (fun y=>⟨[(4,some (.v (.one (.ref 900 (db (c6 ks i) (ks.getD i default)).length)))),(7,some (vI (fm (c6 ks i) (ks.getD i default))))],[(900,some (grN 124 3 (db (c6 ks i) (ks.getD i default)))),(901,some (mpO bg y.1 y.2))]⟩) (fun y=>AtJ bw0 9 Value.string (db (c6 ks i) (ks.getD i default)) y) ?_ ?_
  ·
   refine ayo ?_;refine w_5 ?_;refine au _ rfl (fun r1=>?_) (fun r1=>?_)
   ·
    have h1:=eg r1;have hok1:ok = false:=by simpa using r1
    subst hok1;obtain ⟨hz0,hno⟩:=hn1 rfl;have hab:(fm (c6 ks i) (ks.getD i default)) = (c6 ks i).length:=hA.absent hno;refine w_7 ?_;refine f5 [] [0,1,2,3] rfl ?_;refine eu (E:=ef) (L1:=[0,1,2]) (L2:=[3]) dm ?_;refine w_4 ?_;refine a3t (mid:=901) (k:=3) (L:=[]) rfl Tryz.underlying318 (Go.Maps.string_keyed Tryz.underlying9) hA.mx (by have:=hA.size;unfold maxLen;omega) (Go.WideMaps.keyOf_string_mk Tryz.underlying9 (by show (ks.getD i default).size <= maxLen;exact hsz i bv9)) rfl rfl (fun es3 clock3 hX3 hP=>?_);refine jv ?_;have hA1:AtJ bw0 9 Value.string (db (c6 ks i) (ks.getD i default)) (es3,clock3):=hA.put hab hX3 hP;refine f5 [0,1] [2,3] rfl ?_;refine eu (E:=ef) dm ?_;refine qy ?_;refine m9 0 ?_;refine cw ?_;refine yr ?_;refine a5w (n2:=1) 0 0 904 true 1 3 (lf iC []) bvg rfl bvg rfl (CoP.sl rfl (.inr rfl) (fun h=>h) (fun i j hi _=>absurd hi (brg i))) (.inr rfl) rfl rfl ?_;refine lc ?_;refine eu (E:=ef) (L1:=[2,3]) (L2:=[]) dm ?_;refine r9 1 true ?_;refine w_2 ?_;refine jv ?_;show HE _ _ _
    first | refine a1l 900 904 rfl rfl ?_ | skip
    refine lc ?_;exact ⟨_,hA1,⟨⟨⟨_,rfl,(by first | (rw [show (db (c6 ks i) (ks.getD i default)).length = (c6 ks i).length + 1 by unfold db;rw [if_neg bv9];simp];exact CoR.refl _) | (rw [show (db (c6 ks i) (ks.getD i default)).length = (c6 ks i).length by unfold db;rw [if_pos hlt]];exact CoR.refl _))⟩,⟨_,rfl,(by first | (rw [hab];exact CoR.refl _) | exact CoR.refl _)⟩,tt⟩,⟨⟨_,rfl,(by first | exact ae4 bv9 | exact a96 hlt)⟩,uu⟩⟩⟩
   have h1:=ek r1;have hok1:ok = true:=by simpa using r1
   obtain ⟨e0,he0,hk0,hv0⟩:=hy hok1;obtain ⟨hlt,hv1⟩:=hA.found (fun a b e=>Value.string.inj e) aor he0 hk0;have hnv:nv = _:=(Value.int.inj (hv0.trans hv1)).2;have hA1:AtJ bw0 9 Value.string (db (c6 ks i) (ks.getD i default)) (es,clock):=hA.keep hlt;obtain rfl:=hnv;refine dy ?_;show HE _ _ _
   first | refine a1l 900 904 rfl rfl ?_ | skip
   refine lc ?_;exact ⟨_,hA1,⟨⟨⟨_,rfl,(by first | (rw [show (db (c6 ks i) (ks.getD i default)).length = (c6 ks i).length + 1 by unfold db;rw [if_neg bv9];simp];exact CoR.refl _) | (rw [show (db (c6 ks i) (ks.getD i default)).length = (c6 ks i).length by unfold db;rw [if_pos hlt]];exact CoR.refl _))⟩,⟨_,rfl,(by first | (rw [hab];exact CoR.refl _) | exact CoR.refl _)⟩,tt⟩,⟨⟨_,rfl,(by first | exact ae4 bv9 | exact a96 hlt)⟩,uu⟩⟩⟩
  rintro ⟨es2,clock2⟩ hA2;dsimp only at hA2 ⊢;have hr1:(fm (c6 ks i) (ks.getD i default)) < (db (c6 ks i) (ks.getD i default)).length:=au2;have hrl:=al8 hr1;refine alg 900 (fm (c6 ks i) (ks.getD i default)) 906 907 rfl hr1 ayy (fun hd B hbf=>?_) rfl rfl rfl rfl;refine w_6 ?_;refine rq (out:=Out.mk _ (.v (.one (.ref 906 ((db (c6 ks i) (ks.getD i default)).getD (fm (c6 ks i) (ks.getD i default)) default).2.length)))) rfl rfl rfl (congrArg (fun z=>some (Out.mk _ (HR.v (HC.one z)))) (a35 hd 906 (fm (c6 ks i) (ks.getD i default)) ((db (c6 ks i) (ks.getD i default)).getD (fm (c6 ks i) (ks.getD i default)) default).2.length 0)) rfl ?_;refine qy ?_;refine m9 2 ?_;refine r9 3 true ?_;refine w_3 ?_;refine zq ⟨[(3,some _),(4,some _),(10,some _),(11,some _),(12,some _)],[(900,some _),(901,some _),(906,some _),(907,some _)]⟩ kk ?_;refine aqo 4 900 906 907 908 hbf rfl rfl rfl rfl hr1 (by first | exact a35 _ _ _ _ _ | exact az6) (fun b _ hne=>by first | exact a7i hne | exact b09 hne) ?_;refine zq ⟨[(3,some _),(4,some _),(10,some _),(11,some _),(12,some _)],[(901,some _),(908,some _)]⟩ kk ?_;refine as5 4 908 900 rfl rfl ?_;refine w_4 ?_;refine lpz (i + 1,es2,clock2) ⟨⟨⟨_,rfl,(by rw [show (c6 ks (i + 1)).length = (db (c6 ks i) (ks.getD i default)).length by rw [mo,vu,a30]];exact CoR.refl _)⟩,tt⟩,⟨⟨_,rfl,(aua (by rw [mo,vu]) hr1 (c5 rfl (CoP.refl _)))⟩,uu⟩⟩ ?_;exact ⟨by show i + 1 <= _;omega,hA2.modify (by rw [mo,vu])⟩
 obtain rfl:i = ks.length:=by omega
 refine w_2 ?_;refine agd 900 rfl ?_;refine w_2 ?_;refine jc rfl rfl rfl rfl rfl rfl (wgx Tryz.func258) ((b83 ((c6 ks ks.length).map (·.2)) 274 0 (fun _=>.any) (fun l=>decide (l.length < 2)) (wgx Tryz.func274) (fun x=>bi8 x))) (⟨congrArg (HV.ref 900) (by rw [bsc]),CoP.refl _,trivial⟩) ⟨⟨_,rfl,aui⟩,trivial⟩ rfl rfl ?_;refine v_2 ?_;exact ⟨CoC.one (CoP.of_eq (by unfold afr b63;rfl)),trivial⟩
def ak2:Go.WideMaps.ArrKey bw0 274 3 2:=⟨Tryz.underlying274,by kernel_rfl,by kernel_rfl,by kernel_rfl⟩
def bf1:∃ m,bw0.types.size = m + 1:=⟨337,by kernel_rfl⟩
def k2C (x:Int × Int):Nat -> PV
 | 0=>.raw (.int .i64 x.1)
 | 1=>.raw (.int .i64 x.2)
 | _=>.any
abbrev k2s (l:List (Int × Int)):PV:=psl 2 k2C l
def k2V (x:Int × Int):Value:=.agg #[.int .i64 x.1, .int .i64 x.2]
def bhr (a b:Int × Int) (h:k2V a = k2V b):a = b:=by
 unfold k2V at h;simp only [Value.agg.injEq,Array.mk.injEq,bue,Value.int.injEq,true_and,and_true] at h;exact Prod.ext h.1 h.2
def bfr (l:List Nat):a6 bw0 259 [pP (il l)] (af [pB (decide (l.length < 2))]):=by
 refine hpx (nt:=6) Tryz.func259 ?_;refine w_5 ?_;refine cu 0 rfl fun hn=>?_;refine v_6 ?_;exact ⟨ccb (decide_eq_decide.2 bv9),trivial⟩
def bml (ks:List (Int × Int)) (hks:ks.length <= 1000) (hwf:∀ i,i < ks.length -> (Lit.int .i64 (ks.getD i default).1).wf = true /\ (Lit.int .i64 (ks.getD i default).2).wf = true):a6 bw0 230 [pP (k2s ks)] (af [pP (ill (afr ks))]):=by
 refine hpx (nt:=46) Tryz.func230 ?_;refine w_5 ?_;refine f5 [] [0,1] rfl ?_;refine a4n (k:=0) (L:=[1]) 901 rfl (fun bg=>?_);refine eu (E:=ef) (L1:=[1]) (L2:=[]) dm ?_;refine w_2 ?_;refine jv ?_;refine j4 ?_;refine ai8 4 900 124 3 1 (fun _=>0) (fun _ _ _=>.any) bvg rfl rfl ?_;refine ah (ι:=Nat × Array MapEntry × Nat) (ka 3 (ka 10 (ka 11 kn))) km (fun x=>⟨[(4,some (.v (.one (.ref 900 (c6 ks x.1).length)))),(12,some (vI x.1))],[(900,some (grN 124 3 (c6 ks x.1))),(901,some (mpO bg x.2.1 x.2.2))]⟩) (fun x=>x.1 <= ks.length /\ AtI bw0 274 k2V x.2.1 x.2.2 (c6 ks x.1)) (fun x=>ks.length - x.1) ((0,#[],0)) (⟨bre _,AtI.nil⟩) ⟨tt,⟨⟨_,rfl,(azc rfl)⟩,uu⟩⟩ ?_;rintro ⟨i,es,clock⟩ ⟨hi,hA⟩;dsimp only at hi hA ⊢;have hgl:=abg (ks:=ks) (i:=i);refine w_5 ?_;refine hcd (fun h0=>?_) (fun h0=>?_)
 ·
  refine w_8 ?_;refine m9 0 ?_;refine w_4 ?_;refine f5 [] [0,1,2,3,4,5,6,7] rfl ?_;refine eu (E:=ef) (L1:=[0,1]) (L2:=[2,3,4,5,6,7]) dm ?_;refine w_3 ?_;refine abf (mid:=901) (k:=2) (L:=[3,4,5,6,7]) rfl Tryz.underlying304 (Go.Maps.Keyed.of_law ak2.law) Tryz.zeroValue3 rfl hA.mx (Go.WideMaps.keyOf_pair ak2 Tryz.underlying3 bf1 (hwf i bv9).1 (hwf i bv9).2) rfl (fun ok v hy hn1=>?_)
  obtain ⟨nv,rfl⟩:∃ nv:Int,v = .int .i64 nv:=by
   cases ok with
   | true =>
    obtain ⟨e,he,hk,rfl⟩:=hy rfl;obtain ⟨r,_,_,h3⟩:=hA.to e he;exact ⟨_,h3⟩
   | false=>exact ⟨0,(hn1 rfl).1⟩
  refine eu (E:=ef) (L1:=[3,4,5,6,7]) (L2:=[]) dm ?_;refine w_6 ?_;refine jv ?_;refine d5 (ι:=Array MapEntry × Nat) (ka 3 (ka 5 (ka 10 (ka 11 (ka 12 kn))))) km (fun y=>⟨[(4,some (.v (.one (.ref 900 (db (c6 ks i) (ks.getD i default)).length)))),(7,some (vI (fm (c6 ks i) (ks.getD i default))))],[(900,some (grN 124 3 (db (c6 ks i) (ks.getD i default)))),(901,some (mpO bg y.1 y.2))]⟩) (fun y=>AtJ bw0 274 k2V (db (c6 ks i) (ks.getD i default)) y) ?_ ?_
  ·
   refine ayo ?_;refine w_5 ?_;refine au _ rfl (fun r1=>?_) (fun r1=>?_)
   ·
    have h1:=eg r1;have hok1:ok = false:=by simpa using r1
    subst hok1;obtain ⟨hz0,hno⟩:=hn1 rfl;have hab:(fm (c6 ks i) (ks.getD i default)) = (c6 ks i).length:=hA.absent hno;refine w_7 ?_;refine f5 [] [0,1,2,3] rfl ?_;refine eu (E:=ef) (L1:=[0,1,2]) (L2:=[3]) dm ?_;refine w_4 ?_;refine a3t (mid:=901) (k:=3) (L:=[]) rfl Tryz.underlying304 (Go.Maps.Keyed.of_law ak2.law) hA.mx (by have:=hA.size;unfold maxLen;omega) (Go.WideMaps.keyOf_pair ak2 Tryz.underlying3 bf1 (hwf i bv9).1 (hwf i bv9).2) rfl rfl (fun es3 clock3 hX3 hP=>?_);refine jv ?_;have hA1:AtJ bw0 274 k2V (db (c6 ks i) (ks.getD i default)) (es3,clock3):=hA.put hab hX3 hP;refine f5 [0,1] [2,3] rfl ?_;refine eu (E:=ef) dm ?_;refine qy ?_;refine m9 1 ?_;refine cw ?_;refine yr ?_;refine a5w (n2:=1) 1 0 904 true 1 3 (lf iC []) bvg rfl bvg rfl (CoP.sl rfl (.inr rfl) (fun h=>h) (fun i j hi _=>absurd hi (brg i))) (.inr rfl) rfl rfl ?_;refine lc ?_;refine eu (E:=ef) (L1:=[2,3]) (L2:=[]) dm ?_;refine r9 2 true ?_;refine w_2 ?_;refine jv ?_;show HE _ _ _
    first | refine a1l 900 904 rfl rfl ?_ | skip
    refine lc ?_;exact ⟨_,hA1,⟨⟨⟨_,rfl,(by first | (rw [show (db (c6 ks i) (ks.getD i default)).length = (c6 ks i).length + 1 by unfold db;rw [if_neg bv9];simp];exact CoR.refl _) | (rw [show (db (c6 ks i) (ks.getD i default)).length = (c6 ks i).length by unfold db;rw [if_pos hlt]];exact CoR.refl _))⟩,⟨_,rfl,(by first | (rw [hab];exact CoR.refl _) | exact CoR.refl _)⟩,tt⟩,⟨⟨_,rfl,(by first | exact ae4 bv9 | exact a96 hlt)⟩,uu⟩⟩⟩
   have h1:=ek r1;have hok1:ok = true:=by simpa using r1
   obtain ⟨e0,he0,hk0,hv0⟩:=hy hok1;obtain ⟨hlt,hv1⟩:=hA.found bhr aor he0 hk0;have hnv:nv = _:=(Value.int.inj (hv0.trans hv1)).2;have hA1:AtJ bw0 274 k2V (db (c6 ks i) (ks.getD i default)) (es,clock):=hA.keep hlt;obtain rfl:=hnv;refine dy ?_;show HE _ _ _
   first | refine a1l 900 904 rfl rfl ?_ | skip
   refine lc ?_;exact ⟨_,hA1,⟨⟨⟨_,rfl,(by first | (rw [show (db (c6 ks i) (ks.getD i default)).length = (c6 ks i).length + 1 by unfold db;rw [if_neg bv9];simp];exact CoR.refl _) | (rw [show (db (c6 ks i) (ks.getD i default)).length = (c6 ks i).length by unfold db;rw [if_pos hlt]];exact CoR.refl _))⟩,⟨_,rfl,(by first | (rw [hab];exact CoR.refl _) | exact CoR.refl _)⟩,tt⟩,⟨⟨_,rfl,(by first | exact ae4 bv9 | exact a96 hlt)⟩,uu⟩⟩⟩
  rintro ⟨es2,clock2⟩ hA2;dsimp only at hA2 ⊢;have hr1:(fm (c6 ks i) (ks.getD i default)) < (db (c6 ks i) (ks.getD i default)).length:=au2;have hrl:=al8 hr1;refine alg 900 (fm (c6 ks i) (ks.getD i default)) 906 907 rfl hr1 ayy (fun hd B hbf=>?_) rfl rfl rfl rfl;refine w_6 ?_;refine rq (out:=Out.mk _ (.v (.one (.ref 906 ((db (c6 ks i) (ks.getD i default)).getD (fm (c6 ks i) (ks.getD i default)) default).2.length)))) rfl rfl rfl (congrArg (fun z=>some (Out.mk _ (HR.v (HC.one z)))) (a35 hd 906 (fm (c6 ks i) (ks.getD i default)) ((db (c6 ks i) (ks.getD i default)).getD (fm (c6 ks i) (ks.getD i default)) default).2.length 0)) rfl ?_;refine qy ?_;refine m9 3 ?_;refine r9 4 true ?_;refine w_3 ?_;refine zq ⟨[(3,some _),(4,some _),(10,some _),(11,some _),(12,some _)],[(900,some _),(901,some _),(906,some _),(907,some _)]⟩ kk ?_;refine aqo 4 900 906 907 908 hbf rfl rfl rfl rfl hr1 (by first | exact a35 _ _ _ _ _ | exact az6) (fun b _ hne=>by first | exact a7i hne | exact b09 hne) ?_;refine zq ⟨[(3,some _),(4,some _),(10,some _),(11,some _),(12,some _)],[(901,some _),(908,some _)]⟩ kk ?_;refine as5 4 908 900 rfl rfl ?_;refine w_4 ?_;refine lpz (i + 1,es2,clock2) ⟨⟨⟨_,rfl,(by rw [show (c6 ks (i + 1)).length = (db (c6 ks i) (ks.getD i default)).length by rw [mo,vu,a30]];exact CoR.refl _)⟩,tt⟩,⟨⟨_,rfl,(aua (by rw [mo,vu]) hr1 (c5 rfl (CoP.refl _)))⟩,uu⟩⟩ ?_;exact ⟨by show i + 1 <= _;omega,hA2.modify (by rw [mo,vu])⟩
 obtain rfl:i = ks.length:=by omega
 refine w_2 ?_;refine agd 900 rfl ?_;refine w_2 ?_;refine jc rfl rfl rfl rfl rfl rfl (wgx Tryz.func258) ((b83 ((c6 ks ks.length).map (·.2)) 259 0 (fun _=>.any) (fun l=>decide (l.length < 2)) (wgx Tryz.func259) (fun x=>bfr x))) (⟨congrArg (HV.ref 900) (by rw [bsc]),CoP.refl _,trivial⟩) ⟨⟨_,rfl,aui⟩,trivial⟩ rfl rfl ?_;refine v_2 ?_;exact ⟨CoC.one (CoP.of_eq (by unfold afr b63;rfl)),trivial⟩
end
end Go.Hx
