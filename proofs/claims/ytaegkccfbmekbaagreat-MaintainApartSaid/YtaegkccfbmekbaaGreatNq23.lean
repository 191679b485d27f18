/- A part of the proof: Ma6 Ma7 Hx20 Hx28 Hx29 Hx25. -/
import Derived.Laws.IdiomRangeMap
import Derived.Test.YtaegkccfbmekbaaGreatNq16
import Derived.Test.YtaegkccfbmekbaaGreatNq22
set_option linter.all false
section
namespace Go.Hx
theorem ik {k:Nat} (h:k < 4294967296):asI (BitVec.ofNat 32 k) = (k:Int):=by
 unfold asI
 rw [BitVec.toNat_ofNat,Nat.mod_eq_of_lt h]
theorem apz {n:Nat} (h:n ≤ 16):(b6 n).toNat + 1 ≤ 65536:=by
 rw [acf h]
 exact Nat.pow_le_pow_right (by omega) h
def a93 (b:List Fd) (x:Fd):Bool:=!(b.any fun y=>decide (x = y))
def er (a b:List Fd):List Fd:=a.filter (a93 b)
def i4 (a b:List Fd) (i:Nat):List Fd:=(a.take i).filter (a93 b)
def wo (a b:List Fd) (i k:Nat):Bool:=(b.take k).any fun y=>decide (a.getD i default = y)
theorem ald {a b:List Fd} {i:Nat} (hi:i < a.length) (h:wo a b i b.length = false):i4 a b (i + 1) = i4 a b i ++ [a.getD i default]:=by
 unfold wo at h
 rw [List.take_length] at h
 unfold i4
 rw [c8 hi,List.filter_append]
 simp only [List.filter_cons,a93,h,Bool.not_false,if_true,List.filter_nil]
theorem akl {a b:List Fd} {i:Nat} (hi:i < a.length) (h:wo a b i b.length = true):i4 a b (i + 1) = i4 a b i:=by
 unfold wo at h
 rw [List.take_length] at h
 unfold i4
 rw [c8 hi,List.filter_append]
 simp only [List.filter_cons,a93,h,Bool.not_true,Bool.false_eq_true,if_false,List.filter_nil,List.append_nil]
theorem aei (a b:List Fd) (i:Nat):(i4 a b i).length ≤ i:=Nat.le_trans (List.length_filter_le _ _) (by rw [List.length_take];omega)
theorem afl {a b:List Fd} {i:Nat} (h:a.length ≤ i):i4 a b i = er a b:=by unfold i4 er;rw [List.take_of_length_le h]
structure MOp where
 kind:UInt8
 id:UInt8
 attr:UInt8
 codes:List UInt8
instance:Inhabited MOp:=⟨⟨0,0,0,[]⟩⟩
def MOp.c (x:MOp):Nat → PV
 | 0=>.raw (.int .u8 (x.kind.toNat:Int))
 | 1=>.raw (.int .u8 (x.id.toNat:Int))
 | 2=>.raw (.int .u8 (x.attr.toNat:Int))
 | 3=>u8s x.codes
 | _=>.any
abbrev avq (l:List MOp):PV:=psl 4 MOp.c l
abbrev MOp.pc (x:MOp):PC:=.agg [x.c 0,x.c 1,x.c 2,x.c 3]
abbrev V0:Val:=⟨0,0,emp⟩
def gw (o:MOp):Int:=(o.id.toNat:Int) % 10
def aaq (n:Nat) (o:MOp):List Val:=if 8 < o.codes.length then gl o.codes n ++ [V0] else gl o.codes n
def mb (n:Nat) (o:MOp):Row:=⟨gw o,aaq n o⟩
def md (o:MOp):Val:=if 0 < o.codes.length then ofV (o.codes.getD 0 default) else V0
def om (n:Nat) (o:MOp):Int:=(o.attr.toNat:Int) % ((n:Int) + 1)
def f3 (t:Tbl) (r:Row):Int:=if c4 t r ≠ 0 then c4 t r else if 200 ≤ t.rows.length then 3 else 0
def kp (t:Tbl) (r:Row):Tbl:=if c4 t r ≠ 0 then t else if 200 ≤ t.rows.length then t else gj t r
def gf (s:ByteArray) (l:List ByteArray):Tbl:=⟨s,l,[]⟩
def j7 (s:ByteArray) (l:List ByteArray):Int:=if c6 (gf s l) ≠ 0 then c6 (gf s l) else if 8 < l.length then 3 else 0
def a0n (s:ByteArray) (l:List ByteArray):Tbl:=if j7 s l = 0 then gf s l else T0
theorem as3 {s:ByteArray} {l:List ByteArray} (h:¬ c6 (gf s l) = 0):j7 s l = c6 (gf s l) ∧ a0n s l = T0:=by
 have e:j7 s l = c6 (gf s l):=if_pos h
 exact ⟨e,if_neg (by rw [e];exact h)⟩
theorem at7 {s:ByteArray} {l:List ByteArray} (h:c6 (gf s l) = 0) (h8:8 < l.length):j7 s l = 3 ∧ a0n s l = T0:=by
 have e:j7 s l = 3:=by unfold j7;rw [if_neg (by simpa using h),if_pos h8]
 exact ⟨e,if_neg (by rw [e];decide)⟩
theorem avc {s:ByteArray} {l:List ByteArray} (h:c6 (gf s l) = 0) (h8:¬ 8 < l.length):j7 s l = 0 ∧ a0n s l = gf s l:=by
 have e:j7 s l = 0:=by unfold j7;rw [if_neg (by simpa using h),if_neg h8]
 exact ⟨e,if_pos e⟩
def opE (t:Tbl) (o:MOp):Int :=
 if o.kind.toNat % 4 = 2 then dq t (gw o) else if o.kind.toNat % 4 = 3 then cz t (gw o) (om t.attrs.length o) (md o) else f3 t (mb t.attrs.length o)
def opT (t:Tbl) (o:MOp):Tbl :=
 if o.kind.toNat % 4 = 2 then (if dq t (gw o) = 0 then ml t (gw o) else t)
 else if o.kind.toNat % 4 = 3 then (if cz t (gw o) (om t.attrs.length o) (md o) = 0 then chT t (gw o) (om t.attrs.length o) (md o) else t)
 else kp t (mb t.attrs.length o)
theorem op2 {t:Tbl} {o:MOp} (h:o.kind.toNat % 4 = 2):opE t o = dq t (gw o) ∧ opT t o = (if dq t (gw o) = 0 then ml t (gw o) else t):=by simp [opE,opT,h]
theorem op3 {t:Tbl} {o:MOp} (h2:¬ o.kind.toNat % 4 = 2) (h:o.kind.toNat % 4 = 3):opE t o = cz t (gw o) (om t.attrs.length o) (md o) ∧ opT t o = (if cz t (gw o) (om t.attrs.length o) (md o) = 0 then chT t (gw o) (om t.attrs.length o) (md o) else t):=by simp [opE,opT,h]
theorem op0 {t:Tbl} {o:MOp} (h2:¬ o.kind.toNat % 4 = 2) (h:¬ o.kind.toNat % 4 = 3):opE t o = f3 t (mb t.attrs.length o) ∧ opT t o = kp t (mb t.attrs.length o):=by simp [opE,opT,h2,h]
def s4 (l:List UInt8):List Val:=l.map ofV
end Go.Hx
end
section
namespace Go.Hx
theorem agy (b:List Fd) (x:Fd):(b.any fun y=>decide (y = x)) = b.any fun y=>decide (x = y):=by
 congr 1
 funext y
 exact decide_eq_decide.2 eq_comm
theorem v2 {a b:List Fd} {i:Nat} (hi:i < a.length) (h:(b.any fun y=>decide (y = a.getD i default)) = false):i4 a b (i + 1) = i4 a b i ++ [a.getD i default] :=
 ald hi (by rw [agy] at h;unfold wo;rw [List.take_length];exact h)
theorem uq {a b:List Fd} {i:Nat} (hi:i < a.length) (h:(b.any fun y=>decide (y = a.getD i default)) = true):i4 a b (i + 1) = i4 a b i :=
 akl hi (by rw [agy] at h;unfold wo;rw [List.take_length];exact h)
theorem aim (l:List UInt8):(s4 l).length = l.length:=List.length_map _
theorem ai6 {l:List UInt8} {i:Nat} (h:i < l.length):(s4 l).getD i default = ofV (l.getD i default):=by
 simp [s4,List.getD,h]
def awu (x:Rcp) (n:Int):Bool:=decide (¬ (x.rows.length:Int) > n)
def awt (x:Rcp) (n:Nat):Tbl:=if x.rows.length > n then T0 else aqb x (x.attrs.toNat % 6)
end Go.Hx
end
section
namespace Go.Hx
open Go.RowKit
def awk (P:Program) (g:FuncId) (caps:List PC) (n:Nat) (xs:Nat → List PC):Prop :=
 ∀ (imm:Imm) (_:ov imm) (us:List Value) (W:World) (l:Nat) (J:Nat → World → Prop),cr imm caps us →
  (∀ i A,J i A → ∀ b ob,imm b = some ob → A.heap[b]? = some ob) →
  (∀ i A A',J i A → Below A.heap.size A A' → J i A') →
  (∀ i A vs,i < n → J i A → cr imm (xs i) vs → YieldAt (rf none) 0 P l vs.toArray A fun e A'=>e = .returned (.bool true) ∧ J (i + 1) A') →
  J 0 W → CallsIn (rf none) 0 P g (#[.func (.yield l) #[] #[]] ++ us.toArray) W fun e W'=>(∃ v,e = .returned v) ∧ J n W'
section
variable {P:Program} {nt:Nat} {c:Ctx} {s:S} {a:Act} {w w0:World}
end
def asi (r:Nat → Nat):List (Nat × Option HR) → List (Nat × Option HR)
 | []=>[]
 | (d,some x) :: l=>(d,some (x.ren r)) :: asi r l
 | (d,none) :: l=>(d,none) :: asi r l
def rgB (r:Nat → Nat) (T:List (Nat × Option HR)) (o1 o2:List (Nat × ag)) (fx:List Nat):Bool :=
 (fx.all fun id=>Nat.ble 1000 (r id)) && ((dh o2).all fun id=>(pe fx id && pe (dh o1) id) || (Nat.blt id 1000 && nmT id T)) && (a7f o2).all (pe (dh o2))
def ax1 (P:Program) (nt l:Nat) (body:Code) (Q:HSt → Prop) (e:Exit) (st:HSt):Prop:=e = .normal ∧ HW (ro:=some l) P nt body st fun e st=>e = .normal ∧ Q st
section
variable {P:Program} {E:Env} {nt:Nat} {ops:Array Oper} {i:Nat} {o:Oper} {Q:Exit → Act → World → Prop} {a:Act} {A:World} {imm:Imm}
def ard (d:Option Tmp) (x:HR) (t:List (Nat × Option HR)):List (Nat × Option HR):=match d with | some d=>(d,some x) :: t | none=>t
class TabC (imm:Imm):Prop where
 ok:ov imm
def cI (imm:Imm) (A:World) [ht:TabC imm]:Ctx:={ old:=(imm,fp A,(fun _=>undef),(fun _=>none),fun _ _=>undef),imm:=imm,tab:=ht.ok,own:=fun _=>undef,blk:=fun _=>noB,rows:=fun _ _=>undef }
variable [TabC imm]
structure It (imm:Imm) [TabC imm] (nt:Nat) (t:List (Nat × Option HR)) (a:Act) (A:World):Prop where
 defers:a.defers = []
 rel:al A nt (cI imm A) ⟨bj t,fun _=>none⟩ a A
theorem It.sub {t t':List (Nat × Option HR)} (h:It imm nt t a A) (hs:zz t' t):It imm nt t' a A :=
 ⟨h.defers,h.rel.relax ⟨bj t',fun _=>none⟩ (fun d x hx=>ux hs d x hx) (fun id ob ho=>by cases ho)⟩
theorem It.move {t:List (Nat × Option HR)} {A':World} (h:It imm nt t a A) (hi:∀ b ob,imm b = some ob → A'.heap[b]? = some ob):It imm nt t a A':=by
 refine ⟨h.defers,by rw [h.defers];exact o9.nil _ _ _ _,h.rel.size,Below.refl _ _,fun d x hx=>?_,(fun id ob ho=>by cases ho),(fun i i' ob ob' b ho=>by cases ho),hi,(fun id ob b ho=>by cases ho),fun b _=>rfl,fun b ob hb=>hb,(fun id ob b ho=>by cases ho),fun id _=>.inl rfl⟩
 exact b7.evo (c:=cI imm A) (o:=fun _=>none) (Imm.le.refl imm) (fun _ _=>.inl rfl) (h.rel.tmps d x hx)
theorem It.put {t:List (Nat × Option HR)} (h:It imm nt t a A) {d:Option Tmp} (hd:d8 nt d = true) (x:HR) (v:Value) (hx:b7 (cI imm A) (fun _=>none) x v):It imm nt (ard d x t) (a.put d v) A:=by
 cases d with
 | none=>exact h
 | some d =>
  have:=h.rel.put d (of_decide_eq_true hd) (some x) v (fun y hy=>by cases hy;exact hx)
  refine ⟨h.defers, ?_⟩
  have e:(S.put ⟨bj t,fun _=>none⟩ d (some x)) = ⟨bj ((d,some x) :: t),fun _=>none⟩:=by
   unfold S.put
   simp [bo]
  rw [e] at this
  exact this
theorem aoa {t:List (Nat × Option HR)} (h:It imm nt t a A) {x:Operand} {r:HR} (hx:ev ⟨bj t,fun _=>none⟩ x = some r):b7 (cI imm A) (fun _=>none) r (a.eval x):=ai h.rel hx
theorem iy {t:List (Nat × Option HR)} {L:List Nat} {cl:Call} {f:Operand} {l:Nat} {R:World → Prop} (h:It imm nt t a A) (hi:ops[i]? = some o) (hw:bh ops ⟨bj t,fun _=>none⟩ o = some true) (hd:d8 nt o.dst = true) (ho:o.op = .call cl) (hcl:cl.callee = .value f) (hf:ev ⟨bj t,fun _=>none⟩ f = some (c5 (.raw (.func (.yield l) #[] #[]))))
 (hy:YieldAt (rf none) 0 P l (cl.args.toList.map a.eval).toArray A fun e A'=>e = .returned (.bool true) ∧ R A') (him:∀ A',R A' → ∀ b ob,imm b = some ob → A'.heap[b]? = some ob)
 (hK:∀ a' A',R A' → It imm nt (ard o.dst (c5 (.raw (.bool true))) t) a' A' → wpOpsIn (rf none) 0 P ops Q L a' A'):wpOpsIn (rf none) 0 P ops Q (i :: L) a A:=by
 rw [wpOpsIn_cons]
 unfold wpOpIn
 simp only [hi]
 rw [if_pos (en h.rel hw)]
 obtain ⟨fn,tmps,assign,body,hyr,hround⟩:=hy
 have hfe:a.eval f = .func (.yield l) #[] #[]:=(aoa h hf).1
 refine ⟨fun _ _=>trivial, ?_⟩
 have hsem:Oper.semAt (rf none).round a.eval o = execOp a.eval o:=rfl
 rw [hsem]
 have hma:(cl.args.toList.map a.eval).toArray = cl.args.map a.eval:=by apply Array.toList_inj.1;rw [Array.toList_map]
 rw [hma] at hyr
 have hrun:(execOp a.eval o).run P A = .ok (.round l fn tmps assign body) A:=by
  simp only [execOp,ho,resolve,hcl,hfe,Sem.run_bind,Deferred.ofValue,Sem.run_pure,Result.andThen_ok,invoke]
  simpa using hyr
 rw [hrun,Oper.uponIn_round]
 refine ⟨fun hh=>absurd hh (by simp [rf]),hround.mono ?_⟩
 rintro e A' ⟨rfl,hR⟩
 exact hK _ A' hR ((h.move (him A' hR)).put hd (c5 (.raw (.bool true))) (.bool true) ⟨rfl,rfl⟩)
end
theorem CoP.vp {k k':Nat} {f f':Nat → PV} (hk:k' = k) (hf:∀ j,j < k → CoP (f j) (f' j)):CoP (.vp k f) (.vp k' f'):=by
 subst hk
 rintro m u ⟨b,off,rfl,h⟩
 exact ⟨b,off,rfl,fun j hj=>by
  obtain ⟨x,hx,hr⟩:=h j hj
  exact ⟨x,hx,hf j hj m x hr⟩⟩
theorem CoP.fn {g:FuncId} {k k':Nat} {f f':Nat → PV} (hk:k' = k) (hf:∀ j,j < k → CoP (f j) (f' j)):CoP (.fn g k f) (.fn g k' f'):=by
 subst hk
 rintro m u ⟨cs,rfl,hl,h⟩
 exact ⟨cs,rfl,hl,fun j hj=>by
  obtain ⟨x,hx,hr⟩:=h j hj
  exact ⟨x,hx,hf j hj m x hr⟩⟩
def RN (P:Program) (nt:Nat) (ops:Array Oper) (L:List Nat) (st:HSt) (Q:HSt → Prop):Prop :=
 ∀ (ro:Option Nat) (n:Nat) w0 m0 a w (QQ:Exit → Act → World → Prop),Rel w0 m0 nt st.den a w → (∀ st' a' w',Q st' → Rel w0 m0 nt st'.den a' w' → QQ .normal a' w') → wpOpsIn (rf ro) n P ops QQ L a w
section
variable {P:Program} {E:Env} {nt:Nat} {ops:Array Oper} {st:HSt}
theorem a2g (hE:cq P E) {ro:Option Nat} {n:Nat} {w0:World} {m0:Old} {sf:S} {L2:List Nat} {QQ:Exit → Act → World → Prop} (hQ:∀ a' w',Rel w0 m0 nt sf a' w' → wpOpsIn (rf ro) n P ops QQ L2 a' w') :
 ∀ (T:List Tr) (s:S) (a:Act) (w:World),jl P E nt ops T s sf → Rel w0 m0 nt s a w → wpOpsIn (rf ro) n P ops QQ (T.map (·.i) ++ L2) a w
 | [],s,a,w,hT,hr=>by
  cases hT
  exact hQ _ _ hr
 | t :: T,s,a,w,hT,hr=>by
  cases hT with
  | cons hi he hR hO hF hrest =>
  rw [List.map_cons,List.cons_append,wpOpsIn_cons]
  exact zx hE he hr hi fun a' w' hr'=>a2g hE hQ T _ a' w' hrest hr'
theorem cj (hE:cq P E) {L1 L2:List Nat} {Q:HSt → Prop} (h:Reg P E nt ops L1 st fun _ sf=>RN P nt ops L2 sf Q):RN P nt ops (L1 ++ L2) st Q:=fun ro n w0 m0 a w QQ hr hQ=>by
 obtain ⟨T,sf,hl,hT,h⟩:=h
 rw [← hl]
 exact a2g hE (fun a' w' hr'=>h ro n w0 m0 a' w' QQ hr' hQ) T _ a w hT hr
theorem dm {Q:HSt → Prop} (h:Q st):RN P nt ops [] st Q:=fun ro n w0 m0 a w QQ hr hQ=>hQ st a w h hr
theorem gt {L:List Nat} {Q:HSt → Prop} (h:HE nt st fun st'=>RN P nt ops L st' Q):RN P nt ops L st Q:=fun ro n w0 m0 a w QQ hr hQ=>by
 obtain ⟨st',h1,h2⟩:=h w0 m0 a w hr
 exact h1 ro n w0 m0 a w QQ h2 hQ
theorem c7 {ro:Option Nat} {Q:Exit → HSt → Prop} {id:Nat} (L1 L2:List Nat) (hl:List.range ops.size = L1 ++ L2) (h:RN P nt ops (L1 ++ L2) st (Q .normal)):HW (ro:=ro) P nt (.region id ops false) st Q:=fun w0 m0 a w hr=>by
 refine wpIn_region ?_
 rw [hl]
 exact h ro 0 w0 m0 a w _ hr fun st' a' w' hq hr'=>⟨st',hq,hr'⟩
theorem aj9 {Q:HSt → Prop} (st1:HSt) (d:Nat) (x:HR) (hs:∀ w0 m0 a w,Rel w0 m0 nt st.den a w → ∃ cc,cc.old = m0 ∧ al w0 nt cc st1.den a w ∧ b7 cc st1.den.o x (a.tmps.getD d undef))
 (h:HE nt ⟨(d,some x) :: st1.t,st1.o⟩ Q):HE nt st Q:=fun w0 m0 a w hr=>by
 obtain ⟨cc,hold,hrr,hx⟩:=hs w0 m0 a w hr
 refine h w0 m0 a w ⟨cc,hold,hrr.defers,hrr.size,hrr.below,fun k y hy=>?_,hrr.objs,hrr.inj,hrr.imm,hrr.sep,hrr.was,hrr.frm,hrr.fsep,hrr.fixed⟩
 simp only [HSt.den] at hy
 rw [bo] at hy
 dsimp only at hy
 split at hy
 · rename_i hk
   subst hk
   simp only [Option.some.injEq] at hy
   subst hy
   exact hx
 · exact hrr.tmps k y hy
theorem zl {Q:HSt → Prop} (d:Nat) {id n n' s:Nat} {wr:Bool} {e:TypeId} {f:Nat → Nat → PV} (hd:bj st.t d = some (.v (.one (.ref id n)))) (ho:bj st.o id = some (.arr wr s e n' f)) (hn:n' = n)
 (h:HE nt ⟨(d,some (c5 (.sl n s false f))) :: st.t,(id,none) :: st.o⟩ Q):HE nt st Q:=by
 subst hn
 refine aj9 ⟨st.t,(id,none) :: st.o⟩ d (c5 (.sl n' s false f)) (fun w0 m0 a w hr=>?_) h
 obtain ⟨cc,hold,hrr⟩:=hr
 refine ⟨_, ?_,by rw [tu];exact hrr.freeze ho, ?_⟩
 · exact hold
 · obtain ⟨_,_,h3⟩:=hrr.tmps d _ hd
   have:=(h3 _ _ _ _ ho rfl).2 rfl
   rw [this]
   exact oj hrr ho
end
end Go.Hx
end
section
namespace Go.Hx
open Go.RowKit
structure ExF (kk:KK) (n:Nat) (f:MK → Option PV) (es:Array MapEntry) (clock:Nat):Prop where
 st:Go.MapKept.Stamped es clock
 le:es.size ≤ n
 mx:es.size ≤ maxLen
 to:∀ x ∈ es.toList,∃ key v,x.key = key.val ∧ f key = some (.raw v) ∧ x.val = v ∧ v.oneCell' = true
 of:∀ key y,f key = some y → MK.ok kk key ∧ ∃ x ∈ es.toList,x.key = key.val
structure Vis (es:Array MapEntry) (seen:Array Nat) (vs:List MK):Prop where
 nod:vs.Nodup
 inn:∀ k ∈ vs,∃ x ∈ es.toList,x.key = k.val ∧ seen.contains x.born = true
 all:∀ x ∈ es.toList,seen.contains x.born = true → ∃ k ∈ vs,x.key = k.val
theorem w4 {es:Array MapEntry}:Vis es #[] [] where
 nod:=List.nodup_nil
 inn:=fun k hk=>by cases hk
 all:=fun x _ h=>by simp at h
section
variable {kk:KK} {n:Nat} {f:MK → Option PV} {es:Array MapEntry} {clock:Nat} {seen:Array Nat} {vs:List MK} {e:MapEntry} {key:MK}
theorem ang (hf:ExF kk n f es clock) {x y:MapEntry} (hx:x ∈ es.toList) (hy:y ∈ es.toList) (h:x.key = y.key):x = y:=by
 have hp:=((Go.MapKept.stamped_iff es clock).1 hf.st).2.2
 obtain ⟨i,hi,rfl⟩:=List.getElem_of_mem hx
 obtain ⟨j,hj,rfl⟩:=List.getElem_of_mem hy
 rcases Nat.lt_trichotomy i j with h1 | h1 | h1
 · exact absurd h (List.pairwise_iff_getElem.1 hp i j hi hj h1)
 · subst h1;rfl
 · exact absurd h.symm (List.pairwise_iff_getElem.1 hp j i hj hi h1)
theorem akp (hf:ExF kk n f es clock) (h:Vis es seen vs) (he:e ∈ (leftOf es seen).toList) (hk:e.key = key.val):key ∉ vs ∧ Vis es (seen.push e.born) (vs ++ [key]):=by
 obtain ⟨h1,h2⟩:=mem_left he
 have hno:key ∉ vs:=fun hm=>by
  obtain ⟨x,q1,q2,q3⟩:=h.inn key hm
  have:x = e:=ang hf q1 h1 (q2.trans hk.symm)
  subst this
  rw [q3] at h2
  cases h2
 refine ⟨hno,List.nodup_append.2 ⟨h.nod,by simp,fun a ha b hb=>?_⟩,fun k hk'=>?_,fun x hx hc=>?_⟩
 · simp only [List.mem_singleton] at hb
   subst hb
   rintro rfl
   exact hno ha
 · rcases List.mem_append.1 hk' with hk' | hk'
   · obtain ⟨x,q1,q2,q3⟩:=h.inn k hk'
     exact ⟨x,q1,q2,by rw [contains_push,q3];rfl⟩
   · simp only [List.mem_singleton] at hk'
     subst hk'
     exact ⟨e,h1,hk,by rw [contains_push];simp⟩
 · rw [contains_push,Bool.or_eq_true] at hc
   rcases hc with hc | hc
   · obtain ⟨k,q1,q2⟩:=h.all x hx hc
     exact ⟨k,List.mem_append_left _ q1,q2⟩
   · have:x = e:=born_inj hf.st.2.1 hx h1 (by simpa using hc)
     subst this
     exact ⟨key,by simp,hk⟩
theorem aow (hf:ExF kk n f es clock) (h:Vis es seen vs) (h0:(leftOf es seen).size = 0) {y:PV} (hy:f key = some y):key ∈ vs:=by
 obtain ⟨_,x,q1,q2⟩:=hf.of key y hy
 obtain ⟨k,q3,q4⟩:=h.all x q1 (all_seen es seen h0 x q1)
 rwa [MK.val_inj (q2.symm.trans q4)]
theorem apc (hf:ExF kk n f es clock) (h:Vis es seen vs) (hk:key ∈ vs):∃ v,f key = some (.raw v):=by
 obtain ⟨x,q1,q2,_⟩:=h.inn key hk
 obtain ⟨k,v,r1,r2,_⟩:=hf.to x q1
 rw [MK.val_inj (q2.symm.trans r1)]
 exact ⟨v,r2⟩
end
section
variable {nt:Nat} {st:HSt}
theorem qz {Q:HSt → Prop} (mid:Nat) {kk:KK} {n:Nat} {f:MK → Option PV} (ho:bj st.o mid = some (.mp kk n f)) (hraw:∀ key y,f key = some y → ∃ v,y = .raw v)
 (h:∀ b es clock,ExF kk n f es clock → HE nt ⟨st.t,(mid,some (.ex 0 (.map (some b)) b (.map es clock))) :: st.o⟩ Q):HE nt st Q:=fun w0 m0 a w hr=>by
 obtain ⟨cc,hold,hrr⟩:=hr
 obtain ⟨b,es,clock,h1,h2,h3,h4,h5,h6,h7,h8,h9⟩:=hrr.objs mid _ ho
 refine h b es clock ⟨h5,h6,h7,fun x hx=>?_,h9⟩ w0 m0 a w ?_
 · obtain ⟨key,y,q1,q2,q3⟩:=h8 x hx
   obtain ⟨v,rfl⟩:=hraw key y q2
   obtain ⟨e1,e2⟩:=q3
   exact ⟨key,v,q1,q2,e1,e2⟩
 · have hw:=hrr.write mid (.mp kk n f) ho (.ex 0 (.map (some b)) b (.map es clock)) w (cc.own mid) (cc.blk mid) none (Grw.refl w _) (fun _ e=>by cases e)
    (.inr (.inr ⟨_, .ex 0 (.map (some b)) b (.map es clock),0,0,0,0,ho,rfl,by simp [S.setO],rfl,Nat.le_refl _,fun _=>by simp,fun _ _ _ _ _ _ _ hb=>by cases hb⟩)) (fun b hb=>.inl hb) ⟨by simpa using h1,by simpa using h2,h3.1,h4,rfl⟩
   rw [← jo] at hw
   exact ⟨_,(by exact hold),hw⟩
theorem oh {Q:HSt → Prop} (mid:Nat) {kk:KK} {n b clock:Nat} {es:Array MapEntry} {f:MK → Option PV} (ho:bj st.o mid = some (.ex 0 (.map (some b)) b (.map es clock))) (hf:ExF kk n f es clock)
 (h:HE nt ⟨st.t,(mid,some (.mp kk n f)) :: st.o⟩ Q) (hh:kk.has b:=by exact trivial):HE nt st Q:=fun w0 m0 a w hr=>by
 obtain ⟨cc,hold,hrr⟩:=hr
 obtain ⟨h1,h2,h3,h4,h5⟩:=hrr.objs mid _ ho
 refine h w0 m0 a w ?_
 have hw:=hrr.write mid (.ex 0 (.map (some b)) b (.map es clock)) ho (.mp kk n f) w (cc.own mid) (cc.blk mid) none (Grw.refl w _) (fun _ e=>by cases e)
  (.inr (.inr ⟨_, .mp kk n f,0,0,0,0,ho,rfl,by simp [S.setO],rfl,Nat.le_refl _,fun _=>by simp,fun _ _ _ _ _ _ _ hb=>by cases hb⟩)) (fun b hb=>.inl hb) ⟨b,es,clock,by simpa using h1,by simpa using h2,⟨h3,hh⟩,h4,hf.st,hf.le,hf.mx,fun x hx=>by
   obtain ⟨key,v,q1,q2,q3,q4⟩:=hf.to x hx
   exact ⟨key, .raw v,q1,q2,q3,q4⟩,hf.of⟩
 rw [← jo] at hw
 exact ⟨_,(by exact hold),hw⟩
end
theorem adb {P:Program} (w:World) (ty:TypeId) (bi b clock:Nat) (seen:Array Nat) (es:Array MapEntry) (hit:w.heap[bi]? = some (.mapIter (some b) clock seen clock)) (hb:w.heap[b]? = some (.map es clock)) (hold:∀ x ∈ es.toList,x.born < clock) :
 ((leftOf es seen).size = 0 ∧ (Instr.next (.pointer (some ⟨bi,0,none⟩)) false ty).run P w = .ok (.tuple #[.bool false]) w) ∨
 ∃ e ∈ (leftOf es seen).toList,∃ w1:World,(w1 = w ∨ w1 = w.drew) ∧ (Instr.next (.pointer (some ⟨bi,0,none⟩)) false ty).run P w = .ok (.tuple #[.bool true,e.key,e.val]) { w1 with heap:=w.heap.setIfInBounds bi (.mapIter (some b) clock (seen.push e.born) clock) }:=by
 have hbi:bi < w.heap.size:=(Array.getElem?_eq_some_iff.1 hit).1
 simp only [Instr.next,getObj,Sem.run_bind,Sem.run,hit,hb,Result.andThen,next_test_false seen es clock clock hold (Nat.le_refl _),Bool.false_eq_true,if_false]
 unfold leftOf
 have hmem:∀ x ∈ (Array.filter (fun e=>!seen.contains e.born) es).toList,x.born < clock:=fun x hx=>hold x (by simp at hx ⊢;exact hx.1)
 generalize Array.filter (fun e=>!seen.contains e.born) es = L at hmem ⊢
 have e1:L.filter (fun x=>decide (x.born < clock)) = L:=Array.filter_eq_self.2 (fun x hx=>by simpa using hmem x (by simpa using hx))
 have e2:L.filter (fun x=>decide (x.born ≥ clock)) = #[]:=by
  rw [Array.filter_eq_empty_iff]
  intro x hx
  have:=hmem x (by simpa using hx)
  simp
  omega
 simp only [e1,e2,Array.append_empty]
 by_cases h0:L.size = 0
 · left
   have:L = #[]:=Array.eq_empty_of_size_eq_zero h0
   subst this
   refine ⟨rfl, ?_⟩
   simp [choose,Sem.run,Question.forced]
 · right
   have hne:L.isEmpty = false:=by
    rw [Bool.eq_false_iff]
    intro h
    exact h0 (by simpa [Array.isEmpty] using h)
   have hsz:(Array.map some L).size = L.size:=by simp
   simp only [hne,Bool.false_eq_true,if_false,Array.empty_append,hsz]
   by_cases h1:L.size ≤ 1
   · have hp:0 < L.size:=by omega
     refine ⟨L[0],by simp,w, .inl rfl, ?_⟩
     have hq:(Question.mapNext L.size).forced = true:=by simpa [Question.forced] using h1
     have hg:(Array.map some L)[0]? = some (some L[0]):=by simp [hp]
     simp [choose,Sem.run,hq,hg,setObj,hit,Result.andThen]
   · have hq:(Question.mapNext L.size).forced = false:=by simpa [Question.forced] using h1
     have hlt:(Question.mapNext L.size).cut (w.tape w.drawn (.mapNext L.size)) < L.size:=Nat.mod_lt _ (by omega)
     generalize hk:(Question.mapNext L.size).cut (w.tape w.drawn (.mapNext L.size)) = k at hlt
     refine ⟨L[k],by simp,w.drew, .inr rfl, ?_⟩
     have hg:(Array.map some L)[k]? = some (some L[k]):=by simp [hlt]
     simp only [choose,Sem.run,hq,hk,hg,setObj,Sem.run_bind,hit,Result.andThen,Bool.false_eq_true,if_false]
     rfl
theorem al0 (w w1:World) (h:w1 = w ∨ w1 = w.drew) (bi:Nat) (o:Obj):Grw w { w1 with heap:=w.heap.setIfInBounds bi o } (some bi):=by
 have hb:∀ k,some k ≠ some bi → (w.heap.setIfInBounds bi o)[k]? = w.heap[k]?:=fun k hk=>Array.getElem?_setIfInBounds_ne (fun e=>hk (by rw [e]))
 rcases h with rfl | rfl
 · exact ⟨⟨rfl,rfl,rfl,by simp,fun k _ hk=>hb k hk⟩,Nat.le_refl _⟩
 · exact ⟨⟨rfl,rfl,rfl,by simp,fun k _ hk=>hb k hk⟩,Nat.le_succ _⟩
theorem aan {P:Program} (w:World) (bi bm clock:Nat) (seen:Array Nat) (es:Array MapEntry) (e:MapEntry) (hit:w.heap[bi]? = some (.mapIter (some bm) clock (seen.push e.born) clock)) (hb:w.heap[bm]? = some (.map es clock)) (he:e ∈ es.toList) (hn:(es.toList.map (·.born)).Nodup) :
 (Instr.entry (.pointer (some ⟨bi,0,none⟩))).run P w = .ok (.tuple #[e.key,e.val]) w:=by
 have hf:es.find? (·.born == e.born) = some e:=by rw [← Array.find?_toList];exact find_born e es.toList hn he
 simp only [Instr.entry,getObj,Sem.run_bind,Sem.run,hit,hb,Result.andThen,Array.back?_push,bne_self_eq_false,Bool.false_eq_true,if_false,hf]
 rfl
abbrev itO (bi b clock:Nat) (seen:Array Nat):ag:=.ex 2 (.pointer (some ⟨bi,0,none⟩)) bi (.mapIter (some b) clock seen clock)
abbrev mpO (b:Nat) (es:Array MapEntry) (clock:Nat):ag:=.ex 0 (.map (some b)) b (.map es clock)
section
variable {P:Program} {nt:Nat} {ops:Array Oper} {st:HSt}
theorem ap1 (st:HSt) (d:Nat) (x:HR):HSt.den ⟨(d,some x) :: st.t,st.o⟩ = st.den.putD (some d) (some x):=by
 unfold HSt.den S.putD S.put
 simp [bo]
theorem ac9 {k d:Nat} {o:Oper} {L:List Nat} {Q:HSt → Prop} (hi:ops[k]? = some o) (hg:o.guard = none) (hd:o.dst = some d) (hdn:d8 nt (some d) = true) (hnd:∀ c,o.op ≠ .defer c)
 (h:∀ w0 a w c,al w0 nt c st.den a w → ∃ v w' o' x c',c'.old = c.old ∧ (execOp a.eval o).run P w = .ok (.value v) w' ∧ al w0 nt c' (HSt.den ⟨st.t,o'⟩) a w' ∧ b7 c' (HSt.den ⟨st.t,o'⟩).o x v ∧ RN P nt ops L ⟨(d,some x) :: st.t,o'⟩ Q):RN P nt ops (k :: L) st Q:=fun ro n w0 m0 a w QQ ⟨c,hold,hr⟩ hQ=>by
 obtain ⟨v,w',o',x,c',h1,h2,h3,h4,h5⟩:=h w0 a w c hr
 rw [wpOpsIn_cons]
 unfold wpOpIn
 simp only [hi]
 have hw:Region.wanted o (yielded ops a.tmps) = true:=by unfold Region.wanted;rw [hg]
 rw [if_pos hw]
 refine vv hnd ?_
 unfold Oper.wp
 rw [h2]
 refine h5 ro n w0 m0 _ w' QQ ⟨c',h1.trans hold, ?_⟩ hQ
 rw [hd,ap1 ⟨st.t,o'⟩ d x]
 exact h3.putD (some d) (fun k hk=>by cases hk;exact of_decide_eq_true hdn) (some x) v fun y hy=>by cases hy;exact h4
variable {k:Nat} {o:Oper} {L:List Nat} {Q:HSt → Prop} {x:Operand} {mid j b clock d bi id n:Nat} {es:Array MapEntry} {seen:Array Nat} {kk:KK} {f:MK → Option PV}
theorem aay {w0:World} {c:Ctx} {s:S} {a:Act} {w:World} (h:al w0 nt c s a w) {v:Value} {y:Obj} {dd:Nat} (hx:ev s x = some (.v (.one (.ref mid j)))) (hm:s.o mid = some (.ex dd v b y)):a.eval x = v ∧ w.heap[b]? = some y:=by
 obtain ⟨h1,h2,h3,h4,h5⟩:=h.objs mid _ hm
 have hu:bp c s.o (.ref mid j) (a.eval x):=ai h hx
 obtain ⟨_,_,hu⟩:=hu
 have h6:=hu _ _ _ _ hm rfl
 exact ⟨(h6.2 (by omega)).trans h1,h4⟩
theorem ue (id:Nat) {t kt et:TypeId} (hi:ops[k]? = some o) (ht:P.underlying t = some (.map kt et)) (h:∀ bi,RN P nt ops L ⟨(d,some (.v (.one (.ref id 0)))) :: st.t,(id,some (itO bi b clock #[])) :: st.o⟩ Q)
 (hg:o.guard = none:=by exact rfl) (ho:o.op = .range t x:=by exact rfl) (hd:o.dst = some d:=by exact rfl) (hdn:d8 nt (some d) = true:=by exact rfl)
 (hx:ev st.den x = some (.v (.one (.ref mid j))):=by exact rfl) (hm:st.den.o mid = some (mpO b es clock):=by exact rfl) (hn:jv id st = true:=by exact rfl):RN P nt ops (k :: L) st Q :=
 ac9 hi hg hd hdn (fun c hc=>by rw [hc] at ho;cases ho) fun w0 a w c hrr=>by
  obtain ⟨e1,e2⟩:=aay hrr hx hm
  obtain ⟨hnm,hno⟩:=f8 hn
  have hf:=hrr.fresh id hnm hno (itO w.heap.size b clock #[]) (w.alloc (.mapIter (some b) clock #[] clock)) (.pointer (some ⟨w.heap.size,0,none⟩)) (tl w.heap.size) (Grw.alloc w _ none) (fun b hb=>Nat.le_of_eq (Eq.symm hb))
   ⟨by simp,by simp,Nat.zero_le _,Go.heap_alloc_new w _,rfl⟩
  rw [← jo] at hf
  refine ⟨.pointer (some ⟨w.heap.size,0,none⟩),_,_, .v (.one (.ref id 0)),_,(by exact rfl), ?_,hf,⟨rfl,fun l=>by simp [jo,S.setO],fun ob2 s2 e2 n2 ho2 hd2=>?_⟩,h w.heap.size⟩
  · simp [execOp,ho,e1,run_range_map w t kt et b es clock ht e2]
  · rw [jo] at ho2
    simp only [S.setO,if_true,Option.some.injEq] at ho2
    subst ho2
    simp only [ag.dim,Option.some.injEq,Prod.mk.injEq] at hd2
    obtain ⟨rfl,rfl,rfl⟩:=hd2
    exact ⟨Nat.le_refl _,fun _=>by simp⟩
theorem wn (hi:ops[k]? = some o) (hf:ExF kk n f es clock)
 (h0:(leftOf es seen).size = 0 → RN P nt ops L ⟨(d,some (.tup [.one (.p (.raw (.bool false)))])) :: st.t,st.o⟩ Q)
 (h1:∀ e ∈ (leftOf es seen).toList,∀ key v,e.key = key.val → f key = some (.raw v) → e.val = v → RN P nt ops L ⟨(d,some (.tup [.one (.p (.raw (.bool true))), .one (.p (.raw key.val)), .one (.p (.raw v))])) :: st.t,(id,some (itO bi b clock (seen.push e.born))) :: st.o⟩ Q)
 (hg:o.guard = none:=by exact rfl) (ho:o.op = .next x false:=by exact rfl) (hd:o.dst = some d:=by exact rfl) (hdn:d8 nt (some d) = true:=by exact rfl)
 (hx:ev st.den x = some (.v (.one (.ref id j))):=by exact rfl) (hm:st.den.o id = some (itO bi b clock seen):=by exact rfl)
 (hm2:st.den.o mid = some (mpO b es clock):=by exact rfl):RN P nt ops (k :: L) st Q :=
 ac9 hi hg hd hdn (fun c hc=>by rw [hc] at ho;cases ho) fun w0 a w c hrr=>by
  obtain ⟨e1,e2⟩:=aay hrr hx hm
  obtain ⟨_,_,_,e3,_⟩:=hrr.objs mid _ hm2
  have hob:=hrr.objs id _ hm
  rcases adb (P:=P) w o.type bi b clock seen es e2 e3 hf.st.1 with ⟨h2,h3⟩ | ⟨e,he,w1,hw1,h3⟩
  · exact ⟨_,w,st.o, .tup [.one (.p (.raw (.bool false)))],c,rfl,by simp [execOp,ho,e1,h3],hrr,⟨[.bool false],rfl,⟨⟨rfl,rfl⟩,trivial⟩⟩,h0 h2⟩
  · obtain ⟨q1,q2⟩:=mem_left he
    obtain ⟨key,v,r1,r2,r3,r4⟩:=hf.to e q1
    have hw:=hrr.write id _ hm (itO bi b clock (seen.push e.born)) _ (c.own id) (c.blk id) (some bi) (al0 w w1 hw1 bi (.mapIter (some b) clock (seen.push e.born) clock)) (fun b hb=>by cases hb;rw [hob.2.1];exact rfl)
     (.inr (.inr ⟨_,itO bi b clock (seen.push e.born),0,2,0,0,hm,rfl,by simp [S.setO],rfl,Nat.le_refl _,fun _=>by simp,fun _ _ _ _ _ _ _ hb=>by cases hb⟩)) (fun b hb=>.inl hb) ⟨by simpa using hob.1,by simpa using hob.2.1,hob.2.2.1,by simp [(Array.getElem?_eq_some_iff.1 e2).1],rfl⟩
    rw [← jo] at hw
    exact ⟨_,_,_, .tup [.one (.p (.raw (.bool true))), .one (.p (.raw key.val)), .one (.p (.raw v))],_,(by exact rfl),by simp [execOp,ho,e1,h3],hw,⟨[.bool true,e.key,e.val],rfl,⟨⟨rfl,rfl⟩,⟨r1,by cases key <;> rfl⟩,⟨r3,r4⟩,trivial⟩⟩,h1 e he key v r1 r2 r3⟩
theorem ud (hi:ops[k]? = some o) (hf:ExF kk n f es clock) {e:MapEntry} {key:MK} {v:Value} (he:e ∈ (leftOf es seen).toList) (hk:e.key = key.val) (hv:f key = some (.raw v)) (hev:e.val = v)
 (h:RN P nt ops L ⟨(d,some (.tup [.one (.p (.raw key.val)), .one (.p (.raw v))])) :: st.t,st.o⟩ Q)
 (hg:o.guard = none:=by exact rfl) (ho:o.op = .entry x:=by exact rfl) (hd:o.dst = some d:=by exact rfl) (hdn:d8 nt (some d) = true:=by exact rfl)
 (hx:ev st.den x = some (.v (.one (.ref id j))):=by exact rfl) (hm:st.den.o id = some (itO bi b clock (seen.push e.born)):=by exact rfl)
 (hm2:st.den.o mid = some (mpO b es clock):=by exact rfl):RN P nt ops (k :: L) st Q :=
 ac9 hi hg hd hdn (fun c hc=>by rw [hc] at ho;cases ho) fun w0 a w c hrr=>by
  obtain ⟨e1,e2⟩:=aay hrr hx hm
  obtain ⟨_,_,_,e3,_⟩:=hrr.objs mid _ hm2
  obtain ⟨q1,_⟩:=mem_left he
  obtain ⟨key',v',r1,r2,r3,r4⟩:=hf.to e q1
  obtain rfl:key' = key:=MK.val_inj (r1.symm.trans hk)
  rw [hv] at r2
  cases r2
  exact ⟨_,w,st.o, .tup [.one (.p (.raw key'.val)), .one (.p (.raw v))],c,rfl,by simp [execOp,ho,e1,aan (P:=P) w bi b clock seen es e e2 e3 q1 hf.st.2.1],hrr,⟨[e.key,e.val],rfl,⟨⟨r1,by cases key' <;> rfl⟩,⟨r3,r4⟩,trivial⟩⟩,h⟩
end
end Go.Hx
end
section
namespace Go.Hx
open Go.RowKit
def um (f:MK → Option PV) (m:MK):MK → Option PV:=fun k=>bif k.same m then none else f k
section
variable {P:Program} {E:Env} {nt:Nat} {ops:Array Oper} {st:HSt}
theorem akq {k e t:TypeId} {ty:TypeId} {w:World} {b:Nat} {es:Array MapEntry} {clock:Nat} (K:Go.Maps.Keyed P k) (ht:P.underlying t = some (.map k e))
 (hb:w.heap[b]? = some (.map es clock)) (hst:Go.MapKept.Stamped es clock) (hk:∀ x ∈ es.toList,∃ l,keyOf P k x.key = some l) {key:Value} {kl:Lit} (hkey:keyOf P k key = some kl) :
 ∃ es',(Builtin.delete_ #[t,k] ty #[.map (some b),key]).run P w = .ok (.tuple #[]) (Go.ChangeMaps.setBlock w b (.map es' clock)) ∧ Go.MapKept.Stamped es' clock ∧ es'.size ≤ es.size ∧
  (∀ x' ∈ es'.toList,x' ∈ es.toList ∧ x'.key ≠ key) ∧ ∀ x ∈ es.toList,x.key ≠ key → x ∈ es'.toList:=by
 rcases K.find w hkey es.toList hk with ⟨h1,h2⟩ | ⟨j,e0,h1,h2,h3⟩
 · refine ⟨es, ?_,hst,Nat.le_refl _,fun x hx=>⟨hx,h2 x hx⟩,fun x hx _=>hx⟩
   simp [Builtin.delete_,run_underlying ht,MapKept.run_getObj_map hb,K.check w _ hkey,h1,MapKept.run_setObj_map _ hb,Result.andThen,Go.ChangeMaps.setBlock]
 · have hjl:j < es.toList.length:=(List.getElem?_eq_some_iff.1 h2).1
   have hjs:j < es.size:=by simpa using hjl
   have hsub:(es.eraseIdxIfInBounds j).toList = es.toList.eraseIdx j:=by
    unfold Array.eraseIdxIfInBounds
    rw [dif_pos hjs]
    simp
   have hpw:=((Go.MapKept.stamped_iff es clock).1 hst).2.2
   refine ⟨es.eraseIdxIfInBounds j, ?_,Go.MapKept.stamped_erase hst j,MapFrom.size_erase es j,fun x hx=>?_,fun x hx hne=>?_⟩
   · simp [Builtin.delete_,run_underlying ht,MapKept.run_getObj_map hb,K.check w _ hkey,h1,MapKept.run_setObj_map _ hb,Result.andThen,Go.ChangeMaps.setBlock]
   · rw [hsub] at hx
     obtain ⟨i,hne,hi⟩:=List.mem_eraseIdx_iff_getElem?.1 hx
     refine ⟨(List.eraseIdx_sublist _ _).subset hx,fun he=>?_⟩
     obtain ⟨hi1,hi2⟩:=List.getElem?_eq_some_iff.1 hi
     obtain ⟨hj1,hj2⟩:=List.getElem?_eq_some_iff.1 h2
     rcases Nat.lt_or_gt_of_ne hne with hlt | hgt
     · have:=List.pairwise_iff_getElem.1 hpw i j hi1 hj1 hlt
       rw [hi2,hj2,he,h3] at this
       exact this rfl
     · have:=List.pairwise_iff_getElem.1 hpw j i hj1 hi1 hgt
       rw [hi2,hj2,he,h3] at this
       exact this rfl
   · rw [hsub]
     obtain ⟨i,hi,rfl⟩:=List.getElem_of_mem hx
     refine List.mem_eraseIdx_iff_getElem?.2 ⟨i,fun e=>?_,List.getElem?_eq_getElem hi⟩
     subst e
     rw [List.getElem?_eq_getElem hi] at h2
     cases h2
     exact hne h3
theorem arq {k:Nat} {o:Oper} {L:List Nat} {Q:HSt → Prop} (hi:ops[k]? = some o) (hg:o.guard = none) (hdn:d8 nt o.dst = true) (hnd:∀ c,o.op ≠ .defer c)
 (h:∀ w0 a w c,al w0 nt c st.den a w → ∃ y w' o' c',c'.old = c.old ∧ (execOp a.eval o).run P w = .ok y w' ∧ (y = .skip ∨ ∃ v,y = .value v) ∧ al w0 nt c' (HSt.den ⟨st.t,o'⟩) a w' ∧ RN P nt ops L ⟨(match o.dst with | some d=>[(d,none)] | none=>[]) ++ st.t,o'⟩ Q):RN P nt ops (k :: L) st Q:=fun ro n w0 m0 a w QQ ⟨c,hold,hr⟩ hQ=>by
 obtain ⟨y,w',o',c',h1,h2,hy,h3,h5⟩:=h w0 a w c hr
 rw [wpOpsIn_cons]
 unfold wpOpIn
 simp only [hi]
 have hw:Region.wanted o (yielded ops a.tmps) = true:=by unfold Region.wanted;rw [hg]
 rw [if_pos hw]
 refine vv hnd ?_
 unfold Oper.wp
 rw [h2]
 rcases hy with rfl | ⟨v,rfl⟩
 · refine h5 ro n w0 m0 _ w' QQ ⟨c',h1.trans hold, ?_⟩ hQ
   cases hdd:o.dst with
   | none=>exact h3
   | some d =>
    have e:HSt.den ⟨[(d,none)] ++ st.t,o'⟩ = (HSt.den ⟨st.t,o'⟩).putD (some d) none:=by
     unfold HSt.den S.putD S.put
     simp [bo]
    rw [e]
    exact h3.putD (some d) (fun k hk=>by cases hk;rw [hdd] at hdn;exact of_decide_eq_true hdn) none undef (fun y hy=>by cases hy)
 · refine h5 ro n w0 m0 _ w' QQ ⟨c',h1.trans hold, ?_⟩ hQ
   cases hdd:o.dst with
   | none=>exact h3
   | some d =>
    have e:HSt.den ⟨[(d,none)] ++ st.t,o'⟩ = (HSt.den ⟨st.t,o'⟩).putD (some d) none:=by
     unfold HSt.den S.putD S.put
     simp [bo]
    rw [e]
    exact h3.putD (some d) (fun k hk=>by cases hk;rw [hdd] at hdn;exact of_decide_eq_true hdn) none v (fun y hy=>by cases hy)
end
theorem a2p:∀ (N:Nat) (l:List Nat),l.Nodup → (∀ x ∈ l,x < N) → l.length ≤ N
 | 0,l,_,h=>by
  cases l with
  | nil=>exact Nat.le_refl _
  | cons x l=>exact absurd (h x (by simp)) (Nat.not_lt_zero _)
 | N + 1,l,hn,h=>by
  have ih:=a2p N (l.filter fun x=>decide (x ≠ N)) (hn.sublist List.filter_sublist) fun x hx=>by
   obtain ⟨h1,h2⟩:=List.mem_filter.1 hx
   have:=h x h1
   have:=of_decide_eq_true h2
   omega
  have h2:l.length ≤ (l.filter fun x=>decide (x ≠ N)).length + 1:=by
   clear ih h
   induction l with
   | nil=>simp
   | cons x l ihl =>
    obtain ⟨h1,h2⟩:=List.nodup_cons.1 hn
    by_cases e:x = N
    · subst e
      have:(l.filter fun y=>decide (y ≠ x)) = l:=List.filter_eq_self.2 fun y hy=>decide_eq_true fun e=>h1 (e ▸ hy)
      rw [List.filter_cons,if_neg (by simp),this]
      simp
    · rw [List.filter_cons,if_pos (by simpa using e)]
      simp only [List.length_cons]
      have:=ihl h2
      omega
  omega
theorem aci {es:Array MapEntry} {clock:Nat} (hst:Go.MapKept.Stamped es clock) (hk:∀ x ∈ es.toList,∃ z:Int,x.key = .int .u32 z ∧ 0 ≤ z ∧ z < 4294967296):es.size ≤ 4294967296:=by
 have hpw:=((Go.MapKept.stamped_iff es clock).1 hst).2.2
 have h:=a2p 4294967296 (es.toList.map fun x=>match x.key with | .int _ z=>z.toNat | _=>0) (by
  refine List.pairwise_map.2 (hpw.imp_of_mem fun {a b} ha hb hne=>?_)
  obtain ⟨z,e1,z1,_⟩:=hk a ha
  obtain ⟨y,e2,y1,_⟩:=hk b hb
  rw [e1,e2]
  intro he
  refine hne ?_
  rw [e1,e2]
  have he:z.toNat = y.toNat:=he
  have:z = y:=by omega
  rw [this]) (fun x hx=>by
  obtain ⟨a,ha,rfl⟩:=List.mem_map.1 hx
  obtain ⟨z,e1,z1,z2⟩:=hk a ha
  rw [e1]
  show z.toNat < _
  omega)
 simpa using h
theorem art {nt:Nat} {st:HSt} {Q:HSt → Prop} (mid:Nat) {n:Nat} {f:MK → Option PV} (ho:bj st.o mid = some (.mp (.int .u32) n f))
 (h:HE nt ⟨st.t,(mid,some (.mp (.int .u32) 4294967296 f)) :: st.o⟩ Q):HE nt st Q:=fun w0 m0 a w hr=>by
 obtain ⟨cc,hold,hrr⟩:=hr
 obtain ⟨b,es,clock,h1,h2,h3,h4,h5,h6,h7,h8,h9⟩:=hrr.objs mid _ ho
 refine h w0 m0 a w ?_
 have hsz:es.size ≤ 4294967296:=aci h5 fun x hx=>by
  obtain ⟨key,y,q1,q2,_⟩:=h8 x hx
  obtain ⟨q4,_⟩:=h9 key y q2
  cases key with
  | s b=>exact q4.elim
  | i q z =>
   obtain ⟨rfl,q5⟩:=q4
   have e1:IntKind.min .u32 = 0:=by decide
   have e2:IntKind.max .u32 = 4294967295:=by decide
   simp only [Lit.wf,e1,e2,Bool.and_eq_true,decide_eq_true_eq] at q5
   exact ⟨z,q1,by omega,by omega⟩
 have hw:=hrr.write mid (.mp (.int .u32) n f) ho (.mp (.int .u32) 4294967296 f) w (cc.own mid) (cc.blk mid) none (Grw.refl w _) (fun _ e=>by cases e)
  (.inr (.inr ⟨_, .mp (.int .u32) 4294967296 f,0,0,0,0,ho,rfl,by simp [S.setO],rfl,Nat.le_refl _,fun _=>by simp,fun _ _ _ _ _ _ _ hb=>by cases hb⟩)) (fun b hb=>.inl hb) ⟨b,es,clock,by simpa using h1,by simpa using h2,h3,h4,h5,hsz,h7,h8,h9⟩
 rw [← jo] at hw
 exact ⟨_,(by exact hold),hw⟩
theorem a1e {P:Program} {nt:Nat} {st:HSt} {ro:Option Nat} {c:Code} {Q:Exit → HSt → Prop} (h:HE nt st fun st'=>HW (ro:=ro) P nt c st' Q):HW (ro:=ro) P nt c st Q:=fun w0 m0 a w hr=>by
 obtain ⟨st',h1,h2⟩:=h w0 m0 a w hr
 exact h1 w0 m0 a w h2
theorem ash {P:Program} {nt:Nat} {st:HSt} {ro:Option Nat} {c:Code} {Q:Exit → HSt → Prop} (mid:Nat) {n:Nat} {f:MK → Option PV} (ho:bj st.o mid = some (.mp (.int .u32) n f))
 (h:HW (ro:=ro) P nt c ⟨st.t,(mid,some (.mp (.int .u32) 4294967296 f)) :: st.o⟩ Q):HW (ro:=ro) P nt c st Q:=a1e (art mid ho (dp h))
section
variable {P:Program} {E:Env} {nt:Nat} {ops:Array Oper} {st:HSt} {k:Nat} {o:Oper} {L:List Nat} {Q:HSt → Prop}
theorem ahi (hE:cq P E) {x ky:Operand} {t kt kt' et:TypeId} {id j n:Nat} {kk:KK} {f:MK → Option PV} {m:MK} {i ki:TI} {cl:Call} (hi:ops[k]? = some o) (hok:MK.ok kk m)
 (h:RN P nt ops L ⟨(match o.dst with | some d=>[(d,none)] | none=>[]) ++ st.t,(id,some (.mp kk n (um f m))) :: st.o⟩ Q)
 (hg:o.guard = none:=by exact rfl) (ho:o.op = .call cl:=by exact rfl) (hcl:cl.callee = .builtin .delete:=by exact rfl) (har:cl.args = #[x,ky]:=by exact rfl) (hat:cl.argTypes = #[t,kt']:=by exact rfl) (hdn:d8 nt o.dst = true:=by exact rfl)
 (hti:E t = some i:=by exact rfl) (hmk:i.k = .map kt et:=by exact rfl) (hki:E kt = some ki:=by exact rfl) (hkk:a0e ki.k = some kk:=by exact rfl) (hkt:kt' = kt:=by exact rfl)
 (hx:ev st.den x = some (.v (.one (.ref id j))):=by exact rfl) (hk:ev st.den ky = some (.v (.one (.p (.raw m.val)))):=by exact rfl) (hm:bj st.o id = some (.mp kk n f):=by exact rfl):RN P nt ops (k :: L) st Q:=by
 subst hkt
 refine arq hi hg hdn (fun c hc=>by rw [hc] at ho;cases ho) fun w0 a w c hrr=>?_
 obtain ⟨ii,d,h1,h2,h3,_⟩:=bc (hE t i hti)
 have ht:P.underlying t = some (.map kt' et):=by
  rw [h2]
  have h4:=h3.symm.trans hmk
  cases d <;> simp [fl] at h4
  obtain ⟨rfl,rfl⟩:=h4
  rfl
 obtain ⟨K,hkey⟩:=a2j hE hki hkk
 obtain ⟨b,es,clock,q1,q2,q3,q4,q5,q6,q7,q8,q9⟩:=hrr.objs id _ hm
 obtain ⟨_,_,g3⟩:=ai hrr hx
 obtain ⟨g4,g5⟩:=g3 _ _ _ _ hm rfl
 have hu:a.eval x = .map (some b):=by rw [g5 (by omega),q1]
 obtain ⟨hu2,_⟩:=ai hrr hk
 obtain ⟨l,hl⟩:=hkey m hok
 obtain ⟨es',hrun,hst,hsz,hall,hold⟩:=akq (ty:=o.type) K ht q4 q5 (fun x hx=>by
  obtain ⟨key,y,r1,r2,_⟩:=q8 x hx
  rw [r1]
  exact hkey key (q9 key y r2).1) hl
 have hblk:=Go.ChangeMaps.heap_setBlock_same q4 (.map es' clock)
 have hw:=hrr.write id _ hm (.mp kk n (um f m)) (Go.ChangeMaps.setBlock w b (.map es' clock)) (c.own id) (c.blk id) (some b) (by
  exact ⟨⟨rfl,rfl,rfl,by simp [Go.ChangeMaps.setBlock],fun i _ hi=>Go.ChangeMaps.heap_setBlock_other q4 _ (fun e=>hi (by rw [e]))⟩,Nat.le_refl _⟩) (fun b' hb'=>by cases hb';rw [q2];rfl)
  (.inr (.inr ⟨_, .mp kk n (um f m),0,0,0,0,hm,rfl,by simp [S.setO],rfl,Nat.le_refl _,fun _=>by simp,fun _ _ _ _ _ _ _ hb=>by cases hb⟩)) (fun b hb=>.inl hb)
  ⟨b,es',clock,by simpa using q1,by simpa using q2,q3,hblk,hst,by omega,by omega,fun x' hx'=>by
   obtain ⟨r1,r2⟩:=hall x' hx'
   obtain ⟨key,y0,t1,t2,t3⟩:=q8 x' r1
   refine ⟨key,y0,t1, ?_,t3⟩
   have hne:key.same m = false:=by
    rw [Bool.eq_false_iff]
    intro hs
    rw [MK.same_iff.1 hs] at t1
    exact r2 t1
   unfold um
   rw [hne]
   exact t2,fun key y' hy'=>by
   unfold um at hy'
   cases hs:key.same m with
   | true=>rw [hs] at hy';cases hy'
   | false =>
    rw [hs] at hy'
    obtain ⟨t1,x0,hx0,hk0⟩:=q9 key y' hy'
    refine ⟨t1,x0,hold x0 hx0 fun e=>?_,hk0⟩
    have:key = m:=MK.val_inj (hk0.symm.trans e)
    rw [MK.same_iff.2 this] at hs;cases hs⟩
 rw [← jo] at hw
 refine ⟨.value (.tuple #[]),_,_,_,(by exact rfl), ?_, .inr ⟨_,rfl⟩,hw,h⟩
 cases cl with
 | mk ca ar at' =>
  simp only at hcl har hat
  subst hcl har hat
  simp [execOp,ho,resolve,invoke,builtin,hu,hu2,hrun,Result.andThen]
end
end Go.Hx
end
section
namespace Go.Hx
open Go.RowKit
section
variable {w0:World} {nt:Nat} {c:Ctx} {s:S} {a:Act} {w:World}
theorem yb {imm:Imm} {s':Nat} {f:Nat → Nat → PV} {u:Value} (h:b9 imm (.sl 0 s' true f) u):∃ ad,u = .slice ad 0 0:=by
 obtain ⟨ad,cap,rfl,_,_,hc,_⟩:=h
 rw [hc rfl]
 exact ⟨ad,rfl⟩
def gu (m:Nat → Nat) (n k:Nat):Nat → Nat:=fun i=>bif Nat.beq i n then k else m i
def iz (g:Nat → Nat → Nat → PV) (n:Nat) (f:Nat → Nat → PV):Nat → Nat → Nat → PV:=fun i=>bif Nat.beq i n then f else g i
theorem a14 (m:Nat → Nat) (n k:Nat):gu m n k n = k:=by simp [gu]
theorem a3b {m:Nat → Nat} {n k i:Nat} (h:i ≠ n):gu m n k i = m i:=by
 have:Nat.beq i n = false:=by rw [Bool.eq_false_iff];exact fun hb=>h (Nat.eq_of_beq_eq_true hb)
 simp [gu,this]
theorem an6 (g:Nat → Nat → Nat → PV) (n:Nat) (f:Nat → Nat → PV):iz g n f n = f:=by simp [iz]
theorem al2 {g:Nat → Nat → Nat → PV} {n i:Nat} {f:Nat → Nat → PV} (h:i ≠ n):iz g n f i = g i:=by
 have:Nat.beq i n = false:=by rw [Bool.eq_false_iff];exact fun hb=>h (Nat.eq_of_beq_eq_true hb)
 simp [iz,this]
theorem a0j {v:Value} {b:Nat} (h:am v = some b):br v = some b:=by
 unfold am at h
 split at h
 · split at h
   · cases h
   · exact h
 · cases h
def awg (es:Nat) (m:Nat → Nat) (g:Nat → Nat → Nat → PV):Nat → Nat → PV:=fun i _=>.sl (m i) es false (g i)
open Classical in
noncomputable def thinImm (c:Ctx) (w:World) (id n:Nat):Imm:=fun b=>if ∃ i,i < n ∧ am (c.rows id i) = some b then w.heap[b]? else c.imm b
end
section
variable {ro:Option Nat} {P:Program} {nt:Nat} {st:HSt} {Q:Exit → HSt → Prop}
end
end Go.Hx
end
