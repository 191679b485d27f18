/- A part of the proof: SrW Cs10 Cs11 V10 Cs13 Cs14 Cs15 Cs16 Cs17 Cs18 Cs19 Hx20 Cs20 Cs21 Cs22 Cs23 Hx21. -/
import Derived.ChangeArms
import Derived.OpenShut
import Derived.ProofKit
import Derived.Shelf.SlLaysF
import Derived.Shelf.SlSortCmp.NoneTotal
import Derived.Test.YteklilhbjjofbaaGreatDoorProg
import Derived.WalkKit
import Derived.WideKeyArgs
import Derived.Test.YteklilhbjjofbaaGreatDoorLd16
set_option linter.all false
set_option maxRecDepth 100000
namespace Go.Hx
section
open Go.Proofs Go.RowKit Go.Sort
section
variable {w:World}
def ait {w':World} (h:Below w.heap.size w w'):∃ q os,w' = grow (w.drewN q) os:=by
 refine ⟨w'.drawn - w.drawn,w'.heap.extract w.heap.size w'.heap.size, ?_⟩;have hd:=h.drawn;obtain ⟨h1,h2,h3,h4,h5,_⟩:=h
 cases w with
 | mk hp tp dr os out =>
 cases w' with
 | mk hp' tp' dr' os' out' =>
 dsimp only at *;subst h1 h2 h3;unfold grow World.drewN;simp only [World.mk.injEq,true_and,and_true];refine ⟨?_,by omega⟩;apply Array.ext_getElem?;intro k;rw [Array.getElem?_append];by_cases hk:k < hp.size
 · rw [if_pos hk,h5 k hk]
 rw [if_neg hk,Array.getElem?_extract];by_cases hk2:k < hp'.size
 · rw [if_pos b8i]
   congr 1;omega
 rw [if_neg b8i,b74 b8i]
variable {os:Array Obj} {α:Type} {d:Array α} {enc:α -> Value}
def aix [Inhabited α] {g m:Nat} {cur:Array Value} {e:TypeId} {fr:Nat × Nat} (h:w.heap[g]? = some (.cells cur e fr)):
 (sortWorld enc w g 0 m d os).heap[g]? = some (.cells (putCells enc 0 d cur) e fr):=by
 have hlt:=(b5e.1 h).1;unfold sortWorld;rw [heap_grow_old _ _ (by simpa using hlt)];unfold putRow mapBlock;simp only [heap_ahead,b8f,if_true,h];rfl
def zr [Inhabited α] {g m:Nat} {b:Nat} (hb:b < w.heap.size) (hne:b ≠ g):(sortWorld enc w g 0 m d os).heap[b]? = w.heap[b]?:=by
 unfold sortWorld;rw [heap_grow_old _ _ (by simpa using hb)];unfold putRow mapBlock;simp only [heap_ahead,b8f,if_neg (Ne.symm hne)]
def aj4 [Inhabited α] {g m:Nat}:Below 0 w (sortWorld enc w g 0 m d os) :=
 ⟨rfl,rfl,rfl,by unfold sortWorld;simp,fun k hk=>absurd hk (b5i k),by unfold sortWorld grow;simp⟩
def ank [Inhabited α] {cur:Array Value} (h:d.size <= cur.size):(putCells enc 0 d cur).toList.take d.size = d.toList.map enc:=by
 apply b7c;intro k;rw [b69,b5s,b72,b72];by_cases hk:k < d.size
 · rw [if_pos hk]
   unfold putCells;rw [Array.getElem?_mapIdx,b6e b8i,b6e hk];simp only [b63,b5q,b83];rw [if_pos ⟨b5h _,hk⟩,getElem!_pos d k hk]
 rw [if_neg hk,b74 b8i];rfl
def srt (l:List AS):List AS:=l.mergeSort fun x y=>!bef y x
end
end
section
abbrev bx (a:PV):PV:=.vp 1 fun j=>[a].getD j .any
def ac4 (W:AS -> AS -> Bool) (l:List AS) (x:AS):Bool:=l.any fun b=>decide (x ≠ b) && W x b
def aqp (W:AS -> AS -> Bool) (l:List AS):List AS:=(ord l).filter fun x=>!ac4 W (ord l) x
def abt (a b:AS):Bool:=decide (sub a b)
def acm (l:List AS):List AS:=aqp abt l
def okT (l:List AS) (i k:Nat):Bool:=(List.range k).all fun j=>decide (j = i) || !abt (l.getD i default) (l.getD j default)
def b31 (l:List AS) (i:Nat):List AS:=((ord l).take i).filter fun x=>!ac4 abt (ord l) x
end
section
def ar4 (l:List Fd):List Fd:=l.foldl (fun o x=>if x ∈ o then o else o ++ [x]) []
def b37 (l:List Fd) (i k:Nat):Bool:=(l.take k).any fun x=>decide (x = l.getD i default)
def akd (f:Fd):List Fd:=(b7 (f.rhs &&& ~~~f.lhs)).map fun a=>(⟨f.lhs,(1:AS) <<< a⟩:Fd)
def aeq (l:List Fd):List Fd:=(l.map akd).flatten
def b2u (l:List Fd) (i k:Nat):List Fd:=aeq (l.take i) ++ (akd (l.getD i default)).take k
def exB (l:List Fd) (x:Fd) (a:Nat):Bool:=imp l ⟨x.lhs &&& ~~~((1:AS) <<< a),x.rhs⟩
def ah9 (l:List Fd) (i:Nat):List Fd:=l.take i ++ l.drop (i + 1)
def b1k (l:List Fd) (i:Nat):Bool:=imp (ah9 l i) (l.getD i default)
end
section
open Go.Proofs
def rwC (l:List Fd):Nat -> PV
 | 0=>fdl l
 | _=>.any
abbrev b4s (ls:List (List Fd)):PV:=psl 1 rwC ls
end
section
def b2y (l:List Fd) (i k:Nat):List Fd:=aeq (l.take i) ++ (f3 ((l.getD i default).rhs &&& ~~~(l.getD i default).lhs) k).map fun a=>(⟨(l.getD i default).lhs,(1:AS) <<< a⟩:Fd)
def b1r (x:Fd) (a:Nat):Fd:=⟨x.lhs &&& ~~~((1:AS) <<< a),x.rhs⟩
def apv (i:Nat) (l:List Fd) (a:Nat):List Fd:=if bi (l.getD i default).lhs a && exB l (l.getD i default) a then l.set i (b1r (l.getD i default) a) else l
def b4x (l:List Fd) (i k:Nat):List Fd:=((b7 (l.getD i default).lhs).take k).foldl (apv i) l
def b1j (l:List Fd) (i:Nat):List Fd:=(b7 (l.getD i default).lhs).foldl (apv i) l
def b2p (l:List Fd) (i:Nat):List Fd:=(List.range i).foldl b1j l
def ahv:Nat -> List Fd -> Nat -> List Fd
 | 0,l,_=>l
 | f + 1,l,i=>if i < l.length then (if b1k l i then ahv f (ah9 l i) i else ahv f l (i + 1)) else l
def spl (l:List Fd):List Fd:=ar4 (aeq l)
def ako (l:List Fd):List Fd:=ar4 (b2p (spl l) (spl l).length)
def b13 (l:List Fd):List Fd:=ahv (ako l).length (ako l) 0
def b3e (t:AS) (l:List Fd):Prop:=∀ x ∈ l,sub x.lhs t
end
section
def air (n:Int) (l:List Fd):List Fd:=if db n l = 0 then b13 l else []
def b3z (l:List Fd) (i k:Nat):List Fd:=(List.range k).foldl (apv i) l
end
section
def b0w {z s:AS}:sub z s <-> z.toNat &&& s.toNat = z.toNat:=by
 rw [<- BitVec.toNat_and,BitVec.toNat_inj,dj];constructor
 · intro h
   apply b6y;intro k hk;rw [b6o]
   cases hz:z.getLsbD k with
   | false=>rfl
   | true=>rw [h k hk hz];rfl
 intro h i _ hi;rw [<- h,b6o] at hi;simp at hi;exact hi.2
def ar1 (s:AS):Nat -> AS -> List AS
 | 0,_=>[]
 | n + 1,x=>x :: if x = 0 then [] else ar1 s n ((x - 1) &&& s)
def b01 (s:AS):List AS:=ord (ar1 s (s.toNat + 1) s)
def sub_self (s:AS):sub s s:=by rw [b0w,Nat.and_self]
def aam (s:AS):List AS:=if 12 < bsz s then [] else b01 s
def b3m (s:AS) (y:List AS × AS):Prop:=sub y.2 s /\ y.1.length + y.2.toNat <= s.toNat + 1 /\ ∀ z,z ∈ y.1 <-> sub z s /\ y.2.toNat <= z.toNat
def nxt (x s:Nat):Nat:=if x = s then s + 1 else ((2 ^ 64 + x - s) &&& s)
def UpI (s:AS) (k:Nat) (y:List AS × Nat):Prop :=
 (y.2 = s.toNat + 1 \/ y.2 &&& s.toNat = y.2) /\ y.1.length <= k * 4294967296 + y.2 /\ awu y.1 /\ ∀ z,z ∈ y.1 <-> sub z s /\ (bsz z < k \/ bsz z = k /\ z.toNat < y.2)
def UpK (s:AS) (k:Nat) (l:List AS):Prop:=l.length <= k * 4294967296 /\ awu l /\ ∀ z,z ∈ l <-> sub z s /\ bsz z < k
abbrev pU (n:Nat):PC:=.one (.raw (.int .u64 (n:Int)))
abbrev vU (n:Nat):HR:=b4 (.raw (.int .u64 (n:Int)))
def o5 {α:Type} [Inhabited α] {wr wr':Bool} {e:TypeId} {c:α -> Nat -> PV} {x:α} {f:Nat -> Nat -> PV} (h:CoP (f 0 0) (c x 0)) (hw:wr' = true -> wr = true:=by exact fun h=>h):CoO (.arr wr 1 e 1 f) (.arr wr' 1 e [x].length (lf c [x])) :=
 ⟨hw,rfl,rfl,rfl,fun i j hi hj=>by
  have hi:i < 1:=hi;have hj:j < 1:=hj;obtain rfl:j = 0:=by omega
  obtain rfl:i = 0:=by omega
  exact h⟩
end
section
def b24 (l:List Fd) (p x:AS):Bool:=decide (clo l x &&& p ≠ x) && decide (clo l x &&& p ≠ p)
def ar2 (l:List Fd) (p:AS):Option AS:=(aam p).find? (b24 l p)
def b14 (l:List Fd) (p x:AS):Fd:=⟨x,(clo l x &&& p) &&& ~~~x⟩
def aaz (l:List Fd) (p:AS):Fd:=match ar2 l p with
 | some x=>b14 l p x
 | none=>⟨0,0⟩
def sx (l:List Fd) (p:AS):Bool:=(ar2 l p).isSome
end
section
def j5 {id n m:Nat} (h:n = m):CoR (.v (.one (.ref id n))) (.v (.one (.ref id m))):=by rw [h];exact CoR.refl _
end
section
def axw (l:List Fd) (p:AS):Int:=if db 16 l = 0 then (if 8 < bsz p then 3 else if p >>> 16 = 0 then 0 else 1) else db 16 l
def b44 (l:List Fd) (p:AS):Fd:=if axw l p = 0 then aaz l p else ⟨0,0⟩
def b3i (l:List Fd) (p:AS):Bool:=decide (axw l p = 0) && sx l p
def bcP (n:Int) (l:List Fd) (f:Fd):Bool:=decide (f.rhs &&& ~~~f.lhs ≠ 0) && decide (clo l f.lhs ≠ b6 n)
def bcS (n:Int) (l:List Fd):Bool:=decide (db n l = 0) && !l.any (bcP n l)
def aj1 (n:Int) (l:List Fd):List AS:=if a43 n l 8 = 0 then (aam (b6 n)).filter fun s=>!sx l s else []
end
section
def ar5 (l:List Fd) (p z:AS):AS:=(p &&& clo l (z &&& p)) &&& ~~~z
def azt (l:List Fd) (z p:AS):Bool:=decide (ar5 l p z ≠ 0)
def aoi (l:List Fd) (ps:List AS):Nat -> AS -> AS
 | 0,z=>z
 | n + 1,z=>match ps.find? (azt l z) with
  | none=>z
  | some p=>aoi l ps n (z ||| ar5 l p z)
def aq9 (l:List Fd) (ps:List AS) (z:AS):AS:=aoi l ps 4294967297 z
def aiy (l:List Fd) (ps:List AS) (f:Fd):Bool:=decide (sub f.rhs (aq9 l ps f.lhs))
def b4t (l:List Fd) (ps:List AS) (z0:AS) (x:Nat × List Nat × AS):Prop:=aoi l ps x.1 x.2.2 = aq9 l ps z0 /\ 4294967296 < x.1 + x.2.2.toNat /\ x.2.1.length + x.1 = 4294967297
def b35 (l:List Fd) (ps:List AS) (i:Nat):List Nat:=(List.range i).filter fun j=>!aiy l ps (l.getD j default)
def axu (l:List Fd) (ps:List AS):Bool:=(List.range l.length).all fun j=>aiy l ps (l.getD j default)
end
section
open Go.RowKit
def b3h (P:Program) (g:FuncId) (caps:List PC) (n:Nat) (xs:Nat -> List PC):Prop :=
 ∀ (imm:Imm) (_:py imm) (us:List Value) (W:World) (l:Nat) (J:Nat -> World -> Prop),bz imm caps us ->
  (∀ i A,J i A -> ∀ b ob,imm b = some ob -> A.heap[b]? = some ob) ->
  (∀ i A A',J i A -> Below A.heap.size A A' -> J i A') ->
  (∀ i A vs,i < n -> J i A -> bz imm (xs i) vs -> YieldAt (rf none) 0 P l vs.toArray A fun e A'=>e = .returned (.bool true) /\ J (i + 1) A') ->
  J 0 W -> CallsIn (rf none) 0 P g (#[.func (.yield l) #[] #[]] ++ us.toArray) W fun e W'=>(∃ v,e = .returned v) /\ J n W'
section
variable {P:Program} {nt:Nat} {c:Ctx} {s:S} {a:Act} {w w0:World}
end
def avg (r:Nat -> Nat):List (Nat × Option HR) -> List (Nat × Option HR)
 | []=>[]
 | (d,some x) :: l=>(d,some (x.ren r)) :: avg r l
 | (d,none) :: l=>(d,none) :: avg r l
def rgB (r:Nat -> Nat) (T:List (Nat × Option HR)) (o1 o2:List (Nat × a6)) (fx:List Nat):Bool :=
 (fx.all fun id=>Nat.ble 1000 (r id)) && ((cn o2).all fun id=>(qd fx id && qd (cn o1) id) || (Nat.blt id 1000 && nmT id T)) && (a4c o2).all (qd (cn o2))
def b4n (P:Program) (nt l:Nat) (body:Code) (Q:HSt -> Prop) (e:Exit) (st:HSt):Prop:=e = .normal /\ HW (ro:=some l) P nt body st fun e st=>e = .normal /\ Q st
section
variable {P:Program} {E:Env} {nt:Nat} {ops:Array Oper} {i:Nat} {o:Oper} {Q:Exit -> Act -> World -> Prop} {a:Act} {A:World} {imm:Imm}
def awm (d:Option Tmp) (x:HR) (t:List (Nat × Option HR)):List (Nat × Option HR):=match d with | some d=>(d,some x) :: t | none=>t
class TabC (imm:Imm):Prop where
 ok:py imm
def cI (imm:Imm) (A:World) [ht:TabC imm]:Ctx:={ old:=(imm,f8 A,(fun _=>undef),(fun _=>none),fun _ _=>undef),imm:=imm,tab:=ht.ok,own:=fun _=>undef,blk:=fun _=>noB,rows:=fun _ _=>undef }
variable [TabC imm]
structure It (imm:Imm) [TabC imm] (nt:Nat) (t:List (Nat × Option HR)) (a:Act) (A:World):Prop where
 defers:a.defers = []
 rel:ah A nt (cI imm A) ⟨bc t,fun _=>none⟩ a A
section
variable {t:List (Nat × Option HR)}
theorem It.sub {t':List (Nat × Option HR)} (h:It imm nt t a A) (hs:mo t' t):It imm nt t' a A :=
 ⟨h.defers,h.rel.relax ⟨bc t',fun _=>none⟩ (fun d x hx=>vr hs d x hx) (fun id ob ho=>by cases ho)⟩
theorem It.move {A':World} (h:It imm nt t a A) (hi:∀ b ob,imm b = some ob -> A'.heap[b]? = some ob):It imm nt t a A':=by
 refine ⟨h.defers,by rw [h.defers];exact ne.nil _ _ _ _,h.rel.size,Below.refl _ _,fun d x hx=>?_,(fun id ob ho=>by cases ho),(fun i i' ob ob' b ho=>by cases ho),hi,(fun id ob b ho=>by cases ho),fun b _=>rfl,fun b ob hb=>hb,(fun id ob b ho=>by cases ho),fun id _=>.inl rfl⟩;exact al.evo (c:=cI imm A) (o:=fun _=>none) (Imm.le.refl imm) (fun _ _=>.inl rfl) (h.rel.tmps d x hx)
theorem It.put (h:It imm nt t a A) {d:Option Tmp} (hd:ct nt d = true) (x:HR) (v:Value) (hx:al (cI imm A) (fun _=>none) x v):It imm nt (awm d x t) (a.put d v) A:=by
 cases d with
 | none=>exact h
 | some d =>
  have:=h.rel.put d (of_decide_eq_true hd) (some x) v (fun y hy=>by cases hy;exact hx);refine ⟨h.defers, ?_⟩
  have e:(S.put ⟨bc t,fun _=>none⟩ d (some x)) = ⟨bc ((d,some x) :: t),fun _=>none⟩:=by
   unfold S.put;simp [ay]
  rw [e] at this;exact this
def avc (h:It imm nt t a A) {x:Operand} {r:HR} (hx:ev ⟨bc t,fun _=>none⟩ x = some r):al (cI imm A) (fun _=>none) r (a.eval x):=a7 h.rel hx
def iy {L:List Nat} {cl:Call} {f:Operand} {l:Nat} {R:World -> Prop} (h:It imm nt t a A) (hi:ops[i]? = some o) (hw:ap ops ⟨bc t,fun _=>none⟩ o = some true) (hd:ct nt o.dst = true) (ho:o.op = .call cl) (hcl:cl.callee = .value f) (hf:ev ⟨bc t,fun _=>none⟩ f = some (b4 (.raw (.func (.yield l) #[] #[])))) (hy:YieldAt (rf none) 0 P l (cl.args.toList.map a.eval).toArray A fun e A'=>e = .returned (.bool true) /\ R A') (him:∀ A',R A' -> ∀ b ob,imm b = some ob -> A'.heap[b]? = some ob) (hK:∀ a' A',R A' -> It imm nt (awm o.dst (b4 (.raw (.bool true))) t) a' A' -> wpOpsIn (rf none) 0 P ops Q L a' A'):wpOpsIn (rf none) 0 P ops Q (i :: L) a A:=by
 rw [wpOpsIn_cons];unfold wpOpIn;simp only [hi];rw [if_pos (dw h.rel hw)];obtain ⟨fn,tmps,assign,body,hyr,hround⟩:=hy;have hfe:a.eval f = .func (.yield l) #[] #[]:=(avc h hf).1;refine ⟨fun _ _=>trivial, ?_⟩;have hsem:Oper.semAt (rf none).round a.eval o = execOp a.eval o:=rfl;rw [hsem];have hma:(cl.args.toList.map a.eval).toArray = cl.args.map a.eval:=by apply Array.toList_inj.1;rw [b7f]
 rw [hma] at hyr
 have hrun:(execOp a.eval o).run P A = .ok (.round l fn tmps assign body) A:=by
  simp only [execOp,ho,resolve,hcl,hfe,b66,Deferred.ofValue,b6n,b5v,invoke];simpa using hyr
 rw [hrun,Oper.uponIn_round];refine ⟨fun hh=>absurd hh (by simp [rf]),hround.mono ?_⟩;rintro e A' ⟨rfl,hR⟩;exact hK _ A' hR ((h.move (him A' hR)).put hd (b4 (.raw (.bool true))) (.bool true) ⟨rfl,rfl⟩)
end
end
theorem CoP.vp {k k':Nat} {f f':Nat -> PV} (hk:k' = k) (hf:∀ j,j < k -> CoP (f j) (f' j)):CoP (.vp k f) (.vp k' f'):=by
 subst hk;rintro m u ⟨b,off,rfl,h⟩
 exact ⟨b,off,rfl,fun j hj=>by
  obtain ⟨x,hx,hr⟩:=h j hj
  exact ⟨x,hx,hf j hj m x hr⟩⟩
theorem CoP.fn {g:FuncId} {k k':Nat} {f f':Nat -> PV} (hk:k' = k) (hf:∀ j,j < k -> CoP (f j) (f' j)):CoP (.fn g k f) (.fn g k' f'):=by
 subst hk;rintro m u ⟨cs,rfl,hl,h⟩
 exact ⟨cs,rfl,hl,fun j hj=>by
  obtain ⟨x,hx,hr⟩:=h j hj
  exact ⟨x,hx,hf j hj m x hr⟩⟩
def RN (P:Program) (nt:Nat) (ops:Array Oper) (L:List Nat) (st:HSt) (Q:HSt -> Prop):Prop :=
 ∀ (ro:Option Nat) (n:Nat) w0 m0 a w (QQ:Exit -> Act -> World -> Prop),Rel w0 m0 nt st.den a w -> (∀ st' a' w',Q st' -> Rel w0 m0 nt st'.den a' w' -> QQ .normal a' w') -> wpOpsIn (rf ro) n P ops QQ L a w
section
variable {P:Program} {E:Env} {nt:Nat} {ops:Array Oper} {st:HSt}
def a3d (hE:bu P E) {ro:Option Nat} {n:Nat} {w0:World} {m0:Old} {sf:S} {L2:List Nat} {QQ:Exit -> Act -> World -> Prop} (hQ:∀ a' w',Rel w0 m0 nt sf a' w' -> wpOpsIn (rf ro) n P ops QQ L2 a' w') :
 ∀ (T:List Tr) (s:S) (a:Act) (w:World),jn P E nt ops T s sf -> Rel w0 m0 nt s a w -> wpOpsIn (rf ro) n P ops QQ (T.map (·.i) ++ L2) a w
 | [],s,a,w,hT,hr=>by
  cases hT;exact hQ _ _ hr
 | t :: T,s,a,w,hT,hr=>by
  cases hT with
  | cons hi he hR hO hF hrest =>
  rw [b71,b6x,wpOpsIn_cons];exact a0t hE he hr hi fun a' w' hr'=>a3d hE hQ T _ a' w' hrest hr'
section
variable {Q:HSt -> Prop}
def amn (hE:bu P E) {L1 L2:List Nat} (h:Reg P E nt ops L1 st fun _ sf=>RN P nt ops L2 sf Q):RN P nt ops (L1 ++ L2) st Q:=fun ro n w0 m0 a w QQ hr hQ=>by
 obtain ⟨T,sf,hl,hT,h⟩:=h;rw [<- hl];exact a3d hE (fun a' w' hr'=>h ro n w0 m0 a' w' QQ hr' hQ) T _ a w hT hr
def azd (h:Q st):RN P nt ops [] st Q:=fun ro n w0 m0 a w QQ hr hQ=>hQ st a w h hr
def azw {L:List Nat} (h:HE nt st fun st'=>RN P nt ops L st' Q):RN P nt ops L st Q:=fun ro n w0 m0 a w QQ hr hQ=>by
 obtain ⟨st',h1,h2⟩:=h w0 m0 a w hr;exact h1 ro n w0 m0 a w QQ h2 hQ
def ais {ro:Option Nat} {Q:Exit -> HSt -> Prop} {id:Nat} (L1 L2:List Nat) (hl:List.range ops.size = L1 ++ L2) (h:RN P nt ops (L1 ++ L2) st (Q .normal)):HW (ro:=ro) P nt (.region id ops false) st Q:=fun w0 m0 a w hr=>by
 refine wpIn_region ?_;rw [hl];exact h ro 0 w0 m0 a w _ hr fun st' a' w' hq hr'=>⟨st',hq,hr'⟩
def awn (st1:HSt) (d:Nat) (x:HR) (hs:∀ w0 m0 a w,Rel w0 m0 nt st.den a w -> ∃ cc,cc.old = m0 /\ ah w0 nt cc st1.den a w /\ al cc st1.den.o x (a.tmps.getD d undef)) (h:HE nt ⟨(d,some x) :: st1.t,st1.o⟩ Q):HE nt st Q:=fun w0 m0 a w hr=>by
 obtain ⟨cc,hold,hrr,hx⟩:=hs w0 m0 a w hr;refine h w0 m0 a w ⟨cc,hold,hrr.defers,hrr.size,hrr.below,fun k y hy=>?_,hrr.objs,hrr.inj,hrr.imm,hrr.sep,hrr.was,hrr.frm,hrr.fsep,hrr.fixed⟩;simp only [HSt.den] at hy;rw [ay] at hy;dsimp only at hy;split at hy
 · rename_i hk
   subst hk;simp only [b5a] at hy;subst hy;exact hx
 exact hrr.tmps k y hy
def alh (d:Nat) {id n n' s:Nat} {wr:Bool} {e:TypeId} {f:Nat -> Nat -> PV} (hd:bc st.t d = some (.v (.one (.ref id n)))) (ho:bc st.o id = some (.arr wr s e n' f)) (hn:n' = n) (h:HE nt ⟨(d,some (b4 (.sl n s false f))) :: st.t,(id,none) :: st.o⟩ Q):HE nt st Q:=by
 subst hn;refine awn ⟨st.t,(id,none) :: st.o⟩ d (b4 (.sl n' s false f)) (fun w0 m0 a w hr=>?_) h;obtain ⟨cc,hold,hrr⟩:=hr;refine ⟨_, ?_,by rw [qf];exact hrr.freeze ho, ?_⟩
 · exact hold
 obtain ⟨_,_,h3⟩:=hrr.tmps d _ hd;have:=(h3 _ _ _ _ ho rfl).2 rfl;rw [this];exact p8 hrr ho
end
end
end
section
def orL (ps:List AS):AS:=ps.foldl (· ||| ·) 0
def a4h {ps:List AS} {i:Nat} (h:i < ps.length):orL (ps.take (i + 1)) = orL (ps.take i) ||| ps.getD i default:=by
 unfold orL;rw [c0 h,b7p];rfl
def b0t (n:Int) (l:List Fd) (ps:List AS):Bool:=decide (orL ps = b6 n) && axu l ps && ps.any (a8c n l)
def azi (n:Int) (l:List Fd) (ps:List AS) (s:AS):List AS:=if b0t n l (ps.eraseIdx (idx (fun x=>decide (x = s)) ps).toNat) = true then ps.eraseIdx (idx (fun x=>decide (x = s)) ps).toNat else ps
def ajo (n:Int) (l:List Fd) (p0:List AS):Nat -> List AS
 | 0=>p0
 | i + 1=>azi n l (ajo n l p0 i) (p0.getD (p0.length - 1 - i) default)
def ahl (n:Int) (l:List Fd):Bool:=axu l (aj1 n l)
def b2z (n:Int) (l:List Fd):List AS:=if a43 n l 8 = 0 /\ ahl n l = true then ajo n l (acm (aj1 n l)) (acm (aj1 n l)).length else []
def b3d (n:Int) (l:List Fd):Bool:=decide (a43 n l 8 = 0) && ahl n l
def b36 (n:Int) (l:List Fd) (p0:List AS) (i:Nat) (ps:List AS):Prop:=ps = ajo n l p0 i /\ ps.length <= p0.length /\ ∀ j,j < p0.length - i -> p0.getD j default ∈ ps
def ayb (n:Int) (l:List Fd):Option Fd:=(air n l).find? fun f=>!aiy l (aj1 n l) f
def b58 (n:Int) (l:List Fd):Int:=if a43 n l 8 = 0 then (match ayb n l with | some _=>0 | none=>4) else a43 n l 8
def b4g (n:Int) (l:List Fd):Fd:=if a43 n l 8 = 0 then (match ayb n l with | some f=>f | none=>⟨0,0⟩) else ⟨0,0⟩
end
section
def spA (l:List Fd) (s:AS):AS:=(aaz l s).lhs ||| (aaz l s).rhs
def spB (l:List Fd) (s:AS):AS:=s &&& ~~~(aaz l s).rhs
def amy {a b:AS}:sub (a &&& b) a:=dj.2 fun i hi h=>by rw [b6o,b5j] at h;exact h.1
def aj5 (l:List Fd):Nat -> List AS -> List AS -> List AS
 | 0,_,out=>out
 | n + 1,todo,out =>
  if todo.length = 0 then out
  else if sx l (todo.getD (todo.length - 1) default) = true then aj5 l n (todo.take (todo.length - 1) ++ [spA l (todo.getD (todo.length - 1) default),spB l (todo.getD (todo.length - 1) default)]) out
  else aj5 l n (todo.take (todo.length - 1)) (out ++ [todo.getD (todo.length - 1) default])
def awg (n:Int) (l:List Fd):List AS:=aj5 l 6562 [b6 n] []
def b53 (n:Int) (l:List Fd):List AS:=if a43 n l 8 = 0 then acm (awg n l) else []
def ayx (todo:List AS):Nat:=(todo.map fun s=>3 ^ bsz s).sum
def b42 (n:Int) (l:List Fd) (x:Nat × List AS × List AS):Prop:=aj5 l x.1 x.2.1 x.2.2 = awg n l /\ ayx x.2.1 < x.1 /\ x.2.2.length + x.1 <= 6562
end
section
open Go.Proofs
def b2t:List Fd:=[⟨1,2⟩,⟨2,4⟩]
def b3a:List Fd:=[⟨3,4⟩,⟨4,1⟩]
end
section
open Go.Proofs
def w1 (l:List Fd) (p:AS):Int:=if db 16 l = 0 /\ (8:Int) < bsz p then 3 else db 16 l
section
variable {l:List Fd} {p:AS}
end
section
variable {n:Int} {l:List Fd}
end
end
section
open Go.RowKit Go.ChangeShapes Go.WideShapes Go.ChangeAt
def Rd (P:Program) (t:TypeId) (n:Nat) {α:Type} (c:α -> Nat -> PV):Prop :=
 ∀ (H:Type) (enc:TypeId × Value -> H) (w:World) (sp:Nat -> Bool) (held:Bool) (fuel:Nat) (cs:List Value) (x:DataW H × List MemPlace),DataW.trod enc P w 0 sp held fuel t cs = some x ->
  cs.length = n /\ ∃ a:α,∀ j,j < n -> ∃ v,cs[j]? = some v /\ am (f8 w) (c a j) v
section
variable {P:Program} {t e:TypeId}
def b4k (k:IntKind) (z:Int):Nat -> PV:=fun _=>.raw (.int k z)
def b3b (b:Bool):Nat -> PV:=fun _=>.raw (.bool b)
def b30 (s:ByteArray):Nat -> PV:=fun _=>.raw (.string s)
def u8P (u:UInt8):Nat -> PV:=fun _=>.raw (.int .u8 (u.toNat:Int))
def azu (ht:P.underlying t = some (.int .u8)):Rd P t 1 u8P:=by
 intro H enc w sp held fuel cs x h;obtain ⟨n,rfl,_,hw⟩:=DataW.trod_int ht h;have hx:0 <= n /\ n <= 255:=by simpa [Lit.wf,IntKind.min,IntKind.max,IntKind.signed,IntKind.bits] using hw
 refine ⟨rfl,UInt8.ofNat n.toNat,fun j hj=>?_⟩;obtain rfl:j = 0:=by omega
 refine ⟨_,rfl, ?_,rfl⟩
 have:(UInt8.ofNat n.toNat).toNat = n.toNat:=by
  rw [UInt8.toNat_ofNat'];omega
 rw [this];congr 1;omega
theorem Rd.co {n:Nat} {α β:Type} {c:α -> Nat -> PV} {c':β -> Nat -> PV} (h:Rd P t n c) (f:α -> β) (hc:∀ a j,j < n -> CoP (c a j) (c' (f a) j)):Rd P t n c':=by
 intro H enc w sp held fuel cs x hx;obtain ⟨h1,a,h2⟩:=h _ enc w sp held fuel cs x hx;refine ⟨h1,f a,fun j hj=>?_⟩;obtain ⟨v,h3,h4⟩:=h2 j hj;exact ⟨v,h3,hc a j hj _ _ h4⟩
def apy {α:Type} [Inhabited α] (s:Nat) (c:α -> Nat -> PV) (l:List α):Nat -> PV:=fun _=>psl s c l
end
def aaa {W W':World} (hb:Below W.heap.size W W') (may:MemPlace -> Prop):W.keptBut W' may:=by
 refine ⟨hb.os,hb.output,fun i hi=>?_⟩;rw [hb.block i hi]
 cases W.heap[i]? with
 | none=>exact rfl
 | some o=>cases o <;> first | exact ⟨rfl,rfl,rfl,fun _ _=>rfl⟩ | exact .inr ⟨rfl,rfl⟩ | exact rfl
def aa9 {W W':World} (hb:Below W.heap.size W W') (p:MemPlace) (hp:p.block < W.heap.size):W.sameAt W' p:=by
 cases p with
 | cell b off=>show W'.cell? _ = W.cell? _;unfold World.cell?;rw [hb.block b hp]
 | map b=>exact hb.block b hp
section
variable {H:Type} {enc:TypeId × Value -> H} {P:Program}
def a02 (hl:laidOutB P = true) {W W':World} {sp':Nat -> Bool}:∀ {ts:List TypeId} {vs:List Value} {ds:List (DataW H)} {ps:List MemPlace},(∀ t ∈ ts,P.readableRec t = true /\ t < P.types.size) -> DataW.TrodAll enc P W 0 (fun _=>true) true ts vs ds ps ->
 (∀ p ∈ ps,W.sameAt W' p) -> (∀ p ∈ ps,sp' p.block = true) -> DataW.TrodAll enc P W' 0 sp' true ts vs ds ps
 | [],[],[],ps,_,h,_,_=>h
 | t :: ts,v :: vs,d :: ds,ps,ht,⟨p,q,h1,h2,e⟩,hs,hsp=>by
  subst e;refine ⟨p,q,WideElems.Trod_stays hl (ht t b8l).1 (ht t b8l).2 h1 (fun z hz=>hs z (by simp [hz])) (fun z hz=>hsp z (by simp [hz])), ?_,rfl⟩;exact a02 hl (fun t ht'=>ht t (by simp [ht'])) h2 (fun z hz=>hs z (by simp [hz])) (fun z hz=>hsp z (by simp [hz]))
 | [],_ :: _,_,_,_,h,_,_=>h.elim
 | [],[],_ :: _,_,_,h,_,_=>h.elim
 | _ :: _,[],_,_,_,h,_,_=>h.elim
 | _ :: _,_ :: _,[],_,_,h,_,_=>h.elim
def ao8 {f:Func} {s:ChangeSpec} {W W':World} {args:Array Value} {ds:List (DataW H)} {before:List MemPlace} {tb:TypeId} (hl:laidOutB P = true) (hpar:∀ t ∈ f.params.toList,P.readableRec t = true /\ t < P.types.size)
 (hres:f.resultTypes = #[tb]) (htb:P.underlying tb = some .bool) (hv:s.vars = []) (hfn:s.fn H ds = { results:=[.lit (.bool true)],args:=ds })
 (hW:DataW.Whole enc P f.params.toList s.vars false W args.toList ds [] before) (hb:Below W.heap.size W W'):s.post enc P f false true false false W args (.bool true) W':=by
 have hW':=hW;have hlt:∀ p ∈ before,p.block < W.heap.size:=fun p hp=>hW.lt p hp;obtain ⟨p,q,hA,hV,rfl,hfz,hnd⟩:=hW;rw [hv] at hV;obtain ⟨_,rfl⟩:=trodVars_none hV;have hfn':s.fn H (ds ++ []) = { results:=[.lit (.bool true)],args:=ds }:=by rw [b6h];exact hfn
 have hargs:∀ sp:Nat -> Bool,(∀ z ∈ p ++ [],sp z.block = true) -> DataW.TrodAll enc P W' 0 sp true f.params.toList args.toList (s.fn H (ds ++ [])).args p:=fun sp hsp=>by
  rw [hfn'];exact a02 hl hpar hA (fun z hz=>aa9 hb z (hlt z (by simpa using hz))) (fun z hz=>hsp z (by simpa using hz))
 have hrs:∀ (b:Nat) (sp:Nat -> Bool) (hd:Bool),DataW.TrodAll enc P W' b sp hd f.resultTypes.toList ((Value.bool true).resultList f.resultTypes.size) (s.fn H (ds ++ [])).results []:=fun b sp hd=>by
  rw [hfn',hres];exact trodAll_cons_mk (shut_bool htb _) trodAll_mk0
 have hok:∀ (j:Nat) (t:TypeId) (r:Value),f.resultTypes[j]? = some t -> ((Value.bool true).resultList f.resultTypes.size)[j]? = some r -> Value.okWide P W' .any 0 t r:=ok_one hres rfl (okWide_bool_mk htb _)
 have hvars:∀ sp:Nat -> Bool,(∀ z ∈ p ++ [],sp z.block = true) -> DataW.TrodVars enc P W' sp s.vars (s.fn H (ds ++ [])).vars []:=fun sp _=>by
  rw [hfn',hv];exact rfl
 have hold:∀ z ∈ p ++ [],(fun b=>decide (b < W.heap.size)) z.block = true:=fun z hz=>by simpa using hlt z hz
 refine ⟨ds,[],p ++ [],[],p,[],hW',hrs _ _ _,hargs _ hold,hvars _ hold,World.keptBut_mono (fun z hz=>⟨hz, ?_⟩) (aaa hb (· ∈ p ++ [])),fun _=>?_⟩
 · exact Or.inr (by simpa using hz)
 refine ⟨hok,_,_,([] ++ p) ++ [],⟨[] ++ p,[],trodAll_append (hargs _ (fun _ _=>rfl)) (hrs _ _ _),hvars _ (fun _ _=>rfl),rfl, ?_, ?_⟩, ?_⟩
 · intro b off hp
   have hp':MemPlace.cell b off ∈ p ++ []:=by simpa using hp
   have:=hfz b off hp';unfold World.frozen? at this ⊢;rw [hb.block b (hlt _ hp')];exact this
 · intro ha;cases ha
 intro z hz _;simpa using hz
end
def ajw {P:Program} {f:FuncId} {args:List PC} {us:List Value} {W:World} {R:Ending -> World -> Prop} (ht:py (f8 W)) (h:a8 P f args (ae [.one (.raw (.bool true))])) (hr:bz (f8 W) args us) (hR:∀ W',Below W.heap.size W W' -> R (.returned (.bool true)) W'):Calls P f us.toArray W R:=by
 refine (h W (f8 W) us ht (fun _ _ hh=>hh) hr).mono ?_;rintro e w' ⟨v,imm',rfl,hv,_,_,hb⟩;obtain ⟨rfl,_⟩:=hv;exact hR w' hb
end
end Go.Hx
