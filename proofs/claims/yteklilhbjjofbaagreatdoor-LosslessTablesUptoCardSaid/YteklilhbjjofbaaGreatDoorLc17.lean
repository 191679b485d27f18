/- A part of the proof: SrW Cs10 Cs11 V10 Cs13 Cs14 Cs15 Cs16 Cs17 Cs18 Cs19 Hx20 Cs20 Cs21 Cs22 Cs23 Hx21. -/
import Derived.ChangeArms
import Derived.OpenShut
import Derived.ProofKit
import Derived.Shelf.SlLaysF
import Derived.Shelf.SlSortCmp.NoneTotal
import Derived.Test.YteklilhbjjofbaaGreatDoorProg
import Derived.WalkKit
import Derived.WideKeyArgs
import Derived.Test.YteklilhbjjofbaaGreatDoorLc16
set_option linter.all false
set_option maxRecDepth 100000
namespace Go.Hx
section
open Go.Proofs Go.RowKit Go.Sort
section
variable {w:World}
def ag7 {w':World} (h:Below w.heap.size w w'):∃ q os,w' = grow (w.drewN q) os:=by
 refine ⟨w'.drawn - w.drawn,w'.heap.extract w.heap.size w'.heap.size, ?_⟩;have hd:=h.drawn;obtain ⟨h1,h2,h3,h4,h5,_⟩:=h
 cases w with
 | mk hp tp dr os out =>
 cases w' with
 | mk hp' tp' dr' os' out' =>
 dsimp only at *;subst h1 h2 h3;unfold grow World.drewN;simp only [World.mk.injEq,true_and,and_true];refine ⟨?_,by omega⟩;apply Array.ext_getElem?;intro k;rw [Array.getElem?_append];by_cases hk:k < hp.size
 · rw [if_pos hk,h5 k hk]
 rw [if_neg hk,Array.getElem?_extract];by_cases hk2:k < hp'.size
 · rw [if_pos b5s]
   congr 1;omega
 rw [if_neg b5s,b4i b5s]
variable {os:Array Obj} {α:Type} {d:Array α} {enc:α -> Value}
def afs [Inhabited α] {g m:Nat} {cur:Array Value} {e:TypeId} {fr:Nat × Nat} (h:w.heap[g]? = some (.cells cur e fr)):
 (sortWorld enc w g 0 m d os).heap[g]? = some (.cells (putCells enc 0 d cur) e fr):=by
 have hlt:=(b2t.1 h).1;unfold sortWorld;rw [heap_grow_old _ _ (by simpa using hlt)];unfold putRow mapBlock;simp only [heap_ahead,b5q,if_true,h];rfl
def wt [Inhabited α] {g m:Nat} {b:Nat} (hb:b < w.heap.size) (hne:b ≠ g):(sortWorld enc w g 0 m d os).heap[b]? = w.heap[b]?:=by
 unfold sortWorld;rw [heap_grow_old _ _ (by simpa using hb)];unfold putRow mapBlock;simp only [heap_ahead,b5q,if_neg (Ne.symm hne)]
def afz [Inhabited α] {g m:Nat}:Below 0 w (sortWorld enc w g 0 m d os) :=
 ⟨rfl,rfl,rfl,by unfold sortWorld;simp,fun k hk=>absurd hk (b2y k),by unfold sortWorld grow;simp⟩
def akl [Inhabited α] {cur:Array Value} (h:d.size <= cur.size):(putCells enc 0 d cur).toList.take d.size = d.toList.map enc:=by
 apply b4w;intro k;rw [b3p,b35,b4h,b4h];by_cases hk:k < d.size
 · rw [if_pos hk]
   unfold putCells;rw [Array.getElem?_mapIdx,b3r b5s,b3r hk];simp only [b3c,b3d,Nat.sub_zero];rw [if_pos ⟨b2w _,hk⟩,getElem!_pos d k hk]
 rw [if_neg hk,b4i b5s];rfl
def srt (l:List AS):List AS:=l.mergeSort fun x y=>!bef y x
end
end
section
abbrev bx (a:PV):PV:=.vp 1 fun j=>[a].getD j .any
def abh (W:AS -> AS -> Bool) (l:List AS) (x:AS):Bool:=l.any fun b=>decide (x ≠ b) && W x b
def aok (W:AS -> AS -> Bool) (l:List AS):List AS:=(ord l).filter fun x=>!abh W (ord l) x
def abk (a b:AS):Bool:=decide (sub a b)
def ac3 (l:List AS):List AS:=aok abk l
def okT (l:List AS) (i k:Nat):Bool:=(List.range k).all fun j=>decide (j = i) || !abk (l.getD i default) (l.getD j default)
def b0p (l:List AS) (i:Nat):List AS:=((ord l).take i).filter fun x=>!abh abk (ord l) x
end
section
def aob (l:List Fd):List Fd:=l.foldl (fun o x=>if x ∈ o then o else o ++ [x]) []
def b0v (l:List Fd) (i k:Nat):Bool:=(l.take k).any fun x=>decide (x = l.getD i default)
def ai9 (f:Fd):List Fd:=(b9 (f.rhs &&& ~~~f.lhs)).map fun a=>(⟨f.lhs,(1:AS) <<< a⟩:Fd)
def ab3 (l:List Fd):List Fd:=(l.map ai9).flatten
def b0c (l:List Fd) (i k:Nat):List Fd:=ab3 (l.take i) ++ (ai9 (l.getD i default)).take k
def exB (l:List Fd) (x:Fd) (a:Nat):Bool:=imp l ⟨x.lhs &&& ~~~((1:AS) <<< a),x.rhs⟩
def adz (l:List Fd) (i:Nat):List Fd:=l.take i ++ l.drop (i + 1)
def azs (l:List Fd) (i:Nat):Bool:=imp (adz l i) (l.getD i default)
end
section
open Go.Proofs
def rwC (l:List Fd):Nat -> PV
 | 0=>fdl l
 | _=>.any
abbrev b1o (ls:List (List Fd)):PV:=psl 1 rwC ls
end
section
def b0f (l:List Fd) (i k:Nat):List Fd:=ab3 (l.take i) ++ (ax6 ((l.getD i default).rhs &&& ~~~(l.getD i default).lhs) k).map fun a=>(⟨(l.getD i default).lhs,(1:AS) <<< a⟩:Fd)
def azd (x:Fd) (a:Nat):Fd:=⟨x.lhs &&& ~~~((1:AS) <<< a),x.rhs⟩
def amt (i:Nat) (l:List Fd) (a:Nat):List Fd:=if bm (l.getD i default).lhs a && exB l (l.getD i default) a then l.set i (azd (l.getD i default) a) else l
def b1d (l:List Fd) (i k:Nat):List Fd:=((b9 (l.getD i default).lhs).take k).foldl (amt i) l
def ayk (l:List Fd) (i:Nat):List Fd:=(b9 (l.getD i default).lhs).foldl (amt i) l
def b02 (l:List Fd) (i:Nat):List Fd:=(List.range i).foldl ayk l
def agz:Nat -> List Fd -> Nat -> List Fd
 | 0,l,_=>l
 | f + 1,l,i=>if i < l.length then (if azs l i then agz f (adz l i) i else agz f l (i + 1)) else l
def spl (l:List Fd):List Fd:=aob (ab3 l)
def ajq (l:List Fd):List Fd:=aob (b02 (spl l) (spl l).length)
def az4 (l:List Fd):List Fd:=agz (ajq l).length (ajq l) 0
def b0i (t:AS) (l:List Fd):Prop:=∀ x ∈ l,sub x.lhs t
end
section
def afe (n:Int) (l:List Fd):List Fd:=if d6 n l = 0 then az4 l else []
def b1s (l:List Fd) (i k:Nat):List Fd:=(List.range k).foldl (amt i) l
end
section
def az2 {z s:AS}:sub z s <-> z.toNat &&& s.toNat = z.toNat:=by
 rw [<- BitVec.toNat_and,BitVec.toNat_inj,bu];constructor
 · intro h
   apply b48;intro k hk;rw [b3w]
   cases hz:z.getLsbD k with
   | false=>rfl
   | true=>rw [h k hk hz];rfl
 intro h i _ hi;rw [<- h,b3w] at hi;simp at hi;exact hi.2
def aoz (s:AS):Nat -> AS -> List AS
 | 0,_=>[]
 | n + 1,x=>x :: if x = 0 then [] else aoz s n ((x - 1) &&& s)
def axk (s:AS):List AS:=ord (aoz s (s.toNat + 1) s)
def sub_self (s:AS):sub s s:=by rw [az2,Nat.and_self]
def a8m (s:AS):List AS:=if 12 < bsz s then [] else axk s
def b0h (s:AS) (y:List AS × AS):Prop:=sub y.2 s /\ y.1.length + y.2.toNat <= s.toNat + 1 /\ ∀ z,z ∈ y.1 <-> sub z s /\ y.2.toNat <= z.toNat
def nxt (x s:Nat):Nat:=if x = s then s + 1 else ((2 ^ 64 + x - s) &&& s)
def UpI (s:AS) (k:Nat) (y:List AS × Nat):Prop :=
 (y.2 = s.toNat + 1 \/ y.2 &&& s.toNat = y.2) /\ y.1.length <= k * 4294967296 + y.2 /\ awe y.1 /\ ∀ z,z ∈ y.1 <-> sub z s /\ (bsz z < k \/ bsz z = k /\ z.toNat < y.2)
def UpK (s:AS) (k:Nat) (l:List AS):Prop:=l.length <= k * 4294967296 /\ awe l /\ ∀ z,z ∈ l <-> sub z s /\ bsz z < k
abbrev pU (n:Nat):PC:=.one (.raw (.int .u64 (n:Int)))
abbrev vU (n:Nat):HR:=b4 (.raw (.int .u64 (n:Int)))
def n3 {α:Type} [Inhabited α] {wr wr':Bool} {e:TypeId} {c:α -> Nat -> PV} {x:α} {f:Nat -> Nat -> PV} (h:CoP (f 0 0) (c x 0)) (hw:wr' = true -> wr = true:=by exact fun h=>h):CoO (.arr wr 1 e 1 f) (.arr wr' 1 e [x].length (lf c [x])) :=
 ⟨hw,rfl,rfl,rfl,fun i j hi hj=>by
  have hi:i < 1:=hi;have hj:j < 1:=hj;obtain rfl:j = 0:=by omega
  obtain rfl:i = 0:=by omega
  exact h⟩
end
section
def b04 (l:List Fd) (p x:AS):Bool:=decide (clo l x &&& p ≠ x) && decide (clo l x &&& p ≠ p)
def ao1 (l:List Fd) (p:AS):Option AS:=(a8m p).find? (b04 l p)
def ayw (l:List Fd) (p x:AS):Fd:=⟨x,(clo l x &&& p) &&& ~~~x⟩
def a8r (l:List Fd) (p:AS):Fd:=match ao1 l p with
 | some x=>ayw l p x
 | none=>⟨0,0⟩
def re (l:List Fd) (p:AS):Bool:=(ao1 l p).isSome
end
section
def jg {id n m:Nat} (h:n = m):CoR (.v (.one (.ref id n))) (.v (.one (.ref id m))):=by rw [h];exact CoR.refl _
end
section
def asx (l:List Fd) (p:AS):Int:=if d6 16 l = 0 then (if 8 < bsz p then 3 else if p >>> 16 = 0 then 0 else 1) else d6 16 l
def b2o (l:List Fd) (p:AS):Fd:=if asx l p = 0 then a8r l p else ⟨0,0⟩
def b11 (l:List Fd) (p:AS):Bool:=decide (asx l p = 0) && re l p
def bcP (n:Int) (l:List Fd) (f:Fd):Bool:=decide (f.rhs &&& ~~~f.lhs ≠ 0) && decide (clo l f.lhs ≠ ai n)
def bcS (n:Int) (l:List Fd):Bool:=decide (d6 n l = 0) && !l.any (bcP n l)
def agn (n:Int) (l:List Fd):List AS:=if a2f n l 8 = 0 then (a8m (ai n)).filter fun s=>!re l s else []
end
section
def aov (l:List Fd) (p z:AS):AS:=(p &&& clo l (z &&& p)) &&& ~~~z
def axs (l:List Fd) (z p:AS):Bool:=decide (aov l p z ≠ 0)
def al4 (l:List Fd) (ps:List AS):Nat -> AS -> AS
 | 0,z=>z
 | n + 1,z=>match ps.find? (axs l z) with
  | none=>z
  | some p=>al4 l ps n (z ||| aov l p z)
def ame (l:List Fd) (ps:List AS) (z:AS):AS:=al4 l ps 4294967297 z
def ag4 (l:List Fd) (ps:List AS) (f:Fd):Bool:=decide (sub f.rhs (ame l ps f.lhs))
def b2d (l:List Fd) (ps:List AS) (z0:AS) (x:Nat × List Nat × AS):Prop:=al4 l ps x.1 x.2.2 = ame l ps z0 /\ 4294967296 < x.1 + x.2.2.toNat /\ x.2.1.length + x.1 = 4294967297
def b0n (l:List Fd) (ps:List AS) (i:Nat):List Nat:=(List.range i).filter fun j=>!ag4 l ps (l.getD j default)
def avp (l:List Fd) (ps:List AS):Bool:=(List.range l.length).all fun j=>ag4 l ps (l.getD j default)
end
section
open Go.RowKit
def b0j (P:Program) (g:FuncId) (caps:List PC) (n:Nat) (xs:Nat -> List PC):Prop :=
 ∀ (imm:Imm) (_:o4 imm) (us:List Value) (W:World) (l:Nat) (J:Nat -> World -> Prop),bj imm caps us ->
  (∀ i A,J i A -> ∀ b ob,imm b = some ob -> A.heap[b]? = some ob) ->
  (∀ i A A',J i A -> Below A.heap.size A A' -> J i A') ->
  (∀ i A vs,i < n -> J i A -> bj imm (xs i) vs -> YieldAt (rf none) 0 P l vs.toArray A fun e A'=>e = .returned (.bool true) /\ J (i + 1) A') ->
  J 0 W -> CallsIn (rf none) 0 P g (#[.func (.yield l) #[] #[]] ++ us.toArray) W fun e W'=>(∃ v,e = .returned v) /\ J n W'
section
variable {P:Program} {nt:Nat} {c:Ctx} {s:S} {a:Act} {w w0:World}
end
def ata (r:Nat -> Nat):List (Nat × Option HR) -> List (Nat × Option HR)
 | []=>[]
 | (d,some x) :: l=>(d,some (x.ren r)) :: ata r l
 | (d,none) :: l=>(d,none) :: ata r l
def rgB (r:Nat -> Nat) (T:List (Nat × Option HR)) (o1 o2:List (Nat × a6)) (fx:List Nat):Bool :=
 (fx.all fun id=>Nat.ble 1000 (r id)) && ((bv o2).all fun id=>(ou fx id && ou (bv o1) id) || (Nat.blt id 1000 && nmT id T)) && (a2j o2).all (ou (bv o2))
def b2f (P:Program) (nt l:Nat) (body:Code) (Q:HSt -> Prop) (e:Exit) (st:HSt):Prop:=e = .normal /\ HW (ro:=some l) P nt body st fun e st=>e = .normal /\ Q st
section
variable {P:Program} {E:Env} {nt:Nat} {ops:Array Oper} {i:Nat} {o:Oper} {Q:Exit -> Act -> World -> Prop} {a:Act} {A:World} {imm:Imm}
def at0 (d:Option Tmp) (x:HR) (t:List (Nat × Option HR)):List (Nat × Option HR):=match d with | some d=>(d,some x) :: t | none=>t
class TabC (imm:Imm):Prop where
 ok:o4 imm
def cI (imm:Imm) (A:World) [ht:TabC imm]:Ctx:={ old:=(imm,df A,(fun _=>undef),(fun _=>none),fun _ _=>undef),imm:=imm,tab:=ht.ok,own:=fun _=>undef,blk:=fun _=>noB,rows:=fun _ _=>undef }
variable [TabC imm]
structure It (imm:Imm) [TabC imm] (nt:Nat) (t:List (Nat × Option HR)) (a:Act) (A:World):Prop where
 defers:a.defers = []
 rel:aa A nt (cI imm A) ⟨b6 t,fun _=>none⟩ a A
section
variable {t:List (Nat × Option HR)}
theorem It.sub {t':List (Nat × Option HR)} (h:It imm nt t a A) (hs:m7 t' t):It imm nt t' a A :=
 ⟨h.defers,h.rel.relax ⟨b6 t',fun _=>none⟩ (fun d x hx=>uc hs d x hx) (fun id ob ho=>by cases ho)⟩
theorem It.move {A':World} (h:It imm nt t a A) (hi:∀ b ob,imm b = some ob -> A'.heap[b]? = some ob):It imm nt t a A':=by
 refine ⟨h.defers,by rw [h.defers];exact nx.nil _ _ _ _,h.rel.size,Below.refl _ _,fun d x hx=>?_,(fun id ob ho=>by cases ho),(fun i i' ob ob' b ho=>by cases ho),hi,(fun id ob b ho=>by cases ho),fun b _=>rfl,fun b ob hb=>hb,(fun id ob b ho=>by cases ho),fun id _=>.inl rfl⟩;exact ag.evo (c:=cI imm A) (o:=fun _=>none) (Imm.le.refl imm) (fun _ _=>.inl rfl) (h.rel.tmps d x hx)
theorem It.put (h:It imm nt t a A) {d:Option Tmp} (hd:bz nt d = true) (x:HR) (v:Value) (hx:ag (cI imm A) (fun _=>none) x v):It imm nt (at0 d x t) (a.put d v) A:=by
 cases d with
 | none=>exact h
 | some d =>
  have:=h.rel.put d (of_decide_eq_true hd) (some x) v (fun y hy=>by cases hy;exact hx);refine ⟨h.defers, ?_⟩
  have e:(S.put ⟨b6 t,fun _=>none⟩ d (some x)) = ⟨b6 ((d,some x) :: t),fun _=>none⟩:=by
   unfold S.put;simp [ax]
  rw [e] at this;exact this
def aqn (h:It imm nt t a A) {x:Operand} {r:HR} (hx:ev ⟨b6 t,fun _=>none⟩ x = some r):ag (cI imm A) (fun _=>none) r (a.eval x):=a7 h.rel hx
def iy {L:List Nat} {cl:Call} {f:Operand} {l:Nat} {R:World -> Prop} (h:It imm nt t a A) (hi:ops[i]? = some o) (hw:ak ops ⟨b6 t,fun _=>none⟩ o = some true) (hd:bz nt o.dst = true) (ho:o.op = .call cl) (hcl:cl.callee = .value f) (hf:ev ⟨b6 t,fun _=>none⟩ f = some (b4 (.raw (.func (.yield l) #[] #[])))) (hy:YieldAt (rf none) 0 P l (cl.args.toList.map a.eval).toArray A fun e A'=>e = .returned (.bool true) /\ R A') (him:∀ A',R A' -> ∀ b ob,imm b = some ob -> A'.heap[b]? = some ob) (hK:∀ a' A',R A' -> It imm nt (at0 o.dst (b4 (.raw (.bool true))) t) a' A' -> wpOpsIn (rf none) 0 P ops Q L a' A'):wpOpsIn (rf none) 0 P ops Q (i :: L) a A:=by
 rw [wpOpsIn_cons];unfold wpOpIn;simp only [hi];rw [if_pos (d4 h.rel hw)];obtain ⟨fn,tmps,assign,body,hyr,hround⟩:=hy;have hfe:a.eval f = .func (.yield l) #[] #[]:=(aqn h hf).1;refine ⟨fun _ _=>trivial, ?_⟩;have hsem:Oper.semAt (rf none).round a.eval o = execOp a.eval o:=rfl;rw [hsem];have hma:(cl.args.toList.map a.eval).toArray = cl.args.map a.eval:=by apply Array.toList_inj.1;rw [b4u]
 rw [hma] at hyr
 have hrun:(execOp a.eval o).run P A = .ok (.round l fn tmps assign body) A:=by
  simp only [execOp,ho,resolve,hcl,hfe,b3i,Deferred.ofValue,b40,b34,invoke];simpa using hyr
 rw [hrun,Oper.uponIn_round];refine ⟨fun hh=>absurd hh (by simp [rf]),hround.mono ?_⟩;rintro e A' ⟨rfl,hR⟩;exact hK _ A' hR ((h.move (him A' hR)).put hd (b4 (.raw (.bool true))) (.bool true) ⟨rfl,rfl⟩)
end
end
theorem CoP.vp {k k':Nat} {f f':Nat -> PV} (hk:k' = k) (hf:∀ j,j < k -> CoP (f j) (f' j)):CoP (.vp k f) (.vp k' f'):=by
 subst hk;rintro m u ⟨b,off,rfl,h⟩
 exact ⟨b,off,rfl,fun j hj=>by
  obtain ⟨x,hx,hr⟩:=h j hj
  exact ⟨x,hx,hf j hj m x hr⟩⟩
theorem CoP.fn {g:FuncId} {k k':Nat} {f f':Nat -> PV} (hk:k' = k) (hf:∀ j,j < k -> CoP (f j) (f' j)):CoP (.fn g k f) (.fn g k' f'):=by
 subst hk;rintro m u ⟨cs,rfl,hl,h⟩
 exact ⟨cs,rfl,hl,fun j hj=>by
  obtain ⟨x,hx,hr⟩:=h j hj
  exact ⟨x,hx,hf j hj m x hr⟩⟩
def RN (P:Program) (nt:Nat) (ops:Array Oper) (L:List Nat) (st:HSt) (Q:HSt -> Prop):Prop :=
 ∀ (ro:Option Nat) (n:Nat) w0 m0 a w (QQ:Exit -> Act -> World -> Prop),Rel w0 m0 nt st.den a w -> (∀ st' a' w',Q st' -> Rel w0 m0 nt st'.den a' w' -> QQ .normal a' w') -> wpOpsIn (rf ro) n P ops QQ L a w
section
variable {P:Program} {E:Env} {nt:Nat} {ops:Array Oper} {st:HSt}
end
end
section
def orL (ps:List AS):AS:=ps.foldl (· ||| ·) 0
def aaw {ps:List AS} {i:Nat} (h:i < ps.length):orL (ps.take (i + 1)) = orL (ps.take i) ||| ps.getD i default:=by
 unfold orL;rw [bi h,b5b];rfl
def axl (n:Int) (l:List Fd) (ps:List AS):Bool:=decide (orL ps = ai n) && avp l ps && ps.any (a69 n l)
def ax3 (n:Int) (l:List Fd) (ps:List AS) (s:AS):List AS:=if axl n l (ps.eraseIdx (idx (fun x=>decide (x = s)) ps).toNat) = true then ps.eraseIdx (idx (fun x=>decide (x = s)) ps).toNat else ps
def afq (n:Int) (l:List Fd) (p0:List AS):Nat -> List AS
 | 0=>p0
 | i + 1=>ax3 n l (afq n l p0 i) (p0.getD (p0.length - 1 - i) default)
def aey (n:Int) (l:List Fd):Bool:=avp l (agn n l)
def b0t (n:Int) (l:List Fd):List AS:=if a2f n l 8 = 0 /\ aey n l = true then afq n l (ac3 (agn n l)) (ac3 (agn n l)).length else []
def b0w (n:Int) (l:List Fd):Bool:=decide (a2f n l 8 = 0) && aey n l
def b15 (n:Int) (l:List Fd) (p0:List AS) (i:Nat) (ps:List AS):Prop:=ps = afq n l p0 i /\ ps.length <= p0.length /\ ∀ j,j < p0.length - i -> p0.getD j default ∈ ps
def awf (n:Int) (l:List Fd):Option Fd:=(afe n l).find? fun f=>!ag4 l (agn n l) f
def b22 (n:Int) (l:List Fd):Int:=if a2f n l 8 = 0 then (match awf n l with | some _=>0 | none=>4) else a2f n l 8
def b1p (n:Int) (l:List Fd):Fd:=if a2f n l 8 = 0 then (match awf n l with | some f=>f | none=>⟨0,0⟩) else ⟨0,0⟩
end
section
def spA (l:List Fd) (s:AS):AS:=(a8r l s).lhs ||| (a8r l s).rhs
def spB (l:List Fd) (s:AS):AS:=s &&& ~~~(a8r l s).rhs
def ahv {a b:AS}:sub (a &&& b) a:=bu.2 fun i hi h=>by rw [b3w,b2x] at h;exact h.1
def af9 (l:List Fd):Nat -> List AS -> List AS -> List AS
 | 0,_,out=>out
 | n + 1,todo,out =>
  if todo.length = 0 then out
  else if re l (todo.getD (todo.length - 1) default) = true then af9 l n (todo.take (todo.length - 1) ++ [spA l (todo.getD (todo.length - 1) default),spB l (todo.getD (todo.length - 1) default)]) out
  else af9 l n (todo.take (todo.length - 1)) (out ++ [todo.getD (todo.length - 1) default])
def atd (n:Int) (l:List Fd):List AS:=af9 l 6562 [ai n] []
def b1l (n:Int) (l:List Fd):List AS:=if a2f n l 8 = 0 then ac3 (atd n l) else []
def au3 (todo:List AS):Nat:=(todo.map fun s=>3 ^ bsz s).sum
def b18 (n:Int) (l:List Fd) (x:Nat × List AS × List AS):Prop:=af9 l x.1 x.2.1 x.2.2 = atd n l /\ au3 x.2.1 < x.1 /\ x.2.2.length + x.1 <= 6562
end
section
open Go.Proofs
def b0d:List Fd:=[⟨1,2⟩,⟨2,4⟩]
def b0o:List Fd:=[⟨3,4⟩,⟨4,1⟩]
end
section
open Go.Proofs
def w1 (l:List Fd) (p:AS):Int:=if d6 16 l = 0 /\ (8:Int) < bsz p then 3 else d6 16 l
section
variable {l:List Fd} {p:AS}
end
section
variable {n:Int} {l:List Fd}
end
end
section
open Go.RowKit Go.ChangeShapes Go.WideShapes Go.ChangeAt
def Rd (P:Program) (t:TypeId) (n:Nat) {α:Type} (c:α -> Nat -> PV):Prop :=
 ∀ (H:Type) (enc:TypeId × Value -> H) (w:World) (sp:Nat -> Bool) (held:Bool) (fuel:Nat) (cs:List Value) (x:DataW H × List MemPlace),DataW.trod enc P w 0 sp held fuel t cs = some x ->
  cs.length = n /\ ∃ a:α,∀ j,j < n -> ∃ v,cs[j]? = some v /\ af (df w) (c a j) v
section
variable {P:Program} {t e:TypeId}
def b1e (k:IntKind) (z:Int):Nat -> PV:=fun _=>.raw (.int k z)
def b14 (b:Bool):Nat -> PV:=fun _=>.raw (.bool b)
def b0x (s:ByteArray):Nat -> PV:=fun _=>.raw (.string s)
def u8P (u:UInt8):Nat -> PV:=fun _=>.raw (.int .u8 (u.toNat:Int))
def aom (ht:P.underlying t = some (.int .u8)):Rd P t 1 u8P:=by
 intro H enc w sp held fuel cs x h;obtain ⟨n,rfl,_,hw⟩:=DataW.trod_int ht h;have hx:0 <= n /\ n <= 255:=by simpa [Lit.wf,IntKind.min,IntKind.max,IntKind.signed,IntKind.bits] using hw
 refine ⟨rfl,UInt8.ofNat n.toNat,fun j hj=>?_⟩;obtain rfl:j = 0:=by omega
 refine ⟨_,rfl, ?_,rfl⟩
 have:(UInt8.ofNat n.toNat).toNat = n.toNat:=by
  rw [UInt8.toNat_ofNat'];omega
 rw [this];congr 1;omega
theorem Rd.co {n:Nat} {α β:Type} {c:α -> Nat -> PV} {c':β -> Nat -> PV} (h:Rd P t n c) (f:α -> β) (hc:∀ a j,j < n -> CoP (c a j) (c' (f a) j)):Rd P t n c':=by
 intro H enc w sp held fuel cs x hx;obtain ⟨h1,a,h2⟩:=h _ enc w sp held fuel cs x hx;refine ⟨h1,f a,fun j hj=>?_⟩;obtain ⟨v,h3,h4⟩:=h2 j hj;exact ⟨v,h3,hc a j hj _ _ h4⟩
def acg {α:Type} [Inhabited α] (s:Nat) (c:α -> Nat -> PV) (l:List α):Nat -> PV:=fun _=>psl s c l
def ako {s:Nat} {α:Type} [Inhabited α] {c:α -> Nat -> PV} (ht:P.underlying t = some (.slice e)) (hc:P.cellsOf e = s) (hs:0 < s) (h:Rd P e s c):Rd P t 1 (acg s c):=by
 classical
 intro H enc w sp held fuel cs x hx
 rcases DataW.trod_slice ht hx with ⟨rfl,_⟩ | ⟨a,len,cap,elems,rest,n,rfl,rfl,_,hb,hl,hm,hlen,hel,_,_⟩
 · refine ⟨rfl,[],fun j hj=>?_⟩
   obtain rfl:j = 0:=by omega
   exact ⟨_,rfl,none,0,rfl,b2v _,b2w _,(fun hh=>by cases hh),fun hh=>absurd hh (Nat.lt_irrefl 0)⟩
 have each:∀ i,i < len -> ∃ q:α,∀ j,j < s -> ∃ v,w.cell? (a.add (i * s + j)) = some v /\ af (df w) (c q j) v:=by
  intro i hi;have h1:=hel i hi;rw [hc] at h1;rw [b2q b5s] at h1;obtain ⟨cs',h2,h3⟩:=Option.bind_eq_some_iff.1 h1;obtain ⟨_,h4,h5⟩:=World.cells?_some h2;obtain ⟨_,q,h6⟩:=h _ enc w sp held n cs' _ h3;refine ⟨q,fun j hj=>?_⟩;obtain ⟨v,h7,h8⟩:=h6 j hj;refine ⟨v, ?_,h8⟩;have:=h5 j hj;rw [h7] at this;rw [<- this];congr 1;unfold Addr.add;by_cases hj0:j = 0
  · subst hj0
    simp
  by_cases hi0:i * s = 0
  · simp [hi0,hj0]
  have:¬ (i * s + j = 0):=by omega
  simp only [hj0,hi0,this,if_false];congr 1;omega
 refine ⟨rfl,(List.range len).map fun i=>if hi:i < len then Classical.choose (each i hi) else default,fun j hj=>?_⟩;obtain rfl:j = 0:=by omega
 refine ⟨_,rfl,some a,cap,by simp,by simpa using hl,hm,(fun hh=>by cases hh),fun hn=>?_⟩;have hn:0 < len:=by simpa using hn
 have hspot:a.spot = none:=by
  obtain ⟨q,hq⟩:=each 0 hn;obtain ⟨v,hv,_⟩:=hq 0 hs;have:a.add (0 * s + 0) = a:=by simp [Addr.add]
  rw [this] at hv;unfold World.cell? at hv;split at hv
  · split at hv
    · cases hv
    rename_i hsp;simpa using hsp
  cases hv
 refine ⟨a.block,a.off, ?_,fun i j hi hj=>?_⟩
 · obtain ⟨b,o,spo⟩:=a
   simp only at hspot;subst hspot;rfl
 have hi:i < len:=by simpa using hi
 have hch:=Classical.choose_spec (each i hi);obtain ⟨v,hv,hr⟩:=hch j hj;refine ⟨v, ?_, ?_⟩
 · unfold World.cell? at hv
   have hblk:(a.add (i * s + j)).block = a.block:=by unfold Addr.add;split <;> rfl
   have hoff:(a.add (i * s + j)).off = a.off + (i * s + j):=by
    unfold Addr.add;split
    · rename_i h0;rw [h0];rfl
    rfl
   rw [hblk,hoff] at hv;unfold f7 df;split at hv
   · rename_i hb'
     rw [hb'];split at hv
     · cases hv
     exact hv
   cases hv
 have:lf c ((List.range len).map fun i=>if hi:i < len then Classical.choose (each i hi) else default) i j = c (Classical.choose (each i hi)) j:=by
  unfold lf;simp [List.getD,hi]
 rw [this];exact hr
end
def a8c {W W':World} (hb:Below W.heap.size W W') (may:MemPlace -> Prop):W.keptBut W' may:=by
 refine ⟨hb.os,hb.output,fun i hi=>?_⟩;rw [hb.block i hi]
 cases W.heap[i]? with
 | none=>exact rfl
 | some o=>cases o <;> first | exact ⟨rfl,rfl,rfl,fun _ _=>rfl⟩ | exact .inr ⟨rfl,rfl⟩ | exact rfl
def a89 {W W':World} (hb:Below W.heap.size W W') (p:MemPlace) (hp:p.block < W.heap.size):W.sameAt W' p:=by
 cases p with
 | cell b off=>show W'.cell? _ = W.cell? _;unfold World.cell?;rw [hb.block b hp]
 | map b=>exact hb.block b hp
section
variable {H:Type} {enc:TypeId × Value -> H} {P:Program}
def yb (hl:laidOutB P = true) {W W':World} {sp':Nat -> Bool}:∀ {ts:List TypeId} {vs:List Value} {ds:List (DataW H)} {ps:List MemPlace},(∀ t ∈ ts,P.readableRec t = true /\ t < P.types.size) -> DataW.TrodAll enc P W 0 (fun _=>true) true ts vs ds ps ->
 (∀ p ∈ ps,W.sameAt W' p) -> (∀ p ∈ ps,sp' p.block = true) -> DataW.TrodAll enc P W' 0 sp' true ts vs ds ps
 | [],[],[],ps,_,h,_,_=>h
 | t :: ts,v :: vs,d :: ds,ps,ht,⟨p,q,h1,h2,e⟩,hs,hsp=>by
  subst e;refine ⟨p,q,WideElems.Trod_stays hl (ht t b5v).1 (ht t b5v).2 h1 (fun z hz=>hs z (by simp [hz])) (fun z hz=>hsp z (by simp [hz])), ?_,rfl⟩;exact yb hl (fun t ht'=>ht t (by simp [ht'])) h2 (fun z hz=>hs z (by simp [hz])) (fun z hz=>hsp z (by simp [hz]))
 | [],_ :: _,_,_,_,h,_,_=>h.elim
 | [],[],_ :: _,_,_,h,_,_=>h.elim
 | _ :: _,[],_,_,_,h,_,_=>h.elim
 | _ :: _,_ :: _,[],_,_,h,_,_=>h.elim
def alt {f:Func} {s:ChangeSpec} {W W':World} {args:Array Value} {ds:List (DataW H)} {before:List MemPlace} {tb:TypeId} (hl:laidOutB P = true) (hpar:∀ t ∈ f.params.toList,P.readableRec t = true /\ t < P.types.size)
 (hres:f.resultTypes = #[tb]) (htb:P.underlying tb = some .bool) (hv:s.vars = []) (hfn:s.fn H ds = { results:=[.lit (.bool true)],args:=ds })
 (hW:DataW.Whole enc P f.params.toList s.vars false W args.toList ds [] before) (hb:Below W.heap.size W W'):s.post enc P f false true false false W args (.bool true) W':=by
 have hW':=hW;have hlt:∀ p ∈ before,p.block < W.heap.size:=fun p hp=>hW.lt p hp;obtain ⟨p,q,hA,hV,rfl,hfz,hnd⟩:=hW;rw [hv] at hV;obtain ⟨_,rfl⟩:=trodVars_none hV;have hfn':s.fn H (ds ++ []) = { results:=[.lit (.bool true)],args:=ds }:=by rw [b3u];exact hfn
 have hargs:∀ sp:Nat -> Bool,(∀ z ∈ p ++ [],sp z.block = true) -> DataW.TrodAll enc P W' 0 sp true f.params.toList args.toList (s.fn H (ds ++ [])).args p:=fun sp hsp=>by
  rw [hfn'];exact yb hl hpar hA (fun z hz=>a89 hb z (hlt z (by simpa using hz))) (fun z hz=>hsp z (by simpa using hz))
 have hrs:∀ (b:Nat) (sp:Nat -> Bool) (hd:Bool),DataW.TrodAll enc P W' b sp hd f.resultTypes.toList ((Value.bool true).resultList f.resultTypes.size) (s.fn H (ds ++ [])).results []:=fun b sp hd=>by
  rw [hfn',hres];exact trodAll_cons_mk (shut_bool htb _) trodAll_mk0
 have hok:∀ (j:Nat) (t:TypeId) (r:Value),f.resultTypes[j]? = some t -> ((Value.bool true).resultList f.resultTypes.size)[j]? = some r -> Value.okWide P W' .any 0 t r:=ok_one hres rfl (okWide_bool_mk htb _)
 have hvars:∀ sp:Nat -> Bool,(∀ z ∈ p ++ [],sp z.block = true) -> DataW.TrodVars enc P W' sp s.vars (s.fn H (ds ++ [])).vars []:=fun sp _=>by
  rw [hfn',hv];exact rfl
 have hold:∀ z ∈ p ++ [],(fun b=>decide (b < W.heap.size)) z.block = true:=fun z hz=>by simpa using hlt z hz
 refine ⟨ds,[],p ++ [],[],p,[],hW',hrs _ _ _,hargs _ hold,hvars _ hold,World.keptBut_mono (fun z hz=>⟨hz, ?_⟩) (a8c hb (· ∈ p ++ [])),fun _=>?_⟩
 · exact Or.inr (by simpa using hz)
 refine ⟨hok,_,_,([] ++ p) ++ [],⟨[] ++ p,[],trodAll_append (hargs _ (fun _ _=>rfl)) (hrs _ _ _),hvars _ (fun _ _=>rfl),rfl, ?_, ?_⟩, ?_⟩
 · intro b off hp
   have hp':MemPlace.cell b off ∈ p ++ []:=by simpa using hp
   have:=hfz b off hp';unfold World.frozen? at this ⊢;rw [hb.block b (hlt _ hp')];exact this
 · intro ha;cases ha
 intro z hz _;simpa using hz
end
def ais {P:Program} {f:FuncId} {args:List PC} {us:List Value} {W:World} {R:Ending -> World -> Prop} (ht:o4 (df W)) (h:a8 P f args (ab [.one (.raw (.bool true))])) (hr:bj (df W) args us) (hR:∀ W',Below W.heap.size W W' -> R (.returned (.bool true)) W'):Calls P f us.toArray W R:=by
 refine (h W (df W) us ht (fun _ _ hh=>hh) hr).mono ?_;rintro e w' ⟨v,imm',rfl,hv,_,_,hb⟩;obtain ⟨rfl,_⟩:=hv;exact hR w' hb
end
end Go.Hx
