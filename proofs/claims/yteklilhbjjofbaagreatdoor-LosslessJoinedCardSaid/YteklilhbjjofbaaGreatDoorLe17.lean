/- A part of the proof: SrW Cs10 Cs11 V10 Cs13 Cs14 Cs15 Cs16 Hx24 Cs17 Cs18 Cs19 Hx20 Cs20 Cs21 Cs22 Cs23 Hx21. -/
import Derived.ChangeArms
import Derived.OpenShut
import Derived.ProofKit
import Derived.Shelf.SlLaysF
import Derived.Shelf.SlSortCmp.NoneTotal
import Derived.Test.YteklilhbjjofbaaGreatDoorProg
import Derived.WalkKit
import Derived.WideKeyArgs
import Derived.Test.YteklilhbjjofbaaGreatDoorLe16
set_option linter.all false
set_option maxRecDepth 100000
namespace Go.Hx
section
open Go.Proofs Go.RowKit Go.Sort
section
variable {w:World}
def agp {w':World} (h:Below w.heap.size w w'):∃ q os,w' = grow (w.drewN q) os:=by
 refine ⟨w'.drawn - w.drawn,w'.heap.extract w.heap.size w'.heap.size, ?_⟩;have hd:=h.drawn;obtain ⟨h1,h2,h3,h4,h5,_⟩:=h
 cases w with
 | mk hp tp dr os out =>
 cases w' with
 | mk hp' tp' dr' os' out' =>
 dsimp only at *;subst h1 h2 h3;unfold grow World.drewN;simp only [World.mk.injEq,true_and,and_true];refine ⟨?_,by omega⟩;apply Array.ext_getElem?;intro k;rw [Array.getElem?_append];by_cases hk:k < hp.size
 · rw [if_pos hk,h5 k hk]
 rw [if_neg hk,Array.getElem?_extract];by_cases hk2:k < hp'.size
 · rw [if_pos b5h]
   congr 1;omega
 rw [if_neg b5h,b4a b5h]
variable {os:Array Obj} {α:Type} {d:Array α} {enc:α -> Value}
def agn [Inhabited α] {g m:Nat} {cur:Array Value} {e:TypeId} {fr:Nat × Nat} (h:w.heap[g]? = some (.cells cur e fr)):
 (sortWorld enc w g 0 m d os).heap[g]? = some (.cells (putCells enc 0 d cur) e fr):=by
 have hlt:=(b2m.1 h).1;unfold sortWorld;rw [heap_grow_old _ _ (by simpa using hlt)];unfold putRow mapBlock;simp only [heap_ahead,b5f,if_true,h];rfl
def xw [Inhabited α] {g m:Nat} {b:Nat} (hb:b < w.heap.size) (hne:b ≠ g):(sortWorld enc w g 0 m d os).heap[b]? = w.heap[b]?:=by
 unfold sortWorld;rw [heap_grow_old _ _ (by simpa using hb)];unfold putRow mapBlock;simp only [heap_ahead,b5f,if_neg (Ne.symm hne)]
def ag3 [Inhabited α] {g m:Nat}:Below 0 w (sortWorld enc w g 0 m d os) :=
 ⟨rfl,rfl,rfl,by unfold sortWorld;simp,fun k hk=>absurd hk (b2o k),by unfold sortWorld grow;simp⟩
def alk [Inhabited α] {cur:Array Value} (h:d.size <= cur.size):(putCells enc 0 d cur).toList.take d.size = d.toList.map enc:=by
 apply b4s;intro k;rw [b3d,b32,b46,b46];by_cases hk:k < d.size
 · rw [if_pos hk]
   unfold putCells;rw [Array.getElem?_mapIdx,b3e b5h,b3e hk];simp only [b31,b30,b57];rw [if_pos ⟨b2n _,hk⟩,getElem!_pos d k hk]
 rw [if_neg hk,b4a b5h];rfl
def srt (l:List AS):List AS:=l.mergeSort fun x y=>!bef y x
end
end
section
abbrev bx (a:PV):PV:=.vp 1 fun j=>[a].getD j .any
def a94 (W:AS -> AS -> Bool) (l:List AS) (x:AS):Bool:=l.any fun b=>decide (x ≠ b) && W x b
def aoh (W:AS -> AS -> Bool) (l:List AS):List AS:=(ord l).filter fun x=>!a94 W (ord l) x
def aa4 (a b:AS):Bool:=decide (sub a b)
def abr (l:List AS):List AS:=aoh aa4 l
def okT (l:List AS) (i k:Nat):Bool:=(List.range k).all fun j=>decide (j = i) || !aa4 (l.getD i default) (l.getD j default)
def b0j (l:List AS) (i:Nat):List AS:=((ord l).take i).filter fun x=>!a94 aa4 (ord l) x
end
section
def aos (l:List Fd):List Fd:=l.foldl (fun o x=>if x ∈ o then o else o ++ [x]) []
def b09 (l:List Fd) (i k:Nat):Bool:=(l.take k).any fun x=>decide (x = l.getD i default)
def ak0 (f:Fd):List Fd:=(bc (f.rhs &&& ~~~f.lhs)).map fun a=>(⟨f.lhs,(1:AS) <<< a⟩:Fd)
def a96 (l:List Fd):List Fd:=(l.map ak0).flatten
def b00 (l:List Fd) (i k:Nat):List Fd:=a96 (l.take i) ++ (ak0 (l.getD i default)).take k
def exB (l:List Fd) (x:Fd) (a:Nat):Bool:=imp l ⟨x.lhs &&& ~~~((1:AS) <<< a),x.rhs⟩
def aec (l:List Fd) (i:Nat):List Fd:=l.take i ++ l.drop (i + 1)
def ayz (l:List Fd) (i:Nat):Bool:=imp (aec l i) (l.getD i default)
end
section
open Go.Proofs
def rwC (l:List Fd):Nat -> PV
 | 0=>fdl l
 | _=>.any
abbrev b1k (ls:List (List Fd)):PV:=psl 1 rwC ls
end
section
def b06 (l:List Fd) (i k:Nat):List Fd:=a96 (l.take i) ++ (ax2 ((l.getD i default).rhs &&& ~~~(l.getD i default).lhs) k).map fun a=>(⟨(l.getD i default).lhs,(1:AS) <<< a⟩:Fd)
def azu (x:Fd) (a:Nat):Fd:=⟨x.lhs &&& ~~~((1:AS) <<< a),x.rhs⟩
def alx (i:Nat) (l:List Fd) (a:Nat):List Fd:=if bt (l.getD i default).lhs a && exB l (l.getD i default) a then l.set i (azu (l.getD i default) a) else l
def b1h (l:List Fd) (i k:Nat):List Fd:=((bc (l.getD i default).lhs).take k).foldl (alx i) l
def aze (l:List Fd) (i:Nat):List Fd:=(bc (l.getD i default).lhs).foldl (alx i) l
def ayj (l:List Fd) (i:Nat):List Fd:=(List.range i).foldl aze l
def ah1:Nat -> List Fd -> Nat -> List Fd
 | 0,l,_=>l
 | f + 1,l,i=>if i < l.length then (if ayz l i then ah1 f (aec l i) i else ah1 f l (i + 1)) else l
def spl (l:List Fd):List Fd:=aos (a96 l)
def aj5 (l:List Fd):List Fd:=aos (ayj (spl l) (spl l).length)
def azl (l:List Fd):List Fd:=ah1 (aj5 l).length (aj5 l) 0
def b0v (t:AS) (l:List Fd):Prop:=∀ x ∈ l,sub x.lhs t
end
section
def ah9 (n:Int) (l:List Fd):List Fd:=if dm n l = 0 then azl l else []
def b1l (l:List Fd) (i k:Nat):List Fd:=(List.range k).foldl (alx i) l
end
section
def aye {z s:AS}:sub z s <-> z.toNat &&& s.toNat = z.toNat:=by
 rw [<- BitVec.toNat_and,BitVec.toNat_inj,dt];constructor
 · intro h
   apply b47;intro k hk;rw [b3y]
   cases hz:z.getLsbD k with
   | false=>rfl
   | true=>rw [h k hk hz];rfl
 intro h i _ hi;rw [<- h,b3y] at hi;simp at hi;exact hi.2
def aok (s:AS):Nat -> AS -> List AS
 | 0,_=>[]
 | n + 1,x=>x :: if x = 0 then [] else aok s n ((x - 1) &&& s)
def aww (s:AS):List AS:=ord (aok s (s.toNat + 1) s)
def sub_self (s:AS):sub s s:=by rw [aye,Nat.and_self]
def a8q (s:AS):List AS:=if 12 < bsz s then [] else aww s
def b0i (s:AS) (y:List AS × AS):Prop:=sub y.2 s /\ y.1.length + y.2.toNat <= s.toNat + 1 /\ ∀ z,z ∈ y.1 <-> sub z s /\ y.2.toNat <= z.toNat
def nxt (x s:Nat):Nat:=if x = s then s + 1 else ((2 ^ 64 + x - s) &&& s)
def UpI (s:AS) (k:Nat) (y:List AS × Nat):Prop :=
 (y.2 = s.toNat + 1 \/ y.2 &&& s.toNat = y.2) /\ y.1.length <= k * 4294967296 + y.2 /\ aw8 y.1 /\ ∀ z,z ∈ y.1 <-> sub z s /\ (bsz z < k \/ bsz z = k /\ z.toNat < y.2)
def UpK (s:AS) (k:Nat) (l:List AS):Prop:=l.length <= k * 4294967296 /\ aw8 l /\ ∀ z,z ∈ l <-> sub z s /\ bsz z < k
abbrev pU (n:Nat):PC:=.one (.raw (.int .u64 (n:Int)))
abbrev vU (n:Nat):HR:=az (.raw (.int .u64 (n:Int)))
def mn {α:Type} [Inhabited α] {wr wr':Bool} {e:TypeId} {c:α -> Nat -> PV} {x:α} {f:Nat -> Nat -> PV} (h:CoP (f 0 0) (c x 0)) (hw:wr' = true -> wr = true:=by exact fun h=>h):CoO (.arr wr 1 e 1 f) (.arr wr' 1 e [x].length (lf c [x])) :=
 ⟨hw,rfl,rfl,rfl,fun i j hi hj=>by
  have hi:i < 1:=hi;have hj:j < 1:=hj;obtain rfl:j = 0:=by omega
  obtain rfl:i = 0:=by omega
  exact h⟩
end
section
def ayx (l:List Fd) (p x:AS):Bool:=decide (clo l x &&& p ≠ x) && decide (clo l x &&& p ≠ p)
def aoo (l:List Fd) (p:AS):Option AS:=(a8q p).find? (ayx l p)
def ay3 (l:List Fd) (p x:AS):Fd:=⟨x,(clo l x &&& p) &&& ~~~x⟩
def a8x (l:List Fd) (p:AS):Fd:=match aoo l p with
 | some x=>ay3 l p x
 | none=>⟨0,0⟩
def qw (l:List Fd) (p:AS):Bool:=(aoo l p).isSome
end
section
open Go.RowKit
section
variable {w0:World} {nt:Nat} {c:Ctx} {s:S} {a:Act} {w:World}
def ae.short (h:ae w0 nt c s a w) {id id' sz n m:Nat} {el:TypeId} {f:Nat -> Nat -> PV} (ho:s.o id = some (.arr true sz el n f)) (hm:m <= n) (hnm:NM s id') (hno:s.o id' = none) {u:Value} (hu:aw c s.o (.win id n 0 m) u) :
 ∃ c',c'.old = c.old /\ ae w0 nt c' ((s.setO id none).setO id' (some (.arr true sz el m f))) a w /\ ah c' ((s.setO id none).setO id' (some (.arr true sz el m f))).o (.v (.one (.ref id' m))) u:=by
 have hne:id ≠ id':=fun e=>by rw [<- e,ho] at hno;cases hno
 obtain ⟨ad,ad',cap,q1,q2,q3,q4,q5,q6⟩:=a16 hu ho rfl;obtain ⟨h0,h1,h5⟩:=h.objs id _ ho
 have hold:∀ k ob,((s.setO id none).setO id' (some (.arr true sz el m f))).o k = some ob -> k ≠ id' -> s.o k = some ob /\ k ≠ id:=fun k ob hk hk'=>by
  simp only [S.setO,if_neg hk'] at hk;by_cases hki:k = id
  · subst hki;simp at hk
  rw [if_neg hki] at hk;exact ⟨hk,hki⟩
 obtain ⟨bk,hbk,hok⟩:∃ bk:Nat -> Prop,(∀ b,bk b -> c.blk id b) /\ ∀ c':Ctx,c'.imm = c.imm -> c'.own id' = u -> c'.blk id' = bk -> ∀ o':am,ck 0 c' o' w id' (.arr true sz el m f):=by
  rcases h5 with ⟨h6,xs,h2,h4⟩ | ⟨h6 | h6,h7,h8⟩
  · obtain ⟨hxl,hrow⟩:=h2
    rcases hrow with ⟨hv0,hz⟩ | ⟨g,cap',cur,hown,hbase,hheap,hnc,hcm,hcs,htake⟩
    · rw [hv0] at q1
      simp only [Value.slice.injEq] at q1;obtain ⟨rfl,_,rfl⟩:=q1;obtain rfl:n = 0:=by omega
      obtain rfl:m = 0:=by omega
      refine ⟨noB,fun b hb=>hb.elim,fun c' e1 e2 e3 o'=>⟨h0,b2n _, .inr ⟨.inr rfl,e3, ?_⟩⟩⟩;rw [e2,q2];exact ⟨ad',0,rfl,b2j _,b2n _,fun _=>rfl,fun h=>absurd h (b50 0)⟩
    rw [hown] at q1;simp only [Value.slice.injEq,true_and] at q1;obtain ⟨rfl,rfl⟩:=q1;by_cases hcap:cap' = 0
    · subst hcap
      obtain rfl:m = 0:=by omega
      refine ⟨noB,fun b hb=>hb.elim,fun c' e1 e2 e3 o'=>⟨h0,b2n _, .inr ⟨.inr rfl,e3, ?_⟩⟩⟩;rw [e2,q2];exact ⟨ad',0,rfl,b2j _,b2n _,fun _=>rfl,fun h=>absurd h (b50 0)⟩
    obtain rfl:=q6 b5h;simp only [b31,c3,Nat.zero_mul,b49,b57] at q2;have hmul:m * sz <= n * sz:=b2r _ hm;refine ⟨fh u,fun b hb=>by rw [h6,hown];rw [q2] at hb;exact hb,fun c' e1 e2 e3 o'=>⟨h0,b3m hm h1, .inl ⟨by rw [e2,e3],xs.take (m * sz),⟨by rw [b2y,hxl,b3n hmul], .inr ⟨g,cap',cur,by rw [e2,q2],hbase,hheap,by omega,hcm,hcs, ?_⟩⟩,fun i j hi hj=>?_⟩⟩⟩
    · rw [<- htake,List.take_take,b3n hmul]
    obtain ⟨x,hx,hr⟩:=h4 i j b5h hj;refine ⟨x, ?_,by rw [e1];exact hr⟩;rw [b3d,if_pos (se hi hj)];exact hx
  · cases h6
  subst h6;obtain rfl:m = 0:=by omega
  refine ⟨noB,fun b hb=>hb.elim,fun c' e1 e2 e3 o'=>⟨h0,b2n _, .inr ⟨.inr rfl,e3, ?_⟩⟩⟩;obtain ⟨ad2,cap2,r1,r2,r3,r4,_⟩:=h8;rw [q1] at r1;simp only [Value.slice.injEq,true_and] at r1;obtain ⟨rfl,rfl⟩:=r1;obtain rfl:cap = 0:=r4 rfl;rw [e2,q2];exact ⟨ad',0,rfl,b2j _,b2n _,fun _=>rfl,fun h=>absurd h (b50 0)⟩
 have hevo:∀ k,k ≠ id' -> Evo c s.o { c with own:=fun k=>if k = id' then u else c.own k,blk:=fun k=>if k = id' then bk else c.blk k } ((s.setO id none).setO id' (some (.arr true sz el m f))).o k:=fun k hk=>by
  by_cases hki:k = id
  · subst hki
    exact .inl (by simp [S.setO,hk])
  exact Evo.of_same (by simp [S.setO,hk,hki]) (by simp [hk])
 refine ⟨{ c with own:=fun k=>if k = id' then u else c.own k,blk:=fun k=>if k = id' then bk else c.blk k },rfl,⟨h.defers,h.size,h.below,fun d x hx=>?_,fun k ob hk=>?_,fun i i' obi obi' b hi hi' hb hb'=>?_,h.imm,fun k ob b hk hb=>?_,h.was,h.frm,fun k ob b hk hb=>?_,fun k hk=>?_⟩, ?_⟩
 · exact (h.tmps d x hx).evo (Imm.le.refl c.imm) fun k hkm=>hevo k (by rintro rfl;exact hnm.1 d x hx hkm)
 · by_cases hk':k = id'
   · subst hk'
     obtain rfl:ob = .arr true sz el m f:=by simpa [S.setO] using hk.symm
     refine hok _ ?_ ?_ ?_ _ <;> first | rfl | exact if_pos rfl
   obtain ⟨hk1,hk2⟩:=hold k ob hk hk';exact (h.objs k ob hk1).keep (Imm.le.refl c.imm) (by simp [hk']) (by simp [hk']) (fun j hj=>hevo j (by rintro rfl;exact hnm.2.1 k ob hk1 hj)) fun b _=>rfl
 · have hone:∀ k ob b,k ≠ id' -> ((s.setO id none).setO id' (some (.arr true sz el m f))).o k = some ob -> c.blk k b -> bk b -> False:=fun k ob b hk' hk hb hbb=>by
    obtain ⟨hk1,hk2⟩:=hold k ob hk hk';exact hk2 (h.inj k id ob _ b hk1 ho hb (hbk b hbb))
   by_cases e1:i = id'
   · by_cases e2:i' = id'
     · rw [e1,e2]
     exact (hone i' obi' b e2 hi' (by simpa [e2] using hb') (by simpa [e1] using hb)).elim
   by_cases e2:i' = id'
   · exact (hone i obi b e1 hi (by simpa [e1] using hb) (by simpa [e2] using hb')).elim
   exact h.inj i i' obi obi' b (hold i obi hi e1).1 (hold i' obi' hi' e2).1 (by simpa [e1] using hb) (by simpa [e2] using hb')
 · by_cases hk':k = id'
   · exact h.sep id _ b ho (hbk b (by simpa [hk'] using hb))
   exact h.sep k ob b (hold k ob hk hk').1 (by simpa [hk'] using hb)
 · by_cases hk':k = id'
   · exact h.fsep id _ b ho (hbk b (by simpa [hk'] using hb))
   exact h.fsep k ob b (hold k ob hk hk').1 (by simpa [hk'] using hb)
 · exact (h.fixed k hk).trans (hevo k (by have:=hnm.2.2;omega))
 refine ⟨hu.1,fun l=>by simp [S.setO],fun ob2 s2 e2 n2 ho2 hd2=>?_⟩;simp only [S.setO,if_true,b2g] at ho2;subst ho2;simp only [a6.dim,b2g,b2l] at hd2;obtain ⟨rfl,rfl,rfl⟩:=hd2;exact ⟨b2j _,fun _=>by simp⟩
end
section
variable {ro:Option Nat} {P:Program} {nt:Nat} {st:HSt} {Q:Exit -> HSt -> Prop}
def ur {c:Code} (d id2:Nat) {id n n' s:Nat} {e:TypeId} {f:Nat -> Nat -> PV} (hd:b6 st.t d = some (.v (.one (.ref id n)))) (ho:b6 st.o id = some (.arr true s e n' f)) (hn:n' = n) (hnew:o7 id2 st = true)
 (h:HW (ro:=ro) P nt c ⟨(d,some (.v (.one (.ref id2 n)))) :: st.t,(id2,some (.arr true s e n f)) :: (id,none) :: st.o⟩ Q):HW (ro:=ro) P nt c st Q:=by
 subst hn;obtain ⟨hnm,hno⟩:=jk hnew;refine a4k ⟨st.t,(id2,some (.arr true s e n' f)) :: (id,none) :: st.o⟩ d (.v (.one (.ref id2 n'))) (fun w0 m0 a w hr=>?_) h;obtain ⟨cc,hold,hrr⟩:=hr;have hu:aw cc st.den.o (.ref id n') (a.tmps.getD d undef):=hrr.tmps d _ hd
 have hw:aw cc st.den.o (.win id n' 0 n') (a.tmps.getD d undef):=by
  refine ⟨hu.1,hu.2.1,fun ob s2 e2 n2 ho2 hd2=>⟨(hu.2.2 _ _ _ _ ho2 hd2).1,fun hk=>?_⟩⟩;have he:=(hu.2.2 _ _ _ _ ho2 hd2).2 hk;obtain rfl:ob = .arr true s e n' f:=Option.some.inj (ho2.symm.trans ho);simp only [a6.dim,b2g,b2l] at hd2;obtain ⟨rfl,rfl,rfl⟩:=hd2;obtain ⟨ad,cap,hv,hc1,hc2⟩:=a0r (hrr.objs _ _ ho2);exact ⟨ad,ad,cap,hv,by rw [he,hv];rfl,by omega,hc1,hc2,fun _=>by cases ad <;> simp [yb]⟩
 obtain ⟨c',e1,e2,e3⟩:=hrr.short ho (b2j _) hnm hno hw
 have e4:(HSt.den ⟨st.t,(id2,some (.arr true s e n' f)) :: (id,none) :: st.o⟩) = (st.den.setO id none).setO id2 (some (.arr true s e n' f)):=by
  unfold HSt.den S.setO;simp [ar]
 exact ⟨c',e1.trans hold,by rw [e4];exact e2,by rw [e4];exact e3⟩
end
end
section
def ig {id n m:Nat} (h:n = m):CoR (.v (.one (.ref id n))) (.v (.one (.ref id m))):=by rw [h];exact CoR.refl _
end
section
def atv (l:List Fd) (p:AS):Int:=if dm 16 l = 0 then (if 8 < bsz p then 3 else if p >>> 16 = 0 then 0 else 1) else dm 16 l
def b1z (l:List Fd) (p:AS):Fd:=if atv l p = 0 then a8x l p else ⟨0,0⟩
def b0z (l:List Fd) (p:AS):Bool:=decide (atv l p = 0) && qw l p
def bcP (n:Int) (l:List Fd) (f:Fd):Bool:=decide (f.rhs &&& ~~~f.lhs ≠ 0) && decide (clo l f.lhs ≠ b5 n)
def bcS (n:Int) (l:List Fd):Bool:=decide (dm n l = 0) && !l.any (bcP n l)
def agm (n:Int) (l:List Fd):List AS:=if a35 n l 8 = 0 then (a8q (b5 n)).filter fun s=>!qw l s else []
end
section
def ao7 (l:List Fd) (p z:AS):AS:=(p &&& clo l (z &&& p)) &&& ~~~z
def awd (l:List Fd) (z p:AS):Bool:=decide (ao7 l p z ≠ 0)
def amt (l:List Fd) (ps:List AS):Nat -> AS -> AS
 | 0,z=>z
 | n + 1,z=>match ps.find? (awd l z) with
  | none=>z
  | some p=>amt l ps n (z ||| ao7 l p z)
def anc (l:List Fd) (ps:List AS) (z:AS):AS:=amt l ps 4294967297 z
def ag9 (l:List Fd) (ps:List AS) (f:Fd):Bool:=decide (sub f.rhs (anc l ps f.lhs))
def b1p (l:List Fd) (ps:List AS) (z0:AS) (x:Nat × List Nat × AS):Prop:=amt l ps x.1 x.2.2 = anc l ps z0 /\ 4294967296 < x.1 + x.2.2.toNat /\ x.2.1.length + x.1 = 4294967297
def b0h (l:List Fd) (ps:List AS) (i:Nat):List Nat:=(List.range i).filter fun j=>!ag9 l ps (l.getD j default)
def aw3 (l:List Fd) (ps:List AS):Bool:=(List.range l.length).all fun j=>ag9 l ps (l.getD j default)
end
section
open Go.RowKit
def b0b (P:Program) (g:FuncId) (caps:List PC) (n:Nat) (xs:Nat -> List PC):Prop :=
 ∀ (imm:Imm) (_:np imm) (us:List Value) (W:World) (l:Nat) (J:Nat -> World -> Prop),bq imm caps us ->
  (∀ i A,J i A -> ∀ b ob,imm b = some ob -> A.heap[b]? = some ob) ->
  (∀ i A A',J i A -> Below A.heap.size A A' -> J i A') ->
  (∀ i A vs,i < n -> J i A -> bq imm (xs i) vs -> YieldAt (rf none) 0 P l vs.toArray A fun e A'=>e = .returned (.bool true) /\ J (i + 1) A') ->
  J 0 W -> CallsIn (rf none) 0 P g (#[.func (.yield l) #[] #[]] ++ us.toArray) W fun e W'=>(∃ v,e = .returned v) /\ J n W'
section
variable {P:Program} {nt:Nat} {c:Ctx} {s:S} {a:Act} {w w0:World}
end
def aut (r:Nat -> Nat):List (Nat × Option HR) -> List (Nat × Option HR)
 | []=>[]
 | (d,some x) :: l=>(d,some (x.ren r)) :: aut r l
 | (d,none) :: l=>(d,none) :: aut r l
def rgB (r:Nat -> Nat) (T:List (Nat × Option HR)) (o1 o2:List (Nat × a6)) (fx:List Nat):Bool :=
 (fx.all fun id=>Nat.ble 1000 (r id)) && ((c0 o2).all fun id=>(ph fx id && ph (c0 o1) id) || (Nat.blt id 1000 && nmT id T)) && (a33 o2).all (ph (c0 o2))
def b1n (P:Program) (nt l:Nat) (body:Code) (Q:HSt -> Prop) (e:Exit) (st:HSt):Prop:=e = .normal /\ HW (ro:=some l) P nt body st fun e st=>e = .normal /\ Q st
section
variable {P:Program} {E:Env} {nt:Nat} {ops:Array Oper} {i:Nat} {o:Oper} {Q:Exit -> Act -> World -> Prop} {a:Act} {A:World} {imm:Imm}
def atr (d:Option Tmp) (x:HR) (t:List (Nat × Option HR)):List (Nat × Option HR):=match d with | some d=>(d,some x) :: t | none=>t
class TabC (imm:Imm):Prop where
 ok:np imm
def cI (imm:Imm) (A:World) [ht:TabC imm]:Ctx:={ old:=(imm,dg A,(fun _=>undef),(fun _=>none),fun _ _=>undef),imm:=imm,tab:=ht.ok,own:=fun _=>undef,blk:=fun _=>noB,rows:=fun _ _=>undef }
variable [TabC imm]
structure It (imm:Imm) [TabC imm] (nt:Nat) (t:List (Nat × Option HR)) (a:Act) (A:World):Prop where
 defers:a.defers = []
 rel:ae A nt (cI imm A) ⟨b6 t,fun _=>none⟩ a A
section
variable {t:List (Nat × Option HR)}
theorem It.sub {t':List (Nat × Option HR)} (h:It imm nt t a A) (hs:lm t' t):It imm nt t' a A :=
 ⟨h.defers,h.rel.relax ⟨b6 t',fun _=>none⟩ (fun d x hx=>uv hs d x hx) (fun id ob ho=>by cases ho)⟩
theorem It.move {A':World} (h:It imm nt t a A) (hi:∀ b ob,imm b = some ob -> A'.heap[b]? = some ob):It imm nt t a A':=by
 refine ⟨h.defers,by rw [h.defers];exact o0.nil _ _ _ _,h.rel.size,Below.refl _ _,fun d x hx=>?_,(fun id ob ho=>by cases ho),(fun i i' ob ob' b ho=>by cases ho),hi,(fun id ob b ho=>by cases ho),fun b _=>rfl,fun b ob hb=>hb,(fun id ob b ho=>by cases ho),fun id _=>.inl rfl⟩;exact ah.evo (c:=cI imm A) (o:=fun _=>none) (Imm.le.refl imm) (fun _ _=>.inl rfl) (h.rel.tmps d x hx)
theorem It.put (h:It imm nt t a A) {d:Option Tmp} (hd:c4 nt d = true) (x:HR) (v:Value) (hx:ah (cI imm A) (fun _=>none) x v):It imm nt (atr d x t) (a.put d v) A:=by
 cases d with
 | none=>exact h
 | some d =>
  have:=h.rel.put d (of_decide_eq_true hd) (some x) v (fun y hy=>by cases hy;exact hx);refine ⟨h.defers, ?_⟩
  have e:(S.put ⟨b6 t,fun _=>none⟩ d (some x)) = ⟨b6 ((d,some x) :: t),fun _=>none⟩:=by
   unfold S.put;simp [ar]
  rw [e] at this;exact this
def apl (h:It imm nt t a A) {x:Operand} {r:HR} (hx:ev ⟨b6 t,fun _=>none⟩ x = some r):ah (cI imm A) (fun _=>none) r (a.eval x):=a7 h.rel hx
def iy {L:List Nat} {cl:Call} {f:Operand} {l:Nat} {R:World -> Prop} (h:It imm nt t a A) (hi:ops[i]? = some o) (hw:al ops ⟨b6 t,fun _=>none⟩ o = some true) (hd:c4 nt o.dst = true) (ho:o.op = .call cl) (hcl:cl.callee = .value f) (hf:ev ⟨b6 t,fun _=>none⟩ f = some (az (.raw (.func (.yield l) #[] #[])))) (hy:YieldAt (rf none) 0 P l (cl.args.toList.map a.eval).toArray A fun e A'=>e = .returned (.bool true) /\ R A') (him:∀ A',R A' -> ∀ b ob,imm b = some ob -> A'.heap[b]? = some ob) (hK:∀ a' A',R A' -> It imm nt (atr o.dst (az (.raw (.bool true))) t) a' A' -> wpOpsIn (rf none) 0 P ops Q L a' A'):wpOpsIn (rf none) 0 P ops Q (i :: L) a A:=by
 rw [wpOpsIn_cons];unfold wpOpIn;simp only [hi];rw [if_pos (d7 h.rel hw)];obtain ⟨fn,tmps,assign,body,hyr,hround⟩:=hy;have hfe:a.eval f = .func (.yield l) #[] #[]:=(apl h hf).1;refine ⟨fun _ _=>trivial, ?_⟩;have hsem:Oper.semAt (rf none).round a.eval o = execOp a.eval o:=rfl;rw [hsem];have hma:(cl.args.toList.map a.eval).toArray = cl.args.map a.eval:=by apply Array.toList_inj.1;rw [b4j]
 rw [hma] at hyr
 have hrun:(execOp a.eval o).run P A = .ok (.round l fn tmps assign body) A:=by
  simp only [execOp,ho,resolve,hcl,hfe,b39,Deferred.ofValue,b3p,b2w,invoke];simpa using hyr
 rw [hrun,Oper.uponIn_round];refine ⟨fun hh=>absurd hh (by simp [rf]),hround.mono ?_⟩;rintro e A' ⟨rfl,hR⟩;exact hK _ A' hR ((h.move (him A' hR)).put hd (az (.raw (.bool true))) (.bool true) ⟨rfl,rfl⟩)
end
end
theorem CoP.vp {k k':Nat} {f f':Nat -> PV} (hk:k' = k) (hf:∀ j,j < k -> CoP (f j) (f' j)):CoP (.vp k f) (.vp k' f'):=by
 subst hk;rintro m u ⟨b,off,rfl,h⟩
 exact ⟨b,off,rfl,fun j hj=>by
  obtain ⟨x,hx,hr⟩:=h j hj
  exact ⟨x,hx,hf j hj m x hr⟩⟩
theorem CoP.fn {g:FuncId} {k k':Nat} {f f':Nat -> PV} (hk:k' = k) (hf:∀ j,j < k -> CoP (f j) (f' j)):CoP (.fn g k f) (.fn g k' f'):=by
 subst hk;rintro m u ⟨cs,rfl,hl,h⟩
 exact ⟨cs,rfl,hl,fun j hj=>by
  obtain ⟨x,hx,hr⟩:=h j hj
  exact ⟨x,hx,hf j hj m x hr⟩⟩
def RN (P:Program) (nt:Nat) (ops:Array Oper) (L:List Nat) (st:HSt) (Q:HSt -> Prop):Prop :=
 ∀ (ro:Option Nat) (n:Nat) w0 m0 a w (QQ:Exit -> Act -> World -> Prop),Rel w0 m0 nt st.den a w -> (∀ st' a' w',Q st' -> Rel w0 m0 nt st'.den a' w' -> QQ .normal a' w') -> wpOpsIn (rf ro) n P ops QQ L a w
section
variable {P:Program} {E:Env} {nt:Nat} {ops:Array Oper} {st:HSt}
def a1s (hE:bu P E) {ro:Option Nat} {n:Nat} {w0:World} {m0:Old} {sf:S} {L2:List Nat} {QQ:Exit -> Act -> World -> Prop} (hQ:∀ a' w',Rel w0 m0 nt sf a' w' -> wpOpsIn (rf ro) n P ops QQ L2 a' w') :
 ∀ (T:List Tr) (s:S) (a:Act) (w:World),it P E nt ops T s sf -> Rel w0 m0 nt s a w -> wpOpsIn (rf ro) n P ops QQ (T.map (·.i) ++ L2) a w
 | [],s,a,w,hT,hr=>by
  cases hT;exact hQ _ _ hr
 | t :: T,s,a,w,hT,hr=>by
  cases hT with
  | cons hi he hR hO hF hrest =>
  rw [b48,b43,wpOpsIn_cons];exact a04 hE he hr hi fun a' w' hr'=>a1s hE hQ T _ a' w' hrest hr'
section
variable {Q:HSt -> Prop}
def a4h (hE:bu P E) {L1 L2:List Nat} (h:Reg P E nt ops L1 st fun _ sf=>RN P nt ops L2 sf Q):RN P nt ops (L1 ++ L2) st Q:=fun ro n w0 m0 a w QQ hr hQ=>by
 obtain ⟨T,sf,hl,hT,h⟩:=h;rw [<- hl];exact a1s hE (fun a' w' hr'=>h ro n w0 m0 a' w' QQ hr' hQ) T _ a w hT hr
def ahv (h:Q st):RN P nt ops [] st Q:=fun ro n w0 m0 a w QQ hr hQ=>hQ st a w h hr
def ao5 {L:List Nat} (h:HE nt st fun st'=>RN P nt ops L st' Q):RN P nt ops L st Q:=fun ro n w0 m0 a w QQ hr hQ=>by
 obtain ⟨st',h1,h2⟩:=h w0 m0 a w hr;exact h1 ro n w0 m0 a w QQ h2 hQ
def a4b {ro:Option Nat} {Q:Exit -> HSt -> Prop} {id:Nat} (L1 L2:List Nat) (hl:List.range ops.size = L1 ++ L2) (h:RN P nt ops (L1 ++ L2) st (Q .normal)):HW (ro:=ro) P nt (.region id ops false) st Q:=fun w0 m0 a w hr=>by
 refine wpIn_region ?_;rw [hl];exact h ro 0 w0 m0 a w _ hr fun st' a' w' hq hr'=>⟨st',hq,hr'⟩
def at4 (st1:HSt) (d:Nat) (x:HR) (hs:∀ w0 m0 a w,Rel w0 m0 nt st.den a w -> ∃ cc,cc.old = m0 /\ ae w0 nt cc st1.den a w /\ ah cc st1.den.o x (a.tmps.getD d undef)) (h:HE nt ⟨(d,some x) :: st1.t,st1.o⟩ Q):HE nt st Q:=fun w0 m0 a w hr=>by
 obtain ⟨cc,hold,hrr,hx⟩:=hs w0 m0 a w hr;refine h w0 m0 a w ⟨cc,hold,hrr.defers,hrr.size,hrr.below,fun k y hy=>?_,hrr.objs,hrr.inj,hrr.imm,hrr.sep,hrr.was,hrr.frm,hrr.fsep,hrr.fixed⟩;simp only [HSt.den] at hy;rw [ar] at hy;dsimp only at hy;split at hy
 · rename_i hk
   subst hk;simp only [b2g] at hy;subst hy;exact hx
 exact hrr.tmps k y hy
def a7p (d:Nat) {id n n' s:Nat} {wr:Bool} {e:TypeId} {f:Nat -> Nat -> PV} (hd:b6 st.t d = some (.v (.one (.ref id n)))) (ho:b6 st.o id = some (.arr wr s e n' f)) (hn:n' = n) (h:HE nt ⟨(d,some (az (.sl n s false f))) :: st.t,(id,none) :: st.o⟩ Q):HE nt st Q:=by
 subst hn;refine at4 ⟨st.t,(id,none) :: st.o⟩ d (az (.sl n' s false f)) (fun w0 m0 a w hr=>?_) h;obtain ⟨cc,hold,hrr⟩:=hr;refine ⟨_, ?_,by rw [pg];exact hrr.freeze ho, ?_⟩
 · exact hold
 obtain ⟨_,_,h3⟩:=hrr.tmps d _ hd;have:=(h3 _ _ _ _ ho rfl).2 rfl;rw [this];exact og hrr ho
end
end
end
section
def orL (ps:List AS):AS:=ps.foldl (· ||| ·) 0
def ac8 {ps:List AS} {i:Nat} (h:i < ps.length):orL (ps.take (i + 1)) = orL (ps.take i) ||| ps.getD i default:=by
 unfold orL;rw [bf h,b4t];rfl
def axp (n:Int) (l:List Fd) (ps:List AS):Bool:=decide (orL ps = b5 n) && aw3 l ps && ps.any (a67 n l)
def axl (n:Int) (l:List Fd) (ps:List AS) (s:AS):List AS:=if axp n l (ps.eraseIdx (idx (fun x=>decide (x = s)) ps).toNat) = true then ps.eraseIdx (idx (fun x=>decide (x = s)) ps).toNat else ps
def ag6 (n:Int) (l:List Fd) (p0:List AS):Nat -> List AS
 | 0=>p0
 | i + 1=>axl n l (ag6 n l p0 i) (p0.getD (p0.length - 1 - i) default)
def afl (n:Int) (l:List Fd):Bool:=aw3 l (agm n l)
def b0c (n:Int) (l:List Fd):List AS:=if a35 n l 8 = 0 /\ afl n l = true then ag6 n l (abr (agm n l)) (abr (agm n l)).length else []
def b0p (n:Int) (l:List Fd):Bool:=decide (a35 n l 8 = 0) && afl n l
def b0o (n:Int) (l:List Fd) (p0:List AS) (i:Nat) (ps:List AS):Prop:=ps = ag6 n l p0 i /\ ps.length <= p0.length /\ ∀ j,j < p0.length - i -> p0.getD j default ∈ ps
def aun (n:Int) (l:List Fd):Option Fd:=(ah9 n l).find? fun f=>!ag9 l (agm n l) f
def b1b (n:Int) (l:List Fd):Int:=if a35 n l 8 = 0 then (match aun n l with | some _=>0 | none=>4) else a35 n l 8
def b18 (n:Int) (l:List Fd):Fd:=if a35 n l 8 = 0 then (match aun n l with | some f=>f | none=>⟨0,0⟩) else ⟨0,0⟩
end
section
def spA (l:List Fd) (s:AS):AS:=(a8x l s).lhs ||| (a8x l s).rhs
def spB (l:List Fd) (s:AS):AS:=s &&& ~~~(a8x l s).rhs
def aku {a b:AS}:sub (a &&& b) a:=dt.2 fun i hi h=>by rw [b3y,b2p] at h;exact h.1
def ag2 (l:List Fd):Nat -> List AS -> List AS -> List AS
 | 0,_,out=>out
 | n + 1,todo,out =>
  if todo.length = 0 then out
  else if qw l (todo.getD (todo.length - 1) default) = true then ag2 l n (todo.take (todo.length - 1) ++ [spA l (todo.getD (todo.length - 1) default),spB l (todo.getD (todo.length - 1) default)]) out
  else ag2 l n (todo.take (todo.length - 1)) (out ++ [todo.getD (todo.length - 1) default])
def atg (n:Int) (l:List Fd):List AS:=ag2 l 6562 [b5 n] []
def b23 (n:Int) (l:List Fd):List AS:=if a35 n l 8 = 0 then abr (atg n l) else []
def auz (todo:List AS):Nat:=(todo.map fun s=>3 ^ bsz s).sum
def b1e (n:Int) (l:List Fd) (x:Nat × List AS × List AS):Prop:=ag2 l x.1 x.2.1 x.2.2 = atg n l /\ auz x.2.1 < x.1 /\ x.2.2.length + x.1 <= 6562
end
section
open Go.Proofs
def b03:List Fd:=[⟨1,2⟩,⟨2,4⟩]
def b0d:List Fd:=[⟨3,4⟩,⟨4,1⟩]
end
section
open Go.Proofs
def w1 (l:List Fd) (p:AS):Int:=if dm 16 l = 0 /\ (8:Int) < bsz p then 3 else dm 16 l
section
variable {l:List Fd} {p:AS}
end
section
variable {n:Int} {l:List Fd}
end
end
section
open Go.RowKit Go.ChangeShapes Go.WideShapes Go.ChangeAt
def Rd (P:Program) (t:TypeId) (n:Nat) {α:Type} (c:α -> Nat -> PV):Prop :=
 ∀ (H:Type) (enc:TypeId × Value -> H) (w:World) (sp:Nat -> Bool) (held:Bool) (fuel:Nat) (cs:List Value) (x:DataW H × List MemPlace),DataW.trod enc P w 0 sp held fuel t cs = some x ->
  cs.length = n /\ ∃ a:α,∀ j,j < n -> ∃ v,cs[j]? = some v /\ ag (dg w) (c a j) v
section
variable {P:Program} {t e:TypeId}
def at6 (k:IntKind) (z:Int):Nat -> PV:=fun _=>.raw (.int k z)
def b0w (b:Bool):Nat -> PV:=fun _=>.raw (.bool b)
def ax5 (s:ByteArray):Nat -> PV:=fun _=>.raw (.string s)
def aje {k:IntKind} (ht:P.underlying t = some (.int k)):Rd P t 1 (at6 k):=by
 intro H enc w sp held fuel cs x h;obtain ⟨n,rfl,_,_⟩:=DataW.trod_int ht h;refine ⟨rfl,n,fun j hj=>?_⟩;obtain rfl:j = 0:=by omega
 exact ⟨_,rfl,rfl,rfl⟩
def yi (ht:P.underlying t = some .string):Rd P t 1 ax5:=by
 intro H enc w sp held fuel cs x h;obtain ⟨n,rfl,_⟩:=DataW.trod_string ht h;refine ⟨rfl,n,fun j hj=>?_⟩;obtain rfl:j = 0:=by omega
 exact ⟨_,rfl,rfl,rfl⟩
def u8P (u:UInt8):Nat -> PV:=fun _=>.raw (.int .u8 (u.toNat:Int))
theorem Rd.co {n:Nat} {α β:Type} {c:α -> Nat -> PV} {c':β -> Nat -> PV} (h:Rd P t n c) (f:α -> β) (hc:∀ a j,j < n -> CoP (c a j) (c' (f a) j)):Rd P t n c':=by
 intro H enc w sp held fuel cs x hx;obtain ⟨h1,a,h2⟩:=h _ enc w sp held fuel cs x hx;refine ⟨h1,f a,fun j hj=>?_⟩;obtain ⟨v,h3,h4⟩:=h2 j hj;exact ⟨v,h3,hc a j hj _ _ h4⟩
def a6c {α:Type} [Inhabited α] (s:Nat) (c:α -> Nat -> PV) (l:List α):Nat -> PV:=fun _=>psl s c l
def ab1 {s:Nat} {α:Type} [Inhabited α] {c:α -> Nat -> PV} (ht:P.underlying t = some (.slice e)) (hc:P.cellsOf e = s) (hs:0 < s) (h:Rd P e s c):Rd P t 1 (a6c s c):=by
 classical
 intro H enc w sp held fuel cs x hx
 rcases DataW.trod_slice ht hx with ⟨rfl,_⟩ | ⟨a,len,cap,elems,rest,n,rfl,rfl,_,hb,hl,hm,hlen,hel,_,_⟩
 · refine ⟨rfl,[],fun j hj=>?_⟩
   obtain rfl:j = 0:=by omega
   exact ⟨_,rfl,none,0,rfl,b2j _,b2n _,(fun hh=>by cases hh),fun hh=>absurd hh (b50 0)⟩
 have each:∀ i,i < len -> ∃ q:α,∀ j,j < s -> ∃ v,w.cell? (a.add (i * s + j)) = some v /\ ag (dg w) (c q j) v:=by
  intro i hi;have h1:=hel i hi;rw [hc] at h1;rw [b2h b5h] at h1;obtain ⟨cs',h2,h3⟩:=Option.bind_eq_some_iff.1 h1;obtain ⟨_,h4,h5⟩:=World.cells?_some h2;obtain ⟨_,q,h6⟩:=h _ enc w sp held n cs' _ h3;refine ⟨q,fun j hj=>?_⟩;obtain ⟨v,h7,h8⟩:=h6 j hj;refine ⟨v, ?_,h8⟩;have:=h5 j hj;rw [h7] at this;rw [<- this];congr 1;unfold Addr.add;by_cases hj0:j = 0
  · subst hj0
    simp
  by_cases hi0:i * s = 0
  · simp [hi0,hj0]
  have:¬ (i * s + j = 0):=by omega
  simp only [hj0,hi0,this,if_false];congr 1;omega
 refine ⟨rfl,(List.range len).map fun i=>if hi:i < len then Classical.choose (each i hi) else default,fun j hj=>?_⟩;obtain rfl:j = 0:=by omega
 refine ⟨_,rfl,some a,cap,by simp,by simpa using hl,hm,(fun hh=>by cases hh),fun hn=>?_⟩;have hn:0 < len:=by simpa using hn
 have hspot:a.spot = none:=by
  obtain ⟨q,hq⟩:=each 0 hn;obtain ⟨v,hv,_⟩:=hq 0 hs;have:a.add (0 * s + 0) = a:=by simp [Addr.add]
  rw [this] at hv;unfold World.cell? at hv;split at hv
  · split at hv
    · cases hv
    rename_i hsp;simpa using hsp
  cases hv
 refine ⟨a.block,a.off, ?_,fun i j hi hj=>?_⟩
 · obtain ⟨b,o,spo⟩:=a
   simp only at hspot;subst hspot;rfl
 have hi:i < len:=by simpa using hi
 have hch:=Classical.choose_spec (each i hi);obtain ⟨v,hv,hr⟩:=hch j hj;refine ⟨v, ?_, ?_⟩
 · unfold World.cell? at hv
   have hblk:(a.add (i * s + j)).block = a.block:=by unfold Addr.add;split <;> rfl
   have hoff:(a.add (i * s + j)).off = a.off + (i * s + j):=by
    unfold Addr.add;split
    · rename_i h0;rw [h0];rfl
    rfl
   rw [hblk,hoff] at hv;unfold fk dg;split at hv
   · rename_i hb'
     rw [hb'];split at hv
     · cases hv
     exact hv
   cases hv
 have:lf c ((List.range len).map fun i=>if hi:i < len then Classical.choose (each i hi) else default) i j = c (Classical.choose (each i hi)) j:=by
  unfold lf;simp [List.getD,hi]
 rw [this];exact hr
end
def a8c {W W':World} (hb:Below W.heap.size W W') (may:MemPlace -> Prop):W.keptBut W' may:=by
 refine ⟨hb.os,hb.output,fun i hi=>?_⟩;rw [hb.block i hi]
 cases W.heap[i]? with
 | none=>exact rfl
 | some o=>cases o <;> first | exact ⟨rfl,rfl,rfl,fun _ _=>rfl⟩ | exact .inr ⟨rfl,rfl⟩ | exact rfl
def a8j {W W':World} (hb:Below W.heap.size W W') (p:MemPlace) (hp:p.block < W.heap.size):W.sameAt W' p:=by
 cases p with
 | cell b off=>show W'.cell? _ = W.cell? _;unfold World.cell?;rw [hb.block b hp]
 | map b=>exact hb.block b hp
section
variable {H:Type} {enc:TypeId × Value -> H} {P:Program}
def ye (hl:laidOutB P = true) {W W':World} {sp':Nat -> Bool}:∀ {ts:List TypeId} {vs:List Value} {ds:List (DataW H)} {ps:List MemPlace},(∀ t ∈ ts,P.readableRec t = true /\ t < P.types.size) -> DataW.TrodAll enc P W 0 (fun _=>true) true ts vs ds ps ->
 (∀ p ∈ ps,W.sameAt W' p) -> (∀ p ∈ ps,sp' p.block = true) -> DataW.TrodAll enc P W' 0 sp' true ts vs ds ps
 | [],[],[],ps,_,h,_,_=>h
 | t :: ts,v :: vs,d :: ds,ps,ht,⟨p,q,h1,h2,e⟩,hs,hsp=>by
  subst e;refine ⟨p,q,WideElems.Trod_stays hl (ht t b5k).1 (ht t b5k).2 h1 (fun z hz=>hs z (by simp [hz])) (fun z hz=>hsp z (by simp [hz])), ?_,rfl⟩;exact ye hl (fun t ht'=>ht t (by simp [ht'])) h2 (fun z hz=>hs z (by simp [hz])) (fun z hz=>hsp z (by simp [hz]))
 | [],_ :: _,_,_,_,h,_,_=>h.elim
 | [],[],_ :: _,_,_,h,_,_=>h.elim
 | _ :: _,[],_,_,_,h,_,_=>h.elim
 | _ :: _,_ :: _,[],_,_,h,_,_=>h.elim
def ame {f:Func} {s:ChangeSpec} {W W':World} {args:Array Value} {ds:List (DataW H)} {before:List MemPlace} {tb:TypeId} (hl:laidOutB P = true) (hpar:∀ t ∈ f.params.toList,P.readableRec t = true /\ t < P.types.size)
 (hres:f.resultTypes = #[tb]) (htb:P.underlying tb = some .bool) (hv:s.vars = []) (hfn:s.fn H ds = { results:=[.lit (.bool true)],args:=ds })
 (hW:DataW.Whole enc P f.params.toList s.vars false W args.toList ds [] before) (hb:Below W.heap.size W W'):s.post enc P f false true false false W args (.bool true) W':=by
 have hW':=hW;have hlt:∀ p ∈ before,p.block < W.heap.size:=fun p hp=>hW.lt p hp;obtain ⟨p,q,hA,hV,rfl,hfz,hnd⟩:=hW;rw [hv] at hV;obtain ⟨_,rfl⟩:=trodVars_none hV;have hfn':s.fn H (ds ++ []) = { results:=[.lit (.bool true)],args:=ds }:=by rw [b3i];exact hfn
 have hargs:∀ sp:Nat -> Bool,(∀ z ∈ p ++ [],sp z.block = true) -> DataW.TrodAll enc P W' 0 sp true f.params.toList args.toList (s.fn H (ds ++ [])).args p:=fun sp hsp=>by
  rw [hfn'];exact ye hl hpar hA (fun z hz=>a8j hb z (hlt z (by simpa using hz))) (fun z hz=>hsp z (by simpa using hz))
 have hrs:∀ (b:Nat) (sp:Nat -> Bool) (hd:Bool),DataW.TrodAll enc P W' b sp hd f.resultTypes.toList ((Value.bool true).resultList f.resultTypes.size) (s.fn H (ds ++ [])).results []:=fun b sp hd=>by
  rw [hfn',hres];exact trodAll_cons_mk (shut_bool htb _) trodAll_mk0
 have hok:∀ (j:Nat) (t:TypeId) (r:Value),f.resultTypes[j]? = some t -> ((Value.bool true).resultList f.resultTypes.size)[j]? = some r -> Value.okWide P W' .any 0 t r:=ok_one hres rfl (okWide_bool_mk htb _)
 have hvars:∀ sp:Nat -> Bool,(∀ z ∈ p ++ [],sp z.block = true) -> DataW.TrodVars enc P W' sp s.vars (s.fn H (ds ++ [])).vars []:=fun sp _=>by
  rw [hfn',hv];exact rfl
 have hold:∀ z ∈ p ++ [],(fun b=>decide (b < W.heap.size)) z.block = true:=fun z hz=>by simpa using hlt z hz
 refine ⟨ds,[],p ++ [],[],p,[],hW',hrs _ _ _,hargs _ hold,hvars _ hold,World.keptBut_mono (fun z hz=>⟨hz, ?_⟩) (a8c hb (· ∈ p ++ [])),fun _=>?_⟩
 · exact Or.inr (by simpa using hz)
 refine ⟨hok,_,_,([] ++ p) ++ [],⟨[] ++ p,[],trodAll_append (hargs _ (fun _ _=>rfl)) (hrs _ _ _),hvars _ (fun _ _=>rfl),rfl, ?_, ?_⟩, ?_⟩
 · intro b off hp
   have hp':MemPlace.cell b off ∈ p ++ []:=by simpa using hp
   have:=hfz b off hp';unfold World.frozen? at this ⊢;rw [hb.block b (hlt _ hp')];exact this
 · intro ha;cases ha
 intro z hz _;simpa using hz
end
def a9o {P:Program} {W:World} {r:Reach} {b:Nat} {t e:TypeId} {v:Value} (ht:P.underlying t = some (.slice e)) (h:Value.okWide P W r b t v):v.cells.toList = [v]:=by
 unfold Value.okWide at h;rw [ht] at h;unfold Cell.okWide at h;rw [ht] at h;cases v <;> first | rfl | (simp [Cell.ok,ht] at h)
def ai8 {P:Program} {f:FuncId} {args:List PC} {us:List Value} {W:World} {R:Ending -> World -> Prop} (ht:np (dg W)) (h:aa P f args (af [.one (.raw (.bool true))])) (hr:bq (dg W) args us) (hR:∀ W',Below W.heap.size W W' -> R (.returned (.bool true)) W'):Calls P f us.toArray W R:=by
 refine (h W (dg W) us ht (fun _ _ hh=>hh) hr).mono ?_;rintro e w' ⟨v,imm',rfl,hv,_,_,hb⟩;obtain ⟨rfl,_⟩:=hv;exact hR w' hb
end
end Go.Hx
