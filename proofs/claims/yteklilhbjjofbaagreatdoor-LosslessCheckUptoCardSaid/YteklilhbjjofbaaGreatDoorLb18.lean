/- A part of the proof: SrW Cs10 Cs11 V10 Cs13 Cs14 Cs15 Cs16 Hx24 Cs17 Cs18 Cs19 Hx20 Cs20 Cs21 Cs22 Cs23 Hx21. -/
import Derived.ChangeArms
import Derived.OpenShut
import Derived.ProofKit
import Derived.Shelf.SlLaysF
import Derived.Shelf.SlSortCmp.NoneTotal
import Derived.Test.YteklilhbjjofbaaGreatDoorProg
import Derived.WalkKit
import Derived.WideKeyArgs
import Derived.Test.YteklilhbjjofbaaGreatDoorLb17
set_option linter.all false
set_option maxRecDepth 100000
namespace Go.Hx
section
open Go.Proofs Go.RowKit Go.Sort
section
variable {w:World}
def ahg {w':World} (h:Below w.heap.size w w'):∃ q os,w' = grow (w.drewN q) os:=by
 refine ⟨w'.drawn - w.drawn,w'.heap.extract w.heap.size w'.heap.size, ?_⟩;have hd:=h.drawn;obtain ⟨h1,h2,h3,h4,h5,_⟩:=h
 cases w with
 | mk hp tp dr os out =>
 cases w' with
 | mk hp' tp' dr' os' out' =>
 dsimp only at *;subst h1 h2 h3;unfold grow World.drewN;simp only [World.mk.injEq,true_and,and_true];refine ⟨?_,by omega⟩;apply Array.ext_getElem?;intro k;rw [Array.getElem?_append];by_cases hk:k < hp.size
 · rw [if_pos hk,h5 k hk]
 rw [if_neg hk,Array.getElem?_extract];by_cases hk2:k < hp'.size
 · rw [if_pos b5c]
   congr 1;omega
 rw [if_neg b5c,b3w b5c]
variable {os:Array Obj} {α:Type} {d:Array α} {enc:α -> Value}
def ahr [Inhabited α] {g m:Nat} {cur:Array Value} {e:TypeId} {fr:Nat × Nat} (h:w.heap[g]? = some (.cells cur e fr)):
 (sortWorld enc w g 0 m d os).heap[g]? = some (.cells (putCells enc 0 d cur) e fr):=by
 have hlt:=(b28.1 h).1;unfold sortWorld;rw [heap_grow_old _ _ (by simpa using hlt)];unfold putRow mapBlock;simp only [heap_ahead,b5a,if_true,h];rfl
def y4 [Inhabited α] {g m:Nat} {b:Nat} (hb:b < w.heap.size) (hne:b ≠ g):(sortWorld enc w g 0 m d os).heap[b]? = w.heap[b]?:=by
 unfold sortWorld;rw [heap_grow_old _ _ (by simpa using hb)];unfold putRow mapBlock;simp only [heap_ahead,b5a,if_neg (Ne.symm hne)]
def ahs [Inhabited α] {g m:Nat}:Below 0 w (sortWorld enc w g 0 m d os) :=
 ⟨rfl,rfl,rfl,by unfold sortWorld;simp,fun k hk=>absurd hk (b2c k),by unfold sortWorld grow;simp⟩
def ann [Inhabited α] {cur:Array Value} (h:d.size <= cur.size):(putCells enc 0 d cur).toList.take d.size = d.toList.map enc:=by
 apply b4a;intro k;rw [b2o,b2p,b3v,b3v];by_cases hk:k < d.size
 · rw [if_pos hk]
   unfold putCells;rw [Array.getElem?_mapIdx,b30 b5c,b30 hk];simp only [b2t,b2r,b58];rw [if_pos ⟨b2b _,hk⟩,getElem!_pos d k hk]
 rw [if_neg hk,b3w b5c];rfl
def srt (l:List AS):List AS:=l.mergeSort fun x y=>!bef y x
end
end
section
abbrev bx (a:PV):PV:=.vp 1 fun j=>[a].getD j .any
def abi (W:AS -> AS -> Bool) (l:List AS) (x:AS):Bool:=l.any fun b=>decide (x ≠ b) && W x b
def aok (W:AS -> AS -> Bool) (l:List AS):List AS:=(ord l).filter fun x=>!abi W (ord l) x
def a9b (a b:AS):Bool:=decide (sub a b)
def ad5 (l:List AS):List AS:=aok a9b l
def okT (l:List AS) (i k:Nat):Bool:=(List.range k).all fun j=>decide (j = i) || !a9b (l.getD i default) (l.getD j default)
def b09 (l:List AS) (i:Nat):List AS:=((ord l).take i).filter fun x=>!abi a9b (ord l) x
end
section
def aov (l:List Fd):List Fd:=l.foldl (fun o x=>if x ∈ o then o else o ++ [x]) []
def b07 (l:List Fd) (i k:Nat):Bool:=(l.take k).any fun x=>decide (x = l.getD i default)
def ak4 (f:Fd):List Fd:=(b6 (f.rhs &&& ~~~f.lhs)).map fun a=>(⟨f.lhs,(1:AS) <<< a⟩:Fd)
def aag (l:List Fd):List Fd:=(l.map ak4).flatten
def b02 (l:List Fd) (i k:Nat):List Fd:=aag (l.take i) ++ (ak4 (l.getD i default)).take k
def exB (l:List Fd) (x:Fd) (a:Nat):Bool:=imp l ⟨x.lhs &&& ~~~((1:AS) <<< a),x.rhs⟩
def afs (l:List Fd) (i:Nat):List Fd:=l.take i ++ l.drop (i + 1)
def ayn (l:List Fd) (i:Nat):Bool:=imp (afs l i) (l.getD i default)
end
section
open Go.Proofs
def rwC (l:List Fd):Nat -> PV
 | 0=>fdl l
 | _=>.any
abbrev b17 (ls:List (List Fd)):PV:=psl 1 rwC ls
end
section
def azw (l:List Fd) (i k:Nat):List Fd:=aag (l.take i) ++ (ek ((l.getD i default).rhs &&& ~~~(l.getD i default).lhs) k).map fun a=>(⟨(l.getD i default).lhs,(1:AS) <<< a⟩:Fd)
def ay1 (x:Fd) (a:Nat):Fd:=⟨x.lhs &&& ~~~((1:AS) <<< a),x.rhs⟩
def al0 (i:Nat) (l:List Fd) (a:Nat):List Fd:=if ci (l.getD i default).lhs a && exB l (l.getD i default) a then l.set i (ay1 (l.getD i default) a) else l
def b1s (l:List Fd) (i k:Nat):List Fd:=((b6 (l.getD i default).lhs).take k).foldl (al0 i) l
def axy (l:List Fd) (i:Nat):List Fd:=(b6 (l.getD i default).lhs).foldl (al0 i) l
def ayb (l:List Fd) (i:Nat):List Fd:=(List.range i).foldl axy l
def ah0:Nat -> List Fd -> Nat -> List Fd
 | 0,l,_=>l
 | f + 1,l,i=>if i < l.length then (if ayn l i then ah0 f (afs l i) i else ah0 f l (i + 1)) else l
def spl (l:List Fd):List Fd:=aov (aag l)
def ajg (l:List Fd):List Fd:=aov (ayb (spl l) (spl l).length)
def azm (l:List Fd):List Fd:=ah0 (ajg l).length (ajg l) 0
def b05 (t:AS) (l:List Fd):Prop:=∀ x ∈ l,sub x.lhs t
end
section
def afu (n:Int) (l:List Fd):List Fd:=if ct n l = 0 then azm l else []
def b1m (l:List Fd) (i k:Nat):List Fd:=(List.range k).foldl (al0 i) l
end
section
def axt {z s:AS}:sub z s <-> z.toNat &&& s.toNat = z.toNat:=by
 rw [<- BitVec.toNat_and,BitVec.toNat_inj,du];constructor
 · intro h
   apply b3r;intro k hk;rw [b3j]
   cases hz:z.getLsbD k with
   | false=>rfl
   | true=>rw [h k hk hz];rfl
 intro h i _ hi;rw [<- h,b3j] at hi;simp at hi;exact hi.2
def aoi (s:AS):Nat -> AS -> List AS
 | 0,_=>[]
 | n + 1,x=>x :: if x = 0 then [] else aoi s n ((x - 1) &&& s)
def ax7 (s:AS):List AS:=ord (aoi s (s.toNat + 1) s)
def sub_self (s:AS):sub s s:=by rw [axt,Nat.and_self]
def a90 (s:AS):List AS:=if 12 < bsz s then [] else ax7 s
def b08 (s:AS) (y:List AS × AS):Prop:=sub y.2 s /\ y.1.length + y.2.toNat <= s.toNat + 1 /\ ∀ z,z ∈ y.1 <-> sub z s /\ y.2.toNat <= z.toNat
def nxt (x s:Nat):Nat:=if x = s then s + 1 else ((2 ^ 64 + x - s) &&& s)
def UpI (s:AS) (k:Nat) (y:List AS × Nat):Prop :=
 (y.2 = s.toNat + 1 \/ y.2 &&& s.toNat = y.2) /\ y.1.length <= k * 4294967296 + y.2 /\ at9 y.1 /\ ∀ z,z ∈ y.1 <-> sub z s /\ (bsz z < k \/ bsz z = k /\ z.toNat < y.2)
def UpK (s:AS) (k:Nat) (l:List AS):Prop:=l.length <= k * 4294967296 /\ at9 l /\ ∀ z,z ∈ l <-> sub z s /\ bsz z < k
abbrev pU (n:Nat):PC:=.one (.raw (.int .u64 (n:Int)))
abbrev vU (n:Nat):HR:=b5 (.raw (.int .u64 (n:Int)))
def me {α:Type} [Inhabited α] {wr wr':Bool} {e:TypeId} {c:α -> Nat -> PV} {x:α} {f:Nat -> Nat -> PV} (h:CoP (f 0 0) (c x 0)) (hw:wr' = true -> wr = true:=by exact fun h=>h):CoO (.arr wr 1 e 1 f) (.arr wr' 1 e [x].length (lf c [x])) :=
 ⟨hw,rfl,rfl,rfl,fun i j hi hj=>by
  have hi:i < 1:=hi;have hj:j < 1:=hj;obtain rfl:j = 0:=by omega
  obtain rfl:i = 0:=by omega
  exact h⟩
end
section
def ayc (l:List Fd) (p x:AS):Bool:=decide (clo l x &&& p ≠ x) && decide (clo l x &&& p ≠ p)
def aom (l:List Fd) (p:AS):Option AS:=(a90 p).find? (ayc l p)
def ayu (l:List Fd) (p x:AS):Fd:=⟨x,(clo l x &&& p) &&& ~~~x⟩
def a95 (l:List Fd) (p:AS):Fd:=match aom l p with
 | some x=>ayu l p x
 | none=>⟨0,0⟩
def s3 (l:List Fd) (p:AS):Bool:=(aom l p).isSome
end
section
open Go.RowKit
section
variable {w0:World} {nt:Nat} {c:Ctx} {s:S} {a:Act} {w:World}
def aa.short (h:aa w0 nt c s a w) {id id' sz n m:Nat} {el:TypeId} {f:Nat -> Nat -> PV} (ho:s.o id = some (.arr true sz el n f)) (hm:m <= n) (hnm:NM s id') (hno:s.o id' = none) {u:Value} (hu:ay c s.o (.win id n 0 m) u) :
 ∃ c',c'.old = c.old /\ aa w0 nt c' ((s.setO id none).setO id' (some (.arr true sz el m f))) a w /\ ak c' ((s.setO id none).setO id' (some (.arr true sz el m f))).o (.v (.one (.ref id' m))) u:=by
 have hne:id ≠ id':=fun e=>by rw [<- e,ho] at hno;cases hno
 obtain ⟨ad,ad',cap,q1,q2,q3,q4,q5,q6⟩:=a1h hu ho rfl;obtain ⟨h0,h1,h5⟩:=h.objs id _ ho
 have hold:∀ k ob,((s.setO id none).setO id' (some (.arr true sz el m f))).o k = some ob -> k ≠ id' -> s.o k = some ob /\ k ≠ id:=fun k ob hk hk'=>by
  simp only [S.setO,if_neg hk'] at hk;by_cases hki:k = id
  · subst hki;simp at hk
  rw [if_neg hki] at hk;exact ⟨hk,hki⟩
 obtain ⟨bk,hbk,hok⟩:∃ bk:Nat -> Prop,(∀ b,bk b -> c.blk id b) /\ ∀ c':Ctx,c'.imm = c.imm -> c'.own id' = u -> c'.blk id' = bk -> ∀ o':ar,cw 0 c' o' w id' (.arr true sz el m f):=by
  rcases h5 with ⟨h6,xs,h2,h4⟩ | ⟨h6 | h6,h7,h8⟩
  · obtain ⟨hxl,hrow⟩:=h2
    rcases hrow with ⟨hv0,hz⟩ | ⟨g,cap',cur,hown,hbase,hheap,hnc,hcm,hcs,htake⟩
    · rw [hv0] at q1
      simp only [Value.slice.injEq] at q1;obtain ⟨rfl,_,rfl⟩:=q1;obtain rfl:n = 0:=by omega
      obtain rfl:m = 0:=by omega
      refine ⟨noB,fun b hb=>hb.elim,fun c' e1 e2 e3 o'=>⟨h0,b2b _, .inr ⟨.inr rfl,e3, ?_⟩⟩⟩;rw [e2,q2];exact ⟨ad',0,rfl,b29 _,b2b _,fun _=>rfl,fun h=>absurd h (b50 0)⟩
    rw [hown] at q1;simp only [Value.slice.injEq,true_and] at q1;obtain ⟨rfl,rfl⟩:=q1;by_cases hcap:cap' = 0
    · subst hcap
      obtain rfl:m = 0:=by omega
      refine ⟨noB,fun b hb=>hb.elim,fun c' e1 e2 e3 o'=>⟨h0,b2b _, .inr ⟨.inr rfl,e3, ?_⟩⟩⟩;rw [e2,q2];exact ⟨ad',0,rfl,b29 _,b2b _,fun _=>rfl,fun h=>absurd h (b50 0)⟩
    obtain rfl:=q6 b5c;simp only [b2t,add_lit,Nat.zero_mul,b40,b58] at q2;have hmul:m * sz <= n * sz:=b2d _ hm;refine ⟨eu u,fun b hb=>by rw [h6,hown];rw [q2] at hb;exact hb,fun c' e1 e2 e3 o'=>⟨h0,b37 hm h1, .inl ⟨by rw [e2,e3],xs.take (m * sz),⟨by rw [b2g,hxl,b3o hmul], .inr ⟨g,cap',cur,by rw [e2,q2],hbase,hheap,by omega,hcm,hcs, ?_⟩⟩,fun i j hi hj=>?_⟩⟩⟩
    · rw [<- htake,List.take_take,b3o hmul]
    obtain ⟨x,hx,hr⟩:=h4 i j b5c hj;refine ⟨x, ?_,by rw [e1];exact hr⟩;rw [b2o,if_pos (s7 hi hj)];exact hx
  · cases h6
  subst h6;obtain rfl:m = 0:=by omega
  refine ⟨noB,fun b hb=>hb.elim,fun c' e1 e2 e3 o'=>⟨h0,b2b _, .inr ⟨.inr rfl,e3, ?_⟩⟩⟩;obtain ⟨ad2,cap2,r1,r2,r3,r4,_⟩:=h8;rw [q1] at r1;simp only [Value.slice.injEq,true_and] at r1;obtain ⟨rfl,rfl⟩:=r1;obtain rfl:cap = 0:=r4 rfl;rw [e2,q2];exact ⟨ad',0,rfl,b29 _,b2b _,fun _=>rfl,fun h=>absurd h (b50 0)⟩
 have hevo:∀ k,k ≠ id' -> Evo c s.o { c with own:=fun k=>if k = id' then u else c.own k,blk:=fun k=>if k = id' then bk else c.blk k } ((s.setO id none).setO id' (some (.arr true sz el m f))).o k:=fun k hk=>by
  by_cases hki:k = id
  · subst hki
    exact .inl (by simp [S.setO,hk])
  exact Evo.of_same (by simp [S.setO,hk,hki]) (by simp [hk])
 refine ⟨{ c with own:=fun k=>if k = id' then u else c.own k,blk:=fun k=>if k = id' then bk else c.blk k },rfl,⟨h.defers,h.size,h.below,fun d x hx=>?_,fun k ob hk=>?_,fun i i' obi obi' b hi hi' hb hb'=>?_,h.imm,fun k ob b hk hb=>?_,h.was,h.frm,fun k ob b hk hb=>?_,fun k hk=>?_⟩, ?_⟩
 · exact (h.tmps d x hx).evo (Imm.le.refl c.imm) fun k hkm=>hevo k (by rintro rfl;exact hnm.1 d x hx hkm)
 · by_cases hk':k = id'
   · subst hk'
     obtain rfl:ob = .arr true sz el m f:=by simpa [S.setO] using hk.symm
     refine hok _ ?_ ?_ ?_ _ <;> first | rfl | exact if_pos rfl
   obtain ⟨hk1,hk2⟩:=hold k ob hk hk';exact (h.objs k ob hk1).keep (Imm.le.refl c.imm) (by simp [hk']) (by simp [hk']) (fun j hj=>hevo j (by rintro rfl;exact hnm.2.1 k ob hk1 hj)) fun b _=>rfl
 · have hone:∀ k ob b,k ≠ id' -> ((s.setO id none).setO id' (some (.arr true sz el m f))).o k = some ob -> c.blk k b -> bk b -> False:=fun k ob b hk' hk hb hbb=>by
    obtain ⟨hk1,hk2⟩:=hold k ob hk hk';exact hk2 (h.inj k id ob _ b hk1 ho hb (hbk b hbb))
   by_cases e1:i = id'
   · by_cases e2:i' = id'
     · rw [e1,e2]
     exact (hone i' obi' b e2 hi' (by simpa [e2] using hb') (by simpa [e1] using hb)).elim
   by_cases e2:i' = id'
   · exact (hone i obi b e1 hi (by simpa [e1] using hb) (by simpa [e2] using hb')).elim
   exact h.inj i i' obi obi' b (hold i obi hi e1).1 (hold i' obi' hi' e2).1 (by simpa [e1] using hb) (by simpa [e2] using hb')
 · by_cases hk':k = id'
   · exact h.sep id _ b ho (hbk b (by simpa [hk'] using hb))
   exact h.sep k ob b (hold k ob hk hk').1 (by simpa [hk'] using hb)
 · by_cases hk':k = id'
   · exact h.fsep id _ b ho (hbk b (by simpa [hk'] using hb))
   exact h.fsep k ob b (hold k ob hk hk').1 (by simpa [hk'] using hb)
 · exact (h.fixed k hk).trans (hevo k (by have:=hnm.2.2;omega))
 refine ⟨hu.1,fun l=>by simp [S.setO],fun ob2 s2 e2 n2 ho2 hd2=>?_⟩;simp only [S.setO,if_true,b24] at ho2;subst ho2;simp only [a6.dim,b24,b2a] at hd2;obtain ⟨rfl,rfl,rfl⟩:=hd2;exact ⟨b29 _,fun _=>by simp⟩
end
section
variable {ro:Option Nat} {P:Program} {nt:Nat} {st:HSt} {Q:Exit -> HSt -> Prop}
def alx {c:Code} (d id2:Nat) {id n n' i m s:Nat} {e:TypeId} {f:Nat -> Nat -> PV} (hd:b8 st.t d = some (.v (.one (.win id n i m)))) (ho:b8 st.o id = some (.arr true s e n' f)) (hn:n' = n) (hi:i = 0) (hm:m <= n) (hnew:md id2 st = true)
 (h:HW (ro:=ro) P nt c ⟨(d,some (.v (.one (.ref id2 m)))) :: st.t,(id2,some (.arr true s e m f)) :: (id,none) :: st.o⟩ Q):HW (ro:=ro) P nt c st Q:=by
 subst hn hi;obtain ⟨hnm,hno⟩:=ig hnew;refine yu ⟨st.t,(id2,some (.arr true s e m f)) :: (id,none) :: st.o⟩ d (.v (.one (.ref id2 m))) (fun w0 m0 a w hr=>?_) h;obtain ⟨cc,hold,hrr⟩:=hr;obtain ⟨c',e1,e2,e3⟩:=hrr.short ho hm hnm hno (hrr.tmps d _ hd)
 have e4:(HSt.den ⟨st.t,(id2,some (.arr true s e m f)) :: (id,none) :: st.o⟩) = (st.den.setO id none).setO id2 (some (.arr true s e m f)):=by
  unfold HSt.den S.setO;simp [ax]
 exact ⟨c',e1.trans hold,by rw [e4];exact e2,by rw [e4];exact e3⟩
end
end
section
def ik {id n m:Nat} (h:n = m):CoR (.v (.one (.ref id n))) (.v (.one (.ref id m))):=by rw [h];exact CoR.refl _
end
section
def atk (l:List Fd) (p:AS):Int:=if ct 16 l = 0 then (if 8 < bsz p then 3 else if p >>> 16 = 0 then 0 else 1) else ct 16 l
def b1v (l:List Fd) (p:AS):Fd:=if atk l p = 0 then a95 l p else ⟨0,0⟩
def b0k (l:List Fd) (p:AS):Bool:=decide (atk l p = 0) && s3 l p
def bcP (n:Int) (l:List Fd) (f:Fd):Bool:=decide (f.rhs &&& ~~~f.lhs ≠ 0) && decide (clo l f.lhs ≠ bi n)
def bcS (n:Int) (l:List Fd):Bool:=decide (ct n l = 0) && !l.any (bcP n l)
def agh (n:Int) (l:List Fd):List AS:=if a2r n l 8 = 0 then (a90 (bi n)).filter fun s=>!s3 l s else []
end
section
def ao9 (l:List Fd) (p z:AS):AS:=(p &&& clo l (z &&& p)) &&& ~~~z
def awj (l:List Fd) (z p:AS):Bool:=decide (ao9 l p z ≠ 0)
def am9 (l:List Fd) (ps:List AS):Nat -> AS -> AS
 | 0,z=>z
 | n + 1,z=>match ps.find? (awj l z) with
  | none=>z
  | some p=>am9 l ps n (z ||| ao9 l p z)
def amv (l:List Fd) (ps:List AS) (z:AS):AS:=am9 l ps 4294967297 z
def ahe (l:List Fd) (ps:List AS) (f:Fd):Bool:=decide (sub f.rhs (amv l ps f.lhs))
def b21 (l:List Fd) (ps:List AS) (z0:AS) (x:Nat × List Nat × AS):Prop:=am9 l ps x.1 x.2.2 = amv l ps z0 /\ 4294967296 < x.1 + x.2.2.toNat /\ x.2.1.length + x.1 = 4294967297
def b0j (l:List Fd) (ps:List AS) (i:Nat):List Nat:=(List.range i).filter fun j=>!ahe l ps (l.getD j default)
def av7 (l:List Fd) (ps:List AS):Bool:=(List.range l.length).all fun j=>ahe l ps (l.getD j default)
end
section
open Go.RowKit
def b0e (P:Program) (g:FuncId) (caps:List PC) (n:Nat) (xs:Nat -> List PC):Prop :=
 ∀ (imm:Imm) (_:nn imm) (us:List Value) (W:World) (l:Nat) (J:Nat -> World -> Prop),bp imm caps us ->
  (∀ i A,J i A -> ∀ b ob,imm b = some ob -> A.heap[b]? = some ob) ->
  (∀ i A A',J i A -> Below A.heap.size A A' -> J i A') ->
  (∀ i A vs,i < n -> J i A -> bp imm (xs i) vs -> YieldAt (rf none) 0 P l vs.toArray A fun e A'=>e = .returned (.bool true) /\ J (i + 1) A') ->
  J 0 W -> CallsIn (rf none) 0 P g (#[.func (.yield l) #[] #[]] ++ us.toArray) W fun e W'=>(∃ v,e = .returned v) /\ J n W'
section
variable {P:Program} {nt:Nat} {c:Ctx} {s:S} {a:Act} {w w0:World}
end
def aum (r:Nat -> Nat):List (Nat × Option HR) -> List (Nat × Option HR)
 | []=>[]
 | (d,some x) :: l=>(d,some (x.ren r)) :: aum r l
 | (d,none) :: l=>(d,none) :: aum r l
def rgB (r:Nat -> Nat) (T:List (Nat × Option HR)) (o1 o2:List (Nat × a6)) (fx:List Nat):Bool :=
 (fx.all fun id=>Nat.ble 1000 (r id)) && ((c5 o2).all fun id=>(o8 fx id && o8 (c5 o1) id) || (Nat.blt id 1000 && nmT id T)) && (a2f o2).all (o8 (c5 o2))
def b15 (P:Program) (nt l:Nat) (body:Code) (Q:HSt -> Prop) (e:Exit) (st:HSt):Prop:=e = .normal /\ HW (ro:=some l) P nt body st fun e st=>e = .normal /\ Q st
section
variable {P:Program} {E:Env} {nt:Nat} {ops:Array Oper} {i:Nat} {o:Oper} {Q:Exit -> Act -> World -> Prop} {a:Act} {A:World} {imm:Imm}
def ast (d:Option Tmp) (x:HR) (t:List (Nat × Option HR)):List (Nat × Option HR):=match d with | some d=>(d,some x) :: t | none=>t
class TabC (imm:Imm):Prop where
 ok:nn imm
def cI (imm:Imm) (A:World) [ht:TabC imm]:Ctx:={ old:=(imm,eg A,(fun _=>undef),(fun _=>none),fun _ _=>undef),imm:=imm,tab:=ht.ok,own:=fun _=>undef,blk:=fun _=>noB,rows:=fun _ _=>undef }
variable [TabC imm]
structure It (imm:Imm) [TabC imm] (nt:Nat) (t:List (Nat × Option HR)) (a:Act) (A:World):Prop where
 defers:a.defers = []
 rel:aa A nt (cI imm A) ⟨b8 t,fun _=>none⟩ a A
section
variable {t:List (Nat × Option HR)}
theorem It.sub {t':List (Nat × Option HR)} (h:It imm nt t a A) (hs:l8 t' t):It imm nt t' a A :=
 ⟨h.defers,h.rel.relax ⟨b8 t',fun _=>none⟩ (fun d x hx=>ur hs d x hx) (fun id ob ho=>by cases ho)⟩
theorem It.move {A':World} (h:It imm nt t a A) (hi:∀ b ob,imm b = some ob -> A'.heap[b]? = some ob):It imm nt t a A':=by
 refine ⟨h.defers,by rw [h.defers];exact lp.nil _ _ _ _,h.rel.size,Below.refl _ _,fun d x hx=>?_,(fun id ob ho=>by cases ho),(fun i i' ob ob' b ho=>by cases ho),hi,(fun id ob b ho=>by cases ho),fun b _=>rfl,fun b ob hb=>hb,(fun id ob b ho=>by cases ho),fun id _=>.inl rfl⟩;exact ak.evo (c:=cI imm A) (o:=fun _=>none) (Imm.le.refl imm) (fun _ _=>.inl rfl) (h.rel.tmps d x hx)
theorem It.put (h:It imm nt t a A) {d:Option Tmp} (hd:c8 nt d = true) (x:HR) (v:Value) (hx:ak (cI imm A) (fun _=>none) x v):It imm nt (ast d x t) (a.put d v) A:=by
 cases d with
 | none=>exact h
 | some d =>
  have:=h.rel.put d (of_decide_eq_true hd) (some x) v (fun y hy=>by cases hy;exact hx);refine ⟨h.defers, ?_⟩
  have e:(S.put ⟨b8 t,fun _=>none⟩ d (some x)) = ⟨b8 ((d,some x) :: t),fun _=>none⟩:=by
   unfold S.put;simp [ax]
  rw [e] at this;exact this
def ar4 (h:It imm nt t a A) {x:Operand} {r:HR} (hx:ev ⟨b8 t,fun _=>none⟩ x = some r):ak (cI imm A) (fun _=>none) r (a.eval x):=a7 h.rel hx
def iy {L:List Nat} {cl:Call} {f:Operand} {l:Nat} {R:World -> Prop} (h:It imm nt t a A) (hi:ops[i]? = some o) (hw:aq ops ⟨b8 t,fun _=>none⟩ o = some true) (hd:c8 nt o.dst = true) (ho:o.op = .call cl) (hcl:cl.callee = .value f) (hf:ev ⟨b8 t,fun _=>none⟩ f = some (b5 (.raw (.func (.yield l) #[] #[])))) (hy:YieldAt (rf none) 0 P l (cl.args.toList.map a.eval).toArray A fun e A'=>e = .returned (.bool true) /\ R A') (him:∀ A',R A' -> ∀ b ob,imm b = some ob -> A'.heap[b]? = some ob) (hK:∀ a' A',R A' -> It imm nt (ast o.dst (b5 (.raw (.bool true))) t) a' A' -> wpOpsIn (rf none) 0 P ops Q L a' A'):wpOpsIn (rf none) 0 P ops Q (i :: L) a A:=by
 rw [wpOpsIn_cons];unfold wpOpIn;simp only [hi];rw [if_pos (dh h.rel hw)];obtain ⟨fn,tmps,assign,body,hyr,hround⟩:=hy;have hfe:a.eval f = .func (.yield l) #[] #[]:=(ar4 h hf).1;refine ⟨fun _ _=>trivial, ?_⟩;have hsem:Oper.semAt (rf none).round a.eval o = execOp a.eval o:=rfl;rw [hsem];have hma:(cl.args.toList.map a.eval).toArray = cl.args.map a.eval:=by apply Array.toList_inj.1;rw [b48]
 rw [hma] at hyr
 have hrun:(execOp a.eval o).run P A = .ok (.round l fn tmps assign body) A:=by
  simp only [execOp,ho,resolve,hcl,hfe,b2x,Deferred.ofValue,b3c,b2j,invoke];simpa using hyr
 rw [hrun,Oper.uponIn_round];refine ⟨fun hh=>absurd hh (by simp [rf]),hround.mono ?_⟩;rintro e A' ⟨rfl,hR⟩;exact hK _ A' hR ((h.move (him A' hR)).put hd (b5 (.raw (.bool true))) (.bool true) ⟨rfl,rfl⟩)
end
end
theorem CoP.vp {k k':Nat} {f f':Nat -> PV} (hk:k' = k) (hf:∀ j,j < k -> CoP (f j) (f' j)):CoP (.vp k f) (.vp k' f'):=by
 subst hk;rintro m u ⟨b,off,rfl,h⟩
 exact ⟨b,off,rfl,fun j hj=>by
  obtain ⟨x,hx,hr⟩:=h j hj
  exact ⟨x,hx,hf j hj m x hr⟩⟩
theorem CoP.fn {g:FuncId} {k k':Nat} {f f':Nat -> PV} (hk:k' = k) (hf:∀ j,j < k -> CoP (f j) (f' j)):CoP (.fn g k f) (.fn g k' f'):=by
 subst hk;rintro m u ⟨cs,rfl,hl,h⟩
 exact ⟨cs,rfl,hl,fun j hj=>by
  obtain ⟨x,hx,hr⟩:=h j hj
  exact ⟨x,hx,hf j hj m x hr⟩⟩
def RN (P:Program) (nt:Nat) (ops:Array Oper) (L:List Nat) (st:HSt) (Q:HSt -> Prop):Prop :=
 ∀ (ro:Option Nat) (n:Nat) w0 m0 a w (QQ:Exit -> Act -> World -> Prop),Rel w0 m0 nt st.den a w -> (∀ st' a' w',Q st' -> Rel w0 m0 nt st'.den a' w' -> QQ .normal a' w') -> wpOpsIn (rf ro) n P ops QQ L a w
section
variable {P:Program} {E:Env} {nt:Nat} {ops:Array Oper} {st:HSt}
def a20 (hE:bq P E) {ro:Option Nat} {n:Nat} {w0:World} {m0:Old} {sf:S} {L2:List Nat} {QQ:Exit -> Act -> World -> Prop} (hQ:∀ a' w',Rel w0 m0 nt sf a' w' -> wpOpsIn (rf ro) n P ops QQ L2 a' w') :
 ∀ (T:List Tr) (s:S) (a:Act) (w:World),j2 P E nt ops T s sf -> Rel w0 m0 nt s a w -> wpOpsIn (rf ro) n P ops QQ (T.map (·.i) ++ L2) a w
 | [],s,a,w,hT,hr=>by
  cases hT;exact hQ _ _ hr
 | t :: T,s,a,w,hT,hr=>by
  cases hT with
  | cons hi he hR hO hF hrest =>
  rw [b3y,b4d,wpOpsIn_cons];exact a0b hE he hr hi fun a' w' hr'=>a20 hE hQ T _ a' w' hrest hr'
section
variable {Q:HSt -> Prop}
def aix (hE:bq P E) {L1 L2:List Nat} (h:Reg P E nt ops L1 st fun _ sf=>RN P nt ops L2 sf Q):RN P nt ops (L1 ++ L2) st Q:=fun ro n w0 m0 a w QQ hr hQ=>by
 obtain ⟨T,sf,hl,hT,h⟩:=h;rw [<- hl];exact a20 hE (fun a' w' hr'=>h ro n w0 m0 a' w' QQ hr' hQ) T _ a w hT hr
def avt (h:Q st):RN P nt ops [] st Q:=fun ro n w0 m0 a w QQ hr hQ=>hQ st a w h hr
def axg {L:List Nat} (h:HE nt st fun st'=>RN P nt ops L st' Q):RN P nt ops L st Q:=fun ro n w0 m0 a w QQ hr hQ=>by
 obtain ⟨st',h1,h2⟩:=h w0 m0 a w hr;exact h1 ro n w0 m0 a w QQ h2 hQ
def agv {ro:Option Nat} {Q:Exit -> HSt -> Prop} {id:Nat} (L1 L2:List Nat) (hl:List.range ops.size = L1 ++ L2) (h:RN P nt ops (L1 ++ L2) st (Q .normal)):HW (ro:=ro) P nt (.region id ops false) st Q:=fun w0 m0 a w hr=>by
 refine wpIn_region ?_;rw [hl];exact h ro 0 w0 m0 a w _ hr fun st' a' w' hq hr'=>⟨st',hq,hr'⟩
def avz (st1:HSt) (d:Nat) (x:HR) (hs:∀ w0 m0 a w,Rel w0 m0 nt st.den a w -> ∃ cc,cc.old = m0 /\ aa w0 nt cc st1.den a w /\ ak cc st1.den.o x (a.tmps.getD d undef)) (h:HE nt ⟨(d,some x) :: st1.t,st1.o⟩ Q):HE nt st Q:=fun w0 m0 a w hr=>by
 obtain ⟨cc,hold,hrr,hx⟩:=hs w0 m0 a w hr;refine h w0 m0 a w ⟨cc,hold,hrr.defers,hrr.size,hrr.below,fun k y hy=>?_,hrr.objs,hrr.inj,hrr.imm,hrr.sep,hrr.was,hrr.frm,hrr.fsep,hrr.fixed⟩;simp only [HSt.den] at hy;rw [ax] at hy;dsimp only at hy;split at hy
 · rename_i hk
   subst hk;simp only [b24] at hy;subst hy;exact hx
 exact hrr.tmps k y hy
def jd (d:Nat) {id n n' s:Nat} {wr:Bool} {e:TypeId} {f:Nat -> Nat -> PV} (hd:b8 st.t d = some (.v (.one (.ref id n)))) (ho:b8 st.o id = some (.arr wr s e n' f)) (hn:n' = n) (h:HE nt ⟨(d,some (b5 (.sl n s false f))) :: st.t,(id,none) :: st.o⟩ Q):HE nt st Q:=by
 subst hn;refine avz ⟨st.t,(id,none) :: st.o⟩ d (b5 (.sl n' s false f)) (fun w0 m0 a w hr=>?_) h;obtain ⟨cc,hold,hrr⟩:=hr;refine ⟨_, ?_,by rw [p6];exact hrr.freeze ho, ?_⟩
 · exact hold
 obtain ⟨_,_,h3⟩:=hrr.tmps d _ hd;have:=(h3 _ _ _ _ ho rfl).2 rfl;rw [this];exact ns hrr ho
end
end
end
section
def orL (ps:List AS):AS:=ps.foldl (· ||| ·) 0
def a2z {ps:List AS} {i:Nat} (h:i < ps.length):orL (ps.take (i + 1)) = orL (ps.take i) ||| ps.getD i default:=by
 unfold orL;rw [bz h,b4l];rfl
def ax9 (n:Int) (l:List Fd) (ps:List AS):Bool:=decide (orL ps = bi n) && av7 l ps && ps.any (a7b n l)
def awt (n:Int) (l:List Fd) (ps:List AS) (s:AS):List AS:=if ax9 n l (ps.eraseIdx (idx (fun x=>decide (x = s)) ps).toNat) = true then ps.eraseIdx (idx (fun x=>decide (x = s)) ps).toNat else ps
def afx (n:Int) (l:List Fd) (p0:List AS):Nat -> List AS
 | 0=>p0
 | i + 1=>awt n l (afx n l p0 i) (p0.getD (p0.length - 1 - i) default)
def aem (n:Int) (l:List Fd):Bool:=av7 l (agh n l)
def b0s (n:Int) (l:List Fd):List AS:=if a2r n l 8 = 0 /\ aem n l = true then afx n l (ad5 (agh n l)) (ad5 (agh n l)).length else []
def b0d (n:Int) (l:List Fd):Bool:=decide (a2r n l 8 = 0) && aem n l
def b0l (n:Int) (l:List Fd) (p0:List AS) (i:Nat) (ps:List AS):Prop:=ps = afx n l p0 i /\ ps.length <= p0.length /\ ∀ j,j < p0.length - i -> p0.getD j default ∈ ps
def au9 (n:Int) (l:List Fd):Option Fd:=(afu n l).find? fun f=>!ahe l (agh n l) f
def b1n (n:Int) (l:List Fd):Int:=if a2r n l 8 = 0 then (match au9 n l with | some _=>0 | none=>4) else a2r n l 8
def b0u (n:Int) (l:List Fd):Fd:=if a2r n l 8 = 0 then (match au9 n l with | some f=>f | none=>⟨0,0⟩) else ⟨0,0⟩
end
section
def spA (l:List Fd) (s:AS):AS:=(a95 l s).lhs ||| (a95 l s).rhs
def spB (l:List Fd) (s:AS):AS:=s &&& ~~~(a95 l s).rhs
def aik {a b:AS}:sub (a &&& b) a:=du.2 fun i hi h=>by rw [b3j,b2h] at h;exact h.1
def agz (l:List Fd):Nat -> List AS -> List AS -> List AS
 | 0,_,out=>out
 | n + 1,todo,out =>
  if todo.length = 0 then out
  else if s3 l (todo.getD (todo.length - 1) default) = true then agz l n (todo.take (todo.length - 1) ++ [spA l (todo.getD (todo.length - 1) default),spB l (todo.getD (todo.length - 1) default)]) out
  else agz l n (todo.take (todo.length - 1)) (out ++ [todo.getD (todo.length - 1) default])
def asr (n:Int) (l:List Fd):List AS:=agz l 6562 [bi n] []
def b1x (n:Int) (l:List Fd):List AS:=if a2r n l 8 = 0 then ad5 (asr n l) else []
def ats (todo:List AS):Nat:=(todo.map fun s=>3 ^ bsz s).sum
def b12 (n:Int) (l:List Fd) (x:Nat × List AS × List AS):Prop:=agz l x.1 x.2.1 x.2.2 = asr n l /\ ats x.2.1 < x.1 /\ x.2.2.length + x.1 <= 6562
end
section
open Go.Proofs
def azy:List Fd:=[⟨1,2⟩,⟨2,4⟩]
def b0p:List Fd:=[⟨3,4⟩,⟨4,1⟩]
end
section
open Go.Proofs
def w1 (l:List Fd) (p:AS):Int:=if ct 16 l = 0 /\ (8:Int) < bsz p then 3 else ct 16 l
section
variable {l:List Fd} {p:AS}
end
section
variable {n:Int} {l:List Fd}
end
end
section
open Go.RowKit Go.ChangeShapes Go.WideShapes Go.ChangeAt
def Rd (P:Program) (t:TypeId) (n:Nat) {α:Type} (c:α -> Nat -> PV):Prop :=
 ∀ (H:Type) (enc:TypeId × Value -> H) (w:World) (sp:Nat -> Bool) (held:Bool) (fuel:Nat) (cs:List Value) (x:DataW H × List MemPlace),DataW.trod enc P w 0 sp held fuel t cs = some x ->
  cs.length = n /\ ∃ a:α,∀ j,j < n -> ∃ v,cs[j]? = some v /\ aj (eg w) (c a j) v
section
variable {P:Program} {t e:TypeId}
def au7 (k:IntKind) (z:Int):Nat -> PV:=fun _=>.raw (.int k z)
def aog (b:Bool):Nat -> PV:=fun _=>.raw (.bool b)
def b06 (s:ByteArray):Nat -> PV:=fun _=>.raw (.string s)
def aut {k:IntKind} (ht:P.underlying t = some (.int k)):Rd P t 1 (au7 k):=by
 intro H enc w sp held fuel cs x h;obtain ⟨n,rfl,_,_⟩:=DataW.trod_int ht h;refine ⟨rfl,n,fun j hj=>?_⟩;obtain rfl:j = 0:=by omega
 exact ⟨_,rfl,rfl,rfl⟩
def ari (ht:P.underlying t = some .bool):Rd P t 1 aog:=by
 intro H enc w sp held fuel cs x h;obtain ⟨n,rfl,_⟩:=DataW.trod_bool ht h;refine ⟨rfl,n,fun j hj=>?_⟩;obtain rfl:j = 0:=by omega
 exact ⟨_,rfl,rfl,rfl⟩
def u8P (u:UInt8):Nat -> PV:=fun _=>.raw (.int .u8 (u.toNat:Int))
def ax1 (ht:P.underlying t = some (.int .u8)):Rd P t 1 u8P:=by
 intro H enc w sp held fuel cs x h;obtain ⟨n,rfl,_,hw⟩:=DataW.trod_int ht h;have hx:0 <= n /\ n <= 255:=by simpa [Lit.wf,IntKind.min,IntKind.max,IntKind.signed,IntKind.bits] using hw
 refine ⟨rfl,UInt8.ofNat n.toNat,fun j hj=>?_⟩;obtain rfl:j = 0:=by omega
 refine ⟨_,rfl, ?_,rfl⟩
 have:(UInt8.ofNat n.toNat).toNat = n.toNat:=by
  rw [UInt8.toNat_ofNat'];omega
 rw [this];congr 1;omega
theorem Rd.co {n:Nat} {α β:Type} {c:α -> Nat -> PV} {c':β -> Nat -> PV} (h:Rd P t n c) (f:α -> β) (hc:∀ a j,j < n -> CoP (c a j) (c' (f a) j)):Rd P t n c':=by
 intro H enc w sp held fuel cs x hx;obtain ⟨h1,a,h2⟩:=h _ enc w sp held fuel cs x hx;refine ⟨h1,f a,fun j hj=>?_⟩;obtain ⟨v,h3,h4⟩:=h2 j hj;exact ⟨v,h3,hc a j hj _ _ h4⟩
def agd {α:Type} [Inhabited α] (s:Nat) (c:α -> Nat -> PV) (l:List α):Nat -> PV:=fun _=>psl s c l
end
def a8j {W W':World} (hb:Below W.heap.size W W') (may:MemPlace -> Prop):W.keptBut W' may:=by
 refine ⟨hb.os,hb.output,fun i hi=>?_⟩;rw [hb.block i hi]
 cases W.heap[i]? with
 | none=>exact rfl
 | some o=>cases o <;> first | exact ⟨rfl,rfl,rfl,fun _ _=>rfl⟩ | exact .inr ⟨rfl,rfl⟩ | exact rfl
def a8l {W W':World} (hb:Below W.heap.size W W') (p:MemPlace) (hp:p.block < W.heap.size):W.sameAt W' p:=by
 cases p with
 | cell b off=>show W'.cell? _ = W.cell? _;unfold World.cell?;rw [hb.block b hp]
 | map b=>exact hb.block b hp
section
variable {H:Type} {enc:TypeId × Value -> H} {P:Program}
def yk (hl:laidOutB P = true) {W W':World} {sp':Nat -> Bool}:∀ {ts:List TypeId} {vs:List Value} {ds:List (DataW H)} {ps:List MemPlace},(∀ t ∈ ts,P.readableRec t = true /\ t < P.types.size) -> DataW.TrodAll enc P W 0 (fun _=>true) true ts vs ds ps ->
 (∀ p ∈ ps,W.sameAt W' p) -> (∀ p ∈ ps,sp' p.block = true) -> DataW.TrodAll enc P W' 0 sp' true ts vs ds ps
 | [],[],[],ps,_,h,_,_=>h
 | t :: ts,v :: vs,d :: ds,ps,ht,⟨p,q,h1,h2,e⟩,hs,hsp=>by
  subst e;refine ⟨p,q,WideElems.Trod_stays hl (ht t b5f).1 (ht t b5f).2 h1 (fun z hz=>hs z (by simp [hz])) (fun z hz=>hsp z (by simp [hz])), ?_,rfl⟩;exact yk hl (fun t ht'=>ht t (by simp [ht'])) h2 (fun z hz=>hs z (by simp [hz])) (fun z hz=>hsp z (by simp [hz]))
 | [],_ :: _,_,_,_,h,_,_=>h.elim
 | [],[],_ :: _,_,_,h,_,_=>h.elim
 | _ :: _,[],_,_,_,h,_,_=>h.elim
 | _ :: _,_ :: _,[],_,_,h,_,_=>h.elim
def aml {f:Func} {s:ChangeSpec} {W W':World} {args:Array Value} {ds:List (DataW H)} {before:List MemPlace} {tb:TypeId} (hl:laidOutB P = true) (hpar:∀ t ∈ f.params.toList,P.readableRec t = true /\ t < P.types.size)
 (hres:f.resultTypes = #[tb]) (htb:P.underlying tb = some .bool) (hv:s.vars = []) (hfn:s.fn H ds = { results:=[.lit (.bool true)],args:=ds })
 (hW:DataW.Whole enc P f.params.toList s.vars false W args.toList ds [] before) (hb:Below W.heap.size W W'):s.post enc P f false true false false W args (.bool true) W':=by
 have hW':=hW;have hlt:∀ p ∈ before,p.block < W.heap.size:=fun p hp=>hW.lt p hp;obtain ⟨p,q,hA,hV,rfl,hfz,hnd⟩:=hW;rw [hv] at hV;obtain ⟨_,rfl⟩:=trodVars_none hV;have hfn':s.fn H (ds ++ []) = { results:=[.lit (.bool true)],args:=ds }:=by rw [b3b];exact hfn
 have hargs:∀ sp:Nat -> Bool,(∀ z ∈ p ++ [],sp z.block = true) -> DataW.TrodAll enc P W' 0 sp true f.params.toList args.toList (s.fn H (ds ++ [])).args p:=fun sp hsp=>by
  rw [hfn'];exact yk hl hpar hA (fun z hz=>a8l hb z (hlt z (by simpa using hz))) (fun z hz=>hsp z (by simpa using hz))
 have hrs:∀ (b:Nat) (sp:Nat -> Bool) (hd:Bool),DataW.TrodAll enc P W' b sp hd f.resultTypes.toList ((Value.bool true).resultList f.resultTypes.size) (s.fn H (ds ++ [])).results []:=fun b sp hd=>by
  rw [hfn',hres];exact trodAll_cons_mk (shut_bool htb _) trodAll_mk0
 have hok:∀ (j:Nat) (t:TypeId) (r:Value),f.resultTypes[j]? = some t -> ((Value.bool true).resultList f.resultTypes.size)[j]? = some r -> Value.okWide P W' .any 0 t r:=ok_one hres rfl (okWide_bool_mk htb _)
 have hvars:∀ sp:Nat -> Bool,(∀ z ∈ p ++ [],sp z.block = true) -> DataW.TrodVars enc P W' sp s.vars (s.fn H (ds ++ [])).vars []:=fun sp _=>by
  rw [hfn',hv];exact rfl
 have hold:∀ z ∈ p ++ [],(fun b=>decide (b < W.heap.size)) z.block = true:=fun z hz=>by simpa using hlt z hz
 refine ⟨ds,[],p ++ [],[],p,[],hW',hrs _ _ _,hargs _ hold,hvars _ hold,World.keptBut_mono (fun z hz=>⟨hz, ?_⟩) (a8j hb (· ∈ p ++ [])),fun _=>?_⟩
 · exact Or.inr (by simpa using hz)
 refine ⟨hok,_,_,([] ++ p) ++ [],⟨[] ++ p,[],trodAll_append (hargs _ (fun _ _=>rfl)) (hrs _ _ _),hvars _ (fun _ _=>rfl),rfl, ?_, ?_⟩, ?_⟩
 · intro b off hp
   have hp':MemPlace.cell b off ∈ p ++ []:=by simpa using hp
   have:=hfz b off hp';unfold World.frozen? at this ⊢;rw [hb.block b (hlt _ hp')];exact this
 · intro ha;cases ha
 intro z hz _;simpa using hz
end
def ab9 {P:Program} {W:World} {r:Reach} {b:Nat} {t e:TypeId} {v:Value} (ht:P.underlying t = some (.slice e)) (h:Value.okWide P W r b t v):v.cells.toList = [v]:=by
 unfold Value.okWide at h;rw [ht] at h;unfold Cell.okWide at h;rw [ht] at h;cases v <;> first | rfl | (simp [Cell.ok,ht] at h)
def ak0 {P:Program} {f:FuncId} {args:List PC} {us:List Value} {W:World} {R:Ending -> World -> Prop} (ht:nn (eg W)) (h:a8 P f args (ah [.one (.raw (.bool true))])) (hr:bp (eg W) args us) (hR:∀ W',Below W.heap.size W W' -> R (.returned (.bool true)) W'):Calls P f us.toArray W R:=by
 refine (h W (eg W) us ht (fun _ _ hh=>hh) hr).mono ?_;rintro e w' ⟨v,imm',rfl,hv,_,_,hb⟩;obtain ⟨rfl,_⟩:=hv;exact hR w' hb
end
end Go.Hx
