/- A part of the proof: Hx18 HxEnv Hx19. -/
import Derived.Deep.AppendLies
import Derived.Laws.CopyRow
import Derived.Shelf.Spec.SlicesInsertGrow
import Derived.Test.YteklilhbjjofbaaGreatDoorProg
import Derived.Test.YteklilhbjjofbaaGreatDoorLd13
set_option linter.all false
namespace Go.Hx
section
open Go.RowKit
section
variable {ro:Option Nat} {P:Program} {E:Env} {nt:Nat} {ops:Array Oper} {i:Nat} {o:Oper} {st:HSt} {T:List Tr} {sf:S} {L:List Nat} {K:List Tr -> HSt -> Prop}
def ak5 (b:ByteArray) (i:Nat):0 <= bp b i /\ bp b i <= 255:=by
 unfold bp;have:=(b.data.toList.getD i 0).toNat_lt;omega
def aea (b:ByteArray) (i:Nat):(gv true .i64 (bp b i)).1:=by
 have:=ak5 b i;simp only [gv,inR,wl,a0h];omega
section
variable {gb:Bool}
def rq {out:Out} (hi:ops[i]? = some o) (hw:ap ops st.den o = some gb) (hd:ct nt o.dst = true) (hq':hq E true st.den.o (ev st.den) o.op = some out) (hg:gb = true) (hT:Reg P E nt ops L (st.after o.dst (some out.val) []) fun T sf=>K (⟨i,a3o true out.val.ids,looks st.den o,bg st.den o.dst [],en E st.den o⟩ :: T) sf) (hp:out.pre:=by first | exact trivial | (simp only [gv,inR,wl,a0h];omega) | exact aea _ _ | exact ⟨trivial,trivial⟩ | exact ⟨trivial,b5d rfl⟩ | (try dsimp only) <;> ((repeat' apply And.intro) <;> first | trivial | rfl | omega | (simp only [gp,bo];omega) | assumption | exact b5d rfl)):
 Reg P E nt ops (i :: L) st K:=ax true hi hw hd hq' hg hp hT
def rqw {out:Out} (hi:ops[i]? = some o) (hw:ap ops st.den o = some gb) (hd:ct nt o.dst = true) (hq':hq E false st.den.o (ev st.den) o.op = some out) (hg:gb = true) (hT:Reg P E nt ops L (st.after o.dst (some out.val) []) fun T sf=>K (⟨i,a3o false out.val.ids,looks st.den o,bg st.den o.dst [],en E st.den o⟩ :: T) sf) (hp:out.pre:=by first | exact trivial | (simp only [gv,inR,wl,a0h];omega) | exact aea _ _ | exact ⟨trivial,trivial⟩ | exact ⟨trivial,b5d rfl⟩ | (try dsimp only) <;> ((repeat' apply And.intro) <;> first | trivial | rfl | omega | (simp only [gp,bo];omega) | assumption | exact b5d rfl)):
 Reg P E nt ops (i :: L) st K:=ax false hi hw hd hq' hg hp hT
def rm (id:Nat) {nw:New} (hi:ops[i]? = some o) (hw:ap ops st.den o = some gb) (hd:ct nt o.dst = true) (hq':ha E (ev st.den) id o.op = some nw) (hn:po id st = true) (hg:gb = true) (hT:Reg P E nt ops L (st.after o.dst (some nw.val) [(id,some nw.ob)]) fun T sf=>K (⟨i,⟨id,false,true, .tup [],[id],[id],nw.val.ids ++ nw.ob.ids⟩,looks st.den o,bg st.den o.dst [(id,some nw.ob)],none⟩ :: T) sf) (hp:nw.pre:=by first | exact trivial | (try dsimp only) <;> ((repeat' apply And.intro) <;> first | trivial | rfl | omega | assumption)):Reg P E nt ops (i :: L) st K:=ou id hi hw hd hq' hn hg hp hT
def rs {u:Upd} (hi:ops[i]? = some o) (hw:ap ops st.den o = some gb) (hd:ct nt o.dst = true) (hq':hs E st.den.o (ev st.den) o.op = some u) (hg:gb = true) (hT:Reg P E nt ops L (st.after o.dst none [(u.id,some u.ob)]) fun T sf=>K (⟨i,⟨0,false,true, .tup [],[u.id],[],u.ob.ids⟩,looks st.den o,bg st.den o.dst [(u.id,some u.ob)],en E st.den o⟩ :: T) sf) (hp:u.pre:=by first | exact b5d rfl | (try dsimp only) <;> ((repeat' apply And.intro) <;> first | trivial | rfl | omega | (simp only [gp,bo];omega) | assumption | exact b5d rfl)):Reg P E nt ops (i :: L) st K:=adz hi hw hd hq' hg hp hT
def ra (id:Nat) (wb:Bool) {u:App} (hi:ops[i]? = some o) (hw:ap ops st.den o = some gb) (hd:ct nt o.dst = true) (hq':hap E st.den.o (ev st.den) id wb o.op = some u) (hn:(!u.new || po id st) = true) (hg:gb = true) (hT:Reg P E nt ops L (st.after o.dst (some u.val) [(u.id,some u.ob)]) fun T sf=>K (⟨i,⟨id,wb,true, .tup [],[u.id],if u.new then [id] else [],u.val.ids ++ u.ob.ids⟩,looks st.den o,bg st.den o.dst [(u.id,some u.ob)],none⟩ :: T) sf) (hp:u.pre:=by (try dsimp only) <;> ((repeat' apply And.intro) <;> first | trivial | rfl | assumption | omega | (simp only [b5t];omega) | (simp only [gp,bo];omega) | exact Or.inl rfl | exact Or.inr rfl | exact (fun _=>Or.inl rfl) | exact (fun _=>Or.inr (b5d rfl)) | exact b5d rfl | (intro h;cases h;done))):Reg P E nt ops (i :: L) st K:=se id wb hi hw hd hq' hn hg hp hT
variable {b:Bool}
def rc {cl:Call} {f:FuncId} {fst caps args vs:List PC} {p:Prop} {res:PR} (hi:ops[i]? = some o) (hw:ap ops st.den o = some gb) (hd:ct nt o.dst = true) (ho:o.op = .call cl) (hc:callee (ev st.den) cl = some (f,fst,caps)) (hv:gr st.den.o (ev st.den) cl.args.toList = some (p,vs,b)) (hf:goodFn P f) (hpure:a8 P f args res) (hco:CoL (fst ++ (vs ++ caps)) args) (hb:(!b || res.flat) = true) (hg:gb = true) (hT:Reg P E nt ops L (st.after o.dst (some res.toH) []) fun T sf=>K (⟨i,⟨0,false,true,res,[],[],[]⟩,looks st.den o,bg st.den o.dst [],none⟩ :: T) sf) (hp:p:=by (try dsimp only) <;> ((repeat' apply And.intro) <;> first | trivial | rfl | omega | assumption)):Reg P E nt ops (i :: L) st K:=ah6 hi hw hd ho hc hv hf hpure hco hg hp hb hT
def rv {sr ds:TypeId} {x:Operand} {b:ByteArray} (hi:ops[i]? = some o) (hw:ap ops st.den o = some gb) (hd:ct nt o.dst = true) (ho:o.op = .convert sr ds x) (hcv:a6j E (ev st.den) sr ds x = some b) (hg:gb = true) (hT:Reg P E nt ops L (st.after o.dst (some (.v (.one (.p (.sl b.size 1 false (ajm b)))))) []) fun T sf=>K (⟨i,⟨0,false,true, .tup [],[],[],[]⟩,looks st.den o,bg st.den o.dst [],none⟩ :: T) sf) (hp:b.size <= maxLen:=by first | assumption | (unfold maxLen;omega)):Reg P E nt ops (i :: L) st K:=aug hi hw hd ho hcv hg hp hT
def rk (hi:ops[i]? = some o) (hw:ap ops st.den o = some gb) (hd:ct nt o.dst = true) (hg:gb = false) (hT:Reg P E nt ops L (st.after o.dst (some (.tup [])) []) fun T sf=>K (⟨i,a3o true [],looks st.den o,bg st.den o.dst [],none⟩ :: T) sf):Reg P E nt ops (i :: L) st K:=ah8 hi hw hd hg hT
def anr {out:Out} {id:Nat} (hi:ops[i]? = some o) (hw:ap ops st.den o = some gb) (hd:ct nt o.dst = true) (hq':t7 E st.den.o (ev st.den) o.op = some (out,id)) (hg:gb = true) (hT:Reg P E nt ops L (st.after o.dst (some out.val) [(id,none)]) fun T sf=>K (⟨i,⟨0,false,true, .tup [],[id],[],[]⟩,looks st.den o,bg st.den o.dst [(id,none)],none⟩ :: T) sf) (hp:out.pre:=by (try dsimp only) <;> ((repeat' apply And.intro) <;> first | trivial | rfl | omega | (simp only [gp,bo];omega) | assumption | exact b5d rfl)):Reg P E nt ops (i :: L) st K:=awi hi hw hd hq' hg hp hT
def aa {w:Bool} (hi:ops[i]? = some o) (hw:ap ops st.den o = some (b == w)) (ht:b = true -> Reg P E nt ops (i :: L) st K) (hf:b = false -> Reg P E nt ops (i :: L) st K):Reg P E nt ops (i :: L) st K:=by
 cases hb:b with
 | true=>exact ht hb
 | false=>exact hf hb
def gtt (h:b = true):(b == true) = true:=by subst h;rfl
def gff (h:b = false):(b == false) = true:=by subst h;rfl
def gtf (h:b = true):(b == false) = false:=by subst h;rfl
def gft (h:b = false):(b == true) = false:=by subst h;rfl
end
end
def a8.eat {P:Program} {f:FuncId} {args:List PC} {res:PR} {hcs:List HC} {o1:List (Nat × a6)} {q:Prop} {vs:List PC} (h:a8 P f args res) (hv:lw (lk o1) hcs = some (q,vs)) (hq:q) (hco:CoL vs args):cq P f hcs o1 res.toH [] []:=by
 classical
 intro w c us hm hargs
 let own:Nat -> Prop:=fun b=>∃ id ob,lk o1 id = some ob /\ c.blk id b
 let frm:Imm:=fun b=>if own b then none else w.heap[b]?
 let c2:Ctx:={ old:=(c.imm,frm,c.own,lk o1,c.rows),imm:=c.imm,tab:=c.tab,own:=c.own,blk:=c.blk,rows:=c.rows }
 have hrel:ah w 0 c2 ⟨fun _=>none,lk o1⟩ { tmps:=#[],defers:=[] } w:=by
  refine ⟨ne.nil _ _ _ _,rfl,Below.refl _ _,(fun d x hx=>by cases hx),fun id ob ho=>?_,hm.inj,hm.imm,hm.sep,fun b _=>rfl,fun b ob hbo=>?_,fun id ob b ho hbb=>?_,fun id _=>Evo.of_same rfl rfl⟩
  · exact (hm.objs id ob ho).keep (Imm.le.refl c.imm) rfl rfl (fun _ _=>Evo.of_same rfl rfl) fun _ _=>rfl
  · have hbo:frm b = some ob:=hbo
    simp only [frm] at hbo;split at hbo
    · cases hbo
    exact hbo
  show frm b = none;simp only [frm];rw [if_pos ⟨id,ob,ho,hbb⟩]
 let m:Imm:=fun b=>if own b then w.heap[b]? else c.imm b
 have hseen:ub w c2 w m:=by
  refine ⟨fun b ob hbo=>?_,fun b hb' hlt=>?_⟩
  · have hbo:c.imm b = some ob:=hbo
    have:¬ own b:=fun ⟨id,ob2,h1,h2⟩=>by rw [hm.sep id ob2 b h1 h2] at hbo;cases hbo
    simp only [m,this,if_false];exact hbo
  have hb':frm b = none:=hb';by_cases ho:own b
  · simp [m,ho]
  simp only [frm,ho,if_false] at hb';have:¬ b < w.heap.size:=fun hlt=>by simp [hlt] at hb'
  exact absurd hlt this
 have hrep:b9 c2 (lk o1) hcs us:=b9.evo (c:=c) (c':=c2) (o:=lk o1) (o':=lk o1) (Imm.le.refl c.imm) (fun _ _=>Evo.of_same rfl rfl) hargs;have hview:=CoL.sound hco (lp hrel hseen hrep hv hq)
 have hmm:∀ b ob,m b = some ob -> w.heap[b]? = some ob:=fun b ob hbo=>by
  simp only [m] at hbo;split at hbo
  · exact hbo
  exact hm.imm b ob hbo
 have hlem:Imm.le c.imm m:=fun b ob hb=>by
  by_cases hb':own b
  · obtain ⟨id,ob2,h1,h2⟩:=hb'
    rw [hm.sep id ob2 b h1 h2] at hb;cases hb
  simp only [m,hb',if_false];exact hb
 refine (h w m us (c.tab.mono hlem) hmm hview).mono ?_;rintro e w' ⟨v,imm',rfl,h1,h2,h3,h4⟩;refine ⟨v,{ old:=c.old,imm:=imm',tab:=(c.tab.mono hlem).mono (fun b ob hb=>by rw [h2 b (b5e.1 (hmm b ob hb)).1];exact hb),own:=c.own,blk:=c.blk,rows:=c.rows },rfl,al.of_P h1,⟨(fun id ob ho=>by cases ho),(fun i i' ob ob' b ho=>by cases ho),h3,(fun id ob b ho=>by cases ho)⟩,h4.mono (b5h _),fun b hb hno=>?_,(fun id ob b ho=>by cases ho),fun id hid=>by cases hid⟩;have hnb:¬ own b:=fun ⟨id,ob2,h1,h2⟩=>hno id ob2 h1 h2;exact ⟨h4.block b hb,by show imm' b = _;rw [h2 b hb];simp [m,hnb]⟩
section
variable {b v x y:Bool}
def ab (h:b = false) (e:(bif b then x else y) = v):y = v:=by subst h;exact e
def bd (h:b = true) (e:(bif b then x else y) = v):x = v:=by subst h;exact e
def mz (h:b = false) (e:y = v):(bif b then x else y) = v:=by subst h;exact e
def xm (h:b = true) (e:x = v):(bif b then x else y) = v:=by subst h;exact e
def d6 (e:(!x) = true):x = false:=by simpa using e
def d5 (e:(!x) = false):x = true:=by simpa using e
def coi {k:IntKind} {a b:Int} (h:a = b):CoR (b4 (.raw (.int k a))) (b4 (.raw (.int k b))):=CoR.of_eq (by rw [h])
def cob {a:Bool} (h:a = b):CoR (b4 (.raw (.bool a))) (b4 (.raw (.bool b))):=CoR.of_eq (by rw [h])
def coS {a b:ByteArray} (h:a = b):CoR (b4 (.raw (.string a))) (b4 (.raw (.string b))):=CoR.of_eq (by rw [h])
theorem CoC.of_eq {x y:PC} (h:x = y):CoC x y:=h ▸ CoC.refl x
theorem CoL.of_eq {x y:List PC} (h:x = y):CoL x y:=h ▸ CoL.refl x
def cci {k:IntKind} {a b:Int} (h:a = b):CoC (.one (.raw (.int k a))) (.one (.raw (.int k b))):=CoC.of_eq (by rw [h])
def ccb {a:Bool} (h:a = b):CoC (.one (.raw (.bool a))) (.one (.raw (.bool b))):=CoC.of_eq (by rw [h])
theorem CoC.one {x y:PV} (h:CoP x y):CoC (.one x) (.one y):=h
def a14:List PV -> List PV -> Prop
 | [],[]=>True
 | x :: xs,y :: ys=>CoP x y /\ a14 xs ys
 | _,_=>False
def a14.refl:∀ (l:List PV),a14 l l
 | []=>trivial
 | x :: l=>⟨CoP.refl x,a14.refl l⟩
def a14.sound {m:Imm}:∀ {xs ys:List PV} {us:List Value},a14 xs ys -> dy m xs us -> dy m ys us
 | [],[],[],_,_=>trivial
 | _ :: _,_ :: _,_ :: _,h,k=>⟨h.1 _ _ k.1,a14.sound h.2 k.2⟩
 | [],_ :: _,_,h,_=>h.elim
 | _ :: _,[],_,h,_=>h.elim
 | [],[],_ :: _,_,h=>h.elim
 | _ :: _,_ :: _,[],_,h=>h.elim
theorem CoC.agg {l l':List PV} (h:a14 l l'):CoC (.agg l) (.agg l'):=by
 rintro m u ⟨us,e,hl⟩;exact ⟨us,e,h.sound hl⟩
def lf {α:Type} [Inhabited α] (c:α -> Nat -> PV) (l:List α):Nat -> Nat -> PV:=fun i j=>c (l.getD i default) j
def psl {α:Type} [Inhabited α] (s:Nat) (c:α -> Nat -> PV) (l:List α):PV:=.sl l.length s false (lf c l)
variable {s:Nat} {α:Type} {c:α -> Nat -> PV} {l:List α}
def a1v [Inhabited α] {k:Nat} {cl:Bool} (hk:k <= l.length):CoP (.sl k s cl (lf c l)) (psl s c (l.take k)):=by
 refine CoP.sl (by simp [hk]) (.inl rfl) (fun h=>by cases h) fun i j hi hj=>CoP.of_eq ?_;simp only [lf,List.getD,b69,hi,if_true]
variable {wr':Bool}
def amp [Inhabited α] {wr:Bool} {e:TypeId} {m:Nat} {g:Nat -> Nat -> PV} (l':List α) (hw:wr' = true -> wr = true) (hm:m = l'.length) (hg:∀ i j,i < l'.length -> j < s -> CoP (g i j) (lf c l' i j)):
 CoO (.arr wr s e (l.length + m) (d8 l.length (lf c l) g)) (.arr wr' s e (l ++ l').length (lf c (l ++ l'))):=by
 subst hm;refine ⟨hw,rfl,rfl,by simp,fun i j hi hj=>?_⟩;unfold d8;by_cases h:i < l.length
 · rw [if_pos h]
   refine CoP.of_eq ?_;simp only [lf,List.getD,b75 h]
 rw [if_neg h];have:=hg (i - l.length) j b8i hj;have e:lf c (l ++ l') i j = lf c l' (i - l.length) j:=by simp only [lf,List.getD,b7b (Nat.le_of_not_lt h)]
 rw [e];exact this
def fj [Inhabited α] {wr:Bool} {i:Nat} {e:TypeId} {g:Nat -> Nat -> PV} (hw:wr' = true -> wr = true) (hg:∀ j,j < s -> CoP (g 0 j) (lf c l i j)):
 CoO (.arr wr s e (i + 1) (d8 i (lf c l) g)) (.arr wr' s e (i + 1) (lf c l)):=by
 refine ⟨hw,rfl,rfl,rfl,fun a j ha hj=>?_⟩;unfold d8;by_cases h:a < i
 · rw [if_pos h];exact CoP.refl _
 obtain rfl:a = i:=by omega
 rw [if_neg h,Nat.sub_self];exact hg j hj
def lm {s':Nat} {cl:Bool} {f f':Nat -> Nat -> PV}:CoP (.sl 0 s cl f) (.sl 0 s' false f'):=CoP.sl rfl (.inr rfl) (fun h=>by cases h) fun i j hi _=>absurd hi (b5i i)
def as2 [Inhabited α] {cl:Bool} {x:α} {f:Nat -> Nat -> PV} (h:∀ j,j < s -> CoP (f 0 j) (c x j)):CoP (.sl 1 s cl f) (psl s c [x]) :=
 CoP.sl rfl (.inl rfl) (fun h=>by cases h) fun i j hi hj=>by
  obtain rfl:i = 0:=by omega
  exact h j hj
def a97 [Inhabited α] {k i j:Nat} {x:α} (h:i = k) (hi:i < l.length):lf c (l.set k x) i j = c x j:=by
 subst h;simp [lf,List.getD,hi]
def a9u [Inhabited α] {k i j:Nat} {x:α} (h:¬ i = k):lf c (l.set k x) i j = lf c l i j:=by
 simp only [lf,List.getD,List.getElem?_set_ne (Ne.symm h)]
variable {P:Nat -> Prop}
def lt1 (h0:P 0):∀ j,j < 1 -> P j:=fun j hj=>by
 obtain rfl:j = 0:=by omega
 exact h0
def lt2 (h0:P 0) (h1:P 1):∀ j,j < 2 -> P j:=fun j hj=>by
 rcases j with _ | _ | j
 · exact h0
 · exact h1
 omega
def b3j (i0:Nat) (h:HV) (f:Nat -> Nat -> PV):Nat -> Nat -> HV:=fun i j=>if i = i0 /\ j = 1 then h else .p (f i j)
def aue [Inhabited α] {wr:Bool} {n k m:Nat} {e:TypeId} {x y:α} {ps qs:List PV} (hw:wr' = true -> wr = true) (hn:n = l.length) (hk:k < l.length) (hm:m < l.length) (hp:ps.length = s) (hq:qs.length = s) (h1:∀ j,j < s -> CoP (ps.getD j .any) (c x j)) (h2:∀ j,j < s -> CoP (qs.getD j .any) (c y j)):
 CoO (.arr wr s e n (ew (ew (lf c l) k 0 ps) m 0 qs)) (.arr wr' s e n (lf c ((l.set k x).set m y))):=by
 refine ⟨hw,rfl,rfl,rfl,fun i j hi hj=>?_⟩;unfold ew;by_cases hm':i = m
 · rw [if_pos ⟨hm',b5h _,by omega⟩,a97 hm' b8w,b83];exact h2 j hj
 rw [if_neg b8i,a9u hm'];by_cases hk':i = k
 · rw [if_pos ⟨hk',b5h _,by omega⟩,a97 hk' b8i,b83];exact h1 j hj
 rw [if_neg b8i,a9u hk'];exact CoP.refl _
def aj {i:Nat} (h:∀ j,j < i -> P j) (hn:P i):∀ j,j < i + 1 -> P j:=fun j hj=>by
 rcases Nat.lt_succ_iff_lt_or_eq.1 hj with h1 | rfl
 · exact h j h1
 exact hn
def ar:∀ j,j < 0 -> P j:=fun j hj=>absurd hj (b5i j)
end
section
variable {α:Type} [Inhabited α] {p:α -> Bool} {l:List α} {i:Nat}
def s4 (hi:i < l.length) (h:p (l.getD i default) = false):l.all p = false:=by
 rw [List.all_eq_false];refine ⟨l[i],b5l hi, ?_⟩;simp only [List.getD,b5b hi,b6g] at h;simp [h]
def w5 (h:∀ j,j < l.length -> p (l.getD j default) = true):l.all p = true:=by
 rw [b5u];intro x hx;obtain ⟨j,hj,rfl⟩:=b5z hx;have:=h j hj;simpa only [List.getD,b5b hj,b6g] using this
def a5w (hi:i < l.length) (h:p (l.getD i default) = true):l.any p = true:=by
 rw [b6c];refine ⟨l[i],b5l hi, ?_⟩;simpa only [List.getD,b5b hi,b6g] using h
def a5k (h:∀ j,j < l.length -> p (l.getD j default) = false):l.any p = false:=by
 rw [b6v];intro x hx;obtain ⟨j,hj,rfl⟩:=b5z hx;have:=h j hj;simp only [List.getD,b5b hj,b6g] at this;simp [this]
def idx (p:α -> Bool) (l:List α):Int:=match l.findIdx? p with | some i=>i | none=>-1
def a2b (hi:i < l.length) (hb:∀ j,j < i -> p (l.getD j default) = false) (h:p (l.getD i default) = true):idx p l = i:=by
 have:l.findIdx? p = some i:=by
  rw [b7h];refine ⟨hi, ?_,fun j hj=>?_⟩
  · simpa only [List.getD,b5b hi,b6g] using h
  have:=hb j hj;simp only [List.getD,b5b (Nat.lt_trans hj hi),b6g] at this;simp [this]
 simp [idx,this]
def a2f (h:∀ j,j < l.length -> p (l.getD j default) = false):idx p l = -1:=by
 have:l.findIdx? p = none:=by
  rw [List.findIdx?_eq_none_iff];intro x hx;obtain ⟨j,hj,rfl⟩:=b5z hx;have:=h j hj;simpa only [List.getD,b5b hj,b6g] using this
 simp [idx,this]
def jw {l l':List α} (hl:l.length = l'.length) (h:∀ j,j < l.length -> l.getD j default = l'.getD j default):l = l':=by
 refine List.ext_getElem hl fun j h1 h2=>?_;have:=h j h1;simpa only [List.getD,b5b h1,b5b h2,b6g] using this
end
def HSt.app (a b:HSt):HSt:=⟨a.t ++ b.t,a.o ++ b.o⟩
def a4q:∀ {a b l:List (Nat × Option HR)},mo a l -> mo b l -> mo (a ++ b) l
 | [],_,_,_,h=>h
 | (_,some _) :: _,_,_,h,k=>⟨h.1,a4q h.2 k⟩
 | (_,none) :: r,b,l,h,k=>a4q (a:=r) (b:=b) (l:=l) h k
def a57:∀ {a b l:List (Nat × Option a6)},ny a l -> ny b l -> ny (a ++ b) l
 | [],_,_,_,h=>h
 | (_,some _) :: _,_,_,h,k=>⟨h.1,a57 h.2 k⟩
 | (_,none) :: r,b,l,h,k=>a57 (a:=r) (b:=b) (l:=l) h k
theorem Sub.app {a b st:HSt} (h:Sub a st) (k:Sub b st):Sub (a.app b) st:=⟨a4q h.1 k.1,a57 h.2 k.2⟩
section
variable {ro:Option Nat} {P:Program} {nt:Nat} {st:HSt} {Q:Exit -> HSt -> Prop}
def aej {ι:Type} {body:Code} (K:HSt) (hK:Sub K st) (J:ι -> HSt) (p:ι -> Prop) (μ:ι -> Nat) (i0:ι) (h0:p i0) (hs:Sub (J i0) st) (round:∀ i,p i -> HW (ro:=ro) P nt body ((J i).app K) (aay (fun i=>(J i).app K) p μ i Q)):HW (ro:=ro) P nt (.loop body) st Q :=
 aub (fun i=>(J i).app K) p μ i0 h0 (hs.app hK) round
def af3 {ι:Type} {x y:Code} (K:HSt) (hK:Sub K st) (J:ι -> HSt) (p:ι -> Prop) (h1:HW (ro:=ro) P nt x st (aq8 (fun i=>(J i).app K) p Q)) (h2:∀ i,p i -> HW (ro:=ro) P nt y ((J i).app K) Q):HW (ro:=ro) P nt (.seq x y) st Q :=
 qb (fun i=>(J i).app K) p h1 h2
section
variable {c:Code}
def aby (K:HSt) (hK:Sub K st) (h:HW (ro:=ro) P nt c K Q):HW (ro:=ro) P nt c st Q:=amt K hK h
def dx (bx off id:Nat) (wr:Bool) {n s':Nat} {f':Nat -> Nat -> PV} {l:List HV} (s:Nat) (e:TypeId) (f:Nat -> Nat -> PV) (hs:0 < s) (hb:bc st.o bx = some (.box l)) (hl:l[off]? = some (.p (.sl n s' true f'))) (hco:CoP (.sl n s' true f') (.sl n s true f)) (hwr:wr = false \/ n = 0) (hn:po id st = true) (hne:Nat.beq bx id = false) (h:HW (ro:=ro) P nt c ⟨st.t,(bx,some (.box (au l off [.ref id n]))) :: (id,some (.arr wr s e n f)) :: st.o⟩ Q):HW (ro:=ro) P nt c st Q:=fun w0 m0 a w hr=>by
 obtain ⟨hnm,hno⟩:=kj hn;obtain ⟨cc,hold,hrr⟩:=hr;have hbi:bx ≠ id:=by rintro rfl;simp at hne
 obtain ⟨b0,C0,e0,p1,p2,p3,p4,p5⟩:=hrr.objs bx _ hb;obtain ⟨u,hu,hur⟩:=p5.get off _ hl;have hx:am cc.imm (.sl n s true f) u:=hco _ _ hur;have hnm':n <= maxLen:=by obtain ⟨ad,cap,_,q1,q2,_⟩:=hx;omega
 have hfresh:=hrr.fresh id hnm hno (.arr wr s e n f) w u noB (Grw.refl w none) (fun b hb=>hb.elim) ⟨hs,hnm', .inr ⟨hwr,by simp,by simpa using hx⟩⟩;rw [<- mf] at hfresh
 have hb':(HSt.den ⟨st.t,(id,some (.arr wr s e n f)) :: st.o⟩).o bx = some (.box l):=by
  simp only [HSt.den,ay,hbi,if_false];exact hb
 refine h w0 m0 a w ?_
 have hevo:∀ (c1:Ctx),c1.own = (fun k=>if k = id then u else cc.own k) -> Evo { old:=cc.old,imm:=cc.imm,tab:=cc.tab,own:=fun k=>if k = id then u else cc.own k,blk:=fun k=>if k = id then noB else cc.blk k,rows:=cc.rows } (HSt.den ⟨st.t,(id,some (.arr wr s e n f)) :: st.o⟩).o c1 ((HSt.den ⟨st.t,(id,some (.arr wr s e n f)) :: st.o⟩).setO bx (some (.box (au l off [.ref id n])))).o bx:=fun c1 h1 =>
  .inr (.inl ⟨l,au l off [.ref id n],hb',by simp [S.setO],by rw [h1]⟩)
 have hown:(fun k=>if k = bx then (fun k=>if k = id then u else cc.own k) bx else (fun k=>if k = id then u else cc.own k) k) = fun k=>if k = id then u else cc.own k:=by
  funext k;by_cases hk:k = bx
  · subst hk;simp
  simp [hk]
 have hw:=hfresh.write bx (.box l) hb' (.box (au l off [.ref id n])) w ((fun k=>if k = id then u else cc.own k) bx) ((fun k=>if k = id then noB else cc.blk k) bx) none (Grw.refl w _) (fun _ e=>by cases e) (hevo _ (by exact hown)) (fun b hb=>.inl hb) (by
  refine ⟨b0,C0,e0,by simpa [hbi] using p1,by simpa [hbi] using p2,p3,p4, ?_⟩;have hoff:off < l.length:=(b6t.1 hl).1;have hcl:=p5.length;refine av.of_get ?_ fun k x u' hx' hu'=>?_
  · simp only [au,b5x,b5p,b7a,b6w];omega
  have hx2:=hx';unfold au at hx2;rw [ce l [HV.ref id n] off k b8w] at hx2;by_cases hk:k = off
  · subst hk
    simp at hx2;subst hx2;rw [hu] at hu';simp only [b5a] at hu';subst hu';refine ⟨am.oneCell hx,fun l2=>by simp [S.setO,HSt.den,ay,Ne.symm hbi],fun ob1 s1 e1 n1 ho hd1=>?_⟩;simp only [S.setO,HSt.den,ay,Ne.symm hbi,if_false,if_true,b5a] at ho;subst ho;simp only [a6.dim,b5a,b5f] at hd1;obtain ⟨rfl,rfl,rfl⟩:=hd1;exact ⟨b5g _,fun _=>by simp [Ne.symm hbi]⟩
  rw [if_neg b8w] at hx2;obtain ⟨u2,hu2,hr2⟩:=p5.get k x hx2;rw [hu'] at hu2;simp only [b5a] at hu2;subst hu2;refine az.evo (c:=cc) (o:=st.den.o) (Imm.le.refl cc.imm) (fun j hj=>?_) hr2
  have hji:j ≠ id:=by
   rintro rfl;exact hnm.2.1 bx _ hb ⟨x,List.mem_of_getElem? hx2,hj⟩
  by_cases hjb:j = bx
  · subst hjb;exact .inr (.inl ⟨l,au l off [.ref id n],hb,by simp [S.setO],by simp [hji]⟩)
  exact Evo.of_same (by simp [S.setO,hjb,HSt.den,ay,hji]) (by simp [hjb,hji]))
 have e:HSt.den ⟨st.t,(bx,some (.box (au l off [.ref id n]))) :: (id,some (.arr wr s e n f)) :: st.o⟩ = (HSt.den ⟨st.t,(id,some (.arr wr s e n f)) :: st.o⟩).setO bx (some (.box (au l off [.ref id n]))):=by
  unfold HSt.den S.setO;simp only [S.mk.injEq,true_and];funext k;simp only [ay]
 rw [e];exact ⟨_,(by exact hold),hw⟩
variable {f:Nat -> Nat -> PV}
def bv (d:Nat) {n s:Nat} {cl:Bool} (hd:bc st.t d = some (b4 (.sl n s cl f))) (h:n <= 9223372036854775807 -> HW (ro:=ro) P nt c st Q):HW (ro:=ro) P nt c st Q:=fun w0 m0 a w hr=>by
 have hr':=hr;obtain ⟨cc,hold,hrr⟩:=hr';obtain ⟨ad,cap,_,h1,h2,_⟩:=hrr.tmps d _ hd;exact h (by simp only [maxLen] at h2;omega) w0 m0 a w hr
def aqt (id off:Nat) {n s:Nat} {cl:Bool} {l:List HV} (hb:bc st.o id = some (.box l)) (hl:l[off]? = some (.p (.sl n s cl f))) (h:n <= 9223372036854775807 -> HW (ro:=ro) P nt c st Q):HW (ro:=ro) P nt c st Q:=fun w0 m0 a w hr=>by
 have hr':=hr;obtain ⟨cc,hold,hrr⟩:=hr';obtain ⟨b,C,e,_,_,_,_,q5⟩:=hrr.objs id _ hb;obtain ⟨u,_,ad,cap,_,h1,h2,_⟩:=q5.get off _ hl;exact h (by simp only [maxLen] at h2;omega) w0 m0 a w hr
def ar8 (id:Nat) {n s:Nat} {wr:Bool} {e:TypeId} (hb:bc st.o id = some (.arr wr s e n f)) (h:n <= 9223372036854775807 -> HW (ro:=ro) P nt c st Q):HW (ro:=ro) P nt c st Q:=fun w0 m0 a w hr=>by
 have hr':=hr;obtain ⟨cc,hold,hrr⟩:=hr';have:=(hrr.objs id _ hb).2.1;exact h (by simp only [maxLen] at this;omega) w0 m0 a w hr
end
end
end
end Go.Hx
section
namespace Go.Hx
open Go.Proofs
noncomputable abbrev b98:=Tryz.prog
def tc:List (Nat × Nat):=[(22,28),(30,90),(31,5),(34,43),(35,45),(46,85),(60,9),(61,112),(91,97),(97,3),(101,93),(110,114),(120,110),(121,127),(127,128)]
def a0i:List (Nat × TI):=[(1,⟨.func,1,8,some [.nilFunc],false,false,true⟩),(2,⟨.int .i64,1,8,some [.int .i64 0],false,false,true⟩),(3,⟨.int .i64,1,8,some [.int .i64 0],false,false,true⟩),(4,⟨.bool,1,1,some [.bool false],false,false,true⟩),(5,⟨.int .u8,1,1,some [.int .u8 0],false,false,true⟩),(6,⟨.int .u8,1,1,some [.int .u8 0],false,false,true⟩),(7,⟨.struct [(0,2,false),(1,3,false),(2,4,false),(3,6,false)],4,24,some [.int .i64 0, .int .i64 0, .bool false, .int .u8 0],false,false,false⟩),(8,⟨.struct [(0,2,false),(1,3,false),(2,4,false),(3,6,false)],4,24,some [.int .i64 0, .int .i64 0, .bool false, .int .u8 0],false,false,false⟩),(9,⟨.string,1,16,some [.string ⟨#[]⟩],false,false,true⟩),(21,⟨.int .i32,1,4,some [.int .i32 0],false,false,true⟩),(24,⟨.int .i64,1,8,some [.int .i64 0],false,false,true⟩),(27,⟨.int .u32,1,4,some [.int .u32 0],false,false,true⟩),(28,⟨.int .u32,1,4,some [.int .u32 0],false,false,true⟩),(32,⟨.struct [(0,5,false),(1,30,false),(2,30,false),(3,31,false)],4,80,some [.int .u8 0, .slice none 0 0, .slice none 0 0, .slice none 0 0],false,false,false⟩),(33,⟨.struct [(0,5,false),(1,30,false),(2,30,false),(3,31,false)],4,80,some [.int .u8 0, .slice none 0 0, .slice none 0 0, .slice none 0 0],false,false,false⟩),(42,⟨.struct [(0,28,false),(1,28,false)],2,8,some [.int .u32 0, .int .u32 0],false,false,false⟩),(43,⟨.struct [(0,28,false),(1,28,false)],2,8,some [.int .u32 0, .int .u32 0],false,false,false⟩),(45,⟨.struct [(0,28,false),(1,28,false)],2,8,some [.int .u32 0, .int .u32 0],false,false,false⟩),(62,⟨.struct [(0,9,false),(1,60,false),(2,61,false)],3,64,some [.string ⟨#[]⟩, .slice none 0 0, .slice none 0 0],false,false,false⟩),(63,⟨.struct [(0,9,false),(1,60,false),(2,61,false)],3,64,some [.string ⟨#[]⟩, .slice none 0 0, .slice none 0 0],false,false,false⟩),(84,⟨.struct [(0,4,false),(1,3,false),(2,3,false),(3,3,false)],4,32,some [.bool false, .int .i64 0, .int .i64 0, .int .i64 0],false,false,false⟩),(85,⟨.struct [(0,4,false),(1,3,false),(2,3,false),(3,3,false)],4,32,some [.bool false, .int .i64 0, .int .i64 0, .int .i64 0],false,false,false⟩),(88,⟨.func,1,8,some [.nilFunc],false,false,true⟩),(90,⟨.array 2 5,2,2,some [.int .u8 0, .int .u8 0],false,false,false⟩),(92,⟨.struct [(0,3,false),(1,91,false)],2,32,some [.int .i64 0, .slice none 0 0],false,false,false⟩),(93,⟨.struct [(0,3,false),(1,91,false)],2,32,some [.int .i64 0, .slice none 0 0],false,false,false⟩),(111,⟨.struct [(0,2,false),(1,110,false)],2,32,some [.int .i64 0, .slice none 0 0],false,false,false⟩),(112,⟨.struct [(0,2,false),(1,110,false)],2,32,some [.int .i64 0, .slice none 0 0],false,false,false⟩),(113,⟨.struct [(0,3,false),(1,2,false),(2,9,false)],3,32,some [.int .i64 0, .int .i64 0, .string ⟨#[]⟩],false,false,false⟩),(114,⟨.struct [(0,3,false),(1,2,false),(2,9,false)],3,32,some [.int .i64 0, .int .i64 0, .string ⟨#[]⟩],false,false,false⟩),(119,⟨.pointer 123,1,8,some [.pointer none],false,false,true⟩),(122,⟨.struct [(0,22,false),(1,120,false),(2,121,false),(3,120,false)],4,96,some [.slice none 0 0, .slice none 0 0, .slice none 0 0, .slice none 0 0],false,false,false⟩),(123,⟨.struct [(0,22,false),(1,120,false),(2,121,false),(3,120,false)],4,96,some [.slice none 0 0, .slice none 0 0, .slice none 0 0, .slice none 0 0],false,false,false⟩),(125,⟨.func,1,8,some [.nilFunc],false,false,true⟩),(128,⟨.map 9 4,1,8,some [.map none],false,false,true⟩),(148,⟨.func,1,8,some [.nilFunc],false,false,true⟩),(149,⟨.func,1,8,some [.nilFunc],false,false,true⟩),(159,⟨.int .u64,1,8,some [.int .u64 0],false,false,true⟩),(185,⟨.func,1,8,some [.nilFunc],false,false,true⟩),(190,⟨.func,1,8,some [.nilFunc],false,false,true⟩),(192,⟨.int .i64,1,8,some [.int .i64 0],false,false,true⟩),(201,⟨.int .u64,1,8,some [.int .u64 0],false,false,true⟩),(202,⟨.func,1,8,some [.nilFunc],false,false,true⟩),(213,⟨.int .u64,1,8,some [.int .u64 0],false,false,true⟩),(217,⟨.pointer 3,1,8,some [.pointer none],false,false,true⟩),(225,⟨.pointer 213,1,8,some [.pointer none],false,false,true⟩),(228,⟨.array 32 5,32,32,some [.int .u8 0, .int .u8 0, .int .u8 0, .int .u8 0, .int .u8 0, .int .u8 0, .int .u8 0, .int .u8 0, .int .u8 0, .int .u8 0, .int .u8 0, .int .u8 0, .int .u8 0, .int .u8 0, .int .u8 0, .int .u8 0, .int .u8 0, .int .u8 0, .int .u8 0, .int .u8 0, .int .u8 0, .int .u8 0, .int .u8 0, .int .u8 0, .int .u8 0, .int .u8 0, .int .u8 0, .int .u8 0, .int .u8 0, .int .u8 0, .int .u8 0, .int .u8 0],false,false,false⟩)]
def a8u {α:Type}:List (Nat × α) -> Nat -> Option α
 | [],_=>none
 | (a,x) :: r,n=>bif Nat.beq a n then some x else a8u r n
def rh:Env:=fun t=>match a8u tc t with | some e=>some ⟨.slice e,1,24,some [.slice none 0 0],false,false,true⟩ | none=>a8u a0i t
def a3v {α:Type}:∀ {l:List (Nat × α)} {t:Nat} {i:α},a8u l t = some i -> (t,i) ∈ l
 | (a,x) :: r,t,i,h=>by
  simp only [a8u] at h
  cases hb:Nat.beq a t with
  | true=>rw [hb] at h;cases h;rw [b62 hb];exact b6q
  | false=>rw [hb] at h;exact b65 _ (a3v h)
def an2:a0i.map (fun p=>ve b98 p.1) = a0i.map (fun p=>some p.2):=by kernel_rfl
def akf:tc.map (fun p=>ve b98 p.1) = tc.map (fun p=>some ⟨.slice p.2,1,24,some [.slice none 0 0],false,false,true⟩):=by kernel_rfl
def s8:bu b98 rh:=fun t i h=>by
 unfold rh at h
 cases hs:a8u tc t with
 | some e=>rw [hs] at h;cases h;exact List.map_inj_left.1 akf (t,e) (a3v hs)
 | none=>rw [hs] at h;exact List.map_inj_left.1 an2 (t,i) (a3v h)
def a9a:b98.follows .mixedOrders = true:=by kernel_rfl
end Go.Hx
namespace Go.Hx
open Go.Proofs
section
variable {ro:Option Nat} {P:Program} {E:Env} {nt:Nat} {ops:Array Oper} {i:Nat} {o:Oper} {st:HSt} {L:List Nat} {K:List Tr -> HSt -> Prop} {Q:Exit -> HSt -> Prop}
section
variable {gb:Bool}
def qy {out:Out} (hT:Reg P E nt ops L (st.after o.dst (some out.val) []) fun T sf=>K (⟨i,a3o true out.val.ids,looks st.den o,bg st.den o.dst [],en E st.den o⟩ :: T) sf) (hi:ops[i]? = some o:=by exact rfl) (hw:ap ops st.den o = some gb:=by exact rfl) (hd:ct nt o.dst = true:=by exact rfl) (hq':hq E true st.den.o (ev st.den) o.op = some out:=by exact rfl) (hg:gb = true:=by exact rfl) (hp:out.pre:=by first | exact trivial | (simp only [gv,inR,wl,a0h];omega) | exact aea _ _ | exact ⟨trivial,trivial⟩ | exact ⟨trivial,b5d rfl⟩ | (try dsimp only) <;> ((repeat' apply And.intro) <;> first | trivial | rfl | omega | (simp only [gp,bo];omega) | assumption | exact b5d rfl)):
 Reg P E nt ops (i :: L) st K:=ax true hi hw hd hq' hg hp hT
def k9 (hg:gb = false) (hT:Reg P E nt ops L (st.after o.dst (some (.tup [])) []) fun T sf=>K (⟨i,a3o true [],looks st.den o,bg st.den o.dst [],none⟩ :: T) sf) (hi:ops[i]? = some o:=by exact rfl) (hw:ap ops st.den o = some gb:=by exact rfl) (hd:ct nt o.dst = true:=by exact rfl):Reg P E nt ops (i :: L) st K:=ah8 hi hw hd hg hT
def m9 (id:Nat) {nw:New} (hT:Reg P E nt ops L (st.after o.dst (some nw.val) [(id,some nw.ob)]) fun T sf=>K (⟨i,⟨id,false,true, .tup [],[id],[id],nw.val.ids ++ nw.ob.ids⟩,looks st.den o,bg st.den o.dst [(id,some nw.ob)],none⟩ :: T) sf) (hi:ops[i]? = some o:=by exact rfl) (hw:ap ops st.den o = some gb:=by exact rfl) (hd:ct nt o.dst = true:=by exact rfl) (hq':ha E (ev st.den) id o.op = some nw:=by exact rfl) (hn:po id st = true:=by exact rfl) (hg:gb = true:=by exact rfl) (hp:nw.pre:=by first | exact trivial | (try dsimp only) <;> ((repeat' apply And.intro) <;> first | trivial | rfl | omega | assumption)):Reg P E nt ops (i :: L) st K:=ou id hi hw hd hq' hn hg hp hT
def s9 {u:Upd} (hT:Reg P E nt ops L (st.after o.dst none [(u.id,some u.ob)]) fun T sf=>K (⟨i,⟨0,false,true, .tup [],[u.id],[],u.ob.ids⟩,looks st.den o,bg st.den o.dst [(u.id,some u.ob)],en E st.den o⟩ :: T) sf) (hi:ops[i]? = some o:=by exact rfl) (hw:ap ops st.den o = some gb:=by exact rfl) (hd:ct nt o.dst = true:=by exact rfl) (hq':hs E st.den.o (ev st.den) o.op = some u:=by exact rfl) (hg:gb = true:=by exact rfl) (hp:u.pre:=by first | exact b5d rfl | (try dsimp only) <;> ((repeat' apply And.intro) <;> first | trivial | rfl | omega | (simp only [gp,bo];omega) | assumption | exact b5d rfl)):Reg P E nt ops (i :: L) st K:=adz hi hw hd hq' hg hp hT
variable {p:Prop}
def f9 {rs:List ResultVar} {res:List PC} {q:Prop} {l:List HC} {vs:List PC} (h1:va E st.den rs = some (p,l)) (h2:lw st.den.o l = some (q,vs)) (hc:CoL vs res) (hp:p:=by (repeat' apply And.intro) <;> first | trivial | exact b5d rfl | rfl) (hq:q:=by (repeat' apply And.intro) <;> first | trivial | exact b5d rfl | rfl):a6u E st rs res:=⟨p,l,q,vs,h1,hp,h2,hq,hc⟩
def c9 {f:Option HR} {x:HR} (h:f = some x:=by exact rfl):∃ y,f = some y /\ CoR y x:=⟨x,h,CoR.refl x⟩
def u9 {f:Option a6} {x:a6} (h:f = some x:=by exact rfl):∃ y,f = some y /\ CoO y x:=⟨x,h,CoO.refl x⟩
def b8p (h:p:=by simp_all):p:=h
def zy {f:Option HR} {x y:HR} (h:f = some y:=by exact rfl) (c:CoR y x:=by first | exact CoR.refl _ | exact coi b8i | exact cob b8p):∃ y,f = some y /\ CoR y x:=⟨y,h,c⟩
def l9 {a b:Nat} (h:Nat.ble a b = true:=by exact rfl):a <= b:=b5d h
def qcx {cl:Call} {f:FuncId} {fst caps args vs:List PC} {b:Bool} {res:PR} (hf:goodFn P f) (hpure:a8 P f args res) (hT:Reg P E nt ops L (st.after o.dst (some res.toH) []) fun T sf=>K (⟨i,⟨0,false,true,res,[],[],[]⟩,looks st.den o,bg st.den o.dst [],none⟩ :: T) sf) (hi:ops[i]? = some o:=by exact rfl) (hw:ap ops st.den o = some gb:=by exact rfl) (hd:ct nt o.dst = true:=by exact rfl) (ho:o.op = .call cl:=by exact rfl) (hc:callee (ev st.den) cl = some (f,fst,caps):=by exact rfl) (hv:gr st.den.o (ev st.den) cl.args.toList = some (p,vs,b):=by exact rfl) (hco:CoL (fst ++ (vs ++ caps)) args:=by exact CoL.refl _) (hb:(!b || res.flat) = true:=by exact rfl) (hg:gb = true:=by exact rfl) (hp:p:=by (try dsimp only) <;> ((repeat' apply And.intro) <;> first | trivial | rfl | omega | assumption)):Reg P E nt ops (i :: L) st K:=ah6 hi hw hd ho hc hv hf hpure hco hg hp hb hT
def wgx {f : FuncId} {fn : Func} (h : P.funcs[f]? = some fn) (h1 : (fn.name == "runtime.NumGoroutine") = false := by kernel_rfl) (h2 : fn.body.isNone = false := by kernel_rfl) : goodFn P f := ⟨fn, h, h1, h2⟩
def axg [Decidable p] (h:decide p = true):p:=of_decide_eq_true h
def avj [Decidable p] (h:decide p = false):¬ p:=of_decide_eq_false h
def ty {n:Nat}:((n:Nat):Int).toNat = n:=b5t n
end
end
def gy {ro:Option Nat} {nt id:Nat} {ops:Array Oper} {st:HSt} {Q:Exit -> HSt -> Prop} (h:Reg b98 rh nt ops (List.range ops.size) st fun _ sf=>Q .normal sf):HW (ro:=ro) b98 nt (.region id ops false) st Q:=a9w s8 h
end Go.Hx
namespace Go.Hx
open Go.Proofs
section
variable {Q:Exit -> HSt -> Prop}
def sx7 {ro:Option Nat} {nt id:Nat} {ops:Array Oper} {st:HSt} {y:Code} (h:Reg b98 rh nt ops (List.range ops.size) st fun _ sf=>awc (ro:=ro) b98 nt y Q .normal sf):HW (ro:=ro) b98 nt (.seq (.region id ops false) y) st Q:=cu (a9w s8 h)
def hx8 {ro:Option Nat} {P:Program} {E:Env} {nt:Nat} {st:HSt} {rs:List ResultVar} {res:List PC} {p q:Prop} {l:List HC} {vs:List PC} (hQ:Q .ret st = ((Exit.ret = .normal \/ Exit.ret = .ret) /\ a6u E st rs res)) (h1:va E st.den rs = some (p,l)) (h2:lw st.den.o l = some (q,vs)) (hc:CoL vs res) (hp:p:=by (repeat' apply And.intro) <;> first | trivial | exact b5d rfl | rfl) (hq:q:=by (repeat' apply And.intro) <;> first | trivial | exact b5d rfl | rfl):HW (ro:=ro) P nt .ret st Q:=a6a (hQ ▸ ⟨.inr rfl,p,l,q,vs,h1,hp,h2,hq,hc⟩)
end
end Go.Hx
namespace Go.Hx
open Go.Proofs
def tz1 {p q:Prop} {d:Decidable p} (h:decide p = true) (e:p = q:=by first | (simp only [ty];done) | (simp only [ty];exact rfl) | exact rfl):q:=e ▸ of_decide_eq_true h
def tz2 {p q:Prop} {d:Decidable p} (h:decide p = false) (e:(¬ p) = q:=by first | (simp only [ty];done) | (simp only [ty];exact rfl) | exact rfl):q:=e ▸ of_decide_eq_false h
section
variable {ro:Option Nat} {P:Program} {nt:Nat} {st:HSt} {Q:Exit -> HSt -> Prop} {c:Operand} {x y:Code} {p q q':Prop} {d:Decidable p}
def hcd (ht:q -> HW (ro:=ro) P nt x st Q) (hf:q' -> HW (ro:=ro) P nt y st Q) (hc:ev st.den c = some (.v (.one (.p (.raw (.bool (@decide p d)))))):=by exact rfl) (e:p = q:=by first | (simp only [ty];done) | (simp only [ty];exact rfl) | exact rfl) (e':(¬ p) = q':=by first | (simp only [ty];done) | (simp only [ty];exact rfl) | exact rfl):HW (ro:=ro) P nt (.cond c x y) st Q :=
 ag _ hc (fun h=>ht (e ▸ of_decide_eq_true h)) (fun h=>hf (e' ▸ of_decide_eq_false h))
def hcn (ht:q' -> HW (ro:=ro) P nt x st Q) (hf:q -> HW (ro:=ro) P nt y st Q) (hc:ev st.den c = some (.v (.one (.p (.raw (.bool (!(@decide p d))))))):=by exact rfl) (e:p = q:=by first | (simp only [ty];done) | (simp only [ty];exact rfl) | exact rfl) (e':(¬ p) = q':=by first | (simp only [ty];done) | (simp only [ty];exact rfl) | exact rfl):HW (ro:=ro) P nt (.cond c x y) st Q :=
 ag _ hc (fun h=>ht (e' ▸ of_decide_eq_false (d6 h))) (fun h=>hf (e ▸ of_decide_eq_true (d5 h)))
def hcb {b:Bool} (ht:b = true -> HW (ro:=ro) P nt x st Q) (hf:b = false -> HW (ro:=ro) P nt y st Q) (hc:ev st.den c = some (.v (.one (.p (.raw (.bool b))))):=by exact rfl):HW (ro:=ro) P nt (.cond c x y) st Q:=ag _ hc ht hf
def hcv {b:Bool} (ht:b = false -> HW (ro:=ro) P nt x st Q) (hf:b = true -> HW (ro:=ro) P nt y st Q) (hc:ev st.den c = some (.v (.one (.p (.raw (.bool (!b)))))):=by exact rfl):HW (ro:=ro) P nt (.cond c x y) st Q :=
 ag _ hc (fun h=>ht (d6 h)) (fun h=>hf (d5 h))
def ka {x:HR} {r l:List (Nat × Option HR)} (d:Nat) (h:mo r l) (e:bc l d = some x:=by exact rfl):mo ((d,some x) :: r) l:=⟨⟨x,e,CoR.refl x⟩,h⟩
section
variable {l:List (Nat × Option a6)}
def kb {x:a6} {r:List (Nat × Option a6)} (d:Nat) (h:ny r l) (e:bc l d = some x:=by exact rfl):ny ((d,some x) :: r) l:=⟨⟨x,e,CoO.refl x⟩,h⟩
def kn {l:List (Nat × Option HR)}:mo [] l:=trivial
def km:ny [] l:=trivial
variable {ko:List (Nat × Option a6)} {kt:List (Nat × Option HR)} {ι:Type}
def af {body:Code} (hT:mo kt st.t) (hO:ny ko st.o) (J:ι -> HSt) (p:ι -> Prop) (μ:ι -> Nat) (i0:ι) (h0:p i0) (hs:Sub (J i0) st) (round:∀ i,p i -> HW (ro:=ro) P nt body ((J i).app ⟨kt,ko⟩) (aay (fun i=>(J i).app ⟨kt,ko⟩) p μ i Q)):HW (ro:=ro) P nt (.loop body) st Q:=aej ⟨kt,ko⟩ ⟨hT,hO⟩ J p μ i0 h0 hs round
def bt {x y:Code} (hT:mo kt st.t) (hO:ny ko st.o) (J:ι -> HSt) (p:ι -> Prop) (h1:HW (ro:=ro) P nt x st (aq8 (fun i=>(J i).app ⟨kt,ko⟩) p Q)) (h2:∀ i,p i -> HW (ro:=ro) P nt y ((J i).app ⟨kt,ko⟩) Q):HW (ro:=ro) P nt (.seq x y) st Q:=af3 ⟨kt,ko⟩ ⟨hT,hO⟩ J p h1 h2
def tt {p:Prop} (h:p:=by repeat (first | exact trivial | refine ⟨⟨_,rfl,CoR.refl _⟩, ?_⟩ | refine ⟨⟨_,rfl,(by first | exact CoR.refl _ | exact coi b8i | exact cob b8p)⟩, ?_⟩)):p:=h
def uu {p:Prop} (h:p:=by repeat (first | exact trivial | refine ⟨⟨_,rfl,CoO.refl _⟩, ?_⟩)):p:=h
def kk {a b:HSt} (h:mo a.t b.t:=by exact tt) (h2:ny a.o b.o:=by exact uu):Sub a b:=⟨h,h2⟩
def cj {body:Code} (hT:mo kt st.t) (hO:ny ko st.o) (J:Nat -> HSt) (N:Nat) (hs:Sub (J 0) st) (round:∀ i,i <= N -> HW (ro:=ro) P nt body ((J i).app ⟨kt,ko⟩) (aay (fun i=>(J i).app ⟨kt,ko⟩) (fun i=>i <= N) (fun i=>N - i) i Q)):HW (ro:=ro) P nt (.loop body) st Q:=aej ⟨kt,ko⟩ ⟨hT,hO⟩ J (fun i=>i <= N) (fun i=>N - i) 0 (b5h _) hs round
def b19 (S:HSt) (Q:Exit -> HSt -> Prop):Exit -> HSt -> Prop
 | .normal,st=>Sub S st
 | e,st=>Q e st
def aas {x y:Code} (hT:mo kt st.t) (hO:ny ko st.o) (J:HSt) (h1:HW (ro:=ro) P nt x st (b19 (J.app ⟨kt,ko⟩) Q)) (h2:HW (ro:=ro) P nt y (J.app ⟨kt,ko⟩) Q):HW (ro:=ro) P nt (.seq x y) st Q :=
 af3 (ι:=Unit) ⟨kt,ko⟩ ⟨hT,hO⟩ (fun _=>J) (fun _=>True) (agm h1 fun e st' h=>by cases e <;> first | exact ⟨(),trivial,h⟩ | exact h) fun _ _=>h2
def hcT (h:HW (ro:=ro) P nt x st Q) (hc:ev st.den c = some (.v (.one (.p (.raw (.bool true))))):=by exact rfl):HW (ro:=ro) P nt (.cond c x y) st Q:=ag _ hc (fun _=>h) (fun e=>Bool.noConfusion e)
def hcF (h:HW (ro:=ro) P nt y st Q) (hc:ev st.den c = some (.v (.one (.p (.raw (.bool false))))):=by exact rfl):HW (ro:=ro) P nt (.cond c x y) st Q:=ag _ hc (fun e=>Bool.noConfusion e) (fun _=>h)
def hrr {X:Prop} (h:X) (hQ:Q .ret st = ((Exit.ret = .normal \/ Exit.ret = .ret) /\ X):=by exact rfl):HW (ro:=ro) P nt .ret st Q:=a6a (hQ ▸ ⟨.inr rfl,h⟩)
def hxr {E:Env} {rs:List ResultVar} {res:List PC} {p q:Prop} {l:List HC} {vs:List PC} (hc:CoL vs res) (hQ:Q .ret st = ((Exit.ret = .normal \/ Exit.ret = .ret) /\ a6u E st rs res):=by exact rfl) (h1:va E st.den rs = some (p,l):=by exact rfl) (h2:lw st.den.o l = some (q,vs):=by exact rfl)
 (hp:p:=by (repeat' apply And.intro) <;> first | trivial | exact b5d rfl | rfl) (hq:q:=by (repeat' apply And.intro) <;> first | trivial | exact b5d rfl | rfl):HW (ro:=ro) P nt .ret st Q:=a6a (hQ ▸ ⟨.inr rfl,p,l,q,vs,h1,hp,h2,hq,hc⟩)
def kd {a b:Prop} (h:b) (k:a:=by kernel_rfl):a /\ b:=⟨k,h⟩
def lpz {I:ι -> HSt} {pp:ι -> Prop} {μ:ι -> Nat} {k:Nat} (i':ι) (hs:Sub (I i') st) (hp:pp i') (hm:μ i' < k:=by first | omega | (dsimp only;omega)):∃ i',pp i' /\ μ i' < k /\ Sub (I i') st:=⟨i',hp,hm,hs⟩
def lpx {I:ι -> HSt} {pp:ι -> Prop} {μ:ι -> Nat} {k:Nat} (i':ι) (hs:Sub (I i') st) (hp:pp i':=by first | trivial | (show _ + 1 <= _;omega)) (hm:μ i' < k:=by first | omega | (dsimp only;omega)):∃ i',pp i' /\ μ i' < k /\ Sub (I i') st:=⟨i',hp,hm,hs⟩
end
end
def hpx {nt:Nat} {f:FuncId} {fn:Func} {body:Code} {args res:List PC} (hf:b98.funcs[f]? = some fn) (h:HW (ro:=none) b98 nt body ⟨ym 0 args,[]⟩ fun e st=>(e = .normal \/ e = .ret) /\ a6u rh st fn.results.toList res) (hb:fn.body = some body:=by exact rfl) (hn:fn.ntmps = nt:=by exact rfl) (hl:args.length <= nt:=by exact b5d rfl):a8 b98 f args (ae res):=anf s8 hf hb hn hl h
def hfx {nt:Nat} {f:FuncId} {fn:Func} {body:Code} {args:List HC} {o1 o2:List (Nat × a6)} {res:HR} {fx:List Nat} (hf:b98.funcs[f]? = some fn) (h:HW (ro:=none) b98 nt body ⟨vv 0 args,a2m o1⟩ fun e st=>(e = .normal \/ e = .ret) /\ aw8 rh st fn.results.toList res o2) (hb:fn.body = some body:=by exact rfl) (hn:fn.ntmps = nt:=by exact rfl) (hl:args.length <= nt:=by exact b5d rfl) (hx:fx.all (Nat.ble 1000) = true:=by exact rfl):cq b98 f args o1 res o2 fx:=atg s8 hf hb hn hl hx h
def gd {ro:Option Nat} {nt id:Nat} {ops:Array Oper} {st:HSt} {Q:Exit -> HSt -> Prop} (h:Reg b98 rh nt ops (List.range ops.size) st fun T sf=>a5y ops T = true /\ Q .normal sf):HW (ro:=ro) b98 nt (.region id ops true) st Q:=ahc s8 a9a _ h
section
variable {P:Program} {E:Env} {nt:Nat} {ops:Array Oper} {i:Nat} {o:Oper} {st:HSt} {L:List Nat} {K:List Tr -> HSt -> Prop}
def r9 (id:Nat) (wb:Bool) {u:App} {gb:Bool} (hT:Reg P E nt ops L (st.after o.dst (some u.val) [(u.id,some u.ob)]) fun T sf=>K (⟨i,⟨id,wb,true, .tup [],[u.id],if u.new then [id] else [],u.val.ids ++ u.ob.ids⟩,looks st.den o,bg st.den o.dst [(u.id,some u.ob)],none⟩ :: T) sf)
 (hi:ops[i]? = some o:=by exact rfl) (hw:ap ops st.den o = some gb:=by exact rfl) (hd:ct nt o.dst = true:=by exact rfl) (hq':hap E st.den.o (ev st.den) id wb o.op = some u:=by exact rfl) (hn:(!u.new || po id st) = true:=by exact rfl) (hg:gb = true:=by exact rfl)
 (hp:u.pre:=by (try dsimp only) <;> ((repeat' apply And.intro) <;> first | trivial | rfl | assumption | omega | (simp only [b5t];omega) | (simp only [gp,bo];omega) | exact Or.inl rfl | exact Or.inr rfl | exact (fun _=>Or.inl rfl) | exact (fun _=>Or.inr (b5d rfl)) | exact b5d rfl | (intro h;cases h;done))):Reg P E nt ops (i :: L) st K:=se id wb hi hw hd hq' hn hg hp hT
def fc9 {cl:Call} {f:FuncId} {caps hcs:List HC} {args:List HC} {o1 o2:List (Nat × a6)} {res:HR} {fx:List Nat} {gb:Bool} (hf:goodFn P f) (hfun:cq P f args o1 res o2 fx) (hsub:acn o1 st.den.o)
 (hT:Reg P E nt ops L (st.after o.dst (some res) (uy o1 o2)) fun T sf=>K (⟨i,⟨0,false,true, .tup [],cn o1 ++ cn o2,abz o1 o2 fx,res.ids ++ a4c o2⟩,looks st.den o,bg st.den o.dst (uy o1 o2),none⟩ :: T) sf)
 (hi:ops[i]? = some o:=by exact rfl) (hw:ap ops st.den o = some gb:=by exact rfl) (hd:ct nt o.dst = true:=by exact rfl) (ho:o.op = .call cl:=by exact rfl) (hc:qr (ev st.den) cl = some (f,caps):=by exact rfl) (hv:n9 (ev st.den) cl.args.toList = some hcs:=by exact rfl) (hco:p9 (hcs ++ caps) args:=by exact p9.refl _) (hB:fcB o1 o2 res fx st = true:=by exact rfl) (hg:gb = true:=by exact rfl):Reg P E nt ops (i :: L) st K:=ji hi hw hd ho hc hv hf hfun hco hsub hB hg hT
end
end Go.Hx
end
section
namespace Go.Hx
structure Hq (Q:Prop):Prop where
 v:Q
section
variable {P Q:Prop}
def w_1 (hQ:Q) (h:Hq Q -> P:=by intro h;(first | refine qy ?_ | refine bq ?_ | refine cu ?_ | refine gy ?_ | refine s9 ?_ | refine gd ?_ | refine kd ?_ | refine hcT ?_ | refine hcF ?_ | refine cz ?_ | refine a6a ?_ | refine a4b ?_ | refine br ?_);exact h.v):P:=h ⟨hQ⟩
def w_2 (hQ:Q) (h:Hq Q -> P:=by intro h;(iterate 2 refine w_1 ?_);exact h.v):P:=h ⟨hQ⟩
def w_3 (hQ:Q) (h:Hq Q -> P:=by intro h;(iterate 3 refine w_1 ?_);exact h.v):P:=h ⟨hQ⟩
def w_4 (hQ:Q) (h:Hq Q -> P:=by intro h;(iterate 4 refine w_1 ?_);exact h.v):P:=h ⟨hQ⟩
def w_5 (hQ:Q) (h:Hq Q -> P:=by intro h;(iterate 5 refine w_1 ?_);exact h.v):P:=h ⟨hQ⟩
def w_6 (hQ:Q) (h:Hq Q -> P:=by intro h;(iterate 6 refine w_1 ?_);exact h.v):P:=h ⟨hQ⟩
def w_7 (hQ:Q) (h:Hq Q -> P:=by intro h;(iterate 7 refine w_1 ?_);exact h.v):P:=h ⟨hQ⟩
def w_8 (hQ:Q) (h:Hq Q -> P:=by intro h;(iterate 8 refine w_1 ?_);exact h.v):P:=h ⟨hQ⟩
def w_9 (hQ:Q) (h:Hq Q -> P:=by intro h;(iterate 9 refine w_1 ?_);exact h.v):P:=h ⟨hQ⟩
def df (hQ:Q) (h:Hq Q -> P:=by intro h;(iterate 10 refine w_1 ?_);exact h.v):P:=h ⟨hQ⟩
def ej (hQ:Q) (h:Hq Q -> P:=by intro h;(iterate 11 refine w_1 ?_);exact h.v):P:=h ⟨hQ⟩
def o4 (hQ:Q) (h:Hq Q -> P:=by intro h;(iterate 12 refine w_1 ?_);exact h.v):P:=h ⟨hQ⟩
def m7 (hQ:Q) (h:Hq Q -> P:=by intro h;(iterate 13 refine w_1 ?_);exact h.v):P:=h ⟨hQ⟩
def v6 (hQ:Q) (h:Hq Q -> P:=by intro h;(iterate 14 refine w_1 ?_);exact h.v):P:=h ⟨hQ⟩
def pl (hQ:Q) (h:Hq Q -> P:=by intro h;(iterate 15 refine w_1 ?_);exact h.v):P:=h ⟨hQ⟩
def nk (hQ:Q) (h:Hq Q -> P:=by intro h;(iterate 16 refine w_1 ?_);exact h.v):P:=h ⟨hQ⟩
def v7 (hQ:Q) (h:Hq Q -> P:=by intro h;(iterate 17 refine w_1 ?_);exact h.v):P:=h ⟨hQ⟩
def ave (hQ:Q) (h:Hq Q -> P:=by intro h;(iterate 18 refine w_1 ?_);exact h.v):P:=h ⟨hQ⟩
def a7t (hQ:Q) (h:Hq Q -> P:=by intro h;(iterate 19 refine w_1 ?_);exact h.v):P:=h ⟨hQ⟩
def ap8 (hQ:Q) (h:Hq Q -> P:=by intro h;(iterate 20 refine w_1 ?_);exact h.v):P:=h ⟨hQ⟩
def an7 (hQ:Q) (h:Hq Q -> P:=by intro h;(iterate 21 refine w_1 ?_);exact h.v):P:=h ⟨hQ⟩
def apj (hQ:Q) (h:Hq Q -> P:=by intro h;(iterate 22 refine w_1 ?_);exact h.v):P:=h ⟨hQ⟩
def aig (hQ:Q) (h:Hq Q -> P:=by intro h;(iterate 23 refine w_1 ?_);exact h.v):P:=h ⟨hQ⟩
def ax9 (hQ:Q) (h:Hq Q -> P:=by intro h;(iterate 24 refine w_1 ?_);exact h.v):P:=h ⟨hQ⟩
def b23 (hQ:Q) (h:Hq Q -> P:=by intro h;(iterate 26 refine w_1 ?_);exact h.v):P:=h ⟨hQ⟩
def ang (hQ:Q) (h:Hq Q -> P:=by intro h;(iterate 29 refine w_1 ?_);exact h.v):P:=h ⟨hQ⟩
def b0y (hQ:Q) (h:Hq Q -> P:=by intro h;(iterate 30 refine w_1 ?_);exact h.v):P:=h ⟨hQ⟩
def aip (hQ:Q) (h:Hq Q -> P:=by intro h;(iterate 32 refine w_1 ?_);exact h.v):P:=h ⟨hQ⟩
end
end Go.Hx
end
section
namespace Go.Hx
theorem v_2 {P Q:Prop} (hQ:Q) (h:Hq Q -> P:=by intro h;(iterate 2 refine w_1 ?_);refine hxr ?_;exact h.v):P:=h ⟨hQ⟩
theorem v_3 {P Q:Prop} (hQ:Q) (h:Hq Q -> P:=by intro h;(iterate 3 refine w_1 ?_);refine hxr ?_;exact h.v):P:=h ⟨hQ⟩
theorem v_4 {P Q:Prop} (hQ:Q) (h:Hq Q -> P:=by intro h;(iterate 4 refine w_1 ?_);refine hxr ?_;exact h.v):P:=h ⟨hQ⟩
theorem v_5 {P Q:Prop} (hQ:Q) (h:Hq Q -> P:=by intro h;(iterate 5 refine w_1 ?_);refine hxr ?_;exact h.v):P:=h ⟨hQ⟩
theorem v_6 {P Q:Prop} (hQ:Q) (h:Hq Q -> P:=by intro h;(iterate 6 refine w_1 ?_);refine hxr ?_;exact h.v):P:=h ⟨hQ⟩
theorem v_7 {P Q:Prop} (hQ:Q) (h:Hq Q -> P:=by intro h;(iterate 7 refine w_1 ?_);refine hxr ?_;exact h.v):P:=h ⟨hQ⟩
theorem v_8 {P Q:Prop} (hQ:Q) (h:Hq Q -> P:=by intro h;(iterate 8 refine w_1 ?_);refine hxr ?_;exact h.v):P:=h ⟨hQ⟩
theorem v_9 {P Q:Prop} (hQ:Q) (h:Hq Q -> P:=by intro h;(iterate 9 refine w_1 ?_);refine hxr ?_;exact h.v):P:=h ⟨hQ⟩
end Go.Hx
end
namespace Go.Hx
section
open Go.Proofs Go.Lib Go.RowKit
def b51 (k:Nat) (xs vs:List Value):List Value:=xs.take k ++ vs ++ xs.drop k
structure b2q (w w':World) (T s:Nat) (own v:Value) (n:Nat) (xs:List Value):Prop where
 row:w'.ownsRow 0 T s v (n + 1) xs
 bl:Below 0 w w'
 out:∀ g,g < w.heap.size -> cg own ≠ some g -> w'.heap[g]? = w.heap[g]?
 at_:∀ g,cg v = some g -> w.heap.size <= g \/ cg own = some g
def b4a (i:Nat) (F G:Nat -> Nat -> PV):Nat -> Nat -> PV:=fun k j=>if k < i then F k j else if k = i then G 0 j else F (k - 1) j
def n7 {id q:Nat} {x ob:a6} (h:lk [(q,x)] id = some ob):id = q /\ ob = x:=by
 simp only [lk] at h;by_cases hk:q = id
 · subst hk
   simp at h;exact ⟨rfl,h.symm⟩
 have:Nat.beq q id = false:=by
  rw [b5m];exact fun hb=>hk (b62 hb)
 rw [this] at h;cases h
structure b4h (c:Ctx) (w w':World) (T s a:Nat) (v:Value) (n:Nat) (ys:List Value):Prop where
 row:w'.ownsRow 0 T s v (n + 1) ys
 bl:Below 0 w w'
 out:∀ g,g < w.heap.size -> ¬ c.blk a g -> w'.heap[g]? = w.heap[g]?
 at_:∀ g,cg v = some g -> w.heap.size <= g \/ c.blk a g
def HE (nt:Nat) (st:HSt) (Q:HSt -> Prop):Prop:=∀ w0 m0 a w,Rel w0 m0 nt st.den a w -> ∃ st':HSt,Q st' /\ Rel w0 m0 nt st'.den a w
def asq {nt:Nat} {st:HSt} {Q:HSt -> Prop} (h:Q st):HE nt st Q:=fun _ _ _ _ hr=>⟨st,h,hr⟩
end
end Go.Hx
