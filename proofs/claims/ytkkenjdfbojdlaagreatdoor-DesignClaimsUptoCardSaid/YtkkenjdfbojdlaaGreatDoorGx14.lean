/- A part of the proof: Hx18. -/
import Derived.Test.YtkkenjdfbojdlaaGreatDoorGx13
set_option linter.all false
namespace Go.Hx
section
open Go.RowKit
section
variable {ro:Option Nat} {P:Program} {E:Env} {nt:Nat} {ops:Array Oper} {i:Nat} {o:Oper} {st:HSt} {T:List Tr} {sf:S} {L:List Nat} {K:List Tr -> HSt -> Prop}
theorem atk (b:ByteArray) (i:Nat):0 <= kx b i /\ kx b i <= 255:=by
 unfold kx;have:=(b.data.toList.getD i 0).toNat_lt;omega
theorem aks (b:ByteArray) (i:Nat):(gr true .i64 (kx b i)).1:=by
 have:=atk b i;simp only [gr,inR,mb,nb];omega
section
variable {gb:Bool}
theorem rq {out:Out} (hi:ops[i]? = some o) (hw:b4 ops st.den o = some gb) (hd:dl nt o.dst = true) (hq':hq E true st.den.o (ev st.den) o.op = some out) (hg:gb = true) (hT:Reg P E nt ops L (st.after o.dst (some out.val) []) fun T sf=>K (⟨i,aal true out.val.ids,looks st.den o,cn st.den o.dst [],fv E st.den o⟩ :: T) sf) (hp:out.pre:=by first | exact trivial | (simp only [gr,inR,mb,nb];omega) | exact aks _ _ | exact ⟨trivial,trivial⟩ | exact ⟨trivial,bkm rfl⟩ | (try dsimp only) <;> ((repeat' apply And.intro) <;> first | trivial | rfl | omega | (simp only [ek,be];omega) | assumption | exact bkm rfl)):
 Reg P E nt ops (i :: L) st K:=du true hi hw hd hq' hg hp hT
theorem rqw {out:Out} (hi:ops[i]? = some o) (hw:b4 ops st.den o = some gb) (hd:dl nt o.dst = true) (hq':hq E false st.den.o (ev st.den) o.op = some out) (hg:gb = true) (hT:Reg P E nt ops L (st.after o.dst (some out.val) []) fun T sf=>K (⟨i,aal false out.val.ids,looks st.den o,cn st.den o.dst [],fv E st.den o⟩ :: T) sf) (hp:out.pre:=by first | exact trivial | (simp only [gr,inR,mb,nb];omega) | exact aks _ _ | exact ⟨trivial,trivial⟩ | exact ⟨trivial,bkm rfl⟩ | (try dsimp only) <;> ((repeat' apply And.intro) <;> first | trivial | rfl | omega | (simp only [ek,be];omega) | assumption | exact bkm rfl)):
 Reg P E nt ops (i :: L) st K:=du false hi hw hd hq' hg hp hT
theorem rm (id:Nat) {nw:New} (hi:ops[i]? = some o) (hw:b4 ops st.den o = some gb) (hd:dl nt o.dst = true) (hq':ha E (ev st.den) id o.op = some nw) (hn:sb id st = true) (hg:gb = true) (hT:Reg P E nt ops L (st.after o.dst (some nw.val) [(id,some nw.ob)]) fun T sf=>K (⟨i,⟨id,false,true, .tup [],[id],[id],nw.val.ids ++ nw.ob.ids⟩,looks st.den o,cn st.den o.dst [(id,some nw.ob)],none⟩ :: T) sf) (hp:nw.pre:=by first | exact trivial | (try dsimp only) <;> ((repeat' apply And.intro) <;> first | trivial | rfl | omega | assumption)):Reg P E nt ops (i :: L) st K:=a1l id hi hw hd hq' hn hg hp hT
theorem rs {u:Upd} (hi:ops[i]? = some o) (hw:b4 ops st.den o = some gb) (hd:dl nt o.dst = true) (hq':hs E st.den.o (ev st.den) o.op = some u) (hg:gb = true) (hT:Reg P E nt ops L (st.after o.dst none [(u.id,some u.ob)]) fun T sf=>K (⟨i,⟨0,false,true, .tup [],[u.id],[],u.ob.ids⟩,looks st.den o,cn st.den o.dst [(u.id,some u.ob)],fv E st.den o⟩ :: T) sf) (hp:u.pre:=by first | exact bkm rfl | (try dsimp only) <;> ((repeat' apply And.intro) <;> first | trivial | rfl | omega | (simp only [ek,be];omega) | assumption | exact bkm rfl)):Reg P E nt ops (i :: L) st K:=alc hi hw hd hq' hg hp hT
theorem ra (id:Nat) (wb:Bool) {u:App} (hi:ops[i]? = some o) (hw:b4 ops st.den o = some gb) (hd:dl nt o.dst = true) (hq':hap E st.den.o (ev st.den) id wb o.op = some u) (hn:(!u.new || sb id st) = true) (hg:gb = true) (hT:Reg P E nt ops L (st.after o.dst (some u.val) [(u.id,some u.ob)]) fun T sf=>K (⟨i,⟨id,wb,true, .tup [],[u.id],if u.new then [id] else [],u.val.ids ++ u.ob.ids⟩,looks st.den o,cn st.den o.dst [(u.id,some u.ob)],none⟩ :: T) sf) (hp:u.pre:=by (try dsimp only) <;> ((repeat' apply And.intro) <;> first | trivial | rfl | assumption | omega | (simp only [bkw];omega) | (simp only [ek,be];omega) | exact Or.inl rfl | exact Or.inr rfl | exact (fun _=>Or.inl rfl) | exact (fun _=>Or.inr (bkm rfl)) | exact bkm rfl | (intro h;cases h;done))):Reg P E nt ops (i :: L) st K:=a6g id wb hi hw hd hq' hn hg hp hT
variable {b:Bool}
theorem rc {cl:Call} {f:FuncId} {fst caps args vs:List PC} {p:Prop} {res:PR} (hi:ops[i]? = some o) (hw:b4 ops st.den o = some gb) (hd:dl nt o.dst = true) (ho:o.op = .call cl) (hc:callee (ev st.den) cl = some (f,fst,caps)) (hv:jq st.den.o (ev st.den) cl.args.toList = some (p,vs,b)) (hf:goodFn P f) (hpure:a7 P f args res) (hco:CoL (fst ++ (vs ++ caps)) args) (hb:(!b || res.flat) = true) (hg:gb = true) (hT:Reg P E nt ops L (st.after o.dst (some res.toH) []) fun T sf=>K (⟨i,⟨0,false,true,res,[],[],[]⟩,looks st.den o,cn st.den o.dst [],none⟩ :: T) sf) (hp:p:=by (try dsimp only) <;> ((repeat' apply And.intro) <;> first | trivial | rfl | omega | assumption)):Reg P E nt ops (i :: L) st K:=apl hi hw hd ho hc hv hf hpure hco hg hp hb hT
theorem rv {sr ds:TypeId} {x:Operand} {b:ByteArray} (hi:ops[i]? = some o) (hw:b4 ops st.den o = some gb) (hd:dl nt o.dst = true) (ho:o.op = .convert sr ds x) (hcv:abz E (ev st.den) sr ds x = some b) (hg:gb = true) (hT:Reg P E nt ops L (st.after o.dst (some (.v (.one (.p (.sl b.size 1 false (aqf b)))))) []) fun T sf=>K (⟨i,⟨0,false,true, .tup [],[],[],[]⟩,looks st.den o,cn st.den o.dst [],none⟩ :: T) sf) (hp:b.size <= maxLen:=by first | assumption | (unfold maxLen;omega)):Reg P E nt ops (i :: L) st K:=b9l hi hw hd ho hcv hg hp hT
theorem rk (hi:ops[i]? = some o) (hw:b4 ops st.den o = some gb) (hd:dl nt o.dst = true) (hg:gb = false) (hT:Reg P E nt ops L (st.after o.dst (some (.tup [])) []) fun T sf=>K (⟨i,aal true [],looks st.den o,cn st.den o.dst [],none⟩ :: T) sf):Reg P E nt ops (i :: L) st K:=apn hi hw hd hg hT
theorem b1i {out:Out} {id:Nat} (hi:ops[i]? = some o) (hw:b4 ops st.den o = some gb) (hd:dl nt o.dst = true) (hq':xj E st.den.o (ev st.den) o.op = some (out,id)) (hg:gb = true) (hT:Reg P E nt ops L (st.after o.dst (some out.val) [(id,none)]) fun T sf=>K (⟨i,⟨0,false,true, .tup [],[id],[],[]⟩,looks st.den o,cn st.den o.dst [(id,none)],none⟩ :: T) sf) (hp:out.pre:=by (try dsimp only) <;> ((repeat' apply And.intro) <;> first | trivial | rfl | omega | (simp only [ek,be];omega) | assumption | exact bkm rfl)):Reg P E nt ops (i :: L) st K:=bbs hi hw hd hq' hg hp hT
theorem am {w:Bool} (hi:ops[i]? = some o) (hw:b4 ops st.den o = some (b == w)) (ht:b = true -> Reg P E nt ops (i :: L) st K) (hf:b = false -> Reg P E nt ops (i :: L) st K):Reg P E nt ops (i :: L) st K:=by
 cases hb:b with
 | true=>exact ht hb
 | false=>exact hf hb
theorem gtt (h:b = true):(b == true) = true:=by subst h;rfl
theorem gff (h:b = false):(b == false) = true:=by subst h;rfl
theorem gtf (h:b = true):(b == false) = false:=by subst h;rfl
theorem gft (h:b = false):(b == true) = false:=by subst h;rfl
end
end
theorem a7.eat {P:Program} {f:FuncId} {args:List PC} {res:PR} {hcs:List HC} {o1:List (Nat × af)} {q:Prop} {vs:List PC} (h:a7 P f args res) (hv:qp (lk o1) hcs = some (q,vs)) (hq:q) (hco:CoL vs args):da P f hcs o1 res.toH [] []:=by
 classical
 intro w c us hm hargs
 let own:Nat -> Prop:=fun b=>∃ id ob,lk o1 id = some ob /\ c.blk id b
 let frm:Imm:=fun b=>if own b then none else w.heap[b]?
 let c2:Ctx:={ old:=(c.imm,frm,c.own,lk o1,c.rows),imm:=c.imm,tab:=c.tab,own:=c.own,blk:=c.blk,rows:=c.rows }
 have hrel:ak w 0 c2 ⟨fun _=>none,lk o1⟩ { tmps:=#[],defers:=[] } w:=by
  refine ⟨pn.nil _ _ _ _,rfl,Below.refl _ _,(fun d x hx=>by cases hx),fun id ob ho=>?_,hm.inj,hm.imm,hm.sep,fun b _=>rfl,fun b ob hbo=>?_,fun id ob b ho hbb=>?_,fun id _=>Evo.of_same rfl rfl⟩
  · exact (hm.objs id ob ho).keep (Imm.le.refl c.imm) rfl rfl (fun _ _=>Evo.of_same rfl rfl) fun _ _=>rfl
  · have hbo:frm b = some ob:=hbo
    simp only [frm] at hbo;split at hbo
    · cases hbo
    exact hbo
  show frm b = none;simp only [frm];rw [if_pos ⟨id,ob,ho,hbb⟩]
 let m:Imm:=fun b=>if own b then w.heap[b]? else c.imm b
 have hseen:z8 w c2 w m:=by
  refine ⟨fun b ob hbo=>?_,fun b hb' hlt=>?_⟩
  · have hbo:c.imm b = some ob:=hbo
    have:¬ own b:=fun ⟨id,ob2,h1,h2⟩=>by rw [hm.sep id ob2 b h1 h2] at hbo;cases hbo
    simp only [m,this,if_false];exact hbo
  have hb':frm b = none:=hb';by_cases ho:own b
  · simp [m,ho]
  simp only [frm,ho,if_false] at hb';have:¬ b < w.heap.size:=fun hlt=>by simp [hlt] at hb'
  exact absurd hlt this
 have hrep:c5 c2 (lk o1) hcs us:=c5.evo (c:=c) (c':=c2) (o:=lk o1) (o':=lk o1) (Imm.le.refl c.imm) (fun _ _=>Evo.of_same rfl rfl) hargs;have hview:=CoL.sound hco (pf hrel hseen hrep hv hq)
 have hmm:∀ b ob,m b = some ob -> w.heap[b]? = some ob:=fun b ob hbo=>by
  simp only [m] at hbo;split at hbo
  · exact hbo
  exact hm.imm b ob hbo
 have hlem:Imm.le c.imm m:=fun b ob hb=>by
  by_cases hb':own b
  · obtain ⟨id,ob2,h1,h2⟩:=hb'
    rw [hm.sep id ob2 b h1 h2] at hb;cases hb
  simp only [m,hb',if_false];exact hb
 refine (h w m us (c.tab.mono hlem) hmm hview).mono ?_;rintro e w' ⟨v,imm',rfl,h1,h2,h3,h4⟩;refine ⟨v,{ old:=c.old,imm:=imm',tab:=(c.tab.mono hlem).mono (fun b ob hb=>by rw [h2 b (bkn.1 (hmm b ob hb)).1];exact hb),own:=c.own,blk:=c.blk,rows:=c.rows },rfl,ap.of_P h1,⟨(fun id ob ho=>by cases ho),(fun i i' ob ob' b ho=>by cases ho),h3,(fun id ob b ho=>by cases ho)⟩,h4.mono (bkl _),fun b hb hno=>?_,(fun id ob b ho=>by cases ho),fun id hid=>by cases hid⟩;have hnb:¬ own b:=fun ⟨id,ob2,h1,h2⟩=>hno id ob2 h1 h2;exact ⟨h4.block b hb,by show imm' b = _;rw [h2 b hb];simp [m,hnb]⟩
section
variable {b v x y:Bool}
theorem au (h:b = false) (e:(bif b then x else y) = v):y = v:=by subst h;exact e
theorem bp (h:b = true) (e:(bif b then x else y) = v):x = v:=by subst h;exact e
theorem zf (h:b = false) (e:y = v):(bif b then x else y) = v:=by subst h;exact e
theorem dg (h:b = true) (e:x = v):(bif b then x else y) = v:=by subst h;exact e
theorem d6 (e:(!x) = true):x = false:=by simpa using e
theorem d5 (e:(!x) = false):x = true:=by simpa using e
theorem coi {k:IntKind} {a b:Int} (h:a = b):CoR (bn (.raw (.int k a))) (bn (.raw (.int k b))):=CoR.of_eq (by rw [h])
theorem cob {a:Bool} (h:a = b):CoR (bn (.raw (.bool a))) (bn (.raw (.bool b))):=CoR.of_eq (by rw [h])
theorem CoC.of_eq {x y:PC} (h:x = y):CoC x y:=h ▸ CoC.refl x
theorem CoL.of_eq {x y:List PC} (h:x = y):CoL x y:=h ▸ CoL.refl x
theorem cci {k:IntKind} {a b:Int} (h:a = b):CoC (.one (.raw (.int k a))) (.one (.raw (.int k b))):=CoC.of_eq (by rw [h])
theorem ccb {a:Bool} (h:a = b):CoC (.one (.raw (.bool a))) (.one (.raw (.bool b))):=CoC.of_eq (by rw [h])
theorem CoC.one {x y:PV} (h:CoP x y):CoC (.one x) (.one y):=h
def a58:List PV -> List PV -> Prop
 | [],[]=>True
 | x :: xs,y :: ys=>CoP x y /\ a58 xs ys
 | _,_=>False
theorem a58.refl:∀ (l:List PV),a58 l l
 | []=>trivial
 | x :: l=>⟨CoP.refl x,a58.refl l⟩
theorem a58.sound {m:Imm}:∀ {xs ys:List PV} {us:List Value},a58 xs ys -> eq m xs us -> eq m ys us
 | [],[],[],_,_=>trivial
 | _ :: _,_ :: _,_ :: _,h,k=>⟨h.1 _ _ k.1,a58.sound h.2 k.2⟩
 | [],_ :: _,_,h,_=>h.elim
 | _ :: _,[],_,h,_=>h.elim
 | [],[],_ :: _,_,h=>h.elim
 | _ :: _,_ :: _,[],_,h=>h.elim
theorem CoC.agg {l l':List PV} (h:a58 l l'):CoC (.agg l) (.agg l'):=by
 rintro m u ⟨us,e,hl⟩;exact ⟨us,e,h.sound hl⟩
def lf {α:Type} [Inhabited α] (c:α -> Nat -> PV) (l:List α):Nat -> Nat -> PV:=fun i j=>c (l.getD i default) j
def psl {α:Type} [Inhabited α] (s:Nat) (c:α -> Nat -> PV) (l:List α):PV:=.sl l.length s false (lf c l)
variable {k s:Nat} {α:Type} {c:α -> Nat -> PV} {l:List α}
theorem aol [Inhabited α] {cl:Bool} (hk:k <= l.length):CoP (.sl k s cl (lf c l)) (psl s c (l.take k)):=by
 refine CoP.sl (by simp [hk]) (.inl rfl) (fun h=>by cases h) fun i j hi hj=>CoP.of_eq ?_;simp only [lf,List.getD,blp,hi,if_true]
theorem b7n [Inhabited α] {cl:Bool}:CoP (.sl (l.length - k) s cl (fun i j=>lf c l (k + i) j)) (psl s c (l.drop k)):=by
 refine CoP.sl bow (.inl rfl) (fun h=>by cases h) fun i j hi hj=>CoP.of_eq ?_;simp only [lf,List.getD,bmy]
variable {wr':Bool}
theorem aw7 [Inhabited α] {wr:Bool} {e:TypeId} {m:Nat} {g:Nat -> Nat -> PV} (l':List α) (hw:wr' = true -> wr = true) (hm:m = l'.length) (hg:∀ i j,i < l'.length -> j < s -> CoP (g i j) (lf c l' i j)):
 CoO (.arr wr s e (l.length + m) (fh l.length (lf c l) g)) (.arr wr' s e (l ++ l').length (lf c (l ++ l'))):=by
 subst hm;refine ⟨hw,rfl,rfl,by simp,fun i j hi hj=>?_⟩;unfold fh;by_cases h:i < l.length
 · rw [if_pos h]
   refine CoP.of_eq ?_;simp only [lf,List.getD,bmd h]
 rw [if_neg h];have:=hg (i - l.length) j bos hj;have e:lf c (l ++ l') i j = lf c l' (i - l.length) j:=by simp only [lf,List.getD,bmb (bo9 h)]
 rw [e];exact this
theorem po [Inhabited α] {wr:Bool} {i:Nat} {e:TypeId} {g:Nat -> Nat -> PV} (hw:wr' = true -> wr = true) (hg:∀ j,j < s -> CoP (g 0 j) (lf c l i j)):
 CoO (.arr wr s e (i + 1) (fh i (lf c l) g)) (.arr wr' s e (i + 1) (lf c l)):=by
 refine ⟨hw,rfl,rfl,rfl,fun a j ha hj=>?_⟩;unfold fh;by_cases h:a < i
 · rw [if_pos h];exact CoP.refl _
 obtain rfl:a = i:=by omega
 rw [if_neg h,Nat.sub_self];exact hg j hj
theorem axg {s':Nat} {cl:Bool} {f f':Nat -> Nat -> PV}:CoP (.sl 0 s cl f) (.sl 0 s' false f'):=CoP.sl rfl (.inr rfl) (fun h=>by cases h) fun i j hi _=>absurd hi (bkp i)
theorem aff [Inhabited α] {i j:Nat} {x:α} (h:i = k) (hi:i < l.length):lf c (l.set k x) i j = c x j:=by
 subst h;simp [lf,List.getD,hi]
theorem ag3 [Inhabited α] {i j:Nat} {x:α} (h:¬ i = k):lf c (l.set k x) i j = lf c l i j:=by
 simp only [lf,List.getD,List.getElem?_set_ne (Ne.symm h)]
theorem tsf (l:List (List α)) (i:Nat) (h:i < l.length):(l.take (i + 1)).flatten = (l.take i).flatten ++ l.getD i default:=by
 rw [List.take_succ_eq_append_getElem h,List.flatten_append];simp [List.getD,bkj h]
theorem a5n (l:List (List α)) (i:Nat) (h:i < l.length):(l.take i).flatten.length + (l.getD i default).length <= l.flatten.length:=by
 have:l.flatten.length = (l.take (i + 1)).flatten.length + (l.drop (i + 1)).flatten.length:=by
  rw [<- bkq,<- List.flatten_append,bnz]
 rw [this,tsf l i h,bkq];omega
def bjh (i0:Nat) (h:HV) (f:Nat -> Nat -> PV):Nat -> Nat -> HV:=fun i j=>if i = i0 /\ j = 1 then h else .p (f i j)
theorem ap7 [Inhabited α] {wr:Bool} {n m:Nat} {e:TypeId} {x y:α} {ps qs:List PV} (hw:wr' = true -> wr = true) (hn:n = l.length) (hk:k < l.length) (hm:m < l.length) (hp:ps.length = s) (hq:qs.length = s) (h1:∀ j,j < s -> CoP (ps.getD j .any) (c x j)) (h2:∀ j,j < s -> CoP (qs.getD j .any) (c y j)):
 CoO (.arr wr s e n (er (er (lf c l) k 0 ps) m 0 qs)) (.arr wr' s e n (lf c ((l.set k x).set m y))):=by
 refine ⟨hw,rfl,rfl,rfl,fun i j hi hj=>?_⟩;unfold er;by_cases hm':i = m
 · rw [if_pos ⟨hm',bkl _,by omega⟩,aff hm' bp3,bo8];exact h2 j hj
 rw [if_neg bos,ag3 hm'];by_cases hk':i = k
 · rw [if_pos ⟨hk',bkl _,by omega⟩,aff hk' bos,bo8];exact h1 j hj
 rw [if_neg bos,ag3 hk'];exact CoP.refl _
theorem az {P:Nat -> Prop} {i:Nat} (h:∀ j,j < i -> P j) (hn:P i):∀ j,j < i + 1 -> P j:=fun j hj=>by
 rcases Nat.lt_succ_iff_lt_or_eq.1 hj with h1 | rfl
 · exact h j h1
 exact hn
theorem bq {P:Nat -> Prop}:∀ j,j < 0 -> P j:=fun j hj=>absurd hj (bkp j)
end
section
variable {α:Type} [Inhabited α] {p:α -> Bool} {l:List α} {i:Nat}
theorem abq (hi:i < l.length) (h:p (l.getD i default) = false):l.all p = false:=by
 rw [List.all_eq_false];refine ⟨l[i],blh hi, ?_⟩;simp only [List.getD,bkj hi,bli] at h;simp [h]
theorem ahe (h:∀ j,j < l.length -> p (l.getD j default) = true):l.all p = true:=by
 rw [blo];intro x hx;obtain ⟨j,hj,rfl⟩:=bla hx;have:=h j hj;simpa only [List.getD,bkj hj,bli] using this
theorem ahf (hi:i < l.length) (h:p (l.getD i default) = true):l.any p = true:=by
 rw [bll];refine ⟨l[i],blh hi, ?_⟩;simpa only [List.getD,bkj hi,bli] using h
theorem ahc (h:∀ j,j < l.length -> p (l.getD j default) = false):l.any p = false:=by
 rw [bmh];intro x hx;obtain ⟨j,hj,rfl⟩:=bla hx;have:=h j hj;simp only [List.getD,bkj hj,bli] at this;simp [this]
def idx (p:α -> Bool) (l:List α):Int:=match l.findIdx? p with | some i=>i | none=>-1
theorem rp (hi:i < l.length) (hb:∀ j,j < i -> p (l.getD j default) = false) (h:p (l.getD i default) = true):idx p l = i:=by
 have:l.findIdx? p = some i:=by
  rw [bo5];refine ⟨hi, ?_,fun j hj=>?_⟩
  · simpa only [List.getD,bkj hi,bli] using h
  have:=hb j hj;simp only [List.getD,bkj (Nat.lt_trans hj hi),bli] at this;simp [this]
 simp [idx,this]
theorem rr (h:∀ j,j < l.length -> p (l.getD j default) = false):idx p l = -1:=by
 have:l.findIdx? p = none:=by
  rw [List.findIdx?_eq_none_iff];intro x hx;obtain ⟨j,hj,rfl⟩:=bla hx;have:=h j hj;simpa only [List.getD,bkj hj,bli] using this
 simp [idx,this]
theorem pz {l l':List α} (hl:l.length = l'.length) (h:∀ j,j < l.length -> l.getD j default = l'.getD j default):l = l':=by
 refine List.ext_getElem hl fun j h1 h2=>?_;have:=h j h1;simpa only [List.getD,bkj h1,bkj h2,bli] using this
end
def HSt.app (a b:HSt):HSt:=⟨a.t ++ b.t,a.o ++ b.o⟩
theorem aa7:∀ {a b l:List (Nat × Option HR)},a5m a l -> a5m b l -> a5m (a ++ b) l
 | [],_,_,_,h=>h
 | (_,some _) :: _,_,_,h,k=>⟨h.1,aa7 h.2 k⟩
 | (_,none) :: r,b,l,h,k=>aa7 (a:=r) (b:=b) (l:=l) h k
theorem a9r:∀ {a b l:List (Nat × Option af)},a98 a l -> a98 b l -> a98 (a ++ b) l
 | [],_,_,_,h=>h
 | (_,some _) :: _,_,_,h,k=>⟨h.1,a9r h.2 k⟩
 | (_,none) :: r,b,l,h,k=>a9r (a:=r) (b:=b) (l:=l) h k
theorem Sub.app {a b st:HSt} (h:Sub a st) (k:Sub b st):Sub (a.app b) st:=⟨aa7 h.1 k.1,a9r h.2 k.2⟩
section
variable {ro:Option Nat} {P:Program} {nt:Nat} {st:HSt} {Q:Exit -> HSt -> Prop}
theorem a6 {ι:Type} {body:Code} (K:HSt) (hK:Sub K st) (J:ι -> HSt) (p:ι -> Prop) (μ:ι -> Nat) (i0:ι) (h0:p i0) (hs:Sub (J i0) st) (round:∀ i,p i -> HW (ro:=ro) P nt body ((J i).app K) (b3c (fun i=>(J i).app K) p μ i Q)):HW (ro:=ro) P nt (.loop body) st Q :=
 b6m (fun i=>(J i).app K) p μ i0 h0 (hs.app hK) round
theorem bu {ι:Type} {x y:Code} (K:HSt) (hK:Sub K st) (J:ι -> HSt) (p:ι -> Prop) (h1:HW (ro:=ro) P nt x st (baw (fun i=>(J i).app K) p Q)) (h2:∀ i,p i -> HW (ro:=ro) P nt y ((J i).app K) Q):HW (ro:=ro) P nt (.seq x y) st Q :=
 a7h (fun i=>(J i).app K) p h1 h2
section
variable {c:Code}
theorem yg (K:HSt) (hK:Sub K st) (h:HW (ro:=ro) P nt c K Q):HW (ro:=ro) P nt c st Q:=auw K hK h
theorem qw (bx off id:Nat) (wr:Bool) {n s':Nat} {f':Nat -> Nat -> PV} {l:List HV} (s:Nat) (e:TypeId) (f:Nat -> Nat -> PV) (hs:0 < s) (hb:bh st.o bx = some (.box l)) (hl:l[off]? = some (.p (.sl n s' true f'))) (hco:CoP (.sl n s' true f') (.sl n s true f)) (hwr:wr = false \/ n = 0) (hn:sb id st = true) (hne:Nat.beq bx id = false) (h:HW (ro:=ro) P nt c ⟨st.t,(bx,some (.box (bc l off [.ref id n]))) :: (id,some (.arr wr s e n f)) :: st.o⟩ Q):HW (ro:=ro) P nt c st Q:=fun w0 m0 a w hr=>by
 obtain ⟨hnm,hno⟩:=lv hn;obtain ⟨cc,hold,hrr⟩:=hr;have hbi:bx ≠ id:=by rintro rfl;simp at hne
 obtain ⟨b0,C0,e0,p1,p2,p3,p4,p5⟩:=hrr.objs bx _ hb;obtain ⟨u,hu,hur⟩:=p5.get off _ hl;have hx:b5 cc.imm (.sl n s true f) u:=hco _ _ hur;have hnm':n <= maxLen:=by obtain ⟨ad,cap,_,q1,q2,_⟩:=hx;omega
 have hfresh:=hrr.fresh id hnm hno (.arr wr s e n f) w u noB (Grw.refl w none) (fun b hb=>hb.elim) ⟨hs,hnm', .inr ⟨hwr,by simp,by simpa using hx⟩⟩;rw [<- so] at hfresh
 have hb':(HSt.den ⟨st.t,(id,some (.arr wr s e n f)) :: st.o⟩).o bx = some (.box l):=by
  simp only [HSt.den,br,hbi,if_false];exact hb
 refine h w0 m0 a w ?_
 have hevo:∀ (c1:Ctx),c1.own = (fun k=>if k = id then u else cc.own k) -> Evo { old:=cc.old,imm:=cc.imm,tab:=cc.tab,own:=fun k=>if k = id then u else cc.own k,blk:=fun k=>if k = id then noB else cc.blk k,rows:=cc.rows } (HSt.den ⟨st.t,(id,some (.arr wr s e n f)) :: st.o⟩).o c1 ((HSt.den ⟨st.t,(id,some (.arr wr s e n f)) :: st.o⟩).setO bx (some (.box (bc l off [.ref id n])))).o bx:=fun c1 h1 =>
  .inr (.inl ⟨l,bc l off [.ref id n],hb',by simp [S.setO],by rw [h1]⟩)
 have hown:(fun k=>if k = bx then (fun k=>if k = id then u else cc.own k) bx else (fun k=>if k = id then u else cc.own k) k) = fun k=>if k = id then u else cc.own k:=by
  funext k;by_cases hk:k = bx
  · subst hk;simp
  simp [hk]
 have hw:=hfresh.write bx (.box l) hb' (.box (bc l off [.ref id n])) w ((fun k=>if k = id then u else cc.own k) bx) ((fun k=>if k = id then noB else cc.blk k) bx) none (Grw.refl w _) (fun _ e=>by cases e) (hevo _ (by exact hown)) (fun b hb=>.inl hb) (by
  refine ⟨b0,C0,e0,by simpa [hbi] using p1,by simpa [hbi] using p2,p3,p4, ?_⟩;have hoff:off < l.length:=(bml.1 hl).1;have hcl:=p5.length;refine b9.of_get ?_ fun k x u' hx' hu'=>?_
  · simp only [bc,bkq,bku,bma,bm7];omega
  have hx2:=hx';unfold bc at hx2;rw [df l [HV.ref id n] off k bp3] at hx2;by_cases hk:k = off
  · subst hk
    simp at hx2;subst hx2;rw [hu] at hu';simp only [bki] at hu';subst hu';refine ⟨b5.oneCell hx,fun l2=>by simp [S.setO,HSt.den,br,Ne.symm hbi],fun ob1 s1 e1 n1 ho hd1=>?_⟩;simp only [S.setO,HSt.den,br,Ne.symm hbi,if_false,if_true,bki] at ho;subst ho;simp only [af.dim,bki,bkr] at hd1;obtain ⟨rfl,rfl,rfl⟩:=hd1;exact ⟨bko _,fun _=>by simp [Ne.symm hbi]⟩
  rw [if_neg bp3] at hx2;obtain ⟨u2,hu2,hr2⟩:=p5.get k x hx2;rw [hu'] at hu2;simp only [bki] at hu2;subst hu2;refine bi.evo (c:=cc) (o:=st.den.o) (Imm.le.refl cc.imm) (fun j hj=>?_) hr2
  have hji:j ≠ id:=by
   rintro rfl;exact hnm.2.1 bx _ hb ⟨x,List.mem_of_getElem? hx2,hj⟩
  by_cases hjb:j = bx
  · subst hjb;exact .inr (.inl ⟨l,bc l off [.ref id n],hb,by simp [S.setO],by simp [hji]⟩)
  exact Evo.of_same (by simp [S.setO,hjb,HSt.den,br,hji]) (by simp [hjb,hji]))
 have e:HSt.den ⟨st.t,(bx,some (.box (bc l off [.ref id n]))) :: (id,some (.arr wr s e n f)) :: st.o⟩ = (HSt.den ⟨st.t,(id,some (.arr wr s e n f)) :: st.o⟩).setO bx (some (.box (bc l off [.ref id n]))):=by
  unfold HSt.den S.setO;simp only [S.mk.injEq,true_and];funext k;simp only [br]
 rw [e];exact ⟨_,(by exact hold),hw⟩
variable {f:Nat -> Nat -> PV}
theorem cb (d:Nat) {n s:Nat} {cl:Bool} (hd:bh st.t d = some (bn (.sl n s cl f))) (h:n <= 9223372036854775807 -> HW (ro:=ro) P nt c st Q):HW (ro:=ro) P nt c st Q:=fun w0 m0 a w hr=>by
 have hr':=hr;obtain ⟨cc,hold,hrr⟩:=hr';obtain ⟨ad,cap,_,h1,h2,_⟩:=hrr.tmps d _ hd;exact h (by simp only [maxLen] at h2;omega) w0 m0 a w hr
theorem b3q (id off:Nat) {n s:Nat} {cl:Bool} {l:List HV} (hb:bh st.o id = some (.box l)) (hl:l[off]? = some (.p (.sl n s cl f))) (h:n <= 9223372036854775807 -> HW (ro:=ro) P nt c st Q):HW (ro:=ro) P nt c st Q:=fun w0 m0 a w hr=>by
 have hr':=hr;obtain ⟨cc,hold,hrr⟩:=hr';obtain ⟨b,C,e,_,_,_,_,q5⟩:=hrr.objs id _ hb;obtain ⟨u,_,ad,cap,_,h1,h2,_⟩:=q5.get off _ hl;exact h (by simp only [maxLen] at h2;omega) w0 m0 a w hr
theorem abc (id:Nat) {n s:Nat} {wr:Bool} {e:TypeId} (hb:bh st.o id = some (.arr wr s e n f)) (h:n <= 9223372036854775807 -> HW (ro:=ro) P nt c st Q):HW (ro:=ro) P nt c st Q:=fun w0 m0 a w hr=>by
 have hr':=hr;obtain ⟨cc,hold,hrr⟩:=hr';have:=(hrr.objs id _ hb).2.1;exact h (by simp only [maxLen] at this;omega) w0 m0 a w hr
end
end
end
end Go.Hx
