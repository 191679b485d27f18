/- A part of the proof: Hx18 HxEnv Hx19. -/
import Derived.Deep.AppendLies
import Derived.Laws.CopyRow
import Derived.Shelf.Spec.SlicesInsertGrow
import Derived.Test.YtkkenjdfbojdlaaGreatDoorProg
import Derived.Test.YtkkenjdfbojdlaaGreatDoorFx13
set_option linter.all false
namespace Go.Hx
section
open Go.RowKit
section
variable {ro:Option Nat} {P:Program} {E:Env} {nt:Nat} {ops:Array Oper} {i:Nat} {o:Oper} {st:HSt} {T:List Tr} {sf:S} {L:List Nat} {K:List Tr → HSt → Prop}
theorem aok (b:ByteArray) (i:Nat):0 ≤ fp b i ∧ fp b i ≤ 255:=by
 unfold fp
 have:=(b.data.toList.getD i 0).toNat_lt
 omega
theorem ael (b:ByteArray) (i:Nat):(gj true .i64 (fp b i)).1:=by
 have:=aok b i
 simp only [gj,inR,md,o6]
 omega
theorem rq {out:Out} {gb:Bool} (hi:ops[i]? = some o) (hw:b4 ops st.den o = some gb) (hd:dq nt o.dst = true) (hq':hq E true st.den.o (ev st.den) o.op = some out) (hg:gb = true)
 (hT:Reg P E nt ops L (st.after o.dst (some out.val) []) fun T sf=>K (⟨i,a7y true out.val.ids,looks st.den o,ci st.den o.dst [],fl E st.den o⟩ :: T) sf)
 (hp:out.pre:=by first | exact trivial | (simp only [gj,inR,md,o6];omega) | exact ael _ _ | exact ⟨trivial,trivial⟩ | exact ⟨trivial,Nat.le_of_ble_eq_true rfl⟩ | (try dsimp only) <;> ((repeat' apply And.intro) <;> first | trivial | rfl | omega | (simp only [ej,bc];omega) | assumption | exact Nat.le_of_ble_eq_true rfl)) :
 Reg P E nt ops (i :: L) st K:=ce true hi hw hd hq' hg hp hT
theorem rqw {out:Out} {gb:Bool} (hi:ops[i]? = some o) (hw:b4 ops st.den o = some gb) (hd:dq nt o.dst = true) (hq':hq E false st.den.o (ev st.den) o.op = some out) (hg:gb = true)
 (hT:Reg P E nt ops L (st.after o.dst (some out.val) []) fun T sf=>K (⟨i,a7y false out.val.ids,looks st.den o,ci st.den o.dst [],fl E st.den o⟩ :: T) sf)
 (hp:out.pre:=by first | exact trivial | (simp only [gj,inR,md,o6];omega) | exact ael _ _ | exact ⟨trivial,trivial⟩ | exact ⟨trivial,Nat.le_of_ble_eq_true rfl⟩ | (try dsimp only) <;> ((repeat' apply And.intro) <;> first | trivial | rfl | omega | (simp only [ej,bc];omega) | assumption | exact Nat.le_of_ble_eq_true rfl)) :
 Reg P E nt ops (i :: L) st K:=ce false hi hw hd hq' hg hp hT
theorem rm (id:Nat) {nw:New} {gb:Bool} (hi:ops[i]? = some o) (hw:b4 ops st.den o = some gb) (hd:dq nt o.dst = true) (hq':ha E (ev st.den) id o.op = some nw) (hn:se id st = true) (hg:gb = true)
 (hT:Reg P E nt ops L (st.after o.dst (some nw.val) [(id,some nw.ob)]) fun T sf=>K (⟨i,⟨id,false,true, .tup [],[id],[id],nw.val.ids ++ nw.ob.ids⟩,looks st.den o,ci st.den o.dst [(id,some nw.ob)],none⟩ :: T) sf)
 (hp:nw.pre:=by first | exact trivial | (try dsimp only) <;> ((repeat' apply And.intro) <;> first | trivial | rfl | omega | assumption)):Reg P E nt ops (i :: L) st K:=vn id hi hw hd hq' hn hg hp hT
theorem rs {u:Upd} {gb:Bool} (hi:ops[i]? = some o) (hw:b4 ops st.den o = some gb) (hd:dq nt o.dst = true) (hq':hs E st.den.o (ev st.den) o.op = some u) (hg:gb = true)
 (hT:Reg P E nt ops L (st.after o.dst none [(u.id,some u.ob)]) fun T sf=>K (⟨i,⟨0,false,true, .tup [],[u.id],[],u.ob.ids⟩,looks st.den o,ci st.den o.dst [(u.id,some u.ob)],fl E st.den o⟩ :: T) sf)
 (hp:u.pre:=by first | exact Nat.le_of_ble_eq_true rfl | (try dsimp only) <;> ((repeat' apply And.intro) <;> first | trivial | rfl | omega | (simp only [ej,bc];omega) | assumption | exact Nat.le_of_ble_eq_true rfl)):Reg P E nt ops (i :: L) st K:=aft hi hw hd hq' hg hp hT
theorem ra (id:Nat) (wb:Bool) {u:App} {gb:Bool} (hi:ops[i]? = some o) (hw:b4 ops st.den o = some gb) (hd:dq nt o.dst = true) (hq':hap E st.den.o (ev st.den) id wb o.op = some u) (hn:(!u.new || se id st) = true) (hg:gb = true)
 (hT:Reg P E nt ops L (st.after o.dst (some u.val) [(u.id,some u.ob)]) fun T sf=>K (⟨i,⟨id,wb,true, .tup [],[u.id],if u.new then [id] else [],u.val.ids ++ u.ob.ids⟩,looks st.den o,ci st.den o.dst [(u.id,some u.ob)],none⟩ :: T) sf)
 (hp:u.pre:=by (try dsimp only) <;> ((repeat' apply And.intro) <;> first | trivial | rfl | assumption | omega | (simp only [Int.toNat_natCast];omega) | (simp only [ej,bc];omega) | exact Or.inl rfl | exact Or.inr rfl | exact (fun _=>Or.inl rfl) | exact (fun _=>Or.inr (Nat.le_of_ble_eq_true rfl)) | exact Nat.le_of_ble_eq_true rfl | (intro h;cases h;done))):Reg P E nt ops (i :: L) st K:=a35 id wb hi hw hd hq' hn hg hp hT
theorem rc {cl:Call} {f:FuncId} {fst caps args vs:List PC} {p:Prop} {b:Bool} {res:PR} {gb:Bool} (hi:ops[i]? = some o) (hw:b4 ops st.den o = some gb) (hd:dq nt o.dst = true) (ho:o.op = .call cl) (hc:callee (ev st.den) cl = some (f,fst,caps))
 (hv:j7 st.den.o (ev st.den) cl.args.toList = some (p,vs,b)) (hf:goodFn P f) (hpure:af P f args res) (hco:CoL (fst ++ (vs ++ caps)) args) (hb:(!b || res.flat) = true) (hg:gb = true)
 (hT:Reg P E nt ops L (st.after o.dst (some res.toH) []) fun T sf=>K (⟨i,⟨0,false,true,res,[],[],[]⟩,looks st.den o,ci st.den o.dst [],none⟩ :: T) sf)
 (hp:p:=by (try dsimp only) <;> ((repeat' apply And.intro) <;> first | trivial | rfl | omega | assumption)):Reg P E nt ops (i :: L) st K:=aji hi hw hd ho hc hv hf hpure hco hg hp hb hT
theorem rv {sr ds:TypeId} {x:Operand} {b:ByteArray} {gb:Bool} (hi:ops[i]? = some o) (hw:b4 ops st.den o = some gb) (hd:dq nt o.dst = true) (ho:o.op = .convert sr ds x) (hcv:a9y E (ev st.den) sr ds x = some b) (hg:gb = true)
 (hT:Reg P E nt ops L (st.after o.dst (some (.v (.one (.p (.sl b.size 1 false (ald b)))))) []) fun T sf=>K (⟨i,⟨0,false,true, .tup [],[],[],[]⟩,looks st.den o,ci st.den o.dst [],none⟩ :: T) sf)
 (hp:b.size ≤ maxLen:=by first | assumption | (unfold maxLen;omega)):Reg P E nt ops (i :: L) st K:=b1o hi hw hd ho hcv hg hp hT
theorem rk {gb:Bool} (hi:ops[i]? = some o) (hw:b4 ops st.den o = some gb) (hd:dq nt o.dst = true) (hg:gb = false)
 (hT:Reg P E nt ops L (st.after o.dst (some (.tup [])) []) fun T sf=>K (⟨i,a7y true [],looks st.den o,ci st.den o.dst [],none⟩ :: T) sf):Reg P E nt ops (i :: L) st K:=aju hi hw hd hg hT
theorem aw2 {out:Out} {id:Nat} {gb:Bool} (hi:ops[i]? = some o) (hw:b4 ops st.den o = some gb) (hd:dq nt o.dst = true) (hq':vd E st.den.o (ev st.den) o.op = some (out,id)) (hg:gb = true)
 (hT:Reg P E nt ops L (st.after o.dst (some out.val) [(id,none)]) fun T sf=>K (⟨i,⟨0,false,true, .tup [],[id],[],[]⟩,looks st.den o,ci st.den o.dst [(id,none)],none⟩ :: T) sf)
 (hp:out.pre:=by (try dsimp only) <;> ((repeat' apply And.intro) <;> first | trivial | rfl | omega | (simp only [ej,bc];omega) | assumption | exact Nat.le_of_ble_eq_true rfl)):Reg P E nt ops (i :: L) st K:=b87 hi hw hd hq' hg hp hT
theorem b9 {b w:Bool} (hi:ops[i]? = some o) (hw:b4 ops st.den o = some (b == w)) (ht:b = true → Reg P E nt ops (i :: L) st K) (hf:b = false → Reg P E nt ops (i :: L) st K):Reg P E nt ops (i :: L) st K:=by
 cases hb:b with
 | true=>exact ht hb
 | false=>exact hf hb
theorem gtt {b:Bool} (h:b = true):(b == true) = true:=by subst h;rfl
theorem gff {b:Bool} (h:b = false):(b == false) = true:=by subst h;rfl
theorem gtf {b:Bool} (h:b = true):(b == false) = false:=by subst h;rfl
theorem gft {b:Bool} (h:b = false):(b == true) = false:=by subst h;rfl
end
theorem af.eat {P:Program} {f:FuncId} {args:List PC} {res:PR} {hcs:List HC} {o1:List (Nat × ai)} {q:Prop} {vs:List PC} (h:af P f args res) (hv:oi (lk o1) hcs = some (q,vs)) (hq:q) (hco:CoL vs args):dw P f hcs o1 res.toH [] []:=by
 classical
 intro w c us hm hargs
 let own:Nat → Prop:=fun b=>∃ id ob,lk o1 id = some ob ∧ c.blk id b
 let frm:Imm:=fun b=>if own b then none else w.heap[b]?
 let c2:Ctx:={ old:=(c.imm,frm,c.own,lk o1,c.rows),imm:=c.imm,tab:=c.tab,own:=c.own,blk:=c.blk,rows:=c.rows }
 have hrel:al w 0 c2 ⟨fun _=>none,lk o1⟩ { tmps:=#[],defers:=[] } w:=by
  refine ⟨ng.nil _ _ _ _,rfl,Below.refl _ _,(fun d x hx=>by cases hx),fun id ob ho=>?_,hm.inj,hm.imm,hm.sep,fun b _=>rfl,fun b ob hbo=>?_,fun id ob b ho hbb=>?_,fun id _=>Evo.of_same rfl rfl⟩
  · exact (hm.objs id ob ho).keep (Imm.le.refl c.imm) rfl rfl (fun _ _=>Evo.of_same rfl rfl) fun _ _=>rfl
  · have hbo:frm b = some ob:=hbo
    simp only [frm] at hbo
    split at hbo
    · cases hbo
    exact hbo
  show frm b = none
  simp only [frm]
  rw [if_pos ⟨id,ob,ho,hbb⟩]
 let m:Imm:=fun b=>if own b then w.heap[b]? else c.imm b
 have hseen:x4 w c2 w m:=by
  refine ⟨fun b ob hbo=>?_,fun b hb' hlt=>?_⟩
  · have hbo:c.imm b = some ob:=hbo
    have:¬ own b:=fun ⟨id,ob2,h1,h2⟩=>by rw [hm.sep id ob2 b h1 h2] at hbo;cases hbo
    simp only [m,this,if_false]
    exact hbo
  have hb':frm b = none:=hb'
  by_cases ho:own b
  · simp [m,ho]
  simp only [frm,ho,if_false] at hb'
  have:¬ b < w.heap.size:=fun hlt=>by simp [hlt] at hb'
  exact absurd hlt this
 have hrep:bv c2 (lk o1) hcs us:=bv.evo (c:=c) (c':=c2) (o:=lk o1) (o':=lk o1) (Imm.le.refl c.imm) (fun _ _=>Evo.of_same rfl rfl) hargs
 have hview:=CoL.sound hco (mj hrel hseen hrep hv hq)
 have hmm:∀ b ob,m b = some ob → w.heap[b]? = some ob:=fun b ob hbo=>by
  simp only [m] at hbo
  split at hbo
  · exact hbo
  exact hm.imm b ob hbo
 have hlem:Imm.le c.imm m:=fun b ob hb=>by
  by_cases hb':own b
  · obtain ⟨id,ob2,h1,h2⟩:=hb'
    rw [hm.sep id ob2 b h1 h2] at hb;cases hb
  simp only [m,hb',if_false];exact hb
 refine (h w m us (c.tab.mono hlem) hmm hview).mono ?_
 rintro e w' ⟨v,imm',rfl,h1,h2,h3,h4⟩
 refine ⟨v,{ old:=c.old,imm:=imm',tab:=(c.tab.mono hlem).mono (fun b ob hb=>by rw [h2 b (Array.getElem?_eq_some_iff.1 (hmm b ob hb)).1];exact hb),own:=c.own,blk:=c.blk,rows:=c.rows },rfl,av.of_P h1,⟨(fun id ob ho=>by cases ho),(fun i i' ob ob' b ho=>by cases ho),h3,(fun id ob b ho=>by cases ho)⟩,h4.mono (Nat.zero_le _),fun b hb hno=>?_,(fun id ob b ho=>by cases ho),fun id hid=>by cases hid⟩
 have hnb:¬ own b:=fun ⟨id,ob2,h1,h2⟩=>hno id ob2 h1 h2
 exact ⟨h4.block b hb,by show imm' b = _;rw [h2 b hb];simp [m,hnb]⟩
theorem c6 {b x y v:Bool} (h:b = false) (e:(bif b then x else y) = v):y = v:=by subst h;exact e
theorem du {b x y v:Bool} (h:b = true) (e:(bif b then x else y) = v):x = v:=by subst h;exact e
theorem dc {b x y v:Bool} (h:b = true) (e:x = v):(bif b then x else y) = v:=by subst h;exact e
theorem au {x:Bool} (e:(!x) = true):x = false:=by simpa using e
theorem ar {x:Bool} (e:(!x) = false):x = true:=by simpa using e
theorem coi {k:IntKind} {a b:Int} (h:a = b):CoR (bp (.raw (.int k a))) (bp (.raw (.int k b))):=CoR.of_eq (by rw [h])
theorem cob {a b:Bool} (h:a = b):CoR (bp (.raw (.bool a))) (bp (.raw (.bool b))):=CoR.of_eq (by rw [h])
theorem CoC.of_eq {x y:PC} (h:x = y):CoC x y:=h ▸ CoC.refl x
theorem CoL.of_eq {x y:List PC} (h:x = y):CoL x y:=h ▸ CoL.refl x
theorem cci {k:IntKind} {a b:Int} (h:a = b):CoC (.one (.raw (.int k a))) (.one (.raw (.int k b))):=CoC.of_eq (by rw [h])
theorem ccb {a b:Bool} (h:a = b):CoC (.one (.raw (.bool a))) (.one (.raw (.bool b))):=CoC.of_eq (by rw [h])
theorem CoC.one {x y:PV} (h:CoP x y):CoC (.one x) (.one y):=h
def a2v:List PV → List PV → Prop
 | [],[]=>True
 | x :: xs,y :: ys=>CoP x y ∧ a2v xs ys
 | _,_=>False
theorem a2v.refl:∀ (l:List PV),a2v l l
 | []=>trivial
 | x :: l=>⟨CoP.refl x,a2v.refl l⟩
theorem a2v.sound {m:Imm}:∀ {xs ys:List PV} {us:List Value},a2v xs ys → ee m xs us → ee m ys us
 | [],[],[],_,_=>trivial
 | _ :: _,_ :: _,_ :: _,h,k=>⟨h.1 _ _ k.1,a2v.sound h.2 k.2⟩
 | [],_ :: _,_,h,_=>h.elim
 | _ :: _,[],_,h,_=>h.elim
 | [],[],_ :: _,_,h=>h.elim
 | _ :: _,_ :: _,[],_,h=>h.elim
theorem CoC.agg {l l':List PV} (h:a2v l l'):CoC (.agg l) (.agg l'):=by
 rintro m u ⟨us,e,hl⟩
 exact ⟨us,e,h.sound hl⟩
def lf {α:Type} [Inhabited α] (c:α → Nat → PV) (l:List α):Nat → Nat → PV:=fun i j=>c (l.getD i default) j
def psl {α:Type} [Inhabited α] (s:Nat) (c:α → Nat → PV) (l:List α):PV:=.sl l.length s false (lf c l)
theorem ajy {α:Type} [Inhabited α] {s k:Nat} {cl:Bool} {c:α → Nat → PV} {l:List α} (hk:k ≤ l.length):CoP (.sl k s cl (lf c l)) (psl s c (l.take k)):=by
 refine CoP.sl (by simp [hk]) (.inl rfl) (fun h=>by cases h) fun i j hi hj=>CoP.of_eq ?_
 simp only [lf,List.getD,List.getElem?_take,hi,if_true]
theorem az8 {α:Type} [Inhabited α] {s k:Nat} {cl:Bool} {c:α → Nat → PV} {l:List α}:CoP (.sl (l.length - k) s cl (fun i j=>lf c l (k + i) j)) (psl s c (l.drop k)):=by
 refine CoP.sl (by simp) (.inl rfl) (fun h=>by cases h) fun i j hi hj=>CoP.of_eq ?_
 simp only [lf,List.getD,List.getElem?_drop]
theorem ar8 {α:Type} [Inhabited α] {wr wr':Bool} {s:Nat} {e:TypeId} {c:α → Nat → PV} {l:List α} {m:Nat} {g:Nat → Nat → PV} (l':List α) (hw:wr' = true → wr = true) (hm:m = l'.length) (hg:∀ i j,i < l'.length → j < s → CoP (g i j) (lf c l' i j)) :
 CoO (.arr wr s e (l.length + m) (gk l.length (lf c l) g)) (.arr wr' s e (l ++ l').length (lf c (l ++ l'))):=by
 subst hm
 refine ⟨hw,rfl,rfl,by simp,fun i j hi hj=>?_⟩
 unfold gk
 by_cases h:i < l.length
 · rw [if_pos h]
   refine CoP.of_eq ?_
   simp only [lf,List.getD,List.getElem?_append_left h]
 rw [if_neg h]
 have:=hg (i - l.length) j (by omega) hj
 have e:lf c (l ++ l') i j = lf c l' (i - l.length) j:=by simp only [lf,List.getD,List.getElem?_append_right (Nat.le_of_not_lt h)]
 rw [e];exact this
theorem akt {α:Type} [Inhabited α] {wr wr':Bool} {s i:Nat} {e:TypeId} {c:α → Nat → PV} {l:List α} {g:Nat → Nat → PV} (hw:wr' = true → wr = true) (hg:∀ j,j < s → CoP (g 0 j) (lf c l i j)) :
 CoO (.arr wr s e (i + 1) (gk i (lf c l) g)) (.arr wr' s e (i + 1) (lf c l)):=by
 refine ⟨hw,rfl,rfl,rfl,fun a j ha hj=>?_⟩
 unfold gk
 by_cases h:a < i
 · rw [if_pos h];exact CoP.refl _
 obtain rfl:a = i:=by omega
 rw [if_neg h,Nat.sub_self]
 exact hg j hj
theorem aqh {s s':Nat} {cl:Bool} {f f':Nat → Nat → PV}:CoP (.sl 0 s cl f) (.sl 0 s' false f'):=CoP.sl rfl (.inr rfl) (fun h=>by cases h) fun i j hi _=>absurd hi (Nat.not_lt_zero i)
theorem acv {α:Type} [Inhabited α] {c:α → Nat → PV} {l:List α} {k i j:Nat} {x:α} (h:i = k) (hi:i < l.length):lf c (l.set k x) i j = c x j:=by
 subst h
 simp [lf,List.getD,hi]
theorem aci {α:Type} [Inhabited α] {c:α → Nat → PV} {l:List α} {k i j:Nat} {x:α} (h:¬ i = k):lf c (l.set k x) i j = lf c l i j:=by
 simp only [lf,List.getD,List.getElem?_set_ne (Ne.symm h)]
theorem tsf {α:Type} (l:List (List α)) (i:Nat) (h:i < l.length):(l.take (i + 1)).flatten = (l.take i).flatten ++ l.getD i default:=by
 rw [List.take_succ_eq_append_getElem h,List.flatten_append]
 simp [List.getD,List.getElem?_eq_getElem h]
theorem a38 {α:Type} (l:List (List α)) (i:Nat) (h:i < l.length):(l.take i).flatten.length + (l.getD i default).length ≤ l.flatten.length:=by
 have:l.flatten.length = (l.take (i + 1)).flatten.length + (l.drop (i + 1)).flatten.length:=by
  rw [← List.length_append,← List.flatten_append,List.take_append_drop]
 rw [this,tsf l i h,List.length_append]
 omega
def bd0 (i0:Nat) (h:HV) (f:Nat → Nat → PV):Nat → Nat → HV:=fun i j=>if i = i0 ∧ j = 1 then h else .p (f i j)
theorem b0j {α:Type} [Inhabited α] {wr wr':Bool} {s n k m:Nat} {e:TypeId} {c:α → Nat → PV} {l:List α} {x y:α} {ps qs:List PV} (hw:wr' = true → wr = true) (hn:n = l.length) (hk:k < l.length) (hm:m < l.length) (hp:ps.length = s) (hq:qs.length = s)
 (h1:∀ j,j < s → CoP (ps.getD j .any) (c x j)) (h2:∀ j,j < s → CoP (qs.getD j .any) (c y j)) :
 CoO (.arr wr s e n (eu (eu (lf c l) k 0 ps) m 0 qs)) (.arr wr' s e n (lf c ((l.set k x).set m y))):=by
 refine ⟨hw,rfl,rfl,rfl,fun i j hi hj=>?_⟩
 unfold eu
 by_cases hm':i = m
 · rw [if_pos ⟨hm',Nat.zero_le _,by omega⟩,acv hm' (by simp;omega),Nat.sub_zero];exact h2 j hj
 rw [if_neg (by omega),aci hm']
 by_cases hk':i = k
 · rw [if_pos ⟨hk',Nat.zero_le _,by omega⟩,acv hk' (by omega),Nat.sub_zero];exact h1 j hj
 rw [if_neg (by omega),aci hk'];exact CoP.refl _
theorem bz {P:Nat → Prop} {i:Nat} (h:∀ j,j < i → P j) (hn:P i):∀ j,j < i + 1 → P j:=fun j hj=>by
 rcases Nat.lt_succ_iff_lt_or_eq.1 hj with h1 | rfl
 · exact h j h1
 exact hn
theorem cr {P:Nat → Prop}:∀ j,j < 0 → P j:=fun j hj=>absurd hj (Nat.not_lt_zero j)
section
variable {α:Type} [Inhabited α] {p:α → Bool} {l:List α} {i:Nat}
theorem a88 (hi:i < l.length) (h:p (l.getD i default) = false):l.all p = false:=by
 rw [List.all_eq_false]
 refine ⟨l[i],List.getElem_mem hi, ?_⟩
 simp only [List.getD,List.getElem?_eq_getElem hi,Option.getD_some] at h
 simp [h]
theorem ado (h:∀ j,j < l.length → p (l.getD j default) = true):l.all p = true:=by
 rw [List.all_eq_true]
 intro x hx
 obtain ⟨j,hj,rfl⟩:=List.getElem_of_mem hx
 have:=h j hj
 simpa only [List.getD,List.getElem?_eq_getElem hj,Option.getD_some] using this
theorem alb (hi:i < l.length) (h:p (l.getD i default) = true):l.any p = true:=by
 rw [List.any_eq_true]
 refine ⟨l[i],List.getElem_mem hi, ?_⟩
 simpa only [List.getD,List.getElem?_eq_getElem hi,Option.getD_some] using h
theorem b93 (h:∀ j,j < l.length → p (l.getD j default) = false):l.any p = false:=by
 rw [List.any_eq_false]
 intro x hx
 obtain ⟨j,hj,rfl⟩:=List.getElem_of_mem hx
 have:=h j hj
 simp only [List.getD,List.getElem?_eq_getElem hj,Option.getD_some] at this
 simp [this]
def idx (p:α → Bool) (l:List α):Int:=match l.findIdx? p with | some i=>i | none=>-1
theorem qt (hi:i < l.length) (hb:∀ j,j < i → p (l.getD j default) = false) (h:p (l.getD i default) = true):idx p l = i:=by
 have:l.findIdx? p = some i:=by
  rw [List.findIdx?_eq_some_iff_getElem]
  refine ⟨hi, ?_,fun j hj=>?_⟩
  · simpa only [List.getD,List.getElem?_eq_getElem hi,Option.getD_some] using h
  have:=hb j hj
  simp only [List.getD,List.getElem?_eq_getElem (Nat.lt_trans hj hi),Option.getD_some] at this
  simp [this]
 simp [idx,this]
theorem re (h:∀ j,j < l.length → p (l.getD j default) = false):idx p l = -1:=by
 have:l.findIdx? p = none:=by
  rw [List.findIdx?_eq_none_iff]
  intro x hx
  obtain ⟨j,hj,rfl⟩:=List.getElem_of_mem hx
  have:=h j hj
  simpa only [List.getD,List.getElem?_eq_getElem hj,Option.getD_some] using this
 simp [idx,this]
theorem nk {l l':List α} (hl:l.length = l'.length) (h:∀ j,j < l.length → l.getD j default = l'.getD j default):l = l':=by
 refine List.ext_getElem hl fun j h1 h2=>?_
 have:=h j h1
 simpa only [List.getD,List.getElem?_eq_getElem h1,List.getElem?_eq_getElem h2,Option.getD_some] using this
end
def HSt.app (a b:HSt):HSt:=⟨a.t ++ b.t,a.o ++ b.o⟩
theorem a6v:∀ {a b l:List (Nat × Option HR)},a2t a l → a2t b l → a2t (a ++ b) l
 | [],_,_,_,h=>h
 | (_,some _) :: _,_,_,h,k=>⟨h.1,a6v h.2 k⟩
 | (_,none) :: r,b,l,h,k=>a6v (a:=r) (b:=b) (l:=l) h k
theorem a7x:∀ {a b l:List (Nat × Option ai)},a7w a l → a7w b l → a7w (a ++ b) l
 | [],_,_,_,h=>h
 | (_,some _) :: _,_,_,h,k=>⟨h.1,a7x h.2 k⟩
 | (_,none) :: r,b,l,h,k=>a7x (a:=r) (b:=b) (l:=l) h k
theorem Sub.app {a b st:HSt} (h:Sub a st) (k:Sub b st):Sub (a.app b) st:=⟨a6v h.1 k.1,a7x h.2 k.2⟩
section
variable {ro:Option Nat} {P:Program} {nt:Nat} {st:HSt} {Q:Exit → HSt → Prop}
theorem ah {ι:Type} {body:Code} (K:HSt) (hK:Sub K st) (J:ι → HSt) (p:ι → Prop) (μ:ι → Nat) (i0:ι) (h0:p i0) (hs:Sub (J i0) st) (round:∀ i,p i → HW (ro:=ro) P nt body ((J i).app K) (axt (fun i=>(J i).app K) p μ i Q)):HW (ro:=ro) P nt (.loop body) st Q :=
 b2r (fun i=>(J i).app K) p μ i0 h0 (hs.app hK) round
theorem d4 {ι:Type} {x y:Code} (K:HSt) (hK:Sub K st) (J:ι → HSt) (p:ι → Prop) (h1:HW (ro:=ro) P nt x st (b64 (fun i=>(J i).app K) p Q)) (h2:∀ i,p i → HW (ro:=ro) P nt y ((J i).app K) Q):HW (ro:=ro) P nt (.seq x y) st Q :=
 zd (fun i=>(J i).app K) p h1 h2
theorem a6n {c:Code} (K:HSt) (hK:Sub K st) (h:HW (ro:=ro) P nt c K Q):HW (ro:=ro) P nt c st Q:=apu K hK h
theorem a1v {c:Code} (bx off id:Nat) (wr:Bool) {n s':Nat} {f':Nat → Nat → PV} {l:List HV} (s:Nat) (e:TypeId) (f:Nat → Nat → PV) (hs:0 < s) (hb:bq st.o bx = some (.box l)) (hl:l[off]? = some (.p (.sl n s' true f'))) (hco:CoP (.sl n s' true f') (.sl n s true f)) (hwr:wr = false ∨ n = 0) (hn:se id st = true) (hne:Nat.beq bx id = false)
 (h:HW (ro:=ro) P nt c ⟨st.t,(bx,some (.box (bn l off [.ref id n]))) :: (id,some (.arr wr s e n f)) :: st.o⟩ Q):HW (ro:=ro) P nt c st Q:=fun w0 m0 a w hr=>by
 obtain ⟨hnm,hno⟩:=lc hn
 obtain ⟨cc,hold,hrr⟩:=hr
 have hbi:bx ≠ id:=by rintro rfl;simp at hne
 obtain ⟨b0,C0,e0,p1,p2,p3,p4,p5⟩:=hrr.objs bx _ hb
 obtain ⟨u,hu,hur⟩:=p5.get off _ hl
 have hx:ay cc.imm (.sl n s true f) u:=hco _ _ hur
 have hnm':n ≤ maxLen:=by obtain ⟨ad,cap,_,q1,q2,_⟩:=hx;omega
 have hfresh:=hrr.fresh id hnm hno (.arr wr s e n f) w u noB (Grw.refl w none) (fun b hb=>hb.elim) ⟨hs,hnm', .inr ⟨hwr,by simp,by simpa using hx⟩⟩
 rw [← vk] at hfresh
 have hb':(HSt.den ⟨st.t,(id,some (.arr wr s e n f)) :: st.o⟩).o bx = some (.box l):=by
  simp only [HSt.den,bw,hbi,if_false];exact hb
 refine h w0 m0 a w ?_
 have hevo:∀ (c1:Ctx),c1.own = (fun k=>if k = id then u else cc.own k) → Evo { old:=cc.old,imm:=cc.imm,tab:=cc.tab,own:=fun k=>if k = id then u else cc.own k,blk:=fun k=>if k = id then noB else cc.blk k,rows:=cc.rows } (HSt.den ⟨st.t,(id,some (.arr wr s e n f)) :: st.o⟩).o c1 ((HSt.den ⟨st.t,(id,some (.arr wr s e n f)) :: st.o⟩).setO bx (some (.box (bn l off [.ref id n])))).o bx:=fun c1 h1 =>
  .inr (.inl ⟨l,bn l off [.ref id n],hb',by simp [S.setO],by rw [h1]⟩)
 have hown:(fun k=>if k = bx then (fun k=>if k = id then u else cc.own k) bx else (fun k=>if k = id then u else cc.own k) k) = fun k=>if k = id then u else cc.own k:=by
  funext k
  by_cases hk:k = bx
  · subst hk;simp
  simp [hk]
 have hw:=hfresh.write bx (.box l) hb' (.box (bn l off [.ref id n])) w ((fun k=>if k = id then u else cc.own k) bx) ((fun k=>if k = id then noB else cc.blk k) bx) none (Grw.refl w _) (fun _ e=>by cases e) (hevo _ (by exact hown)) (fun b hb=>.inl hb) (by
  refine ⟨b0,C0,e0,by simpa [hbi] using p1,by simpa [hbi] using p2,p3,p4, ?_⟩
  have hoff:off < l.length:=(List.getElem?_eq_some_iff.1 hl).1
  have hcl:=p5.length
  refine b8.of_get ?_ fun k x u' hx' hu'=>?_
  · simp only [bn,List.length_append,List.length_take,List.length_drop,List.length_singleton];omega
  have hx2:=hx'
  unfold bn at hx2
  rw [dt l [HV.ref id n] off k (by simp;omega)] at hx2
  by_cases hk:k = off
  · subst hk
    simp at hx2
    subst hx2
    rw [hu] at hu'
    simp only [Option.some.injEq] at hu'
    subst hu'
    refine ⟨ay.oneCell hx,fun l2=>by simp [S.setO,HSt.den,bw,Ne.symm hbi],fun ob1 s1 e1 n1 ho hd1=>?_⟩
    simp only [S.setO,HSt.den,bw,Ne.symm hbi,if_false,if_true,Option.some.injEq] at ho
    subst ho
    simp only [ai.dim,Option.some.injEq,Prod.mk.injEq] at hd1
    obtain ⟨rfl,rfl,rfl⟩:=hd1
    exact ⟨Nat.le_refl _,fun _=>by simp [Ne.symm hbi]⟩
  rw [if_neg (by simp;omega)] at hx2
  obtain ⟨u2,hu2,hr2⟩:=p5.get k x hx2
  rw [hu'] at hu2
  simp only [Option.some.injEq] at hu2
  subst hu2
  refine bm.evo (c:=cc) (o:=st.den.o) (Imm.le.refl cc.imm) (fun j hj=>?_) hr2
  have hji:j ≠ id:=by
   rintro rfl
   exact hnm.2.1 bx _ hb ⟨x,List.mem_of_getElem? hx2,hj⟩
  by_cases hjb:j = bx
  · subst hjb;exact .inr (.inl ⟨l,bn l off [.ref id n],hb,by simp [S.setO],by simp [hji]⟩)
  exact Evo.of_same (by simp [S.setO,hjb,HSt.den,bw,hji]) (by simp [hjb,hji]))
 have e:HSt.den ⟨st.t,(bx,some (.box (bn l off [.ref id n]))) :: (id,some (.arr wr s e n f)) :: st.o⟩ = (HSt.den ⟨st.t,(id,some (.arr wr s e n f)) :: st.o⟩).setO bx (some (.box (bn l off [.ref id n]))):=by
  unfold HSt.den S.setO
  simp only [S.mk.injEq,true_and]
  funext k
  simp only [bw]
 rw [e]
 exact ⟨_,(by exact hold),hw⟩
theorem dg {c:Code} (d:Nat) {n s:Nat} {cl:Bool} {f:Nat → Nat → PV} (hd:bq st.t d = some (bp (.sl n s cl f))) (h:n ≤ 9223372036854775807 → HW (ro:=ro) P nt c st Q):HW (ro:=ro) P nt c st Q:=fun w0 m0 a w hr=>by
 have hr':=hr
 obtain ⟨cc,hold,hrr⟩:=hr'
 obtain ⟨ad,cap,_,h1,h2,_⟩:=hrr.tmps d _ hd
 exact h (by simp only [maxLen] at h2;omega) w0 m0 a w hr
theorem a9n {c:Code} (id:Nat) {n s:Nat} {wr:Bool} {e:TypeId} {f:Nat → Nat → PV} (hb:bq st.o id = some (.arr wr s e n f)) (h:n ≤ 9223372036854775807 → HW (ro:=ro) P nt c st Q):HW (ro:=ro) P nt c st Q:=fun w0 m0 a w hr=>by
 have hr':=hr
 obtain ⟨cc,hold,hrr⟩:=hr'
 have:=(hrr.objs id _ hb).2.1
 exact h (by simp only [maxLen] at this;omega) w0 m0 a w hr
end
end
end Go.Hx
section
namespace Go.Hx
open Go.Proofs
def am:List (Option TI):=[
 none,
 some ⟨.func,1,8,some [.nilFunc],false,false,true⟩,
 some ⟨.int .i64,1,8,some [.int .i64 0],false,false,true⟩,
 some ⟨.int .i64,1,8,some [.int .i64 0],false,false,true⟩,
 some ⟨.bool,1,1,some [.bool false],false,false,true⟩,
 some ⟨.int .u8,1,1,some [.int .u8 0],false,false,true⟩,
 none,
 none,
 none,
 some ⟨.string,1,16,some [.string ⟨#[]⟩],false,false,true⟩,
 none,
 none,
 none,
 none,
 none,
 none,
 none,
 none,
 none,
 none,
 none,
 none,
 some ⟨.slice 113,1,24,some [.slice none 0 0],false,false,true⟩,
 some ⟨.slice 5,1,24,some [.slice none 0 0],false,false,true⟩,
 some ⟨.struct [(0,5,false),(1,22,false),(2,22,false),(3,23,false)],4,80,some [.int .u8 0, .slice none 0 0, .slice none 0 0, .slice none 0 0],false,false,false⟩,
 some ⟨.struct [(0,5,false),(1,22,false),(2,22,false),(3,23,false)],4,80,some [.int .u8 0, .slice none 0 0, .slice none 0 0, .slice none 0 0],false,false,false⟩,
 some ⟨.slice 48,1,24,some [.slice none 0 0],false,false,true⟩,
 some ⟨.slice 49,1,24,some [.slice none 0 0],false,false,true⟩,
 some ⟨.slice 46,1,24,some [.slice none 0 0],false,false,true⟩,
 none,
 none,
 none,
 some ⟨.slice 129,1,24,some [.slice none 0 0],false,false,true⟩,
 some ⟨.struct [(0,28,false),(1,3,false),(2,32,false)],3,56,some [.slice none 0 0, .int .i64 0, .slice none 0 0],false,false,false⟩,
 some ⟨.struct [(0,28,false),(1,3,false),(2,32,false)],3,56,some [.slice none 0 0, .int .i64 0, .slice none 0 0],false,false,false⟩,
 some ⟨.int .i64,1,8,some [.int .i64 0],false,false,true⟩,
 none,
 none,
 none,
 none,
 none,
 none,
 none,
 some ⟨.int .u32,1,4,some [.int .u32 0],false,false,true⟩,
 none,
 none,
 some ⟨.int .u32,1,4,some [.int .u32 0],false,false,true⟩,
 some ⟨.struct [(0,46,false),(1,46,false)],2,8,some [.int .u32 0, .int .u32 0],false,false,false⟩,
 some ⟨.struct [(0,46,false),(1,46,false)],2,8,some [.int .u32 0, .int .u32 0],false,false,false⟩,
 some ⟨.struct [(0,46,false),(1,46,false)],2,8,some [.int .u32 0, .int .u32 0],false,false,false⟩,
 none,
 none,
 none,
 none,
 some ⟨.func,1,8,some [.nilFunc],false,false,true⟩,
 none,
 none,
 some ⟨.slice 9,1,24,some [.slice none 0 0],false,false,true⟩,
 none,
 none,
 none,
 none,
 none,
 none,
 none,
 none,
 none,
 none,
 none,
 none,
 none,
 none,
 none,
 none,
 none,
 none,
 none,
 none,
 none,
 none,
 some ⟨.struct [(0,3,false),(1,26,false),(2,27,false)],3,56,some [.int .i64 0, .slice none 0 0, .slice none 0 0],false,false,false⟩,
 some ⟨.struct [(0,3,false),(1,26,false),(2,27,false)],3,56,some [.int .i64 0, .slice none 0 0, .slice none 0 0],false,false,false⟩,
 none,
 none,
 some ⟨.slice 3,1,24,some [.slice none 0 0],false,false,true⟩,
 none,
 none,
 none,
 none,
 none,
 none,
 some ⟨.func,1,8,some [.nilFunc],false,false,true⟩,
 some ⟨.pointer 94,1,8,some [.pointer none],false,false,true⟩,
 some ⟨.struct [(0,92,false),(1,23,false)],2,32,some [.pointer none, .slice none 0 0],false,false,false⟩,
 some ⟨.struct [(0,92,false),(1,23,false)],2,32,some [.pointer none, .slice none 0 0],false,false,false⟩,
 none,
 none,
 none,
 none,
 none,
 none,
 none,
 none,
 none,
 some ⟨.func,1,8,some [.nilFunc],false,false,true⟩,
 some ⟨.slice 111,1,24,some [.slice none 0 0],false,false,true⟩,
 none,
 none,
 none,
 some ⟨.slice 84,1,24,some [.slice none 0 0],false,false,true⟩,
 some ⟨.struct [(0,3,false),(1,109,false)],2,32,some [.int .i64 0, .slice none 0 0],false,false,false⟩,
 some ⟨.struct [(0,3,false),(1,109,false)],2,32,some [.int .i64 0, .slice none 0 0],false,false,false⟩,
 none,
 some ⟨.array 2 5,2,2,some [.int .u8 0, .int .u8 0],false,false,false⟩,
 none,
 none,
 none,
 none,
 none,
 some ⟨.func,1,8,some [.nilFunc],false,false,true⟩,
 none,
 none,
 none,
 none,
 none,
 none,
 none,
 none,
 some ⟨.struct [(0,4,false),(1,3,false),(2,3,false),(3,3,false)],4,32,some [.bool false, .int .i64 0, .int .i64 0, .int .i64 0],false,false,false⟩,
 some ⟨.struct [(0,4,false),(1,3,false),(2,3,false),(3,3,false)],4,32,some [.bool false, .int .i64 0, .int .i64 0, .int .i64 0],false,false,false⟩,
 none,
 some ⟨.func,1,8,some [.nilFunc],false,false,true⟩,
 some ⟨.func,1,8,some [.nilFunc],false,false,true⟩,
 none,
 none,
 none,
 none,
 some ⟨.func,1,8,some [.nilFunc],false,false,true⟩,
 none,
 none,
 none,
 some ⟨.func,1,8,some [.nilFunc],false,false,true⟩,
 none,
 none,
 none,
 none,
 some ⟨.func,1,8,some [.nilFunc],false,false,true⟩,
 some ⟨.func,1,8,some [.nilFunc],false,false,true⟩,
 none,
 some ⟨.func,1,8,some [.nilFunc],false,false,true⟩,
 none,
 none,
 none,
 some ⟨.pointer 5,1,8,some [.pointer none],false,false,true⟩,
 none,
 some ⟨.func,1,8,some [.nilFunc],false,false,true⟩,
 none,
 none,
 none,
 none,
 none,
 some ⟨.func,1,8,some [.nilFunc],false,false,true⟩,
 none,
 none,
 none,
 none,
 none,
 some ⟨.func,1,8,some [.nilFunc],false,false,true⟩,
 none,
 none,
 none,
 none,
 none,
 none,
 some ⟨.func,1,8,some [.nilFunc],false,false,true⟩,
 none,
 some ⟨.array 32 5,32,32,some [.int .u8 0, .int .u8 0, .int .u8 0, .int .u8 0, .int .u8 0, .int .u8 0, .int .u8 0, .int .u8 0, .int .u8 0, .int .u8 0, .int .u8 0, .int .u8 0, .int .u8 0, .int .u8 0, .int .u8 0, .int .u8 0, .int .u8 0, .int .u8 0, .int .u8 0, .int .u8 0, .int .u8 0, .int .u8 0, .int .u8 0, .int .u8 0, .int .u8 0, .int .u8 0, .int .u8 0, .int .u8 0, .int .u8 0, .int .u8 0, .int .u8 0, .int .u8 0],false,false,false⟩,
 some ⟨.int .u64,1,8,some [.int .u64 0],false,false,true⟩,
 none,
 none,
 none,
 none,
 some ⟨.int .u64,1,8,some [.int .u64 0],false,false,true⟩,
 none,
 none,
 some ⟨.func,1,8,some [.nilFunc],false,false,true⟩,
 some ⟨.func,1,8,some [.nilFunc],false,false,true⟩,
 none,
 none,
 none,
 none,
 some ⟨.func,1,8,some [.nilFunc],false,false,true⟩,
 none,
 none,
 some ⟨.map 46 46,1,8,some [.map none],false,false,true⟩,
 none,
 none,
 none,
 some ⟨.func,1,8,some [.nilFunc],false,false,true⟩,
 none,
 none,
 none,
 none,
 none,
 none,
 none,
 none,
 none,
 none,
 none,
 none,
 none,
 none,
 none,
 none,
 some ⟨.func,1,8,some [.nilFunc],false,false,true⟩,
 none,
 none,
 none,
 some ⟨.func,1,8,some [.nilFunc],false,false,true⟩,
 none,
 none,
 none,
 none,
 none,
 none,
 none,
 none,
 none,
 none,
 none,
 none,
 none,
 none,
 none,
 none,
 none,
 some ⟨.func,1,8,some [.nilFunc],false,false,true⟩,
 none,
 none,
 none,
 none,
 none,
 none,
 none,
 none,
 none,
 none,
 none,
 none,
 none,
 none,
 none,
 none,
 none,
 none,
 none,
 some ⟨.slice 26,1,24,some [.slice none 0 0],false,false,true⟩,
 none,
 none,
 none,
 none,
 none,
 none,
 none,
 none,
 none,
 none,
 none,
 none,
 none,
 none,
 none,
 none,
 none,
 none,
 none,
 none,
 none,
 none,
 none,
 none,
 none]
def bh:List (Option TI) → Nat → Option TI
 | [],_=>none
 | x :: _,0=>x
 | _ :: r,n + 1=>bh r n
def bj:Env:=bh am
def alw (P:Program):List (Option TI) → Nat → Prop
 | [],_=>True
 | none :: r,n=>alw P r (n + 1)
 | some i :: r,n=>bu P n = some i ∧ alw P r (n + 1)
theorem a3l {P:Program}:∀ {l:List (Option TI)} {n:Nat},alw P l n → ∀ t i,bh l t = some i → bu P (n + t) = some i
 | [],_,_,t,i,h=>by simp [bh] at h
 | none :: r,n,hf,0,i,h=>by simp [bh] at h
 | some x :: r,n,hf,0,i,h=>by simp only [bh,Option.some.injEq] at h;subst h;exact hf.1
 | none :: r,n,hf,t + 1,i,h=>by have:=a3l (l:=r) (n:=n + 1) hf t i h;rwa [show n + (t + 1) = n + 1 + t by omega]
 | some x :: r,n,hf,t + 1,i,h=>by have:=a3l (l:=r) (n:=n + 1) hf.2 t i h;rwa [show n + (t + 1) = n + 1 + t by omega]
theorem b0u:bu Tryz.prog 1 = bh am 1:=by kernel_rfl
theorem b3o:bu Tryz.prog 2 = bh am 2:=by kernel_rfl
theorem b2f:bu Tryz.prog 3 = bh am 3:=by kernel_rfl
theorem azs:bu Tryz.prog 4 = bh am 4:=by kernel_rfl
theorem azp:bu Tryz.prog 5 = bh am 5:=by kernel_rfl
theorem b1s:bu Tryz.prog 9 = bh am 9:=by kernel_rfl
theorem at0:bu Tryz.prog 22 = bh am 22:=by kernel_rfl
theorem au6:bu Tryz.prog 23 = bh am 23:=by kernel_rfl
theorem aw3:bu Tryz.prog 24 = bh am 24:=by kernel_rfl
theorem avq:bu Tryz.prog 25 = bh am 25:=by kernel_rfl
theorem aux:bu Tryz.prog 26 = bh am 26:=by kernel_rfl
theorem aum:bu Tryz.prog 27 = bh am 27:=by kernel_rfl
theorem aur:bu Tryz.prog 28 = bh am 28:=by kernel_rfl
theorem av9:bu Tryz.prog 32 = bh am 32:=by kernel_rfl
theorem awc:bu Tryz.prog 33 = bh am 33:=by kernel_rfl
theorem at1:bu Tryz.prog 34 = bh am 34:=by kernel_rfl
theorem awu:bu Tryz.prog 35 = bh am 35:=by kernel_rfl
theorem avp:bu Tryz.prog 43 = bh am 43:=by kernel_rfl
theorem avn:bu Tryz.prog 46 = bh am 46:=by kernel_rfl
theorem ata:bu Tryz.prog 47 = bh am 47:=by kernel_rfl
theorem auc:bu Tryz.prog 48 = bh am 48:=by kernel_rfl
theorem av8:bu Tryz.prog 49 = bh am 49:=by kernel_rfl
theorem atx:bu Tryz.prog 54 = bh am 54:=by kernel_rfl
theorem atf:bu Tryz.prog 57 = bh am 57:=by kernel_rfl
theorem awk:bu Tryz.prog 80 = bh am 80:=by kernel_rfl
theorem aue:bu Tryz.prog 81 = bh am 81:=by kernel_rfl
theorem awv:bu Tryz.prog 84 = bh am 84:=by kernel_rfl
theorem att:bu Tryz.prog 91 = bh am 91:=by kernel_rfl
theorem aw7:bu Tryz.prog 92 = bh am 92:=by kernel_rfl
theorem avk:bu Tryz.prog 93 = bh am 93:=by kernel_rfl
theorem aww:bu Tryz.prog 94 = bh am 94:=by kernel_rfl
theorem as1:bu Tryz.prog 104 = bh am 104:=by kernel_rfl
theorem ap2:bu Tryz.prog 105 = bh am 105:=by kernel_rfl
theorem anw:bu Tryz.prog 109 = bh am 109:=by kernel_rfl
theorem as4:bu Tryz.prog 110 = bh am 110:=by kernel_rfl
theorem asv:bu Tryz.prog 111 = bh am 111:=by kernel_rfl
theorem aqo:bu Tryz.prog 113 = bh am 113:=by kernel_rfl
theorem aqt:bu Tryz.prog 119 = bh am 119:=by kernel_rfl
theorem apw:bu Tryz.prog 128 = bh am 128:=by kernel_rfl
theorem ao4:bu Tryz.prog 129 = bh am 129:=by kernel_rfl
theorem aoe:bu Tryz.prog 131 = bh am 131:=by kernel_rfl
theorem aqs:bu Tryz.prog 132 = bh am 132:=by kernel_rfl
theorem aqj:bu Tryz.prog 137 = bh am 137:=by kernel_rfl
theorem ap6:bu Tryz.prog 141 = bh am 141:=by kernel_rfl
theorem apb:bu Tryz.prog 146 = bh am 146:=by kernel_rfl
theorem aod:bu Tryz.prog 147 = bh am 147:=by kernel_rfl
theorem anh:bu Tryz.prog 149 = bh am 149:=by kernel_rfl
theorem apr:bu Tryz.prog 153 = bh am 153:=by kernel_rfl
theorem apz:bu Tryz.prog 155 = bh am 155:=by kernel_rfl
theorem aq4:bu Tryz.prog 161 = bh am 161:=by kernel_rfl
theorem arp:bu Tryz.prog 167 = bh am 167:=by kernel_rfl
theorem arb:bu Tryz.prog 174 = bh am 174:=by kernel_rfl
theorem aqr:bu Tryz.prog 176 = bh am 176:=by kernel_rfl
theorem aq8:bu Tryz.prog 177 = bh am 177:=by kernel_rfl
theorem aoc:bu Tryz.prog 182 = bh am 182:=by kernel_rfl
theorem aow:bu Tryz.prog 185 = bh am 185:=by kernel_rfl
theorem arz:bu Tryz.prog 186 = bh am 186:=by kernel_rfl
theorem anu:bu Tryz.prog 191 = bh am 191:=by kernel_rfl
theorem ase:bu Tryz.prog 194 = bh am 194:=by kernel_rfl
theorem ar0:bu Tryz.prog 198 = bh am 198:=by kernel_rfl
theorem ao0:bu Tryz.prog 215 = bh am 215:=by kernel_rfl
theorem ap0:bu Tryz.prog 219 = bh am 219:=by kernel_rfl
theorem asm:bu Tryz.prog 237 = bh am 237:=by kernel_rfl
theorem aoz:bu Tryz.prog 257 = bh am 257:=by kernel_rfl
theorem awr:alw Tryz.prog am 0:=⟨b0u,⟨b3o,⟨b2f,⟨azs,⟨azp,⟨b1s,⟨at0,⟨au6,⟨aw3,⟨avq,⟨aux,⟨aum,⟨aur,⟨av9,⟨awc,⟨at1,⟨awu,⟨avp,⟨avn,⟨ata,⟨auc,⟨av8,⟨atx,⟨atf,⟨awk,⟨aue,⟨awv,⟨att,⟨aw7,⟨avk,⟨aww,⟨as1,⟨ap2,⟨anw,⟨as4,⟨asv,⟨aqo,⟨aqt,⟨apw,⟨ao4,⟨aoe,⟨aqs,⟨aqj,⟨ap6,⟨apb,⟨aod,⟨anh,⟨apr,⟨apz,⟨aq4,⟨arp,⟨arb,⟨aqr,⟨aq8,⟨aoc,⟨aow,⟨arz,⟨anu,⟨ase,⟨ar0,⟨ao0,⟨ap0,⟨asm,⟨aoz,trivial⟩⟩⟩⟩⟩⟩⟩⟩⟩⟩⟩⟩⟩⟩⟩⟩⟩⟩⟩⟩⟩⟩⟩⟩⟩⟩⟩⟩⟩⟩⟩⟩⟩⟩⟩⟩⟩⟩⟩⟩⟩⟩⟩⟩⟩⟩⟩⟩⟩⟩⟩⟩⟩⟩⟩⟩⟩⟩⟩⟩⟩⟩⟩⟩
theorem a7:d5 Tryz.prog bj:=fun t i h=>by
 have:=a3l awr t i h
 rwa [Nat.zero_add] at this
theorem aw:Tryz.prog.follows .mixedOrders = true:=by kernel_rfl
end Go.Hx
namespace Go.Hx
open Go.Proofs
section
variable {ro:Option Nat} {P:Program} {E:Env} {nt:Nat} {ops:Array Oper} {i:Nat} {o:Oper} {st:HSt} {L:List Nat} {K:List Tr → HSt → Prop} {Q:Exit → HSt → Prop}
theorem qy {out:Out} {gb:Bool} (hT:Reg P E nt ops L (st.after o.dst (some out.val) []) fun T sf=>K (⟨i,a7y true out.val.ids,looks st.den o,ci st.den o.dst [],fl E st.den o⟩ :: T) sf)
 (hi:ops[i]? = some o:=by exact rfl) (hw:b4 ops st.den o = some gb:=by exact rfl) (hd:dq nt o.dst = true:=by exact rfl) (hq':hq E true st.den.o (ev st.den) o.op = some out:=by exact rfl) (hg:gb = true:=by exact rfl)
 (hp:out.pre:=by first | exact trivial | (simp only [gj,inR,md,o6];omega) | exact ael _ _ | exact ⟨trivial,trivial⟩ | exact ⟨trivial,Nat.le_of_ble_eq_true rfl⟩ | (try dsimp only) <;> ((repeat' apply And.intro) <;> first | trivial | rfl | omega | (simp only [ej,bc];omega) | assumption | exact Nat.le_of_ble_eq_true rfl)) :
 Reg P E nt ops (i :: L) st K:=ce true hi hw hd hq' hg hp hT
theorem k9 {gb:Bool} (hg:gb = false) (hT:Reg P E nt ops L (st.after o.dst (some (.tup [])) []) fun T sf=>K (⟨i,a7y true [],looks st.den o,ci st.den o.dst [],none⟩ :: T) sf)
 (hi:ops[i]? = some o:=by exact rfl) (hw:b4 ops st.den o = some gb:=by exact rfl) (hd:dq nt o.dst = true:=by exact rfl):Reg P E nt ops (i :: L) st K:=aju hi hw hd hg hT
theorem m9 (id:Nat) {nw:New} {gb:Bool} (hT:Reg P E nt ops L (st.after o.dst (some nw.val) [(id,some nw.ob)]) fun T sf=>K (⟨i,⟨id,false,true, .tup [],[id],[id],nw.val.ids ++ nw.ob.ids⟩,looks st.den o,ci st.den o.dst [(id,some nw.ob)],none⟩ :: T) sf)
 (hi:ops[i]? = some o:=by exact rfl) (hw:b4 ops st.den o = some gb:=by exact rfl) (hd:dq nt o.dst = true:=by exact rfl) (hq':ha E (ev st.den) id o.op = some nw:=by exact rfl) (hn:se id st = true:=by exact rfl) (hg:gb = true:=by exact rfl)
 (hp:nw.pre:=by first | exact trivial | (try dsimp only) <;> ((repeat' apply And.intro) <;> first | trivial | rfl | omega | assumption)):Reg P E nt ops (i :: L) st K:=vn id hi hw hd hq' hn hg hp hT
theorem s9 {u:Upd} {gb:Bool} (hT:Reg P E nt ops L (st.after o.dst none [(u.id,some u.ob)]) fun T sf=>K (⟨i,⟨0,false,true, .tup [],[u.id],[],u.ob.ids⟩,looks st.den o,ci st.den o.dst [(u.id,some u.ob)],fl E st.den o⟩ :: T) sf)
 (hi:ops[i]? = some o:=by exact rfl) (hw:b4 ops st.den o = some gb:=by exact rfl) (hd:dq nt o.dst = true:=by exact rfl) (hq':hs E st.den.o (ev st.den) o.op = some u:=by exact rfl) (hg:gb = true:=by exact rfl)
 (hp:u.pre:=by first | exact Nat.le_of_ble_eq_true rfl | (try dsimp only) <;> ((repeat' apply And.intro) <;> first | trivial | rfl | omega | (simp only [ej,bc];omega) | assumption | exact Nat.le_of_ble_eq_true rfl)):Reg P E nt ops (i :: L) st K:=aft hi hw hd hq' hg hp hT
theorem f9 {rs:List ResultVar} {res:List PC} {p q:Prop} {l:List HC} {vs:List PC} (h1:ye E st.den rs = some (p,l)) (h2:oi st.den.o l = some (q,vs)) (hc:CoL vs res)
 (hp:p:=by (repeat' apply And.intro) <;> first | trivial | exact Nat.le_of_ble_eq_true rfl | rfl) (hq:q:=by (repeat' apply And.intro) <;> first | trivial | exact Nat.le_of_ble_eq_true rfl | rfl):amz E st rs res:=⟨p,l,q,vs,h1,hp,h2,hq,hc⟩
theorem c9 {f:Option HR} {x:HR} (h:f = some x:=by exact rfl):∃ y,f = some y ∧ CoR y x:=⟨x,h,CoR.refl x⟩
theorem u9 {f:Option ai} {x:ai} (h:f = some x:=by exact rfl):∃ y,f = some y ∧ CoO y x:=⟨x,h,CoO.refl x⟩
theorem zy {f:Option HR} {x y:HR} (h:f = some y:=by exact rfl) (c:CoR y x:=by first | exact CoR.refl _ | exact coi (by omega) | exact cob (by simp_all)):∃ y,f = some y ∧ CoR y x:=⟨y,h,c⟩
theorem l9 {a b:Nat} (h:Nat.ble a b = true:=by exact rfl):a ≤ b:=Nat.le_of_ble_eq_true h
theorem qcx {cl:Call} {f:FuncId} {fst caps args vs:List PC} {p:Prop} {b:Bool} {res:PR} {gb:Bool} (hf:goodFn P f) (hpure:af P f args res)
 (hT:Reg P E nt ops L (st.after o.dst (some res.toH) []) fun T sf=>K (⟨i,⟨0,false,true,res,[],[],[]⟩,looks st.den o,ci st.den o.dst [],none⟩ :: T) sf)
 (hi:ops[i]? = some o:=by exact rfl) (hw:b4 ops st.den o = some gb:=by exact rfl) (hd:dq nt o.dst = true:=by exact rfl) (ho:o.op = .call cl:=by exact rfl) (hc:callee (ev st.den) cl = some (f,fst,caps):=by exact rfl)
 (hv:j7 st.den.o (ev st.den) cl.args.toList = some (p,vs,b):=by exact rfl) (hco:CoL (fst ++ (vs ++ caps)) args:=by exact CoL.refl _) (hb:(!b || res.flat) = true:=by exact rfl) (hg:gb = true:=by exact rfl)
 (hp:p:=by (try dsimp only) <;> ((repeat' apply And.intro) <;> first | trivial | rfl | omega | assumption)):Reg P E nt ops (i :: L) st K:=aji hi hw hd ho hc hv hf hpure hco hg hp hb hT
theorem wgx {f : FuncId} {fn : Func} (h : P.funcs[f]? = some fn) (h1 : (fn.name == "runtime.NumGoroutine") = false := by kernel_rfl) (h2 : fn.body.isNone = false := by kernel_rfl) : goodFn P f := ⟨fn, h, h1, h2⟩
theorem ae {p:Prop} [Decidable p] (h:decide p = true):p:=of_decide_eq_true h
theorem aa {p:Prop} [Decidable p] (h:decide p = false):¬ p:=of_decide_eq_false h
theorem ty {n:Nat}:((n:Nat):Int).toNat = n:=Int.toNat_natCast n
end
theorem gy {ro:Option Nat} {nt id:Nat} {ops:Array Oper} {st:HSt} {Q:Exit → HSt → Prop} (h:Reg Tryz.prog bj nt ops (List.range ops.size) st fun _ sf=>Q .normal sf):HW (ro:=ro) Tryz.prog nt (.region id ops false) st Q:=ad7 a7 h
end Go.Hx
namespace Go.Hx
open Go.Proofs
theorem sx7 {ro:Option Nat} {nt id:Nat} {ops:Array Oper} {st:HSt} {y:Code} {Q:Exit → HSt → Prop} (h:Reg Tryz.prog bj nt ops (List.range ops.size) st fun _ sf=>b4l (ro:=ro) Tryz.prog nt y Q .normal sf):HW (ro:=ro) Tryz.prog nt (.seq (.region id ops false) y) st Q:=d8 (ad7 a7 h)
theorem hx8 {ro:Option Nat} {P:Program} {E:Env} {nt:Nat} {st:HSt} {Q:Exit → HSt → Prop} {rs:List ResultVar} {res:List PC} {p q:Prop} {l:List HC} {vs:List PC} (hQ:Q .ret st = ((Exit.ret = .normal ∨ Exit.ret = .ret) ∧ amz E st rs res)) (h1:ye E st.den rs = some (p,l)) (h2:oi st.den.o l = some (q,vs)) (hc:CoL vs res)
 (hp:p:=by (repeat' apply And.intro) <;> first | trivial | exact Nat.le_of_ble_eq_true rfl | rfl) (hq:q:=by (repeat' apply And.intro) <;> first | trivial | exact Nat.le_of_ble_eq_true rfl | rfl):HW (ro:=ro) P nt .ret st Q:=go (hQ ▸ ⟨.inr rfl,p,l,q,vs,h1,hp,h2,hq,hc⟩)
end Go.Hx
end
section
namespace Go.Hx
structure Hq (Q:Prop):Prop where
 v:Q
theorem w_1 {P Q:Prop} (hQ:Q) (h:Hq Q → P:=by intro h;(first | refine qy ?_ | refine ax ?_ | refine d8 ?_ | refine gy ?_ | refine s9 ?_ | refine dn ?_ | refine go ?_ | refine agw ?_ | refine fe ?_);exact h.v):P:=h ⟨hQ⟩
theorem w_2 {P Q:Prop} (hQ:Q) (h:Hq Q → P:=by intro h;(iterate 2 refine w_1 ?_);exact h.v):P:=h ⟨hQ⟩
theorem w_3 {P Q:Prop} (hQ:Q) (h:Hq Q → P:=by intro h;(iterate 3 refine w_1 ?_);exact h.v):P:=h ⟨hQ⟩
theorem w_4 {P Q:Prop} (hQ:Q) (h:Hq Q → P:=by intro h;(iterate 4 refine w_1 ?_);exact h.v):P:=h ⟨hQ⟩
theorem w_5 {P Q:Prop} (hQ:Q) (h:Hq Q → P:=by intro h;(iterate 5 refine w_1 ?_);exact h.v):P:=h ⟨hQ⟩
theorem w_6 {P Q:Prop} (hQ:Q) (h:Hq Q → P:=by intro h;(iterate 6 refine w_1 ?_);exact h.v):P:=h ⟨hQ⟩
theorem w_7 {P Q:Prop} (hQ:Q) (h:Hq Q → P:=by intro h;(iterate 7 refine w_1 ?_);exact h.v):P:=h ⟨hQ⟩
theorem w_8 {P Q:Prop} (hQ:Q) (h:Hq Q → P:=by intro h;(iterate 8 refine w_1 ?_);exact h.v):P:=h ⟨hQ⟩
theorem w_9 {P Q:Prop} (hQ:Q) (h:Hq Q → P:=by intro h;(iterate 9 refine w_1 ?_);exact h.v):P:=h ⟨hQ⟩
theorem dl {P Q:Prop} (hQ:Q) (h:Hq Q → P:=by intro h;(iterate 10 refine w_1 ?_);exact h.v):P:=h ⟨hQ⟩
theorem f8 {P Q:Prop} (hQ:Q) (h:Hq Q → P:=by intro h;(iterate 11 refine w_1 ?_);exact h.v):P:=h ⟨hQ⟩
theorem fc {P Q:Prop} (hQ:Q) (h:Hq Q → P:=by intro h;(iterate 12 refine w_1 ?_);exact h.v):P:=h ⟨hQ⟩
theorem kf {P Q:Prop} (hQ:Q) (h:Hq Q → P:=by intro h;(iterate 13 refine w_1 ?_);exact h.v):P:=h ⟨hQ⟩
theorem wg {P Q:Prop} (hQ:Q) (h:Hq Q → P:=by intro h;(iterate 14 refine w_1 ?_);exact h.v):P:=h ⟨hQ⟩
theorem mr {P Q:Prop} (hQ:Q) (h:Hq Q → P:=by intro h;(iterate 15 refine w_1 ?_);exact h.v):P:=h ⟨hQ⟩
theorem a6o {P Q:Prop} (hQ:Q) (h:Hq Q → P:=by intro h;(iterate 16 refine w_1 ?_);exact h.v):P:=h ⟨hQ⟩
theorem ae8 {P Q:Prop} (hQ:Q) (h:Hq Q → P:=by intro h;(iterate 17 refine w_1 ?_);exact h.v):P:=h ⟨hQ⟩
theorem amv {P Q:Prop} (hQ:Q) (h:Hq Q → P:=by intro h;(iterate 18 refine w_1 ?_);exact h.v):P:=h ⟨hQ⟩
theorem a2e {P Q:Prop} (hQ:Q) (h:Hq Q → P:=by intro h;(iterate 19 refine w_1 ?_);exact h.v):P:=h ⟨hQ⟩
theorem aay {P Q:Prop} (hQ:Q) (h:Hq Q → P:=by intro h;(iterate 20 refine w_1 ?_);exact h.v):P:=h ⟨hQ⟩
theorem amo {P Q:Prop} (hQ:Q) (h:Hq Q → P:=by intro h;(iterate 21 refine w_1 ?_);exact h.v):P:=h ⟨hQ⟩
theorem bca {P Q:Prop} (hQ:Q) (h:Hq Q → P:=by intro h;(iterate 22 refine w_1 ?_);exact h.v):P:=h ⟨hQ⟩
theorem bbg {P Q:Prop} (hQ:Q) (h:Hq Q → P:=by intro h;(iterate 30 refine w_1 ?_);exact h.v):P:=h ⟨hQ⟩
end Go.Hx
end
namespace Go.Hx
section
open Go.Proofs Go.Lib Go.RowKit
theorem b4j (w:World) (o:Obj) {r:Nat} (h:r < w.heap.size):(w.alloc o).heap[r]? = w.heap[r]?:=by
 show (w.heap.push o)[r]? = _
 rw [Array.getElem?_push_lt h,Array.getElem?_eq_getElem h]
def bdf (k:Nat) (xs vs:List Value):List Value:=xs.take k ++ vs ++ xs.drop k
structure bct (w w':World) (T s:Nat) (own v:Value) (n:Nat) (xs:List Value):Prop where
 row:w'.ownsRow 0 T s v (n + 1) xs
 bl:Below 0 w w'
 out:∀ g,g < w.heap.size → cw own ≠ some g → w'.heap[g]? = w.heap[g]?
 at_:∀ g,cw v = some g → w.heap.size ≤ g ∨ cw own = some g
def bdt (i:Nat) (F G:Nat → Nat → PV):Nat → Nat → PV:=fun k j=>if k < i then F k j else if k = i then G 0 j else F (k - 1) j
theorem ip {id q:Nat} {x ob:ai} (h:lk [(q,x)] id = some ob):id = q ∧ ob = x:=by
 simp only [lk] at h
 by_cases hk:q = id
 · subst hk
   simp at h
   exact ⟨rfl,h.symm⟩
 have:Nat.beq q id = false:=by
  rw [Bool.eq_false_iff];exact fun hb=>hk (Nat.eq_of_beq_eq_true hb)
 rw [this] at h
 cases h
structure bdq (c:Ctx) (w w':World) (T s a:Nat) (v:Value) (n:Nat) (ys:List Value):Prop where
 row:w'.ownsRow 0 T s v (n + 1) ys
 bl:Below 0 w w'
 out:∀ g,g < w.heap.size → ¬ c.blk a g → w'.heap[g]? = w.heap[g]?
 at_:∀ g,cw v = some g → w.heap.size ≤ g ∨ c.blk a g
theorem atk {P:Program} {f:FuncId} {T s a:Nat} {y:Value} {F:Nat → Nat → PV} (hs:0 < s)
 (h:∀ (w:World) (ad:Option Addr),Calls P f #[.slice ad 0 0,y] w fun e w'=>∃ v,e = .returned v ∧ Below w.heap.size w w' ∧ (v = .slice ad 0 0 ∨ w'.ownsRow 0 T s v 0 [] ∧ ∀ g,cw v = some g → w.heap.size ≤ g)) :
 dw P f [.one (.p (jg (.slice none 0 0))), .one (.p (.raw y))] [] (.v (.one (.ref a 0))) [(a, .arr true s T 0 F)] []:=by
 intro w c us hM hrep
 obtain ⟨ad,rfl⟩:∃ ad,us = [.slice ad 0 0,y]:=by
  match us,hrep with
  | [u0,u1],⟨h0,h1,_⟩ =>
   obtain ⟨ad,cap,hv,_,_,hc,_⟩:=h0
   obtain rfl:cap = 0:=hc rfl
   exact ⟨ad,by rw [hv,show u1 = y from h1.1]⟩
 refine (h w ad).mono ?_
 rintro e w' ⟨v,rfl,hb,hor⟩
 have la:lk [(a,ai.arr true s T 0 F)] a = some (.arr true s T 0 F):=by simp [lk]
 have him:∀ q ob,c.imm q = some ob → q < w.heap.size:=fun q ob hq=>(Array.getElem?_eq_some_iff.1 (hM.imm q ob hq)).1
 have hform:v.oneCell' = true:=by
  rcases hor with rfl | ⟨hrow,_⟩
  · rfl
  rcases hrow.2 with ⟨hv,_⟩ | ⟨g,cap,cur,hv,_⟩ <;> (subst hv;rfl)
 have hbk:∃ bk:Nat → Prop,(∀ g,bk g → w.heap.size ≤ g) ∧ (bk = iw v ∧ w'.ownsRow 0 T s v 0 [] ∨ bk = noB ∧ ay c.imm (.sl 0 s true F) v):=by
  rcases hor with rfl | ⟨hrow,hat⟩
  · exact ⟨noB,fun g hg=>hg.elim, .inr ⟨rfl,ad,0,rfl,Nat.le_refl _,Nat.zero_le _,fun _=>rfl,fun h=>absurd h (Nat.lt_irrefl 0)⟩⟩
  exact ⟨iw v,hat, .inl ⟨rfl,hrow⟩⟩
 obtain ⟨bk,hat,hok⟩:=hbk
 refine ⟨v,{ c with own:=fun q=>if q = a then v else c.own q,blk:=fun q=>if q = a then bk else c.blk q },rfl,⟨hform,fun l hl=>(by cases (ip hl).2),fun ob s1 e1 n1 ho1 hd=>?_⟩,⟨fun id ob hl=>?_,fun id id' ob ob' q hl hl' _ _=>by rw [(ip hl).1,(ip hl').1],fun q ob hq=>(hb.block q (him q ob hq)).trans (hM.imm q ob hq),fun id ob q hl hq=>?_⟩,⟨hb.os,hb.tape,hb.output,hb.size,fun k hk=>absurd hk (Nat.not_lt_zero k),hb.drawn⟩,fun q hq _=>⟨hb.block q hq,rfl⟩,fun id ob q hl hq=>?_,fun id hid=>absurd hid (by simp)⟩
 · obtain ⟨_,rfl⟩:=ip ho1
   simp only [ai.dim,Option.some.injEq,Prod.mk.injEq] at hd
   obtain ⟨rfl,rfl,rfl⟩:=hd
   exact ⟨Nat.le_refl _,fun _=>by simp⟩
 · obtain ⟨rfl,rfl⟩:=ip hl
   rcases hok with ⟨h1,h2⟩ | ⟨h1,h2⟩
   · exact ⟨hs,Nat.zero_le _, .inl ⟨by simpa using h1,[],by simpa using h2,fun i j hi=>by omega⟩⟩
   exact ⟨hs,Nat.zero_le _, .inr ⟨.inr rfl,by simpa using h1,by simpa using h2⟩⟩
 · obtain ⟨rfl,_⟩:=ip hl
   have hq':bk q:=by simpa using hq
   show c.imm q = none
   cases hc:c.imm q with
   | none=>rfl
   | some ob=>have:=him q ob hc;have:=hat q hq';omega
 obtain ⟨rfl,_⟩:=ip hl
 have hq':bk q:=by simpa using hq
 exact .inl (hat q hq')
def HE (nt:Nat) (st:HSt) (Q:HSt → Prop):Prop:=∀ w0 m0 a w,Rel w0 m0 nt st.den a w → ∃ st':HSt,Q st' ∧ Rel w0 m0 nt st'.den a w
end
end Go.Hx
