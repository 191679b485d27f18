/- A part of the proof: Hx18. -/
import Derived.Test.YtkkenjdfbojdlaaGreatDoorEx13
set_option linter.all false
section
namespace Go.Hx
open Go.RowKit
section
variable {ro:Option Nat} {P:Program} {E:Env} {nt:Nat} {ops:Array Oper} {i:Nat} {o:Oper} {st:HSt} {T:List Tr} {sf:S} {L:List Nat} {K:List Tr → HSt → Prop}
theorem at3 (b:ByteArray) (i:Nat):0 ≤ j9 b i ∧ j9 b i ≤ 255:=by
 unfold j9
 have:=(b.data.toList.getD i 0).toNat_lt
 omega
theorem af5 (b:ByteArray) (i:Nat):(io true .i64 (j9 b i)).1:=by
 have:=at3 b i
 simp only [io,inR,qf,ve]
 omega
theorem rq {out:Out} {gb:Bool} (hi:ops[i]? = some o) (hw:aw ops st.den o = some gb) (hd:db nt o.dst = true) (hq':hq E true st.den.o (ev st.den) o.op = some out) (hg:gb = true)
 (hT:Reg P E nt ops L (st.after o.dst (some out.val) []) fun T sf=>K (⟨i,a4u true out.val.ids,looks st.den o,ca st.den o.dst [],ew E st.den o⟩ :: T) sf)
 (hp:out.pre:=by first | exact trivial | (simp only [io,inR,qf,ve];omega) | exact af5 _ _ | exact ⟨trivial,trivial⟩ | exact ⟨trivial,Nat.le_of_ble_eq_true rfl⟩ | (try dsimp only) <;> ((repeat' apply And.intro) <;> first | trivial | rfl | omega | (simp only [dq,b4];omega) | assumption | exact Nat.le_of_ble_eq_true rfl)) :
 Reg P E nt ops (i :: L) st K:=d5 true hi hw hd hq' hg hp hT
theorem rqw {out:Out} {gb:Bool} (hi:ops[i]? = some o) (hw:aw ops st.den o = some gb) (hd:db nt o.dst = true) (hq':hq E false st.den.o (ev st.den) o.op = some out) (hg:gb = true)
 (hT:Reg P E nt ops L (st.after o.dst (some out.val) []) fun T sf=>K (⟨i,a4u false out.val.ids,looks st.den o,ca st.den o.dst [],ew E st.den o⟩ :: T) sf)
 (hp:out.pre:=by first | exact trivial | (simp only [io,inR,qf,ve];omega) | exact af5 _ _ | exact ⟨trivial,trivial⟩ | exact ⟨trivial,Nat.le_of_ble_eq_true rfl⟩ | (try dsimp only) <;> ((repeat' apply And.intro) <;> first | trivial | rfl | omega | (simp only [dq,b4];omega) | assumption | exact Nat.le_of_ble_eq_true rfl)) :
 Reg P E nt ops (i :: L) st K:=d5 false hi hw hd hq' hg hp hT
theorem rm (id:Nat) {nw:New} {gb:Bool} (hi:ops[i]? = some o) (hw:aw ops st.den o = some gb) (hd:db nt o.dst = true) (hq':ha E (ev st.den) id o.op = some nw) (hn:qq id st = true) (hg:gb = true)
 (hT:Reg P E nt ops L (st.after o.dst (some nw.val) [(id,some nw.ob)]) fun T sf=>K (⟨i,⟨id,false,true, .tup [],[id],[id],nw.val.ids ++ nw.ob.ids⟩,looks st.den o,ca st.den o.dst [(id,some nw.ob)],none⟩ :: T) sf)
 (hp:nw.pre:=by first | exact trivial | (try dsimp only) <;> ((repeat' apply And.intro) <;> first | trivial | rfl | omega | assumption)):Reg P E nt ops (i :: L) st K:=xm id hi hw hd hq' hn hg hp hT
theorem rs {u:Upd} {gb:Bool} (hi:ops[i]? = some o) (hw:aw ops st.den o = some gb) (hd:db nt o.dst = true) (hq':hs E st.den.o (ev st.den) o.op = some u) (hg:gb = true)
 (hT:Reg P E nt ops L (st.after o.dst none [(u.id,some u.ob)]) fun T sf=>K (⟨i,⟨0,false,true, .tup [],[u.id],[],u.ob.ids⟩,looks st.den o,ca st.den o.dst [(u.id,some u.ob)],ew E st.den o⟩ :: T) sf)
 (hp:u.pre:=by first | exact Nat.le_of_ble_eq_true rfl | (try dsimp only) <;> ((repeat' apply And.intro) <;> first | trivial | rfl | omega | (simp only [dq,b4];omega) | assumption | exact Nat.le_of_ble_eq_true rfl)):Reg P E nt ops (i :: L) st K:=aeh hi hw hd hq' hg hp hT
theorem ra (id:Nat) (wb:Bool) {u:App} {gb:Bool} (hi:ops[i]? = some o) (hw:aw ops st.den o = some gb) (hd:db nt o.dst = true) (hq':hap E st.den.o (ev st.den) id wb o.op = some u) (hn:(!u.new || qq id st) = true) (hg:gb = true)
 (hT:Reg P E nt ops L (st.after o.dst (some u.val) [(u.id,some u.ob)]) fun T sf=>K (⟨i,⟨id,wb,true, .tup [],[u.id],if u.new then [id] else [],u.val.ids ++ u.ob.ids⟩,looks st.den o,ca st.den o.dst [(u.id,some u.ob)],none⟩ :: T) sf)
 (hp:u.pre:=by (try dsimp only) <;> ((repeat' apply And.intro) <;> first | trivial | rfl | assumption | omega | (simp only [Int.toNat_natCast];omega) | (simp only [dq,b4];omega) | exact Or.inl rfl | exact Or.inr rfl | exact (fun _=>Or.inl rfl) | exact (fun _=>Or.inr (Nat.le_of_ble_eq_true rfl)) | exact Nat.le_of_ble_eq_true rfl | (intro h;cases h;done))):Reg P E nt ops (i :: L) st K:=a6z id wb hi hw hd hq' hn hg hp hT
theorem rc {cl:Call} {f:FuncId} {fst caps args vs:List PC} {p:Prop} {b:Bool} {res:PR} {gb:Bool} (hi:ops[i]? = some o) (hw:aw ops st.den o = some gb) (hd:db nt o.dst = true) (ho:o.op = .call cl) (hc:callee (ev st.den) cl = some (f,fst,caps))
 (hv:j6 st.den.o (ev st.den) cl.args.toList = some (p,vs,b)) (hf:goodFn P f) (hpure:ae P f args res) (hco:CoL (fst ++ (vs ++ caps)) args) (hb:(!b || res.flat) = true) (hg:gb = true)
 (hT:Reg P E nt ops L (st.after o.dst (some res.toH) []) fun T sf=>K (⟨i,⟨0,false,true,res,[],[],[]⟩,looks st.den o,ca st.den o.dst [],none⟩ :: T) sf)
 (hp:p:=by (try dsimp only) <;> ((repeat' apply And.intro) <;> first | trivial | rfl | omega | assumption)):Reg P E nt ops (i :: L) st K:=b2i hi hw hd ho hc hv hf hpure hco hg hp hb hT
theorem rv {sr ds:TypeId} {x:Operand} {b:ByteArray} {gb:Bool} (hi:ops[i]? = some o) (hw:aw ops st.den o = some gb) (hd:db nt o.dst = true) (ho:o.op = .convert sr ds x) (hcv:a7r E (ev st.den) sr ds x = some b) (hg:gb = true)
 (hT:Reg P E nt ops L (st.after o.dst (some (.v (.one (.p (.sl b.size 1 false (ak3 b)))))) []) fun T sf=>K (⟨i,⟨0,false,true, .tup [],[],[],[]⟩,looks st.den o,ca st.den o.dst [],none⟩ :: T) sf)
 (hp:b.size ≤ maxLen:=by first | assumption | (unfold maxLen;omega)):Reg P E nt ops (i :: L) st K:=b0y hi hw hd ho hcv hg hp hT
theorem rk {gb:Bool} (hi:ops[i]? = some o) (hw:aw ops st.den o = some gb) (hd:db nt o.dst = true) (hg:gb = false)
 (hT:Reg P E nt ops L (st.after o.dst (some (.tup [])) []) fun T sf=>K (⟨i,a4u true [],looks st.den o,ca st.den o.dst [],none⟩ :: T) sf):Reg P E nt ops (i :: L) st K:=agq hi hw hd hg hT
theorem aud {out:Out} {id:Nat} {gb:Bool} (hi:ops[i]? = some o) (hw:aw ops st.den o = some gb) (hd:db nt o.dst = true) (hq':tn E st.den.o (ev st.den) o.op = some (out,id)) (hg:gb = true)
 (hT:Reg P E nt ops L (st.after o.dst (some out.val) [(id,none)]) fun T sf=>K (⟨i,⟨0,false,true, .tup [],[id],[],[]⟩,looks st.den o,ca st.den o.dst [(id,none)],none⟩ :: T) sf)
 (hp:out.pre:=by (try dsimp only) <;> ((repeat' apply And.intro) <;> first | trivial | rfl | omega | (simp only [dq,b4];omega) | assumption | exact Nat.le_of_ble_eq_true rfl)):Reg P E nt ops (i :: L) st K:=b7n hi hw hd hq' hg hp hT
theorem bc {b w:Bool} (hi:ops[i]? = some o) (hw:aw ops st.den o = some (b == w)) (ht:b = true → Reg P E nt ops (i :: L) st K) (hf:b = false → Reg P E nt ops (i :: L) st K):Reg P E nt ops (i :: L) st K:=by
 cases hb:b with
 | true=>exact ht hb
 | false=>exact hf hb
theorem gtt {b:Bool} (h:b = true):(b == true) = true:=by subst h;rfl
theorem gff {b:Bool} (h:b = false):(b == false) = true:=by subst h;rfl
theorem gtf {b:Bool} (h:b = true):(b == false) = false:=by subst h;rfl
theorem gft {b:Bool} (h:b = false):(b == true) = false:=by subst h;rfl
end
theorem ae.eat {P:Program} {f:FuncId} {args:List PC} {res:PR} {hcs:List HC} {o1:List (Nat × af)} {q:Prop} {vs:List PC} (h:ae P f args res) (hv:n8 (lk o1) hcs = some (q,vs)) (hq:q) (hco:CoL vs args):dj P f hcs o1 res.toH [] []:=by
 classical
 intro w c us hm hargs
 let own:Nat → Prop:=fun b=>∃ id ob,lk o1 id = some ob ∧ c.blk id b
 let frm:Imm:=fun b=>if own b then none else w.heap[b]?
 let c2:Ctx:={ old:=(c.imm,frm,c.own,lk o1,c.rows),imm:=c.imm,tab:=c.tab,own:=c.own,blk:=c.blk,rows:=c.rows }
 have hrel:ak w 0 c2 ⟨fun _=>none,lk o1⟩ { tmps:=#[],defers:=[] } w:=by
  refine ⟨mh.nil _ _ _ _,rfl,Below.refl _ _,(fun d x hx=>by cases hx),fun id ob ho=>?_,hm.inj,hm.imm,hm.sep,fun b _=>rfl,fun b ob hbo=>?_,fun id ob b ho hbb=>?_,fun id _=>Evo.of_same rfl rfl⟩
  · exact (hm.objs id ob ho).keep (Imm.le.refl c.imm) rfl rfl (fun _ _=>Evo.of_same rfl rfl) fun _ _=>rfl
  · have hbo:frm b = some ob:=hbo
    simp only [frm] at hbo
    split at hbo
    · cases hbo
    exact hbo
  show frm b = none
  simp only [frm]
  rw [if_pos ⟨id,ob,ho,hbb⟩]
 let m:Imm:=fun b=>if own b then w.heap[b]? else c.imm b
 have hseen:uk w c2 w m:=by
  refine ⟨fun b ob hbo=>?_,fun b hb' hlt=>?_⟩
  · have hbo:c.imm b = some ob:=hbo
    have:¬ own b:=fun ⟨id,ob2,h1,h2⟩=>by rw [hm.sep id ob2 b h1 h2] at hbo;cases hbo
    simp only [m,this,if_false]
    exact hbo
  have hb':frm b = none:=hb'
  by_cases ho:own b
  · simp [m,ho]
  simp only [frm,ho,if_false] at hb'
  have:¬ b < w.heap.size:=fun hlt=>by simp [hlt] at hb'
  exact absurd hlt this
 have hrep:bn c2 (lk o1) hcs us:=bn.evo (c:=c) (c':=c2) (o:=lk o1) (o':=lk o1) (Imm.le.refl c.imm) (fun _ _=>Evo.of_same rfl rfl) hargs
 have hview:=CoL.sound hco (lu hrel hseen hrep hv hq)
 have hmm:∀ b ob,m b = some ob → w.heap[b]? = some ob:=fun b ob hbo=>by
  simp only [m] at hbo
  split at hbo
  · exact hbo
  exact hm.imm b ob hbo
 have hlem:Imm.le c.imm m:=fun b ob hb=>by
  by_cases hb':own b
  · obtain ⟨id,ob2,h1,h2⟩:=hb'
    rw [hm.sep id ob2 b h1 h2] at hb;cases hb
  simp only [m,hb',if_false];exact hb
 refine (h w m us (c.tab.mono hlem) hmm hview).mono ?_
 rintro e w' ⟨v,imm',rfl,h1,h2,h3,h4⟩
 refine ⟨v,{ old:=c.old,imm:=imm',tab:=(c.tab.mono hlem).mono (fun b ob hb=>by rw [h2 b (Array.getElem?_eq_some_iff.1 (hmm b ob hb)).1];exact hb),own:=c.own,blk:=c.blk,rows:=c.rows },rfl,aq.of_P h1,⟨(fun id ob ho=>by cases ho),(fun i i' ob ob' b ho=>by cases ho),h3,(fun id ob b ho=>by cases ho)⟩,h4.mono (Nat.zero_le _),fun b hb hno=>?_,(fun id ob b ho=>by cases ho),fun id hid=>by cases hid⟩
 have hnb:¬ own b:=fun ⟨id,ob2,h1,h2⟩=>hno id ob2 h1 h2
 exact ⟨h4.block b hb,by show imm' b = _;rw [h2 b hb];simp [m,hnb]⟩
theorem bu {b x y v:Bool} (h:b = false) (e:(bif b then x else y) = v):y = v:=by subst h;exact e
theorem dc {b x y v:Bool} (h:b = true) (e:(bif b then x else y) = v):x = v:=by subst h;exact e
theorem cw {b x y v:Bool} (h:b = true) (e:x = v):(bif b then x else y) = v:=by subst h;exact e
theorem ap {x:Bool} (e:(!x) = true):x = false:=by simpa using e
theorem am {x:Bool} (e:(!x) = false):x = true:=by simpa using e
theorem coi {k:IntKind} {a b:Int} (h:a = b):CoR (be (.raw (.int k a))) (be (.raw (.int k b))):=CoR.of_eq (by rw [h])
theorem cob {a b:Bool} (h:a = b):CoR (be (.raw (.bool a))) (be (.raw (.bool b))):=CoR.of_eq (by rw [h])
theorem CoC.of_eq {x y:PC} (h:x = y):CoC x y:=h ▸ CoC.refl x
theorem CoL.of_eq {x y:List PC} (h:x = y):CoL x y:=h ▸ CoL.refl x
theorem cci {k:IntKind} {a b:Int} (h:a = b):CoC (.one (.raw (.int k a))) (.one (.raw (.int k b))):=CoC.of_eq (by rw [h])
theorem ccb {a b:Bool} (h:a = b):CoC (.one (.raw (.bool a))) (.one (.raw (.bool b))):=CoC.of_eq (by rw [h])
theorem CoC.one {x y:PV} (h:CoP x y):CoC (.one x) (.one y):=h
def a0t:List PV → List PV → Prop
 | [],[]=>True
 | x :: xs,y :: ys=>CoP x y ∧ a0t xs ys
 | _,_=>False
theorem a0t.refl:∀ (l:List PV),a0t l l
 | []=>trivial
 | x :: l=>⟨CoP.refl x,a0t.refl l⟩
theorem a0t.sound {m:Imm}:∀ {xs ys:List PV} {us:List Value},a0t xs ys → du m xs us → du m ys us
 | [],[],[],_,_=>trivial
 | _ :: _,_ :: _,_ :: _,h,k=>⟨h.1 _ _ k.1,a0t.sound h.2 k.2⟩
 | [],_ :: _,_,h,_=>h.elim
 | _ :: _,[],_,h,_=>h.elim
 | [],[],_ :: _,_,h=>h.elim
 | _ :: _,_ :: _,[],_,h=>h.elim
theorem CoC.agg {l l':List PV} (h:a0t l l'):CoC (.agg l) (.agg l'):=by
 rintro m u ⟨us,e,hl⟩
 exact ⟨us,e,h.sound hl⟩
def lf {α:Type} [Inhabited α] (c:α → Nat → PV) (l:List α):Nat → Nat → PV:=fun i j=>c (l.getD i default) j
def psl {α:Type} [Inhabited α] (s:Nat) (c:α → Nat → PV) (l:List α):PV:=.sl l.length s false (lf c l)
theorem agy {α:Type} [Inhabited α] {s k:Nat} {cl:Bool} {c:α → Nat → PV} {l:List α} (hk:k ≤ l.length):CoP (.sl k s cl (lf c l)) (psl s c (l.take k)):=by
 refine CoP.sl (by simp [hk]) (.inl rfl) (fun h=>by cases h) fun i j hi hj=>CoP.of_eq ?_
 simp only [lf,List.getD,List.getElem?_take,hi,if_true]
theorem b1e {α:Type} [Inhabited α] {s k:Nat} {cl:Bool} {c:α → Nat → PV} {l:List α}:CoP (.sl (l.length - k) s cl (fun i j=>lf c l (k + i) j)) (psl s c (l.drop k)):=by
 refine CoP.sl (by simp) (.inl rfl) (fun h=>by cases h) fun i j hi hj=>CoP.of_eq ?_
 simp only [lf,List.getD,List.getElem?_drop]
theorem ap8 {α:Type} [Inhabited α] {wr wr':Bool} {s:Nat} {e:TypeId} {c:α → Nat → PV} {l:List α} {m:Nat} {g:Nat → Nat → PV} (l':List α) (hw:wr' = true → wr = true) (hm:m = l'.length) (hg:∀ i j,i < l'.length → j < s → CoP (g i j) (lf c l' i j)) :
 CoO (.arr wr s e (l.length + m) (i9 l.length (lf c l) g)) (.arr wr' s e (l ++ l').length (lf c (l ++ l'))):=by
 subst hm
 refine ⟨hw,rfl,rfl,by simp,fun i j hi hj=>?_⟩
 unfold i9
 by_cases h:i < l.length
 · rw [if_pos h]
   refine CoP.of_eq ?_
   simp only [lf,List.getD,List.getElem?_append_left h]
 rw [if_neg h]
 have:=hg (i - l.length) j (by omega) hj
 have e:lf c (l ++ l') i j = lf c l' (i - l.length) j:=by simp only [lf,List.getD,List.getElem?_append_right (Nat.le_of_not_lt h)]
 rw [e];exact this
theorem aih {α:Type} [Inhabited α] {wr wr':Bool} {s i:Nat} {e:TypeId} {c:α → Nat → PV} {l:List α} {g:Nat → Nat → PV} (hw:wr' = true → wr = true) (hg:∀ j,j < s → CoP (g 0 j) (lf c l i j)) :
 CoO (.arr wr s e (i + 1) (i9 i (lf c l) g)) (.arr wr' s e (i + 1) (lf c l)):=by
 refine ⟨hw,rfl,rfl,rfl,fun a j ha hj=>?_⟩
 unfold i9
 by_cases h:a < i
 · rw [if_pos h];exact CoP.refl _
 obtain rfl:a = i:=by omega
 rw [if_neg h,Nat.sub_self]
 exact hg j hj
theorem alp {s s':Nat} {cl:Bool} {f f':Nat → Nat → PV}:CoP (.sl 0 s cl f) (.sl 0 s' false f'):=CoP.sl rfl (.inr rfl) (fun h=>by cases h) fun i j hi _=>absurd hi (Nat.not_lt_zero i)
theorem tsf {α:Type} (l:List (List α)) (i:Nat) (h:i < l.length):(l.take (i + 1)).flatten = (l.take i).flatten ++ l.getD i default:=by
 rw [List.take_succ_eq_append_getElem h,List.flatten_append]
 simp [List.getD,List.getElem?_eq_getElem h]
theorem a0f {α:Type} (l:List (List α)) (i:Nat) (h:i < l.length):(l.take i).flatten.length + (l.getD i default).length ≤ l.flatten.length:=by
 have:l.flatten.length = (l.take (i + 1)).flatten.length + (l.drop (i + 1)).flatten.length:=by
  rw [← List.length_append,← List.flatten_append,List.take_append_drop]
 rw [this,tsf l i h,List.length_append]
 omega
def bdu (i0:Nat) (h:HV) (f:Nat → Nat → PV):Nat → Nat → HV:=fun i j=>if i = i0 ∧ j = 1 then h else .p (f i j)
theorem br {P:Nat → Prop} {i:Nat} (h:∀ j,j < i → P j) (hn:P i):∀ j,j < i + 1 → P j:=fun j hj=>by
 rcases Nat.lt_succ_iff_lt_or_eq.1 hj with h1 | rfl
 · exact h j h1
 exact hn
theorem ck {P:Nat → Prop}:∀ j,j < 0 → P j:=fun j hj=>absurd hj (Nat.not_lt_zero j)
section
variable {α:Type} [Inhabited α] {p:α → Bool} {l:List α} {i:Nat}
theorem a6y (hi:i < l.length) (h:p (l.getD i default) = false):l.all p = false:=by
 rw [List.all_eq_false]
 refine ⟨l[i],List.getElem_mem hi, ?_⟩
 simp only [List.getD,List.getElem?_eq_getElem hi,Option.getD_some] at h
 simp [h]
theorem abl (h:∀ j,j < l.length → p (l.getD j default) = true):l.all p = true:=by
 rw [List.all_eq_true]
 intro x hx
 obtain ⟨j,hj,rfl⟩:=List.getElem_of_mem hx
 have:=h j hj
 simpa only [List.getD,List.getElem?_eq_getElem hj,Option.getD_some] using this
def idx (p:α → Bool) (l:List α):Int:=match l.findIdx? p with | some i=>i | none=>-1
theorem rz (hi:i < l.length) (hb:∀ j,j < i → p (l.getD j default) = false) (h:p (l.getD i default) = true):idx p l = i:=by
 have:l.findIdx? p = some i:=by
  rw [List.findIdx?_eq_some_iff_getElem]
  refine ⟨hi, ?_,fun j hj=>?_⟩
  · simpa only [List.getD,List.getElem?_eq_getElem hi,Option.getD_some] using h
  have:=hb j hj
  simp only [List.getD,List.getElem?_eq_getElem (Nat.lt_trans hj hi),Option.getD_some] at this
  simp [this]
 simp [idx,this]
theorem rr (h:∀ j,j < l.length → p (l.getD j default) = false):idx p l = -1:=by
 have:l.findIdx? p = none:=by
  rw [List.findIdx?_eq_none_iff]
  intro x hx
  obtain ⟨j,hj,rfl⟩:=List.getElem_of_mem hx
  have:=h j hj
  simpa only [List.getD,List.getElem?_eq_getElem hj,Option.getD_some] using this
 simp [idx,this]
theorem l6 {l l':List α} (hl:l.length = l'.length) (h:∀ j,j < l.length → l.getD j default = l'.getD j default):l = l':=by
 refine List.ext_getElem hl fun j h1 h2=>?_
 have:=h j h1
 simpa only [List.getD,List.getElem?_eq_getElem h1,List.getElem?_eq_getElem h2,Option.getD_some] using this
end
def HSt.app (a b:HSt):HSt:=⟨a.t ++ b.t,a.o ++ b.o⟩
theorem a4x:∀ {a b l:List (Nat × Option HR)},a12 a l → a12 b l → a12 (a ++ b) l
 | [],_,_,_,h=>h
 | (_,some _) :: _,_,_,h,k=>⟨h.1,a4x h.2 k⟩
 | (_,none) :: r,b,l,h,k=>a4x (a:=r) (b:=b) (l:=l) h k
theorem a4v:∀ {a b l:List (Nat × Option af)},a51 a l → a51 b l → a51 (a ++ b) l
 | [],_,_,_,h=>h
 | (_,some _) :: _,_,_,h,k=>⟨h.1,a4v h.2 k⟩
 | (_,none) :: r,b,l,h,k=>a4v (a:=r) (b:=b) (l:=l) h k
theorem Sub.app {a b st:HSt} (h:Sub a st) (k:Sub b st):Sub (a.app b) st:=⟨a4x h.1 k.1,a4v h.2 k.2⟩
section
variable {ro:Option Nat} {P:Program} {nt:Nat} {st:HSt} {Q:Exit → HSt → Prop}
theorem aj {ι:Type} {body:Code} (K:HSt) (hK:Sub K st) (J:ι → HSt) (p:ι → Prop) (μ:ι → Nat) (i0:ι) (h0:p i0) (hs:Sub (J i0) st) (round:∀ i,p i → HW (ro:=ro) P nt body ((J i).app K) (azr (fun i=>(J i).app K) p μ i Q)):HW (ro:=ro) P nt (.loop body) st Q :=
 b43 (fun i=>(J i).app K) p μ i0 h0 (hs.app hK) round
theorem cj {ι:Type} {x y:Code} (K:HSt) (hK:Sub K st) (J:ι → HSt) (p:ι → Prop) (h1:HW (ro:=ro) P nt x st (b85 (fun i=>(J i).app K) p Q)) (h2:∀ i,p i → HW (ro:=ro) P nt y ((J i).app K) Q):HW (ro:=ro) P nt (.seq x y) st Q :=
 a2l (fun i=>(J i).app K) p h1 h2
theorem aul {c:Code} (K:HSt) (hK:Sub K st) (h:HW (ro:=ro) P nt c K Q):HW (ro:=ro) P nt c st Q:=aql K hK h
theorem a03 {c:Code} (bx off id:Nat) (wr:Bool) {n s':Nat} {f':Nat → Nat → PV} {l:List HV} (s:Nat) (e:TypeId) (f:Nat → Nat → PV) (hs:0 < s) (hb:bf st.o bx = some (.box l)) (hl:l[off]? = some (.p (.sl n s' true f'))) (hco:CoP (.sl n s' true f') (.sl n s true f)) (hwr:wr = false ∨ n = 0) (hn:qq id st = true) (hne:Nat.beq bx id = false)
 (h:HW (ro:=ro) P nt c ⟨st.t,(bx,some (.box (b9 l off [.ref id n]))) :: (id,some (.arr wr s e n f)) :: st.o⟩ Q):HW (ro:=ro) P nt c st Q:=fun w0 m0 a w hr=>by
 obtain ⟨hnm,hno⟩:=kd hn
 obtain ⟨cc,hold,hrr⟩:=hr
 have hbi:bx ≠ id:=by rintro rfl;simp at hne
 obtain ⟨b0,C0,e0,p1,p2,p3,p4,p5⟩:=hrr.objs bx _ hb
 obtain ⟨u,hu,hur⟩:=p5.get off _ hl
 have hx:au cc.imm (.sl n s true f) u:=hco _ _ hur
 have hnm':n ≤ maxLen:=by obtain ⟨ad,cap,_,q1,q2,_⟩:=hx;omega
 have hfresh:=hrr.fresh id hnm hno (.arr wr s e n f) w u noB (Grw.refl w none) (fun b hb=>hb.elim) ⟨hs,hnm', .inr ⟨hwr,by simp,by simpa using hx⟩⟩
 rw [← ud] at hfresh
 have hb':(HSt.den ⟨st.t,(id,some (.arr wr s e n f)) :: st.o⟩).o bx = some (.box l):=by
  simp only [HSt.den,bo,hbi,if_false];exact hb
 refine h w0 m0 a w ?_
 have hevo:∀ (c1:Ctx),c1.own = (fun k=>if k = id then u else cc.own k) → Evo { old:=cc.old,imm:=cc.imm,tab:=cc.tab,own:=fun k=>if k = id then u else cc.own k,blk:=fun k=>if k = id then noB else cc.blk k,rows:=cc.rows } (HSt.den ⟨st.t,(id,some (.arr wr s e n f)) :: st.o⟩).o c1 ((HSt.den ⟨st.t,(id,some (.arr wr s e n f)) :: st.o⟩).setO bx (some (.box (b9 l off [.ref id n])))).o bx:=fun c1 h1 =>
  .inr (.inl ⟨l,b9 l off [.ref id n],hb',by simp [S.setO],by rw [h1]⟩)
 have hown:(fun k=>if k = bx then (fun k=>if k = id then u else cc.own k) bx else (fun k=>if k = id then u else cc.own k) k) = fun k=>if k = id then u else cc.own k:=by
  funext k
  by_cases hk:k = bx
  · subst hk;simp
  simp [hk]
 have hw:=hfresh.write bx (.box l) hb' (.box (b9 l off [.ref id n])) w ((fun k=>if k = id then u else cc.own k) bx) ((fun k=>if k = id then noB else cc.blk k) bx) none (Grw.refl w _) (fun _ e=>by cases e) (hevo _ (by exact hown)) (fun b hb=>.inl hb) (by
  refine ⟨b0,C0,e0,by simpa [hbi] using p1,by simpa [hbi] using p2,p3,p4, ?_⟩
  have hoff:off < l.length:=(List.getElem?_eq_some_iff.1 hl).1
  have hcl:=p5.length
  refine az.of_get ?_ fun k x u' hx' hu'=>?_
  · simp only [b9,List.length_append,List.length_take,List.length_drop,List.length_singleton];omega
  have hx2:=hx'
  unfold b9 at hx2
  rw [d9 l [HV.ref id n] off k (by simp;omega)] at hx2
  by_cases hk:k = off
  · subst hk
    simp at hx2
    subst hx2
    rw [hu] at hu'
    simp only [Option.some.injEq] at hu'
    subst hu'
    refine ⟨au.oneCell hx,fun l2=>by simp [S.setO,HSt.den,bo,Ne.symm hbi],fun ob1 s1 e1 n1 ho hd1=>?_⟩
    simp only [S.setO,HSt.den,bo,Ne.symm hbi,if_false,if_true,Option.some.injEq] at ho
    subst ho
    simp only [af.dim,Option.some.injEq,Prod.mk.injEq] at hd1
    obtain ⟨rfl,rfl,rfl⟩:=hd1
    exact ⟨Nat.le_refl _,fun _=>by simp [Ne.symm hbi]⟩
  rw [if_neg (by simp;omega)] at hx2
  obtain ⟨u2,hu2,hr2⟩:=p5.get k x hx2
  rw [hu'] at hu2
  simp only [Option.some.injEq] at hu2
  subst hu2
  refine b7.evo (c:=cc) (o:=st.den.o) (Imm.le.refl cc.imm) (fun j hj=>?_) hr2
  have hji:j ≠ id:=by
   rintro rfl
   exact hnm.2.1 bx _ hb ⟨x,List.mem_of_getElem? hx2,hj⟩
  by_cases hjb:j = bx
  · subst hjb;exact .inr (.inl ⟨l,b9 l off [.ref id n],hb,by simp [S.setO],by simp [hji]⟩)
  exact Evo.of_same (by simp [S.setO,hjb,HSt.den,bo,hji]) (by simp [hjb,hji]))
 have e:HSt.den ⟨st.t,(bx,some (.box (b9 l off [.ref id n]))) :: (id,some (.arr wr s e n f)) :: st.o⟩ = (HSt.den ⟨st.t,(id,some (.arr wr s e n f)) :: st.o⟩).setO bx (some (.box (b9 l off [.ref id n]))):=by
  unfold HSt.den S.setO
  simp only [S.mk.injEq,true_and]
  funext k
  simp only [bo]
 rw [e]
 exact ⟨_,(by exact hold),hw⟩
theorem dg {c:Code} (d:Nat) {n s:Nat} {cl:Bool} {f:Nat → Nat → PV} (hd:bf st.t d = some (be (.sl n s cl f))) (h:n ≤ 9223372036854775807 → HW (ro:=ro) P nt c st Q):HW (ro:=ro) P nt c st Q:=fun w0 m0 a w hr=>by
 have hr':=hr
 obtain ⟨cc,hold,hrr⟩:=hr'
 obtain ⟨ad,cap,_,h1,h2,_⟩:=hrr.tmps d _ hd
 exact h (by simp only [maxLen] at h2;omega) w0 m0 a w hr
theorem a6x {c:Code} (id:Nat) {n s:Nat} {wr:Bool} {e:TypeId} {f:Nat → Nat → PV} (hb:bf st.o id = some (.arr wr s e n f)) (h:n ≤ 9223372036854775807 → HW (ro:=ro) P nt c st Q):HW (ro:=ro) P nt c st Q:=fun w0 m0 a w hr=>by
 have hr':=hr
 obtain ⟨cc,hold,hrr⟩:=hr'
 have:=(hrr.objs id _ hb).2.1
 exact h (by simp only [maxLen] at this;omega) w0 m0 a w hr
end
end Go.Hx
end
