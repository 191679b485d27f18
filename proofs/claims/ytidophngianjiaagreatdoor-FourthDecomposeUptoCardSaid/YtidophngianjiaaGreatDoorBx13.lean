/- A part of the proof: Hx18 HxEnv Hx19. -/
import Derived.Deep.AppendLies
import Derived.Laws.CopyRow
import Derived.Shelf.Spec.SlicesInsertGrow
import Derived.Test.YtidophngianjiaaGreatDoorProg
import Derived.Test.YtidophngianjiaaGreatDoorBx12
set_option linter.all false
section
namespace Go.Hx
open Go.RowKit
section
variable {ro:Option Nat} {P:Program} {E:Env} {nt:Nat} {ops:Array Oper} {i:Nat} {o:Oper} {st:HSt} {T:List Tr} {sf:S} {L:List Nat} {K:List Tr → HSt → Prop}
theorem ak3 (b:ByteArray) (i:Nat):0 ≤ l4 b i ∧ l4 b i ≤ 255:=by
 unfold l4
 have:=(b.data.toList.getD i 0).toNat_lt
 omega
theorem aea (b:ByteArray) (i:Nat):(fp true .i64 (l4 b i)).1:=by
 have:=ak3 b i
 simp only [fp,inR,kf,lj]
 omega
theorem rq {out:Out} {gb:Bool} (hi:ops[i]? = some o) (hw:bd ops st.den o = some gb) (hd:dt nt o.dst = true) (hq':hq E true st.den.o (ev st.den) o.op = some out) (hg:gb = true)
 (hT:Reg P E nt ops L (st.after o.dst (some out.val) []) fun T sf=>K (⟨i,a3o true out.val.ids,looks st.den o,ck st.den o.dst [],ew E st.den o⟩ :: T) sf)
 (hp:out.pre:=by first | exact trivial | (simp only [fp,inR,kf,lj];omega) | exact aea _ _ | exact ⟨trivial,trivial⟩ | exact ⟨trivial,Nat.le_of_ble_eq_true rfl⟩ | (try dsimp only) <;> ((repeat' apply And.intro) <;> first | trivial | rfl | omega | (simp only [fl,bv];omega) | assumption | exact Nat.le_of_ble_eq_true rfl)) :
 Reg P E nt ops (i :: L) st K:=ca true hi hw hd hq' hg hp hT
theorem rqw {out:Out} {gb:Bool} (hi:ops[i]? = some o) (hw:bd ops st.den o = some gb) (hd:dt nt o.dst = true) (hq':hq E false st.den.o (ev st.den) o.op = some out) (hg:gb = true)
 (hT:Reg P E nt ops L (st.after o.dst (some out.val) []) fun T sf=>K (⟨i,a3o false out.val.ids,looks st.den o,ck st.den o.dst [],ew E st.den o⟩ :: T) sf)
 (hp:out.pre:=by first | exact trivial | (simp only [fp,inR,kf,lj];omega) | exact aea _ _ | exact ⟨trivial,trivial⟩ | exact ⟨trivial,Nat.le_of_ble_eq_true rfl⟩ | (try dsimp only) <;> ((repeat' apply And.intro) <;> first | trivial | rfl | omega | (simp only [fl,bv];omega) | assumption | exact Nat.le_of_ble_eq_true rfl)) :
 Reg P E nt ops (i :: L) st K:=ca false hi hw hd hq' hg hp hT
theorem rm (id:Nat) {nw:New} {gb:Bool} (hi:ops[i]? = some o) (hw:bd ops st.den o = some gb) (hd:dt nt o.dst = true) (hq':ha E (ev st.den) id o.op = some nw) (hn:ph id st = true) (hg:gb = true)
 (hT:Reg P E nt ops L (st.after o.dst (some nw.val) [(id,some nw.ob)]) fun T sf=>K (⟨i,⟨id,false,true, .tup [],[id],[id],nw.val.ids ++ nw.ob.ids⟩,looks st.den o,ck st.den o.dst [(id,some nw.ob)],none⟩ :: T) sf)
 (hp:nw.pre:=by first | exact trivial | (try dsimp only) <;> ((repeat' apply And.intro) <;> first | trivial | rfl | omega | assumption)):Reg P E nt ops (i :: L) st K:=tl id hi hw hd hq' hn hg hp hT
theorem rs {u:Upd} {gb:Bool} (hi:ops[i]? = some o) (hw:bd ops st.den o = some gb) (hd:dt nt o.dst = true) (hq':hs E st.den.o (ev st.den) o.op = some u) (hg:gb = true)
 (hT:Reg P E nt ops L (st.after o.dst none [(u.id,some u.ob)]) fun T sf=>K (⟨i,⟨0,false,true, .tup [],[u.id],[],u.ob.ids⟩,looks st.den o,ck st.den o.dst [(u.id,some u.ob)],ew E st.den o⟩ :: T) sf)
 (hp:u.pre:=by first | exact Nat.le_of_ble_eq_true rfl | (try dsimp only) <;> ((repeat' apply And.intro) <;> first | trivial | rfl | omega | (simp only [fl,bv];omega) | assumption | exact Nat.le_of_ble_eq_true rfl)):Reg P E nt ops (i :: L) st K:=ab8 hi hw hd hq' hg hp hT
theorem ra (id:Nat) (wb:Bool) {u:App} {gb:Bool} (hi:ops[i]? = some o) (hw:bd ops st.den o = some gb) (hd:dt nt o.dst = true) (hq':hap E st.den.o (ev st.den) id wb o.op = some u) (hn:(!u.new || ph id st) = true) (hg:gb = true)
 (hT:Reg P E nt ops L (st.after o.dst (some u.val) [(u.id,some u.ob)]) fun T sf=>K (⟨i,⟨id,wb,true, .tup [],[u.id],if u.new then [id] else [],u.val.ids ++ u.ob.ids⟩,looks st.den o,ck st.den o.dst [(u.id,some u.ob)],none⟩ :: T) sf)
 (hp:u.pre:=by (try dsimp only) <;> ((repeat' apply And.intro) <;> first | trivial | rfl | assumption | omega | (simp only [Int.toNat_natCast];omega) | (simp only [fl,bv];omega) | exact Or.inl rfl | exact Or.inr rfl | exact (fun _=>Or.inl rfl) | exact (fun _=>Or.inr (Nat.le_of_ble_eq_true rfl)) | exact Nat.le_of_ble_eq_true rfl | (intro h;cases h;done))):Reg P E nt ops (i :: L) st K:=a0q id wb hi hw hd hq' hn hg hp hT
theorem rc {cl:Call} {f:FuncId} {caps args vs:List PC} {p:Prop} {b:Bool} {res:PR} {gb:Bool} (hi:ops[i]? = some o) (hw:bd ops st.den o = some gb) (hd:dt nt o.dst = true) (ho:o.op = .call cl) (hc:callee (ev st.den) cl = some (f,caps))
 (hv:j1 st.den.o (ev st.den) cl.args.toList = some (p,vs,b)) (hf:goodFn P f) (hpure:ai P f args res) (hco:CoL (vs ++ caps) args) (hb:(!b || res.flat) = true) (hg:gb = true)
 (hT:Reg P E nt ops L (st.after o.dst (some res.toH) []) fun T sf=>K (⟨i,⟨0,false,true,res,[],[],[]⟩,looks st.den o,ck st.den o.dst [],none⟩ :: T) sf)
 (hp:p:=by (try dsimp only) <;> ((repeat' apply And.intro) <;> first | trivial | rfl | omega | assumption)):Reg P E nt ops (i :: L) st K:=ax7 hi hw hd ho hc hv hf hpure hco hg hp hb hT
theorem rk {gb:Bool} (hi:ops[i]? = some o) (hw:bd ops st.den o = some gb) (hd:dt nt o.dst = true) (hg:gb = false)
 (hT:Reg P E nt ops L (st.after o.dst (some (.tup [])) []) fun T sf=>K (⟨i,a3o true [],looks st.den o,ck st.den o.dst [],none⟩ :: T) sf):Reg P E nt ops (i :: L) st K:=afy hi hw hd hg hT
theorem ary {out:Out} {id:Nat} {gb:Bool} (hi:ops[i]? = some o) (hw:bd ops st.den o = some gb) (hd:dt nt o.dst = true) (hq':sw E st.den.o (ev st.den) o.op = some (out,id)) (hg:gb = true)
 (hT:Reg P E nt ops L (st.after o.dst (some out.val) [(id,none)]) fun T sf=>K (⟨i,⟨0,false,true, .tup [],[id],[],[]⟩,looks st.den o,ck st.den o.dst [(id,none)],none⟩ :: T) sf)
 (hp:out.pre:=by (try dsimp only) <;> ((repeat' apply And.intro) <;> first | trivial | rfl | omega | (simp only [fl,bv];omega) | assumption | exact Nat.le_of_ble_eq_true rfl)):Reg P E nt ops (i :: L) st K:=ayz hi hw hd hq' hg hp hT
theorem b4 {b w:Bool} (hi:ops[i]? = some o) (hw:bd ops st.den o = some (b == w)) (ht:b = true → Reg P E nt ops (i :: L) st K) (hf:b = false → Reg P E nt ops (i :: L) st K):Reg P E nt ops (i :: L) st K:=by
 cases hb:b with
 | true=>exact ht hb
 | false=>exact hf hb
theorem gtt {b:Bool} (h:b = true):(b == true) = true:=by subst h;rfl
theorem gff {b:Bool} (h:b = false):(b == false) = true:=by subst h;rfl
theorem gtf {b:Bool} (h:b = true):(b == false) = false:=by subst h;rfl
theorem gft {b:Bool} (h:b = false):(b == true) = false:=by subst h;rfl
end
theorem ai.eat {P:Program} {f:FuncId} {args:List PC} {res:PR} {hcs:List HC} {o1:List (Nat × al)} {q:Prop} {vs:List PC} (h:ai P f args res) (hv:nf (lk o1) hcs = some (q,vs)) (hq:q) (hco:CoL vs args):dg P f hcs o1 res.toH [] []:=by
 classical
 intro w c us hm hargs
 let own:Nat → Prop:=fun b=>∃ id ob,lk o1 id = some ob ∧ c.blk id b
 let frm:Imm:=fun b=>if own b then none else w.heap[b]?
 let c2:Ctx:={ old:=(c.imm,frm,c.own,lk o1,c.rows),imm:=c.imm,tab:=c.tab,own:=c.own,blk:=c.blk,rows:=c.rows }
 have hrel:aq w 0 c2 ⟨fun _=>none,lk o1⟩ { tmps:=#[],defers:=[] } w:=by
  refine ⟨pg.nil _ _ _ _,rfl,Below.refl _ _,(fun d x hx=>by cases hx),fun id ob ho=>?_,hm.inj,hm.imm,hm.sep,fun b _=>rfl,fun b ob hbo=>?_,fun id ob b ho hbb=>?_,fun id _=>Evo.of_same rfl rfl⟩
  · exact (hm.objs id ob ho).keep (Imm.le.refl c.imm) rfl rfl (fun _ _=>Evo.of_same rfl rfl) fun _ _=>rfl
  · have hbo:frm b = some ob:=hbo
    simp only [frm] at hbo
    split at hbo
    · cases hbo
    · exact hbo
  · show frm b = none
    simp only [frm]
    rw [if_pos ⟨id,ob,ho,hbb⟩]
 let m:Imm:=fun b=>if own b then w.heap[b]? else c.imm b
 have hseen:tw w c2 w m:=by
  refine ⟨fun b ob hbo=>?_,fun b hb' hlt=>?_⟩
  · have hbo:c.imm b = some ob:=hbo
    have:¬ own b:=fun ⟨id,ob2,h1,h2⟩=>by rw [hm.sep id ob2 b h1 h2] at hbo;cases hbo
    simp only [m,this,if_false]
    exact hbo
  · have hb':frm b = none:=hb'
    by_cases ho:own b
    · simp [m,ho]
    · simp only [frm,ho,if_false] at hb'
      have:¬ b < w.heap.size:=fun hlt=>by simp [hlt] at hb'
      exact absurd hlt this
 have hrep:bu c2 (lk o1) hcs us:=bu.evo (c:=c) (c':=c2) (o:=lk o1) (o':=lk o1) (Imm.le.refl c.imm) (fun _ _=>Evo.of_same rfl rfl) hargs
 have hview:=CoL.sound hco (ml hrel hseen hrep hv hq)
 have hmm:∀ b ob,m b = some ob → w.heap[b]? = some ob:=fun b ob hbo=>by
  simp only [m] at hbo
  split at hbo
  · exact hbo
  · exact hm.imm b ob hbo
 have hlem:Imm.le c.imm m:=fun b ob hb=>by
  by_cases hb':own b
  · obtain ⟨id,ob2,h1,h2⟩:=hb'
    rw [hm.sep id ob2 b h1 h2] at hb;cases hb
  · simp only [m,hb',if_false];exact hb
 refine (h w m us (c.tab.mono hlem) hmm hview).mono ?_
 rintro e w' ⟨v,imm',rfl,h1,h2,h3,h4⟩
 refine ⟨v,{ old:=c.old,imm:=imm',tab:=(c.tab.mono hlem).mono (fun b ob hb=>by rw [h2 b (Array.getElem?_eq_some_iff.1 (hmm b ob hb)).1];exact hb),own:=c.own,blk:=c.blk,rows:=c.rows },rfl,au.of_P h1,⟨(fun id ob ho=>by cases ho),(fun i i' ob ob' b ho=>by cases ho),h3,(fun id ob b ho=>by cases ho)⟩,h4.mono (Nat.zero_le _),fun b hb hno=>?_,(fun id ob b ho=>by cases ho),fun id hid=>by cases hid⟩
 have hnb:¬ own b:=fun ⟨id,ob2,h1,h2⟩=>hno id ob2 h1 h2
 exact ⟨h4.block b hb,by show imm' b = _;rw [h2 b hb];simp [m,hnb]⟩
theorem bg {b x y v:Bool} (h:b = false) (e:(bif b then x else y) = v):y = v:=by subst h;exact e
theorem df {b x y v:Bool} (h:b = true) (e:(bif b then x else y) = v):x = v:=by subst h;exact e
theorem x7 {b x y v:Bool} (h:b = false) (e:y = v):(bif b then x else y) = v:=by subst h;exact e
theorem abg {b x y v:Bool} (h:b = true) (e:x = v):(bif b then x else y) = v:=by subst h;exact e
theorem av {x:Bool} (e:(!x) = true):x = false:=by simpa using e
theorem aw {x:Bool} (e:(!x) = false):x = true:=by simpa using e
theorem coi {k:IntKind} {a b:Int} (h:a = b):CoR (bt (.raw (.int k a))) (bt (.raw (.int k b))):=CoR.of_eq (by rw [h])
theorem cob {a b:Bool} (h:a = b):CoR (bt (.raw (.bool a))) (bt (.raw (.bool b))):=CoR.of_eq (by rw [h])
theorem CoC.of_eq {x y:PC} (h:x = y):CoC x y:=h ▸ CoC.refl x
theorem CoL.of_eq {x y:List PC} (h:x = y):CoL x y:=h ▸ CoL.refl x
theorem cci {k:IntKind} {a b:Int} (h:a = b):CoC (.one (.raw (.int k a))) (.one (.raw (.int k b))):=CoC.of_eq (by rw [h])
theorem ccb {a b:Bool} (h:a = b):CoC (.one (.raw (.bool a))) (.one (.raw (.bool b))):=CoC.of_eq (by rw [h])
theorem CoC.one {x y:PV} (h:CoP x y):CoC (.one x) (.one y):=h
def a09:List PV → List PV → Prop
 | [],[]=>True
 | x :: xs,y :: ys=>CoP x y ∧ a09 xs ys
 | _,_=>False
theorem a09.refl:∀ (l:List PV),a09 l l
 | []=>trivial
 | x :: l=>⟨CoP.refl x,a09.refl l⟩
theorem a09.sound {m:Imm}:∀ {xs ys:List PV} {us:List Value},a09 xs ys → f7 m xs us → f7 m ys us
 | [],[],[],_,_=>trivial
 | _ :: _,_ :: _,_ :: _,h,k=>⟨h.1 _ _ k.1,a09.sound h.2 k.2⟩
 | [],_ :: _,_,h,_=>h.elim
 | _ :: _,[],_,h,_=>h.elim
 | [],[],_ :: _,_,h=>h.elim
 | _ :: _,_ :: _,[],_,h=>h.elim
theorem CoC.agg {l l':List PV} (h:a09 l l'):CoC (.agg l) (.agg l'):=by
 rintro m u ⟨us,e,hl⟩
 exact ⟨us,e,h.sound hl⟩
def lf {α:Type} [Inhabited α] (c:α → Nat → PV) (l:List α):Nat → Nat → PV:=fun i j=>c (l.getD i default) j
def psl {α:Type} [Inhabited α] (s:Nat) (c:α → Nat → PV) (l:List α):PV:=.sl l.length s false (lf c l)
theorem akh {α:Type} [Inhabited α] {wr wr':Bool} {s:Nat} {e:TypeId} {c:α → Nat → PV} {l:List α} {m:Nat} {g:Nat → Nat → PV} (l':List α) (hw:wr' = true → wr = true) (hm:m = l'.length) (hg:∀ i j,i < l'.length → j < s → CoP (g i j) (lf c l' i j)) :
 CoO (.arr wr s e (l.length + m) (ef l.length (lf c l) g)) (.arr wr' s e (l ++ l').length (lf c (l ++ l'))):=by
 subst hm
 refine ⟨hw,rfl,rfl,by simp,fun i j hi hj=>?_⟩
 unfold ef
 by_cases h:i < l.length
 · rw [if_pos h]
   refine CoP.of_eq ?_
   simp only [lf,List.getD,List.getElem?_append_left h]
 · rw [if_neg h]
   have:=hg (i - l.length) j (by omega) hj
   have e:lf c (l ++ l') i j = lf c l' (i - l.length) j:=by simp only [lf,List.getD,List.getElem?_append_right (Nat.le_of_not_lt h)]
   rw [e];exact this
theorem n5 {α:Type} [Inhabited α] {wr wr':Bool} {s i:Nat} {e:TypeId} {c:α → Nat → PV} {l:List α} {g:Nat → Nat → PV} (hw:wr' = true → wr = true) (hg:∀ j,j < s → CoP (g 0 j) (lf c l i j)) :
 CoO (.arr wr s e (i + 1) (ef i (lf c l) g)) (.arr wr' s e (i + 1) (lf c l)):=by
 refine ⟨hw,rfl,rfl,rfl,fun a j ha hj=>?_⟩
 unfold ef
 by_cases h:a < i
 · rw [if_pos h];exact CoP.refl _
 · obtain rfl:a = i:=by omega
   rw [if_neg h,Nat.sub_self]
   exact hg j hj
theorem b03 {s s':Nat} {cl:Bool} {f f':Nat → Nat → PV}:CoP (.sl 0 s cl f) (.sl 0 s' false f'):=CoP.sl rfl (.inr rfl) (fun h=>by cases h) fun i j hi _=>absurd hi (Nat.not_lt_zero i)
theorem a9v {α:Type} [Inhabited α] {c:α → Nat → PV} {l:List α} {k i j:Nat} {x:α} (h:i = k) (hi:i < l.length):lf c (l.set k x) i j = c x j:=by
 subst h
 simp [lf,List.getD,hi]
theorem a96 {α:Type} [Inhabited α] {c:α → Nat → PV} {l:List α} {k i j:Nat} {x:α} (h:¬ i = k):lf c (l.set k x) i j = lf c l i j:=by
 simp only [lf,List.getD,List.getElem?_set_ne (Ne.symm h)]
def b4i (i0:Nat) (h:HV) (f:Nat → Nat → PV):Nat → Nat → HV:=fun i j=>if i = i0 ∧ j = 1 then h else .p (f i j)
theorem agp {α:Type} [Inhabited α] {wr wr':Bool} {s n k m:Nat} {e:TypeId} {c:α → Nat → PV} {l:List α} {x y:α} {ps qs:List PV} (hw:wr' = true → wr = true) (hn:n = l.length) (hk:k < l.length) (hm:m < l.length) (hp:ps.length = s) (hq:qs.length = s)
 (h1:∀ j,j < s → CoP (ps.getD j .any) (c x j)) (h2:∀ j,j < s → CoP (qs.getD j .any) (c y j)) :
 CoO (.arr wr s e n (dw (dw (lf c l) k 0 ps) m 0 qs)) (.arr wr' s e n (lf c ((l.set k x).set m y))):=by
 refine ⟨hw,rfl,rfl,rfl,fun i j hi hj=>?_⟩
 unfold dw
 by_cases hm':i = m
 · rw [if_pos ⟨hm',Nat.zero_le _,by omega⟩,a9v hm' (by simp;omega),Nat.sub_zero];exact h2 j hj
 · rw [if_neg (by omega),a96 hm']
   by_cases hk':i = k
   · rw [if_pos ⟨hk',Nat.zero_le _,by omega⟩,a9v hk' (by omega),Nat.sub_zero];exact h1 j hj
   · rw [if_neg (by omega),a96 hk'];exact CoP.refl _
theorem br {P:Nat → Prop} {i:Nat} (h:∀ j,j < i → P j) (hn:P i):∀ j,j < i + 1 → P j:=fun j hj=>by
 rcases Nat.lt_succ_iff_lt_or_eq.1 hj with h1 | rfl
 · exact h j h1
 · exact hn
theorem cg {P:Nat → Prop}:∀ j,j < 0 → P j:=fun j hj=>absurd hj (Nat.not_lt_zero j)
section
variable {α:Type} [Inhabited α] {p:α → Bool} {l:List α} {i:Nat}
theorem a5b (hi:i < l.length) (h:p (l.getD i default) = false):l.all p = false:=by
 rw [List.all_eq_false]
 refine ⟨l[i],List.getElem_mem hi, ?_⟩
 simp only [List.getD,List.getElem?_eq_getElem hi,Option.getD_some] at h
 simp [h]
theorem aap (h:∀ j,j < l.length → p (l.getD j default) = true):l.all p = true:=by
 rw [List.all_eq_true]
 intro x hx
 obtain ⟨j,hj,rfl⟩:=List.getElem_of_mem hx
 have:=h j hj
 simpa only [List.getD,List.getElem?_eq_getElem hj,Option.getD_some] using this
theorem aan (hi:i < l.length) (h:p (l.getD i default) = true):l.any p = true:=by
 rw [List.any_eq_true]
 refine ⟨l[i],List.getElem_mem hi, ?_⟩
 simpa only [List.getD,List.getElem?_eq_getElem hi,Option.getD_some] using h
theorem aag (h:∀ j,j < l.length → p (l.getD j default) = false):l.any p = false:=by
 rw [List.any_eq_false]
 intro x hx
 obtain ⟨j,hj,rfl⟩:=List.getElem_of_mem hx
 have:=h j hj
 simp only [List.getD,List.getElem?_eq_getElem hj,Option.getD_some] at this
 simp [this]
def idx (p:α → Bool) (l:List α):Int:=match l.findIdx? p with | some i=>i | none=>-1
theorem a6p (hi:i < l.length) (hb:∀ j,j < i → p (l.getD j default) = false) (h:p (l.getD i default) = true):idx p l = i:=by
 have:l.findIdx? p = some i:=by
  rw [List.findIdx?_eq_some_iff_getElem]
  refine ⟨hi, ?_,fun j hj=>?_⟩
  · simpa only [List.getD,List.getElem?_eq_getElem hi,Option.getD_some] using h
  · have:=hb j hj
    simp only [List.getD,List.getElem?_eq_getElem (Nat.lt_trans hj hi),Option.getD_some] at this
    simp [this]
 simp [idx,this]
theorem a5k (h:∀ j,j < l.length → p (l.getD j default) = false):idx p l = -1:=by
 have:l.findIdx? p = none:=by
  rw [List.findIdx?_eq_none_iff]
  intro x hx
  obtain ⟨j,hj,rfl⟩:=List.getElem_of_mem hx
  have:=h j hj
  simpa only [List.getD,List.getElem?_eq_getElem hj,Option.getD_some] using this
 simp [idx,this]
theorem mq {l l':List α} (hl:l.length = l'.length) (h:∀ j,j < l.length → l.getD j default = l'.getD j default):l = l':=by
 refine List.ext_getElem hl fun j h1 h2=>?_
 have:=h j h1
 simpa only [List.getD,List.getElem?_eq_getElem h1,List.getElem?_eq_getElem h2,Option.getD_some] using this
end
def HSt.app (a b:HSt):HSt:=⟨a.t ++ b.t,a.o ++ b.o⟩
theorem a3w:∀ {a b l:List (Nat × Option HR)},a0s a l → a0s b l → a0s (a ++ b) l
 | [],_,_,_,h=>h
 | (_,some _) :: _,_,_,h,k=>⟨h.1,a3w h.2 k⟩
 | (_,none) :: r,b,l,h,k=>a3w (a:=r) (b:=b) (l:=l) h k
theorem a4y:∀ {a b l:List (Nat × Option al)},a49 a l → a49 b l → a49 (a ++ b) l
 | [],_,_,_,h=>h
 | (_,some _) :: _,_,_,h,k=>⟨h.1,a4y h.2 k⟩
 | (_,none) :: r,b,l,h,k=>a4y (a:=r) (b:=b) (l:=l) h k
theorem Sub.app {a b st:HSt} (h:Sub a st) (k:Sub b st):Sub (a.app b) st:=⟨a3w h.1 k.1,a4y h.2 k.2⟩
section
variable {ro:Option Nat} {P:Program} {nt:Nat} {st:HSt} {Q:Exit → HSt → Prop}
theorem aj {ι:Type} {body:Code} (K:HSt) (hK:Sub K st) (J:ι → HSt) (p:ι → Prop) (μ:ι → Nat) (i0:ι) (h0:p i0) (hs:Sub (J i0) st) (round:∀ i,p i → HW (ro:=ro) P nt body ((J i).app K) (atk (fun i=>(J i).app K) p μ i Q)):HW (ro:=ro) P nt (.loop body) st Q :=
 aw8 (fun i=>(J i).app K) p μ i0 h0 (hs.app hK) round
theorem dm {ι:Type} {x y:Code} (K:HSt) (hK:Sub K st) (J:ι → HSt) (p:ι → Prop) (h1:HW (ro:=ro) P nt x st (azm (fun i=>(J i).app K) p Q)) (h2:∀ i,p i → HW (ro:=ro) P nt y ((J i).app K) Q):HW (ro:=ro) P nt (.seq x y) st Q :=
 xg (fun i=>(J i).app K) p h1 h2
theorem uy {c:Code} (K:HSt) (hK:Sub K st) (h:HW (ro:=ro) P nt c K Q):HW (ro:=ro) P nt c st Q:=ao6 K hK h
theorem np {c:Code} (bx off id:Nat) (wr:Bool) {n s':Nat} {f':Nat → Nat → PV} {l:List HV} (s:Nat) (e:TypeId) (f:Nat → Nat → PV) (hs:0 < s) (hb:bp st.o bx = some (.box l)) (hl:l[off]? = some (.p (.sl n s' true f'))) (hco:CoP (.sl n s' true f') (.sl n s true f)) (hwr:wr = false ∨ n = 0) (hn:ph id st = true) (hne:Nat.beq bx id = false)
 (h:HW (ro:=ro) P nt c ⟨st.t,(bx,some (.box (b8 l off [.ref id n]))) :: (id,some (.arr wr s e n f)) :: st.o⟩ Q):HW (ro:=ro) P nt c st Q:=fun w0 m0 a w hr=>by
 obtain ⟨hnm,hno⟩:=jm hn
 obtain ⟨cc,hold,hrr⟩:=hr
 have hbi:bx ≠ id:=by rintro rfl;simp at hne
 obtain ⟨b0,C0,e0,p1,p2,p3,p4,p5⟩:=hrr.objs bx _ hb
 obtain ⟨u,hu,hur⟩:=p5.get off _ hl
 have hx:b6 cc.imm (.sl n s true f) u:=hco _ _ hur
 have hnm':n ≤ maxLen:=by obtain ⟨ad,cap,_,q1,q2,_⟩:=hx;omega
 have hfresh:=hrr.fresh id hnm hno (.arr wr s e n f) w u noB (Grw.refl w none) (fun b hb=>hb.elim) ⟨hs,hnm', .inr ⟨hwr,by simp,by simpa using hx⟩⟩
 rw [← oj] at hfresh
 have hb':(HSt.den ⟨st.t,(id,some (.arr wr s e n f)) :: st.o⟩).o bx = some (.box l):=by
  simp only [HSt.den,bq,hbi,if_false];exact hb
 refine h w0 m0 a w ?_
 have hevo:∀ (c1:Ctx),c1.own = (fun k=>if k = id then u else cc.own k) → Evo { old:=cc.old,imm:=cc.imm,tab:=cc.tab,own:=fun k=>if k = id then u else cc.own k,blk:=fun k=>if k = id then noB else cc.blk k,rows:=cc.rows } (HSt.den ⟨st.t,(id,some (.arr wr s e n f)) :: st.o⟩).o c1 ((HSt.den ⟨st.t,(id,some (.arr wr s e n f)) :: st.o⟩).setO bx (some (.box (b8 l off [.ref id n])))).o bx:=fun c1 h1 =>
  .inr (.inl ⟨l,b8 l off [.ref id n],hb',by simp [S.setO],by rw [h1]⟩)
 have hown:(fun k=>if k = bx then (fun k=>if k = id then u else cc.own k) bx else (fun k=>if k = id then u else cc.own k) k) = fun k=>if k = id then u else cc.own k:=by
  funext k
  by_cases hk:k = bx
  · subst hk;simp
  · simp [hk]
 have hw:=hfresh.write bx (.box l) hb' (.box (b8 l off [.ref id n])) w ((fun k=>if k = id then u else cc.own k) bx) ((fun k=>if k = id then noB else cc.blk k) bx) none (Grw.refl w _) (fun _ e=>by cases e) (hevo _ (by exact hown)) (fun b hb=>.inl hb) (by
  refine ⟨b0,C0,e0,by simpa [hbi] using p1,by simpa [hbi] using p2,p3,p4, ?_⟩
  have hoff:off < l.length:=(List.getElem?_eq_some_iff.1 hl).1
  have hcl:=p5.length
  refine b9.of_get ?_ fun k x u' hx' hu'=>?_
  · simp only [b8,List.length_append,List.length_take,List.length_drop,List.length_singleton];omega
  · have hx2:=hx'
    unfold b8 at hx2
    rw [cz l [HV.ref id n] off k (by simp;omega)] at hx2
    by_cases hk:k = off
    · subst hk
      simp at hx2
      subst hx2
      rw [hu] at hu'
      simp only [Option.some.injEq] at hu'
      subst hu'
      refine ⟨b6.oneCell hx,fun l2=>by simp [S.setO,HSt.den,bq,Ne.symm hbi],fun ob1 s1 e1 n1 ho hd1=>?_⟩
      simp only [S.setO,HSt.den,bq,Ne.symm hbi,if_false,if_true,Option.some.injEq] at ho
      subst ho
      simp only [al.dim,Option.some.injEq,Prod.mk.injEq] at hd1
      obtain ⟨rfl,rfl,rfl⟩:=hd1
      exact ⟨Nat.le_refl _,fun _=>by simp [Ne.symm hbi]⟩
    · rw [if_neg (by simp;omega)] at hx2
      obtain ⟨u2,hu2,hr2⟩:=p5.get k x hx2
      rw [hu'] at hu2
      simp only [Option.some.injEq] at hu2
      subst hu2
      refine bh.evo (c:=cc) (o:=st.den.o) (Imm.le.refl cc.imm) (fun j hj=>?_) hr2
      have hji:j ≠ id:=by
       rintro rfl
       exact hnm.2.1 bx _ hb ⟨x,List.mem_of_getElem? hx2,hj⟩
      by_cases hjb:j = bx
      · subst hjb;exact .inr (.inl ⟨l,b8 l off [.ref id n],hb,by simp [S.setO],by simp [hji]⟩)
      · exact Evo.of_same (by simp [S.setO,hjb,HSt.den,bq,hji]) (by simp [hjb,hji]))
 have e:HSt.den ⟨st.t,(bx,some (.box (b8 l off [.ref id n]))) :: (id,some (.arr wr s e n f)) :: st.o⟩ = (HSt.den ⟨st.t,(id,some (.arr wr s e n f)) :: st.o⟩).setO bx (some (.box (b8 l off [.ref id n]))):=by
  unfold HSt.den S.setO
  simp only [S.mk.injEq,true_and]
  funext k
  simp only [bq]
 rw [e]
 exact ⟨_,(by exact hold),hw⟩
theorem d9 {c:Code} (d:Nat) {n s:Nat} {cl:Bool} {f:Nat → Nat → PV} (hd:bp st.t d = some (bt (.sl n s cl f))) (h:n ≤ 9223372036854775807 → HW (ro:=ro) P nt c st Q):HW (ro:=ro) P nt c st Q:=fun w0 m0 a w hr=>by
 have hr':=hr
 obtain ⟨cc,hold,hrr⟩:=hr'
 obtain ⟨ad,cap,_,h1,h2,_⟩:=hrr.tmps d _ hd
 exact h (by simp only [maxLen] at h2;omega) w0 m0 a w hr
theorem atb {c:Code} (id off:Nat) {n s:Nat} {cl:Bool} {f:Nat → Nat → PV} {l:List HV} (hb:bp st.o id = some (.box l)) (hl:l[off]? = some (.p (.sl n s cl f))) (h:n ≤ 9223372036854775807 → HW (ro:=ro) P nt c st Q):HW (ro:=ro) P nt c st Q:=fun w0 m0 a w hr=>by
 have hr':=hr
 obtain ⟨cc,hold,hrr⟩:=hr'
 obtain ⟨b,C,e,_,_,_,_,q5⟩:=hrr.objs id _ hb
 obtain ⟨u,_,ad,cap,_,h1,h2,_⟩:=q5.get off _ hl
 exact h (by simp only [maxLen] at h2;omega) w0 m0 a w hr
theorem ahy {c:Code} (id:Nat) {n s:Nat} {wr:Bool} {e:TypeId} {f:Nat → Nat → PV} (hb:bp st.o id = some (.arr wr s e n f)) (h:n ≤ 9223372036854775807 → HW (ro:=ro) P nt c st Q):HW (ro:=ro) P nt c st Q:=fun w0 m0 a w hr=>by
 have hr':=hr
 obtain ⟨cc,hold,hrr⟩:=hr'
 have:=(hrr.objs id _ hb).2.1
 exact h (by simp only [maxLen] at this;omega) w0 m0 a w hr
end
end Go.Hx
end
section
namespace Go.Hx
open Go.Proofs
def a9f:List (Option TI):=[
 none,
 some ⟨.func,1,8,some [.nilFunc],false,false,true⟩,
 some ⟨.int .i64,1,8,some [.int .i64 0],false,false,true⟩,
 some ⟨.int .i64,1,8,some [.int .i64 0],false,false,true⟩,
 some ⟨.bool,1,1,some [.bool false],false,false,true⟩,
 some ⟨.int .u8,1,1,some [.int .u8 0],false,false,true⟩,
 some ⟨.int .u8,1,1,some [.int .u8 0],false,false,true⟩,
 some ⟨.struct [(0,2,false),(1,3,false),(2,4,false),(3,6,false)],4,24,some [.int .i64 0, .int .i64 0, .bool false, .int .u8 0],false,false,false⟩,
 some ⟨.struct [(0,2,false),(1,3,false),(2,4,false),(3,6,false)],4,24,some [.int .i64 0, .int .i64 0, .bool false, .int .u8 0],false,false,false⟩,
 some ⟨.string,1,16,some [.string ⟨#[]⟩],false,false,true⟩,
 some ⟨.string,1,16,some [.string ⟨#[]⟩],false,false,true⟩,
 some ⟨.string,1,16,some [.string ⟨#[]⟩],false,false,true⟩,
 some ⟨.int .u64,1,8,some [.int .u64 0],false,false,true⟩,
 none,
 none,
 some ⟨.pointer 240,1,8,some [.pointer none],false,false,true⟩,
 some ⟨.pointer 243,1,8,some [.pointer none],false,false,true⟩,
 some ⟨.pointer 252,1,8,some [.pointer none],false,false,true⟩,
 none,
 none,
 none,
 some ⟨.int .i32,1,4,some [.int .i32 0],false,false,true⟩,
 some ⟨.slice 136,1,24,some [.slice none 0 0],false,false,true⟩,
 some ⟨.struct [(0,5,false),(1,22,false)],2,32,some [.int .u8 0, .slice none 0 0],false,false,false⟩,
 some ⟨.struct [(0,5,false),(1,22,false)],2,32,some [.int .u8 0, .slice none 0 0],false,false,false⟩,
 some ⟨.struct [(0,24,false),(2,22,false)],3,56,some [.int .u8 0, .slice none 0 0, .slice none 0 0],false,false,false⟩,
 some ⟨.struct [(0,24,false),(2,22,false)],3,56,some [.int .u8 0, .slice none 0 0, .slice none 0 0],false,false,false⟩,
 some ⟨.slice 40,1,24,some [.slice none 0 0],false,false,true⟩,
 some ⟨.slice 42,1,24,some [.slice none 0 0],false,false,true⟩,
 none,
 none,
 none,
 some ⟨.slice 38,1,24,some [.slice none 0 0],false,false,true⟩,
 some ⟨.int .i64,1,8,some [.int .i64 0],false,false,true⟩,
 none,
 none,
 none,
 some ⟨.int .u32,1,4,some [.int .u32 0],false,false,true⟩,
 some ⟨.int .u32,1,4,some [.int .u32 0],false,false,true⟩,
 some ⟨.struct [(0,38,false),(1,38,false)],2,8,some [.int .u32 0, .int .u32 0],false,false,false⟩,
 some ⟨.struct [(0,38,false),(1,38,false)],2,8,some [.int .u32 0, .int .u32 0],false,false,false⟩,
 none,
 some ⟨.struct [(0,38,false),(1,38,false)],2,8,some [.int .u32 0, .int .u32 0],false,false,false⟩,
 none,
 some ⟨.func,1,8,some [.nilFunc],false,false,true⟩,
 none,
 none,
 none,
 some ⟨.func,1,8,some [.nilFunc],false,false,true⟩,
 some ⟨.slice 5,1,24,some [.slice none 0 0],false,false,true⟩,
 none,
 none,
 none,
 none,
 some ⟨.array 2 38,2,8,some [.int .u32 0, .int .u32 0],false,false,false⟩,
 none,
 some ⟨.func,1,8,some [.nilFunc],false,false,true⟩,
 none,
 none,
 none,
 none,
 none,
 none,
 none,
 none,
 none,
 none,
 none,
 none,
 none,
 none,
 none,
 none,
 none,
 none,
 none,
 some ⟨.slice 155,1,24,some [.slice none 0 0],false,false,true⟩,
 none,
 none,
 none,
 none,
 none,
 none,
 none,
 none,
 none,
 none,
 none,
 none,
 none,
 none,
 none,
 none,
 none,
 none,
 some ⟨.func,1,8,some [.nilFunc],false,false,true⟩,
 none,
 none,
 some ⟨.func,1,8,some [.nilFunc],false,false,true⟩,
 none,
 none,
 none,
 none,
 none,
 none,
 none,
 none,
 some ⟨.func,1,8,some [.nilFunc],false,false,true⟩,
 none,
 none,
 none,
 none,
 none,
 none,
 some ⟨.slice 120,1,24,some [.slice none 0 0],false,false,true⟩,
 none,
 none,
 none,
 some ⟨.slice 121,1,24,some [.slice none 0 0],false,false,true⟩,
 some ⟨.struct [(0,3,false),(1,118,false)],2,32,some [.int .i64 0, .slice none 0 0],false,false,false⟩,
 some ⟨.struct [(0,3,false),(1,118,false)],2,32,some [.int .i64 0, .slice none 0 0],false,false,false⟩,
 some ⟨.slice 3,1,24,some [.slice none 0 0],false,false,true⟩,
 none,
 none,
 none,
 none,
 none,
 none,
 none,
 none,
 none,
 none,
 some ⟨.func,1,8,some [.nilFunc],false,false,true⟩,
 none,
 some ⟨.func,1,8,some [.nilFunc],false,false,true⟩,
 some ⟨.struct [(0,5,false),(1,5,false)],2,2,some [.int .u8 0, .int .u8 0],false,false,false⟩,
 some ⟨.struct [(0,5,false),(1,5,false)],2,2,some [.int .u8 0, .int .u8 0],false,false,false⟩,
 some ⟨.int .u64,1,8,some [.int .u64 0],false,false,true⟩,
 none,
 none,
 none,
 none,
 none,
 none,
 none,
 none,
 none,
 none,
 none,
 none,
 none,
 none,
 none,
 none,
 some ⟨.struct [(0,4,false),(1,3,false),(2,3,false),(3,3,false)],4,32,some [.bool false, .int .i64 0, .int .i64 0, .int .i64 0],false,false,false⟩,
 some ⟨.struct [(0,4,false),(1,3,false),(2,3,false),(3,3,false)],4,32,some [.bool false, .int .i64 0, .int .i64 0, .int .i64 0],false,false,false⟩,
 some ⟨.func,1,8,some [.nilFunc],false,false,true⟩,
 none,
 some ⟨.func,1,8,some [.nilFunc],false,false,true⟩,
 some ⟨.int .u64,1,8,some [.int .u64 0],false,false,true⟩,
 none,
 some ⟨.struct [(0,32,false)],1,24,some [.slice none 0 0],false,false,false⟩,
 some ⟨.struct [(0,32,false)],1,24,some [.slice none 0 0],false,false,false⟩,
 none,
 none,
 none,
 none,
 none,
 none,
 none,
 none,
 none,
 none,
 some ⟨.slice 4,1,24,some [.slice none 0 0],false,false,true⟩,
 none,
 none,
 none,
 some ⟨.map 38 38,1,8,some [.map none],false,false,true⟩,
 none,
 none,
 none,
 none,
 none,
 none,
 none,
 none,
 none,
 none,
 none,
 none,
 none,
 some ⟨.int .i64,1,8,some [.int .i64 0],false,false,true⟩,
 none,
 none,
 none,
 none,
 none,
 none,
 some ⟨.func,1,8,some [.nilFunc],false,false,true⟩,
 none,
 none,
 none,
 none,
 none,
 none,
 none,
 some ⟨.func,1,8,some [.nilFunc],false,false,true⟩,
 none,
 none,
 none,
 none,
 some ⟨.pointer 162,1,8,some [.pointer none],false,false,true⟩,
 none,
 some ⟨.array 32 5,32,32,some [.int .u8 0, .int .u8 0, .int .u8 0, .int .u8 0, .int .u8 0, .int .u8 0, .int .u8 0, .int .u8 0, .int .u8 0, .int .u8 0, .int .u8 0, .int .u8 0, .int .u8 0, .int .u8 0, .int .u8 0, .int .u8 0, .int .u8 0, .int .u8 0, .int .u8 0, .int .u8 0, .int .u8 0, .int .u8 0, .int .u8 0, .int .u8 0, .int .u8 0, .int .u8 0, .int .u8 0, .int .u8 0, .int .u8 0, .int .u8 0, .int .u8 0, .int .u8 0],false,false,false⟩,
 some ⟨.int .u64,1,8,some [.int .u64 0],false,false,true⟩,
 none,
 none,
 none,
 some ⟨.pointer 3,1,8,some [.pointer none],false,false,true⟩,
 none,
 none,
 none,
 none,
 none,
 some ⟨.pointer 214,1,8,some [.pointer none],false,false,true⟩,
 none,
 none,
 none,
 some ⟨.slice 27,1,24,some [.slice none 0 0],false,false,true⟩,
 none,
 none,
 none,
 none,
 none,
 none,
 none,
 none,
 none,
 none,
 none,
 none,
 some ⟨.array 0 16,0,0,some [],false,false,false⟩,
 none,
 none,
 none,
 some ⟨.int .u8,1,1,some [.int .u8 0],false,false,true⟩,
 some ⟨.int .u8,1,1,some [.int .u8 0],false,false,true⟩,
 some ⟨.func,1,8,some [.nilFunc],false,false,true⟩,
 some ⟨.pointer 5,1,8,some [.pointer none],false,false,true⟩,
 some ⟨.int .i32,1,4,some [.int .i32 0],false,false,true⟩,
 some ⟨.int .i32,1,4,some [.int .i32 0],false,false,true⟩,
 none,
 none,
 none]
def a1i:List (Option TI) → Nat → Option TI
 | [],_=>none
 | x :: _,0=>x
 | _ :: r,n + 1=>a1i r n
def bf:Env:=a1i a9f
def ajr (P:Program):List (Option TI) → Nat → Prop
 | [],_=>True
 | none :: r,n=>ajr P r (n + 1)
 | some i :: r,n=>bm P n = some i ∧ ajr P r (n + 1)
theorem a0z {P:Program}:∀ {l:List (Option TI)} {n:Nat},ajr P l n → ∀ t i,a1i l t = some i → bm P (n + t) = some i
 | [],_,_,t,i,h=>by simp [a1i] at h
 | none :: r,n,hf,0,i,h=>by simp [a1i] at h
 | some x :: r,n,hf,0,i,h=>by simp only [a1i,Option.some.injEq] at h;subst h;exact hf.1
 | none :: r,n,hf,t + 1,i,h=>by have:=a0z (l:=r) (n:=n + 1) hf t i h;rwa [show n + (t + 1) = n + 1 + t by omega]
 | some x :: r,n,hf,t + 1,i,h=>by have:=a0z (l:=r) (n:=n + 1) hf.2 t i h;rwa [show n + (t + 1) = n + 1 + t by omega]
theorem axi:bm Tryz.prog 1 = some ⟨.func,1,8,some [.nilFunc],false,false,true⟩:=by kernel_rfl
theorem au8:bm Tryz.prog 2 = some ⟨.int .i64,1,8,some [.int .i64 0],false,false,true⟩:=by kernel_rfl
theorem awl:bm Tryz.prog 3 = some ⟨.int .i64,1,8,some [.int .i64 0],false,false,true⟩:=by kernel_rfl
theorem axk:bm Tryz.prog 4 = some ⟨.bool,1,1,some [.bool false],false,false,true⟩:=by kernel_rfl
theorem axa:bm Tryz.prog 5 = some ⟨.int .u8,1,1,some [.int .u8 0],false,false,true⟩:=by kernel_rfl
theorem ax5:bm Tryz.prog 6 = some ⟨.int .u8,1,1,some [.int .u8 0],false,false,true⟩:=by kernel_rfl
theorem au9:bm Tryz.prog 7 = some ⟨.struct [(0,2,false),(1,3,false),(2,4,false),(3,6,false)],4,24,some [.int .i64 0, .int .i64 0, .bool false, .int .u8 0],false,false,false⟩:=by kernel_rfl
theorem avh:bm Tryz.prog 8 = some ⟨.struct [(0,2,false),(1,3,false),(2,4,false),(3,6,false)],4,24,some [.int .i64 0, .int .i64 0, .bool false, .int .u8 0],false,false,false⟩:=by kernel_rfl
theorem axr:bm Tryz.prog 9 = some ⟨.string,1,16,some [.string ⟨#[]⟩],false,false,true⟩:=by kernel_rfl
theorem aqc:bm Tryz.prog 10 = some ⟨.string,1,16,some [.string ⟨#[]⟩],false,false,true⟩:=by kernel_rfl
theorem asc:bm Tryz.prog 11 = some ⟨.string,1,16,some [.string ⟨#[]⟩],false,false,true⟩:=by kernel_rfl
theorem aqa:bm Tryz.prog 12 = some ⟨.int .u64,1,8,some [.int .u64 0],false,false,true⟩:=by kernel_rfl
theorem aro:bm Tryz.prog 15 = some ⟨.pointer 240,1,8,some [.pointer none],false,false,true⟩:=by kernel_rfl
theorem apj:bm Tryz.prog 16 = some ⟨.pointer 243,1,8,some [.pointer none],false,false,true⟩:=by kernel_rfl
theorem aqz:bm Tryz.prog 17 = some ⟨.pointer 252,1,8,some [.pointer none],false,false,true⟩:=by kernel_rfl
theorem as6:bm Tryz.prog 21 = some ⟨.int .i32,1,4,some [.int .i32 0],false,false,true⟩:=by kernel_rfl
theorem apv:bm Tryz.prog 22 = some ⟨.slice 136,1,24,some [.slice none 0 0],false,false,true⟩:=by kernel_rfl
theorem ar1:bm Tryz.prog 23 = some ⟨.struct [(0,5,false),(1,22,false)],2,32,some [.int .u8 0, .slice none 0 0],false,false,false⟩:=by kernel_rfl
theorem ars:bm Tryz.prog 24 = some ⟨.struct [(0,5,false),(1,22,false)],2,32,some [.int .u8 0, .slice none 0 0],false,false,false⟩:=by kernel_rfl
theorem as1:bm Tryz.prog 25 = some ⟨.struct [(0,24,false),(2,22,false)],3,56,some [.int .u8 0, .slice none 0 0, .slice none 0 0],false,false,false⟩:=by kernel_rfl
theorem aor:bm Tryz.prog 26 = some ⟨.struct [(0,24,false),(2,22,false)],3,56,some [.int .u8 0, .slice none 0 0, .slice none 0 0],false,false,false⟩:=by kernel_rfl
theorem aq4:bm Tryz.prog 27 = some ⟨.slice 40,1,24,some [.slice none 0 0],false,false,true⟩:=by kernel_rfl
theorem aqd:bm Tryz.prog 28 = some ⟨.slice 42,1,24,some [.slice none 0 0],false,false,true⟩:=by kernel_rfl
theorem arj:bm Tryz.prog 32 = some ⟨.slice 38,1,24,some [.slice none 0 0],false,false,true⟩:=by kernel_rfl
theorem asp:bm Tryz.prog 33 = some ⟨.int .i64,1,8,some [.int .i64 0],false,false,true⟩:=by kernel_rfl
theorem aqt:bm Tryz.prog 37 = some ⟨.int .u32,1,4,some [.int .u32 0],false,false,true⟩:=by kernel_rfl
theorem aqg:bm Tryz.prog 38 = some ⟨.int .u32,1,4,some [.int .u32 0],false,false,true⟩:=by kernel_rfl
theorem are:bm Tryz.prog 39 = some ⟨.struct [(0,38,false),(1,38,false)],2,8,some [.int .u32 0, .int .u32 0],false,false,false⟩:=by kernel_rfl
theorem arl:bm Tryz.prog 40 = some ⟨.struct [(0,38,false),(1,38,false)],2,8,some [.int .u32 0, .int .u32 0],false,false,false⟩:=by kernel_rfl
theorem apf:bm Tryz.prog 42 = some ⟨.struct [(0,38,false),(1,38,false)],2,8,some [.int .u32 0, .int .u32 0],false,false,false⟩:=by kernel_rfl
theorem aq8:bm Tryz.prog 44 = some ⟨.func,1,8,some [.nilFunc],false,false,true⟩:=by kernel_rfl
theorem asm:bm Tryz.prog 48 = some ⟨.func,1,8,some [.nilFunc],false,false,true⟩:=by kernel_rfl
theorem as0:bm Tryz.prog 49 = some ⟨.slice 5,1,24,some [.slice none 0 0],false,false,true⟩:=by kernel_rfl
theorem ap3:bm Tryz.prog 54 = some ⟨.array 2 38,2,8,some [.int .u32 0, .int .u32 0],false,false,false⟩:=by kernel_rfl
theorem arm:bm Tryz.prog 56 = some ⟨.func,1,8,some [.nilFunc],false,false,true⟩:=by kernel_rfl
theorem aqf:bm Tryz.prog 76 = some ⟨.slice 155,1,24,some [.slice none 0 0],false,false,true⟩:=by kernel_rfl
theorem arz:bm Tryz.prog 95 = some ⟨.func,1,8,some [.nilFunc],false,false,true⟩:=by kernel_rfl
theorem arf:bm Tryz.prog 98 = some ⟨.func,1,8,some [.nilFunc],false,false,true⟩:=by kernel_rfl
theorem amj:bm Tryz.prog 107 = some ⟨.func,1,8,some [.nilFunc],false,false,true⟩:=by kernel_rfl
theorem ao9:bm Tryz.prog 114 = some ⟨.slice 120,1,24,some [.slice none 0 0],false,false,true⟩:=by kernel_rfl
theorem akp:bm Tryz.prog 118 = some ⟨.slice 121,1,24,some [.slice none 0 0],false,false,true⟩:=by kernel_rfl
theorem akw:bm Tryz.prog 119 = some ⟨.struct [(0,3,false),(1,118,false)],2,32,some [.int .i64 0, .slice none 0 0],false,false,false⟩:=by kernel_rfl
theorem an7:bm Tryz.prog 120 = some ⟨.struct [(0,3,false),(1,118,false)],2,32,some [.int .i64 0, .slice none 0 0],false,false,false⟩:=by kernel_rfl
theorem akj:bm Tryz.prog 121 = some ⟨.slice 3,1,24,some [.slice none 0 0],false,false,true⟩:=by kernel_rfl
theorem alm:bm Tryz.prog 132 = some ⟨.func,1,8,some [.nilFunc],false,false,true⟩:=by kernel_rfl
theorem anh:bm Tryz.prog 134 = some ⟨.func,1,8,some [.nilFunc],false,false,true⟩:=by kernel_rfl
theorem anm:bm Tryz.prog 135 = some ⟨.struct [(0,5,false),(1,5,false)],2,2,some [.int .u8 0, .int .u8 0],false,false,false⟩:=by kernel_rfl
theorem alc:bm Tryz.prog 136 = some ⟨.struct [(0,5,false),(1,5,false)],2,2,some [.int .u8 0, .int .u8 0],false,false,false⟩:=by kernel_rfl
theorem amo:bm Tryz.prog 137 = some ⟨.int .u64,1,8,some [.int .u64 0],false,false,true⟩:=by kernel_rfl
theorem anb:bm Tryz.prog 154 = some ⟨.struct [(0,4,false),(1,3,false),(2,3,false),(3,3,false)],4,32,some [.bool false, .int .i64 0, .int .i64 0, .int .i64 0],false,false,false⟩:=by kernel_rfl
theorem aks:bm Tryz.prog 155 = some ⟨.struct [(0,4,false),(1,3,false),(2,3,false),(3,3,false)],4,32,some [.bool false, .int .i64 0, .int .i64 0, .int .i64 0],false,false,false⟩:=by kernel_rfl
theorem anl:bm Tryz.prog 156 = some ⟨.func,1,8,some [.nilFunc],false,false,true⟩:=by kernel_rfl
theorem akk:bm Tryz.prog 158 = some ⟨.func,1,8,some [.nilFunc],false,false,true⟩:=by kernel_rfl
theorem am5:bm Tryz.prog 159 = some ⟨.int .u64,1,8,some [.int .u64 0],false,false,true⟩:=by kernel_rfl
theorem anz:bm Tryz.prog 161 = some ⟨.struct [(0,32,false)],1,24,some [.slice none 0 0],false,false,false⟩:=by kernel_rfl
theorem an4:bm Tryz.prog 162 = some ⟨.struct [(0,32,false)],1,24,some [.slice none 0 0],false,false,false⟩:=by kernel_rfl
theorem ank:bm Tryz.prog 173 = some ⟨.slice 4,1,24,some [.slice none 0 0],false,false,true⟩:=by kernel_rfl
theorem ali:bm Tryz.prog 177 = some ⟨.map 38 38,1,8,some [.map none],false,false,true⟩:=by kernel_rfl
theorem akm:bm Tryz.prog 191 = some ⟨.int .i64,1,8,some [.int .i64 0],false,false,true⟩:=by kernel_rfl
theorem al0:bm Tryz.prog 198 = some ⟨.func,1,8,some [.nilFunc],false,false,true⟩:=by kernel_rfl
theorem ak5:bm Tryz.prog 206 = some ⟨.func,1,8,some [.nilFunc],false,false,true⟩:=by kernel_rfl
theorem amg:bm Tryz.prog 211 = some ⟨.pointer 162,1,8,some [.pointer none],false,false,true⟩:=by kernel_rfl
theorem aoj:bm Tryz.prog 213 = some ⟨.array 32 5,32,32,some [.int .u8 0, .int .u8 0, .int .u8 0, .int .u8 0, .int .u8 0, .int .u8 0, .int .u8 0, .int .u8 0, .int .u8 0, .int .u8 0, .int .u8 0, .int .u8 0, .int .u8 0, .int .u8 0, .int .u8 0, .int .u8 0, .int .u8 0, .int .u8 0, .int .u8 0, .int .u8 0, .int .u8 0, .int .u8 0, .int .u8 0, .int .u8 0, .int .u8 0, .int .u8 0, .int .u8 0, .int .u8 0, .int .u8 0, .int .u8 0, .int .u8 0, .int .u8 0],false,false,false⟩:=by kernel_rfl
theorem ao5:bm Tryz.prog 214 = some ⟨.int .u64,1,8,some [.int .u64 0],false,false,true⟩:=by kernel_rfl
theorem al7:bm Tryz.prog 218 = some ⟨.pointer 3,1,8,some [.pointer none],false,false,true⟩:=by kernel_rfl
theorem al4:bm Tryz.prog 224 = some ⟨.pointer 214,1,8,some [.pointer none],false,false,true⟩:=by kernel_rfl
theorem aml:bm Tryz.prog 228 = some ⟨.slice 27,1,24,some [.slice none 0 0],false,false,true⟩:=by kernel_rfl
theorem amh:bm Tryz.prog 241 = some ⟨.array 0 16,0,0,some [],false,false,false⟩:=by kernel_rfl
theorem ao1:bm Tryz.prog 245 = some ⟨.int .u8,1,1,some [.int .u8 0],false,false,true⟩:=by kernel_rfl
theorem ako:bm Tryz.prog 246 = some ⟨.int .u8,1,1,some [.int .u8 0],false,false,true⟩:=by kernel_rfl
theorem ano:bm Tryz.prog 247 = some ⟨.func,1,8,some [.nilFunc],false,false,true⟩:=by kernel_rfl
theorem am3:bm Tryz.prog 248 = some ⟨.pointer 5,1,8,some [.pointer none],false,false,true⟩:=by kernel_rfl
theorem amb:bm Tryz.prog 249 = some ⟨.int .i32,1,4,some [.int .i32 0],false,false,true⟩:=by kernel_rfl
theorem ao4:bm Tryz.prog 250 = some ⟨.int .i32,1,4,some [.int .i32 0],false,false,true⟩:=by kernel_rfl
theorem as5:ajr Tryz.prog a9f 0:=⟨axi,⟨au8,⟨awl,⟨axk,⟨axa,⟨ax5,⟨au9,⟨avh,⟨axr,⟨aqc,⟨asc,⟨aqa,⟨aro,⟨apj,⟨aqz,⟨as6,⟨apv,⟨ar1,⟨ars,⟨as1,⟨aor,⟨aq4,⟨aqd,⟨arj,⟨asp,⟨aqt,⟨aqg,⟨are,⟨arl,⟨apf,⟨aq8,⟨asm,⟨as0,⟨ap3,⟨arm,⟨aqf,⟨arz,⟨arf,⟨amj,⟨ao9,⟨akp,⟨akw,⟨an7,⟨akj,⟨alm,⟨anh,⟨anm,⟨alc,⟨amo,⟨anb,⟨aks,⟨anl,⟨akk,⟨am5,⟨anz,⟨an4,⟨ank,⟨ali,⟨akm,⟨al0,⟨ak5,⟨amg,⟨aoj,⟨ao5,⟨al7,⟨al4,⟨aml,⟨amh,⟨ao1,⟨ako,⟨ano,⟨am3,⟨amb,⟨ao4,trivial⟩⟩⟩⟩⟩⟩⟩⟩⟩⟩⟩⟩⟩⟩⟩⟩⟩⟩⟩⟩⟩⟩⟩⟩⟩⟩⟩⟩⟩⟩⟩⟩⟩⟩⟩⟩⟩⟩⟩⟩⟩⟩⟩⟩⟩⟩⟩⟩⟩⟩⟩⟩⟩⟩⟩⟩⟩⟩⟩⟩⟩⟩⟩⟩⟩⟩⟩⟩⟩⟩⟩⟩⟩⟩
theorem ae:cq Tryz.prog bf:=fun t i h=>by
 have:=a0z as5 t i h
 rwa [Nat.zero_add] at this
theorem ar:Tryz.prog.follows .mixedOrders = true:=by kernel_rfl
end Go.Hx
namespace Go.Hx
open Go.Proofs
section
variable {ro:Option Nat} {P:Program} {E:Env} {nt:Nat} {ops:Array Oper} {i:Nat} {o:Oper} {st:HSt} {L:List Nat} {K:List Tr → HSt → Prop} {Q:Exit → HSt → Prop}
theorem qy {out:Out} {gb:Bool} (hT:Reg P E nt ops L (st.after o.dst (some out.val) []) fun T sf=>K (⟨i,a3o true out.val.ids,looks st.den o,ck st.den o.dst [],ew E st.den o⟩ :: T) sf)
 (hi:ops[i]? = some o:=by exact rfl) (hw:bd ops st.den o = some gb:=by exact rfl) (hd:dt nt o.dst = true:=by exact rfl) (hq':hq E true st.den.o (ev st.den) o.op = some out:=by exact rfl) (hg:gb = true:=by exact rfl)
 (hp:out.pre:=by first | exact trivial | (simp only [fp,inR,kf,lj];omega) | exact aea _ _ | exact ⟨trivial,trivial⟩ | exact ⟨trivial,Nat.le_of_ble_eq_true rfl⟩ | (try dsimp only) <;> ((repeat' apply And.intro) <;> first | trivial | rfl | omega | (simp only [fl,bv];omega) | assumption | exact Nat.le_of_ble_eq_true rfl)) :
 Reg P E nt ops (i :: L) st K:=ca true hi hw hd hq' hg hp hT
theorem k9 {gb:Bool} (hg:gb = false) (hT:Reg P E nt ops L (st.after o.dst (some (.tup [])) []) fun T sf=>K (⟨i,a3o true [],looks st.den o,ck st.den o.dst [],none⟩ :: T) sf)
 (hi:ops[i]? = some o:=by exact rfl) (hw:bd ops st.den o = some gb:=by exact rfl) (hd:dt nt o.dst = true:=by exact rfl):Reg P E nt ops (i :: L) st K:=afy hi hw hd hg hT
theorem m9 (id:Nat) {nw:New} {gb:Bool} (hT:Reg P E nt ops L (st.after o.dst (some nw.val) [(id,some nw.ob)]) fun T sf=>K (⟨i,⟨id,false,true, .tup [],[id],[id],nw.val.ids ++ nw.ob.ids⟩,looks st.den o,ck st.den o.dst [(id,some nw.ob)],none⟩ :: T) sf)
 (hi:ops[i]? = some o:=by exact rfl) (hw:bd ops st.den o = some gb:=by exact rfl) (hd:dt nt o.dst = true:=by exact rfl) (hq':ha E (ev st.den) id o.op = some nw:=by exact rfl) (hn:ph id st = true:=by exact rfl) (hg:gb = true:=by exact rfl)
 (hp:nw.pre:=by first | exact trivial | (try dsimp only) <;> ((repeat' apply And.intro) <;> first | trivial | rfl | omega | assumption)):Reg P E nt ops (i :: L) st K:=tl id hi hw hd hq' hn hg hp hT
theorem s9 {u:Upd} {gb:Bool} (hT:Reg P E nt ops L (st.after o.dst none [(u.id,some u.ob)]) fun T sf=>K (⟨i,⟨0,false,true, .tup [],[u.id],[],u.ob.ids⟩,looks st.den o,ck st.den o.dst [(u.id,some u.ob)],ew E st.den o⟩ :: T) sf)
 (hi:ops[i]? = some o:=by exact rfl) (hw:bd ops st.den o = some gb:=by exact rfl) (hd:dt nt o.dst = true:=by exact rfl) (hq':hs E st.den.o (ev st.den) o.op = some u:=by exact rfl) (hg:gb = true:=by exact rfl)
 (hp:u.pre:=by first | exact Nat.le_of_ble_eq_true rfl | (try dsimp only) <;> ((repeat' apply And.intro) <;> first | trivial | rfl | omega | (simp only [fl,bv];omega) | assumption | exact Nat.le_of_ble_eq_true rfl)):Reg P E nt ops (i :: L) st K:=ab8 hi hw hd hq' hg hp hT
theorem f9 {rs:List ResultVar} {res:List PC} {p q:Prop} {l:List HC} {vs:List PC} (h1:wt E st.den rs = some (p,l)) (h2:nf st.den.o l = some (q,vs)) (hc:CoL vs res)
 (hp:p:=by (repeat' apply And.intro) <;> first | trivial | exact Nat.le_of_ble_eq_true rfl | rfl) (hq:q:=by (repeat' apply And.intro) <;> first | trivial | exact Nat.le_of_ble_eq_true rfl | rfl):ain E st rs res:=⟨p,l,q,vs,h1,hp,h2,hq,hc⟩
theorem c9 {f:Option HR} {x:HR} (h:f = some x:=by exact rfl):∃ y,f = some y ∧ CoR y x:=⟨x,h,CoR.refl x⟩
theorem u9 {f:Option al} {x:al} (h:f = some x:=by exact rfl):∃ y,f = some y ∧ CoO y x:=⟨x,h,CoO.refl x⟩
theorem zy {f:Option HR} {x y:HR} (h:f = some y:=by exact rfl) (c:CoR y x:=by first | exact CoR.refl _ | exact coi (by omega) | exact cob (by simp_all)):∃ y,f = some y ∧ CoR y x:=⟨y,h,c⟩
theorem l9 {a b:Nat} (h:Nat.ble a b = true:=by exact rfl):a ≤ b:=Nat.le_of_ble_eq_true h
theorem ty {n:Nat}:((n:Nat):Int).toNat = n:=Int.toNat_natCast n
end
theorem gy {ro:Option Nat} {nt id:Nat} {ops:Array Oper} {st:HSt} {Q:Exit → HSt → Prop} (h:Reg Tryz.prog bf nt ops (List.range ops.size) st fun _ sf=>Q .normal sf):HW (ro:=ro) Tryz.prog nt (.region id ops false) st Q:=aa6 ae h
end Go.Hx
namespace Go.Hx
open Go.Proofs
theorem sx7 {ro:Option Nat} {nt id:Nat} {ops:Array Oper} {st:HSt} {y:Code} {Q:Exit → HSt → Prop} (h:Reg Tryz.prog bf nt ops (List.range ops.size) st fun _ sf=>ay1 (ro:=ro) Tryz.prog nt y Q .normal sf):HW (ro:=ro) Tryz.prog nt (.seq (.region id ops false) y) st Q:=a7 (aa6 ae h)
theorem hx8 {ro:Option Nat} {P:Program} {E:Env} {nt:Nat} {st:HSt} {Q:Exit → HSt → Prop} {rs:List ResultVar} {res:List PC} {p q:Prop} {l:List HC} {vs:List PC} (hQ:Q .ret st = ((Exit.ret = .normal ∨ Exit.ret = .ret) ∧ ain E st rs res)) (h1:wt E st.den rs = some (p,l)) (h2:nf st.den.o l = some (q,vs)) (hc:CoL vs res)
 (hp:p:=by (repeat' apply And.intro) <;> first | trivial | exact Nat.le_of_ble_eq_true rfl | rfl) (hq:q:=by (repeat' apply And.intro) <;> first | trivial | exact Nat.le_of_ble_eq_true rfl | rfl):HW (ro:=ro) P nt .ret st Q:=ap (hQ ▸ ⟨.inr rfl,p,l,q,vs,h1,hp,h2,hq,hc⟩)
end Go.Hx
end
section
namespace Go.Hx
open Go.Proofs Go.Lib Go.RowKit
def b4v (k:Nat) (xs vs:List Value):List Value:=xs.take k ++ vs ++ xs.drop k
structure b46 (w w':World) (T s:Nat) (own v:Value) (n:Nat) (xs:List Value):Prop where
 row:w'.ownsRow 0 T s v (n + 1) xs
 bl:Below 0 w w'
 out:∀ g,g < w.heap.size → d6 own ≠ some g → w'.heap[g]? = w.heap[g]?
 at_:∀ g,d6 v = some g → w.heap.size ≤ g ∨ d6 own = some g
def b4q (i:Nat) (F G:Nat → Nat → PV):Nat → Nat → PV:=fun k j=>if k < i then F k j else if k = i then G 0 j else F (k - 1) j
theorem nj {id q:Nat} {x ob:al} (h:lk [(q,x)] id = some ob):id = q ∧ ob = x:=by
 simp only [lk] at h
 by_cases hk:q = id
 · subst hk
   simp at h
   exact ⟨rfl,h.symm⟩
 · have:Nat.beq q id = false:=by
    rw [Bool.eq_false_iff];exact fun hb=>hk (Nat.eq_of_beq_eq_true hb)
   rw [this] at h
   cases h
structure b51 (c:Ctx) (w w':World) (T s a:Nat) (v:Value) (n:Nat) (ys:List Value):Prop where
 row:w'.ownsRow 0 T s v (n + 1) ys
 bl:Below 0 w w'
 out:∀ g,g < w.heap.size → ¬ c.blk a g → w'.heap[g]? = w.heap[g]?
 at_:∀ g,d6 v = some g → w.heap.size ≤ g ∨ c.blk a g
def HE (nt:Nat) (st:HSt) (Q:HSt → Prop):Prop:=∀ w0 m0 a w,Rel w0 m0 nt st.den a w → ∃ st':HSt,Q st' ∧ Rel w0 m0 nt st'.den a w
theorem a7s {nt:Nat} {st:HSt} {Q:HSt → Prop} (h:Q st):HE nt st Q:=fun _ _ _ _ hr=>⟨st,h,hr⟩
end Go.Hx
end
