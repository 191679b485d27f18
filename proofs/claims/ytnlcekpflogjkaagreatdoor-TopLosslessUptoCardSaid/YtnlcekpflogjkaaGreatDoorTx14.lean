/- A part of the proof: Hx18 HxEnv. -/
import Derived.Test.YtnlcekpflogjkaaGreatDoorProg
import Derived.Test.YtnlcekpflogjkaaGreatDoorTx13
set_option linter.all false
namespace Go.Hx
section
open Go.RowKit
section
variable {ro:Option Nat} {P:Program} {E:Env} {nt:Nat} {ops:Array Oper} {i:Nat} {o:Oper} {st:HSt} {T:List Tr} {sf:S} {L:List Nat} {K:List Tr -> HSt -> Prop}
def b0q (b:ByteArray) (i:Nat):0 <= c9 b i /\ c9 b i <= 255:=by
 unfold c9;have:=(b.data.toList.getD i 0).toNat_lt;omega
def anw (b:ByteArray) (i:Nat):(kp true .i64 (c9 b i)).1:=by
 have:=b0q b i;simp only [kp,inR,wk,zo];omega
section
variable {gb:Bool}
def rq {out:Out} (hi:ops[i]? = some o) (hw:b7 ops st.den o = some gb) (hd:cj nt o.dst = true) (hq':hq E true st.den.o (ev st.den) o.op = some out) (hg:gb = true) (hT:Reg P E nt ops L (st.after o.dst (some out.val) []) fun T sf=>K (⟨i,acb true out.val.ids,looks st.den o,cb st.den o.dst [],gm E st.den o⟩ :: T) sf) (hp:out.pre:=by first | exact trivial | (simp only [kp,inR,wk,zo];omega) | exact anw _ _ | exact ⟨trivial,trivial⟩ | exact ⟨trivial,brf rfl⟩ | (try dsimp only) <;> ((repeat' apply And.intro) <;> first | trivial | rfl | omega | (simp only [dn,b5];omega) | assumption | exact brf rfl)):
 Reg P E nt ops (i :: L) st K:=cg true hi hw hd hq' hg hp hT
def rqw {out:Out} (hi:ops[i]? = some o) (hw:b7 ops st.den o = some gb) (hd:cj nt o.dst = true) (hq':hq E false st.den.o (ev st.den) o.op = some out) (hg:gb = true) (hT:Reg P E nt ops L (st.after o.dst (some out.val) []) fun T sf=>K (⟨i,acb false out.val.ids,looks st.den o,cb st.den o.dst [],gm E st.den o⟩ :: T) sf) (hp:out.pre:=by first | exact trivial | (simp only [kp,inR,wk,zo];omega) | exact anw _ _ | exact ⟨trivial,trivial⟩ | exact ⟨trivial,brf rfl⟩ | (try dsimp only) <;> ((repeat' apply And.intro) <;> first | trivial | rfl | omega | (simp only [dn,b5];omega) | assumption | exact brf rfl)):
 Reg P E nt ops (i :: L) st K:=cg false hi hw hd hq' hg hp hT
def rm (id:Nat) {nw:New} (hi:ops[i]? = some o) (hw:b7 ops st.den o = some gb) (hd:cj nt o.dst = true) (hq':ha E (ev st.den) id o.op = some nw) (hn:ju id st = true) (hg:gb = true) (hT:Reg P E nt ops L (st.after o.dst (some nw.val) [(id,some nw.ob)]) fun T sf=>K (⟨i,⟨id,false,true, .tup [],[id],[id],nw.val.ids ++ nw.ob.ids⟩,looks st.den o,cb st.den o.dst [(id,some nw.ob)],none⟩ :: T) sf) (hp:nw.pre:=by first | exact trivial | (try dsimp only) <;> ((repeat' apply And.intro) <;> first | trivial | rfl | omega | assumption)):Reg P E nt ops (i :: L) st K:=ze id hi hw hd hq' hn hg hp hT
def rs {u:Upd} (hi:ops[i]? = some o) (hw:b7 ops st.den o = some gb) (hd:cj nt o.dst = true) (hq':hs E st.den.o (ev st.den) o.op = some u) (hg:gb = true) (hT:Reg P E nt ops L (st.after o.dst none [(u.id,some u.ob)]) fun T sf=>K (⟨i,⟨0,false,true, .tup [],[u.id],[],u.ob.ids⟩,looks st.den o,cb st.den o.dst [(u.id,some u.ob)],gm E st.den o⟩ :: T) sf) (hp:u.pre:=by first | exact brf rfl | (try dsimp only) <;> ((repeat' apply And.intro) <;> first | trivial | rfl | omega | (simp only [dn,b5];omega) | assumption | exact brf rfl)):Reg P E nt ops (i :: L) st K:=anm hi hw hd hq' hg hp hT
def ra (id:Nat) (wb:Bool) {u:App} (hi:ops[i]? = some o) (hw:b7 ops st.den o = some gb) (hd:cj nt o.dst = true) (hq':hap E st.den.o (ev st.den) id wb o.op = some u) (hn:(!u.new || ju id st) = true) (hg:gb = true) (hT:Reg P E nt ops L (st.after o.dst (some u.val) [(u.id,some u.ob)]) fun T sf=>K (⟨i,⟨id,wb,true, .tup [],[u.id],if u.new then [id] else [],u.val.ids ++ u.ob.ids⟩,looks st.den o,cb st.den o.dst [(u.id,some u.ob)],none⟩ :: T) sf) (hp:u.pre:=by (try dsimp only) <;> ((repeat' apply And.intro) <;> first | trivial | rfl | assumption | omega | (simp only [brn];omega) | (simp only [dn,b5];omega) | exact Or.inl rfl | exact Or.inr rfl | exact (fun _=>Or.inl rfl) | exact (fun _=>Or.inr (brf rfl)) | exact brf rfl | (intro h;cases h;done))):Reg P E nt ops (i :: L) st K:=a31 id wb hi hw hd hq' hn hg hp hT
variable {b:Bool}
def rc {cl:Call} {f:FuncId} {fst caps args vs:List PC} {p:Prop} {res:PR} (hi:ops[i]? = some o) (hw:b7 ops st.den o = some gb) (hd:cj nt o.dst = true) (ho:o.op = .call cl) (hc:callee (ev st.den) cl = some (f,fst,caps)) (hv:lm st.den.o (ev st.den) cl.args.toList = some (p,vs,b)) (hf:goodFn P f) (hpure:a6 P f args res) (hco:CoL (fst ++ (vs ++ caps)) args) (hb:(!b || res.flat) = true) (hg:gb = true) (hT:Reg P E nt ops L (st.after o.dst (some res.toH) []) fun T sf=>K (⟨i,⟨0,false,true,res,[],[],[]⟩,looks st.den o,cb st.den o.dst [],none⟩ :: T) sf) (hp:p:=by (try dsimp only) <;> ((repeat' apply And.intro) <;> first | trivial | rfl | omega | assumption)):Reg P E nt ops (i :: L) st K:=asr hi hw hd ho hc hv hf hpure hco hg hp hb hT
def rv {sr ds:TypeId} {x:Operand} {b:ByteArray} (hi:ops[i]? = some o) (hw:b7 ops st.den o = some gb) (hd:cj nt o.dst = true) (ho:o.op = .convert sr ds x) (hcv:aei E (ev st.den) sr ds x = some b) (hg:gb = true) (hT:Reg P E nt ops L (st.after o.dst (some (.v (.one (.p (.sl b.size 1 false (ax2 b)))))) []) fun T sf=>K (⟨i,⟨0,false,true, .tup [],[],[],[]⟩,looks st.den o,cb st.den o.dst [],none⟩ :: T) sf) (hp:b.size <= maxLen:=by first | assumption | (unfold maxLen;omega)):Reg P E nt ops (i :: L) st K:=bbg hi hw hd ho hcv hg hp hT
def rk (hi:ops[i]? = some o) (hw:b7 ops st.den o = some gb) (hd:cj nt o.dst = true) (hg:gb = false) (hT:Reg P E nt ops L (st.after o.dst (some (.tup [])) []) fun T sf=>K (⟨i,acb true [],looks st.den o,cb st.den o.dst [],none⟩ :: T) sf):Reg P E nt ops (i :: L) st K:=atw hi hw hd hg hT
def afl {out:Out} {id:Nat} (hi:ops[i]? = some o) (hw:b7 ops st.den o = some gb) (hd:cj nt o.dst = true) (hq':ye E st.den.o (ev st.den) o.op = some (out,id)) (hg:gb = true) (hT:Reg P E nt ops L (st.after o.dst (some out.val) [(id,none)]) fun T sf=>K (⟨i,⟨0,false,true, .tup [],[id],[],[]⟩,looks st.den o,cb st.den o.dst [(id,none)],none⟩ :: T) sf) (hp:out.pre:=by (try dsimp only) <;> ((repeat' apply And.intro) <;> first | trivial | rfl | omega | (simp only [dn,b5];omega) | assumption | exact brf rfl)):Reg P E nt ops (i :: L) st K:=bg8 hi hw hd hq' hg hp hT
def aw {w:Bool} (hi:ops[i]? = some o) (hw:b7 ops st.den o = some (b == w)) (ht:b = true -> Reg P E nt ops (i :: L) st K) (hf:b = false -> Reg P E nt ops (i :: L) st K):Reg P E nt ops (i :: L) st K:=by
 cases hb:b with
 | true=>exact ht hb
 | false=>exact hf hb
def gtt (h:b = true):(b == true) = true:=by subst h;rfl
def gff (h:b = false):(b == false) = true:=by subst h;rfl
def gtf (h:b = true):(b == false) = false:=by subst h;rfl
def gft (h:b = false):(b == true) = false:=by subst h;rfl
end
end
def a6.eat {P:Program} {f:FuncId} {args:List PC} {res:PR} {hcs:List HC} {o1:List (Nat × a7)} {q:Prop} {vs:List PC} (h:a6 P f args res) (hv:po (lk o1) hcs = some (q,vs)) (hq:q) (hco:CoL vs args):cz P f hcs o1 res.toH [] []:=by
 classical
 intro w c us hm hargs
 let own:Nat -> Prop:=fun b=>∃ id ob,lk o1 id = some ob /\ c.blk id b
 let frm:Imm:=fun b=>if own b then none else w.heap[b]?
 let c2:Ctx:={ old:=(c.imm,frm,c.own,lk o1,c.rows),imm:=c.imm,tab:=c.tab,own:=c.own,blk:=c.blk,rows:=c.rows }
 have hrel:ag w 0 c2 ⟨fun _=>none,lk o1⟩ { tmps:=#[],defers:=[] } w:=by
  refine ⟨ta.nil _ _ _ _,rfl,Below.refl _ _,(fun d x hx=>by cases hx),fun id ob ho=>?_,hm.inj,hm.imm,hm.sep,fun b _=>rfl,fun b ob hbo=>?_,fun id ob b ho hbb=>?_,fun id _=>Evo.of_same rfl rfl⟩
  · exact (hm.objs id ob ho).keep (Imm.le.refl c.imm) rfl rfl (fun _ _=>Evo.of_same rfl rfl) fun _ _=>rfl
  · have hbo:frm b = some ob:=hbo
    simp only [frm] at hbo;split at hbo
    · cases hbo
    exact hbo
  show frm b = none;simp only [frm];rw [if_pos ⟨id,ob,ho,hbb⟩]
 let m:Imm:=fun b=>if own b then w.heap[b]? else c.imm b
 have hseen:a0n w c2 w m:=by
  refine ⟨fun b ob hbo=>?_,fun b hb' hlt=>?_⟩
  · have hbo:c.imm b = some ob:=hbo
    have:¬ own b:=fun ⟨id,ob2,h1,h2⟩=>by rw [hm.sep id ob2 b h1 h2] at hbo;cases hbo
    simp only [m,this,if_false];exact hbo
  have hb':frm b = none:=hb';by_cases ho:own b
  · simp [m,ho]
  simp only [frm,ho,if_false] at hb';have:¬ b < w.heap.size:=fun hlt=>by simp [hlt] at hb'
  exact absurd hlt this
 have hrep:bu c2 (lk o1) hcs us:=bu.evo (c:=c) (c':=c2) (o:=lk o1) (o':=lk o1) (Imm.le.refl c.imm) (fun _ _=>Evo.of_same rfl rfl) hargs;have hview:=CoL.sound hco (qx hrel hseen hrep hv hq)
 have hmm:∀ b ob,m b = some ob -> w.heap[b]? = some ob:=fun b ob hbo=>by
  simp only [m] at hbo;split at hbo
  · exact hbo
  exact hm.imm b ob hbo
 have hlem:Imm.le c.imm m:=fun b ob hb=>by
  by_cases hb':own b
  · obtain ⟨id,ob2,h1,h2⟩:=hb'
    rw [hm.sep id ob2 b h1 h2] at hb;cases hb
  simp only [m,hb',if_false];exact hb
 refine (h w m us (c.tab.mono hlem) hmm hview).mono ?_;rintro e w' ⟨v,imm',rfl,h1,h2,h3,h4⟩;refine ⟨v,{ old:=c.old,imm:=imm',tab:=(c.tab.mono hlem).mono (fun b ob hb=>by rw [h2 b (brj.1 (hmm b ob hb)).1];exact hb),own:=c.own,blk:=c.blk,rows:=c.rows },rfl,am.of_P h1,⟨(fun id ob ho=>by cases ho),(fun i i' ob ob' b ho=>by cases ho),h3,(fun id ob b ho=>by cases ho)⟩,h4.mono (bre _),fun b hb hno=>?_,(fun id ob b ho=>by cases ho),fun id hid=>by cases hid⟩;have hnb:¬ own b:=fun ⟨id,ob2,h1,h2⟩=>hno id ob2 h1 h2;exact ⟨h4.block b hb,by show imm' b = _;rw [h2 b hb];simp [m,hnb]⟩
section
variable {b v x y:Bool}
def be (h:b = false) (e:(bif b then x else y) = v):y = v:=by subst h;exact e
def ck (h:b = true) (e:(bif b then x else y) = v):x = v:=by subst h;exact e
def aol (h:b = false) (e:y = v):(bif b then x else y) = v:=by subst h;exact e
def ut (h:b = true) (e:x = v):(bif b then x else y) = v:=by subst h;exact e
def eg (e:(!x) = true):x = false:=by simpa using e
def ek (e:(!x) = false):x = true:=by simpa using e
def coi {k:IntKind} {a b:Int} (h:a = b):CoR (bp (.raw (.int k a))) (bp (.raw (.int k b))):=CoR.of_eq (by rw [h])
def cob {a:Bool} (h:a = b):CoR (bp (.raw (.bool a))) (bp (.raw (.bool b))):=CoR.of_eq (by rw [h])
def coS {a b:ByteArray} (h:a = b):CoR (bp (.raw (.string a))) (bp (.raw (.string b))):=CoR.of_eq (by rw [h])
theorem CoC.of_eq {x y:PC} (h:x = y):CoC x y:=h ▸ CoC.refl x
theorem CoL.of_eq {x y:List PC} (h:x = y):CoL x y:=h ▸ CoL.refl x
def cci {k:IntKind} {a b:Int} (h:a = b):CoC (.one (.raw (.int k a))) (.one (.raw (.int k b))):=CoC.of_eq (by rw [h])
def ccb {a:Bool} (h:a = b):CoC (.one (.raw (.bool a))) (.one (.raw (.bool b))):=CoC.of_eq (by rw [h])
theorem CoC.one {x y:PV} (h:CoP x y):CoC (.one x) (.one y):=h
def a63:List PV -> List PV -> Prop
 | [],[]=>True
 | x :: xs,y :: ys=>CoP x y /\ a63 xs ys
 | _,_=>False
def a63.refl:∀ (l:List PV),a63 l l
 | []=>trivial
 | x :: l=>⟨CoP.refl x,a63.refl l⟩
def a63.sound {m:Imm}:∀ {xs ys:List PV} {us:List Value},a63 xs ys -> fh m xs us -> fh m ys us
 | [],[],[],_,_=>trivial
 | _ :: _,_ :: _,_ :: _,h,k=>⟨h.1 _ _ k.1,a63.sound h.2 k.2⟩
 | [],_ :: _,_,h,_=>h.elim
 | _ :: _,[],_,h,_=>h.elim
 | [],[],_ :: _,_,h=>h.elim
 | _ :: _,_ :: _,[],_,h=>h.elim
theorem CoC.agg {l l':List PV} (h:a63 l l'):CoC (.agg l) (.agg l'):=by
 rintro m u ⟨us,e,hl⟩;exact ⟨us,e,h.sound hl⟩
def lf {α:Type} [Inhabited α] (c:α -> Nat -> PV) (l:List α):Nat -> Nat -> PV:=fun i j=>c (l.getD i default) j
def psl {α:Type} [Inhabited α] (s:Nat) (c:α -> Nat -> PV) (l:List α):PV:=.sl l.length s false (lf c l)
variable {s:Nat} {α:Type} {c:α -> Nat -> PV} {l:List α}
def ah9 [Inhabited α] {k:Nat} {cl:Bool} (hk:k <= l.length):CoP (.sl k s cl (lf c l)) (psl s c (l.take k)):=by
 refine CoP.sl (by simp [hk]) (.inl rfl) (fun h=>by cases h) fun i j hi hj=>CoP.of_eq ?_;simp only [lf,List.getD,bsa,hi,if_true]
def bdf [Inhabited α] {k:Nat} {cl:Bool}:CoP (.sl (l.length - k) s cl (fun i j=>lf c l (k + i) j)) (psl s c (l.drop k)):=by
 refine CoP.sl bvd (.inl rfl) (fun h=>by cases h) fun i j hi hj=>CoP.of_eq ?_;simp only [lf,List.getD,bv1]
def aeb [Inhabited α] {wr wr':Bool} {e:TypeId} {m:Nat} {g:Nat -> Nat -> PV} (l':List α) (hw:wr' = true -> wr = true) (hm:m = l'.length) (hg:∀ i j,i < l'.length -> j < s -> CoP (g i j) (lf c l' i j)):
 CoO (.arr wr s e (l.length + m) (f8 l.length (lf c l) g)) (.arr wr' s e (l ++ l').length (lf c (l ++ l'))):=by
 subst hm;refine ⟨hw,rfl,rfl,by simp,fun i j hi hj=>?_⟩;unfold f8;by_cases h:i < l.length
 · rw [if_pos h]
   refine CoP.of_eq ?_;simp only [lf,List.getD,buq h]
 rw [if_neg h];have:=hg (i - l.length) j bv9 hj;have e:lf c (l ++ l') i j = lf c l' (i - l.length) j:=by simp only [lf,List.getD,btu (Nat.le_of_not_lt h)]
 rw [e];exact this
def wn [Inhabited α] {wr wr':Bool} {i:Nat} {e:TypeId} {g:Nat -> Nat -> PV} (hw:wr' = true -> wr = true) (hg:∀ j,j < s -> CoP (g 0 j) (lf c l i j)):
 CoO (.arr wr s e (i + 1) (f8 i (lf c l) g)) (.arr wr' s e (i + 1) (lf c l)):=by
 refine ⟨hw,rfl,rfl,rfl,fun a j ha hj=>?_⟩;unfold f8;by_cases h:a < i
 · rw [if_pos h];exact CoP.refl _
 obtain rfl:a = i:=by omega
 rw [if_neg h,bv7];exact hg j hj
def su {s':Nat} {cl:Bool} {f f':Nat -> Nat -> PV}:CoP (.sl 0 s cl f) (.sl 0 s' false f'):=CoP.sl rfl (.inr rfl) (fun h=>by cases h) fun i j hi _=>absurd hi (brg i)
def tsf (l:List (List α)) (i:Nat) (h:i < l.length):(l.take (i + 1)).flatten = (l.take i).flatten ++ l.getD i default:=by
 rw [List.take_succ_eq_append_getElem h,btj];simp [List.getD,brb h]
def a6m (l:List (List α)) (i:Nat) (h:i < l.length):(l.take i).flatten.length + (l.getD i default).length <= l.flatten.length:=by
 have:l.flatten.length = (l.take (i + 1)).flatten.length + (l.drop (i + 1)).flatten.length:=by
  rw [<- brh,<- btj,List.take_append_drop]
 rw [this,tsf l i h,brh];omega
variable {P:Nat -> Prop}
def lt2 (h0:P 0) (h1:P 1):∀ j,j < 2 -> P j:=fun j hj=>by
 rcases j with _ | _ | j
 · exact h0
 · exact h1
 omega
def lt3 (h0:P 0) (h1:P 1) (h2:P 2):∀ j,j < 3 -> P j:=fun j hj=>by
 rcases j with _ | _ | _ | j
 · exact h0
 · exact h1
 · exact h2
 omega
def bp2 (i0:Nat) (h:HV) (f:Nat -> Nat -> PV):Nat -> Nat -> HV:=fun i j=>if i = i0 /\ j = 1 then h else .p (f i j)
def bo {i:Nat} (h:∀ j,j < i -> P j) (hn:P i):∀ j,j < i + 1 -> P j:=fun j hj=>by
 rcases Nat.lt_succ_iff_lt_or_eq.1 hj with h1 | rfl
 · exact h j h1
 exact hn
def c7:∀ j,j < 0 -> P j:=fun j hj=>absurd hj (brg j)
end
section
variable {α:Type} [Inhabited α] {p:α -> Bool} {l:List α} {i:Nat}
def akh (hi:i < l.length) (h:p (l.getD i default) = false):l.all p = false:=by
 rw [List.all_eq_false];refine ⟨l[i],brs hi, ?_⟩;simp only [List.getD,brb hi,bsn] at h;simp [h]
def akg (h:∀ j,j < l.length -> p (l.getD j default) = true):l.all p = true:=by
 rw [bs2];intro x hx;obtain ⟨j,hj,rfl⟩:=bry hx;have:=h j hj;simpa only [List.getD,brb hj,bsn] using this
def idx (p:α -> Bool) (l:List α):Int:=match l.findIdx? p with | some i=>i | none=>-1
def xf (hi:i < l.length) (hb:∀ j,j < i -> p (l.getD j default) = false) (h:p (l.getD i default) = true):idx p l = i:=by
 have:l.findIdx? p = some i:=by
  rw [btq];refine ⟨hi, ?_,fun j hj=>?_⟩
  · simpa only [List.getD,brb hi,bsn] using h
  have:=hb j hj;simp only [List.getD,brb (Nat.lt_trans hj hi),bsn] at this;simp [this]
 simp [idx,this]
def wq (h:∀ j,j < l.length -> p (l.getD j default) = false):idx p l = -1:=by
 have:l.findIdx? p = none:=by
  rw [bur];intro x hx;obtain ⟨j,hj,rfl⟩:=bry hx;have:=h j hj;simpa only [List.getD,brb hj,bsn] using this
 simp [idx,this]
def o5 {l l':List α} (hl:l.length = l'.length) (h:∀ j,j < l.length -> l.getD j default = l'.getD j default):l = l':=by
 refine btd hl fun j h1 h2=>?_;have:=h j h1;simpa only [List.getD,brb h1,brb h2,bsn] using this
end
def HSt.app (a b:HSt):HSt:=⟨a.t ++ b.t,a.o ++ b.o⟩
def aay:∀ {a b l:List (Nat × Option HR)},sj a l -> sj b l -> sj (a ++ b) l
 | [],_,_,_,h=>h
 | (_,some _) :: _,_,_,h,k=>⟨h.1,aay h.2 k⟩
 | (_,none) :: r,b,l,h,k=>aay (a:=r) (b:=b) (l:=l) h k
def ab8:∀ {a b l:List (Nat × Option a7)},tk a l -> tk b l -> tk (a ++ b) l
 | [],_,_,_,h=>h
 | (_,some _) :: _,_,_,h,k=>⟨h.1,ab8 h.2 k⟩
 | (_,none) :: r,b,l,h,k=>ab8 (a:=r) (b:=b) (l:=l) h k
theorem Sub.app {a b st:HSt} (h:Sub a st) (k:Sub b st):Sub (a.app b) st:=⟨aay h.1 k.1,ab8 h.2 k.2⟩
section
variable {ro:Option Nat} {P:Program} {nt:Nat} {st:HSt} {Q:Exit -> HSt -> Prop}
def apx {ι:Type} {body:Code} (K:HSt) (hK:Sub K st) (J:ι -> HSt) (p:ι -> Prop) (μ:ι -> Nat) (i0:ι) (h0:p i0) (hs:Sub (J i0) st) (round:∀ i,p i -> HW (ro:=ro) P nt body ((J i).app K) (akj (fun i=>(J i).app K) p μ i Q)):HW (ro:=ro) P nt (.loop body) st Q :=
 bbd (fun i=>(J i).app K) p μ i0 h0 (hs.app hK) round
def aqt {ι:Type} {x y:Code} (K:HSt) (hK:Sub K st) (J:ι -> HSt) (p:ι -> Prop) (h1:HW (ro:=ro) P nt x st (b3x (fun i=>(J i).app K) p Q)) (h2:∀ i,p i -> HW (ro:=ro) P nt y ((J i).app K) Q):HW (ro:=ro) P nt (.seq x y) st Q :=
 a3j (fun i=>(J i).app K) p h1 h2
section
variable {c:Code}
def zq (K:HSt) (hK:Sub K st) (h:HW (ro:=ro) P nt c K Q):HW (ro:=ro) P nt c st Q:=b0k K hK h
def go (bx off id:Nat) (wr:Bool) {n s':Nat} {f':Nat -> Nat -> PV} {l:List HV} (s:Nat) (e:TypeId) (f:Nat -> Nat -> PV) (hs:0 < s) (hb:b9 st.o bx = some (.box l)) (hl:l[off]? = some (.p (.sl n s' true f'))) (hco:CoP (.sl n s' true f') (.sl n s true f)) (hwr:wr = false \/ n = 0) (hn:ju id st = true) (hne:Nat.beq bx id = false) (h:HW (ro:=ro) P nt c ⟨st.t,(bx,some (.box (bh l off [.ref id n]))) :: (id,some (.arr wr s e n f)) :: st.o⟩ Q):HW (ro:=ro) P nt c st Q:=fun w0 m0 a w hr=>by
 obtain ⟨hnm,hno⟩:=e9 hn;obtain ⟨cc,hold,hrr⟩:=hr;have hbi:bx ≠ id:=by rintro rfl;simp at hne
 obtain ⟨b0,C0,e0,p1,p2,p3,p4,p5⟩:=hrr.objs bx _ hb;obtain ⟨u,hu,hur⟩:=p5.get off _ hl;have hx:ak cc.imm (.sl n s true f) u:=hco _ _ hur;have hnm':n <= maxLen:=by obtain ⟨ad,cap,_,q1,q2,_⟩:=hx;omega
 have hfresh:=hrr.fresh id hnm hno (.arr wr s e n f) w u noB (Grw.refl w none) (fun b hb=>hb.elim) ⟨hs,hnm', .inr ⟨hwr,by simp,by simpa using hx⟩⟩;rw [<- jf] at hfresh
 have hb':(HSt.den ⟨st.t,(id,some (.arr wr s e n f)) :: st.o⟩).o bx = some (.box l):=by
  simp only [HSt.den,ar,hbi,if_false];exact hb
 refine h w0 m0 a w ?_
 have hevo:∀ (c1:Ctx),c1.own = (fun k=>if k = id then u else cc.own k) -> Evo { old:=cc.old,imm:=cc.imm,tab:=cc.tab,own:=fun k=>if k = id then u else cc.own k,blk:=fun k=>if k = id then noB else cc.blk k,rows:=cc.rows } (HSt.den ⟨st.t,(id,some (.arr wr s e n f)) :: st.o⟩).o c1 ((HSt.den ⟨st.t,(id,some (.arr wr s e n f)) :: st.o⟩).setO bx (some (.box (bh l off [.ref id n])))).o bx:=fun c1 h1 =>
  .inr (.inl ⟨l,bh l off [.ref id n],hb',by simp [S.setO],by rw [h1]⟩)
 have hown:(fun k=>if k = bx then (fun k=>if k = id then u else cc.own k) bx else (fun k=>if k = id then u else cc.own k) k) = fun k=>if k = id then u else cc.own k:=by
  funext k;by_cases hk:k = bx
  · subst hk;simp
  simp [hk]
 have hw:=hfresh.write bx (.box l) hb' (.box (bh l off [.ref id n])) w ((fun k=>if k = id then u else cc.own k) bx) ((fun k=>if k = id then noB else cc.blk k) bx) none (Grw.refl w _) (fun _ e=>by cases e) (hevo _ (by exact hown)) (fun b hb=>.inl hb) (by
  refine ⟨b0,C0,e0,by simpa [hbi] using p1,by simpa [hbi] using p2,p3,p4, ?_⟩;have hoff:off < l.length:=(bt7.1 hl).1;have hcl:=p5.length;refine bc.of_get ?_ fun k x u' hx' hu'=>?_
  · simp only [bh,brh,brl,bu4,bst];omega
  have hx2:=hx';unfold bh at hx2;rw [d4 l [HV.ref id n] off k bvn] at hx2;by_cases hk:k = off
  · subst hk
    simp at hx2;subst hx2;rw [hu] at hu';simp only [bra] at hu';subst hu';refine ⟨ak.oneCell hx,fun l2=>by simp [S.setO,HSt.den,ar,Ne.symm hbi],fun ob1 s1 e1 n1 ho hd1=>?_⟩;simp only [S.setO,HSt.den,ar,Ne.symm hbi,if_false,if_true,bra] at ho;subst ho;simp only [a7.dim,bra,bri] at hd1;obtain ⟨rfl,rfl,rfl⟩:=hd1;exact ⟨brd _,fun _=>by simp [Ne.symm hbi]⟩
  rw [if_neg bvn] at hx2;obtain ⟨u2,hu2,hr2⟩:=p5.get k x hx2;rw [hu'] at hu2;simp only [bra] at hu2;subst hu2;refine bm.evo (c:=cc) (o:=st.den.o) (Imm.le.refl cc.imm) (fun j hj=>?_) hr2
  have hji:j ≠ id:=by
   rintro rfl;exact hnm.2.1 bx _ hb ⟨x,List.mem_of_getElem? hx2,hj⟩
  by_cases hjb:j = bx
  · subst hjb;exact .inr (.inl ⟨l,bh l off [.ref id n],hb,by simp [S.setO],by simp [hji]⟩)
  exact Evo.of_same (by simp [S.setO,hjb,HSt.den,ar,hji]) (by simp [hjb,hji]))
 have e:HSt.den ⟨st.t,(bx,some (.box (bh l off [.ref id n]))) :: (id,some (.arr wr s e n f)) :: st.o⟩ = (HSt.den ⟨st.t,(id,some (.arr wr s e n f)) :: st.o⟩).setO bx (some (.box (bh l off [.ref id n]))):=by
  unfold HSt.den S.setO;simp only [S.mk.injEq,true_and];funext k;simp only [ar]
 rw [e];exact ⟨_,(by exact hold),hw⟩
variable {f:Nat -> Nat -> PV}
def cu (d:Nat) {n s:Nat} {cl:Bool} (hd:b9 st.t d = some (bp (.sl n s cl f))) (h:n <= 9223372036854775807 -> HW (ro:=ro) P nt c st Q):HW (ro:=ro) P nt c st Q:=fun w0 m0 a w hr=>by
 have hr':=hr;obtain ⟨cc,hold,hrr⟩:=hr';obtain ⟨ad,cap,_,h1,h2,_⟩:=hrr.tmps d _ hd;exact h (by simp only [maxLen] at h2;omega) w0 m0 a w hr
def bmb (id off:Nat) {n s:Nat} {cl:Bool} {l:List HV} (hb:b9 st.o id = some (.box l)) (hl:l[off]? = some (.p (.sl n s cl f))) (h:n <= 9223372036854775807 -> HW (ro:=ro) P nt c st Q):HW (ro:=ro) P nt c st Q:=fun w0 m0 a w hr=>by
 have hr':=hr;obtain ⟨cc,hold,hrr⟩:=hr';obtain ⟨b,C,e,_,_,_,_,q5⟩:=hrr.objs id _ hb;obtain ⟨u,_,ad,cap,_,h1,h2,_⟩:=q5.get off _ hl;exact h (by simp only [maxLen] at h2;omega) w0 m0 a w hr
def a8p (id:Nat) {n s:Nat} {wr:Bool} {e:TypeId} (hb:b9 st.o id = some (.arr wr s e n f)) (h:n <= 9223372036854775807 -> HW (ro:=ro) P nt c st Q):HW (ro:=ro) P nt c st Q:=fun w0 m0 a w hr=>by
 have hr':=hr;obtain ⟨cc,hold,hrr⟩:=hr';have:=(hrr.objs id _ hb).2.1;exact h (by simp only [maxLen] at this;omega) w0 m0 a w hr
end
end
end
end Go.Hx
section
namespace Go.Hx
open Go.Proofs
noncomputable abbrev bw0:=Tryz.prog
def y9:List (Nat × Nat):=[(22,82),(25,131),(28,61),(32,9),(33,81),(38,50),(46,52),(79,84),(82,5),(96,151),(124,3),(136,192),(141,124),(155,79),(156,162),(162,163),(184,4),(233,235),(273,274),(294,28)]
def a6z:List (Nat × TI):=[(1,⟨.func,1,8,some [.nilFunc],false,false,true⟩),(2,⟨.int .i64,1,8,some [.int .i64 0],false,false,true⟩),(3,⟨.int .i64,1,8,some [.int .i64 0],false,false,true⟩),(4,⟨.bool,1,1,some [.bool false],false,false,true⟩),(5,⟨.int .u8,1,1,some [.int .u8 0],false,false,true⟩),(6,⟨.int .u8,1,1,some [.int .u8 0],false,false,true⟩),(7,⟨.struct [(0,2,false),(1,3,false),(2,4,false),(3,6,false)],4,24,some [.int .i64 0, .int .i64 0, .bool false, .int .u8 0],false,false,false⟩),(8,⟨.struct [(0,2,false),(1,3,false),(2,4,false),(3,6,false)],4,24,some [.int .i64 0, .int .i64 0, .bool false, .int .u8 0],false,false,false⟩),(9,⟨.string,1,16,some [.string ⟨#[]⟩],false,false,true⟩),(21,⟨.int .i32,1,4,some [.int .i32 0],false,false,true⟩),(23,⟨.struct [(0,5,false),(1,5,false),(2,22,false)],3,32,some [.int .u8 0, .int .u8 0, .slice none 0 0],false,false,false⟩),(24,⟨.struct [(0,5,false),(1,5,false),(2,22,false)],3,32,some [.int .u8 0, .int .u8 0, .slice none 0 0],false,false,false⟩),(26,⟨.struct [(0,5,false),(1,25,false)],2,32,some [.int .u8 0, .slice none 0 0],false,false,false⟩),(27,⟨.struct [(0,5,false),(1,25,false)],2,32,some [.int .u8 0, .slice none 0 0],false,false,false⟩),(34,⟨.struct [(0,9,false),(1,32,false),(2,33,false)],3,64,some [.string ⟨#[]⟩, .slice none 0 0, .slice none 0 0],false,false,false⟩),(35,⟨.struct [(0,9,false),(1,32,false),(2,33,false)],3,64,some [.string ⟨#[]⟩, .slice none 0 0, .slice none 0 0],false,false,false⟩),(39,⟨.int .i64,1,8,some [.int .i64 0],false,false,true⟩),(49,⟨.int .u32,1,4,some [.int .u32 0],false,false,true⟩),(50,⟨.int .u32,1,4,some [.int .u32 0],false,false,true⟩),(51,⟨.struct [(0,50,false),(1,50,false)],2,8,some [.int .u32 0, .int .u32 0],false,false,false⟩),(52,⟨.struct [(0,50,false),(1,50,false)],2,8,some [.int .u32 0, .int .u32 0],false,false,false⟩),(61,⟨.struct [(0,50,false),(1,50,false)],2,8,some [.int .u32 0, .int .u32 0],false,false,false⟩),(80,⟨.struct [(0,2,false),(1,79,false)],2,32,some [.int .i64 0, .slice none 0 0],false,false,false⟩),(81,⟨.struct [(0,2,false),(1,79,false)],2,32,some [.int .i64 0, .slice none 0 0],false,false,false⟩),(83,⟨.struct [(0,3,false),(1,2,false),(2,9,false)],3,32,some [.int .i64 0, .int .i64 0, .string ⟨#[]⟩],false,false,false⟩),(84,⟨.struct [(0,3,false),(1,2,false),(2,9,false)],3,32,some [.int .i64 0, .int .i64 0, .string ⟨#[]⟩],false,false,false⟩),(121,⟨.func,1,8,some [.nilFunc],false,false,true⟩),(130,⟨.struct [(0,5,false),(1,5,false)],2,2,some [.int .u8 0, .int .u8 0],false,false,false⟩),(131,⟨.struct [(0,5,false),(1,5,false)],2,2,some [.int .u8 0, .int .u8 0],false,false,false⟩),(137,⟨.func,1,8,some [.nilFunc],false,false,true⟩),(138,⟨.func,1,8,some [.nilFunc],false,false,true⟩),(140,⟨.func,1,8,some [.nilFunc],false,false,true⟩),(142,⟨.struct [(0,3,false),(1,141,false)],2,32,some [.int .i64 0, .slice none 0 0],false,false,false⟩),(143,⟨.struct [(0,3,false),(1,141,false)],2,32,some [.int .i64 0, .slice none 0 0],false,false,false⟩),(150,⟨.struct [(0,4,false),(1,3,false),(2,3,false),(3,3,false)],4,32,some [.bool false, .int .i64 0, .int .i64 0, .int .i64 0],false,false,false⟩),(151,⟨.struct [(0,4,false),(1,3,false),(2,3,false),(3,3,false)],4,32,some [.bool false, .int .i64 0, .int .i64 0, .int .i64 0],false,false,false⟩),(154,⟨.pointer 158,1,8,some [.pointer none],false,false,true⟩),(157,⟨.struct [(0,38,false),(1,155,false),(2,156,false),(3,155,false)],4,96,some [.slice none 0 0, .slice none 0 0, .slice none 0 0, .slice none 0 0],false,false,false⟩),(158,⟨.struct [(0,38,false),(1,155,false),(2,156,false),(3,155,false)],4,96,some [.slice none 0 0, .slice none 0 0, .slice none 0 0, .slice none 0 0],false,false,false⟩),(160,⟨.func,1,8,some [.nilFunc],false,false,true⟩),(161,⟨.func,1,8,some [.nilFunc],false,false,true⟩),(163,⟨.map 9 4,1,8,some [.map none],false,false,true⟩),(186,⟨.struct [(0,3,false),(1,124,false)],2,32,some [.int .i64 0, .slice none 0 0],false,false,false⟩),(187,⟨.struct [(0,3,false),(1,124,false)],2,32,some [.int .i64 0, .slice none 0 0],false,false,false⟩),(189,⟨.map 50 124,1,8,some [.map none],false,false,true⟩),(191,⟨.struct [(0,50,false),(1,2,false),(2,2,false)],3,24,some [.int .u32 0, .int .i64 0, .int .i64 0],false,false,false⟩),(192,⟨.struct [(0,50,false),(1,2,false),(2,2,false)],3,24,some [.int .u32 0, .int .i64 0, .int .i64 0],false,false,false⟩),(193,⟨.map 50 195,1,8,some [.map none],false,false,true⟩),(195,⟨.array 2 2,2,16,some [.int .i64 0, .int .i64 0],false,false,false⟩),(197,⟨.map 50 50,1,8,some [.map none],false,false,true⟩),(201,⟨.func,1,8,some [.nilFunc],false,false,true⟩),(202,⟨.func,1,8,some [.nilFunc],false,false,true⟩),(208,⟨.int .u64,1,8,some [.int .u64 0],false,false,true⟩),(216,⟨.func,1,8,some [.nilFunc],false,false,true⟩),(219,⟨.func,1,8,some [.nilFunc],false,false,true⟩),(224,⟨.func,1,8,some [.nilFunc],false,false,true⟩),(234,⟨.struct [(0,3,false),(1,141,false)],2,32,some [.int .i64 0, .slice none 0 0],false,false,false⟩),(235,⟨.struct [(0,3,false),(1,141,false)],2,32,some [.int .i64 0, .slice none 0 0],false,false,false⟩),(250,⟨.func,1,8,some [.nilFunc],false,false,true⟩),(254,⟨.int .i64,1,8,some [.int .i64 0],false,false,true⟩),(262,⟨.int .u64,1,8,some [.int .u64 0],false,false,true⟩),(263,⟨.func,1,8,some [.nilFunc],false,false,true⟩),(274,⟨.array 2 3,2,16,some [.int .i64 0, .int .i64 0],false,false,false⟩),(281,⟨.int .u64,1,8,some [.int .u64 0],false,false,true⟩),(285,⟨.pointer 3,1,8,some [.pointer none],false,false,true⟩),(292,⟨.array 32 5,32,32,some [.int .u8 0, .int .u8 0, .int .u8 0, .int .u8 0, .int .u8 0, .int .u8 0, .int .u8 0, .int .u8 0, .int .u8 0, .int .u8 0, .int .u8 0, .int .u8 0, .int .u8 0, .int .u8 0, .int .u8 0, .int .u8 0, .int .u8 0, .int .u8 0, .int .u8 0, .int .u8 0, .int .u8 0, .int .u8 0, .int .u8 0, .int .u8 0, .int .u8 0, .int .u8 0, .int .u8 0, .int .u8 0, .int .u8 0, .int .u8 0, .int .u8 0, .int .u8 0],false,false,false⟩),(295,⟨.pointer 297,1,8,some [.pointer none],false,false,true⟩),(296,⟨.struct [(0,295,false),(1,82,false)],2,32,some [.pointer none, .slice none 0 0],false,false,false⟩),(297,⟨.struct [(0,295,false),(1,82,false)],2,32,some [.pointer none, .slice none 0 0],false,false,false⟩),(304,⟨.map 274 3,1,8,some [.map none],false,false,true⟩),(312,⟨.pointer 281,1,8,some [.pointer none],false,false,true⟩),(317,⟨.pointer 5,1,8,some [.pointer none],false,false,true⟩),(318,⟨.map 9 3,1,8,some [.map none],false,false,true⟩)]
def ag1 {α:Type}:List (Nat × α) -> Nat -> Option α
 | [],_=>none
 | (a,x) :: r,n=>bif Nat.beq a n then some x else ag1 r n
def ef:Env:=fun t=>match ag1 y9 t with | some e=>some ⟨.slice e,1,24,some [.slice none 0 0],false,false,true⟩ | none=>ag1 a6z t
def abk {α:Type}:∀ {l:List (Nat × α)} {t:Nat} {i:α},ag1 l t = some i -> (t,i) ∈ l
 | (a,x) :: r,t,i,h=>by
  simp only [ag1] at h
  cases hb:Nat.beq a t with
  | true=>rw [hb] at h;cases h;rw [bs9 hb];exact bsj
  | false=>rw [hb] at h;exact bs1 _ (abk h)
def b56:a6z.map (fun p=>v8 bw0 p.1) = a6z.map (fun p=>some p.2):=by kernel_rfl
def azu:y9.map (fun p=>v8 bw0 p.1) = y9.map (fun p=>some ⟨.slice p.2,1,24,some [.slice none 0 0],false,false,true⟩):=by kernel_rfl
def dm:cr bw0 ef:=fun t i h=>by
 unfold ef at h
 cases hs:ag1 y9 t with
 | some e=>rw [hs] at h;cases h;exact List.map_inj_left.1 azu (t,e) (abk hs)
 | none=>rw [hs] at h;exact List.map_inj_left.1 b56 (t,i) (abk h)
def a7s:bw0.follows .mixedOrders = true:=by kernel_rfl
end Go.Hx
namespace Go.Hx
open Go.Proofs
section
variable {ro:Option Nat} {P:Program} {E:Env} {nt:Nat} {ops:Array Oper} {i:Nat} {o:Oper} {st:HSt} {L:List Nat} {K:List Tr -> HSt -> Prop} {Q:Exit -> HSt -> Prop}
section
variable {gb:Bool}
def qy {out:Out} (hT:Reg P E nt ops L (st.after o.dst (some out.val) []) fun T sf=>K (⟨i,acb true out.val.ids,looks st.den o,cb st.den o.dst [],gm E st.den o⟩ :: T) sf) (hi:ops[i]? = some o:=by exact rfl) (hw:b7 ops st.den o = some gb:=by exact rfl) (hd:cj nt o.dst = true:=by exact rfl) (hq':hq E true st.den.o (ev st.den) o.op = some out:=by exact rfl) (hg:gb = true:=by exact rfl) (hp:out.pre:=by first | exact trivial | (simp only [kp,inR,wk,zo];omega) | exact anw _ _ | exact ⟨trivial,trivial⟩ | exact ⟨trivial,brf rfl⟩ | (try dsimp only) <;> ((repeat' apply And.intro) <;> first | trivial | rfl | omega | (simp only [dn,b5];omega) | assumption | exact brf rfl)):
 Reg P E nt ops (i :: L) st K:=cg true hi hw hd hq' hg hp hT
def k9 (hg:gb = false) (hT:Reg P E nt ops L (st.after o.dst (some (.tup [])) []) fun T sf=>K (⟨i,acb true [],looks st.den o,cb st.den o.dst [],none⟩ :: T) sf) (hi:ops[i]? = some o:=by exact rfl) (hw:b7 ops st.den o = some gb:=by exact rfl) (hd:cj nt o.dst = true:=by exact rfl):Reg P E nt ops (i :: L) st K:=atw hi hw hd hg hT
def m9 (id:Nat) {nw:New} (hT:Reg P E nt ops L (st.after o.dst (some nw.val) [(id,some nw.ob)]) fun T sf=>K (⟨i,⟨id,false,true, .tup [],[id],[id],nw.val.ids ++ nw.ob.ids⟩,looks st.den o,cb st.den o.dst [(id,some nw.ob)],none⟩ :: T) sf) (hi:ops[i]? = some o:=by exact rfl) (hw:b7 ops st.den o = some gb:=by exact rfl) (hd:cj nt o.dst = true:=by exact rfl) (hq':ha E (ev st.den) id o.op = some nw:=by exact rfl) (hn:ju id st = true:=by exact rfl) (hg:gb = true:=by exact rfl) (hp:nw.pre:=by first | exact trivial | (try dsimp only) <;> ((repeat' apply And.intro) <;> first | trivial | rfl | omega | assumption)):Reg P E nt ops (i :: L) st K:=ze id hi hw hd hq' hn hg hp hT
def s9 {u:Upd} (hT:Reg P E nt ops L (st.after o.dst none [(u.id,some u.ob)]) fun T sf=>K (⟨i,⟨0,false,true, .tup [],[u.id],[],u.ob.ids⟩,looks st.den o,cb st.den o.dst [(u.id,some u.ob)],gm E st.den o⟩ :: T) sf) (hi:ops[i]? = some o:=by exact rfl) (hw:b7 ops st.den o = some gb:=by exact rfl) (hd:cj nt o.dst = true:=by exact rfl) (hq':hs E st.den.o (ev st.den) o.op = some u:=by exact rfl) (hg:gb = true:=by exact rfl) (hp:u.pre:=by first | exact brf rfl | (try dsimp only) <;> ((repeat' apply And.intro) <;> first | trivial | rfl | omega | (simp only [dn,b5];omega) | assumption | exact brf rfl)):Reg P E nt ops (i :: L) st K:=anm hi hw hd hq' hg hp hT
variable {p:Prop}
def f9 {rs:List ResultVar} {res:List PC} {q:Prop} {l:List HC} {vs:List PC} (h1:zi E st.den rs = some (p,l)) (h2:po st.den.o l = some (q,vs)) (hc:CoL vs res) (hp:p:=by (repeat' apply And.intro) <;> first | trivial | exact brf rfl | rfl) (hq:q:=by (repeat' apply And.intro) <;> first | trivial | exact brf rfl | rfl):adh E st rs res:=⟨p,l,q,vs,h1,hp,h2,hq,hc⟩
def u9 {f:Option a7} {x:a7} (h:f = some x:=by exact rfl):∃ y,f = some y /\ CoO y x:=⟨x,h,CoO.refl x⟩
def bvl (h:p:=by simp_all):p:=h
def zy {f:Option HR} {x y:HR} (h:f = some y:=by exact rfl) (c:CoR y x:=by first | exact CoR.refl _ | exact coi bv9 | exact cob bvl):∃ y,f = some y /\ CoR y x:=⟨y,h,c⟩
def l9 {a b:Nat} (h:Nat.ble a b = true:=by exact rfl):a <= b:=brf h
def qcx {cl:Call} {f:FuncId} {fst caps args vs:List PC} {b:Bool} {res:PR} (hf:goodFn P f) (hpure:a6 P f args res) (hT:Reg P E nt ops L (st.after o.dst (some res.toH) []) fun T sf=>K (⟨i,⟨0,false,true,res,[],[],[]⟩,looks st.den o,cb st.den o.dst [],none⟩ :: T) sf) (hi:ops[i]? = some o:=by exact rfl) (hw:b7 ops st.den o = some gb:=by exact rfl) (hd:cj nt o.dst = true:=by exact rfl) (ho:o.op = .call cl:=by exact rfl) (hc:callee (ev st.den) cl = some (f,fst,caps):=by exact rfl) (hv:lm st.den.o (ev st.den) cl.args.toList = some (p,vs,b):=by exact rfl) (hco:CoL (fst ++ (vs ++ caps)) args:=by exact CoL.refl _) (hb:(!b || res.flat) = true:=by exact rfl) (hg:gb = true:=by exact rfl) (hp:p:=by (try dsimp only) <;> ((repeat' apply And.intro) <;> first | trivial | rfl | omega | assumption)):Reg P E nt ops (i :: L) st K:=asr hi hw hd ho hc hv hf hpure hco hg hp hb hT
def wgx {f : FuncId} {fn : Func} (h : P.funcs[f]? = some fn) (h1 : (fn.name == "runtime.NumGoroutine") = false := by kernel_rfl) (h2 : fn.body.isNone = false := by kernel_rfl) : goodFn P f := ⟨fn, h, h1, h2⟩
def bo5 [Decidable p] (h:decide p = true):p:=of_decide_eq_true h
def bfi [Decidable p] (h:decide p = false):¬ p:=of_decide_eq_false h
def ty {n:Nat}:((n:Nat):Int).toNat = n:=brn n
end
end
def gy {ro:Option Nat} {nt id:Nat} {ops:Array Oper} {st:HSt} {Q:Exit -> HSt -> Prop} (h:Reg bw0 ef nt ops (List.range ops.size) st fun _ sf=>Q .normal sf):HW (ro:=ro) bw0 nt (.region id ops false) st Q:=ajf dm h
end Go.Hx
namespace Go.Hx
open Go.Proofs
section
variable {Q:Exit -> HSt -> Prop}
def sx7 {ro:Option Nat} {nt id:Nat} {ops:Array Oper} {st:HSt} {y:Code} (h:Reg bw0 ef nt ops (List.range ops.size) st fun _ sf=>bje (ro:=ro) bw0 nt y Q .normal sf):HW (ro:=ro) bw0 nt (.seq (.region id ops false) y) st Q:=cq (ajf dm h)
def hx8 {ro:Option Nat} {P:Program} {E:Env} {nt:Nat} {st:HSt} {rs:List ResultVar} {res:List PC} {p q:Prop} {l:List HC} {vs:List PC} (hQ:Q .ret st = ((Exit.ret = .normal \/ Exit.ret = .ret) /\ adh E st rs res)) (h1:zi E st.den rs = some (p,l)) (h2:po st.den.o l = some (q,vs)) (hc:CoL vs res) (hp:p:=by (repeat' apply And.intro) <;> first | trivial | exact brf rfl | rfl) (hq:q:=by (repeat' apply And.intro) <;> first | trivial | exact brf rfl | rfl):HW (ro:=ro) P nt .ret st Q:=aes (hQ ▸ ⟨.inr rfl,p,l,q,vs,h1,hp,h2,hq,hc⟩)
end
end Go.Hx
namespace Go.Hx
open Go.Proofs
def tz1 {p q:Prop} {d:Decidable p} (h:decide p = true) (e:p = q:=by first | (simp only [ty];done) | (simp only [ty];exact rfl) | exact rfl):q:=e ▸ of_decide_eq_true h
def tz2 {p q:Prop} {d:Decidable p} (h:decide p = false) (e:(¬ p) = q:=by first | (simp only [ty];done) | (simp only [ty];exact rfl) | exact rfl):q:=e ▸ of_decide_eq_false h
section
variable {ro:Option Nat} {P:Program} {nt:Nat} {st:HSt} {Q:Exit -> HSt -> Prop} {c:Operand} {x y:Code} {p q q':Prop} {d:Decidable p}
def hcd (ht:q -> HW (ro:=ro) P nt x st Q) (hf:q' -> HW (ro:=ro) P nt y st Q) (hc:ev st.den c = some (.v (.one (.p (.raw (.bool (@decide p d)))))):=by exact rfl) (e:p = q:=by first | (simp only [ty];done) | (simp only [ty];exact rfl) | exact rfl) (e':(¬ p) = q':=by first | (simp only [ty];done) | (simp only [ty];exact rfl) | exact rfl):HW (ro:=ro) P nt (.cond c x y) st Q :=
 au _ hc (fun h=>ht (e ▸ of_decide_eq_true h)) (fun h=>hf (e' ▸ of_decide_eq_false h))
def hcn (ht:q' -> HW (ro:=ro) P nt x st Q) (hf:q -> HW (ro:=ro) P nt y st Q) (hc:ev st.den c = some (.v (.one (.p (.raw (.bool (!(@decide p d))))))):=by exact rfl) (e:p = q:=by first | (simp only [ty];done) | (simp only [ty];exact rfl) | exact rfl) (e':(¬ p) = q':=by first | (simp only [ty];done) | (simp only [ty];exact rfl) | exact rfl):HW (ro:=ro) P nt (.cond c x y) st Q :=
 au _ hc (fun h=>ht (e' ▸ of_decide_eq_false (eg h))) (fun h=>hf (e ▸ of_decide_eq_true (ek h)))
def hcb {b:Bool} (ht:b = true -> HW (ro:=ro) P nt x st Q) (hf:b = false -> HW (ro:=ro) P nt y st Q) (hc:ev st.den c = some (.v (.one (.p (.raw (.bool b))))):=by exact rfl):HW (ro:=ro) P nt (.cond c x y) st Q:=au _ hc ht hf
def hcv {b:Bool} (ht:b = false -> HW (ro:=ro) P nt x st Q) (hf:b = true -> HW (ro:=ro) P nt y st Q) (hc:ev st.den c = some (.v (.one (.p (.raw (.bool (!b)))))):=by exact rfl):HW (ro:=ro) P nt (.cond c x y) st Q :=
 au _ hc (fun h=>ht (eg h)) (fun h=>hf (ek h))
section
variable {l:List (Nat × Option HR)}
def ka {x:HR} {r:List (Nat × Option HR)} (d:Nat) (h:sj r l) (e:b9 l d = some x:=by exact rfl):sj ((d,some x) :: r) l:=⟨⟨x,e,CoR.refl x⟩,h⟩
def kb {x:a7} {r l:List (Nat × Option a7)} (d:Nat) (h:tk r l) (e:b9 l d = some x:=by exact rfl):tk ((d,some x) :: r) l:=⟨⟨x,e,CoO.refl x⟩,h⟩
def kn:sj [] l:=trivial
def km {l:List (Nat × Option a7)}:tk [] l:=trivial
variable {ko:List (Nat × Option a7)} {kt:List (Nat × Option HR)} {ι:Type}
def ah {body:Code} (hT:sj kt st.t) (hO:tk ko st.o) (J:ι -> HSt) (p:ι -> Prop) (μ:ι -> Nat) (i0:ι) (h0:p i0) (hs:Sub (J i0) st) (round:∀ i,p i -> HW (ro:=ro) P nt body ((J i).app ⟨kt,ko⟩) (akj (fun i=>(J i).app ⟨kt,ko⟩) p μ i Q)):HW (ro:=ro) P nt (.loop body) st Q:=apx ⟨kt,ko⟩ ⟨hT,hO⟩ J p μ i0 h0 hs round
def d5 {x y:Code} (hT:sj kt st.t) (hO:tk ko st.o) (J:ι -> HSt) (p:ι -> Prop) (h1:HW (ro:=ro) P nt x st (b3x (fun i=>(J i).app ⟨kt,ko⟩) p Q)) (h2:∀ i,p i -> HW (ro:=ro) P nt y ((J i).app ⟨kt,ko⟩) Q):HW (ro:=ro) P nt (.seq x y) st Q:=aqt ⟨kt,ko⟩ ⟨hT,hO⟩ J p h1 h2
def tt {p:Prop} (h:p:=by repeat (first | exact trivial | refine ⟨⟨_,rfl,CoR.refl _⟩, ?_⟩ | refine ⟨⟨_,rfl,(by first | exact CoR.refl _ | exact coi bv9 | exact cob bvl)⟩, ?_⟩)):p:=h
def uu {p:Prop} (h:p:=by repeat (first | exact trivial | refine ⟨⟨_,rfl,CoO.refl _⟩, ?_⟩)):p:=h
def kk {a b:HSt} (h:sj a.t b.t:=by exact tt) (h2:tk a.o b.o:=by exact uu):Sub a b:=⟨h,h2⟩
def br {body:Code} (hT:sj kt st.t) (hO:tk ko st.o) (J:Nat -> HSt) (N:Nat) (hs:Sub (J 0) st) (round:∀ i,i <= N -> HW (ro:=ro) P nt body ((J i).app ⟨kt,ko⟩) (akj (fun i=>(J i).app ⟨kt,ko⟩) (fun i=>i <= N) (fun i=>N - i) i Q)):HW (ro:=ro) P nt (.loop body) st Q:=apx ⟨kt,ko⟩ ⟨hT,hO⟩ J (fun i=>i <= N) (fun i=>N - i) 0 (bre _) hs round
def bo4 (S:HSt) (Q:Exit -> HSt -> Prop):Exit -> HSt -> Prop
 | .normal,st=>Sub S st
 | e,st=>Q e st
def aek {x y:Code} (hT:sj kt st.t) (hO:tk ko st.o) (J:HSt) (h1:HW (ro:=ro) P nt x st (bo4 (J.app ⟨kt,ko⟩) Q)) (h2:HW (ro:=ro) P nt y (J.app ⟨kt,ko⟩) Q):HW (ro:=ro) P nt (.seq x y) st Q :=
 aqt (ι:=Unit) ⟨kt,ko⟩ ⟨hT,hO⟩ (fun _=>J) (fun _=>True) (as7 h1 fun e st' h=>by cases e <;> first | exact ⟨(),trivial,h⟩ | exact h) fun _ _=>h2
def hcT (h:HW (ro:=ro) P nt x st Q) (hc:ev st.den c = some (.v (.one (.p (.raw (.bool true))))):=by exact rfl):HW (ro:=ro) P nt (.cond c x y) st Q:=au _ hc (fun _=>h) (fun e=>Bool.noConfusion e)
def hcF (h:HW (ro:=ro) P nt y st Q) (hc:ev st.den c = some (.v (.one (.p (.raw (.bool false))))):=by exact rfl):HW (ro:=ro) P nt (.cond c x y) st Q:=au _ hc (fun e=>Bool.noConfusion e) (fun _=>h)
def hrr {X:Prop} (h:X) (hQ:Q .ret st = ((Exit.ret = .normal \/ Exit.ret = .ret) /\ X):=by exact rfl):HW (ro:=ro) P nt .ret st Q:=aes (hQ ▸ ⟨.inr rfl,h⟩)
def hxr {E:Env} {rs:List ResultVar} {res:List PC} {p q:Prop} {l:List HC} {vs:List PC} (hc:CoL vs res) (hQ:Q .ret st = ((Exit.ret = .normal \/ Exit.ret = .ret) /\ adh E st rs res):=by exact rfl) (h1:zi E st.den rs = some (p,l):=by exact rfl) (h2:po st.den.o l = some (q,vs):=by exact rfl)
 (hp:p:=by (repeat' apply And.intro) <;> first | trivial | exact brf rfl | rfl) (hq:q:=by (repeat' apply And.intro) <;> first | trivial | exact brf rfl | rfl):HW (ro:=ro) P nt .ret st Q:=aes (hQ ▸ ⟨.inr rfl,p,l,q,vs,h1,hp,h2,hq,hc⟩)
def kd {a b:Prop} (h:b) (k:a:=by kernel_rfl):a /\ b:=⟨k,h⟩
def lpz {I:ι -> HSt} {pp:ι -> Prop} {μ:ι -> Nat} {k:Nat} (i':ι) (hs:Sub (I i') st) (hp:pp i') (hm:μ i' < k:=by first | omega | (dsimp only;omega)):∃ i',pp i' /\ μ i' < k /\ Sub (I i') st:=⟨i',hp,hm,hs⟩
def lpx {I:ι -> HSt} {pp:ι -> Prop} {μ:ι -> Nat} {k:Nat} (i':ι) (hs:Sub (I i') st) (hp:pp i':=by first | trivial | (show _ + 1 <= _;omega)) (hm:μ i' < k:=by first | omega | (dsimp only;omega)):∃ i',pp i' /\ μ i' < k /\ Sub (I i') st:=⟨i',hp,hm,hs⟩
end
end
def hpx {nt:Nat} {f:FuncId} {fn:Func} {body:Code} {args res:List PC} (hf:bw0.funcs[f]? = some fn) (h:HW (ro:=none) bw0 nt body ⟨a4z 0 args,[]⟩ fun e st=>(e = .normal \/ e = .ret) /\ adh ef st fn.results.toList res) (hb:fn.body = some body:=by exact rfl) (hn:fn.ntmps = nt:=by exact rfl) (hl:args.length <= nt:=by exact brf rfl):a6 bw0 f args (af res):=b6u dm hf hb hn hl h
def hfx {nt:Nat} {f:FuncId} {fn:Func} {body:Code} {args:List HC} {o1 o2:List (Nat × a7)} {res:HR} {fx:List Nat} (hf:bw0.funcs[f]? = some fn) (h:HW (ro:=none) bw0 nt body ⟨a1a 0 args,a9l o1⟩ fun e st=>(e = .normal \/ e = .ret) /\ beu ef st fn.results.toList res o2) (hb:fn.body = some body:=by exact rfl) (hn:fn.ntmps = nt:=by exact rfl) (hl:args.length <= nt:=by exact brf rfl) (hx:fx.all (Nat.ble 1000) = true:=by exact rfl):cz bw0 f args o1 res o2 fx:=bab dm hf hb hn hl hx h
def gd {ro:Option Nat} {nt id:Nat} {ops:Array Oper} {st:HSt} {Q:Exit -> HSt -> Prop} (h:Reg bw0 ef nt ops (List.range ops.size) st fun T sf=>aeo ops T = true /\ Q .normal sf):HW (ro:=ro) bw0 nt (.region id ops true) st Q:=bdv dm a7s _ h
section
variable {P:Program} {E:Env} {nt:Nat} {ops:Array Oper} {i:Nat} {o:Oper} {st:HSt} {L:List Nat} {K:List Tr -> HSt -> Prop}
def r9 (id:Nat) (wb:Bool) {u:App} {gb:Bool} (hT:Reg P E nt ops L (st.after o.dst (some u.val) [(u.id,some u.ob)]) fun T sf=>K (⟨i,⟨id,wb,true, .tup [],[u.id],if u.new then [id] else [],u.val.ids ++ u.ob.ids⟩,looks st.den o,cb st.den o.dst [(u.id,some u.ob)],none⟩ :: T) sf)
 (hi:ops[i]? = some o:=by exact rfl) (hw:b7 ops st.den o = some gb:=by exact rfl) (hd:cj nt o.dst = true:=by exact rfl) (hq':hap E st.den.o (ev st.den) id wb o.op = some u:=by exact rfl) (hn:(!u.new || ju id st) = true:=by exact rfl) (hg:gb = true:=by exact rfl)
 (hp:u.pre:=by (try dsimp only) <;> ((repeat' apply And.intro) <;> first | trivial | rfl | assumption | omega | (simp only [brn];omega) | (simp only [dn,b5];omega) | exact Or.inl rfl | exact Or.inr rfl | exact (fun _=>Or.inl rfl) | exact (fun _=>Or.inr (brf rfl)) | exact brf rfl | (intro h;cases h;done))):Reg P E nt ops (i :: L) st K:=a31 id wb hi hw hd hq' hn hg hp hT
def fc9 {cl:Call} {f:FuncId} {caps hcs:List HC} {args:List HC} {o1 o2:List (Nat × a7)} {res:HR} {fx:List Nat} {gb:Bool} (hf:goodFn P f) (hfun:cz P f args o1 res o2 fx) (hsub:an1 o1 st.den.o)
 (hT:Reg P E nt ops L (st.after o.dst (some res) (a0d o1 o2)) fun T sf=>K (⟨i,⟨0,false,true, .tup [],keys o1 ++ keys o2,aoa o1 o2 fx,res.ids ++ ac7 o2⟩,looks st.den o,cb st.den o.dst (a0d o1 o2),none⟩ :: T) sf)
 (hi:ops[i]? = some o:=by exact rfl) (hw:b7 ops st.den o = some gb:=by exact rfl) (hd:cj nt o.dst = true:=by exact rfl) (ho:o.op = .call cl:=by exact rfl) (hc:w9 (ev st.den) cl = some (f,caps):=by exact rfl) (hv:sx (ev st.den) cl.args.toList = some hcs:=by exact rfl) (hco:uz (hcs ++ caps) args:=by exact uz.refl _) (hB:fcB o1 o2 res fx st = true:=by exact rfl) (hg:gb = true:=by exact rfl):Reg P E nt ops (i :: L) st K:=jc hi hw hd ho hc hv hf hfun hco hsub hB hg hT
end
end Go.Hx
end
section
namespace Go.Hx
structure Hq (Q:Prop):Prop where
 v:Q
section
variable {P Q:Prop}
def w_1 (hQ:Q) (h:Hq Q -> P:=by intro h;(first | refine qy ?_ | refine cw ?_ | refine cq ?_ | refine gy ?_ | refine s9 ?_ | refine gd ?_ | refine kd ?_ | refine hcT ?_ | refine hcF ?_ | refine dy ?_ | refine aes ?_ | refine a4y ?_ | refine d7 ?_);exact h.v):P:=h ⟨hQ⟩
def w_2 (hQ:Q) (h:Hq Q -> P:=by intro h;(iterate 2 refine w_1 ?_);exact h.v):P:=h ⟨hQ⟩
def w_3 (hQ:Q) (h:Hq Q -> P:=by intro h;(iterate 3 refine w_1 ?_);exact h.v):P:=h ⟨hQ⟩
def w_4 (hQ:Q) (h:Hq Q -> P:=by intro h;(iterate 4 refine w_1 ?_);exact h.v):P:=h ⟨hQ⟩
def w_5 (hQ:Q) (h:Hq Q -> P:=by intro h;(iterate 5 refine w_1 ?_);exact h.v):P:=h ⟨hQ⟩
def w_6 (hQ:Q) (h:Hq Q -> P:=by intro h;(iterate 6 refine w_1 ?_);exact h.v):P:=h ⟨hQ⟩
def w_7 (hQ:Q) (h:Hq Q -> P:=by intro h;(iterate 7 refine w_1 ?_);exact h.v):P:=h ⟨hQ⟩
def w_8 (hQ:Q) (h:Hq Q -> P:=by intro h;(iterate 8 refine w_1 ?_);exact h.v):P:=h ⟨hQ⟩
def w_9 (hQ:Q) (h:Hq Q -> P:=by intro h;(iterate 9 refine w_1 ?_);exact h.v):P:=h ⟨hQ⟩
def dc (hQ:Q) (h:Hq Q -> P:=by intro h;(iterate 10 refine w_1 ?_);exact h.v):P:=h ⟨hQ⟩
def j3 (hQ:Q) (h:Hq Q -> P:=by intro h;(iterate 11 refine w_1 ?_);exact h.v):P:=h ⟨hQ⟩
def j4 (hQ:Q) (h:Hq Q -> P:=by intro h;(iterate 12 refine w_1 ?_);exact h.v):P:=h ⟨hQ⟩
def kf (hQ:Q) (h:Hq Q -> P:=by intro h;(iterate 13 refine w_1 ?_);exact h.v):P:=h ⟨hQ⟩
def qs (hQ:Q) (h:Hq Q -> P:=by intro h;(iterate 14 refine w_1 ?_);exact h.v):P:=h ⟨hQ⟩
def k8 (hQ:Q) (h:Hq Q -> P:=by intro h;(iterate 15 refine w_1 ?_);exact h.v):P:=h ⟨hQ⟩
def v7 (hQ:Q) (h:Hq Q -> P:=by intro h;(iterate 16 refine w_1 ?_);exact h.v):P:=h ⟨hQ⟩
def va (hQ:Q) (h:Hq Q -> P:=by intro h;(iterate 17 refine w_1 ?_);exact h.v):P:=h ⟨hQ⟩
def aau (hQ:Q) (h:Hq Q -> P:=by intro h;(iterate 18 refine w_1 ?_);exact h.v):P:=h ⟨hQ⟩
def ahc (hQ:Q) (h:Hq Q -> P:=by intro h;(iterate 19 refine w_1 ?_);exact h.v):P:=h ⟨hQ⟩
def al3 (hQ:Q) (h:Hq Q -> P:=by intro h;(iterate 20 refine w_1 ?_);exact h.v):P:=h ⟨hQ⟩
def a4l (hQ:Q) (h:Hq Q -> P:=by intro h;(iterate 21 refine w_1 ?_);exact h.v):P:=h ⟨hQ⟩
def apv (hQ:Q) (h:Hq Q -> P:=by intro h;(iterate 22 refine w_1 ?_);exact h.v):P:=h ⟨hQ⟩
def b6t (hQ:Q) (h:Hq Q -> P:=by intro h;(iterate 23 refine w_1 ?_);exact h.v):P:=h ⟨hQ⟩
def bny (hQ:Q) (h:Hq Q -> P:=by intro h;(iterate 25 refine w_1 ?_);exact h.v):P:=h ⟨hQ⟩
def bfq (hQ:Q) (h:Hq Q -> P:=by intro h;(iterate 26 refine w_1 ?_);exact h.v):P:=h ⟨hQ⟩
def bnv (hQ:Q) (h:Hq Q -> P:=by intro h;(iterate 28 refine w_1 ?_);exact h.v):P:=h ⟨hQ⟩
def bmu (hQ:Q) (h:Hq Q -> P:=by intro h;(iterate 29 refine w_1 ?_);exact h.v):P:=h ⟨hQ⟩
def bnk (hQ:Q) (h:Hq Q -> P:=by intro h;(iterate 30 refine w_1 ?_);exact h.v):P:=h ⟨hQ⟩
def bfn (hQ:Q) (h:Hq Q -> P:=by intro h;(iterate 32 refine w_1 ?_);exact h.v):P:=h ⟨hQ⟩
end
end Go.Hx
end
section
namespace Go.Hx
theorem v_2 {P Q:Prop} (hQ:Q) (h:Hq Q -> P:=by intro h;(iterate 2 refine w_1 ?_);refine hxr ?_;exact h.v):P:=h ⟨hQ⟩
theorem v_3 {P Q:Prop} (hQ:Q) (h:Hq Q -> P:=by intro h;(iterate 3 refine w_1 ?_);refine hxr ?_;exact h.v):P:=h ⟨hQ⟩
theorem v_4 {P Q:Prop} (hQ:Q) (h:Hq Q -> P:=by intro h;(iterate 4 refine w_1 ?_);refine hxr ?_;exact h.v):P:=h ⟨hQ⟩
theorem v_5 {P Q:Prop} (hQ:Q) (h:Hq Q -> P:=by intro h;(iterate 5 refine w_1 ?_);refine hxr ?_;exact h.v):P:=h ⟨hQ⟩
theorem v_6 {P Q:Prop} (hQ:Q) (h:Hq Q -> P:=by intro h;(iterate 6 refine w_1 ?_);refine hxr ?_;exact h.v):P:=h ⟨hQ⟩
theorem v_7 {P Q:Prop} (hQ:Q) (h:Hq Q -> P:=by intro h;(iterate 7 refine w_1 ?_);refine hxr ?_;exact h.v):P:=h ⟨hQ⟩
theorem v_8 {P Q:Prop} (hQ:Q) (h:Hq Q -> P:=by intro h;(iterate 8 refine w_1 ?_);refine hxr ?_;exact h.v):P:=h ⟨hQ⟩
theorem v_9 {P Q:Prop} (hQ:Q) (h:Hq Q -> P:=by intro h;(iterate 9 refine w_1 ?_);refine hxr ?_;exact h.v):P:=h ⟨hQ⟩
end Go.Hx
end
