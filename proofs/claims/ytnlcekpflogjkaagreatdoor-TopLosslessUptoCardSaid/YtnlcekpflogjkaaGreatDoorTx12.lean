/- A part of the proof: Hx13 Hx14. -/
import Derived.Test.YtnlcekpflogjkaaGreatDoorTx11
set_option linter.all false
namespace Go.Hx
section
open Go.RowKit
def ru (ops:Array Oper) (j:Nat):List Nat :=
 match ops[j]? with
 | some o=>(o.after.toList.filter fun e=>Region.binds .any e).map (·.on)
 | none=>[]
def a34 (acc:List Nat):List Nat -> Nat
 | []=>0
 | e :: r=>a34 acc r ||| 2 ^ e ||| acc.getD e 0
def xj (ops:Array Oper):Nat -> List Nat
 | 0=>[]
 | n + 1=>xj ops n ++ [a34 (xj ops n) (ru ops n)]
def ov (ops:Array Oper):∀ n,(xj ops n).length = n
 | 0=>rfl
 | n + 1=>by simp [xj,ov ops n]
theorem yl (ops:Array Oper):∀ n j,j < n -> (xj ops n).getD j 0 = a34 (xj ops j) (ru ops j)
 | n + 1,j,h=>by
  simp only [xj,brc];by_cases hj:j < n
  · rw [buq (by rw [ov];exact hj)]
    have:=yl ops n j hj
    grind
  have:j = n:=by omega
  subst this;rw [btu (by rw [ov];omega),ov];simp
theorem adx (acc:List Nat) (i:Nat):∀ l,(a34 acc l).testBit i = true -> ∃ e ∈ l,e = i \/ (acc.getD e 0).testBit i = true
 | [],h=>by simp [a34] at h
 | e :: r,h=>by
  simp only [a34,Nat.testBit_or,bsl,Nat.testBit_two_pow,decide_eq_true_eq] at h
  rcases h with (h | h) | h
  · obtain ⟨e',he,hh⟩:=adx acc i r h
    grind
  · grind
  grind
def aet (ops:Array Oper) (j i:Nat):Bool:=((xj ops (j + 1)).getD j 0).testBit i
structure Inv (ops:Array Oper) (listed:Array Bool):Prop where
 size:listed.size = ops.size
 closed:∀ j,listed.getD j false = true -> ∀ e ∈ ru ops j,listed.getD e false = true
section
variable {listed:Array Bool} {ops:Array Oper}
def ap5 (inv:Inv ops listed):∀ j,(∀ e ∈ ru ops j,listed.getD e false = true) -> ∀ i,aet ops j i = true -> listed.getD i false = true:=by
 intro j
 induction j using Nat.strongRecOn with
 | _ j ih =>
  intro hd i hr;unfold aet at hr;rw [yl ops (j + 1) j bv9] at hr;obtain ⟨e,he,hh⟩:=adx _ i _ hr
  rcases hh with rfl | hh
  · exact hd e he
  by_cases hej:e < j
  · rw [yl ops j e hej] at hh
    refine ih e hej (fun e' he'=>inv.closed e (hd e he) e' he') i ?_;unfold aet;rw [yl ops (e + 1) e bv9];exact hh
  rw [brc,bv6 (by rw [ov];omega)] at hh;simp at hh
theorem mem_ready' {i:Nat}:i ∈ Region.ready .any ops listed <-> (i < ops.size /\ listed.getD i true = false /\ ∀ e ∈ ru ops i,listed.getD e false = true):=by
 unfold Region.ready ru;simp only [bt4,brw,brk,bsd];constructor
 · rintro ⟨h1,h2,h3⟩
   refine ⟨h1,h2, ?_⟩;rw [bsw h1] at h3 ⊢;simp only [bs7,bsn,Array.all_eq_true'] at h3
   grind
 grind
def b5n (ops:Array Oper) (j d:Nat):Bool:=(ru ops j).any (Nat.beq d)
def b2b {j d:Nat} (h:b5n ops j d = false):d ∉ ru ops j:=by
 intro hm;unfold b5n at h;rw [bt1] at h;exact h d hm bvd
def xm (ops:Array Oper) (x y:Tr):Bool:=!(Nat.beq x.i y.i) && !b5n ops x.i y.i && (aet ops y.i x.i || ad1 ops x y)
def a9c (ops:Array Oper):List Tr -> Bool
 | []=>true
 | x :: T=>T.all (xm ops x) && a9c ops T
def aec (ops:Array Oper) (x:Tr):Bool:=Nat.blt x.i ops.size && (ru ops x.i).all fun d=>Nat.blt d ops.size && !(Nat.beq d x.i)
def aeo (ops:Array Oper) (T:List Tr):Bool :=
 Nat.beq T.length ops.size && (List.range ops.size).all (fun k=>T.any fun t=>Nat.beq t.i k) && T.all (aec ops) && a9c ops T
def zk:∀ {T:List Tr},a9c ops T = true -> T.Pairwise fun x y=>xm ops x y = true
 | [],_=>List.Pairwise.nil
 | x :: T,h=>by
  simp only [a9c,brk,bs2] at h;exact List.Pairwise.cons h.1 (zk h.2)
end
section
variable {P:Program} {E:Env} {nt:Nat} {ops:Array Oper} {w0:World} {m0:Old} {sf:S}
def b20 (m j:Nat):(Array.replicate m false).getD j false = false:=by
 rcases buw j m with h | h <;> simp [h]
def ad0 {l:Array Bool} {i:Nat} (hi:i < l.size):(l.getD i true = false) <-> ¬ (l.getD i false = true):=by
 simp [hi]
section
variable {Q:Exit -> Act -> World -> Prop} {ro:Option Nat}
theorem age (hE:cr P E) {n:Nat} (hQ:∀ a' w',Rel w0 m0 nt sf a' w' -> Q .normal a' w'):
 ∀ (fuel:Nat) (listed:Array Bool) (T:List Tr) (s:S) (a:Act) (w:World),T.length = fuel -> Inv ops listed -> (∀ i,i < ops.size -> (listed.getD i true = false <-> ∃ t ∈ T,t.i = i)) ->
  (∀ t ∈ T,aec ops t = true) -> (T.Pairwise fun x y=>xm ops x y = true) -> nk P E nt ops T s sf -> Rel w0 m0 nt s a w -> wpAnyIn (rf ro) n P .any ops Q fuel listed a w:=by
 intro fuel
 induction fuel with
 | zero =>
  intro listed T s a w hl inv hun _ _ hT hr;have:T = []:=bss hl;subst this;cases hT;refine ⟨?_,hQ _ _ hr⟩
  cases hrd:Region.ready .any ops listed with
  | nil=>rfl
  | cons i r =>
   have hi:i ∈ Region.ready .any ops listed:=by rw [hrd];simp
   obtain ⟨h1,h2,_⟩:=mem_ready'.1 hi
   grind
 | succ fuel ih =>
  intro listed T s a w hl inv hun hself hpw hT hr;refine ⟨fun hnil=>?_,fun i hi=>?_⟩
  ·
   exfalso
   cases T with
   | nil=>simp at hl
   | cons x T =>
    have hs:=hself x bvd;simp only [aec,brk,bs2,bsd] at hs;obtain ⟨hs1,hs2⟩:=hs;have hs1:x.i < ops.size:=by simpa [bu9] using hs1
    have hx:x.i ∈ Region.ready .any ops listed:=by
     refine mem_ready'.2 ⟨hs1,(hun x.i hs1).2 ⟨x,by simp,rfl⟩,fun d hd=>?_⟩;obtain ⟨hd1,hd2⟩:=hs2 d hd;have hd1:d < ops.size:=by simpa [bu9] using hd1
     have hd2:d ≠ x.i:=by rintro rfl;simp at hd2
     apply Classical.byContradiction;intro hne;have hu:=(ad0 (by rw [inv.size];exact hd1)).2 hne;obtain ⟨t,ht,hti⟩:=(hun d hd1).1 hu
     rcases brm.1 ht with rfl | ht
     · grind
     have:=(bsb.1 hpw).1 t ht;simp only [xm,brk,bsd] at this;exact b2b this.1.2 (by rw [hti];exact hd)
    grind
  obtain ⟨h1,h2,h3⟩:=mem_ready'.1 hi;obtain ⟨y,hy,hyi⟩:=(hun i h1).1 h2;obtain ⟨pre,post,rfl⟩:=List.append_of_mem hy
  have hpass:∀ x ∈ pre,ad1 ops x y = true:=by
   intro x hx;have hp:xm ops x y = true:=(List.pairwise_append.1 hpw).2.2 x hx y bvd;simp only [xm,brk,bsl] at hp
   rcases hp.2 with hre | hpa
   · exfalso
     have hl:=ap5 inv y.i (by rw [hyi];exact h3) x.i hre;have hsx:=hself x (by simp [hx]);simp only [aec,brk] at hsx;have hsx1:x.i < ops.size:=by simpa [bu9] using hsx.1
     grind
   exact hpa
  have hfront:=anl hT hpass
  cases hfront with
  | @cons iy an R O F o _ _ v wr _ hio he hR hO hF hrest =>
  have hyi':iy = i:=hyi;subst hyi';refine a7w hE he hr hio fun a' w' hr'=>?_;have hsub:List.Sublist (pre ++ post) (pre ++ (⟨iy,an,R,O,F⟩:Tr) :: post):=(List.Sublist.refl pre).append (List.sublist_cons_self _ _);have hsz:iy < listed.size:=by rw [inv.size];exact h1
  refine ih (listed.setIfInBounds iy true) (pre ++ post) _ a' w' (by simp at hl ⊢;omega) ⟨by simp [inv.size],fun j hj e he=>?_⟩ (fun k hk=>?_) (fun t ht=>hself t (hsub.subset ht)) (hpw.sublist hsub) hrest hr'
  · by_cases hji:iy = j
    · subst hji
      exact getD_set_true (h3 e he)
    rw [getD_set_ne false hji] at hj;exact getD_set_true (inv.closed j hj e he)
  by_cases hki:iy = k
  · subst hki
    constructor
    · simp_all
    rintro ⟨t,ht,hti⟩;exfalso
    rcases brr.1 ht with ht | ht
    · have hp:=(List.pairwise_append.1 hpw).2.2 t ht ⟨iy,an,R,O,F⟩ bvd
      simp only [xm,brk,bsd] at hp;simp_all
    have hp:=(bsb.1 (List.pairwise_append.1 hpw).2.1).1 t ht;simp only [xm,brk,bsd] at hp;simp_all
  rw [getD_set_ne true hki,hun k hk]
  grind
def aej (hE:cr P E) {n:Nat} (hm:P.follows .mixedOrders = true) {id:Nat} {T:List Tr} {s:S} {a:Act} {w:World} (hT:nk P E nt ops T s sf) (hc:aeo ops T = true) (hr:Rel w0 m0 nt s a w) (hQ:∀ a' w',Rel w0 m0 nt sf a' w' -> Q .normal a' w'):(Code.region id ops true).wpIn (rf ro) n P Q a w:=by
 simp only [aeo,brk,bs2] at hc;obtain ⟨⟨⟨h1,h2⟩,h3⟩,h4⟩:=hc;refine wpIn_region_any hm ?_;refine age hE hQ ops.size _ T s a _ (by simpa using h1) ⟨by simp,fun j hj=>?_⟩ (fun i hi=>⟨fun _=>?_,fun _=>by simp [hi]⟩) h3 (zk h4) hT ?_
 · rw [b20] at hj;cases hj
 · simp_all
 obtain ⟨c,hold,hr⟩:=hr;exact ⟨c,hold,hr.drew⟩
def a3o (hE:cr P E) {n:Nat} (hQ:∀ a' w',Rel w0 m0 nt sf a' w' -> Q .normal a' w'):∀ (T:List Tr) (s:S) (a:Act) (w:World),nk P E nt ops T s sf -> Rel w0 m0 nt s a w -> wpOpsIn (rf ro) n P ops Q (T.map (·.i)) a w
 | [],s,a,w,hT,hr=>by
  cases hT;exact hQ _ _ hr
 | t :: T,s,a,w,hT,hr=>by
  cases hT with
  | cons hi he hR hO hF hrest =>
  rw [bt3,wpOpsIn_cons];exact a7w hE he hr hi fun a' w' hr'=>a3o hE hQ T _ a' w' hrest hr'
end
end
def b9 {α:Type}:List (Nat × Option α) -> Nat -> Option α
 | [],_=>none
 | (e,x) :: r,d=>bif Nat.beq e d then x else b9 r d
structure HSt where
 t:List (Nat × Option HR)
 o:List (Nat × Option a7)
def HSt.den (st:HSt):S:=⟨b9 st.t,b9 st.o⟩
def HSt.after (st:HSt) (d:Option Tmp) (x:Option HR) (wr:Wr):HSt :=
 ⟨match d with | some d=>(d,x) :: st.t | none=>st.t,wr ++ st.o⟩
theorem ang (l:List (Nat × Option a7)):∀ (wr:Wr),b9 (wr ++ l) = fun k=>match j7 wr k with | some r=>r | none=>b9 l k
 | []=>rfl
 | (e,x) :: r=>by
  funext k;have ih:=congrFun (ang l r) k;simp only [btc,b9,j7]
  grind
def ar {α:Type} (e:Nat) (x:Option α) (l:List (Nat × Option α)):b9 ((e,x) :: l) = fun k=>if k = e then x else b9 l k:=by
 funext k;simp only [b9];by_cases h:k = e
 · subst h;simp
 have:Nat.beq e k = false:=by
  rw [brt];intro hb;simp_all
 simp [h,this]
def me (st:HSt) (d:Option Tmp) (x:Option HR) (wr:Wr):(st.after d x wr).den = st.den.after d x wr:=by
 unfold HSt.after HSt.den S.after S.putD S.setW S.put;cases d <;> simp [ar,ang] <;> rfl
def ad8 (id:Nat) (l:List Nat):Bool:=!(l.any (Nat.beq id))
def nmT (id:Nat):List (Nat × Option HR) -> Bool
 | []=>true
 | (_,some x) :: r=>ad8 id x.ids && nmT id r
 | (_,none) :: r=>nmT id r
def nmO (id:Nat):List (Nat × Option a7) -> Bool
 | []=>true
 | (_,some x) :: r=>ad8 id x.ids && nmO id r
 | (_,none) :: r=>nmO id r
section
variable {id:Nat}
def a4x {l:List Nat} (h:ad8 id l = true):id ∉ l:=by
 intro hm;simp only [ad8,bsd] at h;rw [bt1] at h;exact h id hm bvd
def a4s:∀ {l:List (Nat × Option HR)},nmT id l = true -> ∀ d x,b9 l d = some x -> ¬ x.men id
 | [],_,d,x,h=>by simp [b9] at h
 | (e,some y) :: r,h,d,x,hl=>by
  simp only [nmT,brk] at h;rw [ar] at hl;dsimp only at hl;split at hl
  · simp only [bra] at hl
    subst hl;exact fun hm=>a4x h.1 (HR.men_ids hm)
  exact a4s h.2 d x hl
 | (e,none) :: r,h,d,x,hl=>by
  rw [ar] at hl;dsimp only at hl;split at hl
  · cases hl
  exact a4s (by simpa [nmT] using h) d x hl
def ac3:∀ {l:List (Nat × Option a7)},nmO id l = true -> ∀ d x,b9 l d = some x -> ¬ x.men id
 | [],_,d,x,h=>by simp [b9] at h
 | (e,some y) :: r,h,d,x,hl=>by
  simp only [nmO,brk] at h;rw [ar] at hl;dsimp only at hl;split at hl
  · simp only [bra] at hl
    subst hl;exact fun hm=>a4x h.1 (a7.men_ids hm)
  exact ac3 h.2 d x hl
 | (e,none) :: r,h,d,x,hl=>by
  rw [ar] at hl;dsimp only at hl;split at hl
  · cases hl
  exact ac3 (by simpa [nmO] using h) d x hl
def ju (id:Nat) (st:HSt):Bool:=Nat.blt id 1000 && nmT id st.t && nmO id st.o && (match b9 st.o id with | none=>true | some _=>false)
theorem e9 {st:HSt} (h:ju id st = true):NM st.den id /\ st.den.o id = none:=by
 simp only [ju,brk] at h;obtain ⟨⟨⟨h0,h1⟩,h2⟩,h3⟩:=h;refine ⟨⟨a4s h1,ac3 h2,by simpa [bu9] using h0⟩, ?_⟩;show b9 st.o id = none
 grind
end
section
variable {P:Program} {E:Env} {nt:Nat} {ops:Array Oper} {i:Nat} {o:Oper} {st:HSt} {T:List Tr} {sf:S}
def acb (ex:Bool) (M:List Nat):Ann:=⟨0,false,ex, .tup [],[],[],M⟩
def Reg (P:Program) (E:Env) (nt:Nat) (ops:Array Oper) (L:List Nat) (st:HSt) (K:List Tr -> HSt -> Prop):Prop :=
 ∃ T sf,T.map (·.i) = L /\ nk P E nt ops T st.den (HSt.den sf) /\ K T sf
variable {L:List Nat} {K:List Tr -> HSt -> Prop}
def cw (h:K [] st):Reg P E nt ops [] st K:=⟨[],st,rfl, .nil _,h⟩
section
variable {gb:Bool}
def cg (ex:Bool) {out:Out} (hi:ops[i]? = some o) (hw:b7 ops st.den o = some gb) (hd:cj nt o.dst = true) (hq':hq E ex st.den.o (ev st.den) o.op = some out) (hg:gb = true) (hp:out.pre) (hT:Reg P E nt ops L (st.after o.dst (some out.val) []) fun T sf=>K (⟨i,acb ex out.val.ids,looks st.den o,cb st.den o.dst [],gm E st.den o⟩ :: T) sf):Reg P E nt ops (i :: L) st K:=by
 obtain ⟨T,sf,h1,h2,h3⟩:=hT;exact ⟨_,sf,by rw [<- h1];rfl, .cons hi (.quiet out (by rw [hw,hg]) hd hq' hp rfl) rfl (fun _ hk=>hk) (fun f hf=>⟨hf,by rw [hw,hg]⟩) (by rw [me] at h2;exact h2),h3⟩
def atw (hi:ops[i]? = some o) (hw:b7 ops st.den o = some gb) (hd:cj nt o.dst = true) (hg:gb = false) (hT:Reg P E nt ops L (st.after o.dst (some (.tup [])) []) fun T sf=>K (⟨i,acb true [],looks st.den o,cb st.den o.dst [],none⟩ :: T) sf):Reg P E nt ops (i :: L) st K:=by
 obtain ⟨T,sf,h1,h2,h3⟩:=hT;exact ⟨_,sf,by rw [<- h1];rfl, .cons hi (.skip (by rw [hw,hg]) hd) rfl (fun _ hk=>hk) (by intro _ hf;cases hf) (by rw [me] at h2;exact h2),h3⟩
def bg8 {out:Out} {id:Nat} (hi:ops[i]? = some o) (hw:b7 ops st.den o = some gb) (hd:cj nt o.dst = true) (hq':ye E st.den.o (ev st.den) o.op = some (out,id)) (hg:gb = true) (hp:out.pre) (hT:Reg P E nt ops L (st.after o.dst (some out.val) [(id,none)]) fun T sf=>K (⟨i,⟨0,false,true, .tup [],[id],[],[]⟩,looks st.den o,cb st.den o.dst [(id,none)],none⟩ :: T) sf):Reg P E nt ops (i :: L) st K:=by
 obtain ⟨T,sf,h1,h2,h3⟩:=hT;exact ⟨_,sf,by rw [<- h1];rfl, .cons hi (.cut out id (by rw [hw,hg]) hd hq' hp rfl) rfl (fun _ hk=>hk) (by intro _ hf;cases hf) (by rw [me] at h2;exact h2),h3⟩
def ze (id:Nat) {nw:New} (hi:ops[i]? = some o) (hw:b7 ops st.den o = some gb) (hd:cj nt o.dst = true) (hq':ha E (ev st.den) id o.op = some nw) (hn:ju id st = true) (hg:gb = true) (hp:nw.pre) (hT:Reg P E nt ops L (st.after o.dst (some nw.val) [(id,some nw.ob)]) fun T sf=>K (⟨i,⟨id,false,true, .tup [],[id],[id],nw.val.ids ++ nw.ob.ids⟩,looks st.den o,cb st.den o.dst [(id,some nw.ob)],none⟩ :: T) sf):Reg P E nt ops (i :: L) st K:=by
 obtain ⟨T,sf,h1,h2,h3⟩:=hT;exact ⟨_,sf,by rw [<- h1];rfl, .cons hi (.make nw (by rw [hw,hg]) hd hq' hp (e9 hn).1 (e9 hn).2 rfl rfl rfl) rfl (fun _ hk=>hk) (by intro _ hf;cases hf) (by rw [me] at h2;exact h2),h3⟩
def anm {u:Upd} (hi:ops[i]? = some o) (hw:b7 ops st.den o = some gb) (hd:cj nt o.dst = true) (hq':hs E st.den.o (ev st.den) o.op = some u) (hg:gb = true) (hp:u.pre) (hT:Reg P E nt ops L (st.after o.dst none [(u.id,some u.ob)]) fun T sf=>K (⟨i,⟨0,false,true, .tup [],[u.id],[],u.ob.ids⟩,looks st.den o,cb st.den o.dst [(u.id,some u.ob)],gm E st.den o⟩ :: T) sf):Reg P E nt ops (i :: L) st K:=by
 obtain ⟨T,sf,h1,h2,h3⟩:=hT;exact ⟨_,sf,by rw [<- h1];rfl, .cons hi (.store u (by rw [hw,hg]) hd hq' hp rfl (fun _ hk=>hk)) rfl (fun _ hk=>hk) (fun f hf=>⟨hf,by rw [hw,hg]⟩) (by rw [me] at h2;exact h2),h3⟩
def a31 (id:Nat) (wb:Bool) {u:App} (hi:ops[i]? = some o) (hw:b7 ops st.den o = some gb) (hd:cj nt o.dst = true) (hq':hap E st.den.o (ev st.den) id wb o.op = some u) (hn:(!u.new || ju id st) = true) (hg:gb = true) (hp:u.pre) (hT:Reg P E nt ops L (st.after o.dst (some u.val) [(u.id,some u.ob)]) fun T sf=>K (⟨i,⟨id,wb,true, .tup [],[u.id],if u.new then [id] else [],u.val.ids ++ u.ob.ids⟩,looks st.den o,cb st.den o.dst [(u.id,some u.ob)],none⟩ :: T) sf):Reg P E nt ops (i :: L) st K:=by
 obtain ⟨T,sf,h1,h2,h3⟩:=hT;exact ⟨_,sf,by rw [<- h1];rfl, .cons hi (.app u (by rw [hw,hg]) hd hq' hp (fun h=>e9 (by rw [h] at hn;simpa using hn)) rfl (fun h=>by simp [h]) rfl) rfl (fun _ hk=>hk) (by intro _ hf;cases hf) (by rw [me] at h2;exact h2),h3⟩
def bbg {sr ds:TypeId} {x:Operand} {b:ByteArray} (hi:ops[i]? = some o) (hw:b7 ops st.den o = some gb) (hd:cj nt o.dst = true) (ho:o.op = .convert sr ds x) (hcv:aei E (ev st.den) sr ds x = some b) (hg:gb = true) (hp:b.size <= maxLen) (hT:Reg P E nt ops L (st.after o.dst (some (.v (.one (.p (.sl b.size 1 false (ax2 b)))))) []) fun T sf=>K (⟨i,⟨0,false,true, .tup [],[],[],[]⟩,looks st.den o,cb st.den o.dst [],none⟩ :: T) sf):Reg P E nt ops (i :: L) st K:=by
 obtain ⟨T,sf,h1,h2,h3⟩:=hT;exact ⟨_,sf,by rw [<- h1];rfl, .cons hi (.conv sr ds x b (by rw [hw,hg]) hd ho hcv hp rfl) rfl (fun _ hk=>hk) (by intro _ hf;cases hf) (by rw [me] at h2;exact h2),h3⟩
def asr {cl:Call} {f:FuncId} {fst caps args vs:List PC} {p:Prop} {b:Bool} {res:PR} (hi:ops[i]? = some o) (hw:b7 ops st.den o = some gb) (hd:cj nt o.dst = true) (ho:o.op = .call cl) (hc:callee (ev st.den) cl = some (f,fst,caps)) (hv:lm st.den.o (ev st.den) cl.args.toList = some (p,vs,b)) (hf:goodFn P f) (hpure:a6 P f args res) (hco:CoL (fst ++ (vs ++ caps)) args) (hg:gb = true) (hp:p) (hb:(!b || res.flat) = true) (hT:Reg P E nt ops L (st.after o.dst (some res.toH) []) fun T sf=>K (⟨i,⟨0,false,true,res,[],[],[]⟩,looks st.den o,cb st.den o.dst [],none⟩ :: T) sf):Reg P E nt ops (i :: L) st K:=by
 obtain ⟨T,sf,h1,h2,h3⟩:=hT;exact ⟨_,sf,by rw [<- h1];rfl,   .cons hi (.call cl f fst caps args p vs b (by rw [hw,hg]) hd ho hc hf hv hp hco hpure hb rfl) rfl (fun _ hk=>hk) (by intro _ hf;cases hf) (by rw [me] at h2;exact h2),h3⟩
end
end
def HW {ro:Option Nat} (P:Program) (nt:Nat) (c:Code) (st:HSt) (Q:Exit -> HSt -> Prop):Prop :=
 ∀ w0 m0 a w,Rel w0 m0 nt st.den a w -> c.wpIn (rf ro) 0 P (fun e a' w'=>∃ st':HSt,Q e st' /\ Rel w0 m0 nt st'.den a' w') a w
def sj:List (Nat × Option HR) -> List (Nat × Option HR) -> Prop
 | [],_=>True
 | (d,some x) :: r,l=>(∃ y,b9 l d = some y /\ CoR y x) /\ sj r l
 | (_,none) :: r,l=>sj r l
def tk:List (Nat × Option a7) -> List (Nat × Option a7) -> Prop
 | [],_=>True
 | (d,some x) :: r,l=>(∃ y,b9 l d = some y /\ CoO y x) /\ tk r l
 | (_,none) :: r,l=>tk r l
def Sub (st st':HSt):Prop:=sj st.t st'.t /\ tk st.o st'.o
def a0t:∀ {l l':List (Nat × Option HR)},sj l l' -> ∀ d x,b9 l d = some x -> ∃ y,b9 l' d = some y /\ CoR y x
 | [],_,_,d,x,h=>by simp [b9] at h
 | (e,some y) :: r,l',h,d,x,hl=>by
  rw [ar] at hl;dsimp only at hl;split at hl
  · rename_i he;subst he;simp only [bra] at hl;subst hl;exact h.1
  exact a0t h.2 d x hl
 | (e,none) :: r,l',h,d,x,hl=>by
  rw [ar] at hl;dsimp only at hl;split at hl
  · cases hl
  exact a0t (l:=r) h d x hl
def a6g:∀ {l l':List (Nat × Option a7)},tk l l' -> ∀ d x,b9 l d = some x -> ∃ y,b9 l' d = some y /\ CoO y x
 | [],_,_,d,x,h=>by simp [b9] at h
 | (e,some y) :: r,l',h,d,x,hl=>by
  rw [ar] at hl;dsimp only at hl;split at hl
  · rename_i he;subst he;simp only [bra] at hl;subst hl;exact h.1
  exact a6g h.2 d x hl
 | (e,none) :: r,l',h,d,x,hl=>by
  rw [ar] at hl;dsimp only at hl;split at hl
  · cases hl
  exact a6g (l:=r) h d x hl
section
variable {ro:Option Nat} {P:Program} {E:Env} {nt:Nat} {st st':HSt} {Q Q':Exit -> HSt -> Prop} {w0:World} {m0:Old} {a:Act} {w:World}
theorem Rel.sub (hs:Sub st' st) (h:Rel w0 m0 nt st.den a w):Rel w0 m0 nt st'.den a w:=by
 obtain ⟨c,hold,h⟩:=h;exact ⟨c,hold,h.relax _ (fun d x hx=>a0t hs.1 d x hx) (fun d x hx=>a6g hs.2 d x hx)⟩
section
variable {c:Code}
def as7 (h:HW (ro:=ro) P nt c st Q) (hq:∀ e st,Q e st -> Q' e st):HW (ro:=ro) P nt c st Q' :=
 fun w0 m0 a w hr=>wpIn_mono (h w0 m0 a w hr) fun e a w ⟨st',hQ,hr⟩=>⟨st',hq _ _ hQ,hr⟩
def b0k (st':HSt) (hs:Sub st' st) (h:HW (ro:=ro) P nt c st' Q):HW (ro:=ro) P nt c st Q:=fun w0 m0 a w hr=>h w0 m0 a w (hr.sub hs)
def dy (h:Q .normal st):HW (ro:=ro) P nt .skip st Q:=fun _ _ _ _ hr=>wpIn_skip ⟨st,h,hr⟩
variable {id:Nat}
def d7 (h:Q (.exit id) st):HW (ro:=ro) P nt (.exit id) st Q:=fun _ _ _ _ hr=>wpIn_exit ⟨st,h,hr⟩
def aes (h:Q .ret st):HW (ro:=ro) P nt .ret st Q:=fun _ _ _ _ hr=>wpIn_ret ⟨st,h,hr⟩
def bje {ro:Option Nat} (P:Program) (nt:Nat) (y:Code) (Q:Exit -> HSt -> Prop):Exit -> HSt -> Prop
 | .normal,st=>HW (ro:=ro) P nt y st Q
 | e,st=>Q e st
def cq {x y:Code} (h:HW (ro:=ro) P nt x st (bje (ro:=ro) P nt y Q)):HW (ro:=ro) P nt (.seq x y) st Q:=fun w0 m0 a w hr=>by
 refine wpIn_seq (wpIn_mono (h w0 m0 a w hr) fun e a' w' ⟨st',hQ,hr'⟩=>?_);cases e <;> simp only [Exit.then] <;> first | exact hQ w0 m0 a' w' hr' | exact ⟨st',hQ,hr'⟩
def au {c:Operand} {x y:Code} (b:Bool) (hc:ev st.den c = some (.v (.one (.p (.raw (.bool b)))))) (ht:b = true -> HW (ro:=ro) P nt x st Q) (hf:b = false -> HW (ro:=ro) P nt y st Q):HW (ro:=ro) P nt (.cond c x y) st Q:=fun w0 m0 a w hr=>by
 obtain ⟨cc,hold,hrr⟩:=hr;obtain ⟨e1,_⟩:=ae hrr hc;exact wpIn_cond_split e1 (fun hb=>ht hb w0 m0 a w ⟨cc,hold,hrr⟩) (fun hb=>hf hb w0 m0 a w ⟨cc,hold,hrr⟩)
def azi (id:Nat) (Q:Exit -> HSt -> Prop):Exit -> HSt -> Prop
 | .exit id',st=>if id' = id then Q .normal st else Q (.exit id') st
 | e,st=>Q e st
theorem a4y (h:HW (ro:=ro) P nt c st (azi id Q)):HW (ro:=ro) P nt (.block id c) st Q:=fun w0 m0 a w hr=>by
 refine wpIn_block (wpIn_mono (h w0 m0 a w hr) fun e a' w' ⟨st',hQ,hr'⟩=>?_);cases e <;> simp only [Exit.inBlock] <;> try exact ⟨st',hQ,hr'⟩
 rename_i id';simp only [azi] at hQ
 grind
def alo {F:Fence} {m:Nat} {QQ:Exit -> Act -> World -> Prop} (I:Nat -> Act -> World -> Prop) (n0:Nat) {a:Act} {w:World} (h₀:I n0 a w) (round:∀ n a w,I n a w -> c.wpIn F m P (Exit.then (fun a' w'=>∃ m,m < n /\ I m a' w') QQ) a w):(Code.loop c).wpIn F m P QQ a w:=by
 intro b k cs hro hb hr
 have key:∀ n a w,I n a w -> ∃ e a' w',QQ e a' w' /\ ArrivesIn (Machine.fenced P F) P (lone (b.atR a (.code c :: .inLoop c :: k)) cs w) b k cs e a' w':=by
  intro n
  induction n using Nat.strongRecOn with
  | _ n ih =>
   intro a w hI;obtain ⟨e,a₁,w₁,hq,harr⟩:=round n a w hI b (.inLoop c :: k) cs hro hb hr
   cases e with
   | normal =>
    obtain ⟨m,hlt,hI₁⟩:=hq;obtain ⟨e₂,a₂,w₂,hq₂,harr₂⟩:=ih m hlt a₁ w₁ hI₁;exact ⟨e₂,a₂,w₂,hq₂, .of_steps (StepsIn.trans harr (.one (fenced_calm hb hr rfl) stepR_inLoop)) harr₂⟩
   | exit id=>exact ⟨_,a₁,w₁,hq, .pass (x:=.inLoop c) rfl (fun _ _=>.inl bvd) harr⟩
   | goto l=>exact ⟨_,a₁,w₁,hq, .pass (x:=.inLoop c) rfl (fun _ _=>.inl bvd) harr⟩
   | ret=>exact ⟨_,a₁,w₁,hq, .pass (x:=.inLoop c) rfl (fun _ _=>.inl bvd) harr⟩
   | panic ch=>exact ⟨_,a₁,w₁,hq, .pass (x:=.inLoop c) rfl (fun _ _=>.inl bvd) harr⟩
   | outgrown=>exact ⟨_,a₁,w₁,hq, .pass (x:=.inLoop c) rfl (fun _ _=>.inl bvd) harr⟩
 obtain ⟨e,a',w',hq,harr⟩:=key n0 a w h₀;exact ⟨e,a',w',hq, .of_steps (.one (fenced_calm hb hr rfl) stepR_loop) harr⟩
def akj {ι:Type} (I:ι -> HSt) (p:ι -> Prop) (μ:ι -> Nat) (i:ι) (Q:Exit -> HSt -> Prop):Exit -> HSt -> Prop
 | .normal,st=>∃ i',p i' /\ μ i' < μ i /\ Sub (I i') st
 | e,st=>Q e st
def bbd {ι:Type} {body:Code} (I:ι -> HSt) (p:ι -> Prop) (μ:ι -> Nat) (i0:ι) (h0:p i0) (hs:Sub (I i0) st) (round:∀ i,p i -> HW (ro:=ro) P nt body (I i) (akj I p μ i Q)):HW (ro:=ro) P nt (.loop body) st Q:=fun w0 m0 a w hr=>by
 refine alo (fun n a w=>∃ i,p i /\ μ i = n /\ Rel w0 m0 nt (I i).den a w) (μ i0) ⟨i0,h0,rfl,hr.sub hs⟩ ?_;rintro n a w ⟨i,hp,rfl,hr⟩;refine wpIn_mono (round i hp w0 m0 a w hr) fun e a' w' ⟨st',hQ,hr'⟩=>?_;cases e <;> simp only [Exit.then] <;> try exact ⟨st',hQ,hr'⟩
 obtain ⟨i',hp',hlt,hsub⟩:=hQ;exact ⟨μ i',hlt,i',hp',rfl,hr'.sub hsub⟩
def ajf (hE:cr P E) {ops:Array Oper} (h:Reg P E nt ops (List.range ops.size) st fun _ sf=>Q .normal sf):HW (ro:=ro) P nt (.region id ops false) st Q:=fun w0 m0 a w hr=>by
 obtain ⟨T,sf,hl,hT,h⟩:=h;refine wpIn_region ?_;rw [<- hl];exact a3o hE (fun a' w' hr'=>⟨sf,h,hr'⟩) T _ a w hT hr
def bdv (hE:cr P E) (hm:P.follows .mixedOrders = true) {ops:Array Oper} (L:List Nat) (h:Reg P E nt ops L st fun T sf=>aeo ops T = true /\ Q .normal sf):HW (ro:=ro) P nt (.region id ops true) st Q:=fun w0 m0 a w hr=>by
 obtain ⟨T,sf,hl,hT,hc,h⟩:=h;exact aej hE hm hT hc hr fun a' w' hr'=>⟨sf,h,hr'⟩
def zi (E:Env) (s:S):List ResultVar -> Option (Prop × List HC)
 | []=>some (True,[])
 | .tmp t :: r =>
  match s.t t,zi E s r with
  | some (.v cc),some (p,l)=>some (p,cc :: l)
  | _,_=>none
 | .cell ad ty :: r =>
  match o6 E s.o (ev s) ty (.tmp ad),zi E s r with
  | some ⟨p1, .v cc⟩,some (p,l)=>some (p1 /\ p,cc :: l)
  | _,_=>none
def po (o:ap):List HC -> Option (Prop × List PC)
 | []=>some (True,[])
 | x :: r =>
  match a12 o x,po o r with
  | some (p,y,_),some (q,ys)=>some (p /\ q,y :: ys)
  | _,_=>none
def af:List PC -> PR
 | [x]=>.v x
 | l=>.tup l
def adh (E:Env) (st:HSt) (rs:List ResultVar) (res:List PC):Prop :=
 ∃ p l q vs,zi E st.den rs = some (p,l) /\ p /\ po st.den.o l = some (q,vs) /\ q /\ CoL vs res
def a9w {t:TypeId} {u v:Value} (h:(Instr.loadAt t u).run P w = .ok v w):∃ ad,u = .pointer (some ad) /\ (loadVar t ad).run P w = .ok v w:=by
 cases u <;> try (simp [Instr.loadAt,Instr.sureAddr] at h;done)
 rename_i ad
 cases ad with
 | none=>simp [Instr.loadAt,Instr.sureAddr] at h
 | some ad=>exact ⟨ad,rfl,by simpa [Instr.loadAt,Instr.sureAddr] using h⟩
def yg (hE:cr P E) {c:Ctx} {s:S} (h:ag w0 nt c s a w) (F:ResultVar -> Sem Value) (F1:∀ t,F (.tmp t) = pure (a.tmps.getD t undef)) (F2:∀ ad t,F (.cell ad t) = do loadVar t (<- asAddr (a.tmps.getD ad undef))) :
 ∀ {rs:List ResultVar} {p:Prop} {l:List HC},zi E s rs = some (p,l) -> p -> ∃ vs:List Value,(rs.mapM F).run P w = .ok vs w /\ bu c s.o l vs
 | [],p,l,hr,_=>by
  simp only [zi,bra,bri] at hr;obtain ⟨_,rfl⟩:=hr;exact ⟨[],by simp,trivial⟩
 | .tmp t :: r,p,l,hr,hp=>by
  simp only [zi] at hr;split at hr <;> try (cases hr;done)
  rename_i cc p1 l1 ht hr1;simp only [bra,bri] at hr;obtain ⟨rfl,rfl⟩:=hr;obtain ⟨vs,h1,h2⟩:=yg hE h F F1 F2 hr1 hp;refine ⟨a.tmps.getD t undef :: vs, ?_,h.tmps t _ ht,h2⟩;simp_all
 | .cell ad ty :: r,p,l,hr,hp=>by
  simp only [zi] at hr;split at hr <;> try (cases hr;done)
  rename_i p1 cc p2 l2 hld hr1;simp only [bra,bri] at hr;obtain ⟨rfl,rfl⟩:=hr;obtain ⟨v,hv,hvr⟩:=a80 hE h hld hp.1;obtain ⟨ad',he,hlv⟩:=a9w hv;have he':a.tmps.getD ad undef = .pointer (some ad'):=he;obtain ⟨vs,h1,h2⟩:=yg hE h F F1 F2 hr1 hp.2;refine ⟨v :: vs, ?_,hvr,h2⟩;rw [List.mapM_cons,F2,he'];simp only [asAddr,bsk,bsy,bs0,hlv,h1]
def qx {c:Ctx} {s:S} (h:ag w0 nt c s a w) {m:Imm} (hm:a0n w0 c w m):∀ {l:List HC} {us:List Value} {p:Prop} {vs:List PC},bu c s.o l us -> po s.o l = some (p,vs) -> p -> ct m vs us
 | [],[],p,vs,_,hv,_=>by
  simp only [po,bra,bri] at hv;obtain ⟨_,rfl⟩:=hv;trivial
 | x :: l,u :: us,p,vs,hr,hv,hp=>by
  simp only [po] at hv;split at hv <;> try (cases hv;done)
  rename_i p1 y b q ys h1 h2;simp only [bra,bri] at hv;obtain ⟨rfl,rfl⟩:=hv;exact ⟨(aaa h hm hr.1 h1 hp.1).1,qx h hm hr.2 h2 hp.2⟩
 | [],_ :: _,_,_,hr,_,_=>hr.elim
 | _ :: _,[],_,_,hr,_,_=>hr.elim
theorem Rel.strike {P:Program} {nt:Nat} {st:S} {w0:World} {m0:Old} {fn:Func} {R:Ending -> World -> Prop}:∀ {l:List Deferred} {a:Act} {w:World},a.defers = l -> Rel w0 m0 nt st a w ->
 (∀ w',Rel w0 m0 nt st { a with defers:=[] } w' -> ∃ v,(results fn a.tmps).run P w' = .ok v w' /\ R (.returned v) w') -> LeavesInM (rf none) 0 P fn a.tmps R l .returning w
 | [],a,w,hl,hr,h=>by
  obtain ⟨tm,ds⟩:=a;simp only at hl;subst hl;obtain ⟨v,h1,h2⟩:=h w hr;exact ⟨v,h1,h2⟩
 | d :: l,a,w,hl,hr,h=>by
  obtain ⟨tm,ds⟩:=a;simp only at hl;subst hl;obtain ⟨c,hold,hrc⟩:=hr;obtain ⟨hpw,hds⟩:=hrc.defers;obtain ⟨D,rfl,h2,h3,h4,h5⟩:=hds d bvd;refine ⟨by simp, .inl ⟨D,_,rfl,run_takeDeferred h2, ?_⟩⟩
  have hne:∀ b,b ≠ D -> (w.putObj D (.deferred none)).heap[b]? = w.heap[b]?:=fun b hb=>by
   show (w.heap.setIfInBounds D _)[b]? = _
   grind
  refine Rel.strike (a:={ tmps:=tm,defers:=l }) (w:=w.putObj D (.deferred none)) rfl ⟨c,hold,⟨(bsb.1 hpw).2,fun d' hd'=>?_⟩,hrc.size, ?_,hrc.tmps,fun id ob ho=>?_,hrc.inj,fun b ob hb=>?_,hrc.sep,hrc.was,fun b ob hb=>?_,hrc.fsep,hrc.fixed⟩ h
  · obtain ⟨D',rfl,g2,g3⟩:=hds d' (by simp [hd'])
    refine ⟨D',rfl,(hne D' fun e=>(bsb.1 hpw).1 _ hd' (by rw [e])).trans g2,g3⟩
  · have hb:=hrc.below
    exact ⟨hb.os,hb.tape,hb.output,by show _ <= (w.heap.setIfInBounds D _).size;rw [Array.size_setIfInBounds];exact hb.size,fun k hk=>absurd hk (brg k),hb.drawn⟩
  · refine (hrc.objs id ob ho).keep (Imm.le.refl _) rfl rfl (fun _ _=>Evo.refl _ _ _) fun b hb=>hne b fun e=>?_
    obtain ⟨x1,hc,hdt⟩:=(hrc.objs id ob ho).data hb;rw [e,h2] at hc;cases hc;cases hdt
  · refine (hne b fun e=>?_).trans (hrc.imm b ob hb)
    grind
  refine (hne b fun e=>?_).trans (hrc.frm b ob hb)
  grind
def a4z:Nat -> List PC -> List (Nat × Option HR)
 | _,[]=>[]
 | i,x :: r=>(i,some (.v x.toH)) :: a4z (i + 1) r
theorem ade:∀ (l:List PC) (i d:Nat) (r:HR),b9 (a4z i l) d = some r -> ∃ x,i <= d /\ l[d - i]? = some x /\ r = .v x.toH
 | [],i,d,r,h=>by simp [a4z,b9] at h
 | x :: l,i,d,r,h=>by
  simp only [a4z] at h;rw [ar] at h;dsimp only at h;split at h
  · grind
  rename_i hd;obtain ⟨y,h1,h2,h3⟩:=ade l (i + 1) d r h
  grind
theorem b6u (hE:cr P E) {f:FuncId} {fn:Func} {body:Code} {args res:List PC} (hf:P.funcs[f]? = some fn) (hb:fn.body = some body) (hn:fn.ntmps = nt) (hl:args.length <= nt)
 (h:HW (ro:=none) P nt body ⟨a4z 0 args,[]⟩ fun e st=>(e = .normal \/ e = .ret) /\ adh E st fn.results.toList res):a6 P f args (af res):=by
 intro w imm us htab himm hargs;refine (callsIn_wide (n:=0)).1 (callsIn_of_wp_marks hf hb trivial ?_ rfl);have hul:=hargs.length
 let a0:Act:={ tmps:=us.toArray ++ Array.replicate (fn.ntmps - us.toArray.size) undef,defers:=[] }
 have hrel:Rel w (imm,fq w,(fun _=>undef),(fun _=>none),fun _ _=>undef) nt (HSt.den ⟨a4z 0 args,[]⟩) a0 w:=by
  refine ⟨{ old:=(imm,fq w,(fun _=>undef),(fun _=>none),fun _ _=>undef),imm:=imm,tab:=htab,own:=fun _=>undef,blk:=fun _=>noB,rows:=fun _ _=>undef },rfl,ta.nil _ _ _ _, ?_,Below.refl _ _,fun d x hx=>?_,fun id ob ho=>?_,fun i i' ob ob' b ho=>?_,himm,fun id ob b ho=>?_,fun b _=>rfl,fun b ob hb=>hb,fun id ob b ho=>?_,fun id _=>.inl rfl⟩
  · grind
  · obtain ⟨y,_,hy,rfl⟩:=ade args 0 d x hx
    simp only [Nat.sub_zero] at hy;obtain ⟨u,hu,hr⟩:=hargs.get d y hy;have hd:d < us.length:=(bt7.1 hu).1
    have:a0.tmps.getD d undef = u:=by
     have e1:a0.tmps[d]? = some u:=by
      grind
     simp_all
    rw [this];exact fv.of_P hr
  · simp [HSt.den,b9] at ho
  · simp [HSt.den,b9] at ho
  · simp [HSt.den,b9] at ho
  simp [HSt.den,b9] at ho
 refine wpIn_mono (h w (imm,fq w,(fun _=>undef),(fun _=>none),fun _ _=>undef) a0 w hrel) fun e a' w1 ⟨st',⟨hex,hres⟩,hr1⟩=>?_
 suffices key:LeavesInM (rf none) 0 P fn a'.tmps _ a'.defers .returning w1 by
  rcases hex with rfl | rfl <;> exact key
 refine Rel.strike rfl hr1 fun w' hr'=>?_;obtain ⟨c,hold,hrc⟩:=hr';obtain ⟨p,l,q,vs,h1,h2,h3,h4,h5⟩:=hres
 have hfrm:∀ b,b < w.heap.size -> c.frm b ≠ none /\ w'.heap[b]? = w.heap[b]?:=fun b hb=>by
  have e1:c.frm b = some w.heap[b]:=by
   show c.old.2.1 b = _;rw [hold];exact bsw hb
  refine ⟨by rw [e1];simp, ?_⟩;rw [hrc.frm b _ e1,bsw hb]
 have hwas:∀ b,b < w.heap.size -> c.imm b = imm b:=fun b hb=>by
  rw [hrc.was b (hfrm b hb).1,hold]
 have hseen:a0n w c w' (fun b=>if b < w.heap.size then imm b else w'.heap[b]?):=by
  refine ⟨fun b ob hbo=>?_,fun b hb _=>?_⟩
  · by_cases hlt:b < w.heap.size
    · grind
    simp only [hlt,if_false];exact hrc.imm b ob hbo
  grind
 have hrv:∃ v,(results fn a'.tmps).run P w' = .ok v w' /\ sy (fun b=>if b < w.heap.size then imm b else w'.heap[b]?) (af res) v:=by
  let F:ResultVar -> Sem Value:=fun | .tmp t=>pure (a'.tmps.getD t undef) | .cell ad t=>do loadVar t (<- asAddr (a'.tmps.getD ad undef))
  obtain ⟨uvs,hrun,hrep⟩:=yg hE hrc F (fun _=>rfl) (fun _ _=>rfl) h1 h2;have hF:results fn a'.tmps = (do let vs <- fn.results.mapM F;pure (if h:vs.size = 1 then vs[0] else .tuple vs)):=rfl;rw [hF,Array.mapM_eq_mapM_toList,bsk,Sem.run_map];have hview:=CoL.sound h5 (qx hrc hseen hrep h3 h4);rw [hrun];simp only [bs0,bsy];refine ⟨_,rfl, ?_⟩
  match res,uvs,hview with
  | [x],[u],hv=>simp only [af,sy];simpa using hv.1
  | [],[],hv=>exact ⟨[],by simp,trivial⟩
  | x :: y :: r,u :: v :: t,hv=>exact ⟨u :: v :: t,by simp,hv⟩
  | [],_ :: _,hv=>exact hv.elim
  | [_],[],hv=>exact hv.elim
  | [_],_ :: _ :: _,hv=>exact hv.2.elim
  | _ :: _ :: _,[],hv=>exact hv.elim
  | _ :: _ :: _,[_],hv=>exact hv.2.elim
 obtain ⟨v,hv1,hv2⟩:=hrv
 have hfin:(∃ v_1 imm',Ending.returned v = Ending.returned v_1 /\ sy imm' (af res) v_1 /\ (∀ b,b < w.heap.size -> imm' b = imm b) /\ (∀ b ob,imm' b = some ob -> w'.heap[b]? = some ob) /\ Below w.heap.size w w'):=by
  refine ⟨v,_,rfl,hv2,fun b hb=>by simp [hb],fun b ob hbo=>?_,⟨hrc.below.os,hrc.below.tape,hrc.below.output,hrc.below.size,fun k hk=>(hfrm k hk).2,hrc.below.drawn⟩⟩
  grind
 grind
end
end
end
section
open Go.RowKit
section
variable {ro:Option Nat} {P:Program} {nt:Nat} {st:HSt} {Q:Exit -> HSt -> Prop}
def wd (st:HSt) (id:Nat):(HSt.den ⟨st.t,(id,none) :: st.o⟩) = st.den.setO id none:=by
 unfold HSt.den S.setO;simp [ar]
section
variable {c:Code}
def xk (st1:HSt) (d:Nat) (x:HR) (hs:∀ w0 m0 a w,Rel w0 m0 nt st.den a w -> ∃ cc,cc.old = m0 /\ ag w0 nt cc st1.den a w /\ am cc st1.den.o x (a.tmps.getD d undef)) (h:HW (ro:=ro) P nt c ⟨(d,some x) :: st1.t,st1.o⟩ Q):HW (ro:=ro) P nt c st Q:=fun w0 m0 a w hr=>by
 obtain ⟨cc,hold,hrr,hx⟩:=hs w0 m0 a w hr;refine h w0 m0 a w ⟨cc,hold,hrr.defers,hrr.size,hrr.below,fun k y hy=>?_,hrr.objs,hrr.inj,hrr.imm,hrr.sep,hrr.was,hrr.frm,hrr.fsep,hrr.fixed⟩;simp only [HSt.den] at hy;rw [ar] at hy;dsimp only at hy;split at hy
 · rename_i hk
   subst hk;simp only [bra] at hy;subst hy;exact hx
 exact hrr.tmps k y hy
variable {id:Nat}
def bn (d:Nat) {n n' s:Nat} {wr:Bool} {e:TypeId} {f:Nat -> Nat -> PV} (hd:b9 st.t d = some (.v (.one (.ref id n)))) (ho:b9 st.o id = some (.arr wr s e n' f)) (hn:n' = n) (h:HW (ro:=ro) P nt c ⟨(d,some (bp (.sl n s false f))) :: st.t,(id,none) :: st.o⟩ Q):HW (ro:=ro) P nt c st Q:=by
 subst hn;refine xk ⟨st.t,(id,none) :: st.o⟩ d (bp (.sl n' s false f)) (fun w0 m0 a w hr=>?_) h;obtain ⟨cc,hold,hrr⟩:=hr;refine ⟨_, ?_,by rw [wd];exact hrr.freeze ho, ?_⟩
 · exact hold
 obtain ⟨_,_,h3⟩:=hrr.tmps d _ hd;have:=(h3 _ _ _ _ ho rfl).2 rfl;rw [this];exact ym hrr ho
def jz (d:Nat) {l:List HV} {ps:List PV} (hd:b9 st.t d = some (.v (.one (.ptr id 0)))) (ho:b9 st.o id = some (.box l)) (hp:mj l = some ps) (h:HW (ro:=ro) P nt c ⟨(d,some (bp (.vp ps.length fun j=>ps.getD j .any))) :: st.t,(id,none) :: st.o⟩ Q):HW (ro:=ro) P nt c st Q:=by
 refine xk ⟨st.t,(id,none) :: st.o⟩ d _ (fun w0 m0 a w hr=>?_) h;obtain ⟨cc,hold,hrr⟩:=hr;refine ⟨_, ?_,by rw [wd];exact hrr.freeze ho, ?_⟩
 · exact hold
 obtain ⟨_,_,h3⟩:=hrr.tmps d _ hd;obtain ⟨b,hb,hu⟩:=h3 l ho;rw [hu,<- hb];exact avc hrr ho hp
def fk (bx off:Nat) {n n' s:Nat} {wr:Bool} {e:TypeId} {f:Nat -> Nat -> PV} {l:List HV} (hb:b9 st.o bx = some (.box l)) (hl:l[off]? = some (.ref id n)) (ho:b9 st.o id = some (.arr wr s e n' f)) (hn:n' = n) (hne:Nat.beq bx id = false) (h:HW (ro:=ro) P nt c ⟨st.t,(bx,some (.box (bh l off [.p (.sl n s false f)]))) :: (id,none) :: st.o⟩ Q):HW (ro:=ro) P nt c st Q:=fun w0 m0 a w hr=>by
 subst hn;obtain ⟨cc,hold,hrr⟩:=hr;have hbi:bx ≠ id:=by rintro rfl;simp at hne
 have hfr:=hrr.freeze (id:=id) ho;rw [<- wd] at hfr
 have hb':(HSt.den ⟨st.t,(id,none) :: st.o⟩).o bx = some (.box l):=by
  simp only [HSt.den,ar,hbi,if_false];exact hb
 refine h w0 m0 a w ?_
 have hw:=hfr.write bx (.box l) hb' (.box (bh l off [.p (.sl n' s false f)])) w (cc.own bx) (cc.blk bx) none (Grw.refl w _) (fun _ e=>by cases e) (.inr (.inl ⟨l,bh l off [.p (.sl n' s false f)],hb',by simp [S.setO],by simp⟩)) (fun b hb=>.inl hb) (by
  obtain ⟨b,C,ee,q1,q2,q3,q4,q5⟩:=hfr.objs bx _ hb';refine ⟨b,C,ee,by simpa using q1,by simpa using q2,q3,q4, ?_⟩;have hoff:off < l.length:=(bt7.1 hl).1;have hcl:=q5.length;refine bc.of_get ?_ fun k x u hx hu=>?_
  · simp only [bh,brh,brl,bu4,bst];omega
  have hx':=hx;unfold bh at hx';rw [d4 l [HV.p (.sl n' s false f)] off k bvn] at hx';by_cases hk:k = off
  · subst hk
    simp at hx';subst hx';obtain ⟨b0,C0,e0,p1,p2,p3,p4,p5⟩:=hrr.objs bx _ hb
    have hbb:b0 = b:=by
     have q2':cc.blk bx = a02 b:=q2;have q3':a02 b b0:=by rw [<- q2',p2];rfl
     exact q3'
    subst hbb
    have hCC:C0 = C:=by
     rw [q4] at p4;simp only [bra,Obj.cells.injEq] at p4;exact p4.1.symm
    subst hCC;obtain ⟨u',hu',hr'⟩:=p5.get k _ hl;rw [hu] at hu';simp only [bra] at hu';subst hu';obtain ⟨_,_,h3⟩:=hr';have:=(h3 _ _ _ _ ho rfl).2 rfl;rw [this];exact ym hrr ho
  rw [if_neg bvn] at hx';obtain ⟨u',hu',hr'⟩:=q5.get k x hx';rw [hu] at hu';simp only [bra] at hu';subst hu';refine bm.evo ?_ (fun j _=>?_) hr'
  · exact Imm.le.refl (frozenImm cc w id)
  by_cases hj:j = bx
  · subst hj;exact .inr (.inl ⟨l,bh l off [.p (.sl n' s false f)],hb',by simp [S.setO],by simp⟩)
  exact Evo.of_same (by simp [S.setO,hj]) (by simp [hj]))
 have e:HSt.den ⟨st.t,(bx,some (.box (bh l off [.p (.sl n' s false f)]))) :: (id,none) :: st.o⟩ = (HSt.den ⟨st.t,(id,none) :: st.o⟩).setO bx (some (.box (bh l off [.p (.sl n' s false f)]))):=by
  unfold HSt.den S.setO;simp only [S.mk.injEq,true_and];funext k;simp only [ar]
 rw [e];exact ⟨_,(by exact hold),hw⟩
def afa (x:Nat) {s s2 n n2:Nat} {e e2:TypeId} {ob:a7} {y:PV} {ms:List Nat} {g:Nat -> Nat -> HV} (g':Nat -> Nat -> PV) (hb:b9 st.o x = some (.arrh s2 e2 n2 ms g)) (ho:b9 st.o id = some ob) (hdim:ob.dim = some (s,e,n)) (hfz:∀ {w0:World} {nt:Nat} {c:Ctx} {s:S} {a:Act} {w:World},ag w0 nt c s a w -> s.o id = some ob -> ak (frozenImm c w id) y (c.own id)) (hne:Nat.beq x id = false) (hg:∀ i j,i < n2 -> j < s2 -> (∃ k,g i j = .ref id k /\ k = n /\ CoP y (g' i j)) \/ CoH (g i j) (.p (g' i j))) (h:HW (ro:=ro) P nt c ⟨st.t,(x,some (.arr true s2 e2 n2 g')) :: (id,none) :: st.o⟩ Q):HW (ro:=ro) P nt c st Q:=fun w0 m0 a w hr=>by
 obtain ⟨cc,hold,hrr⟩:=hr;have hbi:x ≠ id:=by rintro rfl;simp at hne
 have hfr:=hrr.freeze (id:=id) ho;rw [<- wd] at hfr
 have hb':(HSt.den ⟨st.t,(id,none) :: st.o⟩).o x = some (.arrh s2 e2 n2 ms g):=by
  simp only [HSt.den,ar,hbi,if_false];exact hb
 refine h w0 m0 a w ?_
 have hevo:Evo { old:=cc.old,imm:=frozenImm cc w id,tab:=re hrr ho,own:=cc.own,blk:=cc.blk,rows:=cc.rows } (HSt.den ⟨st.t,(id,none) :: st.o⟩).o { old:=cc.old,imm:=frozenImm cc w id,tab:=re hrr ho,own:=fun k=>if k = x then cc.own x else cc.own k,blk:=fun k=>if k = x then cc.blk x else cc.blk k,rows:=cc.rows } ((HSt.den ⟨st.t,(id,none) :: st.o⟩).setO x (some (.arr true s2 e2 n2 g'))).o x :=
  .inr (.inr ⟨_, .arr true s2 e2 n2 g',s2,e2,n2,n2,hb',rfl,by simp [S.setO],rfl,brd _,fun _=>by simp,fun _ _ _ _ _ _ _ hb=>by cases hb⟩)
 have hw:=hfr.write x _ hb' (.arr true s2 e2 n2 g') w (cc.own x) (cc.blk x) none (Grw.refl w _) (fun _ e=>by cases e) hevo (fun b hb=>.inl hb) (by
  obtain ⟨q0,q1,qm,q2⟩:=hrr.objs x _ hb;refine ⟨q0,q1, ?_⟩
  rcases q2 with ⟨q3,xs,q4,q5⟩ | ⟨rfl,q3,q4⟩
  · refine .inl ⟨by simpa using q3,xs,by simpa using q4,fun i j hi hj=>?_⟩
    obtain ⟨v,hv,hrv⟩:=q5 i j hi hj;refine ⟨v,hv, ?_⟩;show ak (frozenImm cc w id) (g' i j) v
    rcases hg i j hi hj with ⟨k,hk,rfl,hco⟩ | hco
    · rw [hk] at hrv
      obtain ⟨_,_,h3⟩:=hrv;rw [(h3 _ _ _ _ ho hdim).2 rfl];exact hco _ _ (hfz hrr ho)
    exact ak.mono (uq hrr ho) (bm.co hco hrv)
  refine .inr ⟨.inr rfl,by simpa using q3, ?_⟩;have:=ak.mono (uq hrr ho) q4
  simpa using CoP.sl rfl (.inl rfl) (fun h=>h) (fun i j hi _=>by omega) _ _ this)
 have e:HSt.den ⟨st.t,(x,some (.arr true s2 e2 n2 g')) :: (id,none) :: st.o⟩ = (HSt.den ⟨st.t,(id,none) :: st.o⟩).setO x (some (.arr true s2 e2 n2 g')):=by
  unfold HSt.den S.setO;simp only [S.mk.injEq,true_and];funext k;simp only [ar]
 rw [e];exact ⟨_,(by exact hold),hw⟩
def ady (x:Nat) {s2 n n2:Nat} {kk:KK} {e2:TypeId} {f:MK -> Option PV} {ms:List Nat} {g:Nat -> Nat -> HV} (g':Nat -> Nat -> PV) (hb:b9 st.o x = some (.arrh s2 e2 n2 ms g)) (ho:b9 st.o id = some (.mp kk n f)) (hne:Nat.beq x id = false) (hg:∀ i j,i < n2 -> j < s2 -> (∃ k,g i j = .ref id k /\ k = 0 /\ CoP (mpP kk n f) (g' i j)) \/ CoH (g i j) (.p (g' i j))) (h:HW (ro:=ro) P nt c ⟨st.t,(x,some (.arr true s2 e2 n2 g')) :: (id,none) :: st.o⟩ Q):HW (ro:=ro) P nt c st Q:=afa x g' hb ho rfl (fun hr ho=>ayb hr ho) hne hg h
end
end
end
end Go.Hx
