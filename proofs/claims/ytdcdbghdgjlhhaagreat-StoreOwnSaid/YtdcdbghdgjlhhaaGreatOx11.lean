/- A part of the proof: Hx13 Hx14 Hx15. -/
import Derived.Test.YtdcdbghdgjlhhaaGreatOx10
set_option linter.all false
namespace Go.Hx
section
open Go.RowKit
def lj (ops:Array Oper) (j:Nat):List Nat :=
 match ops[j]? with
 | some o=>(o.after.toList.filter fun e=>Region.binds .any e).map (·.on)
 | none=>[]
def v9 (acc:List Nat):List Nat → Nat
 | []=>0
 | e :: r=>v9 acc r ||| 2 ^ e ||| acc.getD e 0
def pa (ops:Array Oper):Nat → List Nat
 | 0=>[]
 | n + 1=>pa ops n ++ [v9 (pa ops n) (lj ops n)]
theorem ke (ops:Array Oper):∀ n,(pa ops n).length = n
 | 0=>rfl
 | n + 1=>by simp [pa,ke ops n]
theorem qj (ops:Array Oper):∀ n j,j < n → (pa ops n).getD j 0 = v9 (pa ops j) (lj ops j)
 | n + 1,j,h=>by
  simp only [pa,List.getD_eq_getElem?_getD]
  by_cases hj:j < n
  · rw [List.getElem?_append_left (by rw [ke];exact hj)]
    have:=qj ops n j hj
    grind
  have:j = n:=by omega
  subst this
  rw [List.getElem?_append_right (by rw [ke];omega),ke]
  simp
theorem a23 (acc:List Nat) (i:Nat):∀ l,(v9 acc l).testBit i = true → ∃ e ∈ l,e = i ∨ (acc.getD e 0).testBit i = true
 | [],h=>by simp [v9] at h
 | e :: r,h=>by
  simp only [v9,Nat.testBit_or,Bool.or_eq_true,Nat.testBit_two_pow,decide_eq_true_eq] at h
  rcases h with (h | h) | h
  · obtain ⟨e',he,hh⟩:=a23 acc i r h
    grind
  · grind
  grind
def a2a (ops:Array Oper) (j i:Nat):Bool:=((pa ops (j + 1)).getD j 0).testBit i
structure Inv (ops:Array Oper) (listed:Array Bool):Prop where
 size:listed.size = ops.size
 closed:∀ j,listed.getD j false = true → ∀ e ∈ lj ops j,listed.getD e false = true
theorem a58 {ops:Array Oper} {listed:Array Bool} (inv:Inv ops listed):∀ j,(∀ e ∈ lj ops j,listed.getD e false = true) → ∀ i,a2a ops j i = true → listed.getD i false = true:=by
 intro j
 induction j using Nat.strongRecOn with
 | _ j ih =>
  intro hd i hr
  unfold a2a at hr
  rw [qj ops (j + 1) j (by omega)] at hr
  obtain ⟨e,he,hh⟩:=a23 _ i _ hr
  rcases hh with rfl | hh
  · exact hd e he
  by_cases hej:e < j
  · rw [qj ops j e hej] at hh
    refine ih e hej (fun e' he'=>inv.closed e (hd e he) e' he') i ?_
    unfold a2a
    rw [qj ops (e + 1) e (by omega)]
    exact hh
  rw [List.getD_eq_getElem?_getD,List.getElem?_eq_none (by rw [ke];omega)] at hh
  simp at hh
theorem mem_ready' {ops:Array Oper} {listed:Array Bool} {i:Nat}:i ∈ Region.ready .any ops listed ↔ (i < ops.size ∧ listed.getD i true = false ∧ ∀ e ∈ lj ops i,listed.getD e false = true):=by
 unfold Region.ready lj
 simp only [List.mem_filter,List.mem_range,Bool.and_eq_true,Bool.not_eq_true']
 constructor
 · rintro ⟨h1,h2,h3⟩
   refine ⟨h1,h2, ?_⟩
   rw [Array.getElem?_eq_getElem h1] at h3 ⊢
   simp only [Option.map_some,Option.getD_some,Array.all_eq_true'] at h3
   grind
 grind
def aca (ops:Array Oper) (j d:Nat):Bool:=(lj ops j).any (Nat.beq d)
theorem aan {ops:Array Oper} {j d:Nat} (h:aca ops j d = false):d ∉ lj ops j:=by
 intro hm
 unfold aca at h
 rw [List.any_eq_false] at h
 exact h d hm (by simp)
def ph (ops:Array Oper) (x y:Tr):Bool:=!(Nat.beq x.i y.i) && !aca ops x.i y.i && (a2a ops y.i x.i || a1z ops x y)
def yo (ops:Array Oper):List Tr → Bool
 | []=>true
 | x :: T=>T.all (ph ops x) && yo ops T
def a1u (ops:Array Oper) (x:Tr):Bool:=Nat.blt x.i ops.size && (lj ops x.i).all fun d=>Nat.blt d ops.size && !(Nat.beq d x.i)
def a50 (ops:Array Oper) (T:List Tr):Bool :=
 Nat.beq T.length ops.size && (List.range ops.size).all (fun k=>T.any fun t=>Nat.beq t.i k) && T.all (a1u ops) && yo ops T
theorem rr {ops:Array Oper}:∀ {T:List Tr},yo ops T = true → T.Pairwise fun x y=>ph ops x y = true
 | [],_=>List.Pairwise.nil
 | x :: T,h=>by
  simp only [yo,Bool.and_eq_true,List.all_eq_true] at h
  exact List.Pairwise.cons h.1 (rr h.2)
section
variable {P:Program} {E:Env} {nt:Nat} {ops:Array Oper} {w0:World} {m0:Old} {sf:S}
theorem abu (m j:Nat):(Array.replicate m false).getD j false = false:=by
 rcases Nat.lt_or_ge j m with h | h <;> simp [h]
theorem a1w {l:Array Bool} {i:Nat} (hi:i < l.size):(l.getD i true = false) ↔ ¬ (l.getD i false = true):=by
 simp [hi]
theorem a2p (hE:cr P E) {ro:Option Nat} {n:Nat} {Q:Exit → Act → World → Prop} (hQ:∀ a' w',Rel w0 m0 nt sf a' w' → Q .normal a' w') :
 ∀ (fuel:Nat) (listed:Array Bool) (T:List Tr) (s:S) (a:Act) (w:World),T.length = fuel → Inv ops listed → (∀ i,i < ops.size → (listed.getD i true = false ↔ ∃ t ∈ T,t.i = i)) →
  (∀ t ∈ T,a1u ops t = true) → (T.Pairwise fun x y=>ph ops x y = true) → jk P E nt ops T s sf → Rel w0 m0 nt s a w → wpAnyIn (rf ro) n P .any ops Q fuel listed a w:=by
 intro fuel
 induction fuel with
 | zero =>
  intro listed T s a w hl inv hun _ _ hT hr
  have:T = []:=List.eq_nil_of_length_eq_zero hl
  subst this
  cases hT
  refine ⟨?_,hQ _ _ hr⟩
  cases hrd:Region.ready .any ops listed with
  | nil=>rfl
  | cons i r =>
   have hi:i ∈ Region.ready .any ops listed:=by rw [hrd];simp
   obtain ⟨h1,h2,_⟩:=mem_ready'.1 hi
   grind
 | succ fuel ih =>
  intro listed T s a w hl inv hun hself hpw hT hr
  refine ⟨fun hnil=>?_,fun i hi=>?_⟩
  ·
   exfalso
   cases T with
   | nil=>simp at hl
   | cons x T =>
    have hs:=hself x (by simp)
    simp only [a1u,Bool.and_eq_true,List.all_eq_true,Bool.not_eq_true'] at hs
    obtain ⟨hs1,hs2⟩:=hs
    have hs1:x.i < ops.size:=by simpa [Nat.blt_eq] using hs1
    have hx:x.i ∈ Region.ready .any ops listed:=by
     refine mem_ready'.2 ⟨hs1,(hun x.i hs1).2 ⟨x,by simp,rfl⟩,fun d hd=>?_⟩
     obtain ⟨hd1,hd2⟩:=hs2 d hd
     have hd1:d < ops.size:=by simpa [Nat.blt_eq] using hd1
     have hd2:d ≠ x.i:=by rintro rfl;simp at hd2
     apply Classical.byContradiction
     intro hne
     have hu:=(a1w (by rw [inv.size];exact hd1)).2 hne
     obtain ⟨t,ht,hti⟩:=(hun d hd1).1 hu
     rcases List.mem_cons.1 ht with rfl | ht
     · grind
     have:=(List.pairwise_cons.1 hpw).1 t ht
     simp only [ph,Bool.and_eq_true,Bool.not_eq_true'] at this
     exact aan this.1.2 (by rw [hti];exact hd)
    grind
  obtain ⟨h1,h2,h3⟩:=mem_ready'.1 hi
  obtain ⟨y,hy,hyi⟩:=(hun i h1).1 h2
  obtain ⟨pre,post,rfl⟩:=List.append_of_mem hy
  have hpass:∀ x ∈ pre,a1z ops x y = true:=by
   intro x hx
   have hp:ph ops x y = true:=(List.pairwise_append.1 hpw).2.2 x hx y (by simp)
   simp only [ph,Bool.and_eq_true,Bool.or_eq_true] at hp
   rcases hp.2 with hre | hpa
   · exfalso
     have hl:=a58 inv y.i (by rw [hyi];exact h3) x.i hre
     have hsx:=hself x (by simp [hx])
     simp only [a1u,Bool.and_eq_true] at hsx
     have hsx1:x.i < ops.size:=by simpa [Nat.blt_eq] using hsx.1
     grind
   exact hpa
  have hfront:=a4h hT hpass
  cases hfront with
  | @cons iy an R O F o _ _ v wr _ hio he hR hO hF hrest =>
  have hyi':iy = i:=hyi
  subst hyi'
  refine yb hE he hr hio fun a' w' hr'=>?_
  have hsub:List.Sublist (pre ++ post) (pre ++ (⟨iy,an,R,O,F⟩:Tr) :: post):=(List.Sublist.refl pre).append (List.sublist_cons_self _ _)
  have hsz:iy < listed.size:=by rw [inv.size];exact h1
  refine ih (listed.setIfInBounds iy true) (pre ++ post) _ a' w' (by simp at hl ⊢;omega) ⟨by simp [inv.size],fun j hj e he=>?_⟩ (fun k hk=>?_) (fun t ht=>hself t (hsub.subset ht)) (hpw.sublist hsub) hrest hr'
  · by_cases hji:iy = j
    · subst hji
      exact getD_set_true (h3 e he)
    rw [getD_set_ne false hji] at hj
    exact getD_set_true (inv.closed j hj e he)
  by_cases hki:iy = k
  · subst hki
    constructor
    · simp_all
    rintro ⟨t,ht,hti⟩
    exfalso
    rcases List.mem_append.1 ht with ht | ht
    · have hp:=(List.pairwise_append.1 hpw).2.2 t ht ⟨iy,an,R,O,F⟩ (by simp)
      simp only [ph,Bool.and_eq_true,Bool.not_eq_true'] at hp
      simp_all
    have hp:=(List.pairwise_cons.1 (List.pairwise_append.1 hpw).2.1).1 t ht
    simp only [ph,Bool.and_eq_true,Bool.not_eq_true'] at hp
    simp_all
  rw [getD_set_ne true hki,hun k hk]
  grind
theorem a1f (hE:cr P E) {ro:Option Nat} {n:Nat} (hm:P.follows .mixedOrders = true) {id:Nat} {Q:Exit → Act → World → Prop} {T:List Tr} {s:S} {a:Act} {w:World} (hT:jk P E nt ops T s sf) (hc:a50 ops T = true) (hr:Rel w0 m0 nt s a w)
 (hQ:∀ a' w',Rel w0 m0 nt sf a' w' → Q .normal a' w'):(Code.region id ops true).wpIn (rf ro) n P Q a w:=by
 simp only [a50,Bool.and_eq_true,List.all_eq_true] at hc
 obtain ⟨⟨⟨h1,h2⟩,h3⟩,h4⟩:=hc
 refine wpIn_region_any hm ?_;refine a2p hE hQ ops.size _ T s a _ (by simpa using h1) ⟨by simp,fun j hj=>?_⟩ (fun i hi=>⟨fun _=>?_,fun _=>by simp [hi]⟩) h3 (rr h4) hT ?_
 · rw [abu] at hj;cases hj
 · simp_all
 obtain ⟨c,hold,hr⟩:=hr
 exact ⟨c,hold,hr.drew⟩
theorem v7 (hE:cr P E) {ro:Option Nat} {n:Nat} {Q:Exit → Act → World → Prop} (hQ:∀ a' w',Rel w0 m0 nt sf a' w' → Q .normal a' w'):∀ (T:List Tr) (s:S) (a:Act) (w:World),jk P E nt ops T s sf → Rel w0 m0 nt s a w → wpOpsIn (rf ro) n P ops Q (T.map (·.i)) a w
 | [],s,a,w,hT,hr=>by
  cases hT
  exact hQ _ _ hr
 | t :: T,s,a,w,hT,hr=>by
  cases hT with
  | cons hi he hR hO hF hrest =>
  rw [List.map_cons,wpOpsIn_cons]
  exact yb hE he hr hi fun a' w' hr'=>v7 hE hQ T _ a' w' hrest hr'
end
def bs {α:Type}:List (Nat × Option α) → Nat → Option α
 | [],_=>none
 | (e,x) :: r,d=>bif Nat.beq e d then x else bs r d
structure HSt where
 t:List (Nat × Option HR)
 o:List (Nat × Option af)
def HSt.den (st:HSt):S:=⟨bs st.t,bs st.o⟩
def HSt.after (st:HSt) (d:Option Tmp) (x:Option HR) (wr:Wr):HSt :=
 ⟨match d with | some d=>(d,x) :: st.t | none=>st.t,wr ++ st.o⟩
theorem a6d (l:List (Nat × Option af)):∀ (wr:Wr),bs (wr ++ l) = fun k=>match fw wr k with | some r=>r | none=>bs l k
 | []=>rfl
 | (e,x) :: r=>by
  funext k
  have ih:=congrFun (a6d l r) k
  simp only [List.cons_append,bs,fw]
  grind
theorem be {α:Type} (e:Nat) (x:Option α) (l:List (Nat × Option α)):bs ((e,x) :: l) = fun k=>if k = e then x else bs l k:=by
 funext k
 simp only [bs]
 by_cases h:k = e
 · subst h;simp
 have:Nat.beq e k = false:=by
  rw [Bool.eq_false_iff]
  intro hb
  simp_all
 simp [h,this]
theorem j6 (st:HSt) (d:Option Tmp) (x:Option HR) (wr:Wr):(st.after d x wr).den = st.den.after d x wr:=by
 unfold HSt.after HSt.den S.after S.putD S.setW S.put
 cases d <;> simp [be,a6d] <;> rfl
def a1r (id:Nat) (l:List Nat):Bool:=!(l.any (Nat.beq id))
def nmT (id:Nat):List (Nat × Option HR) → Bool
 | []=>true
 | (_,some x) :: r=>a1r id x.ids && nmT id r
 | (_,none) :: r=>nmT id r
def nmO (id:Nat):List (Nat × Option af) → Bool
 | []=>true
 | (_,some x) :: r=>a1r id x.ids && nmO id r
 | (_,none) :: r=>nmO id r
theorem vm {id:Nat} {l:List Nat} (h:a1r id l = true):id ∉ l:=by
 intro hm
 simp only [a1r,Bool.not_eq_true'] at h
 rw [List.any_eq_false] at h
 exact h id hm (by simp)
theorem sy {id:Nat}:∀ {l:List (Nat × Option HR)},nmT id l = true → ∀ d x,bs l d = some x → ¬ x.men id
 | [],_,d,x,h=>by simp [bs] at h
 | (e,some y) :: r,h,d,x,hl=>by
  simp only [nmT,Bool.and_eq_true] at h
  rw [be] at hl
  dsimp only at hl
  split at hl
  · simp only [Option.some.injEq] at hl
    subst hl
    exact fun hm=>vm h.1 (HR.men_ids hm)
  exact sy h.2 d x hl
 | (e,none) :: r,h,d,x,hl=>by
  rw [be] at hl
  dsimp only at hl
  split at hl
  · cases hl
  exact sy (by simpa [nmT] using h) d x hl
theorem a0n {id:Nat}:∀ {l:List (Nat × Option af)},nmO id l = true → ∀ d x,bs l d = some x → ¬ x.men id
 | [],_,d,x,h=>by simp [bs] at h
 | (e,some y) :: r,h,d,x,hl=>by
  simp only [nmO,Bool.and_eq_true] at h
  rw [be] at hl
  dsimp only at hl
  split at hl
  · simp only [Option.some.injEq] at hl
    subst hl
    exact fun hm=>vm h.1 (af.men_ids hm)
  exact a0n h.2 d x hl
 | (e,none) :: r,h,d,x,hl=>by
  rw [be] at hl
  dsimp only at hl
  split at hl
  · cases hl
  exact a0n (by simpa [nmO] using h) d x hl
def nq (id:Nat) (st:HSt):Bool:=Nat.blt id 1000 && nmT id st.t && nmO id st.o && (match bs st.o id with | none=>true | some _=>false)
theorem jb {id:Nat} {st:HSt} (h:nq id st = true):NM st.den id ∧ st.den.o id = none:=by
 simp only [nq,Bool.and_eq_true] at h
 obtain ⟨⟨⟨h0,h1⟩,h2⟩,h3⟩:=h
 refine ⟨⟨sy h1,a0n h2,by simpa [Nat.blt_eq] using h0⟩, ?_⟩
 show bs st.o id = none
 grind
section
variable {P:Program} {E:Env} {nt:Nat} {ops:Array Oper} {i:Nat} {o:Oper} {st:HSt} {T:List Tr} {sf:S}
def a3e (ex:Bool) (M:List Nat):Ann:=⟨0,false,ex, .tup [],[],[],M⟩
def Reg (P:Program) (E:Env) (nt:Nat) (ops:Array Oper) (L:List Nat) (st:HSt) (K:List Tr → HSt → Prop):Prop :=
 ∃ T sf,T.map (·.i) = L ∧ jk P E nt ops T st.den (HSt.den sf) ∧ K T sf
variable {L:List Nat} {K:List Tr → HSt → Prop}
theorem ca (h:K [] st):Reg P E nt ops [] st K:=⟨[],st,rfl, .nil _,h⟩
theorem dj (ex:Bool) {out:Out} {gb:Bool} (hi:ops[i]? = some o) (hw:bj ops st.den o = some gb) (hd:dk nt o.dst = true) (hq':hq E ex st.den.o (ev st.den) o.op = some out) (hg:gb = true) (hp:out.pre)
 (hT:Reg P E nt ops L (st.after o.dst (some out.val) []) fun T sf=>K (⟨i,a3e ex out.val.ids,dl st.den o,cq st.den o.dst [],f5 E st.den o⟩ :: T) sf):Reg P E nt ops (i :: L) st K:=by
 obtain ⟨T,sf,h1,h2,h3⟩:=hT
 exact ⟨_,sf,by rw [← h1];rfl, .cons hi (.quiet out (by rw [hw,hg]) hd hq' hp rfl) rfl (fun _ hk=>hk) (fun f hf=>⟨hf,by rw [hw,hg]⟩) (by rw [j6] at h2;exact h2),h3⟩
theorem a7f {gb:Bool} (hi:ops[i]? = some o) (hw:bj ops st.den o = some gb) (hd:dk nt o.dst = true) (hg:gb = false)
 (hT:Reg P E nt ops L (st.after o.dst (some (.tup [])) []) fun T sf=>K (⟨i,a3e true [],dl st.den o,cq st.den o.dst [],none⟩ :: T) sf):Reg P E nt ops (i :: L) st K:=by
 obtain ⟨T,sf,h1,h2,h3⟩:=hT
 exact ⟨_,sf,by rw [← h1];rfl, .cons hi (.skip (by rw [hw,hg]) hd) rfl (fun _ hk=>hk) (by intro _ hf;cases hf) (by rw [j6] at h2;exact h2),h3⟩
theorem ag6 {out:Out} {id:Nat} {gb:Bool} (hi:ops[i]? = some o) (hw:bj ops st.den o = some gb) (hd:dk nt o.dst = true) (hq':qn E st.den.o (ev st.den) o.op = some (out,id)) (hg:gb = true) (hp:out.pre)
 (hT:Reg P E nt ops L (st.after o.dst (some out.val) [(id,none)]) fun T sf=>K (⟨i,⟨0,false,true, .tup [],[id],[],[]⟩,dl st.den o,cq st.den o.dst [(id,none)],none⟩ :: T) sf):Reg P E nt ops (i :: L) st K:=by
 obtain ⟨T,sf,h1,h2,h3⟩:=hT
 exact ⟨_,sf,by rw [← h1];rfl, .cons hi (.cut out id (by rw [hw,hg]) hd hq' hp rfl) rfl (fun _ hk=>hk) (by intro _ hf;cases hf) (by rw [j6] at h2;exact h2),h3⟩
theorem ur (id:Nat) {nw:New} {gb:Bool} (hi:ops[i]? = some o) (hw:bj ops st.den o = some gb) (hd:dk nt o.dst = true) (hq':ha E (ev st.den) id o.op = some nw) (hn:nq id st = true) (hg:gb = true) (hp:nw.pre)
 (hT:Reg P E nt ops L (st.after o.dst (some nw.val) [(id,some nw.ob)]) fun T sf=>K (⟨i,⟨id,false,true, .tup [],[id],[id],nw.val.ids ++ nw.ob.ids⟩,dl st.den o,cq st.den o.dst [(id,some nw.ob)],none⟩ :: T) sf):Reg P E nt ops (i :: L) st K:=by
 obtain ⟨T,sf,h1,h2,h3⟩:=hT
 exact ⟨_,sf,by rw [← h1];rfl, .cons hi (.make nw (by rw [hw,hg]) hd hq' hp (jb hn).1 (jb hn).2 rfl rfl rfl) rfl (fun _ hk=>hk) (by intro _ hf;cases hf) (by rw [j6] at h2;exact h2),h3⟩
theorem a5p {u:Upd} {gb:Bool} (hi:ops[i]? = some o) (hw:bj ops st.den o = some gb) (hd:dk nt o.dst = true) (hq':hs E st.den.o (ev st.den) o.op = some u) (hg:gb = true) (hp:u.pre)
 (hT:Reg P E nt ops L (st.after o.dst none [(u.id,some u.ob)]) fun T sf=>K (⟨i,⟨0,false,true, .tup [],[u.id],[],u.ob.ids⟩,dl st.den o,cq st.den o.dst [(u.id,some u.ob)],f5 E st.den o⟩ :: T) sf):Reg P E nt ops (i :: L) st K:=by
 obtain ⟨T,sf,h1,h2,h3⟩:=hT
 exact ⟨_,sf,by rw [← h1];rfl, .cons hi (.store u (by rw [hw,hg]) hd hq' hp rfl (fun _ hk=>hk)) rfl (fun _ hk=>hk) (fun f hf=>⟨hf,by rw [hw,hg]⟩) (by rw [j6] at h2;exact h2),h3⟩
theorem a1k (id:Nat) (wb:Bool) {u:App} {gb:Bool} (hi:ops[i]? = some o) (hw:bj ops st.den o = some gb) (hd:dk nt o.dst = true) (hq':hap E st.den.o (ev st.den) id wb o.op = some u) (hn:(!u.new || nq id st) = true) (hg:gb = true) (hp:u.pre)
 (hT:Reg P E nt ops L (st.after o.dst (some u.val) [(u.id,some u.ob)]) fun T sf=>K (⟨i,⟨id,wb,true, .tup [],[u.id],if u.new then [id] else [],u.val.ids ++ u.ob.ids⟩,dl st.den o,cq st.den o.dst [(u.id,some u.ob)],none⟩ :: T) sf):Reg P E nt ops (i :: L) st K:=by
 obtain ⟨T,sf,h1,h2,h3⟩:=hT
 exact ⟨_,sf,by rw [← h1];rfl, .cons hi (.app u (by rw [hw,hg]) hd hq' hp (fun h=>jb (by rw [h] at hn;simpa using hn)) rfl (fun h=>by simp [h]) rfl) rfl (fun _ hk=>hk) (by intro _ hf;cases hf) (by rw [j6] at h2;exact h2),h3⟩
theorem aex {sr ds:TypeId} {x:Operand} {b:ByteArray} {gb:Bool} (hi:ops[i]? = some o) (hw:bj ops st.den o = some gb) (hd:dk nt o.dst = true) (ho:o.op = .convert sr ds x) (hcv:a14 E (ev st.den) sr ds x = some b) (hg:gb = true) (hp:b.size ≤ maxLen)
 (hT:Reg P E nt ops L (st.after o.dst (some (.v (.one (.p (.sl b.size 1 false (a98 b)))))) []) fun T sf=>K (⟨i,⟨0,false,true, .tup [],[],[],[]⟩,dl st.den o,cq st.den o.dst [],none⟩ :: T) sf):Reg P E nt ops (i :: L) st K:=by
 obtain ⟨T,sf,h1,h2,h3⟩:=hT
 exact ⟨_,sf,by rw [← h1];rfl, .cons hi (.conv sr ds x b (by rw [hw,hg]) hd ho hcv hp rfl) rfl (fun _ hk=>hk) (by intro _ hf;cases hf) (by rw [j6] at h2;exact h2),h3⟩
theorem a7m {cl:Call} {f:FuncId} {fst caps args vs:List PC} {p:Prop} {b:Bool} {res:PR} {gb:Bool} (hi:ops[i]? = some o) (hw:bj ops st.den o = some gb) (hd:dk nt o.dst = true) (ho:o.op = .call cl) (hc:callee (ev st.den) cl = some (f,fst,caps))
 (hv:iw st.den.o (ev st.den) cl.args.toList = some (p,vs,b)) (hf:am P f) (hpure:ay P f args res) (hco:CoL (fst ++ (vs ++ caps)) args) (hg:gb = true) (hp:p) (hb:(!b || res.flat) = true)
 (hT:Reg P E nt ops L (st.after o.dst (some res.toH) []) fun T sf=>K (⟨i,⟨0,false,true,res,[],[],[]⟩,dl st.den o,cq st.den o.dst [],none⟩ :: T) sf):Reg P E nt ops (i :: L) st K:=by
 obtain ⟨T,sf,h1,h2,h3⟩:=hT
 exact ⟨_,sf,by rw [← h1];rfl,   .cons hi (.call cl f fst caps args p vs b (by rw [hw,hg]) hd ho hc (.inl ⟨hf,hpure⟩) hv hp hco trivial hb rfl) rfl (fun _ hk=>hk) (by intro _ hf;cases hf) (by rw [j6] at h2;exact h2),h3⟩
end
def HW {ro:Option Nat} (P:Program) (nt:Nat) (c:Code) (st:HSt) (Q:Exit → HSt → Prop):Prop :=
 ∀ w0 m0 a w,Rel w0 m0 nt st.den a w → c.wpIn (rf ro) 0 P (fun e a' w'=>∃ st':HSt,Q e st' ∧ Rel w0 m0 nt st'.den a' w') a w
def xw:List (Nat × Option HR) → List (Nat × Option HR) → Prop
 | [],_=>True
 | (d,some x) :: r,l=>(∃ y,bs l d = some y ∧ CoR y x) ∧ xw r l
 | (_,none) :: r,l=>xw r l
def a0t:List (Nat × Option af) → List (Nat × Option af) → Prop
 | [],_=>True
 | (d,some x) :: r,l=>(∃ y,bs l d = some y ∧ CoO y x) ∧ a0t r l
 | (_,none) :: r,l=>a0t r l
def Sub (st st':HSt):Prop:=xw st.t st'.t ∧ a0t st.o st'.o
theorem pn:∀ {l l':List (Nat × Option HR)},xw l l' → ∀ d x,bs l d = some x → ∃ y,bs l' d = some y ∧ CoR y x
 | [],_,_,d,x,h=>by simp [bs] at h
 | (e,some y) :: r,l',h,d,x,hl=>by
  rw [be] at hl
  dsimp only at hl
  split at hl
  · rename_i he;subst he;simp only [Option.some.injEq] at hl;subst hl;exact h.1
  exact pn h.2 d x hl
 | (e,none) :: r,l',h,d,x,hl=>by
  rw [be] at hl
  dsimp only at hl
  split at hl
  · cases hl
  exact pn (l:=r) h d x hl
theorem t9:∀ {l l':List (Nat × Option af)},a0t l l' → ∀ d x,bs l d = some x → ∃ y,bs l' d = some y ∧ CoO y x
 | [],_,_,d,x,h=>by simp [bs] at h
 | (e,some y) :: r,l',h,d,x,hl=>by
  rw [be] at hl
  dsimp only at hl
  split at hl
  · rename_i he;subst he;simp only [Option.some.injEq] at hl;subst hl;exact h.1
  exact t9 h.2 d x hl
 | (e,none) :: r,l',h,d,x,hl=>by
  rw [be] at hl
  dsimp only at hl
  split at hl
  · cases hl
  exact t9 (l:=r) h d x hl
section
variable {ro:Option Nat} {P:Program} {E:Env} {nt:Nat} {st st':HSt} {Q Q':Exit → HSt → Prop} {w0:World} {m0:Old} {a:Act} {w:World}
theorem Rel.sub (hs:Sub st' st) (h:Rel w0 m0 nt st.den a w):Rel w0 m0 nt st'.den a w:=by
 obtain ⟨c,hold,h⟩:=h
 exact ⟨c,hold,h.relax _ (fun d x hx=>pn hs.1 d x hx) (fun d x hx=>t9 hs.2 d x hx)⟩
theorem aew {c:Code} (h:HW (ro:=ro) P nt c st Q) (hq:∀ e st,Q e st → Q' e st):HW (ro:=ro) P nt c st Q' :=
 fun w0 m0 a w hr=>wpIn_mono (h w0 m0 a w hr) fun e a w ⟨st',hQ,hr⟩=>⟨st',hq _ _ hQ,hr⟩
theorem abj {c:Code} (st':HSt) (hs:Sub st' st) (h:HW (ro:=ro) P nt c st' Q):HW (ro:=ro) P nt c st Q:=fun w0 m0 a w hr=>h w0 m0 a w (hr.sub hs)
theorem ew (h:Q .normal st):HW (ro:=ro) P nt .skip st Q:=fun _ _ _ _ hr=>wpIn_skip ⟨st,h,hr⟩
theorem cw {id:Nat} (h:Q (.exit id) st):HW (ro:=ro) P nt (.exit id) st Q:=fun _ _ _ _ hr=>wpIn_exit ⟨st,h,hr⟩
theorem ej (h:Q .ret st):HW (ro:=ro) P nt .ret st Q:=fun _ _ _ _ hr=>wpIn_ret ⟨st,h,hr⟩
def af4 {ro:Option Nat} (P:Program) (nt:Nat) (y:Code) (Q:Exit → HSt → Prop):Exit → HSt → Prop
 | .normal,st=>HW (ro:=ro) P nt y st Q
 | e,st=>Q e st
theorem i5 {x y:Code} (h:HW (ro:=ro) P nt x st (af4 (ro:=ro) P nt y Q)):HW (ro:=ro) P nt (.seq x y) st Q:=fun w0 m0 a w hr=>by
 refine wpIn_seq (wpIn_mono (h w0 m0 a w hr) fun e a' w' ⟨st',hQ,hr'⟩=>?_)
 cases e <;> simp only [Exit.then] <;> first | exact hQ w0 m0 a' w' hr' | exact ⟨st',hQ,hr'⟩
theorem a7 {c:Operand} {x y:Code} (b:Bool) (hc:ev st.den c = some (.v (.one (.p (.raw (.bool b)))))) (ht:b = true → HW (ro:=ro) P nt x st Q) (hf:b = false → HW (ro:=ro) P nt y st Q):HW (ro:=ro) P nt (.cond c x y) st Q:=fun w0 m0 a w hr=>by
 obtain ⟨cc,hold,hrr⟩:=hr
 obtain ⟨e1,_⟩:=ai hrr hc
 exact wpIn_cond_split e1 (fun hb=>ht hb w0 m0 a w ⟨cc,hold,hrr⟩) (fun hb=>hf hb w0 m0 a w ⟨cc,hold,hrr⟩)
def a9w (id:Nat) (Q:Exit → HSt → Prop):Exit → HSt → Prop
 | .exit id',st=>if id' = id then Q .normal st else Q (.exit id') st
 | e,st=>Q e st
theorem a0s {id:Nat} {c:Code} (h:HW (ro:=ro) P nt c st (a9w id Q)):HW (ro:=ro) P nt (.block id c) st Q:=fun w0 m0 a w hr=>by
 refine wpIn_block (wpIn_mono (h w0 m0 a w hr) fun e a' w' ⟨st',hQ,hr'⟩=>?_)
 cases e <;> simp only [Exit.inBlock] <;> try exact ⟨st',hQ,hr'⟩
 rename_i id'
 simp only [a9w] at hQ
 grind
theorem xh {F:Fence} {m:Nat} {c:Code} {QQ:Exit → Act → World → Prop} (I:Nat → Act → World → Prop) (n0:Nat) {a:Act} {w:World} (h₀:I n0 a w)
 (round:∀ n a w,I n a w → c.wpIn F m P (Exit.then (fun a' w'=>∃ m,m < n ∧ I m a' w') QQ) a w):(Code.loop c).wpIn F m P QQ a w:=by
 intro b k cs hro hb hr
 have key:∀ n a w,I n a w → ∃ e a' w',QQ e a' w' ∧ ArrivesIn (Machine.fenced P F) P (lone (b.atR a (.code c :: .inLoop c :: k)) cs w) b k cs e a' w':=by
  intro n
  induction n using Nat.strongRecOn with
  | _ n ih =>
   intro a w hI
   obtain ⟨e,a₁,w₁,hq,harr⟩:=round n a w hI b (.inLoop c :: k) cs hro hb hr
   cases e with
   | normal =>
    obtain ⟨m,hlt,hI₁⟩:=hq
    obtain ⟨e₂,a₂,w₂,hq₂,harr₂⟩:=ih m hlt a₁ w₁ hI₁
    exact ⟨e₂,a₂,w₂,hq₂, .of_steps (StepsIn.trans harr (.one (fenced_calm hb hr rfl) stepR_inLoop)) harr₂⟩
   | exit id=>exact ⟨_,a₁,w₁,hq, .pass (x:=.inLoop c) rfl (fun _ _=>.inl (by simp)) harr⟩
   | goto l=>exact ⟨_,a₁,w₁,hq, .pass (x:=.inLoop c) rfl (fun _ _=>.inl (by simp)) harr⟩
   | ret=>exact ⟨_,a₁,w₁,hq, .pass (x:=.inLoop c) rfl (fun _ _=>.inl (by simp)) harr⟩
   | panic ch=>exact ⟨_,a₁,w₁,hq, .pass (x:=.inLoop c) rfl (fun _ _=>.inl (by simp)) harr⟩
   | outgrown=>exact ⟨_,a₁,w₁,hq, .pass (x:=.inLoop c) rfl (fun _ _=>.inl (by simp)) harr⟩
 obtain ⟨e,a',w',hq,harr⟩:=key n0 a w h₀
 exact ⟨e,a',w',hq, .of_steps (.one (fenced_calm hb hr rfl) stepR_loop) harr⟩
def adr {ι:Type} (I:ι → HSt) (p:ι → Prop) (μ:ι → Nat) (i:ι) (Q:Exit → HSt → Prop):Exit → HSt → Prop
 | .normal,st=>∃ i',p i' ∧ μ i' < μ i ∧ Sub (I i') st
 | e,st=>Q e st
theorem aer {ι:Type} {body:Code} (I:ι → HSt) (p:ι → Prop) (μ:ι → Nat) (i0:ι) (h0:p i0) (hs:Sub (I i0) st) (round:∀ i,p i → HW (ro:=ro) P nt body (I i) (adr I p μ i Q)):HW (ro:=ro) P nt (.loop body) st Q:=fun w0 m0 a w hr=>by
 refine xh (fun n a w=>∃ i,p i ∧ μ i = n ∧ Rel w0 m0 nt (I i).den a w) (μ i0) ⟨i0,h0,rfl,hr.sub hs⟩ ?_
 rintro n a w ⟨i,hp,rfl,hr⟩
 refine wpIn_mono (round i hp w0 m0 a w hr) fun e a' w' ⟨st',hQ,hr'⟩=>?_
 cases e <;> simp only [Exit.then] <;> try exact ⟨st',hQ,hr'⟩
 obtain ⟨i',hp',hlt,hsub⟩:=hQ
 exact ⟨μ i',hlt,i',hp',rfl,hr'.sub hsub⟩
theorem a3t (hE:cr P E) {id:Nat} {ops:Array Oper} (h:Reg P E nt ops (List.range ops.size) st fun _ sf=>Q .normal sf):HW (ro:=ro) P nt (.region id ops false) st Q:=fun w0 m0 a w hr=>by
 obtain ⟨T,sf,hl,hT,h⟩:=h
 refine wpIn_region ?_
 rw [← hl]
 exact v7 hE (fun a' w' hr'=>⟨sf,h,hr'⟩) T _ a w hT hr
theorem ap (hE:cr P E) (hm:P.follows .mixedOrders = true) {id:Nat} {ops:Array Oper} (L:List Nat) (h:Reg P E nt ops L st fun T sf=>a50 ops T = true ∧ Q .normal sf):HW (ro:=ro) P nt (.region id ops true) st Q:=fun w0 m0 a w hr=>by
 obtain ⟨T,sf,hl,hT,hc,h⟩:=h
 exact a1f hE hm hT hc hr fun a' w' hr'=>⟨sf,h,hr'⟩
def tw (E:Env) (s:S):List ResultVar → Option (Prop × List HC)
 | []=>some (True,[])
 | .tmp t :: r =>
  match s.t t,tw E s r with
  | some (.v cc),some (p,l)=>some (p,cc :: l)
  | _,_=>none
 | .cell ad ty :: r =>
  match jn E s.o (ev s) ty (.tmp ad),tw E s r with
  | some ⟨p1, .v cc⟩,some (p,l)=>some (p1 ∧ p,cc :: l)
  | _,_=>none
def ly (o:aw):List HC → Option (Prop × List PC)
 | []=>some (True,[])
 | x :: r =>
  match t7 o x,ly o r with
  | some (p,y,_),some (q,ys)=>some (p ∧ q,y :: ys)
  | _,_=>none
def bu:List PC → PR
 | [x]=>.v x
 | l=>.tup l
def a96 (E:Env) (st:HSt) (rs:List ResultVar) (res:List PC):Prop :=
 ∃ p l q vs,tw E st.den rs = some (p,l) ∧ p ∧ ly st.den.o l = some (q,vs) ∧ q ∧ CoL vs res
theorem zg {t:TypeId} {u v:Value} (h:(Instr.loadAt t u).run P w = .ok v w):∃ ad,u = .pointer (some ad) ∧ (loadVar t ad).run P w = .ok v w:=by
 cases u <;> try (simp [Instr.loadAt,Instr.sureAddr] at h;done)
 rename_i ad
 cases ad with
 | none=>simp [Instr.loadAt,Instr.sureAddr] at h
 | some ad=>exact ⟨ad,rfl,by simpa [Instr.loadAt,Instr.sureAddr] using h⟩
theorem qh (hE:cr P E) {c:Ctx} {s:S} (h:ak w0 nt c s a w) (F:ResultVar → Sem Value) (F1:∀ t,F (.tmp t) = pure (a.tmps.getD t undef)) (F2:∀ ad t,F (.cell ad t) = do loadVar t (← asAddr (a.tmps.getD ad undef))) :
 ∀ {rs:List ResultVar} {p:Prop} {l:List HC},tw E s rs = some (p,l) → p → ∃ vs:List Value,(rs.mapM F).run P w = .ok vs w ∧ c6 c s.o l vs
 | [],p,l,hr,_=>by
  simp only [tw,Option.some.injEq,Prod.mk.injEq] at hr
  obtain ⟨_,rfl⟩:=hr
  exact ⟨[],by simp,trivial⟩
 | .tmp t :: r,p,l,hr,hp=>by
  simp only [tw] at hr
  split at hr <;> try (cases hr;done)
  rename_i cc p1 l1 ht hr1
  simp only [Option.some.injEq,Prod.mk.injEq] at hr
  obtain ⟨rfl,rfl⟩:=hr
  obtain ⟨vs,h1,h2⟩:=qh hE h F F1 F2 hr1 hp
  refine ⟨a.tmps.getD t undef :: vs, ?_,h.tmps t _ ht,h2⟩
  simp_all
 | .cell ad ty :: r,p,l,hr,hp=>by
  simp only [tw] at hr
  split at hr <;> try (cases hr;done)
  rename_i p1 cc p2 l2 hld hr1
  simp only [Option.some.injEq,Prod.mk.injEq] at hr
  obtain ⟨rfl,rfl⟩:=hr
  obtain ⟨v,hv,hvr⟩:=yh hE h hld hp.1
  obtain ⟨ad',he,hlv⟩:=zg hv
  have he':a.tmps.getD ad undef = .pointer (some ad'):=he
  obtain ⟨vs,h1,h2⟩:=qh hE h F F1 F2 hr1 hp.2
  refine ⟨v :: vs, ?_,hvr,h2⟩
  rw [List.mapM_cons,F2,he']
  simp only [asAddr,Sem.run_bind,Sem.run_pure,Result.andThen_ok,hlv,h1]
theorem l5 {c:Ctx} {s:S} (h:ak w0 nt c s a w) {m:Imm} (hm:sj w0 c w m):∀ {l:List HC} {us:List Value} {p:Prop} {vs:List PC},c6 c s.o l us → ly s.o l = some (p,vs) → p → ce m vs us
 | [],[],p,vs,_,hv,_=>by
  simp only [ly,Option.some.injEq,Prod.mk.injEq] at hv
  obtain ⟨_,rfl⟩:=hv
  trivial
 | x :: l,u :: us,p,vs,hr,hv,hp=>by
  simp only [ly] at hv
  split at hv <;> try (cases hv;done)
  rename_i p1 y b q ys h1 h2
  simp only [Option.some.injEq,Prod.mk.injEq] at hv
  obtain ⟨rfl,rfl⟩:=hv
  exact ⟨(zp h hm hr.1 h1 hp.1).1,l5 h hm hr.2 h2 hp.2⟩
 | [],_ :: _,_,_,hr,_,_=>hr.elim
 | _ :: _,[],_,_,hr,_,_=>hr.elim
theorem Rel.strike {P:Program} {nt:Nat} {st:S} {w0:World} {m0:Old} {fn:Func} {R:Ending → World → Prop}:∀ {l:List Deferred} {a:Act} {w:World},a.defers = l → Rel w0 m0 nt st a w →
 (∀ w',Rel w0 m0 nt st { a with defers:=[] } w' → ∃ v,(results fn a.tmps).run P w' = .ok v w' ∧ R (.returned v) w') → LeavesInM (rf none) 0 P fn a.tmps R l .returning w
 | [],a,w,hl,hr,h=>by
  obtain ⟨tm,ds⟩:=a
  simp only at hl
  subst hl
  obtain ⟨v,h1,h2⟩:=h w hr
  exact ⟨v,h1,h2⟩
 | d :: l,a,w,hl,hr,h=>by
  obtain ⟨tm,ds⟩:=a
  simp only at hl
  subst hl
  obtain ⟨c,hold,hrc⟩:=hr
  obtain ⟨hpw,hds⟩:=hrc.defers
  obtain ⟨D,rfl,h2,h3,h4,h5⟩:=hds d (by simp)
  refine ⟨by simp, .inl ⟨D,_,rfl,run_takeDeferred h2, ?_⟩⟩
  have hne:∀ b,b ≠ D → (w.putObj D (.deferred none)).heap[b]? = w.heap[b]?:=fun b hb=>by
   show (w.heap.setIfInBounds D _)[b]? = _
   grind
  refine Rel.strike (a:={ tmps:=tm,defers:=l }) (w:=w.putObj D (.deferred none)) rfl ⟨c,hold,⟨(List.pairwise_cons.1 hpw).2,fun d' hd'=>?_⟩,hrc.size, ?_,hrc.tmps,fun id ob ho=>?_,hrc.inj,fun b ob hb=>?_,hrc.sep,hrc.was,fun b ob hb=>?_,hrc.fsep,hrc.fixed⟩ h
  · obtain ⟨D',rfl,g2,g3⟩:=hds d' (by simp [hd'])
    refine ⟨D',rfl,(hne D' fun e=>(List.pairwise_cons.1 hpw).1 _ hd' (by rw [e])).trans g2,g3⟩
  · have hb:=hrc.below
    exact ⟨hb.os,hb.tape,hb.output,by show _ ≤ (w.heap.setIfInBounds D _).size;rw [Array.size_setIfInBounds];exact hb.size,fun k hk=>absurd hk (Nat.not_lt_zero k),hb.drawn⟩
  · refine (hrc.objs id ob ho).keep (Imm.le.refl _) rfl rfl (fun _ _=>Evo.refl _ _ _) fun b hb=>hne b fun e=>?_
    obtain ⟨x1,hc,hdt⟩:=(hrc.objs id ob ho).data hb
    rw [e,h2] at hc
    cases hc
    cases hdt
  · refine (hne b fun e=>?_).trans (hrc.imm b ob hb)
    grind
  refine (hne b fun e=>?_).trans (hrc.frm b ob hb)
  grind
def wh:Nat → List PC → List (Nat × Option HR)
 | _,[]=>[]
 | i,x :: r=>(i,some (.v x.toH)) :: wh (i + 1) r
theorem vo:∀ (l:List PC) (i d:Nat) (r:HR),bs (wh i l) d = some r → ∃ x,i ≤ d ∧ l[d - i]? = some x ∧ r = .v x.toH
 | [],i,d,r,h=>by simp [wh,bs] at h
 | x :: l,i,d,r,h=>by
  simp only [wh] at h
  rw [be] at h
  dsimp only at h
  split at h
  · grind
  rename_i hd
  obtain ⟨y,h1,h2,h3⟩:=vo l (i + 1) d r h
  grind
theorem av (hE:cr P E) {f:FuncId} {fn:Func} {body:Code} {args res:List PC} (hf:P.funcs[f]? = some fn) (hb:fn.body = some body) (hn:fn.ntmps = nt) (hl:args.length ≤ nt)
 (h:HW (ro:=none) P nt body ⟨wh 0 args,[]⟩ fun e st=>(e = .normal ∨ e = .ret) ∧ a96 E st fn.results.toList res):ay P f args (bu res):=by
 intro w imm us htab himm hargs
 refine (callsIn_wide (n:=0)).1 (callsIn_of_wp_marks hf hb trivial ?_ rfl)
 have hul:=hargs.length
 let a0:Act:={ tmps:=us.toArray ++ Array.replicate (fn.ntmps - us.toArray.size) undef,defers:=[] }
 have hrel:Rel w (imm,fq w,(fun _=>undef),(fun _=>none),fun _ _=>undef) nt (HSt.den ⟨wh 0 args,[]⟩) a0 w:=by
  refine ⟨{ old:=(imm,fq w,(fun _=>undef),(fun _=>none),fun _ _=>undef),imm:=imm,tab:=htab,own:=fun _=>undef,blk:=fun _=>noB,rows:=fun _ _=>undef },rfl,lh.nil _ _ _ _, ?_,Below.refl _ _,fun d x hx=>?_,fun id ob ho=>?_,fun i i' ob ob' b ho=>?_,himm,fun id ob b ho=>?_,fun b _=>rfl,fun b ob hb=>hb,fun id ob b ho=>?_,fun id _=>.inl rfl⟩
  · grind
  · obtain ⟨y,_,hy,rfl⟩:=vo args 0 d x hx
    simp only [Nat.sub_zero] at hy
    obtain ⟨u,hu,hr⟩:=hargs.get d y hy
    have hd:d < us.length:=(List.getElem?_eq_some_iff.1 hu).1
    have:a0.tmps.getD d undef = u:=by
     have e1:a0.tmps[d]? = some u:=by
      grind
     simp_all
    rw [this]
    exact dq.of_P hr
  · simp [HSt.den,bs] at ho
  · simp [HSt.den,bs] at ho
  · simp [HSt.den,bs] at ho
  simp [HSt.den,bs] at ho
 refine wpIn_mono (h w (imm,fq w,(fun _=>undef),(fun _=>none),fun _ _=>undef) a0 w hrel) fun e a' w1 ⟨st',⟨hex,hres⟩,hr1⟩=>?_
 suffices key:LeavesInM (rf none) 0 P fn a'.tmps _ a'.defers .returning w1 by
  rcases hex with rfl | rfl <;> exact key
 refine Rel.strike rfl hr1 fun w' hr'=>?_
 obtain ⟨c,hold,hrc⟩:=hr'
 obtain ⟨p,l,q,vs,h1,h2,h3,h4,h5⟩:=hres
 have hfrm:∀ b,b < w.heap.size → c.frm b ≠ none ∧ w'.heap[b]? = w.heap[b]?:=fun b hb=>by
  have e1:c.frm b = some w.heap[b]:=by
   show c.old.2.1 b = _
   rw [hold]
   exact Array.getElem?_eq_getElem hb
  refine ⟨by rw [e1];simp, ?_⟩
  rw [hrc.frm b _ e1,Array.getElem?_eq_getElem hb]
 have hwas:∀ b,b < w.heap.size → c.imm b = imm b:=fun b hb=>by
  rw [hrc.was b (hfrm b hb).1,hold]
 have hseen:sj w c w' (fun b=>if b < w.heap.size then imm b else w'.heap[b]?):=by
  refine ⟨fun b ob hbo=>?_,fun b hb _=>?_⟩
  · by_cases hlt:b < w.heap.size
    · grind
    simp only [hlt,if_false]
    exact hrc.imm b ob hbo
  grind
 have hrv:∃ v,(results fn a'.tmps).run P w' = .ok v w' ∧ kn (fun b=>if b < w.heap.size then imm b else w'.heap[b]?) (bu res) v:=by
  let F:ResultVar → Sem Value:=fun | .tmp t=>pure (a'.tmps.getD t undef) | .cell ad t=>do loadVar t (← asAddr (a'.tmps.getD ad undef))
  obtain ⟨uvs,hrun,hrep⟩:=qh hE hrc F (fun _=>rfl) (fun _ _=>rfl) h1 h2
  have hF:results fn a'.tmps = (do let vs ← fn.results.mapM F;pure (if h:vs.size = 1 then vs[0] else .tuple vs)):=rfl
  rw [hF,Array.mapM_eq_mapM_toList,Sem.run_bind,Sem.run_map]
  have hview:=CoL.sound h5 (l5 hrc hseen hrep h3 h4)
  rw [hrun]
  simp only [Result.andThen_ok,Sem.run_pure]
  refine ⟨_,rfl, ?_⟩
  match res,uvs,hview with
  | [x],[u],hv=>simp only [bu,kn];simpa using hv.1
  | [],[],hv=>exact ⟨[],by simp,trivial⟩
  | x :: y :: r,u :: v :: t,hv=>exact ⟨u :: v :: t,by simp,hv⟩
  | [],_ :: _,hv=>exact hv.elim
  | [_],[],hv=>exact hv.elim
  | [_],_ :: _ :: _,hv=>exact hv.2.elim
  | _ :: _ :: _,[],hv=>exact hv.elim
  | _ :: _ :: _,[_],hv=>exact hv.2.elim
 obtain ⟨v,hv1,hv2⟩:=hrv
 have hfin:(∃ v_1 imm',Ending.returned v = Ending.returned v_1 ∧ kn imm' (bu res) v_1 ∧ (∀ b,b < w.heap.size → imm' b = imm b) ∧ (∀ b ob,imm' b = some ob → w'.heap[b]? = some ob) ∧ Below w.heap.size w w'):=by
  refine ⟨v,_,rfl,hv2,fun b hb=>by simp [hb],fun b ob hbo=>?_,⟨hrc.below.os,hrc.below.tape,hrc.below.output,hrc.below.size,fun k hk=>(hfrm k hk).2,hrc.below.drawn⟩⟩
  grind
 grind
end
end
section
open Go.RowKit
section
variable {ro:Option Nat} {P:Program} {nt:Nat} {st:HSt} {Q:Exit → HSt → Prop}
theorem re (st:HSt) (id:Nat):(HSt.den ⟨st.t,(id,none) :: st.o⟩) = st.den.setO id none:=by
 unfold HSt.den S.setO
 simp [be]
theorem a67 {c:Code} (st1:HSt) (d:Nat) (x:HR) (hs:∀ w0 m0 a w,Rel w0 m0 nt st.den a w → ∃ cc,cc.old = m0 ∧ ak w0 nt cc st1.den a w ∧ ax cc st1.den.o x (a.tmps.getD d undef))
 (h:HW (ro:=ro) P nt c ⟨(d,some x) :: st1.t,st1.o⟩ Q):HW (ro:=ro) P nt c st Q:=fun w0 m0 a w hr=>by
 obtain ⟨cc,hold,hrr,hx⟩:=hs w0 m0 a w hr
 refine h w0 m0 a w ⟨cc,hold,hrr.defers,hrr.size,hrr.below,fun k y hy=>?_,hrr.objs,hrr.inj,hrr.imm,hrr.sep,hrr.was,hrr.frm,hrr.fsep,hrr.fixed⟩
 simp only [HSt.den] at hy
 rw [be] at hy
 dsimp only at hy
 split at hy
 · rename_i hk
   subst hk
   simp only [Option.some.injEq] at hy
   subst hy
   exact hx
 exact hrr.tmps k y hy
theorem a9o {c:Code} (d:Nat) {id n n' s:Nat} {wr:Bool} {e:TypeId} {f:Nat → Nat → PV} (hd:bs st.t d = some (.v (.one (.ref id n)))) (ho:bs st.o id = some (.arr wr s e n' f)) (hn:n' = n)
 (h:HW (ro:=ro) P nt c ⟨(d,some (cf (.sl n s false f))) :: st.t,(id,none) :: st.o⟩ Q):HW (ro:=ro) P nt c st Q:=by
 subst hn
 refine a67 ⟨st.t,(id,none) :: st.o⟩ d (cf (.sl n' s false f)) (fun w0 m0 a w hr=>?_) h
 obtain ⟨cc,hold,hrr⟩:=hr
 refine ⟨_, ?_,by rw [re];exact hrr.freeze ho, ?_⟩
 · exact hold
 obtain ⟨_,_,h3⟩:=hrr.tmps d _ hd
 have:=(h3 _ _ _ _ ho rfl).2 rfl
 rw [this]
 exact ns hrr ho
theorem qa {c:Code} (d:Nat) {id:Nat} {l:List HV} {ps:List PV} (hd:bs st.t d = some (.v (.one (.ptr id 0)))) (ho:bs st.o id = some (.box l)) (hp:j7 l = some ps)
 (h:HW (ro:=ro) P nt c ⟨(d,some (cf (.vp ps.length fun j=>ps.getD j .any))) :: st.t,(id,none) :: st.o⟩ Q):HW (ro:=ro) P nt c st Q:=by
 refine a67 ⟨st.t,(id,none) :: st.o⟩ d _ (fun w0 m0 a w hr=>?_) h
 obtain ⟨cc,hold,hrr⟩:=hr
 refine ⟨_, ?_,by rw [re];exact hrr.freeze ho, ?_⟩
 · exact hold
 obtain ⟨_,_,h3⟩:=hrr.tmps d _ hd
 obtain ⟨b,hb,hu⟩:=h3 l ho
 rw [hu,← hb]
 exact a8v hrr ho hp
theorem f4 {c:Code} (bx off:Nat) {id n n' s:Nat} {wr:Bool} {e:TypeId} {f:Nat → Nat → PV} {l:List HV} (hb:bs st.o bx = some (.box l)) (hl:l[off]? = some (.ref id n)) (ho:bs st.o id = some (.arr wr s e n' f)) (hn:n' = n) (hne:Nat.beq bx id = false)
 (h:HW (ro:=ro) P nt c ⟨st.t,(bx,some (.box (bp l off [.p (.sl n s false f)]))) :: (id,none) :: st.o⟩ Q):HW (ro:=ro) P nt c st Q:=fun w0 m0 a w hr=>by
 subst hn
 obtain ⟨cc,hold,hrr⟩:=hr
 have hbi:bx ≠ id:=by rintro rfl;simp at hne
 have hfr:=hrr.freeze (id:=id) ho
 rw [← re] at hfr
 have hb':(HSt.den ⟨st.t,(id,none) :: st.o⟩).o bx = some (.box l):=by
  simp only [HSt.den,be,hbi,if_false];exact hb
 refine h w0 m0 a w ?_
 have hw:=hfr.write bx (.box l) hb' (.box (bp l off [.p (.sl n' s false f)])) w (cc.own bx) (cc.blk bx) none (Grw.refl w _) (fun _ e=>by cases e) (.inr (.inl ⟨l,bp l off [.p (.sl n' s false f)],hb',by simp [S.setO],by simp⟩)) (fun b hb=>.inl hb) (by
  obtain ⟨b,C,ee,q1,q2,q3,q4,q5⟩:=hfr.objs bx _ hb'
  refine ⟨b,C,ee,by simpa using q1,by simpa using q2,q3,q4, ?_⟩
  have hoff:off < l.length:=(List.getElem?_eq_some_iff.1 hl).1
  have hcl:=q5.length
  refine bh.of_get ?_ fun k x u hx hu=>?_
  · simp only [bp,List.length_append,List.length_take,List.length_drop,List.length_singleton];omega
  have hx':=hx
  unfold bp at hx'
  rw [cu l [HV.p (.sl n' s false f)] off k (by simp;omega)] at hx'
  by_cases hk:k = off
  · subst hk
    simp at hx'
    subst hx'
    obtain ⟨b0,C0,e0,p1,p2,p3,p4,p5⟩:=hrr.objs bx _ hb
    have hbb:b0 = b:=by
     have q2':cc.blk bx = tv b:=q2
     have q3':tv b b0:=by rw [← q2',p2];rfl
     exact q3'
    subst hbb
    have hCC:C0 = C:=by
     rw [q4] at p4
     simp only [Option.some.injEq,Obj.cells.injEq] at p4
     exact p4.1.symm
    subst hCC
    obtain ⟨u',hu',hr'⟩:=p5.get k _ hl
    rw [hu] at hu'
    simp only [Option.some.injEq] at hu'
    subst hu'
    obtain ⟨_,_,h3⟩:=hr'
    have:=(h3 _ _ _ _ ho rfl).2 rfl
    rw [this]
    exact ns hrr ho
  rw [if_neg (by simp;omega)] at hx'
  obtain ⟨u',hu',hr'⟩:=q5.get k x hx'
  rw [hu] at hu'
  simp only [Option.some.injEq] at hu'
  subst hu'
  refine bq.evo ?_ (fun j _=>?_) hr'
  · exact Imm.le.refl (frozenImm cc w id)
  by_cases hj:j = bx
  · subst hj;exact .inr (.inl ⟨l,bp l off [.p (.sl n' s false f)],hb',by simp [S.setO],by simp⟩)
  exact Evo.of_same (by simp [S.setO,hj]) (by simp [hj]))
 have e:HSt.den ⟨st.t,(bx,some (.box (bp l off [.p (.sl n' s false f)]))) :: (id,none) :: st.o⟩ = (HSt.den ⟨st.t,(id,none) :: st.o⟩).setO bx (some (.box (bp l off [.p (.sl n' s false f)]))):=by
  unfold HSt.den S.setO
  simp only [S.mk.injEq,true_and]
  funext k
  simp only [be]
 rw [e]
 exact ⟨_,(by exact hold),hw⟩
theorem a19 {c:Code} (x:Nat) {id s s2 n n2:Nat} {e e2:TypeId} {ob:af} {y:PV} {ms:List Nat} {g:Nat → Nat → HV} (g':Nat → Nat → PV) (hb:bs st.o x = some (.arrh s2 e2 n2 ms g)) (ho:bs st.o id = some ob) (hdim:ob.dim = some (s,e,n))
 (hfz:∀ {w0:World} {nt:Nat} {c:Ctx} {s:S} {a:Act} {w:World},ak w0 nt c s a w → s.o id = some ob → bc (frozenImm c w id) y (c.own id)) (hne:Nat.beq x id = false)
 (hg:∀ i j,i < n2 → j < s2 → (∃ k,g i j = .ref id k ∧ k = n ∧ CoP y (g' i j)) ∨ CoH (g i j) (.p (g' i j)))
 (h:HW (ro:=ro) P nt c ⟨st.t,(x,some (.arr true s2 e2 n2 g')) :: (id,none) :: st.o⟩ Q):HW (ro:=ro) P nt c st Q:=fun w0 m0 a w hr=>by
 obtain ⟨cc,hold,hrr⟩:=hr
 have hbi:x ≠ id:=by rintro rfl;simp at hne
 have hfr:=hrr.freeze (id:=id) ho
 rw [← re] at hfr
 have hb':(HSt.den ⟨st.t,(id,none) :: st.o⟩).o x = some (.arrh s2 e2 n2 ms g):=by
  simp only [HSt.den,be,hbi,if_false];exact hb
 refine h w0 m0 a w ?_
 have hevo:Evo { old:=cc.old,imm:=frozenImm cc w id,tab:=nu hrr ho,own:=cc.own,blk:=cc.blk,rows:=cc.rows } (HSt.den ⟨st.t,(id,none) :: st.o⟩).o { old:=cc.old,imm:=frozenImm cc w id,tab:=nu hrr ho,own:=fun k=>if k = x then cc.own x else cc.own k,blk:=fun k=>if k = x then cc.blk x else cc.blk k,rows:=cc.rows } ((HSt.den ⟨st.t,(id,none) :: st.o⟩).setO x (some (.arr true s2 e2 n2 g'))).o x :=
  .inr (.inr ⟨_, .arr true s2 e2 n2 g',s2,e2,n2,n2,hb',rfl,by simp [S.setO],rfl,Nat.le_refl _,fun _=>by simp,fun _ _ _ _ _ _ _ hb=>by cases hb⟩)
 have hw:=hfr.write x _ hb' (.arr true s2 e2 n2 g') w (cc.own x) (cc.blk x) none (Grw.refl w _) (fun _ e=>by cases e) hevo (fun b hb=>.inl hb) (by
  obtain ⟨q0,q1,qm,q2⟩:=hrr.objs x _ hb
  refine ⟨q0,q1, ?_⟩
  rcases q2 with ⟨q3,xs,q4,q5⟩ | ⟨rfl,q3,q4⟩
  · refine .inl ⟨by simpa using q3,xs,by simpa using q4,fun i j hi hj=>?_⟩
    obtain ⟨v,hv,hrv⟩:=q5 i j hi hj
    refine ⟨v,hv, ?_⟩
    show bc (frozenImm cc w id) (g' i j) v
    rcases hg i j hi hj with ⟨k,hk,rfl,hco⟩ | hco
    · rw [hk] at hrv
      obtain ⟨_,_,h3⟩:=hrv
      rw [(h3 _ _ _ _ ho hdim).2 rfl]
      exact hco _ _ (hfz hrr ho)
    exact bc.mono (tk hrr ho) (bq.co hco hrv)
  refine .inr ⟨.inr rfl,by simpa using q3, ?_⟩
  have:=bc.mono (tk hrr ho) q4
  simpa using CoP.sl rfl (.inl rfl) (fun h=>h) (fun i j hi _=>by omega) _ _ this)
 have e:HSt.den ⟨st.t,(x,some (.arr true s2 e2 n2 g')) :: (id,none) :: st.o⟩ = (HSt.den ⟨st.t,(id,none) :: st.o⟩).setO x (some (.arr true s2 e2 n2 g')):=by
  unfold HSt.den S.setO
  simp only [S.mk.injEq,true_and]
  funext k
  simp only [be]
 rw [e]
 exact ⟨_,(by exact hold),hw⟩
theorem un {c:Code} (x:Nat) {id s s2 n n2:Nat} {wr:Bool} {e e2:TypeId} {f:Nat → Nat → PV} {ms:List Nat} {g:Nat → Nat → HV} (g':Nat → Nat → PV) (hb:bs st.o x = some (.arrh s2 e2 n2 ms g)) (ho:bs st.o id = some (.arr wr s e n f)) (hne:Nat.beq x id = false)
 (hg:∀ i j,i < n2 → j < s2 → (∃ k,g i j = .ref id k ∧ k = n ∧ CoP (.sl n s false f) (g' i j)) ∨ CoH (g i j) (.p (g' i j)))
 (h:HW (ro:=ro) P nt c ⟨st.t,(x,some (.arr true s2 e2 n2 g')) :: (id,none) :: st.o⟩ Q):HW (ro:=ro) P nt c st Q:=a19 x g' hb ho rfl (fun hr ho=>ns hr ho) hne hg h
end
end
section
open Go.RowKit
def o6 (l:List Nat) (k:Nat):Bool:=l.any (Nat.beq k)
theorem gq {l:List Nat} {k:Nat}:o6 l k = true ↔ k ∈ l:=by
 unfold o6
 rw [List.any_eq_true]
 constructor
 · rintro ⟨x,hx,hb⟩
   rw [Nat.eq_of_beq_eq_true hb]
   exact hx
 exact fun h=>⟨k,h,by simp⟩
def a0z (W:List Nat) (id:Nat):List (Nat × Option af) → Bool
 | []=>true
 | (e,some x) :: r=>(o6 W e || a1r id x.ids) && a0z W id r
 | (_,none) :: r=>a0z W id r
theorem x8 {W:List Nat} {id:Nat}:∀ {l:List (Nat × Option af)},a0z W id l = true → ∀ d x,d ∉ W → bs l d = some x → ¬ x.men id
 | [],_,d,x,_,h=>by simp [bs] at h
 | (e,some y) :: r,h,d,x,hd,hl=>by
  simp only [a0z,Bool.and_eq_true,Bool.or_eq_true] at h
  rw [be] at hl
  dsimp only at hl
  split at hl
  · rename_i he
    subst he
    simp only [Option.some.injEq] at hl
    subst hl
    rcases h.1 with h1 | h1
    · exact absurd (gq.1 h1) hd
    exact fun hm=>vm h1 (af.men_ids hm)
  exact x8 h.2 d x hd hl
 | (e,none) :: r,h,d,x,hd,hl=>by
  rw [be] at hl
  dsimp only at hl
  split at hl
  · cases hl
  exact x8 (l:=r) (by simpa [a0z] using h) d x hd hl
def isNone (x:Option af):Bool:=match x with | none=>true | some _=>false
def fcB (o1 o2:List (Nat × af)) (res:HR) (fx:List Nat) (st:HSt):Bool :=
 ((d7 o2).all fun id=>(o6 fx id && o6 (d7 o1) id) || (Nat.blt id 1000 && nmT id st.t && a0z (d7 o1 ++ d7 o2) id st.o && (o6 (d7 o1) id || isNone (bs st.o id)))) &&
 ((a30 o2).all (o6 (d7 o2)) && res.ids.all (o6 (d7 o2)))
def a5u:List (Nat × af) → aw → Prop
 | [],_=>True
 | (id,ob) :: r,o=>(∃ ob',o id = some ob' ∧ CoO ob' ob) ∧ a5u r o
theorem th {o:aw}:∀ {l:List (Nat × af)},a5u l o → ∀ id ob,lk l id = some ob → ∃ ob',o id = some ob' ∧ CoO ob' ob
 | (e,x) :: l,h,id,ob,hl=>by
  simp only [lk] at hl
  by_cases hk:e = id
  · subst hk
    simp only [Nat.beq_refl,cond_true,Option.some.injEq] at hl
    subst hl
    exact h.1
  have:Nat.beq e id = false:=by
   rw [Bool.eq_false_iff]
   exact fun hb=>hk (Nat.eq_of_beq_eq_true hb)
  rw [this] at hl
  exact th h.2 id ob (by simpa using hl)
section
variable {P:Program} {E:Env} {nt:Nat} {ops:Array Oper} {i:Nat} {o:Oper} {st:HSt} {L:List Nat} {K:List Tr → HSt → Prop}
def adb (o1 o2:List (Nat × af)) (fx:List Nat):List Nat:=(d7 o2).filter fun id=>!(o6 fx id && o6 (d7 o1) id)
theorem al {cl:Call} {f:FuncId} {caps:List HC} {args hcs:List HC} {o1 o2:List (Nat × af)} {res:HR} {fx:List Nat} {gb:Bool} (hi:ops[i]? = some o) (hw:bj ops st.den o = some gb) (hd:dk nt o.dst = true) (ho:o.op = .call cl)
 (hc:qu (ev st.den) cl = some (f,caps)) (hv:o0 (ev st.den) cl.args.toList = some hcs) (hf:am P f) (hfun:br P f args o1 res o2 fx) (hco:bg (hcs ++ caps) args) (hsub:a5u o1 st.den.o) (hB:fcB o1 o2 res fx st = true) (hg:gb = true)
 (hT:Reg P E nt ops L (st.after o.dst (some res) (tu o1 o2)) fun T sf=>K (⟨i,⟨0,false,true, .tup [],d7 o1 ++ d7 o2,adb o1 o2 fx,res.ids ++ a30 o2⟩,dl st.den o,cq st.den o.dst (tu o1 o2),none⟩ :: T) sf):Reg P E nt ops (i :: L) st K:=by
 obtain ⟨T,sf,h1,h2,h3⟩:=hT
 simp only [fcB,Bool.and_eq_true,List.all_eq_true] at hB
 obtain ⟨b1,b2,b3⟩:=hB
 have key:∀ id ∈ d7 o2,id ∉ fx ∨ id ∉ d7 o1 → id < 1000 ∧ nmT id st.t = true ∧ a0z (d7 o1 ++ d7 o2) id st.o = true ∧ (id ∈ d7 o1 ∨ bs st.o id = none):=by
  intro id hid hor
  have:=b1 id hid
  simp only [Bool.or_eq_true,Bool.and_eq_true] at this
  rcases this with ⟨q1,q2⟩ | ⟨⟨⟨q1,q2⟩,q3⟩,q4⟩
  · rcases hor with e | e
    · exact absurd (gq.1 q1) e
    exact absurd (gq.1 q2) e
  refine ⟨by simpa [Nat.blt_eq] using q1,q2,q3, ?_⟩
  rcases q4 with q4 | q4
  · exact .inl (gq.1 q4)
  refine .inr ?_
  cases hl:bs st.o id with
  | none=>rfl
  | some x=>rw [hl] at q4;cases q4
 refine ⟨_,sf,by rw [← h1];rfl, .cons hi (.fcall cl f caps args hcs o1 o2 res fx (by rw [hw,hg]) hd ho hc hf hv hco hfun (th hsub) (fun id h2 h1=>?_) (fun id h2 h1=>?_) (fun id ob hid k hk=>?_) (fun k hk=>?_) rfl (fun id h2 h1=>?_) rfl) rfl (fun _ hk=>hk) (by intro _ hf;cases hf) (by rw [j6] at h2;exact h2),h3⟩
 · rcases (key id h2 (.inr h1)).2.2.2 with e | e
   · exact absurd e h1
   exact e
 · obtain ⟨q1,q2,q3,_⟩:=key id h2 h1
   exact ⟨sy q2,fun d x hd hx=>x8 q3 d x hd hx,q1⟩
 · have hmem:∀ {l:List (Nat × af)},lk l id = some ob → (id,ob) ∈ l:=by
    intro l
    induction l with
    | nil=>intro h;cases h
    | cons p l ih =>
     obtain ⟨e,x⟩:=p
     intro h
     simp only [lk] at h
     cases hb:Nat.beq e id with
     | true =>
      rw [hb] at h
      simp only [cond_true,Option.some.injEq] at h
      rw [← Nat.eq_of_beq_eq_true hb,h]
      exact List.mem_cons_self
     | false =>
      rw [hb] at h
      exact List.mem_cons_of_mem _ (ih (by simpa using h))
   exact gq.1 (b2 k (vi (hmem hid) (af.men_ids hk)))
 · exact gq.1 (b3 k (HR.men_ids hk))
 refine List.mem_filter.2 ⟨h2, ?_⟩
 simp only [Bool.not_eq_true',Bool.and_eq_false_iff]
 rcases h1 with e | e
 · exact .inl (by rw [Bool.eq_false_iff];exact fun hb=>e (gq.1 hb))
 exact .inr (by rw [Bool.eq_false_iff];exact fun hb=>e (gq.1 hb))
end
def wj:Nat → List HC → List (Nat × Option HR)
 | _,[]=>[]
 | i,x :: r=>(i,some (.v x)) :: wj (i + 1) r
theorem a20:∀ (l:List HC) (i d:Nat) (r:HR),bs (wj i l) d = some r → ∃ x,i ≤ d ∧ l[d - i]? = some x ∧ r = .v x
 | [],i,d,r,h=>by simp [wj,bs] at h
 | x :: l,i,d,r,h=>by
  simp only [wj] at h
  rw [be] at h
  dsimp only at h
  split at h
  · rename_i hd
    subst hd
    simp only [Option.some.injEq] at h
    exact ⟨x,Nat.le_refl _,by simp,h.symm⟩
  rename_i hd
  obtain ⟨y,h1,h2,h3⟩:=a20 l (i + 1) d r h
  refine ⟨y,by omega, ?_,h3⟩
  rw [show d - i = (d - (i + 1)) + 1 by omega]
  simpa using h2
def j9 (l:List (Nat × af)):List (Nat × Option af):=l.map fun p=>(p.1,some p.2)
theorem qi:∀ (l:List (Nat × af)),bs (j9 l) = lk l
 | []=>rfl
 | (e,x) :: r=>by
  funext k
  have:=congrFun (qi r) k
  unfold j9 at this ⊢
  simp only [List.map_cons,bs,lk]
  rw [this]
def a94:List HC → HR
 | [x]=>.v x
 | l=>.tup l
def ahs (E:Env) (st:HSt) (rs:List ResultVar) (res:HR) (o2:List (Nat × af)):Prop :=
 ∃ p l,tw E st.den rs = some (p,l) ∧ p ∧ CoR (a94 l) res ∧ a5u o2 st.den.o
section
variable {P:Program} {E:Env} {nt:Nat}
theorem c8 (hE:cr P E) {f:FuncId} {fn:Func} {body:Code} {args:List HC} {o1 o2:List (Nat × af)} {res:HR} {fx:List Nat} (hf:P.funcs[f]? = some fn) (hb:fn.body = some body) (hn:fn.ntmps = nt) (hl:args.length ≤ nt)
 (hfx:fx.all (Nat.ble 1000) = true) (h:HW (ro:=none) P nt body ⟨wj 0 args,j9 o1⟩ fun e st=>(e = .normal ∨ e = .ret) ∧ ahs E st fn.results.toList res o2):br P f args o1 res o2 fx:=by
 classical
 intro w c us hm hargs
 refine (callsIn_wide (n:=0)).1 (callsIn_of_wp_marks hf hb trivial ?_ rfl)
 have hul:us.length = args.length:=by
  have:∀ {xs:List HC} {us:List Value},c6 c (lk o1) xs us → us.length = xs.length:=by
   intro xs
   induction xs with
   | nil=>intro us hh;cases us with | nil=>rfl | cons=>exact hh.elim
   | cons x xs ih=>intro us hh;cases us with | nil=>exact hh.elim | cons u us=>simp [ih hh.2]
  exact this hargs
 let a0:Act:={ tmps:=us.toArray ++ Array.replicate (fn.ntmps - us.toArray.size) undef,defers:=[] }
 let frm:Imm:=fun b=>if (∃ id ob,lk o1 id = some ob ∧ c.blk id b) then none else w.heap[b]?
 let old:Old:=(c.imm,frm,c.own,lk o1,c.rows)
 have hden:(HSt.den ⟨wj 0 args,j9 o1⟩).o = lk o1:=qi o1
 have hrel:Rel w old nt (HSt.den ⟨wj 0 args,j9 o1⟩) a0 w:=by
  refine ⟨{ old:=old,imm:=c.imm,tab:=c.tab,own:=c.own,blk:=c.blk,rows:=c.rows },rfl,lh.nil _ _ _ _, ?_,Below.refl _ _,fun d x hx=>?_,fun id ob ho=>?_,fun i i' ob ob' b ho ho'=>?_,hm.imm,fun id ob b ho=>?_,fun b _=>rfl,fun b ob hbo=>?_,fun id ob b ho hbb=>?_,fun id _=>?_⟩
  · simp only [a0,Array.size_append,Array.size_replicate,List.size_toArray,hn];omega
  · obtain ⟨y,_,hy,rfl⟩:=a20 args 0 d x hx
    simp only [Nat.sub_zero] at hy
    obtain ⟨u,hu,hr⟩:=hargs.get d y hy
    have hd:d < us.length:=(List.getElem?_eq_some_iff.1 hu).1
    have:a0.tmps.getD d undef = u:=by
     have e1:a0.tmps[d]? = some u:=by
      simp only [a0]
      rw [Array.getElem?_append_left (by simpa using hd)]
      simpa using hu
     rw [Array.getD_eq_getD_getElem?,e1]
     rfl
    rw [this,hden]
    exact dq.evo (c:=c) (o:=lk o1) (Imm.le.refl c.imm) (fun _ _=>Evo.of_same rfl rfl) hr
  · rw [hden] at ho ⊢
    exact (hm.objs id ob ho).keep (Imm.le.refl c.imm) rfl rfl (fun _ _=>Evo.of_same rfl rfl) fun _ _=>rfl
  · rw [hden] at ho ho'
    exact hm.inj i i' ob ob' b ho ho'
  · rw [hden] at ho
    exact hm.sep id ob b ho
  · have hbo:frm b = some ob:=hbo
    simp only [frm] at hbo
    split at hbo
    · cases hbo
    exact hbo
  · rw [hden] at ho
    show frm b = none
    simp only [frm]
    rw [if_pos ⟨id,ob,ho,hbb⟩]
  rw [hden]
  exact Evo.of_same rfl rfl
 refine wpIn_mono (h w old a0 w hrel) fun e a' w1 ⟨st',⟨hex,hres⟩,hr1⟩=>?_
 suffices key:LeavesInM (rf none) 0 P fn a'.tmps _ a'.defers .returning w1 by
  rcases hex with rfl | rfl <;> exact key
 refine Rel.strike rfl hr1 fun w' hr'=>?_
 obtain ⟨c',hold,hrc⟩:=hr'
 obtain ⟨p,l,h1,h2,h3,h4⟩:=hres
 have hsub:=th h4
 have hrc2:=hrc.relax ⟨fun _=>none,lk o2⟩ (fun d x hx=>by cases hx) hsub
 have hnf:∀ b,b < w.heap.size → (∀ id ob,lk o1 id = some ob → ¬ c.blk id b) → c'.frm b = some w.heap[b]! ∧ w.heap[b]? = some w.heap[b]!:=fun b hb hno=>by
  have e2:w.heap[b]? = some w.heap[b]!:=by simp [hb]
  refine ⟨?_,e2⟩
  show c'.old.2.1 b = _
  rw [hold]
  show frm b = _
  simp only [frm]
  rw [if_neg (fun ⟨id,ob,q1,q2⟩=>hno id ob q1 q2)]
  exact e2
 have hrv:∃ v,(results fn a'.tmps).run P w' = .ok v w' ∧ ax c' (lk o2) res v:=by
  let F:ResultVar → Sem Value:=fun | .tmp t=>pure (a'.tmps.getD t undef) | .cell ad t=>do loadVar t (← asAddr (a'.tmps.getD ad undef))
  obtain ⟨uvs,hrun,hrep⟩:=qh hE hrc F (fun _=>rfl) (fun _ _=>rfl) h1 h2
  have hF:results fn a'.tmps = (do let vs ← fn.results.mapM F;pure (if h:vs.size = 1 then vs[0] else .tuple vs)):=rfl
  rw [hF,Array.mapM_eq_mapM_toList,Sem.run_bind,Sem.run_map]
  have hview:c6 c' (lk o2) l uvs:=c6.evo (Imm.le.refl c'.imm) (fun k _=>x9 hsub k) hrep
  rw [hrun]
  simp only [Result.andThen_ok,Sem.run_pure]
  refine ⟨_,rfl,ax.co h3 ?_⟩
  match l,uvs,hview with
  | [x],[u],hv=>simp only [a94,ax];simpa using hv.1
  | [],[],hv=>exact ⟨[],by simp,trivial⟩
  | x :: y :: r,u :: v :: t,hv=>exact ⟨u :: v :: t,by simp,hv⟩
  | [],_ :: _,hv=>exact hv.elim
  | [_],[],hv=>exact hv.elim
  | [_],_ :: _ :: _,hv=>exact hv.2.elim
  | _ :: _ :: _,[],hv=>exact hv.elim
  | _ :: _ :: _,[_],hv=>exact hv.2.elim
 obtain ⟨v,hv1,hv2⟩:=hrv
 have hfin:(∃ v_1 c'_1,Ending.returned v = Ending.returned v_1 ∧ ax c'_1 (lk o2) res v_1 ∧ Mem c'_1 (lk o2) w' ∧ Below 0 w w' ∧
  (∀ b,b < w.heap.size → (∀ id ob,lk o1 id = some ob → ¬ c.blk id b) → w'.heap[b]? = w.heap[b]? ∧ c'_1.imm b = c.imm b) ∧
  (∀ id ob b,lk o2 id = some ob → c'_1.blk id b → w.heap.size ≤ b ∨ ∃ id0 ob0,lk o1 id0 = some ob0 ∧ c.blk id0 b) ∧
  (∀ id ∈ fx,Evo c (lk o1) c'_1 (lk o2) id)):=by
  refine ⟨v,c',rfl,hv2,⟨hrc2.objs,hrc2.inj,hrc2.imm,hrc2.sep⟩,hrc.below,fun b hb hno=>?_,fun id ob b ho hbb=>?_,fun id hid=>?_⟩
  · obtain ⟨e1,e2⟩:=hnf b hb hno
    refine ⟨by rw [hrc.frm b _ e1,e2], ?_⟩
    rw [hrc.was b (by rw [e1];simp),hold]
  · have e:=hrc2.fsep id ob b ho hbb
    by_cases hfoot:∃ id0 ob0,lk o1 id0 = some ob0 ∧ c.blk id0 b
    · exact .inr hfoot
    refine .inl ?_
    have e':frm b = none:=by
     have:c'.old.2.1 b = none:=e
     rw [hold] at this
     exact this
    simp only [frm] at e'
    rw [if_neg hfoot] at e'
    exact Nat.le_of_not_lt fun hlt=>by simp [hlt] at e'
  have e:=hrc2.fixed id (Nat.le_of_ble_eq_true (List.all_eq_true.1 hfx id hid))
  unfold Evo Ctx.start at e
  unfold Evo
  rw [hold] at e
  exact e
 exact ⟨v,hv1,hfin⟩
end
end
end Go.Hx
