/- A part of the proof: Hx13 Hx14. -/
import Derived.Test.YtaegkccfbmekbaaGreatNq12
set_option linter.all false
section
namespace Go.Hx
open Go.RowKit
def mh (ops:Array Oper) (j:Nat):List Nat :=
 match ops[j]? with
 | some o=>(o.after.toList.filter fun e=>Region.binds .any e).map (·.on)
 | none=>[]
def w6 (acc:List Nat):List Nat → Nat
 | []=>0
 | e :: r=>w6 acc r ||| 2 ^ e ||| acc.getD e 0
def qw (ops:Array Oper):Nat → List Nat
 | 0=>[]
 | n + 1=>qw ops n ++ [w6 (qw ops n) (mh ops n)]
theorem kr (ops:Array Oper):∀ n,(qw ops n).length = n
 | 0=>rfl
 | n + 1=>by simp [qw,kr ops n]
theorem se (ops:Array Oper):∀ n j,j < n → (qw ops n).getD j 0 = w6 (qw ops j) (mh ops j)
 | n + 1,j,h=>by
  simp only [qw,List.getD_eq_getElem?_getD]
  by_cases hj:j < n
  · rw [List.getElem?_append_left (by rw [kr];exact hj)]
    have:=se ops n j hj
    rwa [List.getD_eq_getElem?_getD] at this
  · have:j = n:=by omega
    subst this
    rw [List.getElem?_append_right (by rw [kr];omega),kr]
    simp
theorem a52 (acc:List Nat) (i:Nat):∀ l,(w6 acc l).testBit i = true → ∃ e ∈ l,e = i ∨ (acc.getD e 0).testBit i = true
 | [],h=>by simp [w6] at h
 | e :: r,h=>by
  simp only [w6,Nat.testBit_or,Bool.or_eq_true,Nat.testBit_two_pow,decide_eq_true_eq] at h
  rcases h with (h | h) | h
  · obtain ⟨e',he,hh⟩:=a52 acc i r h
    exact ⟨e',by simp [he],hh⟩
  · exact ⟨e,by simp, .inl h⟩
  · exact ⟨e,by simp, .inr h⟩
def a4a (ops:Array Oper) (j i:Nat):Bool:=((qw ops (j + 1)).getD j 0).testBit i
structure Inv (ops:Array Oper) (listed:Array Bool):Prop where
 size:listed.size = ops.size
 closed:∀ j,listed.getD j false = true → ∀ e ∈ mh ops j,listed.getD e false = true
theorem a9j {ops:Array Oper} {listed:Array Bool} (inv:Inv ops listed):∀ j,(∀ e ∈ mh ops j,listed.getD e false = true) → ∀ i,a4a ops j i = true → listed.getD i false = true:=by
 intro j
 induction j using Nat.strongRecOn with
 | _ j ih =>
  intro hd i hr
  unfold a4a at hr
  rw [se ops (j + 1) j (by omega)] at hr
  obtain ⟨e,he,hh⟩:=a52 _ i _ hr
  rcases hh with rfl | hh
  · exact hd e he
  · by_cases hej:e < j
    · rw [se ops j e hej] at hh
      refine ih e hej (fun e' he'=>inv.closed e (hd e he) e' he') i ?_
      unfold a4a
      rw [se ops (e + 1) e (by omega)]
      exact hh
    · rw [List.getD_eq_getElem?_getD,List.getElem?_eq_none (by rw [kr];omega)] at hh
      simp at hh
theorem mem_ready' {ops:Array Oper} {listed:Array Bool} {i:Nat}:i ∈ Region.ready .any ops listed ↔ (i < ops.size ∧ listed.getD i true = false ∧ ∀ e ∈ mh ops i,listed.getD e false = true):=by
 unfold Region.ready mh
 simp only [List.mem_filter,List.mem_range,Bool.and_eq_true,Bool.not_eq_true']
 constructor
 · rintro ⟨h1,h2,h3⟩
   refine ⟨h1,h2, ?_⟩
   rw [Array.getElem?_eq_getElem h1] at h3 ⊢
   simp only [Option.map_some,Option.getD_some,Array.all_eq_true'] at h3
   intro e he
   simp only [List.mem_map,List.mem_filter] at he
   obtain ⟨ed,⟨hm,hb⟩,rfl⟩:=he
   have:=h3 ed (by simpa using hm)
   simp only [hb,Bool.not_true,Bool.false_or] at this
   exact this
 · rintro ⟨h1,h2,h3⟩
   refine ⟨h1,h2, ?_⟩
   rw [Array.getElem?_eq_getElem h1] at h3 ⊢
   simp only [Option.map_some,Option.getD_some,Array.all_eq_true']
   intro ed hm
   by_cases hb:Region.binds .any ed = true
   · simp only [hb,Bool.not_true,Bool.false_or]
     refine h3 ed.on ?_
     simp only [List.mem_map,List.mem_filter]
     exact ⟨ed,⟨by simpa using hm,hb⟩,rfl⟩
   · simp [hb]
def alw (ops:Array Oper) (j d:Nat):Bool:=(mh ops j).any (Nat.beq d)
theorem aj3 {ops:Array Oper} {j d:Nat} (h:alw ops j d = false):d ∉ mh ops j:=by
 intro hm
 unfold alw at h
 rw [List.any_eq_false] at h
 exact h d hm (by simp)
def qn (ops:Array Oper) (x y:Tr):Bool:=!(Nat.beq x.i y.i) && !alw ops x.i y.i && (a4a ops y.i x.i || a4t ops x y)
def a12 (ops:Array Oper):List Tr → Bool
 | []=>true
 | x :: T=>T.all (qn ops x) && a12 ops T
def a54 (ops:Array Oper) (x:Tr):Bool:=Nat.blt x.i ops.size && (mh ops x.i).all fun d=>Nat.blt d ops.size && !(Nat.beq d x.i)
def ace (ops:Array Oper) (T:List Tr):Bool :=
 Nat.beq T.length ops.size && (List.range ops.size).all (fun k=>T.any fun t=>Nat.beq t.i k) && T.all (a54 ops) && a12 ops T
theorem tn {ops:Array Oper}:∀ {T:List Tr},a12 ops T = true → T.Pairwise fun x y=>qn ops x y = true
 | [],_=>List.Pairwise.nil
 | x :: T,h=>by
  simp only [a12,Bool.and_eq_true,List.all_eq_true] at h
  exact List.Pairwise.cons h.1 (tn h.2)
section
variable {P:Program} {E:Env} {nt:Nat} {ops:Array Oper} {w0:World} {m0:Old} {sf:S}
theorem ah0 (m j:Nat):(Array.replicate m false).getD j false = false:=by
 rcases Nat.lt_or_ge j m with h | h <;> simp [h]
theorem uy {l:Array Bool} {i:Nat} (hi:i < l.size):(l.getD i true = false) ↔ ¬ (l.getD i false = true):=by
 simp [hi]
theorem a6r (hE:cq P E) {ro:Option Nat} {n:Nat} {Q:Exit → Act → World → Prop} (hQ:∀ a' w',Rel w0 m0 nt sf a' w' → Q .normal a' w') :
 ∀ (fuel:Nat) (listed:Array Bool) (T:List Tr) (s:S) (a:Act) (w:World),T.length = fuel → Inv ops listed → (∀ i,i < ops.size → (listed.getD i true = false ↔ ∃ t ∈ T,t.i = i)) →
  (∀ t ∈ T,a54 ops t = true) → (T.Pairwise fun x y=>qn ops x y = true) → jl P E nt ops T s sf → Rel w0 m0 nt s a w → wpAnyIn (rf ro) n P .any ops Q fuel listed a w:=by
 intro fuel
 induction fuel with
 | zero =>
  intro listed T s a w hl inv hun _ _ hT hr
  have:T = []:=List.eq_nil_of_length_eq_zero hl
  subst this
  cases hT
  refine ⟨?_,hQ _ _ hr⟩
  cases hrd:Region.ready .any ops listed with
  | nil=>rfl
  | cons i r =>
   have hi:i ∈ Region.ready .any ops listed:=by rw [hrd];simp
   obtain ⟨h1,h2,_⟩:=mem_ready'.1 hi
   obtain ⟨t,ht,_⟩:=(hun i h1).1 h2
   cases ht
 | succ fuel ih =>
  intro listed T s a w hl inv hun hself hpw hT hr
  refine ⟨fun hnil=>?_,fun i hi=>?_⟩
  ·
   exfalso
   cases T with
   | nil=>simp at hl
   | cons x T =>
    have hs:=hself x (by simp)
    simp only [a54,Bool.and_eq_true,List.all_eq_true,Bool.not_eq_true'] at hs
    obtain ⟨hs1,hs2⟩:=hs
    have hs1:x.i < ops.size:=by simpa [Nat.blt_eq] using hs1
    have hx:x.i ∈ Region.ready .any ops listed:=by
     refine mem_ready'.2 ⟨hs1,(hun x.i hs1).2 ⟨x,by simp,rfl⟩,fun d hd=>?_⟩
     obtain ⟨hd1,hd2⟩:=hs2 d hd
     have hd1:d < ops.size:=by simpa [Nat.blt_eq] using hd1
     have hd2:d ≠ x.i:=by rintro rfl;simp at hd2
     apply Classical.byContradiction
     intro hne
     have hu:=(uy (by rw [inv.size];exact hd1)).2 hne
     obtain ⟨t,ht,hti⟩:=(hun d hd1).1 hu
     rcases List.mem_cons.1 ht with rfl | ht
     · exact hd2 hti.symm
     · have:=(List.pairwise_cons.1 hpw).1 t ht
       simp only [qn,Bool.and_eq_true,Bool.not_eq_true'] at this
       exact aj3 this.1.2 (by rw [hti];exact hd)
    rw [hnil] at hx
    cases hx
  · obtain ⟨h1,h2,h3⟩:=mem_ready'.1 hi
    obtain ⟨y,hy,hyi⟩:=(hun i h1).1 h2
    obtain ⟨pre,post,rfl⟩:=List.append_of_mem hy
    have hpass:∀ x ∈ pre,a4t ops x y = true:=by
     intro x hx
     have hp:qn ops x y = true:=(List.pairwise_append.1 hpw).2.2 x hx y (by simp)
     simp only [qn,Bool.and_eq_true,Bool.or_eq_true] at hp
     rcases hp.2 with hre | hpa
     · exfalso
       have hl:=a9j inv y.i (by rw [hyi];exact h3) x.i hre
       have hsx:=hself x (by simp [hx])
       simp only [a54,Bool.and_eq_true] at hsx
       have hsx1:x.i < ops.size:=by simpa [Nat.blt_eq] using hsx.1
       have:=(hun x.i hsx1).2 ⟨x,by simp [hx],rfl⟩
       exact (uy (by rw [inv.size];exact hsx1)).1 this hl
     · exact hpa
    have hfront:=ab3 hT hpass
    cases hfront with
    | @cons iy an R O F o _ _ v wr _ hio he hR hO hF hrest =>
    have hyi':iy = i:=hyi
    subst hyi'
    refine zx hE he hr hio fun a' w' hr'=>?_
    have hsub:List.Sublist (pre ++ post) (pre ++ (⟨iy,an,R,O,F⟩:Tr) :: post):=(List.Sublist.refl pre).append (List.sublist_cons_self _ _)
    have hsz:iy < listed.size:=by rw [inv.size];exact h1
    refine ih (listed.setIfInBounds iy true) (pre ++ post) _ a' w' (by simp at hl ⊢;omega) ⟨by simp [inv.size],fun j hj e he=>?_⟩ (fun k hk=>?_) (fun t ht=>hself t (hsub.subset ht)) (hpw.sublist hsub) hrest hr'
    · by_cases hji:iy = j
      · subst hji
        exact getD_set_true (h3 e he)
      · rw [getD_set_ne false hji] at hj
        exact getD_set_true (inv.closed j hj e he)
    · by_cases hki:iy = k
      · subst hki
        constructor
        · intro h
          simp [hsz] at h
        · rintro ⟨t,ht,hti⟩
          exfalso
          rcases List.mem_append.1 ht with ht | ht
          · have hp:=(List.pairwise_append.1 hpw).2.2 t ht ⟨iy,an,R,O,F⟩ (by simp)
            simp only [qn,Bool.and_eq_true,Bool.not_eq_true'] at hp
            rw [hti] at hp
            simp at hp
          · have hp:=(List.pairwise_cons.1 (List.pairwise_append.1 hpw).2.1).1 t ht
            simp only [qn,Bool.and_eq_true,Bool.not_eq_true'] at hp
            rw [hti] at hp
            simp at hp
      · rw [getD_set_ne true hki,hun k hk]
        constructor
        · rintro ⟨t,ht,hti⟩
          refine ⟨t, ?_,hti⟩
          simp only [List.mem_append,List.mem_cons] at ht ⊢
          rcases ht with ht | rfl | ht
          · exact .inl ht
          · exact absurd hti hki
          · exact .inr ht
        · rintro ⟨t,ht,hti⟩
          exact ⟨t,hsub.subset ht,hti⟩
theorem a5l (hE:cq P E) {ro:Option Nat} {n:Nat} (hm:P.follows .mixedOrders = true) {id:Nat} {Q:Exit → Act → World → Prop} {T:List Tr} {s:S} {a:Act} {w:World} (hT:jl P E nt ops T s sf) (hc:ace ops T = true) (hr:Rel w0 m0 nt s a w)
 (hQ:∀ a' w',Rel w0 m0 nt sf a' w' → Q .normal a' w'):(Code.region id ops true).wpIn (rf ro) n P Q a w:=by
 simp only [ace,Bool.and_eq_true,List.all_eq_true] at hc
 obtain ⟨⟨⟨h1,h2⟩,h3⟩,h4⟩:=hc
 refine wpIn_region_any hm ?_;refine a6r hE hQ ops.size _ T s a _ (by simpa using h1) ⟨by simp,fun j hj=>?_⟩ (fun i hi=>⟨fun _=>?_,fun _=>by simp [hi]⟩) h3 (tn h4) hT ?_
 · rw [ah0] at hj;cases hj
 · have:=h2 i (List.mem_range.2 hi)
   obtain ⟨t,ht,hti⟩:=List.any_eq_true.1 this
   exact ⟨t,ht,by simpa using hti⟩
 · obtain ⟨c,hold,hr⟩:=hr
   exact ⟨c,hold,hr.drew⟩
theorem wt (hE:cq P E) {ro:Option Nat} {n:Nat} {Q:Exit → Act → World → Prop} (hQ:∀ a' w',Rel w0 m0 nt sf a' w' → Q .normal a' w'):∀ (T:List Tr) (s:S) (a:Act) (w:World),jl P E nt ops T s sf → Rel w0 m0 nt s a w → wpOpsIn (rf ro) n P ops Q (T.map (·.i)) a w
 | [],s,a,w,hT,hr=>by
  cases hT
  exact hQ _ _ hr
 | t :: T,s,a,w,hT,hr=>by
  cases hT with
  | cons hi he hR hO hF hrest =>
  rw [List.map_cons,wpOpsIn_cons]
  exact zx hE he hr hi fun a' w' hr'=>wt hE hQ T _ a' w' hrest hr'
end
def bj {α:Type}:List (Nat × Option α) → Nat → Option α
 | [],_=>none
 | (e,x) :: r,d=>bif Nat.beq e d then x else bj r d
structure HSt where
 t:List (Nat × Option HR)
 o:List (Nat × Option ag)
def HSt.den (st:HSt):S:=⟨bj st.t,bj st.o⟩
def HSt.after (st:HSt) (d:Option Tmp) (x:Option HR) (wr:Wr):HSt :=
 ⟨match d with | some d=>(d,x) :: st.t | none=>st.t,wr ++ st.o⟩
theorem a9k (l:List (Nat × Option ag)):∀ (wr:Wr),bj (wr ++ l) = fun k=>match gd wr k with | some r=>r | none=>bj l k
 | []=>rfl
 | (e,x) :: r=>by
  funext k
  have ih:=congrFun (a9k l r) k
  simp only [List.cons_append,bj,gd]
  cases hb:Nat.beq e k with
  | true=>rfl
  | false=>simp only [cond_false];exact ih
theorem bo {α:Type} (e:Nat) (x:Option α) (l:List (Nat × Option α)):bj ((e,x) :: l) = fun k=>if k = e then x else bj l k:=by
 funext k
 simp only [bj]
 by_cases h:k = e
 · subst h;simp
 · have:Nat.beq e k = false:=by
    rw [Bool.eq_false_iff]
    intro hb
    exact h (Nat.eq_of_beq_eq_true hb).symm
   simp [h,this]
theorem j5 (st:HSt) (d:Option Tmp) (x:Option HR) (wr:Wr):(st.after d x wr).den = st.den.after d x wr:=by
 unfold HSt.after HSt.den S.after S.putD S.setW S.put
 cases d <;> simp [bo,a9k] <;> rfl
def a42 (id:Nat) (l:List Nat):Bool:=!(l.any (Nat.beq id))
def nmT (id:Nat):List (Nat × Option HR) → Bool
 | []=>true
 | (_,some x) :: r=>a42 id x.ids && nmT id r
 | (_,none) :: r=>nmT id r
def nmO (id:Nat):List (Nat × Option ag) → Bool
 | []=>true
 | (_,some x) :: r=>a42 id x.ids && nmO id r
 | (_,none) :: r=>nmO id r
theorem xn {id:Nat} {l:List Nat} (h:a42 id l = true):id ∉ l:=by
 intro hm
 simp only [a42,Bool.not_eq_true'] at h
 rw [List.any_eq_false] at h
 exact h id hm (by simp)
theorem xr {id:Nat}:∀ {l:List (Nat × Option HR)},nmT id l = true → ∀ d x,bj l d = some x → ¬ x.men id
 | [],_,d,x,h=>by simp [bj] at h
 | (e,some y) :: r,h,d,x,hl=>by
  simp only [nmT,Bool.and_eq_true] at h
  rw [bo] at hl
  dsimp only at hl
  split at hl
  · simp only [Option.some.injEq] at hl
    subst hl
    exact fun hm=>xn h.1 (HR.men_ids hm)
  · exact xr h.2 d x hl
 | (e,none) :: r,h,d,x,hl=>by
  rw [bo] at hl
  dsimp only at hl
  split at hl
  · cases hl
  · exact xr (by simpa [nmT] using h) d x hl
theorem a3c {id:Nat}:∀ {l:List (Nat × Option ag)},nmO id l = true → ∀ d x,bj l d = some x → ¬ x.men id
 | [],_,d,x,h=>by simp [bj] at h
 | (e,some y) :: r,h,d,x,hl=>by
  simp only [nmO,Bool.and_eq_true] at h
  rw [bo] at hl
  dsimp only at hl
  split at hl
  · simp only [Option.some.injEq] at hl
    subst hl
    exact fun hm=>xn h.1 (ag.men_ids hm)
  · exact a3c h.2 d x hl
 | (e,none) :: r,h,d,x,hl=>by
  rw [bo] at hl
  dsimp only at hl
  split at hl
  · cases hl
  · exact a3c (by simpa [nmO] using h) d x hl
def jv (id:Nat) (st:HSt):Bool:=Nat.blt id 1000 && nmT id st.t && nmO id st.o && (match bj st.o id with | none=>true | some _=>false)
theorem f8 {id:Nat} {st:HSt} (h:jv id st = true):NM st.den id ∧ st.den.o id = none:=by
 simp only [jv,Bool.and_eq_true] at h
 obtain ⟨⟨⟨h0,h1⟩,h2⟩,h3⟩:=h
 refine ⟨⟨xr h1,a3c h2,by simpa [Nat.blt_eq] using h0⟩, ?_⟩
 show bj st.o id = none
 cases hl:bj st.o id with
 | none=>rfl
 | some x=>rw [hl] at h3;cases h3
section
variable {P:Program} {E:Env} {nt:Nat} {ops:Array Oper} {i:Nat} {o:Oper} {st:HSt} {T:List Tr} {sf:S}
def a2y (ex:Bool) (M:List Nat):Ann:=⟨0,false,ex, .tup [],[],[],M⟩
def Reg (P:Program) (E:Env) (nt:Nat) (ops:Array Oper) (L:List Nat) (st:HSt) (K:List Tr → HSt → Prop):Prop :=
 ∃ T sf,T.map (·.i) = L ∧ jl P E nt ops T st.den (HSt.den sf) ∧ K T sf
variable {L:List Nat} {K:List Tr → HSt → Prop}
theorem a6 (h:K [] st):Reg P E nt ops [] st K:=⟨[],st,rfl, .nil _,h⟩
theorem cg (ex:Bool) {out:Out} {gb:Bool} (hi:ops[i]? = some o) (hw:bh ops st.den o = some gb) (hd:d8 nt o.dst = true) (hq':hq E ex st.den.o (ev st.den) o.op = some out) (hg:gb = true) (hp:out.pre)
 (hT:Reg P E nt ops L (st.after o.dst (some out.val) []) fun T sf=>K (⟨i,a2y ex out.val.ids,dt st.den o,cn st.den o.dst [],ez E st.den o⟩ :: T) sf):Reg P E nt ops (i :: L) st K:=by
 obtain ⟨T,sf,h1,h2,h3⟩:=hT
 exact ⟨_,sf,by rw [← h1];rfl, .cons hi (.quiet out (by rw [hw,hg]) hd hq' hp rfl) rfl (fun _ hk=>hk) (fun f hf=>⟨hf,by rw [hw,hg]⟩) (by rw [j5] at h2;exact h2),h3⟩
theorem aeg {gb:Bool} (hi:ops[i]? = some o) (hw:bh ops st.den o = some gb) (hd:d8 nt o.dst = true) (hg:gb = false)
 (hT:Reg P E nt ops L (st.after o.dst (some (.tup [])) []) fun T sf=>K (⟨i,a2y true [],dt st.den o,cn st.den o.dst [],none⟩ :: T) sf):Reg P E nt ops (i :: L) st K:=by
 obtain ⟨T,sf,h1,h2,h3⟩:=hT
 exact ⟨_,sf,by rw [← h1];rfl, .cons hi (.skip (by rw [hw,hg]) hd) rfl (fun _ hk=>hk) (by intro _ hf;cases hf) (by rw [j5] at h2;exact h2),h3⟩
theorem ari {out:Out} {id:Nat} {gb:Bool} (hi:ops[i]? = some o) (hw:bh ops st.den o = some gb) (hd:d8 nt o.dst = true) (hq':sh E st.den.o (ev st.den) o.op = some (out,id)) (hg:gb = true) (hp:out.pre)
 (hT:Reg P E nt ops L (st.after o.dst (some out.val) [(id,none)]) fun T sf=>K (⟨i,⟨0,false,true, .tup [],[id],[],[]⟩,dt st.den o,cn st.den o.dst [(id,none)],none⟩ :: T) sf):Reg P E nt ops (i :: L) st K:=by
 obtain ⟨T,sf,h1,h2,h3⟩:=hT
 exact ⟨_,sf,by rw [← h1];rfl, .cons hi (.cut out id (by rw [hw,hg]) hd hq' hp rfl) rfl (fun _ hk=>hk) (by intro _ hf;cases hf) (by rw [j5] at h2;exact h2),h3⟩
theorem sn (id:Nat) {nw:New} {gb:Bool} (hi:ops[i]? = some o) (hw:bh ops st.den o = some gb) (hd:d8 nt o.dst = true) (hq':ha E (ev st.den) id o.op = some nw) (hn:jv id st = true) (hg:gb = true) (hp:nw.pre)
 (hT:Reg P E nt ops L (st.after o.dst (some nw.val) [(id,some nw.ob)]) fun T sf=>K (⟨i,⟨id,false,true, .tup [],[id],[id],nw.val.ids ++ nw.ob.ids⟩,dt st.den o,cn st.den o.dst [(id,some nw.ob)],none⟩ :: T) sf):Reg P E nt ops (i :: L) st K:=by
 obtain ⟨T,sf,h1,h2,h3⟩:=hT
 exact ⟨_,sf,by rw [← h1];rfl, .cons hi (.make nw (by rw [hw,hg]) hd hq' hp (f8 hn).1 (f8 hn).2 rfl rfl rfl) rfl (fun _ hk=>hk) (by intro _ hf;cases hf) (by rw [j5] at h2;exact h2),h3⟩
theorem aak {u:Upd} {gb:Bool} (hi:ops[i]? = some o) (hw:bh ops st.den o = some gb) (hd:d8 nt o.dst = true) (hq':hs E st.den.o (ev st.den) o.op = some u) (hg:gb = true) (hp:u.pre)
 (hT:Reg P E nt ops L (st.after o.dst none [(u.id,some u.ob)]) fun T sf=>K (⟨i,⟨0,false,true, .tup [],[u.id],[],u.ob.ids⟩,dt st.den o,cn st.den o.dst [(u.id,some u.ob)],ez E st.den o⟩ :: T) sf):Reg P E nt ops (i :: L) st K:=by
 obtain ⟨T,sf,h1,h2,h3⟩:=hT
 exact ⟨_,sf,by rw [← h1];rfl, .cons hi (.store u (by rw [hw,hg]) hd hq' hp rfl (fun _ hk=>hk)) rfl (fun _ hk=>hk) (fun f hf=>⟨hf,by rw [hw,hg]⟩) (by rw [j5] at h2;exact h2),h3⟩
theorem a0w (id:Nat) (wb:Bool) {u:App} {gb:Bool} (hi:ops[i]? = some o) (hw:bh ops st.den o = some gb) (hd:d8 nt o.dst = true) (hq':hap E st.den.o (ev st.den) id wb o.op = some u) (hn:(!u.new || jv id st) = true) (hg:gb = true) (hp:u.pre)
 (hT:Reg P E nt ops L (st.after o.dst (some u.val) [(u.id,some u.ob)]) fun T sf=>K (⟨i,⟨id,wb,true, .tup [],[u.id],if u.new then [id] else [],u.val.ids ++ u.ob.ids⟩,dt st.den o,cn st.den o.dst [(u.id,some u.ob)],none⟩ :: T) sf):Reg P E nt ops (i :: L) st K:=by
 obtain ⟨T,sf,h1,h2,h3⟩:=hT
 exact ⟨_,sf,by rw [← h1];rfl, .cons hi (.app u (by rw [hw,hg]) hd hq' hp (fun h=>f8 (by rw [h] at hn;simpa using hn)) rfl (fun h=>by simp [h]) rfl) rfl (fun _ hk=>hk) (by intro _ hf;cases hf) (by rw [j5] at h2;exact h2),h3⟩
theorem ao6 {sr ds:TypeId} {x:Operand} {b:ByteArray} {gb:Bool} (hi:ops[i]? = some o) (hw:bh ops st.den o = some gb) (hd:d8 nt o.dst = true) (ho:o.op = .convert sr ds x) (hcv:a4k E (ev st.den) sr ds x = some b) (hg:gb = true) (hp:b.size ≤ maxLen)
 (hT:Reg P E nt ops L (st.after o.dst (some (.v (.one (.p (.sl b.size 1 false (aek b)))))) []) fun T sf=>K (⟨i,⟨0,false,true, .tup [],[],[],[]⟩,dt st.den o,cn st.den o.dst [],none⟩ :: T) sf):Reg P E nt ops (i :: L) st K:=by
 obtain ⟨T,sf,h1,h2,h3⟩:=hT
 exact ⟨_,sf,by rw [← h1];rfl, .cons hi (.conv sr ds x b (by rw [hw,hg]) hd ho hcv hp rfl) rfl (fun _ hk=>hk) (by intro _ hf;cases hf) (by rw [j5] at h2;exact h2),h3⟩
theorem an9 {cl:Call} {f:FuncId} {fst caps args vs:List PC} {p:Prop} {b:Bool} {res:PR} {gb:Bool} (hi:ops[i]? = some o) (hw:bh ops st.den o = some gb) (hd:d8 nt o.dst = true) (ho:o.op = .call cl) (hc:callee (ev st.den) cl = some (f,fst,caps))
 (hv:io st.den.o (ev st.den) cl.args.toList = some (p,vs,b)) (hf:aj P f) (hpure:ap P f args res) (hco:CoL (fst ++ (vs ++ caps)) args) (hg:gb = true) (hp:p) (hb:(!b || res.flat) = true)
 (hT:Reg P E nt ops L (st.after o.dst (some res.toH) []) fun T sf=>K (⟨i,⟨0,false,true,res,[],[],[]⟩,dt st.den o,cn st.den o.dst [],none⟩ :: T) sf):Reg P E nt ops (i :: L) st K:=by
 obtain ⟨T,sf,h1,h2,h3⟩:=hT
 exact ⟨_,sf,by rw [← h1];rfl,   .cons hi (.call cl f fst caps args p vs b (by rw [hw,hg]) hd ho hc hf hv hp hco hpure hb rfl) rfl (fun _ hk=>hk) (by intro _ hf;cases hf) (by rw [j5] at h2;exact h2),h3⟩
end
def HW {ro:Option Nat} (P:Program) (nt:Nat) (c:Code) (st:HSt) (Q:Exit → HSt → Prop):Prop :=
 ∀ w0 m0 a w,Rel w0 m0 nt st.den a w → c.wpIn (rf ro) 0 P (fun e a' w'=>∃ st':HSt,Q e st' ∧ Rel w0 m0 nt st'.den a' w') a w
def zz:List (Nat × Option HR) → List (Nat × Option HR) → Prop
 | [],_=>True
 | (d,some x) :: r,l=>(∃ y,bj l d = some y ∧ CoR y x) ∧ zz r l
 | (_,none) :: r,l=>zz r l
def a2w:List (Nat × Option ag) → List (Nat × Option ag) → Prop
 | [],_=>True
 | (d,some x) :: r,l=>(∃ y,bj l d = some y ∧ CoO y x) ∧ a2w r l
 | (_,none) :: r,l=>a2w r l
def Sub (st st':HSt):Prop:=zz st.t st'.t ∧ a2w st.o st'.o
theorem ux:∀ {l l':List (Nat × Option HR)},zz l l' → ∀ d x,bj l d = some x → ∃ y,bj l' d = some y ∧ CoR y x
 | [],_,_,d,x,h=>by simp [bj] at h
 | (e,some y) :: r,l',h,d,x,hl=>by
  rw [bo] at hl
  dsimp only at hl
  split at hl
  · rename_i he;subst he;simp only [Option.some.injEq] at hl;subst hl;exact h.1
  · exact ux h.2 d x hl
 | (e,none) :: r,l',h,d,x,hl=>by
  rw [bo] at hl
  dsimp only at hl
  split at hl
  · cases hl
  · exact ux (l:=r) h d x hl
theorem zn:∀ {l l':List (Nat × Option ag)},a2w l l' → ∀ d x,bj l d = some x → ∃ y,bj l' d = some y ∧ CoO y x
 | [],_,_,d,x,h=>by simp [bj] at h
 | (e,some y) :: r,l',h,d,x,hl=>by
  rw [bo] at hl
  dsimp only at hl
  split at hl
  · rename_i he;subst he;simp only [Option.some.injEq] at hl;subst hl;exact h.1
  · exact zn h.2 d x hl
 | (e,none) :: r,l',h,d,x,hl=>by
  rw [bo] at hl
  dsimp only at hl
  split at hl
  · cases hl
  · exact zn (l:=r) h d x hl
section
variable {ro:Option Nat} {P:Program} {E:Env} {nt:Nat} {st st':HSt} {Q Q':Exit → HSt → Prop} {w0:World} {m0:Old} {a:Act} {w:World}
theorem Rel.sub (hs:Sub st' st) (h:Rel w0 m0 nt st.den a w):Rel w0 m0 nt st'.den a w:=by
 obtain ⟨c,hold,h⟩:=h
 exact ⟨c,hold,h.relax _ (fun d x hx=>ux hs.1 d x hx) (fun d x hx=>zn hs.2 d x hx)⟩
theorem apr {c:Code} (h:HW (ro:=ro) P nt c st Q) (hq:∀ e st,Q e st → Q' e st):HW (ro:=ro) P nt c st Q' :=
 fun w0 m0 a w hr=>wpIn_mono (h w0 m0 a w hr) fun e a w ⟨st',hQ,hr⟩=>⟨st',hq _ _ hQ,hr⟩
theorem abl {c:Code} (st':HSt) (hs:Sub st' st) (h:HW (ro:=ro) P nt c st' Q):HW (ro:=ro) P nt c st Q:=fun w0 m0 a w hr=>h w0 m0 a w (hr.sub hs)
theorem aa (h:Q .normal st):HW (ro:=ro) P nt .skip st Q:=fun _ _ _ _ hr=>wpIn_skip ⟨st,h,hr⟩
theorem au {id:Nat} (h:Q (.exit id) st):HW (ro:=ro) P nt (.exit id) st Q:=fun _ _ _ _ hr=>wpIn_exit ⟨st,h,hr⟩
theorem aw (h:Q .ret st):HW (ro:=ro) P nt .ret st Q:=fun _ _ _ _ hr=>wpIn_ret ⟨st,h,hr⟩
def at1 {ro:Option Nat} (P:Program) (nt:Nat) (y:Code) (Q:Exit → HSt → Prop):Exit → HSt → Prop
 | .normal,st=>HW (ro:=ro) P nt y st Q
 | e,st=>Q e st
theorem a7 {x y:Code} (h:HW (ro:=ro) P nt x st (at1 (ro:=ro) P nt y Q)):HW (ro:=ro) P nt (.seq x y) st Q:=fun w0 m0 a w hr=>by
 refine wpIn_seq (wpIn_mono (h w0 m0 a w hr) fun e a' w' ⟨st',hQ,hr'⟩=>?_)
 cases e <;> simp only [Exit.then] <;> first | exact hQ w0 m0 a' w' hr' | exact ⟨st',hQ,hr'⟩
theorem a8 {c:Operand} {x y:Code} (b:Bool) (hc:ev st.den c = some (.v (.one (.p (.raw (.bool b)))))) (ht:b = true → HW (ro:=ro) P nt x st Q) (hf:b = false → HW (ro:=ro) P nt y st Q):HW (ro:=ro) P nt (.cond c x y) st Q:=fun w0 m0 a w hr=>by
 obtain ⟨cc,hold,hrr⟩:=hr
 obtain ⟨e1,_⟩:=ai hrr hc
 exact wpIn_cond_split e1 (fun hb=>ht hb w0 m0 a w ⟨cc,hold,hrr⟩) (fun hb=>hf hb w0 m0 a w ⟨cc,hold,hrr⟩)
def agp (id:Nat) (Q:Exit → HSt → Prop):Exit → HSt → Prop
 | .exit id',st=>if id' = id then Q .normal st else Q (.exit id') st
 | e,st=>Q e st
theorem af {id:Nat} {c:Code} (h:HW (ro:=ro) P nt c st (agp id Q)):HW (ro:=ro) P nt (.block id c) st Q:=fun w0 m0 a w hr=>by
 refine wpIn_block (wpIn_mono (h w0 m0 a w hr) fun e a' w' ⟨st',hQ,hr'⟩=>?_)
 cases e <;> simp only [Exit.inBlock] <;> try exact ⟨st',hQ,hr'⟩
 rename_i id'
 simp only [agp] at hQ
 split
 · rename_i h;rw [if_pos h] at hQ;exact ⟨st',hQ,hr'⟩
 · rename_i h;rw [if_neg h] at hQ;exact ⟨st',hQ,hr'⟩
theorem a9t {F:Fence} {m:Nat} {c:Code} {QQ:Exit → Act → World → Prop} (I:Nat → Act → World → Prop) (n0:Nat) {a:Act} {w:World} (h₀:I n0 a w)
 (round:∀ n a w,I n a w → c.wpIn F m P (Exit.then (fun a' w'=>∃ m,m < n ∧ I m a' w') QQ) a w):(Code.loop c).wpIn F m P QQ a w:=by
 intro b k cs hro hb hr
 have key:∀ n a w,I n a w → ∃ e a' w',QQ e a' w' ∧ ArrivesIn (Machine.fenced P F) P (lone (b.atR a (.code c :: .inLoop c :: k)) cs w) b k cs e a' w':=by
  intro n
  induction n using Nat.strongRecOn with
  | _ n ih =>
   intro a w hI
   obtain ⟨e,a₁,w₁,hq,harr⟩:=round n a w hI b (.inLoop c :: k) cs hro hb hr
   cases e with
   | normal =>
    obtain ⟨m,hlt,hI₁⟩:=hq
    obtain ⟨e₂,a₂,w₂,hq₂,harr₂⟩:=ih m hlt a₁ w₁ hI₁
    exact ⟨e₂,a₂,w₂,hq₂, .of_steps (StepsIn.trans harr (.one (fenced_calm hb hr rfl) stepR_inLoop)) harr₂⟩
   | exit id=>exact ⟨_,a₁,w₁,hq, .pass (x:=.inLoop c) rfl (fun _ _=>.inl (by simp)) harr⟩
   | goto l=>exact ⟨_,a₁,w₁,hq, .pass (x:=.inLoop c) rfl (fun _ _=>.inl (by simp)) harr⟩
   | ret=>exact ⟨_,a₁,w₁,hq, .pass (x:=.inLoop c) rfl (fun _ _=>.inl (by simp)) harr⟩
   | panic ch=>exact ⟨_,a₁,w₁,hq, .pass (x:=.inLoop c) rfl (fun _ _=>.inl (by simp)) harr⟩
   | outgrown=>exact ⟨_,a₁,w₁,hq, .pass (x:=.inLoop c) rfl (fun _ _=>.inl (by simp)) harr⟩
 obtain ⟨e,a',w',hq,harr⟩:=key n0 a w h₀
 exact ⟨e,a',w',hq, .of_steps (.one (fenced_calm hb hr rfl) stepR_loop) harr⟩
def amw {ι:Type} (I:ι → HSt) (p:ι → Prop) (μ:ι → Nat) (i:ι) (Q:Exit → HSt → Prop):Exit → HSt → Prop
 | .normal,st=>∃ i',p i' ∧ μ i' < μ i ∧ Sub (I i') st
 | e,st=>Q e st
theorem aoj {ι:Type} {body:Code} (I:ι → HSt) (p:ι → Prop) (μ:ι → Nat) (i0:ι) (h0:p i0) (hs:Sub (I i0) st) (round:∀ i,p i → HW (ro:=ro) P nt body (I i) (amw I p μ i Q)):HW (ro:=ro) P nt (.loop body) st Q:=fun w0 m0 a w hr=>by
 refine a9t (fun n a w=>∃ i,p i ∧ μ i = n ∧ Rel w0 m0 nt (I i).den a w) (μ i0) ⟨i0,h0,rfl,hr.sub hs⟩ ?_
 rintro n a w ⟨i,hp,rfl,hr⟩
 refine wpIn_mono (round i hp w0 m0 a w hr) fun e a' w' ⟨st',hQ,hr'⟩=>?_
 cases e <;> simp only [Exit.then] <;> try exact ⟨st',hQ,hr'⟩
 obtain ⟨i',hp',hlt,hsub⟩:=hQ
 exact ⟨μ i',hlt,i',hp',rfl,hr'.sub hsub⟩
theorem a7l (hE:cq P E) {id:Nat} {ops:Array Oper} (h:Reg P E nt ops (List.range ops.size) st fun _ sf=>Q .normal sf):HW (ro:=ro) P nt (.region id ops false) st Q:=fun w0 m0 a w hr=>by
 obtain ⟨T,sf,hl,hT,h⟩:=h
 refine wpIn_region ?_
 rw [← hl]
 exact wt hE (fun a' w' hr'=>⟨sf,h,hr'⟩) T _ a w hT hr
theorem ax (hE:cq P E) (hm:P.follows .mixedOrders = true) {id:Nat} {ops:Array Oper} (L:List Nat) (h:Reg P E nt ops L st fun T sf=>ace ops T = true ∧ Q .normal sf):HW (ro:=ro) P nt (.region id ops true) st Q:=fun w0 m0 a w hr=>by
 obtain ⟨T,sf,hl,hT,hc,h⟩:=h
 exact a5l hE hm hT hc hr fun a' w' hr'=>⟨sf,h,hr'⟩
def vd (E:Env) (s:S):List ResultVar → Option (Prop × List HC)
 | []=>some (True,[])
 | .tmp t :: r =>
  match s.t t,vd E s r with
  | some (.v cc),some (p,l)=>some (p,cc :: l)
  | _,_=>none
 | .cell ad ty :: r =>
  match jw E s.o (ev s) ty (.tmp ad),vd E s r with
  | some ⟨p1, .v cc⟩,some (p,l)=>some (p1 ∧ p,cc :: l)
  | _,_=>none
def mw (o:b8):List HC → Option (Prop × List PC)
 | []=>some (True,[])
 | x :: r =>
  match uj o x,mw o r with
  | some (p,y,_),some (q,ys)=>some (p ∧ q,y :: ys)
  | _,_=>none
def b4:List PC → PR
 | [x]=>.v x
 | l=>.tup l
def af6 (E:Env) (st:HSt) (rs:List ResultVar) (res:List PC):Prop :=
 ∃ p l q vs,vd E st.den rs = some (p,l) ∧ p ∧ mw st.den.o l = some (q,vs) ∧ q ∧ CoL vs res
theorem a1u {t:TypeId} {u v:Value} (h:(Instr.loadAt t u).run P w = .ok v w):∃ ad,u = .pointer (some ad) ∧ (loadVar t ad).run P w = .ok v w:=by
 cases u <;> try (simp [Instr.loadAt,Instr.sureAddr] at h;done)
 rename_i ad
 cases ad with
 | none=>simp [Instr.loadAt,Instr.sureAddr] at h
 | some ad=>exact ⟨ad,rfl,by simpa [Instr.loadAt,Instr.sureAddr] using h⟩
theorem sb (hE:cq P E) {c:Ctx} {s:S} (h:al w0 nt c s a w) (F:ResultVar → Sem Value) (F1:∀ t,F (.tmp t) = pure (a.tmps.getD t undef)) (F2:∀ ad t,F (.cell ad t) = do loadVar t (← asAddr (a.tmps.getD ad undef))) :
 ∀ {rs:List ResultVar} {p:Prop} {l:List HC},vd E s rs = some (p,l) → p → ∃ vs:List Value,(rs.mapM F).run P w = .ok vs w ∧ bz c s.o l vs
 | [],p,l,hr,_=>by
  simp only [vd,Option.some.injEq,Prod.mk.injEq] at hr
  obtain ⟨_,rfl⟩:=hr
  exact ⟨[],by simp,trivial⟩
 | .tmp t :: r,p,l,hr,hp=>by
  simp only [vd] at hr
  split at hr <;> try (cases hr;done)
  rename_i cc p1 l1 ht hr1
  simp only [Option.some.injEq,Prod.mk.injEq] at hr
  obtain ⟨rfl,rfl⟩:=hr
  obtain ⟨vs,h1,h2⟩:=sb hE h F F1 F2 hr1 hp
  refine ⟨a.tmps.getD t undef :: vs, ?_,h.tmps t _ ht,h2⟩
  rw [List.mapM_cons,F1]
  simp only [Sem.run_bind,Sem.run_pure,Result.andThen_ok,h1]
 | .cell ad ty :: r,p,l,hr,hp=>by
  simp only [vd] at hr
  split at hr <;> try (cases hr;done)
  rename_i p1 cc p2 l2 hld hr1
  simp only [Option.some.injEq,Prod.mk.injEq] at hr
  obtain ⟨rfl,rfl⟩:=hr
  obtain ⟨v,hv,hvr⟩:=zw hE h hld hp.1
  obtain ⟨ad',he,hlv⟩:=a1u hv
  have he':a.tmps.getD ad undef = .pointer (some ad'):=he
  obtain ⟨vs,h1,h2⟩:=sb hE h F F1 F2 hr1 hp.2
  refine ⟨v :: vs, ?_,hvr,h2⟩
  rw [List.mapM_cons,F2,he']
  simp only [asAddr,Sem.run_bind,Sem.run_pure,Result.andThen_ok,hlv,h1]
theorem li {c:Ctx} {s:S} (h:al w0 nt c s a w) {m:Imm} (hm:uc w0 c w m):∀ {l:List HC} {us:List Value} {p:Prop} {vs:List PC},bz c s.o l us → mw s.o l = some (p,vs) → p → cr m vs us
 | [],[],p,vs,_,hv,_=>by
  simp only [mw,Option.some.injEq,Prod.mk.injEq] at hv
  obtain ⟨_,rfl⟩:=hv
  trivial
 | x :: l,u :: us,p,vs,hr,hv,hp=>by
  simp only [mw] at hv
  split at hv <;> try (cases hv;done)
  rename_i p1 y b q ys h1 h2
  simp only [Option.some.injEq,Prod.mk.injEq] at hv
  obtain ⟨rfl,rfl⟩:=hv
  exact ⟨(a29 h hm hr.1 h1 hp.1).1,li h hm hr.2 h2 hp.2⟩
 | [],_ :: _,_,_,hr,_,_=>hr.elim
 | _ :: _,[],_,_,hr,_,_=>hr.elim
theorem Rel.strike {P:Program} {nt:Nat} {st:S} {w0:World} {m0:Old} {fn:Func} {R:Ending → World → Prop}:∀ {l:List Deferred} {a:Act} {w:World},a.defers = l → Rel w0 m0 nt st a w →
 (∀ w',Rel w0 m0 nt st { a with defers:=[] } w' → ∃ v,(results fn a.tmps).run P w' = .ok v w' ∧ R (.returned v) w') → LeavesInM (rf none) 0 P fn a.tmps R l .returning w
 | [],a,w,hl,hr,h=>by
  obtain ⟨tm,ds⟩:=a
  simp only at hl
  subst hl
  obtain ⟨v,h1,h2⟩:=h w hr
  exact ⟨v,h1,h2⟩
 | d :: l,a,w,hl,hr,h=>by
  obtain ⟨tm,ds⟩:=a
  simp only at hl
  subst hl
  obtain ⟨c,hold,hrc⟩:=hr
  obtain ⟨hpw,hds⟩:=hrc.defers
  obtain ⟨D,rfl,h2,h3,h4,h5⟩:=hds d (by simp)
  refine ⟨by simp, .inl ⟨D,_,rfl,run_takeDeferred h2, ?_⟩⟩
  have hne:∀ b,b ≠ D → (w.putObj D (.deferred none)).heap[b]? = w.heap[b]?:=fun b hb=>by
   show (w.heap.setIfInBounds D _)[b]? = _
   rw [Array.getElem?_setIfInBounds_ne (Ne.symm hb)]
  refine Rel.strike (a:={ tmps:=tm,defers:=l }) (w:=w.putObj D (.deferred none)) rfl ⟨c,hold,⟨(List.pairwise_cons.1 hpw).2,fun d' hd'=>?_⟩,hrc.size, ?_,hrc.tmps,fun id ob ho=>?_,hrc.inj,fun b ob hb=>?_,hrc.sep,hrc.was,fun b ob hb=>?_,hrc.fsep,hrc.fixed⟩ h
  · obtain ⟨D',rfl,g2,g3⟩:=hds d' (by simp [hd'])
    refine ⟨D',rfl,(hne D' fun e=>(List.pairwise_cons.1 hpw).1 _ hd' (by rw [e])).trans g2,g3⟩
  · have hb:=hrc.below
    exact ⟨hb.os,hb.tape,hb.output,by show _ ≤ (w.heap.setIfInBounds D _).size;rw [Array.size_setIfInBounds];exact hb.size,fun k hk=>absurd hk (Nat.not_lt_zero k),hb.drawn⟩
  · refine (hrc.objs id ob ho).keep (Imm.le.refl _) rfl rfl (fun _ _=>Evo.refl _ _ _) fun b hb=>hne b fun e=>?_
    obtain ⟨x1,hc,hdt⟩:=(hrc.objs id ob ho).data hb
    rw [e,h2] at hc
    cases hc
    cases hdt
  · refine (hne b fun e=>?_).trans (hrc.imm b ob hb)
    rw [e,h3] at hb;cases hb
  · refine (hne b fun e=>?_).trans (hrc.frm b ob hb)
    rw [e,h4] at hb;cases hb
def a0y:Nat → List PC → List (Nat × Option HR)
 | _,[]=>[]
 | i,x :: r=>(i,some (.v x.toH)) :: a0y (i + 1) r
theorem a5n:∀ (l:List PC) (i d:Nat) (r:HR),bj (a0y i l) d = some r → ∃ x,i ≤ d ∧ l[d - i]? = some x ∧ r = .v x.toH
 | [],i,d,r,h=>by simp [a0y,bj] at h
 | x :: l,i,d,r,h=>by
  simp only [a0y] at h
  rw [bo] at h
  dsimp only at h
  split at h
  · rename_i hd
    subst hd
    simp only [Option.some.injEq] at h
    exact ⟨x,Nat.le_refl _,by simp,h.symm⟩
  · rename_i hd
    obtain ⟨y,h1,h2,h3⟩:=a5n l (i + 1) d r h
    refine ⟨y,by omega, ?_,h3⟩
    rw [show d - i = (d - (i + 1)) + 1 by omega]
    simpa using h2
theorem ah (hE:cq P E) {f:FuncId} {fn:Func} {body:Code} {args res:List PC} (hf:P.funcs[f]? = some fn) (hb:fn.body = some body) (hn:fn.ntmps = nt) (hl:args.length ≤ nt)
 (h:HW (ro:=none) P nt body ⟨a0y 0 args,[]⟩ fun e st=>(e = .normal ∨ e = .ret) ∧ af6 E st fn.results.toList res):ap P f args (b4 res):=by
 intro w imm us htab himm hargs
 refine (callsIn_wide (n:=0)).1 (callsIn_of_wp_marks hf hb trivial ?_ rfl)
 have hul:=hargs.length
 let a0:Act:={ tmps:=us.toArray ++ Array.replicate (fn.ntmps - us.toArray.size) undef,defers:=[] }
 have hrel:Rel w (imm,fp w,(fun _=>undef),(fun _=>none),fun _ _=>undef) nt (HSt.den ⟨a0y 0 args,[]⟩) a0 w:=by
  refine ⟨{ old:=(imm,fp w,(fun _=>undef),(fun _=>none),fun _ _=>undef),imm:=imm,tab:=htab,own:=fun _=>undef,blk:=fun _=>noB,rows:=fun _ _=>undef },rfl,o9.nil _ _ _ _, ?_,Below.refl _ _,fun d x hx=>?_,fun id ob ho=>?_,fun i i' ob ob' b ho=>?_,himm,fun id ob b ho=>?_,fun b _=>rfl,fun b ob hb=>hb,fun id ob b ho=>?_,fun id _=>.inl rfl⟩
  · simp only [a0,Array.size_append,Array.size_replicate,List.size_toArray,hn];omega
  · obtain ⟨y,_,hy,rfl⟩:=a5n args 0 d x hx
    simp only [Nat.sub_zero] at hy
    obtain ⟨u,hu,hr⟩:=hargs.get d y hy
    have hd:d < us.length:=(List.getElem?_eq_some_iff.1 hu).1
    have:a0.tmps.getD d undef = u:=by
     have e1:a0.tmps[d]? = some u:=by
      simp only [a0]
      rw [Array.getElem?_append_left (by simpa using hd)]
      simpa using hu
     have e2:d < a0.tmps.size:=(Array.getElem?_eq_some_iff.1 e1).1
     rw [Array.getD_eq_getD_getElem?,e1]
     rfl
    rw [this]
    exact fb.of_P hr
  · simp [HSt.den,bj] at ho
  · simp [HSt.den,bj] at ho
  · simp [HSt.den,bj] at ho
  · simp [HSt.den,bj] at ho
 refine wpIn_mono (h w (imm,fp w,(fun _=>undef),(fun _=>none),fun _ _=>undef) a0 w hrel) fun e a' w1 ⟨st',⟨hex,hres⟩,hr1⟩=>?_
 suffices key:LeavesInM (rf none) 0 P fn a'.tmps _ a'.defers .returning w1 by
  rcases hex with rfl | rfl <;> exact key
 refine Rel.strike rfl hr1 fun w' hr'=>?_
 obtain ⟨c,hold,hrc⟩:=hr'
 obtain ⟨p,l,q,vs,h1,h2,h3,h4,h5⟩:=hres
 have hfrm:∀ b,b < w.heap.size → c.frm b ≠ none ∧ w'.heap[b]? = w.heap[b]?:=fun b hb=>by
  have e1:c.frm b = some w.heap[b]:=by
   show c.old.2.1 b = _
   rw [hold]
   exact Array.getElem?_eq_getElem hb
  refine ⟨by rw [e1];simp, ?_⟩
  rw [hrc.frm b _ e1,Array.getElem?_eq_getElem hb]
 have hwas:∀ b,b < w.heap.size → c.imm b = imm b:=fun b hb=>by
  rw [hrc.was b (hfrm b hb).1,hold]
 have hseen:uc w c w' (fun b=>if b < w.heap.size then imm b else w'.heap[b]?):=by
  refine ⟨fun b ob hbo=>?_,fun b hb _=>?_⟩
  · by_cases hlt:b < w.heap.size
    · simp only [hlt,if_true]
      rw [← hwas b hlt]
      exact hbo
    · simp only [hlt,if_false]
      exact hrc.imm b ob hbo
  · have:¬ b < w.heap.size:=fun hlt=>(hfrm b hlt).1 hb
    simp [this]
 have hrv:∃ v,(results fn a'.tmps).run P w' = .ok v w' ∧ nc (fun b=>if b < w.heap.size then imm b else w'.heap[b]?) (b4 res) v:=by
  let F:ResultVar → Sem Value:=fun | .tmp t=>pure (a'.tmps.getD t undef) | .cell ad t=>do loadVar t (← asAddr (a'.tmps.getD ad undef))
  obtain ⟨uvs,hrun,hrep⟩:=sb hE hrc F (fun _=>rfl) (fun _ _=>rfl) h1 h2
  have hF:results fn a'.tmps = (do let vs ← fn.results.mapM F;pure (if h:vs.size = 1 then vs[0] else .tuple vs)):=rfl
  rw [hF,Array.mapM_eq_mapM_toList,Sem.run_bind,Sem.run_map]
  have hview:=CoL.sound h5 (li hrc hseen hrep h3 h4)
  rw [hrun]
  simp only [Result.andThen_ok,Sem.run_pure]
  refine ⟨_,rfl, ?_⟩
  match res,uvs,hview with
  | [x],[u],hv=>simp only [b4,nc];simpa using hv.1
  | [],[],hv=>exact ⟨[],by simp,trivial⟩
  | x :: y :: r,u :: v :: t,hv=>exact ⟨u :: v :: t,by simp,hv⟩
  | [],_ :: _,hv=>exact hv.elim
  | [_],[],hv=>exact hv.elim
  | [_],_ :: _ :: _,hv=>exact hv.2.elim
  | _ :: _ :: _,[],hv=>exact hv.elim
  | _ :: _ :: _,[_],hv=>exact hv.2.elim
 obtain ⟨v,hv1,hv2⟩:=hrv
 have hfin:(∃ v_1 imm',Ending.returned v = Ending.returned v_1 ∧ nc imm' (b4 res) v_1 ∧ (∀ b,b < w.heap.size → imm' b = imm b) ∧ (∀ b ob,imm' b = some ob → w'.heap[b]? = some ob) ∧ Below w.heap.size w w'):=by
  refine ⟨v,_,rfl,hv2,fun b hb=>by simp [hb],fun b ob hbo=>?_,⟨hrc.below.os,hrc.below.tape,hrc.below.output,hrc.below.size,fun k hk=>(hfrm k hk).2,hrc.below.drawn⟩⟩
  by_cases hlt:b < w.heap.size
  · simp only [hlt,if_true] at hbo
    refine hrc.imm b ob ?_
    rw [hwas b hlt]
    exact hbo
  · simpa [hlt] using hbo
 exact ⟨v,hv1,hfin⟩
end
end Go.Hx
end
section
namespace Go.Hx
open Go.RowKit
section
variable {ro:Option Nat} {P:Program} {nt:Nat} {st:HSt} {Q:Exit → HSt → Prop}
theorem tu (st:HSt) (id:Nat):(HSt.den ⟨st.t,(id,none) :: st.o⟩) = st.den.setO id none:=by
 unfold HSt.den S.setO
 simp [bo]
theorem wd {c:Code} (st1:HSt) (d:Nat) (x:HR) (hs:∀ w0 m0 a w,Rel w0 m0 nt st.den a w → ∃ cc,cc.old = m0 ∧ al w0 nt cc st1.den a w ∧ b7 cc st1.den.o x (a.tmps.getD d undef))
 (h:HW (ro:=ro) P nt c ⟨(d,some x) :: st1.t,st1.o⟩ Q):HW (ro:=ro) P nt c st Q:=fun w0 m0 a w hr=>by
 obtain ⟨cc,hold,hrr,hx⟩:=hs w0 m0 a w hr
 refine h w0 m0 a w ⟨cc,hold,hrr.defers,hrr.size,hrr.below,fun k y hy=>?_,hrr.objs,hrr.inj,hrr.imm,hrr.sep,hrr.was,hrr.frm,hrr.fsep,hrr.fixed⟩
 simp only [HSt.den] at hy
 rw [bo] at hy
 dsimp only at hy
 split at hy
 · rename_i hk
   subst hk
   simp only [Option.some.injEq] at hy
   subst hy
   exact hx
 · exact hrr.tmps k y hy
theorem dn {c:Code} (d:Nat) {id n n' s:Nat} {wr:Bool} {e:TypeId} {f:Nat → Nat → PV} (hd:bj st.t d = some (.v (.one (.ref id n)))) (ho:bj st.o id = some (.arr wr s e n' f)) (hn:n' = n)
 (h:HW (ro:=ro) P nt c ⟨(d,some (c5 (.sl n s false f))) :: st.t,(id,none) :: st.o⟩ Q):HW (ro:=ro) P nt c st Q:=by
 subst hn
 refine wd ⟨st.t,(id,none) :: st.o⟩ d (c5 (.sl n' s false f)) (fun w0 m0 a w hr=>?_) h
 obtain ⟨cc,hold,hrr⟩:=hr
 refine ⟨_, ?_,by rw [tu];exact hrr.freeze ho, ?_⟩
 · exact hold
 · obtain ⟨_,_,h3⟩:=hrr.tmps d _ hd
   have:=(h3 _ _ _ _ ho rfl).2 rfl
   rw [this]
   exact oj hrr ho
theorem nb {c:Code} (d:Nat) {id:Nat} {l:List HV} {ps:List PV} (hd:bj st.t d = some (.v (.one (.ptr id 0)))) (ho:bj st.o id = some (.box l)) (hp:jb l = some ps)
 (h:HW (ro:=ro) P nt c ⟨(d,some (c5 (.vp ps.length fun j=>ps.getD j .any))) :: st.t,(id,none) :: st.o⟩ Q):HW (ro:=ro) P nt c st Q:=by
 refine wd ⟨st.t,(id,none) :: st.o⟩ d _ (fun w0 m0 a w hr=>?_) h
 obtain ⟨cc,hold,hrr⟩:=hr
 refine ⟨_, ?_,by rw [tu];exact hrr.freeze ho, ?_⟩
 · exact hold
 · obtain ⟨_,_,h3⟩:=hrr.tmps d _ hd
   obtain ⟨b,hb,hu⟩:=h3 l ho
   rw [hu,← hb]
   exact aew hrr ho hp
theorem ju {c:Code} (bx off:Nat) {id n n' s:Nat} {wr:Bool} {e:TypeId} {f:Nat → Nat → PV} {l:List HV} (hb:bj st.o bx = some (.box l)) (hl:l[off]? = some (.ref id n)) (ho:bj st.o id = some (.arr wr s e n' f)) (hn:n' = n) (hne:Nat.beq bx id = false)
 (h:HW (ro:=ro) P nt c ⟨st.t,(bx,some (.box (bu l off [.p (.sl n s false f)]))) :: (id,none) :: st.o⟩ Q):HW (ro:=ro) P nt c st Q:=fun w0 m0 a w hr=>by
 subst hn
 obtain ⟨cc,hold,hrr⟩:=hr
 have hbi:bx ≠ id:=by rintro rfl;simp at hne
 have hfr:=hrr.freeze (id:=id) ho
 rw [← tu] at hfr
 have hb':(HSt.den ⟨st.t,(id,none) :: st.o⟩).o bx = some (.box l):=by
  simp only [HSt.den,bo,hbi,if_false];exact hb
 refine h w0 m0 a w ?_
 · have hw:=hfr.write bx (.box l) hb' (.box (bu l off [.p (.sl n' s false f)])) w (cc.own bx) (cc.blk bx) none (Grw.refl w _) (fun _ e=>by cases e) (.inr (.inl ⟨l,bu l off [.p (.sl n' s false f)],hb',by simp [S.setO],by simp⟩)) (fun b hb=>.inl hb) (by
    obtain ⟨b,C,ee,q1,q2,q3,q4,q5⟩:=hfr.objs bx _ hb'
    refine ⟨b,C,ee,by simpa using q1,by simpa using q2,q3,q4, ?_⟩
    have hoff:off < l.length:=(List.getElem?_eq_some_iff.1 hl).1
    have hcl:=q5.length
    refine bq.of_get ?_ fun k x u hx hu=>?_
    · simp only [bu,List.length_append,List.length_take,List.length_drop,List.length_singleton];omega
    · have hx':=hx
      unfold bu at hx'
      rw [d9 l [HV.p (.sl n' s false f)] off k (by simp;omega)] at hx'
      by_cases hk:k = off
      · subst hk
        simp at hx'
        subst hx'
        obtain ⟨b0,C0,e0,p1,p2,p3,p4,p5⟩:=hrr.objs bx _ hb
        have hbb:b0 = b:=by
         have q2':cc.blk bx = tl b:=q2
         have q3':tl b b0:=by rw [← q2',p2];rfl
         exact q3'
        subst hbb
        have hCC:C0 = C:=by
         rw [q4] at p4
         simp only [Option.some.injEq,Obj.cells.injEq] at p4
         exact p4.1.symm
        subst hCC
        obtain ⟨u',hu',hr'⟩:=p5.get k _ hl
        rw [hu] at hu'
        simp only [Option.some.injEq] at hu'
        subst hu'
        obtain ⟨_,_,h3⟩:=hr'
        have:=(h3 _ _ _ _ ho rfl).2 rfl
        rw [this]
        exact oj hrr ho
      · rw [if_neg (by simp;omega)] at hx'
        obtain ⟨u',hu',hr'⟩:=q5.get k x hx'
        rw [hu] at hu'
        simp only [Option.some.injEq] at hu'
        subst hu'
        refine bp.evo ?_ (fun j _=>?_) hr'
        · exact Imm.le.refl (frozenImm cc w id)
        by_cases hj:j = bx
        · subst hj;exact .inr (.inl ⟨l,bu l off [.p (.sl n' s false f)],hb',by simp [S.setO],by simp⟩)
        · exact Evo.of_same (by simp [S.setO,hj]) (by simp [hj]))
   have e:HSt.den ⟨st.t,(bx,some (.box (bu l off [.p (.sl n' s false f)]))) :: (id,none) :: st.o⟩ = (HSt.den ⟨st.t,(id,none) :: st.o⟩).setO bx (some (.box (bu l off [.p (.sl n' s false f)]))):=by
    unfold HSt.den S.setO
    simp only [S.mk.injEq,true_and]
    funext k
    simp only [bo]
   rw [e]
   exact ⟨_,(by exact hold),hw⟩
theorem a57 {c:Code} (x:Nat) {id s s2 n n2:Nat} {e e2:TypeId} {ob:ag} {y:PV} {ms:List Nat} {g:Nat → Nat → HV} (g':Nat → Nat → PV) (hb:bj st.o x = some (.arrh s2 e2 n2 ms g)) (ho:bj st.o id = some ob) (hdim:ob.dim = some (s,e,n))
 (hfz:∀ {w0:World} {nt:Nat} {c:Ctx} {s:S} {a:Act} {w:World},al w0 nt c s a w → s.o id = some ob → b9 (frozenImm c w id) y (c.own id)) (hne:Nat.beq x id = false)
 (hg:∀ i j,i < n2 → j < s2 → (∃ k,g i j = .ref id k ∧ k = n ∧ CoP y (g' i j)) ∨ CoH (g i j) (.p (g' i j)))
 (h:HW (ro:=ro) P nt c ⟨st.t,(x,some (.arr true s2 e2 n2 g')) :: (id,none) :: st.o⟩ Q):HW (ro:=ro) P nt c st Q:=fun w0 m0 a w hr=>by
 obtain ⟨cc,hold,hrr⟩:=hr
 have hbi:x ≠ id:=by rintro rfl;simp at hne
 have hfr:=hrr.freeze (id:=id) ho
 rw [← tu] at hfr
 have hb':(HSt.den ⟨st.t,(id,none) :: st.o⟩).o x = some (.arrh s2 e2 n2 ms g):=by
  simp only [HSt.den,bo,hbi,if_false];exact hb
 refine h w0 m0 a w ?_
 have hevo:Evo { old:=cc.old,imm:=frozenImm cc w id,tab:=od hrr ho,own:=cc.own,blk:=cc.blk,rows:=cc.rows } (HSt.den ⟨st.t,(id,none) :: st.o⟩).o { old:=cc.old,imm:=frozenImm cc w id,tab:=od hrr ho,own:=fun k=>if k = x then cc.own x else cc.own k,blk:=fun k=>if k = x then cc.blk x else cc.blk k,rows:=cc.rows } ((HSt.den ⟨st.t,(id,none) :: st.o⟩).setO x (some (.arr true s2 e2 n2 g'))).o x :=
  .inr (.inr ⟨_, .arr true s2 e2 n2 g',s2,e2,n2,n2,hb',rfl,by simp [S.setO],rfl,Nat.le_refl _,fun _=>by simp,fun _ _ _ _ _ _ _ hb=>by cases hb⟩)
 have hw:=hfr.write x _ hb' (.arr true s2 e2 n2 g') w (cc.own x) (cc.blk x) none (Grw.refl w _) (fun _ e=>by cases e) hevo (fun b hb=>.inl hb) (by
  obtain ⟨q0,q1,qm,q2⟩:=hrr.objs x _ hb
  refine ⟨q0,q1, ?_⟩
  rcases q2 with ⟨q3,xs,q4,q5⟩ | ⟨rfl,q3,q4⟩
  · refine .inl ⟨by simpa using q3,xs,by simpa using q4,fun i j hi hj=>?_⟩
    obtain ⟨v,hv,hrv⟩:=q5 i j hi hj
    refine ⟨v,hv, ?_⟩
    show b9 (frozenImm cc w id) (g' i j) v
    rcases hg i j hi hj with ⟨k,hk,rfl,hco⟩ | hco
    · rw [hk] at hrv
      obtain ⟨_,_,h3⟩:=hrv
      rw [(h3 _ _ _ _ ho hdim).2 rfl]
      exact hco _ _ (hfz hrr ho)
    · exact b9.mono (uw hrr ho) (bp.co hco hrv)
  · refine .inr ⟨.inr rfl,by simpa using q3, ?_⟩
    have:=b9.mono (uw hrr ho) q4
    simpa using CoP.sl rfl (.inl rfl) (fun h=>h) (fun i j hi _=>by omega) _ _ this)
 have e:HSt.den ⟨st.t,(x,some (.arr true s2 e2 n2 g')) :: (id,none) :: st.o⟩ = (HSt.den ⟨st.t,(id,none) :: st.o⟩).setO x (some (.arr true s2 e2 n2 g')):=by
  unfold HSt.den S.setO
  simp only [S.mk.injEq,true_and]
  funext k
  simp only [bo]
 rw [e]
 exact ⟨_,(by exact hold),hw⟩
theorem wv {c:Code} (x:Nat) {id s s2 n n2:Nat} {wr:Bool} {e e2:TypeId} {f:Nat → Nat → PV} {ms:List Nat} {g:Nat → Nat → HV} (g':Nat → Nat → PV) (hb:bj st.o x = some (.arrh s2 e2 n2 ms g)) (ho:bj st.o id = some (.arr wr s e n f)) (hne:Nat.beq x id = false)
 (hg:∀ i j,i < n2 → j < s2 → (∃ k,g i j = .ref id k ∧ k = n ∧ CoP (.sl n s false f) (g' i j)) ∨ CoH (g i j) (.p (g' i j)))
 (h:HW (ro:=ro) P nt c ⟨st.t,(x,some (.arr true s2 e2 n2 g')) :: (id,none) :: st.o⟩ Q):HW (ro:=ro) P nt c st Q:=a57 x g' hb ho rfl (fun hr ho=>oj hr ho) hne hg h
end
end Go.Hx
end
