/- A part of the proof: Hx13 Hx14. -/
import Derived.Test.YteklilhbjjofbaaGreatDoorLc11
set_option linter.all false
namespace Go.Hx
section
open Go.RowKit
def lm (ops:Array Oper) (j:Nat):List Nat :=
 match ops[j]? with
 | some o=>(o.after.toList.filter fun e=>Region.binds .any e).map (·.on)
 | none=>[]
def wh (acc:List Nat):List Nat -> Nat
 | []=>0
 | e :: r=>wh acc r ||| 2 ^ e ||| acc.getD e 0
def qf (ops:Array Oper):Nat -> List Nat
 | 0=>[]
 | n + 1=>qf ops n ++ [wh (qf ops n) (lm ops n)]
def jv (ops:Array Oper):∀ n,(qf ops n).length = n
 | 0=>rfl
 | n + 1=>by simp [qf,jv ops n]
def qt (ops:Array Oper):∀ n j,j < n -> (qf ops n).getD j 0 = wh (qf ops j) (lm ops j)
 | n + 1,j,h=>by
  simp only [qf,b2r];by_cases hj:j < n
  · rw [b4t (by rw [jv];exact hj)]
    have:=qt ops n j hj;rwa [b2r] at this
  have:j = n:=by omega
  subst this;rw [b4q (by rw [jv];omega),jv];simp
def a4l (acc:List Nat) (i:Nat):∀ l,(wh acc l).testBit i = true -> ∃ e ∈ l,e = i \/ (acc.getD e 0).testBit i = true
 | [],h=>by simp [wh] at h
 | e :: r,h=>by
  simp only [wh,Nat.testBit_or,b43,Nat.testBit_two_pow,decide_eq_true_eq] at h
  rcases h with (h | h) | h
  · obtain ⟨e',he,hh⟩:=a4l acc i r h
    exact ⟨e',by simp [he],hh⟩
  · exact ⟨e,by simp, .inl h⟩
  exact ⟨e,by simp, .inr h⟩
def a3q (ops:Array Oper) (j i:Nat):Bool:=((qf ops (j + 1)).getD j 0).testBit i
structure Inv (ops:Array Oper) (listed:Array Bool):Prop where
 size:listed.size = ops.size
 closed:∀ j,listed.getD j false = true -> ∀ e ∈ lm ops j,listed.getD e false = true
section
variable {listed:Array Bool} {ops:Array Oper}
def aa6 (inv:Inv ops listed):∀ j,(∀ e ∈ lm ops j,listed.getD e false = true) -> ∀ i,a3q ops j i = true -> listed.getD i false = true:=by
 intro j
 induction j using Nat.strongRecOn with
 | _ j ih =>
  intro hd i hr;unfold a3q at hr;rw [qt ops (j + 1) j b5s] at hr;obtain ⟨e,he,hh⟩:=a4l _ i _ hr
  rcases hh with rfl | hh
  · exact hd e he
  by_cases hej:e < j
  · rw [qt ops j e hej] at hh
    refine ih e hej (fun e' he'=>inv.closed e (hd e he) e' he') i ?_;unfold a3q;rw [qt ops (e + 1) e b5s];exact hh
  rw [b2r,b4m (by rw [jv];omega)] at hh;simp at hh
def mem_ready' {i:Nat}:i ∈ Region.ready .any ops listed <-> (i < ops.size /\ listed.getD i true = false /\ ∀ e ∈ lm ops i,listed.getD e false = true):=by
 unfold Region.ready lm;simp only [b4x,b3e,b2x,b3y];constructor
 · rintro ⟨h1,h2,h3⟩
   refine ⟨h1,h2, ?_⟩;rw [b3r h1] at h3 ⊢;simp only [b3c,b3z,Array.all_eq_true'] at h3;intro e he;simp only [b3a,b4x] at he;obtain ⟨ed,⟨hm,hb⟩,rfl⟩:=he;have:=h3 ed (by simpa using hm);simp only [hb,Bool.not_true,Bool.false_or] at this;exact this
 rintro ⟨h1,h2,h3⟩;refine ⟨h1,h2, ?_⟩;rw [b3r h1] at h3 ⊢;simp only [b3c,b3z,Array.all_eq_true'];intro ed hm;by_cases hb:Region.binds .any ed = true
 · simp only [hb,Bool.not_true,Bool.false_or]
   refine h3 ed.on ?_;simp only [b3a,b4x];exact ⟨ed,⟨by simpa using hm,hb⟩,rfl⟩
 simp [hb]
def am3 (ops:Array Oper) (j d:Nat):Bool:=(lm ops j).any (Nat.beq d)
def ahr {j d:Nat} (h:am3 ops j d = false):d ∉ lm ops j:=by
 intro hm;unfold am3 at h;rw [b4a] at h;exact h d hm b5v
def qe (ops:Array Oper) (x y:Tr):Bool:=!(Nat.beq x.i y.i) && !am3 ops x.i y.i && (a3q ops y.i x.i || a54 ops x y)
def a10 (ops:Array Oper):List Tr -> Bool
 | []=>true
 | x :: T=>T.all (qe ops x) && a10 ops T
def a4o (ops:Array Oper) (x:Tr):Bool:=Nat.blt x.i ops.size && (lm ops x.i).all fun d=>Nat.blt d ops.size && !(Nat.beq d x.i)
def a4z (ops:Array Oper) (T:List Tr):Bool :=
 Nat.beq T.length ops.size && (List.range ops.size).all (fun k=>T.any fun t=>Nat.beq t.i k) && T.all (a4o ops) && a10 ops T
def tl:∀ {T:List Tr},a10 ops T = true -> T.Pairwise fun x y=>qe ops x y = true
 | [],_=>List.Pairwise.nil
 | x :: T,h=>by
  simp only [a10,b2x,b3j] at h;exact List.Pairwise.cons h.1 (tl h.2)
end
section
variable {P:Program} {E:Env} {nt:Nat} {ops:Array Oper} {w0:World} {m0:Old} {sf:S}
def aj0 (m j:Nat):(Array.replicate m false).getD j false = false:=by
 rcases b5e j m with h | h <;> simp [h]
def uj {l:Array Bool} {i:Nat} (hi:i < l.size):(l.getD i true = false) <-> ¬ (l.getD i false = true):=by
 simp [hi]
section
variable {Q:Exit -> Act -> World -> Prop} {ro:Option Nat}
def a6f (hE:bn P E) {n:Nat} (hQ:∀ a' w',Rel w0 m0 nt sf a' w' -> Q .normal a' w'):
 ∀ (fuel:Nat) (listed:Array Bool) (T:List Tr) (s:S) (a:Act) (w:World),T.length = fuel -> Inv ops listed -> (∀ i,i < ops.size -> (listed.getD i true = false <-> ∃ t ∈ T,t.i = i)) ->
  (∀ t ∈ T,a4o ops t = true) -> (T.Pairwise fun x y=>qe ops x y = true) -> jl P E nt ops T s sf -> Rel w0 m0 nt s a w -> wpAnyIn (rf ro) n P .any ops Q fuel listed a w:=by
 intro fuel
 induction fuel with
 | zero =>
  intro listed T s a w hl inv hun _ _ hT hr;have:T = []:=b47 hl;subst this;cases hT;refine ⟨?_,hQ _ _ hr⟩
  cases hrd:Region.ready .any ops listed with
  | nil=>rfl
  | cons i r =>
   have hi:i ∈ Region.ready .any ops listed:=by rw [hrd];simp
   obtain ⟨h1,h2,_⟩:=mem_ready'.1 hi;obtain ⟨t,ht,_⟩:=(hun i h1).1 h2;cases ht
 | succ fuel ih =>
  intro listed T s a w hl inv hun hself hpw hT hr;refine ⟨fun hnil=>?_,fun i hi=>?_⟩
  ·
   exfalso
   cases T with
   | nil=>simp at hl
   | cons x T =>
    have hs:=hself x b5v;simp only [a4o,b2x,b3j,b3y] at hs;obtain ⟨hs1,hs2⟩:=hs;have hs1:x.i < ops.size:=by simpa [Nat.blt_eq] using hs1
    have hx:x.i ∈ Region.ready .any ops listed:=by
     refine mem_ready'.2 ⟨hs1,(hun x.i hs1).2 ⟨x,by simp,rfl⟩,fun d hd=>?_⟩;obtain ⟨hd1,hd2⟩:=hs2 d hd;have hd1:d < ops.size:=by simpa [Nat.blt_eq] using hd1
     have hd2:d ≠ x.i:=by rintro rfl;simp at hd2
     apply Classical.byContradiction;intro hne;have hu:=(uj (by rw [inv.size];exact hd1)).2 hne;obtain ⟨t,ht,hti⟩:=(hun d hd1).1 hu
     rcases b2z.1 ht with rfl | ht
     · exact hd2 hti.symm
     have:=(b3q.1 hpw).1 t ht;simp only [qe,b2x,b3y] at this;exact ahr this.1.2 (by rw [hti];exact hd)
    rw [hnil] at hx;cases hx
  obtain ⟨h1,h2,h3⟩:=mem_ready'.1 hi;obtain ⟨y,hy,hyi⟩:=(hun i h1).1 h2;obtain ⟨pre,post,rfl⟩:=List.append_of_mem hy
  have hpass:∀ x ∈ pre,a54 ops x y = true:=by
   intro x hx;have hp:qe ops x y = true:=(List.pairwise_append.1 hpw).2.2 x hx y b5v;simp only [qe,b2x,b43] at hp
   rcases hp.2 with hre | hpa
   · exfalso
     have hl:=aa6 inv y.i (by rw [hyi];exact h3) x.i hre;have hsx:=hself x (by simp [hx]);simp only [a4o,b2x] at hsx;have hsx1:x.i < ops.size:=by simpa [Nat.blt_eq] using hsx.1
     have:=(hun x.i hsx1).2 ⟨x,by simp [hx],rfl⟩;exact (uj (by rw [inv.size];exact hsx1)).1 this hl
   exact hpa
  have hfront:=acn hT hpass
  cases hfront with
  | @cons iy an R O F o _ _ v wr _ hio he hR hO hF hrest =>
  have hyi':iy = i:=hyi;subst hyi';refine a7n hE he hr hio fun a' w' hr'=>?_;have hsub:List.Sublist (pre ++ post) (pre ++ (⟨iy,an,R,O,F⟩:Tr) :: post):=(List.Sublist.refl pre).append (List.sublist_cons_self _ _);have hsz:iy < listed.size:=by rw [inv.size];exact h1
  refine ih (listed.setIfInBounds iy true) (pre ++ post) _ a' w' (by simp at hl ⊢;omega) ⟨by simp [inv.size],fun j hj e he=>?_⟩ (fun k hk=>?_) (fun t ht=>hself t (hsub.subset ht)) (hpw.sublist hsub) hrest hr'
  · by_cases hji:iy = j
    · subst hji
      exact getD_set_true (h3 e he)
    rw [getD_set_ne false hji] at hj;exact getD_set_true (inv.closed j hj e he)
  by_cases hki:iy = k
  · subst hki
    constructor
    · intro h
      simp [hsz] at h
    rintro ⟨t,ht,hti⟩;exfalso
    rcases b3f.1 ht with ht | ht
    · have hp:=(List.pairwise_append.1 hpw).2.2 t ht ⟨iy,an,R,O,F⟩ b5v
      simp only [qe,b2x,b3y] at hp;rw [hti] at hp;simp at hp
    have hp:=(b3q.1 (List.pairwise_append.1 hpw).2.1).1 t ht;simp only [qe,b2x,b3y] at hp;rw [hti] at hp;simp at hp
  rw [getD_set_ne true hki,hun k hk];constructor
  · rintro ⟨t,ht,hti⟩
    refine ⟨t, ?_,hti⟩;simp only [b3f,b2z] at ht ⊢
    rcases ht with ht | rfl | ht
    · exact .inl ht
    · exact absurd hti hki
    exact .inr ht
  rintro ⟨t,ht,hti⟩;exact ⟨t,hsub.subset ht,hti⟩
def a3u (hE:bn P E) {n:Nat} (hm:P.follows .mixedOrders = true) {id:Nat} {T:List Tr} {s:S} {a:Act} {w:World} (hT:jl P E nt ops T s sf) (hc:a4z ops T = true) (hr:Rel w0 m0 nt s a w) (hQ:∀ a' w',Rel w0 m0 nt sf a' w' -> Q .normal a' w'):(Code.region id ops true).wpIn (rf ro) n P Q a w:=by
 simp only [a4z,b2x,b3j] at hc;obtain ⟨⟨⟨h1,h2⟩,h3⟩,h4⟩:=hc;refine wpIn_region_any hm ?_;refine a6f hE hQ ops.size _ T s a _ (by simpa using h1) ⟨by simp,fun j hj=>?_⟩ (fun i hi=>⟨fun _=>?_,fun _=>by simp [hi]⟩) h3 (tl h4) hT ?_
 · rw [aj0] at hj;cases hj
 · have:=h2 i (b3e.2 hi)
   obtain ⟨t,ht,hti⟩:=b3l.1 this;exact ⟨t,ht,by simpa using hti⟩
 obtain ⟨c,hold,hr⟩:=hr;exact ⟨c,hold,hr.drew⟩
def wg (hE:bn P E) {n:Nat} (hQ:∀ a' w',Rel w0 m0 nt sf a' w' -> Q .normal a' w'):∀ (T:List Tr) (s:S) (a:Act) (w:World),jl P E nt ops T s sf -> Rel w0 m0 nt s a w -> wpOpsIn (rf ro) n P ops Q (T.map (·.i)) a w
 | [],s,a,w,hT,hr=>by
  cases hT;exact hQ _ _ hr
 | t :: T,s,a,w,hT,hr=>by
  cases hT with
  | cons hi he hR hO hF hrest =>
  rw [b4c,wpOpsIn_cons];exact a7n hE he hr hi fun a' w' hr'=>wg hE hQ T _ a' w' hrest hr'
end
end
def b6 {α:Type}:List (Nat × Option α) -> Nat -> Option α
 | [],_=>none
 | (e,x) :: r,d=>bif Nat.beq e d then x else b6 r d
structure HSt where
 t:List (Nat × Option HR)
 o:List (Nat × Option a6)
def HSt.den (st:HSt):S:=⟨b6 st.t,b6 st.o⟩
def HSt.after (st:HSt) (d:Option Tmp) (x:Option HR) (wr:Wr):HSt :=
 ⟨match d with | some d=>(d,x) :: st.t | none=>st.t,wr ++ st.o⟩
def aai (l:List (Nat × Option a6)):∀ (wr:Wr),b6 (wr ++ l) = fun k=>match ew wr k with | some r=>r | none=>b6 l k
 | []=>rfl
 | (e,x) :: r=>by
  funext k;have ih:=congrFun (aai l r) k;simp only [b4g,b6,ew]
  cases hb:Nat.beq e k with
  | true=>rfl
  | false=>simp only [cond_false];exact ih
def ax {α:Type} (e:Nat) (x:Option α) (l:List (Nat × Option α)):b6 ((e,x) :: l) = fun k=>if k = e then x else b6 l k:=by
 funext k;simp only [b6];by_cases h:k = e
 · subst h;simp
 have:Nat.beq e k = false:=by
  rw [b38];intro hb;exact h (b3b hb).symm
 simp [h,this]
def ic (st:HSt) (d:Option Tmp) (x:Option HR) (wr:Wr):(st.after d x wr).den = st.den.after d x wr:=by
 unfold HSt.after HSt.den S.after S.putD S.setW S.put;cases d <;> simp [ax,aai] <;> rfl
def a3l (id:Nat) (l:List Nat):Bool:=!(l.any (Nat.beq id))
def nmT (id:Nat):List (Nat × Option HR) -> Bool
 | []=>true
 | (_,some x) :: r=>a3l id x.ids && nmT id r
 | (_,none) :: r=>nmT id r
def nmO (id:Nat):List (Nat × Option a6) -> Bool
 | []=>true
 | (_,some x) :: r=>a3l id x.ids && nmO id r
 | (_,none) :: r=>nmO id r
section
variable {id:Nat}
def xw {l:List Nat} (h:a3l id l = true):id ∉ l:=by
 intro hm;simp only [a3l,b3y] at h;rw [b4a] at h;exact h id hm b5v
def xf:∀ {l:List (Nat × Option HR)},nmT id l = true -> ∀ d x,b6 l d = some x -> ¬ x.men id
 | [],_,d,x,h=>by simp [b6] at h
 | (e,some y) :: r,h,d,x,hl=>by
  simp only [nmT,b2x] at h;rw [ax] at hl;dsimp only at hl;split at hl
  · simp only [b2p] at hl
    subst hl;exact fun hm=>xw h.1 (HR.men_ids hm)
  exact xf h.2 d x hl
 | (e,none) :: r,h,d,x,hl=>by
  rw [ax] at hl;dsimp only at hl;split at hl
  · cases hl
  exact xf (by simpa [nmT] using h) d x hl
def a3a:∀ {l:List (Nat × Option a6)},nmO id l = true -> ∀ d x,b6 l d = some x -> ¬ x.men id
 | [],_,d,x,h=>by simp [b6] at h
 | (e,some y) :: r,h,d,x,hl=>by
  simp only [nmO,b2x] at h;rw [ax] at hl;dsimp only at hl;split at hl
  · simp only [b2p] at hl
    subst hl;exact fun hm=>xw h.1 (a6.men_ids hm)
  exact a3a h.2 d x hl
 | (e,none) :: r,h,d,x,hl=>by
  rw [ax] at hl;dsimp only at hl;split at hl
  · cases hl
  exact a3a (by simpa [nmO] using h) d x hl
def pg (id:Nat) (st:HSt):Bool:=Nat.blt id 1000 && nmT id st.t && nmO id st.o && (match b6 st.o id with | none=>true | some _=>false)
def ky {st:HSt} (h:pg id st = true):NM st.den id /\ st.den.o id = none:=by
 simp only [pg,b2x] at h;obtain ⟨⟨⟨h0,h1⟩,h2⟩,h3⟩:=h;refine ⟨⟨xf h1,a3a h2,by simpa [Nat.blt_eq] using h0⟩, ?_⟩;show b6 st.o id = none
 cases hl:b6 st.o id with
 | none=>rfl
 | some x=>rw [hl] at h3;cases h3
end
section
variable {P:Program} {E:Env} {nt:Nat} {ops:Array Oper} {i:Nat} {o:Oper} {st:HSt} {T:List Tr} {sf:S}
def a3d (ex:Bool) (M:List Nat):Ann:=⟨0,false,ex, .tup [],[],[],M⟩
def Reg (P:Program) (E:Env) (nt:Nat) (ops:Array Oper) (L:List Nat) (st:HSt) (K:List Tr -> HSt -> Prop):Prop :=
 ∃ T sf,T.map (·.i) = L /\ jl P E nt ops T st.den (HSt.den sf) /\ K T sf
variable {L:List Nat} {K:List Tr -> HSt -> Prop}
def da (h:K [] st):Reg P E nt ops [] st K:=⟨[],st,rfl, .nil _,h⟩
section
variable {gb:Bool}
def c0 (ex:Bool) {out:Out} (hi:ops[i]? = some o) (hw:ak ops st.den o = some gb) (hd:bz nt o.dst = true) (hq':hq E ex st.den.o (ev st.den) o.op = some out) (hg:gb = true) (hp:out.pre) (hT:Reg P E nt ops L (st.after o.dst (some out.val) []) fun T sf=>K (⟨i,a3d ex out.val.ids,looks st.den o,bd st.den o.dst [],db E st.den o⟩ :: T) sf):Reg P E nt ops (i :: L) st K:=by
 obtain ⟨T,sf,h1,h2,h3⟩:=hT;exact ⟨_,sf,by rw [<- h1];rfl, .cons hi (.quiet out (by rw [hw,hg]) hd hq' hp rfl) rfl (fun _ hk=>hk) (fun f hf=>⟨hf,by rw [hw,hg]⟩) (by rw [ic] at h2;exact h2),h3⟩
def ae3 (hi:ops[i]? = some o) (hw:ak ops st.den o = some gb) (hd:bz nt o.dst = true) (hg:gb = false) (hT:Reg P E nt ops L (st.after o.dst (some (.tup [])) []) fun T sf=>K (⟨i,a3d true [],looks st.den o,bd st.den o.dst [],none⟩ :: T) sf):Reg P E nt ops (i :: L) st K:=by
 obtain ⟨T,sf,h1,h2,h3⟩:=hT;exact ⟨_,sf,by rw [<- h1];rfl, .cons hi (.skip (by rw [hw,hg]) hd) rfl (fun _ hk=>hk) (by intro _ hf;cases hf) (by rw [ic] at h2;exact h2),h3⟩
def avr {out:Out} {id:Nat} (hi:ops[i]? = some o) (hw:ak ops st.den o = some gb) (hd:bz nt o.dst = true) (hq':rr E st.den.o (ev st.den) o.op = some (out,id)) (hg:gb = true) (hp:out.pre) (hT:Reg P E nt ops L (st.after o.dst (some out.val) [(id,none)]) fun T sf=>K (⟨i,⟨0,false,true, .tup [],[id],[],[]⟩,looks st.den o,bd st.den o.dst [(id,none)],none⟩ :: T) sf):Reg P E nt ops (i :: L) st K:=by
 obtain ⟨T,sf,h1,h2,h3⟩:=hT;exact ⟨_,sf,by rw [<- h1];rfl, .cons hi (.cut out id (by rw [hw,hg]) hd hq' hp rfl) rfl (fun _ hk=>hk) (by intro _ hf;cases hf) (by rw [ic] at h2;exact h2),h3⟩
def vm (id:Nat) {nw:New} (hi:ops[i]? = some o) (hw:ak ops st.den o = some gb) (hd:bz nt o.dst = true) (hq':ha E (ev st.den) id o.op = some nw) (hn:pg id st = true) (hg:gb = true) (hp:nw.pre) (hT:Reg P E nt ops L (st.after o.dst (some nw.val) [(id,some nw.ob)]) fun T sf=>K (⟨i,⟨id,false,true, .tup [],[id],[id],nw.val.ids ++ nw.ob.ids⟩,looks st.den o,bd st.den o.dst [(id,some nw.ob)],none⟩ :: T) sf):Reg P E nt ops (i :: L) st K:=by
 obtain ⟨T,sf,h1,h2,h3⟩:=hT;exact ⟨_,sf,by rw [<- h1];rfl, .cons hi (.make nw (by rw [hw,hg]) hd hq' hp (ky hn).1 (ky hn).2 rfl rfl rfl) rfl (fun _ hk=>hk) (by intro _ hf;cases hf) (by rw [ic] at h2;exact h2),h3⟩
def a9s {u:Upd} (hi:ops[i]? = some o) (hw:ak ops st.den o = some gb) (hd:bz nt o.dst = true) (hq':hs E st.den.o (ev st.den) o.op = some u) (hg:gb = true) (hp:u.pre) (hT:Reg P E nt ops L (st.after o.dst none [(u.id,some u.ob)]) fun T sf=>K (⟨i,⟨0,false,true, .tup [],[u.id],[],u.ob.ids⟩,looks st.den o,bd st.den o.dst [(u.id,some u.ob)],db E st.den o⟩ :: T) sf):Reg P E nt ops (i :: L) st K:=by
 obtain ⟨T,sf,h1,h2,h3⟩:=hT;exact ⟨_,sf,by rw [<- h1];rfl, .cons hi (.store u (by rw [hw,hg]) hd hq' hp rfl (fun _ hk=>hk)) rfl (fun _ hk=>hk) (fun f hf=>⟨hf,by rw [hw,hg]⟩) (by rw [ic] at h2;exact h2),h3⟩
def yn (id:Nat) (wb:Bool) {u:App} (hi:ops[i]? = some o) (hw:ak ops st.den o = some gb) (hd:bz nt o.dst = true) (hq':hap E st.den.o (ev st.den) id wb o.op = some u) (hn:(!u.new || pg id st) = true) (hg:gb = true) (hp:u.pre) (hT:Reg P E nt ops L (st.after o.dst (some u.val) [(u.id,some u.ob)]) fun T sf=>K (⟨i,⟨id,wb,true, .tup [],[u.id],if u.new then [id] else [],u.val.ids ++ u.ob.ids⟩,looks st.den o,bd st.den o.dst [(u.id,some u.ob)],none⟩ :: T) sf):Reg P E nt ops (i :: L) st K:=by
 obtain ⟨T,sf,h1,h2,h3⟩:=hT;exact ⟨_,sf,by rw [<- h1];rfl, .cons hi (.app u (by rw [hw,hg]) hd hq' hp (fun h=>ky (by rw [h] at hn;simpa using hn)) rfl (fun h=>by simp [h]) rfl) rfl (fun _ hk=>hk) (by intro _ hf;cases hf) (by rw [ic] at h2;exact h2),h3⟩
def ar1 {sr ds:TypeId} {x:Operand} {b:ByteArray} (hi:ops[i]? = some o) (hw:ak ops st.den o = some gb) (hd:bz nt o.dst = true) (ho:o.op = .convert sr ds x) (hcv:a43 E (ev st.den) sr ds x = some b) (hg:gb = true) (hp:b.size <= maxLen) (hT:Reg P E nt ops L (st.after o.dst (some (.v (.one (.p (.sl b.size 1 false (afn b)))))) []) fun T sf=>K (⟨i,⟨0,false,true, .tup [],[],[],[]⟩,looks st.den o,bd st.den o.dst [],none⟩ :: T) sf):Reg P E nt ops (i :: L) st K:=by
 obtain ⟨T,sf,h1,h2,h3⟩:=hT;exact ⟨_,sf,by rw [<- h1];rfl, .cons hi (.conv sr ds x b (by rw [hw,hg]) hd ho hcv hp rfl) rfl (fun _ hk=>hk) (by intro _ hf;cases hf) (by rw [ic] at h2;exact h2),h3⟩
def aei {cl:Call} {f:FuncId} {fst caps args vs:List PC} {p:Prop} {b:Bool} {res:PR} (hi:ops[i]? = some o) (hw:ak ops st.den o = some gb) (hd:bz nt o.dst = true) (ho:o.op = .call cl) (hc:callee (ev st.den) cl = some (f,fst,caps)) (hv:fu st.den.o (ev st.den) cl.args.toList = some (p,vs,b)) (hf:goodFn P f) (hpure:a8 P f args res) (hco:CoL (fst ++ (vs ++ caps)) args) (hg:gb = true) (hp:p) (hb:(!b || res.flat) = true) (hT:Reg P E nt ops L (st.after o.dst (some res.toH) []) fun T sf=>K (⟨i,⟨0,false,true,res,[],[],[]⟩,looks st.den o,bd st.den o.dst [],none⟩ :: T) sf):Reg P E nt ops (i :: L) st K:=by
 obtain ⟨T,sf,h1,h2,h3⟩:=hT;exact ⟨_,sf,by rw [<- h1];rfl,   .cons hi (.call cl f fst caps args p vs b (by rw [hw,hg]) hd ho hc hf hv hp hco hpure hb rfl) rfl (fun _ hk=>hk) (by intro _ hf;cases hf) (by rw [ic] at h2;exact h2),h3⟩
end
end
def HW {ro:Option Nat} (P:Program) (nt:Nat) (c:Code) (st:HSt) (Q:Exit -> HSt -> Prop):Prop :=
 ∀ w0 m0 a w,Rel w0 m0 nt st.den a w -> c.wpIn (rf ro) 0 P (fun e a' w'=>∃ st':HSt,Q e st' /\ Rel w0 m0 nt st'.den a' w') a w
def m7:List (Nat × Option HR) -> List (Nat × Option HR) -> Prop
 | [],_=>True
 | (d,some x) :: r,l=>(∃ y,b6 l d = some y /\ CoR y x) /\ m7 r l
 | (_,none) :: r,l=>m7 r l
def n8:List (Nat × Option a6) -> List (Nat × Option a6) -> Prop
 | [],_=>True
 | (d,some x) :: r,l=>(∃ y,b6 l d = some y /\ CoO y x) /\ n8 r l
 | (_,none) :: r,l=>n8 r l
def Sub (st st':HSt):Prop:=m7 st.t st'.t /\ n8 st.o st'.o
def uc:∀ {l l':List (Nat × Option HR)},m7 l l' -> ∀ d x,b6 l d = some x -> ∃ y,b6 l' d = some y /\ CoR y x
 | [],_,_,d,x,h=>by simp [b6] at h
 | (e,some y) :: r,l',h,d,x,hl=>by
  rw [ax] at hl;dsimp only at hl;split at hl
  · rename_i he;subst he;simp only [b2p] at hl;subst hl;exact h.1
  exact uc h.2 d x hl
 | (e,none) :: r,l',h,d,x,hl=>by
  rw [ax] at hl;dsimp only at hl;split at hl
  · cases hl
  exact uc (l:=r) h d x hl
def yh:∀ {l l':List (Nat × Option a6)},n8 l l' -> ∀ d x,b6 l d = some x -> ∃ y,b6 l' d = some y /\ CoO y x
 | [],_,_,d,x,h=>by simp [b6] at h
 | (e,some y) :: r,l',h,d,x,hl=>by
  rw [ax] at hl;dsimp only at hl;split at hl
  · rename_i he;subst he;simp only [b2p] at hl;subst hl;exact h.1
  exact yh h.2 d x hl
 | (e,none) :: r,l',h,d,x,hl=>by
  rw [ax] at hl;dsimp only at hl;split at hl
  · cases hl
  exact yh (l:=r) h d x hl
section
variable {ro:Option Nat} {P:Program} {E:Env} {nt:Nat} {st st':HSt} {Q Q':Exit -> HSt -> Prop} {w0:World} {m0:Old} {a:Act} {w:World}
theorem Rel.sub (hs:Sub st' st) (h:Rel w0 m0 nt st.den a w):Rel w0 m0 nt st'.den a w:=by
 obtain ⟨c,hold,h⟩:=h;exact ⟨c,hold,h.relax _ (fun d x hx=>uc hs.1 d x hx) (fun d x hx=>yh hs.2 d x hx)⟩
section
variable {c:Code}
def ae9 (h:HW (ro:=ro) P nt c st Q) (hq:∀ e st,Q e st -> Q' e st):HW (ro:=ro) P nt c st Q' :=
 fun w0 m0 a w hr=>wpIn_mono (h w0 m0 a w hr) fun e a w ⟨st',hQ,hr⟩=>⟨st',hq _ _ hQ,hr⟩
def aiu (st':HSt) (hs:Sub st' st) (h:HW (ro:=ro) P nt c st' Q):HW (ro:=ro) P nt c st Q:=fun w0 m0 a w hr=>h w0 m0 a w (hr.sub hs)
def f4 (h:Q .normal st):HW (ro:=ro) P nt .skip st Q:=fun _ _ _ _ hr=>wpIn_skip ⟨st,h,hr⟩
variable {id:Nat}
def c4 (h:Q (.exit id) st):HW (ro:=ro) P nt (.exit id) st Q:=fun _ _ _ _ hr=>wpIn_exit ⟨st,h,hr⟩
def a41 (h:Q .ret st):HW (ro:=ro) P nt .ret st Q:=fun _ _ _ _ hr=>wpIn_ret ⟨st,h,hr⟩
def av8 {ro:Option Nat} (P:Program) (nt:Nat) (y:Code) (Q:Exit -> HSt -> Prop):Exit -> HSt -> Prop
 | .normal,st=>HW (ro:=ro) P nt y st Q
 | e,st=>Q e st
def dc {x y:Code} (h:HW (ro:=ro) P nt x st (av8 (ro:=ro) P nt y Q)):HW (ro:=ro) P nt (.seq x y) st Q:=fun w0 m0 a w hr=>by
 refine wpIn_seq (wpIn_mono (h w0 m0 a w hr) fun e a' w' ⟨st',hQ,hr'⟩=>?_);cases e <;> simp only [Exit.then] <;> first | exact hQ w0 m0 a' w' hr' | exact ⟨st',hQ,hr'⟩
def am {c:Operand} {x y:Code} (b:Bool) (hc:ev st.den c = some (.v (.one (.p (.raw (.bool b)))))) (ht:b = true -> HW (ro:=ro) P nt x st Q) (hf:b = false -> HW (ro:=ro) P nt y st Q):HW (ro:=ro) P nt (.cond c x y) st Q:=fun w0 m0 a w hr=>by
 obtain ⟨cc,hold,hrr⟩:=hr;obtain ⟨e1,_⟩:=a7 hrr hc;exact wpIn_cond_split e1 (fun hb=>ht hb w0 m0 a w ⟨cc,hold,hrr⟩) (fun hb=>hf hb w0 m0 a w ⟨cc,hold,hrr⟩)
def ain (id:Nat) (Q:Exit -> HSt -> Prop):Exit -> HSt -> Prop
 | .exit id',st=>if id' = id then Q .normal st else Q (.exit id') st
 | e,st=>Q e st
def aad (h:HW (ro:=ro) P nt c st (ain id Q)):HW (ro:=ro) P nt (.block id c) st Q:=fun w0 m0 a w hr=>by
 refine wpIn_block (wpIn_mono (h w0 m0 a w hr) fun e a' w' ⟨st',hQ,hr'⟩=>?_);cases e <;> simp only [Exit.inBlock] <;> try exact ⟨st',hQ,hr'⟩
 rename_i id';simp only [ain] at hQ;split
 · rename_i h;rw [if_pos h] at hQ;exact ⟨st',hQ,hr'⟩
 rename_i h;rw [if_neg h] at hQ;exact ⟨st',hQ,hr'⟩
def abc {F:Fence} {m:Nat} {QQ:Exit -> Act -> World -> Prop} (I:Nat -> Act -> World -> Prop) (n0:Nat) {a:Act} {w:World} (h₀:I n0 a w) (round:∀ n a w,I n a w -> c.wpIn F m P (Exit.then (fun a' w'=>∃ m,m < n /\ I m a' w') QQ) a w):(Code.loop c).wpIn F m P QQ a w:=by
 intro b k cs hro hb hr
 have key:∀ n a w,I n a w -> ∃ e a' w',QQ e a' w' /\ ArrivesIn (Machine.fenced P F) P (lone (b.atR a (.code c :: .inLoop c :: k)) cs w) b k cs e a' w':=by
  intro n
  induction n using Nat.strongRecOn with
  | _ n ih =>
   intro a w hI;obtain ⟨e,a₁,w₁,hq,harr⟩:=round n a w hI b (.inLoop c :: k) cs hro hb hr
   cases e with
   | normal =>
    obtain ⟨m,hlt,hI₁⟩:=hq;obtain ⟨e₂,a₂,w₂,hq₂,harr₂⟩:=ih m hlt a₁ w₁ hI₁;exact ⟨e₂,a₂,w₂,hq₂, .of_steps (StepsIn.trans harr (.one (fenced_calm hb hr rfl) stepR_inLoop)) harr₂⟩
   | exit id=>exact ⟨_,a₁,w₁,hq, .pass (x:=.inLoop c) rfl (fun _ _=>.inl b5v) harr⟩
   | goto l=>exact ⟨_,a₁,w₁,hq, .pass (x:=.inLoop c) rfl (fun _ _=>.inl b5v) harr⟩
   | ret=>exact ⟨_,a₁,w₁,hq, .pass (x:=.inLoop c) rfl (fun _ _=>.inl b5v) harr⟩
   | panic ch=>exact ⟨_,a₁,w₁,hq, .pass (x:=.inLoop c) rfl (fun _ _=>.inl b5v) harr⟩
   | outgrown=>exact ⟨_,a₁,w₁,hq, .pass (x:=.inLoop c) rfl (fun _ _=>.inl b5v) harr⟩
 obtain ⟨e,a',w',hq,harr⟩:=key n0 a w h₀;exact ⟨e,a',w',hq, .of_steps (.one (fenced_calm hb hr rfl) stepR_loop) harr⟩
def a8n {ι:Type} (I:ι -> HSt) (p:ι -> Prop) (μ:ι -> Nat) (i:ι) (Q:Exit -> HSt -> Prop):Exit -> HSt -> Prop
 | .normal,st=>∃ i',p i' /\ μ i' < μ i /\ Sub (I i') st
 | e,st=>Q e st
def ast {ι:Type} {body:Code} (I:ι -> HSt) (p:ι -> Prop) (μ:ι -> Nat) (i0:ι) (h0:p i0) (hs:Sub (I i0) st) (round:∀ i,p i -> HW (ro:=ro) P nt body (I i) (a8n I p μ i Q)):HW (ro:=ro) P nt (.loop body) st Q:=fun w0 m0 a w hr=>by
 refine abc (fun n a w=>∃ i,p i /\ μ i = n /\ Rel w0 m0 nt (I i).den a w) (μ i0) ⟨i0,h0,rfl,hr.sub hs⟩ ?_;rintro n a w ⟨i,hp,rfl,hr⟩;refine wpIn_mono (round i hp w0 m0 a w hr) fun e a' w' ⟨st',hQ,hr'⟩=>?_;cases e <;> simp only [Exit.then] <;> try exact ⟨st',hQ,hr'⟩
 obtain ⟨i',hp',hlt,hsub⟩:=hQ;exact ⟨μ i',hlt,i',hp',rfl,hr'.sub hsub⟩
def a7y (hE:bn P E) {ops:Array Oper} (h:Reg P E nt ops (List.range ops.size) st fun _ sf=>Q .normal sf):HW (ro:=ro) P nt (.region id ops false) st Q:=fun w0 m0 a w hr=>by
 obtain ⟨T,sf,hl,hT,h⟩:=h;refine wpIn_region ?_;rw [<- hl];exact wg hE (fun a' w' hr'=>⟨sf,h,hr'⟩) T _ a w hT hr
def aqq (hE:bn P E) (hm:P.follows .mixedOrders = true) {ops:Array Oper} (L:List Nat) (h:Reg P E nt ops L st fun T sf=>a4z ops T = true /\ Q .normal sf):HW (ro:=ro) P nt (.region id ops true) st Q:=fun w0 m0 a w hr=>by
 obtain ⟨T,sf,hl,hT,hc,h⟩:=h;exact a3u hE hm hT hc hr fun a' w' hr'=>⟨sf,h,hr'⟩
def sn (E:Env) (s:S):List ResultVar -> Option (Prop × List HC)
 | []=>some (True,[])
 | .tmp t :: r =>
  match s.t t,sn E s r with
  | some (.v cc),some (p,l)=>some (p,cc :: l)
  | _,_=>none
 | .cell ad ty :: r =>
  match jb E s.o (ev s) ty (.tmp ad),sn E s r with
  | some ⟨p1, .v cc⟩,some (p,l)=>some (p1 /\ p,cc :: l)
  | _,_=>none
def mh (o:al):List HC -> Option (Prop × List PC)
 | []=>some (True,[])
 | x :: r =>
  match u5 o x,mh o r with
  | some (p,y,_),some (q,ys)=>some (p /\ q,y :: ys)
  | _,_=>none
def ab:List PC -> PR
 | [x]=>.v x
 | l=>.tup l
def a4g (E:Env) (st:HSt) (rs:List ResultVar) (res:List PC):Prop :=
 ∃ p l q vs,sn E st.den rs = some (p,l) /\ p /\ mh st.den.o l = some (q,vs) /\ q /\ CoL vs res
def a16 {t:TypeId} {u v:Value} (h:(Instr.loadAt t u).run P w = .ok v w):∃ ad,u = .pointer (some ad) /\ (loadVar t ad).run P w = .ok v w:=by
 cases u <;> try (simp [Instr.loadAt,Instr.sureAddr] at h;done)
 rename_i ad
 cases ad with
 | none=>simp [Instr.loadAt,Instr.sureAddr] at h
 | some ad=>exact ⟨ad,rfl,by simpa [Instr.loadAt,Instr.sureAddr] using h⟩
def ru (hE:bn P E) {c:Ctx} {s:S} (h:aa w0 nt c s a w) (F:ResultVar -> Sem Value) (F1:∀ t,F (.tmp t) = pure (a.tmps.getD t undef)) (F2:∀ ad t,F (.cell ad t) = do loadVar t (<- asAddr (a.tmps.getD ad undef))) :
 ∀ {rs:List ResultVar} {p:Prop} {l:List HC},sn E s rs = some (p,l) -> p -> ∃ vs:List Value,(rs.mapM F).run P w = .ok vs w /\ b5 c s.o l vs
 | [],p,l,hr,_=>by
  simp only [sn,b2p,b2s] at hr;obtain ⟨_,rfl⟩:=hr;exact ⟨[],by simp,trivial⟩
 | .tmp t :: r,p,l,hr,hp=>by
  simp only [sn] at hr;split at hr <;> try (cases hr;done)
  rename_i cc p1 l1 ht hr1;simp only [b2p,b2s] at hr;obtain ⟨rfl,rfl⟩:=hr;obtain ⟨vs,h1,h2⟩:=ru hE h F F1 F2 hr1 hp;refine ⟨a.tmps.getD t undef :: vs, ?_,h.tmps t _ ht,h2⟩;rw [List.mapM_cons,F1];simp only [b3i,b40,b34,h1]
 | .cell ad ty :: r,p,l,hr,hp=>by
  simp only [sn] at hr;split at hr <;> try (cases hr;done)
  rename_i p1 cc p2 l2 hld hr1;simp only [b2p,b2s] at hr;obtain ⟨rfl,rfl⟩:=hr;obtain ⟨v,hv,hvr⟩:=yr hE h hld hp.1;obtain ⟨ad',he,hlv⟩:=a16 hv;have he':a.tmps.getD ad undef = .pointer (some ad'):=he;obtain ⟨vs,h1,h2⟩:=ru hE h F F1 F2 hr1 hp.2;refine ⟨v :: vs, ?_,hvr,h2⟩;rw [List.mapM_cons,F2,he'];simp only [asAddr,b3i,b40,b34,hlv,h1]
def oe {c:Ctx} {s:S} (h:aa w0 nt c s a w) {m:Imm} (hm:vg w0 c w m):∀ {l:List HC} {us:List Value} {p:Prop} {vs:List PC},b5 c s.o l us -> mh s.o l = some (p,vs) -> p -> bj m vs us
 | [],[],p,vs,_,hv,_=>by
  simp only [mh,b2p,b2s] at hv;obtain ⟨_,rfl⟩:=hv;trivial
 | x :: l,u :: us,p,vs,hr,hv,hp=>by
  simp only [mh] at hv;split at hv <;> try (cases hv;done)
  rename_i p1 y b q ys h1 h2;simp only [b2p,b2s] at hv;obtain ⟨rfl,rfl⟩:=hv;exact ⟨(a1j h hm hr.1 h1 hp.1).1,oe h hm hr.2 h2 hp.2⟩
 | [],_ :: _,_,_,hr,_,_=>hr.elim
 | _ :: _,[],_,_,hr,_,_=>hr.elim
theorem Rel.strike {P:Program} {nt:Nat} {st:S} {w0:World} {m0:Old} {fn:Func} {R:Ending -> World -> Prop}:∀ {l:List Deferred} {a:Act} {w:World},a.defers = l -> Rel w0 m0 nt st a w ->
 (∀ w',Rel w0 m0 nt st { a with defers:=[] } w' -> ∃ v,(results fn a.tmps).run P w' = .ok v w' /\ R (.returned v) w') -> LeavesInM (rf none) 0 P fn a.tmps R l .returning w
 | [],a,w,hl,hr,h=>by
  obtain ⟨tm,ds⟩:=a;simp only at hl;subst hl;obtain ⟨v,h1,h2⟩:=h w hr;exact ⟨v,h1,h2⟩
 | d :: l,a,w,hl,hr,h=>by
  obtain ⟨tm,ds⟩:=a;simp only at hl;subst hl;obtain ⟨c,hold,hrc⟩:=hr;obtain ⟨hpw,hds⟩:=hrc.defers;obtain ⟨D,rfl,h2,h3,h4,h5⟩:=hds d b5v;refine ⟨by simp, .inl ⟨D,_,rfl,run_takeDeferred h2, ?_⟩⟩
  have hne:∀ b,b ≠ D -> (w.putObj D (.deferred none)).heap[b]? = w.heap[b]?:=fun b hb=>by
   show (w.heap.setIfInBounds D _)[b]? = _;rw [Array.getElem?_setIfInBounds_ne (Ne.symm hb)]
  refine Rel.strike (a:={ tmps:=tm,defers:=l }) (w:=w.putObj D (.deferred none)) rfl ⟨c,hold,⟨(b3q.1 hpw).2,fun d' hd'=>?_⟩,hrc.size, ?_,hrc.tmps,fun id ob ho=>?_,hrc.inj,fun b ob hb=>?_,hrc.sep,hrc.was,fun b ob hb=>?_,hrc.fsep,hrc.fixed⟩ h
  · obtain ⟨D',rfl,g2,g3⟩:=hds d' (by simp [hd'])
    refine ⟨D',rfl,(hne D' fun e=>(b3q.1 hpw).1 _ hd' (by rw [e])).trans g2,g3⟩
  · have hb:=hrc.below
    exact ⟨hb.os,hb.tape,hb.output,by show _ <= (w.heap.setIfInBounds D _).size;rw [Array.size_setIfInBounds];exact hb.size,fun k hk=>absurd hk (b2y k),hb.drawn⟩
  · refine (hrc.objs id ob ho).keep (Imm.le.refl _) rfl rfl (fun _ _=>Evo.refl _ _ _) fun b hb=>hne b fun e=>?_
    obtain ⟨x1,hc,hdt⟩:=(hrc.objs id ob ho).data hb;rw [e,h2] at hc;cases hc;cases hdt
  · refine (hne b fun e=>?_).trans (hrc.imm b ob hb)
    rw [e,h3] at hb;cases hb
  refine (hne b fun e=>?_).trans (hrc.frm b ob hb);rw [e,h4] at hb;cases hb
def x5:Nat -> List PC -> List (Nat × Option HR)
 | _,[]=>[]
 | i,x :: r=>(i,some (.v x.toH)) :: x5 (i + 1) r
def a4s:∀ (l:List PC) (i d:Nat) (r:HR),b6 (x5 i l) d = some r -> ∃ x,i <= d /\ l[d - i]? = some x /\ r = .v x.toH
 | [],i,d,r,h=>by simp [x5,b6] at h
 | x :: l,i,d,r,h=>by
  simp only [x5] at h;rw [ax] at h;dsimp only at h;split at h
  · rename_i hd
    subst hd;simp only [b2p] at h;exact ⟨x,b2v _,by simp,h.symm⟩
  rename_i hd;obtain ⟨y,h1,h2,h3⟩:=a4s l (i + 1) d r h;refine ⟨y,by omega, ?_,h3⟩;rw [show d - i = (d - (i + 1)) + 1 by omega];simpa using h2
def anj (hE:bn P E) {f:FuncId} {fn:Func} {body:Code} {args res:List PC} (hf:P.funcs[f]? = some fn) (hb:fn.body = some body) (hn:fn.ntmps = nt) (hl:args.length <= nt)
 (h:HW (ro:=none) P nt body ⟨x5 0 args,[]⟩ fun e st=>(e = .normal \/ e = .ret) /\ a4g E st fn.results.toList res):a8 P f args (ab res):=by
 intro w imm us htab himm hargs;refine (callsIn_wide (n:=0)).1 (callsIn_of_wp_marks hf hb trivial ?_ rfl);have hul:=hargs.length
 let a0:Act:={ tmps:=us.toArray ++ Array.replicate (fn.ntmps - us.toArray.size) undef,defers:=[] }
 have hrel:Rel w (imm,df w,(fun _=>undef),(fun _=>none),fun _ _=>undef) nt (HSt.den ⟨x5 0 args,[]⟩) a0 w:=by
  refine ⟨{ old:=(imm,df w,(fun _=>undef),(fun _=>none),fun _ _=>undef),imm:=imm,tab:=htab,own:=fun _=>undef,blk:=fun _=>noB,rows:=fun _ _=>undef },rfl,nx.nil _ _ _ _, ?_,Below.refl _ _,fun d x hx=>?_,fun id ob ho=>?_,fun i i' ob ob' b ho=>?_,himm,fun id ob b ho=>?_,fun b _=>rfl,fun b ob hb=>hb,fun id ob b ho=>?_,fun id _=>.inl rfl⟩
  · simp only [a0,b5n,Array.size_replicate,b3s,hn];omega
  · obtain ⟨y,_,hy,rfl⟩:=a4s args 0 d x hx
    simp only [Nat.sub_zero] at hy;obtain ⟨u,hu,hr⟩:=hargs.get d y hy;have hd:d < us.length:=(b49.1 hu).1
    have:a0.tmps.getD d undef = u:=by
     have e1:a0.tmps[d]? = some u:=by
      simp only [a0];rw [Array.getElem?_append_left (by simpa using hd)];simpa using hu
     have e2:d < a0.tmps.size:=(b2t.1 e1).1;rw [Array.getD_eq_getD_getElem?,e1];rfl
    rw [this];exact dn.of_P hr
  · simp [HSt.den,b6] at ho
  · simp [HSt.den,b6] at ho
  · simp [HSt.den,b6] at ho
  simp [HSt.den,b6] at ho
 refine wpIn_mono (h w (imm,df w,(fun _=>undef),(fun _=>none),fun _ _=>undef) a0 w hrel) fun e a' w1 ⟨st',⟨hex,hres⟩,hr1⟩=>?_
 suffices key:LeavesInM (rf none) 0 P fn a'.tmps _ a'.defers .returning w1 by
  rcases hex with rfl | rfl <;> exact key
 refine Rel.strike rfl hr1 fun w' hr'=>?_;obtain ⟨c,hold,hrc⟩:=hr';obtain ⟨p,l,q,vs,h1,h2,h3,h4,h5⟩:=hres
 have hfrm:∀ b,b < w.heap.size -> c.frm b ≠ none /\ w'.heap[b]? = w.heap[b]?:=fun b hb=>by
  have e1:c.frm b = some w.heap[b]:=by
   show c.old.2.1 b = _;rw [hold];exact b3r hb
  refine ⟨by rw [e1];simp, ?_⟩;rw [hrc.frm b _ e1,b3r hb]
 have hwas:∀ b,b < w.heap.size -> c.imm b = imm b:=fun b hb=>by
  rw [hrc.was b (hfrm b hb).1,hold]
 have hseen:vg w c w' (fun b=>if b < w.heap.size then imm b else w'.heap[b]?):=by
  refine ⟨fun b ob hbo=>?_,fun b hb _=>?_⟩
  · by_cases hlt:b < w.heap.size
    · simp only [hlt,if_true]
      rw [<- hwas b hlt];exact hbo
    simp only [hlt,if_false];exact hrc.imm b ob hbo
  have:¬ b < w.heap.size:=fun hlt=>(hfrm b hlt).1 hb;simp [this]
 have hrv:∃ v,(results fn a'.tmps).run P w' = .ok v w' /\ mq (fun b=>if b < w.heap.size then imm b else w'.heap[b]?) (ab res) v:=by
  let F:ResultVar -> Sem Value:=fun | .tmp t=>pure (a'.tmps.getD t undef) | .cell ad t=>do loadVar t (<- asAddr (a'.tmps.getD ad undef))
  obtain ⟨uvs,hrun,hrep⟩:=ru hE hrc F (fun _=>rfl) (fun _ _=>rfl) h1 h2;have hF:results fn a'.tmps = (do let vs <- fn.results.mapM F;pure (if h:vs.size = 1 then vs[0] else .tuple vs)):=rfl;rw [hF,Array.mapM_eq_mapM_toList,b3i,Sem.run_map];have hview:=CoL.sound h5 (oe hrc hseen hrep h3 h4);rw [hrun];simp only [b34,b40];refine ⟨_,rfl, ?_⟩
  match res,uvs,hview with
  | [x],[u],hv=>simp only [ab,mq];simpa using hv.1
  | [],[],hv=>exact ⟨[],by simp,trivial⟩
  | x :: y :: r,u :: v :: t,hv=>exact ⟨u :: v :: t,by simp,hv⟩
  | [],_ :: _,hv=>exact hv.elim
  | [_],[],hv=>exact hv.elim
  | [_],_ :: _ :: _,hv=>exact hv.2.elim
  | _ :: _ :: _,[],hv=>exact hv.elim
  | _ :: _ :: _,[_],hv=>exact hv.2.elim
 obtain ⟨v,hv1,hv2⟩:=hrv
 have hfin:(∃ v_1 imm',Ending.returned v = Ending.returned v_1 /\ mq imm' (ab res) v_1 /\ (∀ b,b < w.heap.size -> imm' b = imm b) /\ (∀ b ob,imm' b = some ob -> w'.heap[b]? = some ob) /\ Below w.heap.size w w'):=by
  refine ⟨v,_,rfl,hv2,fun b hb=>by simp [hb],fun b ob hbo=>?_,⟨hrc.below.os,hrc.below.tape,hrc.below.output,hrc.below.size,fun k hk=>(hfrm k hk).2,hrc.below.drawn⟩⟩;by_cases hlt:b < w.heap.size
  · simp only [hlt,if_true] at hbo
    refine hrc.imm b ob ?_;rw [hwas b hlt];exact hbo
  simpa [hlt] using hbo
 exact ⟨v,hv1,hfin⟩
end
end
end
section
open Go.RowKit
section
variable {ro:Option Nat} {P:Program} {nt:Nat} {st:HSt} {Q:Exit -> HSt -> Prop}
def su (st:HSt) (id:Nat):(HSt.den ⟨st.t,(id,none) :: st.o⟩) = st.den.setO id none:=by
 unfold HSt.den S.setO;simp [ax]
section
variable {c:Code}
def a9m (st1:HSt) (d:Nat) (x:HR) (hs:∀ w0 m0 a w,Rel w0 m0 nt st.den a w -> ∃ cc,cc.old = m0 /\ aa w0 nt cc st1.den a w /\ ag cc st1.den.o x (a.tmps.getD d undef)) (h:HW (ro:=ro) P nt c ⟨(d,some x) :: st1.t,st1.o⟩ Q):HW (ro:=ro) P nt c st Q:=fun w0 m0 a w hr=>by
 obtain ⟨cc,hold,hrr,hx⟩:=hs w0 m0 a w hr;refine h w0 m0 a w ⟨cc,hold,hrr.defers,hrr.size,hrr.below,fun k y hy=>?_,hrr.objs,hrr.inj,hrr.imm,hrr.sep,hrr.was,hrr.frm,hrr.fsep,hrr.fixed⟩;simp only [HSt.den] at hy;rw [ax] at hy;dsimp only at hy;split at hy
 · rename_i hk
   subst hk;simp only [b2p] at hy;subst hy;exact hx
 exact hrr.tmps k y hy
variable {id:Nat}
def c3 (d:Nat) {n n' s:Nat} {wr:Bool} {e:TypeId} {f:Nat -> Nat -> PV} (hd:b6 st.t d = some (.v (.one (.ref id n)))) (ho:b6 st.o id = some (.arr wr s e n' f)) (hn:n' = n) (h:HW (ro:=ro) P nt c ⟨(d,some (b4 (.sl n s false f))) :: st.t,(id,none) :: st.o⟩ Q):HW (ro:=ro) P nt c st Q:=by
 subst hn;refine a9m ⟨st.t,(id,none) :: st.o⟩ d (b4 (.sl n' s false f)) (fun w0 m0 a w hr=>?_) h;obtain ⟨cc,hold,hrr⟩:=hr;refine ⟨_, ?_,by rw [su];exact hrr.freeze ho, ?_⟩
 · exact hold
 obtain ⟨_,_,h3⟩:=hrr.tmps d _ hd;have:=(h3 _ _ _ _ ho rfl).2 rfl;rw [this];exact rh hrr ho
def a8e (d:Nat) {l:List HV} {ps:List PV} (hd:b6 st.t d = some (.v (.one (.ptr id 0)))) (ho:b6 st.o id = some (.box l)) (hp:ik l = some ps) (h:HW (ro:=ro) P nt c ⟨(d,some (b4 (.vp ps.length fun j=>ps.getD j .any))) :: st.t,(id,none) :: st.o⟩ Q):HW (ro:=ro) P nt c st Q:=by
 refine a9m ⟨st.t,(id,none) :: st.o⟩ d _ (fun w0 m0 a w hr=>?_) h;obtain ⟨cc,hold,hrr⟩:=hr;refine ⟨_, ?_,by rw [su];exact hrr.freeze ho, ?_⟩
 · exact hold
 obtain ⟨_,_,h3⟩:=hrr.tmps d _ hd;obtain ⟨b,hb,hu⟩:=h3 l ho;rw [hu,<- hb];exact agc hrr ho hp
def dl (bx off:Nat) {n n' s:Nat} {wr:Bool} {e:TypeId} {f:Nat -> Nat -> PV} {l:List HV} (hb:b6 st.o bx = some (.box l)) (hl:l[off]? = some (.ref id n)) (ho:b6 st.o id = some (.arr wr s e n' f)) (hn:n' = n) (hne:Nat.beq bx id = false) (h:HW (ro:=ro) P nt c ⟨st.t,(bx,some (.box (ao l off [.p (.sl n s false f)]))) :: (id,none) :: st.o⟩ Q):HW (ro:=ro) P nt c st Q:=fun w0 m0 a w hr=>by
 subst hn;obtain ⟨cc,hold,hrr⟩:=hr;have hbi:bx ≠ id:=by rintro rfl;simp at hne
 have hfr:=hrr.freeze (id:=id) ho;rw [<- su] at hfr
 have hb':(HSt.den ⟨st.t,(id,none) :: st.o⟩).o bx = some (.box l):=by
  simp only [HSt.den,ax,hbi,if_false];exact hb
 refine h w0 m0 a w ?_
 have hw:=hfr.write bx (.box l) hb' (.box (ao l off [.p (.sl n' s false f)])) w (cc.own bx) (cc.blk bx) none (Grw.refl w _) (fun _ e=>by cases e) (.inr (.inl ⟨l,ao l off [.p (.sl n' s false f)],hb',by simp [S.setO],by simp⟩)) (fun b hb=>.inl hb) (by
  obtain ⟨b,C,ee,q1,q2,q3,q4,q5⟩:=hfr.objs bx _ hb';refine ⟨b,C,ee,by simpa using q1,by simpa using q2,q3,q4, ?_⟩;have hoff:off < l.length:=(b49.1 hl).1;have hcl:=q5.length;refine ap.of_get ?_ fun k x u hx hu=>?_
  · simp only [ao,b36,b33,b4v,b4b];omega
  have hx':=hx;unfold ao at hx';rw [br l [HV.p (.sl n' s false f)] off k b66] at hx';by_cases hk:k = off
  · subst hk
    simp at hx';subst hx';obtain ⟨b0,C0,e0,p1,p2,p3,p4,p5⟩:=hrr.objs bx _ hb
    have hbb:b0 = b:=by
     have q2':cc.blk bx = vh b:=q2;have q3':vh b b0:=by rw [<- q2',p2];rfl
     exact q3'
    subst hbb
    have hCC:C0 = C:=by
     rw [q4] at p4;simp only [b2p,Obj.cells.injEq] at p4;exact p4.1.symm
    subst hCC;obtain ⟨u',hu',hr'⟩:=p5.get k _ hl;rw [hu] at hu';simp only [b2p] at hu';subst hu';obtain ⟨_,_,h3⟩:=hr';have:=(h3 _ _ _ _ ho rfl).2 rfl;rw [this];exact rh hrr ho
  rw [if_neg b66] at hx';obtain ⟨u',hu',hr'⟩:=q5.get k x hx';rw [hu] at hu';simp only [b2p] at hu';subst hu';refine ay.evo ?_ (fun j _=>?_) hr'
  · exact Imm.le.refl (frozenImm cc w id)
  by_cases hj:j = bx
  · subst hj;exact .inr (.inl ⟨l,ao l off [.p (.sl n' s false f)],hb',by simp [S.setO],by simp⟩)
  exact Evo.of_same (by simp [S.setO,hj]) (by simp [hj]))
 have e:HSt.den ⟨st.t,(bx,some (.box (ao l off [.p (.sl n' s false f)]))) :: (id,none) :: st.o⟩ = (HSt.den ⟨st.t,(id,none) :: st.o⟩).setO bx (some (.box (ao l off [.p (.sl n' s false f)]))):=by
  unfold HSt.den S.setO;simp only [S.mk.injEq,true_and];funext k;simp only [ax]
 rw [e];exact ⟨_,(by exact hold),hw⟩
def a3j (x:Nat) {s s2 n n2:Nat} {e e2:TypeId} {ob:a6} {y:PV} {ms:List Nat} {g:Nat -> Nat -> HV} (g':Nat -> Nat -> PV) (hb:b6 st.o x = some (.arrh s2 e2 n2 ms g)) (ho:b6 st.o id = some ob) (hdim:ob.dim = some (s,e,n)) (hfz:∀ {w0:World} {nt:Nat} {c:Ctx} {s:S} {a:Act} {w:World},aa w0 nt c s a w -> s.o id = some ob -> af (frozenImm c w id) y (c.own id)) (hne:Nat.beq x id = false) (hg:∀ i j,i < n2 -> j < s2 -> (∃ k,g i j = .ref id k /\ k = n /\ CoP y (g' i j)) \/ CoH (g i j) (.p (g' i j))) (h:HW (ro:=ro) P nt c ⟨st.t,(x,some (.arr true s2 e2 n2 g')) :: (id,none) :: st.o⟩ Q):HW (ro:=ro) P nt c st Q:=fun w0 m0 a w hr=>by
 obtain ⟨cc,hold,hrr⟩:=hr;have hbi:x ≠ id:=by rintro rfl;simp at hne
 have hfr:=hrr.freeze (id:=id) ho;rw [<- su] at hfr
 have hb':(HSt.den ⟨st.t,(id,none) :: st.o⟩).o x = some (.arrh s2 e2 n2 ms g):=by
  simp only [HSt.den,ax,hbi,if_false];exact hb
 refine h w0 m0 a w ?_
 have hevo:Evo { old:=cc.old,imm:=frozenImm cc w id,tab:=lp hrr ho,own:=cc.own,blk:=cc.blk,rows:=cc.rows } (HSt.den ⟨st.t,(id,none) :: st.o⟩).o { old:=cc.old,imm:=frozenImm cc w id,tab:=lp hrr ho,own:=fun k=>if k = x then cc.own x else cc.own k,blk:=fun k=>if k = x then cc.blk x else cc.blk k,rows:=cc.rows } ((HSt.den ⟨st.t,(id,none) :: st.o⟩).setO x (some (.arr true s2 e2 n2 g'))).o x :=
  .inr (.inr ⟨_, .arr true s2 e2 n2 g',s2,e2,n2,n2,hb',rfl,by simp [S.setO],rfl,b2v _,fun _=>by simp,fun _ _ _ _ _ _ _ hb=>by cases hb⟩)
 have hw:=hfr.write x _ hb' (.arr true s2 e2 n2 g') w (cc.own x) (cc.blk x) none (Grw.refl w _) (fun _ e=>by cases e) hevo (fun b hb=>.inl hb) (by
  obtain ⟨q0,q1,qm,q2⟩:=hrr.objs x _ hb;refine ⟨q0,q1, ?_⟩
  rcases q2 with ⟨q3,xs,q4,q5⟩ | ⟨rfl,q3,q4⟩
  · refine .inl ⟨by simpa using q3,xs,by simpa using q4,fun i j hi hj=>?_⟩
    obtain ⟨v,hv,hrv⟩:=q5 i j hi hj;refine ⟨v,hv, ?_⟩;show af (frozenImm cc w id) (g' i j) v
    rcases hg i j hi hj with ⟨k,hk,rfl,hco⟩ | hco
    · rw [hk] at hrv
      obtain ⟨_,_,h3⟩:=hrv;rw [(h3 _ _ _ _ ho hdim).2 rfl];exact hco _ _ (hfz hrr ho)
    exact af.mono (nk hrr ho) (ay.co hco hrv)
  refine .inr ⟨.inr rfl,by simpa using q3, ?_⟩;have:=af.mono (nk hrr ho) q4
  simpa using CoP.sl rfl (.inl rfl) (fun h=>h) (fun i j hi _=>by omega) _ _ this)
 have e:HSt.den ⟨st.t,(x,some (.arr true s2 e2 n2 g')) :: (id,none) :: st.o⟩ = (HSt.den ⟨st.t,(id,none) :: st.o⟩).setO x (some (.arr true s2 e2 n2 g')):=by
  unfold HSt.den S.setO;simp only [S.mk.injEq,true_and];funext k;simp only [ax]
 rw [e];exact ⟨_,(by exact hold),hw⟩
def a4a (x:Nat) {s2 n n2:Nat} {kk:KK} {e2:TypeId} {f:MK -> Option PV} {ms:List Nat} {g:Nat -> Nat -> HV} (g':Nat -> Nat -> PV) (hb:b6 st.o x = some (.arrh s2 e2 n2 ms g)) (ho:b6 st.o id = some (.mp kk n f)) (hne:Nat.beq x id = false) (hg:∀ i j,i < n2 -> j < s2 -> (∃ k,g i j = .ref id k /\ k = 0 /\ CoP (mpP kk n f) (g' i j)) \/ CoH (g i j) (.p (g' i j))) (h:HW (ro:=ro) P nt c ⟨st.t,(x,some (.arr true s2 e2 n2 g')) :: (id,none) :: st.o⟩ Q):HW (ro:=ro) P nt c st Q:=a3j x g' hb ho rfl (fun hr ho=>ajp hr ho) hne hg h
end
end
end
end Go.Hx
