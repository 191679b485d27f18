/- A part of the proof: Hx13 Hx14. -/
import Derived.Test.YtkkenjdfbojdlaaGreatDoorIx10
set_option linter.all false
namespace Go.Hx
section
open Go.RowKit
def qz (ops:Array Oper) (j:Nat):List Nat :=
 match ops[j]? with
 | some o=>(o.after.toList.filter fun e=>Region.binds .any e).map (·.on)
 | none=>[]
def a34 (acc:List Nat):List Nat -> Nat
 | []=>0
 | e :: r=>a34 acc r ||| 2 ^ e ||| acc.getD e 0
def xg (ops:Array Oper):Nat -> List Nat
 | 0=>[]
 | n + 1=>xg ops n ++ [a34 (xg ops n) (qz ops n)]
def oe (ops:Array Oper):∀ n,(xg ops n).length = n
 | 0=>rfl
 | n + 1=>by simp [xg,oe ops n]
def yr (ops:Array Oper):∀ n j,j < n -> (xg ops n).getD j 0 = a34 (xg ops j) (qz ops j)
 | n + 1,j,h=>by
  simp only [xg,bmm];by_cases hj:j < n
  · rw [boc (by rw [oe];exact hj)]
    have:=yr ops n j hj;rwa [bmm] at this
  have:j = n:=by omega
  subst this;rw [bo8 (by rw [oe];omega),oe];simp
def ae2 (acc:List Nat) (i:Nat):∀ l,(a34 acc l).testBit i = true -> ∃ e ∈ l,e = i \/ (acc.getD e 0).testBit i = true
 | [],h=>by simp [a34] at h
 | e :: r,h=>by
  simp only [a34,Nat.testBit_or,bob,Nat.testBit_two_pow,decide_eq_true_eq] at h
  rcases h with (h | h) | h
  · obtain ⟨e',he,hh⟩:=ae2 acc i r h
    exact ⟨e',by simp [he],hh⟩
  · exact ⟨e,by simp, .inl h⟩
  exact ⟨e,by simp, .inr h⟩
def acw (ops:Array Oper) (j i:Nat):Bool:=((xg ops (j + 1)).getD j 0).testBit i
structure Inv (ops:Array Oper) (listed:Array Bool):Prop where
 size:listed.size = ops.size
 closed:∀ j,listed.getD j false = true -> ∀ e ∈ qz ops j,listed.getD e false = true
section
variable {listed:Array Bool} {ops:Array Oper}
def aoh (inv:Inv ops listed):∀ j,(∀ e ∈ qz ops j,listed.getD e false = true) -> ∀ i,acw ops j i = true -> listed.getD i false = true:=by
 intro j
 induction j using Nat.strongRecOn with
 | _ j ih =>
  intro hd i hr;unfold acw at hr;rw [yr ops (j + 1) j bqx] at hr;obtain ⟨e,he,hh⟩:=ae2 _ i _ hr
  rcases hh with rfl | hh
  · exact hd e he
  by_cases hej:e < j
  · rw [yr ops j e hej] at hh
    refine ih e hej (fun e' he'=>inv.closed e (hd e he) e' he') i ?_;unfold acw;rw [yr ops (e + 1) e bqx];exact hh
  rw [bmm,bp4 (by rw [oe];omega)] at hh;simp at hh
def mem_ready' {i:Nat}:i ∈ Region.ready .any ops listed <-> (i < ops.size /\ listed.getD i true = false /\ ∀ e ∈ qz ops i,listed.getD e false = true):=by
 unfold Region.ready qz;simp only [bol,bn3,bmw,bnj];constructor
 · rintro ⟨h1,h2,h3⟩
   refine ⟨h1,h2, ?_⟩;rw [bnm h1] at h3 ⊢;simp only [bnh,bnf,Array.all_eq_true'] at h3;intro e he;simp only [bne,bol] at he;obtain ⟨ed,⟨hm,hb⟩,rfl⟩:=he;have:=h3 ed (by simpa using hm);simp only [hb,bpu,bqi] at this;exact this
 rintro ⟨h1,h2,h3⟩;refine ⟨h1,h2, ?_⟩;rw [bnm h1] at h3 ⊢;simp only [bnh,bnf,Array.all_eq_true'];intro ed hm;by_cases hb:Region.binds .any ed = true
 · simp only [hb,bpu,bqi]
   refine h3 ed.on ?_;simp only [bne,bol];exact ⟨ed,⟨by simpa using hm,hb⟩,rfl⟩
 simp [hb]
def b1d (ops:Array Oper) (j d:Nat):Bool:=(qz ops j).any (Nat.beq d)
def ayo {j d:Nat} (h:b1d ops j d = false):d ∉ qz ops j:=by
 intro hm;unfold b1d at h;rw [bof] at h;exact h d hm br1
def xf (ops:Array Oper) (x y:Tr):Bool:=!(Nat.beq x.i y.i) && !b1d ops x.i y.i && (acw ops y.i x.i || act ops x y)
def a8e (ops:Array Oper):List Tr -> Bool
 | []=>true
 | x :: T=>T.all (xf ops x) && a8e ops T
def acx (ops:Array Oper) (x:Tr):Bool:=Nat.blt x.i ops.size && (qz ops x.i).all fun d=>Nat.blt d ops.size && !(Nat.beq d x.i)
def adw (ops:Array Oper) (T:List Tr):Bool :=
 Nat.beq T.length ops.size && (List.range ops.size).all (fun k=>T.any fun t=>Nat.beq t.i k) && T.all (acx ops) && a8e ops T
def a05:∀ {T:List Tr},a8e ops T = true -> T.Pairwise fun x y=>xf ops x y = true
 | [],_=>List.Pairwise.nil
 | x :: T,h=>by
  simp only [a8e,bmw,bnr] at h;exact List.Pairwise.cons h.1 (a05 h.2)
end
section
variable {P:Program} {E:Env} {nt:Nat} {ops:Array Oper} {w0:World} {m0:Old} {sf:S}
def awz (m j:Nat):(Array.replicate m false).getD j false = false:=by
 rcases bpy j m with h | h <;> simp [h]
def a13 {l:Array Bool} {i:Nat} (hi:i < l.size):(l.getD i true = false) <-> ¬ (l.getD i false = true):=by
 simp [hi]
section
variable {Q:Exit -> Act -> World -> Prop} {ro:Option Nat}
def ah5 (hE:d7 P E) {n:Nat} (hQ:∀ a' w',Rel w0 m0 nt sf a' w' -> Q .normal a' w'):
 ∀ (fuel:Nat) (listed:Array Bool) (T:List Tr) (s:S) (a:Act) (w:World),T.length = fuel -> Inv ops listed -> (∀ i,i < ops.size -> (listed.getD i true = false <-> ∃ t ∈ T,t.i = i)) ->
  (∀ t ∈ T,acx ops t = true) -> (T.Pairwise fun x y=>xf ops x y = true) -> ng P E nt ops T s sf -> Rel w0 m0 nt s a w -> wpAnyIn (rf ro) n P .any ops Q fuel listed a w:=by
 intro fuel
 induction fuel with
 | zero =>
  intro listed T s a w hl inv hun _ _ hT hr;have:T = []:=boe hl;subst this;cases hT;refine ⟨?_,hQ _ _ hr⟩
  cases hrd:Region.ready .any ops listed with
  | nil=>rfl
  | cons i r =>
   have hi:i ∈ Region.ready .any ops listed:=by rw [hrd];simp
   obtain ⟨h1,h2,_⟩:=mem_ready'.1 hi;obtain ⟨t,ht,_⟩:=(hun i h1).1 h2;cases ht
 | succ fuel ih =>
  intro listed T s a w hl inv hun hself hpw hT hr;refine ⟨fun hnil=>?_,fun i hi=>?_⟩
  ·
   exfalso
   cases T with
   | nil=>simp at hl
   | cons x T =>
    have hs:=hself x br1;simp only [acx,bmw,bnr,bnj] at hs;obtain ⟨hs1,hs2⟩:=hs;have hs1:x.i < ops.size:=by simpa [Nat.blt_eq] using hs1
    have hx:x.i ∈ Region.ready .any ops listed:=by
     refine mem_ready'.2 ⟨hs1,(hun x.i hs1).2 ⟨x,by simp,rfl⟩,fun d hd=>?_⟩;obtain ⟨hd1,hd2⟩:=hs2 d hd;have hd1:d < ops.size:=by simpa [Nat.blt_eq] using hd1
     have hd2:d ≠ x.i:=by rintro rfl;simp at hd2
     apply Classical.byContradiction;intro hne;have hu:=(a13 (by rw [inv.size];exact hd1)).2 hne;obtain ⟨t,ht,hti⟩:=(hun d hd1).1 hu
     rcases bn0.1 ht with rfl | ht
     · exact hd2 hti.symm
     have:=(bnu.1 hpw).1 t ht;simp only [xf,bmw,bnj] at this;exact ayo this.1.2 (by rw [hti];exact hd)
    rw [hnil] at hx;cases hx
  obtain ⟨h1,h2,h3⟩:=mem_ready'.1 hi;obtain ⟨y,hy,hyi⟩:=(hun i h1).1 h2;obtain ⟨pre,post,rfl⟩:=List.append_of_mem hy
  have hpass:∀ x ∈ pre,act ops x y = true:=by
   intro x hx;have hp:xf ops x y = true:=(bpr.1 hpw).2.2 x hx y br1;simp only [xf,bmw,bob] at hp
   rcases hp.2 with hre | hpa
   · exfalso
     have hl:=aoh inv y.i (by rw [hyi];exact h3) x.i hre;have hsx:=hself x (by simp [hx]);simp only [acx,bmw] at hsx;have hsx1:x.i < ops.size:=by simpa [Nat.blt_eq] using hsx.1
     have:=(hun x.i hsx1).2 ⟨x,by simp [hx],rfl⟩;exact (a13 (by rw [inv.size];exact hsx1)).1 this hl
   exact hpa
  have hfront:=aon hT hpass
  cases hfront with
  | @cons iy an R O F o _ _ v wr _ hio he hR hO hF hrest =>
  have hyi':iy = i:=hyi;subst hyi';refine a7x hE he hr hio fun a' w' hr'=>?_;have hsub:List.Sublist (pre ++ post) (pre ++ (⟨iy,an,R,O,F⟩:Tr) :: post):=(List.Sublist.refl pre).append (List.sublist_cons_self _ _);have hsz:iy < listed.size:=by rw [inv.size];exact h1
  refine ih (listed.setIfInBounds iy true) (pre ++ post) _ a' w' (by simp at hl ⊢;omega) ⟨by simp [inv.size],fun j hj e he=>?_⟩ (fun k hk=>?_) (fun t ht=>hself t (hsub.subset ht)) (hpw.sublist hsub) hrest hr'
  · by_cases hji:iy = j
    · subst hji
      exact getD_set_true (h3 e he)
    rw [getD_set_ne false hji] at hj;exact getD_set_true (inv.closed j hj e he)
  by_cases hki:iy = k
  · subst hki
    constructor
    · intro h
      simp [hsz] at h
    rintro ⟨t,ht,hti⟩;exfalso
    rcases bn1.1 ht with ht | ht
    · have hp:=(bpr.1 hpw).2.2 t ht ⟨iy,an,R,O,F⟩ br1
      simp only [xf,bmw,bnj] at hp;rw [hti] at hp;simp at hp
    have hp:=(bnu.1 (bpr.1 hpw).2.1).1 t ht;simp only [xf,bmw,bnj] at hp;rw [hti] at hp;simp at hp
  rw [getD_set_ne true hki,hun k hk];constructor
  · rintro ⟨t,ht,hti⟩
    refine ⟨t, ?_,hti⟩;simp only [bn1,bn0] at ht ⊢
    rcases ht with ht | rfl | ht
    · exact .inl ht
    · exact absurd hti hki
    exact .inr ht
  rintro ⟨t,ht,hti⟩;exact ⟨t,hsub.subset ht,hti⟩
def ad9 (hE:d7 P E) {n:Nat} (hm:P.follows .mixedOrders = true) {id:Nat} {T:List Tr} {s:S} {a:Act} {w:World} (hT:ng P E nt ops T s sf) (hc:adw ops T = true) (hr:Rel w0 m0 nt s a w) (hQ:∀ a' w',Rel w0 m0 nt sf a' w' -> Q .normal a' w'):(Code.region id ops true).wpIn (rf ro) n P Q a w:=by
 simp only [adw,bmw,bnr] at hc;obtain ⟨⟨⟨h1,h2⟩,h3⟩,h4⟩:=hc;refine wpIn_region_any hm ?_;refine ah5 hE hQ ops.size _ T s a _ (by simpa using h1) ⟨by simp,fun j hj=>?_⟩ (fun i hi=>⟨fun _=>?_,fun _=>by simp [hi]⟩) h3 (a05 h4) hT ?_
 · rw [awz] at hj;cases hj
 · have:=h2 i (bn3.2 hi)
   obtain ⟨t,ht,hti⟩:=bno.1 this;exact ⟨t,ht,by simpa using hti⟩
 obtain ⟨c,hold,hr⟩:=hr;exact ⟨c,hold,hr.drew⟩
def a3l (hE:d7 P E) {n:Nat} (hQ:∀ a' w',Rel w0 m0 nt sf a' w' -> Q .normal a' w'):∀ (T:List Tr) (s:S) (a:Act) (w:World),ng P E nt ops T s sf -> Rel w0 m0 nt s a w -> wpOpsIn (rf ro) n P ops Q (T.map (·.i)) a w
 | [],s,a,w,hT,hr=>by
  cases hT;exact hQ _ _ hr
 | t :: T,s,a,w,hT,hr=>by
  cases hT with
  | cons hi he hR hO hF hrest =>
  rw [bo7,wpOpsIn_cons];exact a7x hE he hr hi fun a' w' hr'=>a3l hE hQ T _ a' w' hrest hr'
end
end
def bi {α:Type}:List (Nat × Option α) -> Nat -> Option α
 | [],_=>none
 | (e,x) :: r,d=>bif Nat.beq e d then x else bi r d
structure HSt where
 t:List (Nat × Option HR)
 o:List (Nat × Option aa)
def HSt.den (st:HSt):S:=⟨bi st.t,bi st.o⟩
def HSt.after (st:HSt) (d:Option Tmp) (x:Option HR) (wr:Wr):HSt :=
 ⟨match d with | some d=>(d,x) :: st.t | none=>st.t,wr ++ st.o⟩
def amv (l:List (Nat × Option aa)):∀ (wr:Wr),bi (wr ++ l) = fun k=>match iw wr k with | some r=>r | none=>bi l k
 | []=>rfl
 | (e,x) :: r=>by
  funext k;have ih:=congrFun (amv l r) k;simp only [bpj,bi,iw]
  cases hb:Nat.beq e k with
  | true=>rfl
  | false=>simp only [cond_false];exact ih
def bu {α:Type} (e:Nat) (x:Option α) (l:List (Nat × Option α)):bi ((e,x) :: l) = fun k=>if k = e then x else bi l k:=by
 funext k;simp only [bi];by_cases h:k = e
 · subst h;simp
 have:Nat.beq e k = false:=by
  rw [bmx];intro hb;exact h (bni hb).symm
 simp [h,this]
def mo (st:HSt) (d:Option Tmp) (x:Option HR) (wr:Wr):(st.after d x wr).den = st.den.after d x wr:=by
 unfold HSt.after HSt.den S.after S.putD S.setW S.put;cases d <;> simp [bu,amv] <;> rfl
def ael (id:Nat) (l:List Nat):Bool:=!(l.any (Nat.beq id))
def nmT (id:Nat):List (Nat × Option HR) -> Bool
 | []=>true
 | (_,some x) :: r=>ael id x.ids && nmT id r
 | (_,none) :: r=>nmT id r
def nmO (id:Nat):List (Nat × Option aa) -> Bool
 | []=>true
 | (_,some x) :: r=>ael id x.ids && nmO id r
 | (_,none) :: r=>nmO id r
section
variable {id:Nat}
def a4m {l:List Nat} (h:ael id l = true):id ∉ l:=by
 intro hm;simp only [ael,bnj] at h;rw [bof] at h;exact h id hm br1
def zq:∀ {l:List (Nat × Option HR)},nmT id l = true -> ∀ d x,bi l d = some x -> ¬ x.men id
 | [],_,d,x,h=>by simp [bi] at h
 | (e,some y) :: r,h,d,x,hl=>by
  simp only [nmT,bmw] at h;rw [bu] at hl;dsimp only at hl;split at hl
  · simp only [bmk] at hl
    subst hl;exact fun hm=>a4m h.1 (HR.men_ids hm)
  exact zq h.2 d x hl
 | (e,none) :: r,h,d,x,hl=>by
  rw [bu] at hl;dsimp only at hl;split at hl
  · cases hl
  exact zq (by simpa [nmT] using h) d x hl
def aba:∀ {l:List (Nat × Option aa)},nmO id l = true -> ∀ d x,bi l d = some x -> ¬ x.men id
 | [],_,d,x,h=>by simp [bi] at h
 | (e,some y) :: r,h,d,x,hl=>by
  simp only [nmO,bmw] at h;rw [bu] at hl;dsimp only at hl;split at hl
  · simp only [bmk] at hl
    subst hl;exact fun hm=>a4m h.1 (aa.men_ids hm)
  exact aba h.2 d x hl
 | (e,none) :: r,h,d,x,hl=>by
  rw [bu] at hl;dsimp only at hl;split at hl
  · cases hl
  exact aba (by simpa [nmO] using h) d x hl
def tl (id:Nat) (st:HSt):Bool:=Nat.blt id 1000 && nmT id st.t && nmO id st.o && (match bi st.o id with | none=>true | some _=>false)
def mr {st:HSt} (h:tl id st = true):NM st.den id /\ st.den.o id = none:=by
 simp only [tl,bmw] at h;obtain ⟨⟨⟨h0,h1⟩,h2⟩,h3⟩:=h;refine ⟨⟨zq h1,aba h2,by simpa [Nat.blt_eq] using h0⟩, ?_⟩;show bi st.o id = none
 cases hl:bi st.o id with
 | none=>rfl
 | some x=>rw [hl] at h3;cases h3
end
section
variable {P:Program} {E:Env} {nt:Nat} {ops:Array Oper} {i:Nat} {o:Oper} {st:HSt} {T:List Tr} {sf:S}
def acf (ex:Bool) (M:List Nat):Ann:=⟨0,false,ex, .tup [],[],[],M⟩
def Reg (P:Program) (E:Env) (nt:Nat) (ops:Array Oper) (L:List Nat) (st:HSt) (K:List Tr -> HSt -> Prop):Prop :=
 ∃ T sf,T.map (·.i) = L /\ ng P E nt ops T st.den (HSt.den sf) /\ K T sf
variable {L:List Nat} {K:List Tr -> HSt -> Prop}
def c6 (h:K [] st):Reg P E nt ops [] st K:=⟨[],st,rfl, .nil _,h⟩
section
variable {gb:Bool}
def du (ex:Bool) {out:Out} (hi:ops[i]? = some o) (hw:b4 ops st.den o = some gb) (hd:dp nt o.dst = true) (hq':hq E ex st.den.o (ev st.den) o.op = some out) (hg:gb = true) (hp:out.pre) (hT:Reg P E nt ops L (st.after o.dst (some out.val) []) fun T sf=>K (⟨i,acf ex out.val.ids,looks st.den o,cj st.den o.dst [],gi E st.den o⟩ :: T) sf):Reg P E nt ops (i :: L) st K:=by
 obtain ⟨T,sf,h1,h2,h3⟩:=hT;exact ⟨_,sf,by rw [<- h1];rfl, .cons hi (.quiet out (by rw [hw,hg]) hd hq' hp rfl) rfl (fun _ hk=>hk) (fun f hf=>⟨hf,by rw [hw,hg]⟩) (by rw [mo] at h2;exact h2),h3⟩
def ar2 (hi:ops[i]? = some o) (hw:b4 ops st.den o = some gb) (hd:dp nt o.dst = true) (hg:gb = false) (hT:Reg P E nt ops L (st.after o.dst (some (.tup [])) []) fun T sf=>K (⟨i,acf true [],looks st.den o,cj st.den o.dst [],none⟩ :: T) sf):Reg P E nt ops (i :: L) st K:=by
 obtain ⟨T,sf,h1,h2,h3⟩:=hT;exact ⟨_,sf,by rw [<- h1];rfl, .cons hi (.skip (by rw [hw,hg]) hd) rfl (fun _ hk=>hk) (by intro _ hf;cases hf) (by rw [mo] at h2;exact h2),h3⟩
def bc5 {out:Out} {id:Nat} (hi:ops[i]? = some o) (hw:b4 ops st.den o = some gb) (hd:dp nt o.dst = true) (hq':yn E st.den.o (ev st.den) o.op = some (out,id)) (hg:gb = true) (hp:out.pre) (hT:Reg P E nt ops L (st.after o.dst (some out.val) [(id,none)]) fun T sf=>K (⟨i,⟨0,false,true, .tup [],[id],[],[]⟩,looks st.den o,cj st.den o.dst [(id,none)],none⟩ :: T) sf):Reg P E nt ops (i :: L) st K:=by
 obtain ⟨T,sf,h1,h2,h3⟩:=hT;exact ⟨_,sf,by rw [<- h1];rfl, .cons hi (.cut out id (by rw [hw,hg]) hd hq' hp rfl) rfl (fun _ hk=>hk) (by intro _ hf;cases hf) (by rw [mo] at h2;exact h2),h3⟩
def a3o (id:Nat) {nw:New} (hi:ops[i]? = some o) (hw:b4 ops st.den o = some gb) (hd:dp nt o.dst = true) (hq':ha E (ev st.den) id o.op = some nw) (hn:tl id st = true) (hg:gb = true) (hp:nw.pre) (hT:Reg P E nt ops L (st.after o.dst (some nw.val) [(id,some nw.ob)]) fun T sf=>K (⟨i,⟨id,false,true, .tup [],[id],[id],nw.val.ids ++ nw.ob.ids⟩,looks st.den o,cj st.den o.dst [(id,some nw.ob)],none⟩ :: T) sf):Reg P E nt ops (i :: L) st K:=by
 obtain ⟨T,sf,h1,h2,h3⟩:=hT;exact ⟨_,sf,by rw [<- h1];rfl, .cons hi (.make nw (by rw [hw,hg]) hd hq' hp (mr hn).1 (mr hn).2 rfl rfl rfl) rfl (fun _ hk=>hk) (by intro _ hf;cases hf) (by rw [mo] at h2;exact h2),h3⟩
def amw {u:Upd} (hi:ops[i]? = some o) (hw:b4 ops st.den o = some gb) (hd:dp nt o.dst = true) (hq':hs E st.den.o (ev st.den) o.op = some u) (hg:gb = true) (hp:u.pre) (hT:Reg P E nt ops L (st.after o.dst none [(u.id,some u.ob)]) fun T sf=>K (⟨i,⟨0,false,true, .tup [],[u.id],[],u.ob.ids⟩,looks st.den o,cj st.den o.dst [(u.id,some u.ob)],gi E st.den o⟩ :: T) sf):Reg P E nt ops (i :: L) st K:=by
 obtain ⟨T,sf,h1,h2,h3⟩:=hT;exact ⟨_,sf,by rw [<- h1];rfl, .cons hi (.store u (by rw [hw,hg]) hd hq' hp rfl (fun _ hk=>hk)) rfl (fun _ hk=>hk) (fun f hf=>⟨hf,by rw [hw,hg]⟩) (by rw [mo] at h2;exact h2),h3⟩
def a6a (id:Nat) (wb:Bool) {u:App} (hi:ops[i]? = some o) (hw:b4 ops st.den o = some gb) (hd:dp nt o.dst = true) (hq':hap E st.den.o (ev st.den) id wb o.op = some u) (hn:(!u.new || tl id st) = true) (hg:gb = true) (hp:u.pre) (hT:Reg P E nt ops L (st.after o.dst (some u.val) [(u.id,some u.ob)]) fun T sf=>K (⟨i,⟨id,wb,true, .tup [],[u.id],if u.new then [id] else [],u.val.ids ++ u.ob.ids⟩,looks st.den o,cj st.den o.dst [(u.id,some u.ob)],none⟩ :: T) sf):Reg P E nt ops (i :: L) st K:=by
 obtain ⟨T,sf,h1,h2,h3⟩:=hT;exact ⟨_,sf,by rw [<- h1];rfl, .cons hi (.app u (by rw [hw,hg]) hd hq' hp (fun h=>mr (by rw [h] at hn;simpa using hn)) rfl (fun h=>by simp [h]) rfl) rfl (fun _ hk=>hk) (by intro _ hf;cases hf) (by rw [mo] at h2;exact h2),h3⟩
def b8w {sr ds:TypeId} {x:Operand} {b:ByteArray} (hi:ops[i]? = some o) (hw:b4 ops st.den o = some gb) (hd:dp nt o.dst = true) (ho:o.op = .convert sr ds x) (hcv:acq E (ev st.den) sr ds x = some b) (hg:gb = true) (hp:b.size <= maxLen) (hT:Reg P E nt ops L (st.after o.dst (some (.v (.one (.p (.sl b.size 1 false (aur b)))))) []) fun T sf=>K (⟨i,⟨0,false,true, .tup [],[],[],[]⟩,looks st.den o,cj st.den o.dst [],none⟩ :: T) sf):Reg P E nt ops (i :: L) st K:=by
 obtain ⟨T,sf,h1,h2,h3⟩:=hT;exact ⟨_,sf,by rw [<- h1];rfl, .cons hi (.conv sr ds x b (by rw [hw,hg]) hd ho hcv hp rfl) rfl (fun _ hk=>hk) (by intro _ hf;cases hf) (by rw [mo] at h2;exact h2),h3⟩
def arp {cl:Call} {f:FuncId} {fst caps args vs:List PC} {p:Prop} {b:Bool} {res:PR} (hi:ops[i]? = some o) (hw:b4 ops st.den o = some gb) (hd:dp nt o.dst = true) (ho:o.op = .call cl) (hc:callee (ev st.den) cl = some (f,fst,caps)) (hv:ku st.den.o (ev st.den) cl.args.toList = some (p,vs,b)) (hf:goodFn P f) (hpure:a6 P f args res) (hco:CoL (fst ++ (vs ++ caps)) args) (hg:gb = true) (hp:p) (hb:(!b || res.flat) = true) (hT:Reg P E nt ops L (st.after o.dst (some res.toH) []) fun T sf=>K (⟨i,⟨0,false,true,res,[],[],[]⟩,looks st.den o,cj st.den o.dst [],none⟩ :: T) sf):Reg P E nt ops (i :: L) st K:=by
 obtain ⟨T,sf,h1,h2,h3⟩:=hT;exact ⟨_,sf,by rw [<- h1];rfl,   .cons hi (.call cl f fst caps args p vs b (by rw [hw,hg]) hd ho hc hf hv hp hco hpure hb rfl) rfl (fun _ hk=>hk) (by intro _ hf;cases hf) (by rw [mo] at h2;exact h2),h3⟩
end
end
def HW {ro:Option Nat} (P:Program) (nt:Nat) (c:Code) (st:HSt) (Q:Exit -> HSt -> Prop):Prop :=
 ∀ w0 m0 a w,Rel w0 m0 nt st.den a w -> c.wpIn (rf ro) 0 P (fun e a' w'=>∃ st':HSt,Q e st' /\ Rel w0 m0 nt st'.den a' w') a w
def rz:List (Nat × Option HR) -> List (Nat × Option HR) -> Prop
 | [],_=>True
 | (d,some x) :: r,l=>(∃ y,bi l d = some y /\ CoR y x) /\ rz r l
 | (_,none) :: r,l=>rz r l
def tj:List (Nat × Option aa) -> List (Nat × Option aa) -> Prop
 | [],_=>True
 | (d,some x) :: r,l=>(∃ y,bi l d = some y /\ CoO y x) /\ tj r l
 | (_,none) :: r,l=>tj r l
def Sub (st st':HSt):Prop:=rz st.t st'.t /\ tj st.o st'.o
def xn:∀ {l l':List (Nat × Option HR)},rz l l' -> ∀ d x,bi l d = some x -> ∃ y,bi l' d = some y /\ CoR y x
 | [],_,_,d,x,h=>by simp [bi] at h
 | (e,some y) :: r,l',h,d,x,hl=>by
  rw [bu] at hl;dsimp only at hl;split at hl
  · rename_i he;subst he;simp only [bmk] at hl;subst hl;exact h.1
  exact xn h.2 d x hl
 | (e,none) :: r,l',h,d,x,hl=>by
  rw [bu] at hl;dsimp only at hl;split at hl
  · cases hl
  exact xn (l:=r) h d x hl
def a1f:∀ {l l':List (Nat × Option aa)},tj l l' -> ∀ d x,bi l d = some x -> ∃ y,bi l' d = some y /\ CoO y x
 | [],_,_,d,x,h=>by simp [bi] at h
 | (e,some y) :: r,l',h,d,x,hl=>by
  rw [bu] at hl;dsimp only at hl;split at hl
  · rename_i he;subst he;simp only [bmk] at hl;subst hl;exact h.1
  exact a1f h.2 d x hl
 | (e,none) :: r,l',h,d,x,hl=>by
  rw [bu] at hl;dsimp only at hl;split at hl
  · cases hl
  exact a1f (l:=r) h d x hl
section
variable {ro:Option Nat} {P:Program} {E:Env} {nt:Nat} {st st':HSt} {Q Q':Exit -> HSt -> Prop} {w0:World} {m0:Old} {a:Act} {w:World}
theorem Rel.sub (hs:Sub st' st) (h:Rel w0 m0 nt st.den a w):Rel w0 m0 nt st'.den a w:=by
 obtain ⟨c,hold,h⟩:=h;exact ⟨c,hold,h.relax _ (fun d x hx=>xn hs.1 d x hx) (fun d x hx=>a1f hs.2 d x hx)⟩
section
variable {c:Code}
def asz (h:HW (ro:=ro) P nt c st Q) (hq:∀ e st,Q e st -> Q' e st):HW (ro:=ro) P nt c st Q' :=
 fun w0 m0 a w hr=>wpIn_mono (h w0 m0 a w hr) fun e a w ⟨st',hQ,hr⟩=>⟨st',hq _ _ hQ,hr⟩
def axb (st':HSt) (hs:Sub st' st) (h:HW (ro:=ro) P nt c st' Q):HW (ro:=ro) P nt c st Q:=fun w0 m0 a w hr=>h w0 m0 a w (hr.sub hs)
def d6 (h:Q .normal st):HW (ro:=ro) P nt .skip st Q:=fun _ _ _ _ hr=>wpIn_skip ⟨st,h,hr⟩
variable {id:Nat}
def dj (h:Q (.exit id) st):HW (ro:=ro) P nt (.exit id) st Q:=fun _ _ _ _ hr=>wpIn_exit ⟨st,h,hr⟩
def aev (h:Q .ret st):HW (ro:=ro) P nt .ret st Q:=fun _ _ _ _ hr=>wpIn_ret ⟨st,h,hr⟩
def bd2 {ro:Option Nat} (P:Program) (nt:Nat) (y:Code) (Q:Exit -> HSt -> Prop):Exit -> HSt -> Prop
 | .normal,st=>HW (ro:=ro) P nt y st Q
 | e,st=>Q e st
def cg {x y:Code} (h:HW (ro:=ro) P nt x st (bd2 (ro:=ro) P nt y Q)):HW (ro:=ro) P nt (.seq x y) st Q:=fun w0 m0 a w hr=>by
 refine wpIn_seq (wpIn_mono (h w0 m0 a w hr) fun e a' w' ⟨st',hQ,hr'⟩=>?_);cases e <;> simp only [Exit.then] <;> first | exact hQ w0 m0 a' w' hr' | exact ⟨st',hQ,hr'⟩
def aj {c:Operand} {x y:Code} (b:Bool) (hc:ev st.den c = some (.v (.one (.p (.raw (.bool b)))))) (ht:b = true -> HW (ro:=ro) P nt x st Q) (hf:b = false -> HW (ro:=ro) P nt y st Q):HW (ro:=ro) P nt (.cond c x y) st Q:=fun w0 m0 a w hr=>by
 obtain ⟨cc,hold,hrr⟩:=hr;obtain ⟨e1,_⟩:=af hrr hc;exact wpIn_cond_split e1 (fun hb=>ht hb w0 m0 a w ⟨cc,hold,hrr⟩) (fun hb=>hf hb w0 m0 a w ⟨cc,hold,hrr⟩)
def aw4 (id:Nat) (Q:Exit -> HSt -> Prop):Exit -> HSt -> Prop
 | .exit id',st=>if id' = id then Q .normal st else Q (.exit id') st
 | e,st=>Q e st
def a4d (h:HW (ro:=ro) P nt c st (aw4 id Q)):HW (ro:=ro) P nt (.block id c) st Q:=fun w0 m0 a w hr=>by
 refine wpIn_block (wpIn_mono (h w0 m0 a w hr) fun e a' w' ⟨st',hQ,hr'⟩=>?_);cases e <;> simp only [Exit.inBlock] <;> try exact ⟨st',hQ,hr'⟩
 rename_i id';simp only [aw4] at hQ;split
 · rename_i h;rw [if_pos h] at hQ;exact ⟨st',hQ,hr'⟩
 rename_i h;rw [if_neg h] at hQ;exact ⟨st',hQ,hr'⟩
def a7c {F:Fence} {m:Nat} {QQ:Exit -> Act -> World -> Prop} (I:Nat -> Act -> World -> Prop) (n0:Nat) {a:Act} {w:World} (h₀:I n0 a w) (round:∀ n a w,I n a w -> c.wpIn F m P (Exit.then (fun a' w'=>∃ m,m < n /\ I m a' w') QQ) a w):(Code.loop c).wpIn F m P QQ a w:=by
 intro b k cs hro hb hr
 have key:∀ n a w,I n a w -> ∃ e a' w',QQ e a' w' /\ ArrivesIn (Machine.fenced P F) P (lone (b.atR a (.code c :: .inLoop c :: k)) cs w) b k cs e a' w':=by
  intro n
  induction n using Nat.strongRecOn with
  | _ n ih =>
   intro a w hI;obtain ⟨e,a₁,w₁,hq,harr⟩:=round n a w hI b (.inLoop c :: k) cs hro hb hr
   cases e with
   | normal =>
    obtain ⟨m,hlt,hI₁⟩:=hq;obtain ⟨e₂,a₂,w₂,hq₂,harr₂⟩:=ih m hlt a₁ w₁ hI₁;exact ⟨e₂,a₂,w₂,hq₂, .of_steps (StepsIn.trans harr (.one (fenced_calm hb hr rfl) stepR_inLoop)) harr₂⟩
   | exit id=>exact ⟨_,a₁,w₁,hq, .pass (x:=.inLoop c) rfl (fun _ _=>.inl br1) harr⟩
   | goto l=>exact ⟨_,a₁,w₁,hq, .pass (x:=.inLoop c) rfl (fun _ _=>.inl br1) harr⟩
   | ret=>exact ⟨_,a₁,w₁,hq, .pass (x:=.inLoop c) rfl (fun _ _=>.inl br1) harr⟩
   | panic ch=>exact ⟨_,a₁,w₁,hq, .pass (x:=.inLoop c) rfl (fun _ _=>.inl br1) harr⟩
   | outgrown=>exact ⟨_,a₁,w₁,hq, .pass (x:=.inLoop c) rfl (fun _ _=>.inl br1) harr⟩
 obtain ⟨e,a',w',hq,harr⟩:=key n0 a w h₀;exact ⟨e,a',w',hq, .of_steps (.one (fenced_calm hb hr rfl) stepR_loop) harr⟩
def aji {ι:Type} (I:ι -> HSt) (p:ι -> Prop) (μ:ι -> Nat) (i:ι) (Q:Exit -> HSt -> Prop):Exit -> HSt -> Prop
 | .normal,st=>∃ i',p i' /\ μ i' < μ i /\ Sub (I i') st
 | e,st=>Q e st
def b91 {ι:Type} {body:Code} (I:ι -> HSt) (p:ι -> Prop) (μ:ι -> Nat) (i0:ι) (h0:p i0) (hs:Sub (I i0) st) (round:∀ i,p i -> HW (ro:=ro) P nt body (I i) (aji I p μ i Q)):HW (ro:=ro) P nt (.loop body) st Q:=fun w0 m0 a w hr=>by
 refine a7c (fun n a w=>∃ i,p i /\ μ i = n /\ Rel w0 m0 nt (I i).den a w) (μ i0) ⟨i0,h0,rfl,hr.sub hs⟩ ?_;rintro n a w ⟨i,hp,rfl,hr⟩;refine wpIn_mono (round i hp w0 m0 a w hr) fun e a' w' ⟨st',hQ,hr'⟩=>?_;cases e <;> simp only [Exit.then] <;> try exact ⟨st',hQ,hr'⟩
 obtain ⟨i',hp',hlt,hsub⟩:=hQ;exact ⟨μ i',hlt,i',hp',rfl,hr'.sub hsub⟩
def ai8 (hE:d7 P E) {ops:Array Oper} (h:Reg P E nt ops (List.range ops.size) st fun _ sf=>Q .normal sf):HW (ro:=ro) P nt (.region id ops false) st Q:=fun w0 m0 a w hr=>by
 obtain ⟨T,sf,hl,hT,h⟩:=h;refine wpIn_region ?_;rw [<- hl];exact a3l hE (fun a' w' hr'=>⟨sf,h,hr'⟩) T _ a w hT hr
def af8 (hE:d7 P E) (hm:P.follows .mixedOrders = true) {ops:Array Oper} (L:List Nat) (h:Reg P E nt ops L st fun T sf=>adw ops T = true /\ Q .normal sf):HW (ro:=ro) P nt (.region id ops true) st Q:=fun w0 m0 a w hr=>by
 obtain ⟨T,sf,hl,hT,hc,h⟩:=h;exact ad9 hE hm hT hc hr fun a' w' hr'=>⟨sf,h,hr'⟩
def a0e (E:Env) (s:S):List ResultVar -> Option (Prop × List HC)
 | []=>some (True,[])
 | .tmp t :: r =>
  match s.t t,a0e E s r with
  | some (.v cc),some (p,l)=>some (p,cc :: l)
  | _,_=>none
 | .cell ad ty :: r =>
  match nq E s.o (ev s) ty (.tmp ad),a0e E s r with
  | some ⟨p1, .v cc⟩,some (p,l)=>some (p1 /\ p,cc :: l)
  | _,_=>none
def qp (o:b6):List HC -> Option (Prop × List PC)
 | []=>some (True,[])
 | x :: r =>
  match a1o o x,qp o r with
  | some (p,y,_),some (q,ys)=>some (p /\ q,y :: ys)
  | _,_=>none
def a8:List PC -> PR
 | [x]=>.v x
 | l=>.tup l
def ads (E:Env) (st:HSt) (rs:List ResultVar) (res:List PC):Prop :=
 ∃ p l q vs,a0e E st.den rs = some (p,l) /\ p /\ qp st.den.o l = some (q,vs) /\ q /\ CoL vs res
def aa1 {t:TypeId} {u v:Value} (h:(Instr.loadAt t u).run P w = .ok v w):∃ ad,u = .pointer (some ad) /\ (loadVar t ad).run P w = .ok v w:=by
 cases u <;> try (simp [Instr.loadAt,Instr.sureAddr] at h;done)
 rename_i ad
 cases ad with
 | none=>simp [Instr.loadAt,Instr.sureAddr] at h
 | some ad=>exact ⟨ad,rfl,by simpa [Instr.loadAt,Instr.sureAddr] using h⟩
def yh (hE:d7 P E) {c:Ctx} {s:S} (h:ah w0 nt c s a w) (F:ResultVar -> Sem Value) (F1:∀ t,F (.tmp t) = pure (a.tmps.getD t undef)) (F2:∀ ad t,F (.cell ad t) = do loadVar t (<- asAddr (a.tmps.getD ad undef))) :
 ∀ {rs:List ResultVar} {p:Prop} {l:List HC},a0e E s rs = some (p,l) -> p -> ∃ vs:List Value,(rs.mapM F).run P w = .ok vs w /\ c5 c s.o l vs
 | [],p,l,hr,_=>by
  simp only [a0e,bmk,bmu] at hr;obtain ⟨_,rfl⟩:=hr;exact ⟨[],by simp,trivial⟩
 | .tmp t :: r,p,l,hr,hp=>by
  simp only [a0e] at hr;split at hr <;> try (cases hr;done)
  rename_i cc p1 l1 ht hr1;simp only [bmk,bmu] at hr;obtain ⟨rfl,rfl⟩:=hr;obtain ⟨vs,h1,h2⟩:=yh hE h F F1 F2 hr1 hp;refine ⟨a.tmps.getD t undef :: vs, ?_,h.tmps t _ ht,h2⟩;rw [List.mapM_cons,F1];simp only [bnw,boi,bn8,h1]
 | .cell ad ty :: r,p,l,hr,hp=>by
  simp only [a0e] at hr;split at hr <;> try (cases hr;done)
  rename_i p1 cc p2 l2 hld hr1;simp only [bmk,bmu] at hr;obtain ⟨rfl,rfl⟩:=hr;obtain ⟨v,hv,hvr⟩:=a80 hE h hld hp.1;obtain ⟨ad',he,hlv⟩:=aa1 hv;have he':a.tmps.getD ad undef = .pointer (some ad'):=he;obtain ⟨vs,h1,h2⟩:=yh hE h F F1 F2 hr1 hp.2;refine ⟨v :: vs, ?_,hvr,h2⟩;rw [List.mapM_cons,F2,he'];simp only [asAddr,bnw,boi,bn8,hlv,h1]
def po {c:Ctx} {s:S} (h:ah w0 nt c s a w) {m:Imm} (hm:a04 w0 c w m):∀ {l:List HC} {us:List Value} {p:Prop} {vs:List PC},c5 c s.o l us -> qp s.o l = some (p,vs) -> p -> cn m vs us
 | [],[],p,vs,_,hv,_=>by
  simp only [qp,bmk,bmu] at hv;obtain ⟨_,rfl⟩:=hv;trivial
 | x :: l,u :: us,p,vs,hr,hv,hp=>by
  simp only [qp] at hv;split at hv <;> try (cases hv;done)
  rename_i p1 y b q ys h1 h2;simp only [bmk,bmu] at hv;obtain ⟨rfl,rfl⟩:=hv;exact ⟨(aan h hm hr.1 h1 hp.1).1,po h hm hr.2 h2 hp.2⟩
 | [],_ :: _,_,_,hr,_,_=>hr.elim
 | _ :: _,[],_,_,hr,_,_=>hr.elim
theorem Rel.strike {P:Program} {nt:Nat} {st:S} {w0:World} {m0:Old} {fn:Func} {R:Ending -> World -> Prop}:∀ {l:List Deferred} {a:Act} {w:World},a.defers = l -> Rel w0 m0 nt st a w ->
 (∀ w',Rel w0 m0 nt st { a with defers:=[] } w' -> ∃ v,(results fn a.tmps).run P w' = .ok v w' /\ R (.returned v) w') -> LeavesInM (rf none) 0 P fn a.tmps R l .returning w
 | [],a,w,hl,hr,h=>by
  obtain ⟨tm,ds⟩:=a;simp only at hl;subst hl;obtain ⟨v,h1,h2⟩:=h w hr;exact ⟨v,h1,h2⟩
 | d :: l,a,w,hl,hr,h=>by
  obtain ⟨tm,ds⟩:=a;simp only at hl;subst hl;obtain ⟨c,hold,hrc⟩:=hr;obtain ⟨hpw,hds⟩:=hrc.defers;obtain ⟨D,rfl,h2,h3,h4,h5⟩:=hds d br1;refine ⟨by simp, .inl ⟨D,_,rfl,run_takeDeferred h2, ?_⟩⟩
  have hne:∀ b,b ≠ D -> (w.putObj D (.deferred none)).heap[b]? = w.heap[b]?:=fun b hb=>by
   show (w.heap.setIfInBounds D _)[b]? = _;rw [bqg (Ne.symm hb)]
  refine Rel.strike (a:={ tmps:=tm,defers:=l }) (w:=w.putObj D (.deferred none)) rfl ⟨c,hold,⟨(bnu.1 hpw).2,fun d' hd'=>?_⟩,hrc.size, ?_,hrc.tmps,fun id ob ho=>?_,hrc.inj,fun b ob hb=>?_,hrc.sep,hrc.was,fun b ob hb=>?_,hrc.fsep,hrc.fixed⟩ h
  · obtain ⟨D',rfl,g2,g3⟩:=hds d' (by simp [hd'])
    refine ⟨D',rfl,(hne D' fun e=>(bnu.1 hpw).1 _ hd' (by rw [e])).trans g2,g3⟩
  · have hb:=hrc.below
    exact ⟨hb.os,hb.tape,hb.output,by show _ <= (w.heap.setIfInBounds D _).size;rw [Array.size_setIfInBounds];exact hb.size,fun k hk=>absurd hk (bmq k),hb.drawn⟩
  · refine (hrc.objs id ob ho).keep (Imm.le.refl _) rfl rfl (fun _ _=>Evo.refl _ _ _) fun b hb=>hne b fun e=>?_
    obtain ⟨x1,hc,hdt⟩:=(hrc.objs id ob ho).data hb;rw [e,h2] at hc;cases hc;cases hdt
  · refine (hne b fun e=>?_).trans (hrc.imm b ob hb)
    rw [e,h3] at hb;cases hb
  refine (hne b fun e=>?_).trans (hrc.frm b ob hb);rw [e,h4] at hb;cases hb
def a0z:Nat -> List PC -> List (Nat × Option HR)
 | _,[]=>[]
 | i,x :: r=>(i,some (.v x.toH)) :: a0z (i + 1) r
def a5j:∀ (l:List PC) (i d:Nat) (r:HR),bi (a0z i l) d = some r -> ∃ x,i <= d /\ l[d - i]? = some x /\ r = .v x.toH
 | [],i,d,r,h=>by simp [a0z,bi] at h
 | x :: l,i,d,r,h=>by
  simp only [a0z] at h;rw [bu] at h;dsimp only at h;split at h
  · rename_i hd
    subst hd;simp only [bmk] at h;exact ⟨x,bmp _,by simp,h.symm⟩
  rename_i hd;obtain ⟨y,h1,h2,h3⟩:=a5j l (i + 1) d r h;refine ⟨y,by omega, ?_,h3⟩;rw [show d - i = (d - (i + 1)) + 1 by omega];simpa using h2
def b3e (hE:d7 P E) {f:FuncId} {fn:Func} {body:Code} {args res:List PC} (hf:P.funcs[f]? = some fn) (hb:fn.body = some body) (hn:fn.ntmps = nt) (hl:args.length <= nt)
 (h:HW (ro:=none) P nt body ⟨a0z 0 args,[]⟩ fun e st=>(e = .normal \/ e = .ret) /\ ads E st fn.results.toList res):a6 P f args (a8 res):=by
 intro w imm us htab himm hargs;refine (callsIn_wide (n:=0)).1 (callsIn_of_wp_marks hf hb trivial ?_ rfl);have hul:=hargs.length
 let a0:Act:={ tmps:=us.toArray ++ Array.replicate (fn.ntmps - us.toArray.size) undef,defers:=[] }
 have hrel:Rel w (imm,gw w,(fun _=>undef),(fun _=>none),fun _ _=>undef) nt (HSt.den ⟨a0z 0 args,[]⟩) a0 w:=by
  refine ⟨{ old:=(imm,gw w,(fun _=>undef),(fun _=>none),fun _ _=>undef),imm:=imm,tab:=htab,own:=fun _=>undef,blk:=fun _=>noB,rows:=fun _ _=>undef },rfl,rj.nil _ _ _ _, ?_,Below.refl _ _,fun d x hx=>?_,fun id ob ho=>?_,fun i i' ob ob' b ho=>?_,himm,fun id ob b ho=>?_,fun b _=>rfl,fun b ob hb=>hb,fun id ob b ho=>?_,fun id _=>.inl rfl⟩
  · simp only [a0,bpe,Array.size_replicate,bnz,hn];omega
  · obtain ⟨y,_,hy,rfl⟩:=a5j args 0 d x hx
    simp only [bpz] at hy;obtain ⟨u,hu,hr⟩:=hargs.get d y hy;have hd:d < us.length:=(bop.1 hu).1
    have:a0.tmps.getD d undef = u:=by
     have e1:a0.tmps[d]? = some u:=by
      simp only [a0];rw [bq3 (by simpa using hd)];simpa using hu
     have e2:d < a0.tmps.size:=(bmr.1 e1).1;rw [Array.getD_eq_getD_getElem?,e1];rfl
    rw [this];exact fw.of_P hr
  · simp [HSt.den,bi] at ho
  · simp [HSt.den,bi] at ho
  · simp [HSt.den,bi] at ho
  simp [HSt.den,bi] at ho
 refine wpIn_mono (h w (imm,gw w,(fun _=>undef),(fun _=>none),fun _ _=>undef) a0 w hrel) fun e a' w1 ⟨st',⟨hex,hres⟩,hr1⟩=>?_
 suffices key:LeavesInM (rf none) 0 P fn a'.tmps _ a'.defers .returning w1 by
  rcases hex with rfl | rfl <;> exact key
 refine Rel.strike rfl hr1 fun w' hr'=>?_;obtain ⟨c,hold,hrc⟩:=hr';obtain ⟨p,l,q,vs,h1,h2,h3,h4,h5⟩:=hres
 have hfrm:∀ b,b < w.heap.size -> c.frm b ≠ none /\ w'.heap[b]? = w.heap[b]?:=fun b hb=>by
  have e1:c.frm b = some w.heap[b]:=by
   show c.old.2.1 b = _;rw [hold];exact bnm hb
  refine ⟨by rw [e1];simp, ?_⟩;rw [hrc.frm b _ e1,bnm hb]
 have hwas:∀ b,b < w.heap.size -> c.imm b = imm b:=fun b hb=>by
  rw [hrc.was b (hfrm b hb).1,hold]
 have hseen:a04 w c w' (fun b=>if b < w.heap.size then imm b else w'.heap[b]?):=by
  refine ⟨fun b ob hbo=>?_,fun b hb _=>?_⟩
  · by_cases hlt:b < w.heap.size
    · simp only [hlt,if_true]
      rw [<- hwas b hlt];exact hbo
    simp only [hlt,if_false];exact hrc.imm b ob hbo
  have:¬ b < w.heap.size:=fun hlt=>(hfrm b hlt).1 hb;simp [this]
 have hrv:∃ v,(results fn a'.tmps).run P w' = .ok v w' /\ so (fun b=>if b < w.heap.size then imm b else w'.heap[b]?) (a8 res) v:=by
  let F:ResultVar -> Sem Value:=fun | .tmp t=>pure (a'.tmps.getD t undef) | .cell ad t=>do loadVar t (<- asAddr (a'.tmps.getD ad undef))
  obtain ⟨uvs,hrun,hrep⟩:=yh hE hrc F (fun _=>rfl) (fun _ _=>rfl) h1 h2;have hF:results fn a'.tmps = (do let vs <- fn.results.mapM F;pure (if h:vs.size = 1 then vs[0] else .tuple vs)):=rfl;rw [hF,Array.mapM_eq_mapM_toList,bnw,Sem.run_map];have hview:=CoL.sound h5 (po hrc hseen hrep h3 h4);rw [hrun];simp only [bn8,boi];refine ⟨_,rfl, ?_⟩
  match res,uvs,hview with
  | [x],[u],hv=>simp only [a8,so];simpa using hv.1
  | [],[],hv=>exact ⟨[],by simp,trivial⟩
  | x :: y :: r,u :: v :: t,hv=>exact ⟨u :: v :: t,by simp,hv⟩
  | [],_ :: _,hv=>exact hv.elim
  | [_],[],hv=>exact hv.elim
  | [_],_ :: _ :: _,hv=>exact hv.2.elim
  | _ :: _ :: _,[],hv=>exact hv.elim
  | _ :: _ :: _,[_],hv=>exact hv.2.elim
 obtain ⟨v,hv1,hv2⟩:=hrv
 have hfin:(∃ v_1 imm',Ending.returned v = Ending.returned v_1 /\ so imm' (a8 res) v_1 /\ (∀ b,b < w.heap.size -> imm' b = imm b) /\ (∀ b ob,imm' b = some ob -> w'.heap[b]? = some ob) /\ Below w.heap.size w w'):=by
  refine ⟨v,_,rfl,hv2,fun b hb=>by simp [hb],fun b ob hbo=>?_,⟨hrc.below.os,hrc.below.tape,hrc.below.output,hrc.below.size,fun k hk=>(hfrm k hk).2,hrc.below.drawn⟩⟩;by_cases hlt:b < w.heap.size
  · simp only [hlt,if_true] at hbo
    refine hrc.imm b ob ?_;rw [hwas b hlt];exact hbo
  simpa [hlt] using hbo
 exact ⟨v,hv1,hfin⟩
end
end
end
section
open Go.RowKit
section
variable {ro:Option Nat} {P:Program} {nt:Nat} {st:HSt} {Q:Exit -> HSt -> Prop}
def tg (st:HSt) (id:Nat):(HSt.den ⟨st.t,(id,none) :: st.o⟩) = st.den.setO id none:=by
 unfold HSt.den S.setO;simp [bu]
section
variable {c:Code}
def xp (st1:HSt) (d:Nat) (x:HR) (hs:∀ w0 m0 a w,Rel w0 m0 nt st.den a w -> ∃ cc,cc.old = m0 /\ ah w0 nt cc st1.den a w /\ am cc st1.den.o x (a.tmps.getD d undef)) (h:HW (ro:=ro) P nt c ⟨(d,some x) :: st1.t,st1.o⟩ Q):HW (ro:=ro) P nt c st Q:=fun w0 m0 a w hr=>by
 obtain ⟨cc,hold,hrr,hx⟩:=hs w0 m0 a w hr;refine h w0 m0 a w ⟨cc,hold,hrr.defers,hrr.size,hrr.below,fun k y hy=>?_,hrr.objs,hrr.inj,hrr.imm,hrr.sep,hrr.was,hrr.frm,hrr.fsep,hrr.fixed⟩;simp only [HSt.den] at hy;rw [bu] at hy;dsimp only at hy;split at hy
 · rename_i hk
   subst hk;simp only [bmk] at hy;subst hy;exact hx
 exact hrr.tmps k y hy
variable {f:Nat -> Nat -> PV} {id:Nat}
def al (d:Nat) {n n' s:Nat} {wr:Bool} {e:TypeId} (hd:bi st.t d = some (.v (.one (.ref id n)))) (ho:bi st.o id = some (.arr wr s e n' f)) (hn:n' = n) (h:HW (ro:=ro) P nt c ⟨(d,some (bp (.sl n s false f))) :: st.t,(id,none) :: st.o⟩ Q):HW (ro:=ro) P nt c st Q:=by
 subst hn;refine xp ⟨st.t,(id,none) :: st.o⟩ d (bp (.sl n' s false f)) (fun w0 m0 a w hr=>?_) h;obtain ⟨cc,hold,hrr⟩:=hr;refine ⟨_, ?_,by rw [tg];exact hrr.freeze ho, ?_⟩
 · exact hold
 obtain ⟨_,_,h3⟩:=hrr.tmps d _ hd;have:=(h3 _ _ _ _ ho rfl).2 rfl;rw [this];exact qx hrr ho
def auo (d:Nat) {n n' i m s:Nat} {wr:Bool} {e:TypeId} (hd:bi st.t d = some (.v (.one (.win id n i m)))) (ho:bi st.o id = some (.arr wr s e n' f)) (hn:n' = n) (h:HW (ro:=ro) P nt c ⟨(d,some (bp (.sl m s false fun a b=>f (i + a) b))) :: st.t,(id,none) :: st.o⟩ Q):HW (ro:=ro) P nt c st Q:=by
 subst hn;refine xp ⟨st.t,(id,none) :: st.o⟩ d (bp (.sl m s false fun a b=>f (i + a) b)) (fun w0 m0 a w hr=>?_) h;obtain ⟨cc,hold,hrr⟩:=hr;refine ⟨_, ?_,by rw [tg];exact hrr.freeze ho, ?_⟩
 · exact hold
 exact adv hrr ho (hrr.tmps d _ hd)
def d8 (d:Nat) {l:List HV} {ps:List PV} (hd:bi st.t d = some (.v (.one (.ptr id 0)))) (ho:bi st.o id = some (.box l)) (hp:mn l = some ps) (h:HW (ro:=ro) P nt c ⟨(d,some (bp (.vp ps.length fun j=>ps.getD j .any))) :: st.t,(id,none) :: st.o⟩ Q):HW (ro:=ro) P nt c st Q:=by
 refine xp ⟨st.t,(id,none) :: st.o⟩ d _ (fun w0 m0 a w hr=>?_) h;obtain ⟨cc,hold,hrr⟩:=hr;refine ⟨_, ?_,by rw [tg];exact hrr.freeze ho, ?_⟩
 · exact hold
 obtain ⟨_,_,h3⟩:=hrr.tmps d _ hd;obtain ⟨b,hb,hu⟩:=h3 l ho;rw [hu,<- hb];exact avc hrr ho hp
def agv (bx off:Nat) {n n' s:Nat} {wr:Bool} {e:TypeId} {l:List HV} (hb:bi st.o bx = some (.box l)) (hl:l[off]? = some (.ref id n)) (ho:bi st.o id = some (.arr wr s e n' f)) (hn:n' = n) (hne:Nat.beq bx id = false) (h:HW (ro:=ro) P nt c ⟨st.t,(bx,some (.box (b9 l off [.p (.sl n s false f)]))) :: (id,none) :: st.o⟩ Q):HW (ro:=ro) P nt c st Q:=fun w0 m0 a w hr=>by
 subst hn;obtain ⟨cc,hold,hrr⟩:=hr;have hbi:bx ≠ id:=by rintro rfl;simp at hne
 have hfr:=hrr.freeze (id:=id) ho;rw [<- tg] at hfr
 have hb':(HSt.den ⟨st.t,(id,none) :: st.o⟩).o bx = some (.box l):=by
  simp only [HSt.den,bu,hbi,if_false];exact hb
 refine h w0 m0 a w ?_
 have hw:=hfr.write bx (.box l) hb' (.box (b9 l off [.p (.sl n' s false f)])) w (cc.own bx) (cc.blk bx) none (Grw.refl w _) (fun _ e=>by cases e) (.inr (.inl ⟨l,b9 l off [.p (.sl n' s false f)],hb',by simp [S.setO],by simp⟩)) (fun b hb=>.inl hb) (by
  obtain ⟨b,C,ee,q1,q2,q3,q4,q5⟩:=hfr.objs bx _ hb';refine ⟨b,C,ee,by simpa using q1,by simpa using q2,q3,q4, ?_⟩;have hoff:off < l.length:=(bop.1 hl).1;have hcl:=q5.length;refine bc.of_get ?_ fun k x u hx hu=>?_
  · simp only [b9,bmo,bmv,bog,bo3];omega
  have hx':=hx;unfold b9 at hx';rw [dl l [HV.p (.sl n' s false f)] off k br8] at hx';by_cases hk:k = off
  · subst hk
    simp at hx';subst hx';obtain ⟨b0,C0,e0,p1,p2,p3,p4,p5⟩:=hrr.objs bx _ hb
    have hbb:b0 = b:=by
     have q2':cc.blk bx = a4b b:=q2;have q3':a4b b b0:=by rw [<- q2',p2];rfl
     exact q3'
    subst hbb
    have hCC:C0 = C:=by
     rw [q4] at p4;simp only [bmk,Obj.cells.injEq] at p4;exact p4.1.symm
    subst hCC;obtain ⟨u',hu',hr'⟩:=p5.get k _ hl;rw [hu] at hu';simp only [bmk] at hu';subst hu';obtain ⟨_,_,h3⟩:=hr';have:=(h3 _ _ _ _ ho rfl).2 rfl;rw [this];exact qx hrr ho
  rw [if_neg br8] at hx';obtain ⟨u',hu',hr'⟩:=q5.get k x hx';rw [hu] at hu';simp only [bmk] at hu';subst hu';refine bm.evo ?_ (fun j _=>?_) hr'
  · exact Imm.le.refl (frozenImm cc w id)
  by_cases hj:j = bx
  · subst hj;exact .inr (.inl ⟨l,b9 l off [.p (.sl n' s false f)],hb',by simp [S.setO],by simp⟩)
  exact Evo.of_same (by simp [S.setO,hj]) (by simp [hj]))
 have e:HSt.den ⟨st.t,(bx,some (.box (b9 l off [.p (.sl n' s false f)]))) :: (id,none) :: st.o⟩ = (HSt.den ⟨st.t,(id,none) :: st.o⟩).setO bx (some (.box (b9 l off [.p (.sl n' s false f)]))):=by
  unfold HSt.den S.setO;simp only [S.mk.injEq,true_and];funext k;simp only [bu]
 rw [e];exact ⟨_,(by exact hold),hw⟩
end
end
end
end Go.Hx
