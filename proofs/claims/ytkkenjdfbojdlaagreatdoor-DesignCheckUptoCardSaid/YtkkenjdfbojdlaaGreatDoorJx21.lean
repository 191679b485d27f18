/- A part of the proof: Cs21 V19 Cs22 Cs23 Hx21. -/
import Derived.ChangeArms
import Derived.OpenShut
import Derived.ProofKit
import Derived.WalkKit
import Derived.WideKeyArgs
import Derived.Test.YtkkenjdfbojdlaaGreatDoorJx20
set_option linter.all false
set_option maxRecDepth 100000
namespace Go.Hx
section
section
variable {l:List Fd} {s:AS}
def awj (h:dy l s = true):∃ x,ad3 l s = some x /\ sub x s /\ ot l s x = true:=by
 unfold dy at h;obtain ⟨x,hx⟩:=Option.isSome_iff_exists.1 h;refine ⟨x,hx, ?_,List.find?_some hx⟩;have hm:=List.mem_of_find?_eq_some hx;unfold aw at hm;split at hm
 · cases hm
 exact a08.1 hm
def ac9 {a:AS} (h:sub a s) (hne:a ≠ s):bsz a < bsz s:=by
 rcases blx (af2 h) with h1 | h1
 · exact h1
 exfalso;apply hne
 have hs:(aj a).Sublist (aj s):=by
  have:aj a = (aj s).filter fun i=>a.getLsbD i:=by
   unfold aj;rw [List.filter_filter];apply List.filter_congr;intro i hi;rw [bjs] at hi
   cases ha:a.getLsbD i with
   | false=>rfl
   | true=>rw [ar.1 h i hi ha];rfl
  rw [this];exact List.filter_sublist
 rw [ss,ss] at h1;have he:=hs.eq_of_length h1;refine ep h (ar.2 fun i hi hb=>?_);have:i ∈ aj s:=jc.2 ⟨hi,hb⟩;rw [<- he] at this;exact (jc.1 this).2
def spA (l:List Fd) (s:AS):AS:=(kz l s).lhs ||| (kz l s).rhs
def spB (l:List Fd) (s:AS):AS:=s &&& ~~~(kz l s).rhs
def a5e {a b:AS}:sub (a &&& b) b:=ar.2 fun i hi h=>by rw [bjv,bjm] at h;exact h.2
def tk {a b:AS}:sub (a &&& b) a:=ar.2 fun i hi h=>by rw [bjv,bjm] at h;exact h.1
def a5o {a b c:AS} (h:sub a b) (k:sub a c):sub a (b &&& c):=ar.2 fun i hi ha=>by rw [bjv,ar.1 h i hi ha,ar.1 k i hi ha];rfl
def azs (h:dy l s = true):sub (spA l s) s /\ spA l s ≠ s /\ sub (spB l s) s /\ spB l s ≠ s:=by
 obtain ⟨x,hx,hs,hv⟩:=awj h;unfold ot at hv;rw [bjm,decide_eq_true_iff,decide_eq_true_iff] at hv;have e:kz l s = as8 l s x:=by unfold kz;rw [hx]
 have hxc:sub x (clo l x &&& s):=a5o ab6 hs
 have ea:spA l s = clo l x &&& s:=by
  unfold spA;rw [e];apply ep
  · exact a1v hxc tk
  refine ar.2 fun i hi hb=>?_;show (x ||| ((clo l x &&& s) &&& ~~~x)).getLsbD i = true;rw [bky,bjv,blg,hb,decide_eq_true hi];cases x.getLsbD i <;> rfl
 refine ⟨ea ▸ a5e,ea ▸ hv.2,tk,fun eb=>hv.1 ?_⟩;unfold spB at eb;rw [e] at eb;refine ep (ar.2 fun i hi hb=>?_) hxc;have hsi:s.getLsbD i = true:=ar.1 a5e i hi hb;have h2:=congrArg (fun z:AS=>z.getLsbD i) eb
 have h3:(as8 l s x).rhs.getLsbD i = !x.getLsbD i:=by
  show ((clo l x &&& s) &&& ~~~x).getLsbD i = _;rw [bjv,hb,blg,decide_eq_true hi];rfl
 simp only [bjv,blg,decide_eq_true hi,hsi,h3,blm,Bool.not_not] at h2;exact h2
def aa6 (l:List Fd):Nat -> List AS -> List AS -> List AS
 | 0,_,out=>out
 | n + 1,todo,out =>
  if todo.length = 0 then out
  else if dy l (todo.getD (todo.length - 1) default) = true then aa6 l n (todo.take (todo.length - 1) ++ [spA l (todo.getD (todo.length - 1) default),spB l (todo.getD (todo.length - 1) default)]) out
  else aa6 l n (todo.take (todo.length - 1)) (out ++ [todo.getD (todo.length - 1) default])
def ar2 (n:Int) (l:List Fd):List AS:=aa6 l 6562 [a8 n] []
def ak0 (n:Int) (l:List Fd):List AS:=if gm n l 8 = 0 then ic (ar2 n l) else []
variable {n:Int}
def b9t (h:gm n l 8 = 0):ak0 n l = ic (ar2 n l):=if_pos h
def bb9 (h:¬ gm n l 8 = 0):ak0 n l = []:=if_neg h
def qd (todo:List AS):Nat:=(todo.map fun s=>3 ^ bsz s).sum
def aa8 (a b:List AS):qd (a ++ b) = qd a + qd b:=by unfold qd;rw [bln,List.sum_append]
def aix:∀ todo:List AS,todo.length <= qd todo
 | []=>bji _
 | s :: t=>by
  have h1:=aix t;have h2:0 < 3 ^ bsz s:=Nat.pow_pos bnl;have e:qd (s :: t) = 3 ^ bsz s + qd t:=by unfold qd;rw [bkt,List.sum_cons]
  rw [bk5,e];omega
def ag0 {todo:List AS} (h:0 < todo.length):todo = todo.take (todo.length - 1) ++ [todo.getD (todo.length - 1) default]:=by
 have:=au (l:=todo) (q:=todo.length - 1) bnl;rw [show todo.length - 1 + 1 = todo.length by omega,bjk] at this;exact this
def a4w (n:Int) (l:List Fd) (x:Nat × List AS × List AS):Prop:=aa6 l x.1 x.2.1 x.2.2 = ar2 n l /\ qd x.2.1 < x.1 /\ x.2.2.length + x.1 <= 6562
variable {k:Nat}
def ax5 (h:k <= 32):bsz (jr k) <= k:=by
 unfold bsz
 have e:(List.range 32).countP (fun i=>(jr k).getLsbD i) = (List.range 32).countP fun i=>decide (i < k):=by
  apply List.countP_congr;intro i hi;rw [bjs] at hi;rw [o9 k i hi]
 have h2:∀ m,(List.range m).countP (fun i=>decide (i < k)) <= k /\ (List.range m).countP (fun i=>decide (i < k)) <= m:=by
  intro m
  induction m with
  | zero=>simp
  | succ m ih =>
   rw [bl4,bn9];simp only [bm0,List.countP_nil];by_cases hm:m < k
   · rw [if_pos (decide_eq_true hm)];omega
   rw [if_neg (by simpa using hm)];omega
 rw [e];exact (h2 32).1
def akd {m:Nat} (h:n <= m) (hm:m <= 32):bsz (a8 n) <= m:=by
 unfold a8;exact bjr (ax5 (Nat.min_le_right _ _)) bnl
def azu (h:gm n l 8 = 0):a4w n l (6562,[a8 n],[]):=by
 refine ⟨rfl, ?_,bjg _⟩;show 3 ^ bsz (a8 n) + 0 < 6562;have h1:=akd (n:=n) (m:=8) (a6n h).2 bnl;have h2:3 ^ bsz (a8 n) <= 3 ^ 8:=blz bnl h1;have h3:3 ^ 8 = 6561:=rfl;omega
variable {x:Nat × List AS × List AS}
def a79 (h:a4w n l x):x.2.1.length < 6562 /\ x.2.2.length <= 6562 /\ 0 < x.1:=by
 have:=aix x.2.1;obtain ⟨h1,h2,h3⟩:=h;omega
def b6t (h:a4w n l x) (h0:x.2.1.length = 0):x.2.2 = ar2 n l:=by
 have hp:=(a79 h).2.2;obtain ⟨h1,h2,h3⟩:=h;obtain ⟨m,hm⟩:∃ m,x.1 = m + 1:=⟨x.1 - 1,by omega⟩;rw [hm] at h1;unfold aa6 at h1;rw [if_pos h0] at h1;exact h1
def b19 (h:a4w n l x) (h0:0 < x.2.1.length) (hv:dy l (x.2.1.getD (x.2.1.length - 1) default) = true):
 a4w n l (x.1 - 1,x.2.1.take (x.2.1.length - 1) ++ [spA l (x.2.1.getD (x.2.1.length - 1) default),spB l (x.2.1.getD (x.2.1.length - 1) default)],x.2.2):=by
 have hp:=(a79 h).2.2;obtain ⟨h1,h2,h3⟩:=h;obtain ⟨m,hm⟩:∃ m,x.1 = m + 1:=⟨x.1 - 1,by omega⟩;rw [hm] at h1;unfold aa6 at h1;rw [if_neg bnl,if_pos hv] at h1;refine ⟨by rw [hm];exact h1, ?_,by dsimp only;omega⟩;have e:=aa8 (x.2.1.take (x.2.1.length - 1)) [x.2.1.getD (x.2.1.length - 1) default];rw [<- ag0 h0] at e;have e1:qd [x.2.1.getD (x.2.1.length - 1) default] = 3 ^ bsz (x.2.1.getD (x.2.1.length - 1) default):=by simp [qd]
 generalize x.2.1.getD (x.2.1.length - 1) default = s at *;dsimp only;rw [aa8];have e2:qd [spA l s,spB l s] = 3 ^ bsz (spA l s) + 3 ^ bsz (spB l s):=by simp [qd]
 obtain ⟨f1,f2,f3,f4⟩:=azs hv;have g1:=ac9 f1 f2;have g2:=ac9 f3 f4;obtain ⟨b,hb⟩:∃ b,bsz s = b + 1:=⟨bsz s - 1,by omega⟩;have p1:3 ^ bsz (spA l s) <= 3 ^ b:=blz bnl bnl;have p2:3 ^ bsz (spB l s) <= 3 ^ b:=blz bnl bnl;have p3:3 ^ bsz s = 3 ^ b * 3:=by rw [hb,Nat.pow_succ]
 have p4:0 < 3 ^ b:=Nat.pow_pos bnl;omega
def b20 (h:a4w n l x) (h0:0 < x.2.1.length) (hv:dy l (x.2.1.getD (x.2.1.length - 1) default) = false):
 a4w n l (x.1 - 1,x.2.1.take (x.2.1.length - 1),x.2.2 ++ [x.2.1.getD (x.2.1.length - 1) default]):=by
 have hp:=(a79 h).2.2;obtain ⟨h1,h2,h3⟩:=h;obtain ⟨m,hm⟩:∃ m,x.1 = m + 1:=⟨x.1 - 1,by omega⟩;rw [hm] at h1;unfold aa6 at h1;rw [if_neg bnl,if_neg (by rw [hv];decide)] at h1;refine ⟨by rw [hm];exact h1, ?_,by dsimp only;rw [bjj,bkw];omega⟩;have e:=aa8 (x.2.1.take (x.2.1.length - 1)) [x.2.1.getD (x.2.1.length - 1) default];rw [<- ag0 h0] at e;have e1:qd [x.2.1.getD (x.2.1.length - 1) default] = 3 ^ bsz (x.2.1.getD (x.2.1.length - 1) default):=by simp [qd]
 have p4:0 < 3 ^ bsz (x.2.1.getD (x.2.1.length - 1) default):=Nat.pow_pos bnl;dsimp only;omega
def aoa {α:Type} [Inhabited α] {wr wr':Bool} {n m:Nat} {e:TypeId} {c:α -> Nat -> PV} {l:List α} {x y:α} {f g:Nat -> Nat -> PV} (hn:n = l.length) (hf:∀ i,i < l.length -> CoP (f i 0) (lf c l i 0)) (h0:CoP (g 0 0) (c x 0)) (h1:CoP (g 1 0) (c y 0)) (hm:m = n + 2) (hw:wr' = true -> wr = true:=by exact fun h=>h) :
 CoO (.arr wr 1 e m (fe n f g)) (.arr wr' 1 e (l ++ [x,y]).length (lf c (l ++ [x,y]))):=by
 subst hn hm;refine ⟨hw,rfl,rfl,by simp,fun i j hi hj=>?_⟩;obtain rfl:j = 0:=by omega
 unfold fe;by_cases h:i < l.length
 · rw [if_pos h]
   have:=hf i h;simp only [lf,List.getD,bl2 h] at this ⊢;exact this
 rw [if_neg h]
 rcases (by omega:i = l.length \/ i = l.length + 1) with rfl | rfl
 · rw [Nat.sub_self]
   simp only [lf,List.getD];rw [bl0 (bjg _),Nat.sub_self];exact h0
 rw [show l.length + 1 - l.length = 1 by omega];simp only [lf,List.getD];rw [bl0 bnl,show l.length + 1 - l.length = 1 by omega];exact h1
def amf {α:Type} [Inhabited α] {wr wr':Bool} {m:Nat} {e:TypeId} {c:α -> Nat -> PV} {l:List α} (hk:k <= l.length) (hm:m = k) (hw:wr' = true -> wr = true:=by exact fun h=>h):CoO (.arr wr 1 e m (lf c l)) (.arr wr' 1 e (l.take k).length (lf c (l.take k))):=by
 subst hm;refine ⟨hw,rfl,rfl,by rw [bjn,blc hk],fun i j hi hj=>CoP.of_eq ?_⟩;simp only [lf,List.getD,bkb,if_pos hi]
def b2a:PV.raw (.int .u32 (al .or .u32 (asI (kz l s).lhs) (asI (kz l s).rhs))) = sC (spA l s) 0:=congrArg (fun z=>PV.raw (.int .u32 z)) (bOr _ _)
def b2m {t:List AS} {i j:Nat} (h:i = j):PV.raw (.int .u32 (al .andNot .u32 (asI (t.getD i default)) (asI (kz l (t.getD j default)).rhs))) = sC (spB l (t.getD j default)) 0:=by
 subst h;exact congrArg (fun z=>PV.raw (.int .u32 z)) (gk _ _)
def ail {l:List AS} {i:Nat} (hi:i < (l.take k).length):lf sC l i 0 = lf sC (l.take k) i 0:=by
 rw [bjn] at hi;simp only [lf,List.getD,bkb,if_pos (show i < k by omega)]
def ao5 {ps:List AS} (hk:idx (fun x=>decide (x = s)) ps = k) (h:wa n l (ps.eraseIdx k) = true):w4 n l ps s = ps.eraseIdx k:=by
 unfold w4;rw [hk,bjo,if_pos h]
def apm {ps:List AS} (hk:idx (fun x=>decide (x = s)) ps = k) (h:wa n l (ps.eraseIdx k) = false):w4 n l ps s = ps:=by
 unfold w4;rw [hk,bjo,if_neg (by rw [h];decide)]
end
end
section
open Go.Proofs
def bnw {p:Prop} (h:p:=by simp only [dx,b8,bjj,bk5,bli,bjn];omega):p:=h
def bhc (n:Int) (l:List Fd):a6 bo6 33 [pI n,pP (fdl l)] (a7 [pP (asl (ak0 n l)),pI (gm n l 8)]):=by
 refine hpx (nt:=60) Tryz.func33 ?_;refine c7 ?_;refine qcx (wgx Tryz.func76) (bcx n l) ?_;refine w_7 ?_;refine hcn (fun h0=>?_) (fun h0=>?_)
 · refine v_6 ?_;exact ⟨CoC.one (a38 (bb9 h0)),CoC.refl _,trivial⟩
 refine w_2 ?_;have hv:=fv (a6n h0).1;refine w_7 ?_;refine qcx aio (arp n hv.1 hv.2.1) ?_;refine m9 0 ?_;refine w_3 ?_;refine cb 7 900 true 1 46 (lf sC []) bns rfl (CoP.sl rfl (.inr rfl) (fun h=>h) (fun i j hi _=>absurd hi (bjh i))) (.inr rfl) rfl ?_;refine wq 8 901 rfl rfl rfl rfl ?_;refine ae (ι:=Nat × List AS × List AS) (ka 1 kn) km (fun x=>⟨[(7,some (.v (.one (.ref 900 x.2.2.length)))),(8,some (.v (.one (.ref 901 x.2.1.length))))],[(900,some (.arr true 1 46 x.2.2.length (lf sC x.2.2))),(901,some (.arr true 1 46 x.2.1.length (lf sC x.2.1)))]⟩) (fun x=>a4w n l x) (fun x=>x.1) ((6562,[a8 n],[])) (azu h0) ⟨tt,⟨u9,⟨_,rfl,(zn (CoP.refl _))⟩,trivial⟩⟩ ?_;rintro x hx;have hlen:=a79 hx;refine wq 8 902 rfl rfl rfl rfl ?_;refine w_7 ?_;refine hcd (fun h1=>?_) (fun h1=>?_)
 ·
  refine aei ?_;refine zq ⟨[(1,some _),(7,some _),(8,some _),(9,some _)],[(900,some _),(902,some _)]⟩ (by exact kk) ?_;refine amj 8 901 rfl rfl rfl rfl (by simp only [dx,b8,bjo];omega) rfl ?_;refine w_4 ?_;refine rc rfl rfl rfl rfl rfl rfl aib (arf l (x.2.1.getD (x.2.1.length - 1) default)) (⟨CoC.refl _,CoC.one (CoP.of_eq (congrArg (fun i=>asC (x.2.1.getD i default)) bnl)),trivial⟩) rfl rfl ?_;refine w_3 ?_;refine m9 1 ?_;refine w_7 ?_;refine hcb (fun h2=>?_) (fun h2=>?_)
  ·
   refine ct ?_;refine m9 2 ?_;refine r9 3 true ?_;refine w_2 ?_
   first | (refine ⟨(x.1 - 1, (x.2.1.take (x.2.1.length - 1)) ++ [spA l (x.2.1.getD (x.2.1.length - 1) default), spB l (x.2.1.getD (x.2.1.length - 1) default)], x.2.2), ?_, ?_, ?_⟩
            · exact b19 hx bnl bnm
            · dsimp only
              omega
            exact ⟨⟨zy,⟨_,rfl,(kj bnw)⟩,tt⟩,⟨u9,⟨_,rfl,(aoa bnw (fun i hi=>CoP.of_eq (ail hi)) (CoP.of_eq b2a) (CoP.of_eq (b2m bnl)) rfl)⟩,trivial⟩⟩)
         | (refine ⟨(x.1 - 1,(x.2.1.take (x.2.1.length - 1)),x.2.2 ++ [(x.2.1.getD (x.2.1.length - 1) default)]), ?_, ?_, ?_⟩
            · exact b20 hx bnl bnm
            · dsimp only
              omega
            exact ⟨⟨⟨_,rfl,(bv rfl)⟩,⟨_,rfl,(kj bnw)⟩,tt⟩,⟨⟨_,rfl,(bt rfl (CoP.of_eq (congrArg (fun i=>asC (x.2.1.getD i default)) bnl)))⟩,⟨_,rfl,(amf bnl (by simp only [dx,b8];omega))⟩,trivial⟩⟩)
  refine w_3 ?_;refine m9 4 ?_;refine r9 5 true ?_;refine w_2 ?_
  first | (refine ⟨(x.1 - 1, (x.2.1.take (x.2.1.length - 1)) ++ [spA l (x.2.1.getD (x.2.1.length - 1) default), spB l (x.2.1.getD (x.2.1.length - 1) default)], x.2.2), ?_, ?_, ?_⟩
           · exact b19 hx bnl bnm
           · dsimp only
             omega
           exact ⟨⟨zy,⟨_,rfl,(kj bnw)⟩,tt⟩,⟨u9,⟨_,rfl,(aoa bnw (fun i hi=>CoP.of_eq (ail hi)) (CoP.of_eq b2a) (CoP.of_eq (b2m bnl)) rfl)⟩,trivial⟩⟩)
        | (refine ⟨(x.1 - 1,(x.2.1.take (x.2.1.length - 1)),x.2.2 ++ [(x.2.1.getD (x.2.1.length - 1) default)]), ?_, ?_, ?_⟩
           · exact b20 hx bnl bnm
           · dsimp only
             omega
           exact ⟨⟨⟨_,rfl,(bv rfl)⟩,⟨_,rfl,(kj bnw)⟩,tt⟩,⟨⟨_,rfl,(bt rfl (CoP.of_eq (congrArg (fun i=>asC (x.2.1.getD i default)) bnl)))⟩,⟨_,rfl,(amf bnl (by simp only [dx,b8];omega))⟩,trivial⟩⟩)
 refine w_2 ?_;refine aq 7 rfl rfl rfl ?_;have hx0:x.2.1.length = 0:=by omega
 refine w_2 ?_;refine qcx amd (aa9 x.2.2 bnl) ?_;refine v_3 ?_;exact ⟨CoC.one (CoP.of_eq (by rw [b9t h0,b6t hx hx0])),cci h0.symm,trivial⟩
def be7 (n:Int) (l:List Fd):a6 bo6 42 [pI n,pP (fdl l)] (a7 [pP (asl (a0p n l)),pB (w9 n l),pI (gm n l 8)]):=by
 refine hpx (nt:=49) Tryz.func42 ?_;refine sx7 ?_;refine m9 0 ?_;refine m9 1 ?_;refine w_8 ?_;refine qcx (wgx Tryz.func89) (bc7 n l) ?_;refine fj ?_;refine hcn (fun h0=>?_) (fun h0=>?_)
 · refine w_7 ?_;refine hrr ?_;have he:=b94 h0;exact f9 rfl rfl (⟨CoC.one (a38 he.1),ccb he.2.symm,CoC.refl _,trivial⟩)
 refine w_3 ?_;have hv:=fv (a6n h0).1;have hsl:=ayi n l;have hml:=axu (gw n l);refine w_3 ?_;refine qcx aks (az2 l (gw n l) bnl) ?_;refine w_2 ?_;refine hcv (fun h1=>?_) (fun h1=>?_)
 · refine w_6 ?_;refine hrr ?_;have he:=bau (n:=n) (l:=l) bnm;exact f9 rfl rfl (⟨CoC.one (a38 he.1),ccb he.2.symm,cci h0.symm,trivial⟩)
 refine w_4 ?_;refine qcx amd (aa9 (gw n l) bnl) ?_;refine m9 2 ?_;refine w_4 ?_;refine cw 2 rfl rfl rfl ?_;refine cw 3 rfl rfl rfl ?_;refine w_2 ?_;refine qcx a54 (ayu (ic (gw n l)).length false (lf sC (ic (gw n l))) bnl) ?_;refine qcx (wgx Tryz.func91) (c74 (ic (gw n l)).length false (lf sC (ic (gw n l)))) ?_;refine w_2 ?_;refine b0c (ι:=List AS) (swp 2 1000) (apb 2 1000) rfl (wgx Tryz.func147) (bf8 (ic (gw n l)).length false (lf sC (ic (gw n l))) bnl) [(2,some (bi (bx (.raw (.int .i64 n))))),(3,some (bi (bx (fdl l)))),(9,some (.v (.one (.ptr 2 0))))] (fun ps=>[(2, .box [.p (asl ps)])]) (fun i ps=>ahm n l (ic (gw n l)) i ps) ((ic (gw n l))) (at6 n l (ic (gw n l))) kk [2] (fun _ _=>rfl) rfl rfl ?_ ?_
 · rintro lp i ps hi hI
   have hpl:=hI.2.1;refine w_3 ?_;refine ⟨rfl, ?_⟩;refine w_5 ?_;refine qcx (wgx Tryz.func92) (bh5 ps ((ic (gw n l)).getD ((ic (gw n l)).length - 1 - i) default)) ?_;refine w_3 ?_;obtain ⟨k,hk1,hk2,hk3⟩:=acp (hI.2.2 ((ic (gw n l)).length - 1 - i) bnl);refine w_2 ?_;refine fc9 a54 (a26 ps.length false (lf sC ps) bnl) trivial ?_;refine w_3 ?_;refine gh rfl rfl rfl rfl rfl rfl (wgx Tryz.func93) ((b5d ps k hk2).swap 900 0) (⟨rfl,CoP.of_eq (by rw [hk1]),CoP.of_eq (by rw [hk1]),trivial⟩) uu rfl rfl ?_;refine w_7 ?_;refine qcx (wgx Tryz.func94) (bfu n l (ps.eraseIdx k) hv.1 hv.2.1 bnl) ?_;refine c5 ?_;refine hcb (fun h2=>?_) (fun h2=>?_)
   ·
    refine w_4 ?_;refine ⟨rfl,w4 n l ps ((ic (gw n l)).getD ((ic (gw n l)).length - 1 - i) default), ?_, ?_⟩
    · exact afw (acw _) hI hi
    exact ⟨⟨_,rfl,(by first | exact ⟨CoP.of_eq (by rw [ao5 hk1 bnm]),trivial⟩ | exact ⟨CoP.of_eq (by rw [apm hk1 bnm]),trivial⟩)⟩,trivial⟩
   refine d6 ?_;refine ⟨rfl,w4 n l ps ((ic (gw n l)).getD ((ic (gw n l)).length - 1 - i) default), ?_, ?_⟩
   · exact afw (acw _) hI hi
   exact ⟨⟨_,rfl,(by first | exact ⟨CoP.of_eq (by rw [ao5 hk1 bnm]),trivial⟩ | exact ⟨CoP.of_eq (by rw [apm hk1 bnm]),trivial⟩)⟩,trivial⟩
 rintro ps hI;refine w_7 ?_;refine hrr ?_;have he:=bct h0 bnm;exact f9 rfl rfl (⟨CoC.one (CoP.of_eq (by rw [he.1,<- hI.1])),ccb he.2.symm,cci h0.symm,trivial⟩)
end
section
open Go.Proofs
def bi2:List Fd:=[⟨1,2⟩,⟨2,4⟩]
def bii:List Fd:=[⟨3,4⟩,⟨4,1⟩]
def azl {α:Type} [Inhabited α] {wr wr':Bool} {e:TypeId} {c:α -> Nat -> PV} {x y:α} {f:Nat -> Nat -> PV} (h0:CoP (f 0 0) (c x 0)) (h1:CoP (f 1 0) (c y 0)) (hw:wr' = true -> wr = true:=by exact fun h=>h):CoO (.arr wr 1 e 2 f) (.arr wr' 1 e 2 (lf c [x,y])) :=
 ⟨hw,rfl,rfl,rfl,fun i j hi hj=>by
  have hi:i < 2:=hi;have hj:j < 1:=hj;obtain rfl:j = 0:=by omega
  rcases (by omega:i = 0 \/ i = 1) with rfl | rfl
  · exact h0
  exact h1⟩
end
section
open Go.Proofs
def w1 (l:List Fd) (p:AS):Int:=if bh 16 l = 0 /\ (8:Int) < bsz p then 3 else bh 16 l
section
variable {l:List Fd} {p:AS}
end
section
variable {n:Int} {l:List Fd}
end
end
section
open Go.RowKit Go.ChangeShapes Go.WideShapes Go.ChangeAt
def Rd (P:Program) (t:TypeId) (n:Nat) {α:Type} (c:α -> Nat -> PV):Prop :=
 ∀ (H:Type) (enc:TypeId × Value -> H) (w:World) (sp:Nat -> Bool) (held:Bool) (fuel:Nat) (cs:List Value) (x:DataW H × List MemPlace),DataW.trod enc P w 0 sp held fuel t cs = some x ->
  cs.length = n /\ ∃ a:α,∀ j,j < n -> ∃ v,cs[j]? = some v /\ az (gc w) (c a j) v
section
variable {P:Program} {t e:TypeId}
def b8y (k:IntKind) (z:Int):Nat -> PV:=fun _=>.raw (.int k z)
def b1n (b:Bool):Nat -> PV:=fun _=>.raw (.bool b)
def bia (s:ByteArray):Nat -> PV:=fun _=>.raw (.string s)
def bak {k:IntKind} (ht:P.underlying t = some (.int k)):Rd P t 1 (b8y k):=by
 intro H enc w sp held fuel cs x h;obtain ⟨n,rfl,_,_⟩:=DataW.trod_int ht h;refine ⟨rfl,n,fun j hj=>?_⟩;obtain rfl:j = 0:=by omega
 exact ⟨_,rfl,rfl,rfl⟩
def b72 (ht:P.underlying t = some .bool):Rd P t 1 b1n:=by
 intro H enc w sp held fuel cs x h;obtain ⟨n,rfl,_⟩:=DataW.trod_bool ht h;refine ⟨rfl,n,fun j hj=>?_⟩;obtain rfl:j = 0:=by omega
 exact ⟨_,rfl,rfl,rfl⟩
def u8P (u:UInt8):Nat -> PV:=fun _=>.raw (.int .u8 (u.toNat:Int))
def bf7 (ht:P.underlying t = some (.int .u8)):Rd P t 1 u8P:=by
 intro H enc w sp held fuel cs x h;obtain ⟨n,rfl,_,hw⟩:=DataW.trod_int ht h;have hx:0 <= n /\ n <= 255:=by simpa [Lit.wf,IntKind.min,IntKind.max,IntKind.signed,IntKind.bits] using hw
 refine ⟨rfl,UInt8.ofNat n.toNat,fun j hj=>?_⟩;obtain rfl:j = 0:=by omega
 refine ⟨_,rfl, ?_,rfl⟩
 have:(UInt8.ofNat n.toNat).toNat = n.toNat:=by
  rw [UInt8.toNat_ofNat'];omega
 rw [this];congr 1;omega
theorem Rd.co {n:Nat} {α β:Type} {c:α -> Nat -> PV} {c':β -> Nat -> PV} (h:Rd P t n c) (f:α -> β) (hc:∀ a j,j < n -> CoP (c a j) (c' (f a) j)):Rd P t n c':=by
 intro H enc w sp held fuel cs x hx;obtain ⟨h1,a,h2⟩:=h _ enc w sp held fuel cs x hx;refine ⟨h1,f a,fun j hj=>?_⟩;obtain ⟨v,h3,h4⟩:=h2 j hj;exact ⟨v,h3,hc a j hj _ _ h4⟩
def arx {α:Type} [Inhabited α] (s:Nat) (c:α -> Nat -> PV) (l:List α):Nat -> PV:=fun _=>psl s c l
end
def ah1 {W W':World} (hb:Below W.heap.size W W') (may:MemPlace -> Prop):W.keptBut W' may:=by
 refine ⟨hb.os,hb.output,fun i hi=>?_⟩;rw [hb.block i hi]
 cases W.heap[i]? with
 | none=>exact rfl
 | some o=>cases o <;> first | exact ⟨rfl,rfl,rfl,fun _ _=>rfl⟩ | exact .inr ⟨rfl,rfl⟩ | exact rfl
def ah3 {W W':World} (hb:Below W.heap.size W W') (p:MemPlace) (hp:p.block < W.heap.size):W.sameAt W' p:=by
 cases p with
 | cell b off=>show W'.cell? _ = W.cell? _;unfold World.cell?;rw [hb.block b hp]
 | map b=>exact hb.block b hp
section
variable {H:Type} {enc:TypeId × Value -> H} {P:Program}
def a4h (hl:laidOutB P = true) {W W':World} {sp':Nat -> Bool}:∀ {ts:List TypeId} {vs:List Value} {ds:List (DataW H)} {ps:List MemPlace},(∀ t ∈ ts,P.readableRec t = true /\ t < P.types.size) -> DataW.TrodAll enc P W 0 (fun _=>true) true ts vs ds ps ->
 (∀ p ∈ ps,W.sameAt W' p) -> (∀ p ∈ ps,sp' p.block = true) -> DataW.TrodAll enc P W' 0 sp' true ts vs ds ps
 | [],[],[],ps,_,h,_,_=>h
 | t :: ts,v :: vs,d :: ds,ps,ht,⟨p,q,h1,h2,e⟩,hs,hsp=>by
  subst e;refine ⟨p,q,WideElems.Trod_stays hl (ht t bnp).1 (ht t bnp).2 h1 (fun z hz=>hs z (by simp [hz])) (fun z hz=>hsp z (by simp [hz])), ?_,rfl⟩;exact a4h hl (fun t ht'=>ht t (by simp [ht'])) h2 (fun z hz=>hs z (by simp [hz])) (fun z hz=>hsp z (by simp [hz]))
 | [],_ :: _,_,_,_,h,_,_=>h.elim
 | [],[],_ :: _,_,_,h,_,_=>h.elim
 | _ :: _,[],_,_,_,h,_,_=>h.elim
 | _ :: _,_ :: _,[],_,_,h,_,_=>h.elim
def azg {f:Func} {s:ChangeSpec} {W W':World} {args:Array Value} {ds:List (DataW H)} {before:List MemPlace} {tb:TypeId} (hl:laidOutB P = true) (hpar:∀ t ∈ f.params.toList,P.readableRec t = true /\ t < P.types.size)
 (hres:f.resultTypes = #[tb]) (htb:P.underlying tb = some .bool) (hv:s.vars = []) (hfn:s.fn H ds = { results:=[.lit (.bool true)],args:=ds })
 (hW:DataW.Whole enc P f.params.toList s.vars false W args.toList ds [] before) (hb:Below W.heap.size W W'):s.post enc P f false true false false W args (.bool true) W':=by
 have hW':=hW;have hlt:∀ p ∈ before,p.block < W.heap.size:=fun p hp=>hW.lt p hp;obtain ⟨p,q,hA,hV,rfl,hfz,hnd⟩:=hW;rw [hv] at hV;obtain ⟨_,rfl⟩:=trodVars_none hV;have hfn':s.fn H (ds ++ []) = { results:=[.lit (.bool true)],args:=ds }:=by rw [bkd];exact hfn
 have hargs:∀ sp:Nat -> Bool,(∀ z ∈ p ++ [],sp z.block = true) -> DataW.TrodAll enc P W' 0 sp true f.params.toList args.toList (s.fn H (ds ++ [])).args p:=fun sp hsp=>by
  rw [hfn'];exact a4h hl hpar hA (fun z hz=>ah3 hb z (hlt z (by simpa using hz))) (fun z hz=>hsp z (by simpa using hz))
 have hrs:∀ (b:Nat) (sp:Nat -> Bool) (hd:Bool),DataW.TrodAll enc P W' b sp hd f.resultTypes.toList ((Value.bool true).resultList f.resultTypes.size) (s.fn H (ds ++ [])).results []:=fun b sp hd=>by
  rw [hfn',hres];exact trodAll_cons_mk (shut_bool htb _) trodAll_mk0
 have hok:∀ (j:Nat) (t:TypeId) (r:Value),f.resultTypes[j]? = some t -> ((Value.bool true).resultList f.resultTypes.size)[j]? = some r -> Value.okWide P W' .any 0 t r:=ok_one hres rfl (okWide_bool_mk htb _)
 have hvars:∀ sp:Nat -> Bool,(∀ z ∈ p ++ [],sp z.block = true) -> DataW.TrodVars enc P W' sp s.vars (s.fn H (ds ++ [])).vars []:=fun sp _=>by
  rw [hfn',hv];exact rfl
 have hold:∀ z ∈ p ++ [],(fun b=>decide (b < W.heap.size)) z.block = true:=fun z hz=>by simpa using hlt z hz
 refine ⟨ds,[],p ++ [],[],p,[],hW',hrs _ _ _,hargs _ hold,hvars _ hold,World.keptBut_mono (fun z hz=>⟨hz, ?_⟩) (ah1 hb (· ∈ p ++ [])),fun _=>?_⟩
 · exact Or.inr (by simpa using hz)
 refine ⟨hok,_,_,([] ++ p) ++ [],⟨[] ++ p,[],trodAll_append (hargs _ (fun _ _=>rfl)) (hrs _ _ _),hvars _ (fun _ _=>rfl),rfl, ?_, ?_⟩, ?_⟩
 · intro b off hp
   have hp':MemPlace.cell b off ∈ p ++ []:=by simpa using hp
   have:=hfz b off hp';unfold World.frozen? at this ⊢;rw [hb.block b (hlt _ hp')];exact this
 · intro ha;cases ha
 intro z hz _;simpa using hz
end
def ajj {P:Program} {W:World} {r:Reach} {b:Nat} {t e:TypeId} {v:Value} (ht:P.underlying t = some (.slice e)) (h:Value.okWide P W r b t v):v.cells.toList = [v]:=by
 unfold Value.okWide at h;rw [ht] at h;unfold Cell.okWide at h;rw [ht] at h;cases v <;> first | rfl | (simp [Cell.ok,ht] at h)
def arc {P:Program} {W:World} {r:Reach} {b:Nat} {t:TypeId} {k:IntKind} {v:Value} (ht:P.underlying t = some (.int k)) (h:Value.okWide P W r b t v):v.cells.toList = [v]:=by
 unfold Value.okWide at h;rw [ht] at h;unfold Cell.okWide at h;rw [ht] at h;cases v <;> first | rfl | (simp [Cell.ok,ht] at h)
def auo {P:Program} {f:FuncId} {args:List PC} {us:List Value} {W:World} {R:Ending -> World -> Prop} (ht:qz (gc W)) (h:a6 P f args (a7 [.one (.raw (.bool true))])) (hr:cn (gc W) args us) (hR:∀ W',Below W.heap.size W W' -> R (.returned (.bool true)) W'):Calls P f us.toArray W R:=by
 refine (h W (gc W) us ht (fun _ _ hh=>hh) hr).mono ?_;rintro e w' ⟨v,imm',rfl,hv,_,_,hb⟩;obtain ⟨rfl,_⟩:=hv;exact hR w' hb
end
end Go.Hx
