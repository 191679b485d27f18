/- A part of the proof: Cs21 V19 Cs22 Cs23 Hx21. -/
import Derived.ChangeArms
import Derived.OpenShut
import Derived.ProofKit
import Derived.WalkKit
import Derived.WideKeyArgs
import Derived.Test.YtkkenjdfbojdlaaGreatDoorKx21
set_option linter.all false
set_option maxRecDepth 100000
namespace Go.Hx
section
section
variable {l:List Fd} {s:AS}
def azi (h:ec l s = true):∃ x,adz l s = some x /\ sub x s /\ pw l s x = true:=by
 unfold ec at h;obtain ⟨x,hx⟩:=Option.isSome_iff_exists.1 h;refine ⟨x,hx, ?_,List.find?_some hx⟩;have hm:=List.mem_of_find?_eq_some hx;unfold aq at hm;split at hm
 · cases hm
 exact a15.1 hm
def acg {a:AS} (h:sub a s) (hne:a ≠ s):bsz a < bsz s:=by
 rcases bot (afq h) with h1 | h1
 · exact h1
 exfalso;apply hne
 have hs:(aj a).Sublist (aj s):=by
  have:aj a = (aj s).filter fun i=>a.getLsbD i:=by
   unfold aj;rw [List.filter_filter];apply List.filter_congr;intro i hi;rw [bmq] at hi
   cases ha:a.getLsbD i with
   | false=>rfl
   | true=>rw [ar.1 h i hi ha];rfl
  rw [this];exact List.filter_sublist
 rw [tn,tn] at h1;have he:=hs.eq_of_length h1;refine dt h (ar.2 fun i hi hb=>?_);have:i ∈ aj s:=j8.2 ⟨hi,hb⟩;rw [<- he] at this;exact (j8.1 this).2
def spA (l:List Fd) (s:AS):AS:=(lr l s).lhs ||| (lr l s).rhs
def spB (l:List Fd) (s:AS):AS:=s &&& ~~~(lr l s).rhs
def a1i {a b:AS}:sub (a &&& b) b:=ar.2 fun i hi h=>by rw [bmr,bml] at h;exact h.2
def nv {a b:AS}:sub (a &&& b) a:=ar.2 fun i hi h=>by rw [bmr,bml] at h;exact h.1
def a0h {a b c:AS} (h:sub a b) (k:sub a c):sub a (b &&& c):=ar.2 fun i hi ha=>by rw [bmr,ar.1 h i hi ha,ar.1 k i hi ha];rfl
def b2e (h:ec l s = true):sub (spA l s) s /\ spA l s ≠ s /\ sub (spB l s) s /\ spB l s ≠ s:=by
 obtain ⟨x,hx,hs,hv⟩:=azi h;unfold pw at hv;rw [bml,decide_eq_true_iff,decide_eq_true_iff] at hv;have e:lr l s = aus l s x:=by unfold lr;rw [hx]
 have hxc:sub x (clo l x &&& s):=a0h a5x hs
 have ea:spA l s = clo l x &&& s:=by
  unfold spA;rw [e];apply dt
  · exact sm hxc nv
  refine ar.2 fun i hi hb=>?_;show (x ||| ((clo l x &&& s) &&& ~~~x)).getLsbD i = true;rw [bo4,bmr,bob,hb,decide_eq_true hi];cases x.getLsbD i <;> rfl
 refine ⟨ea ▸ a1i,ea ▸ hv.2,nv,fun eb=>hv.1 ?_⟩;unfold spB at eb;rw [e] at eb;refine dt (ar.2 fun i hi hb=>?_) hxc;have hsi:s.getLsbD i = true:=ar.1 a1i i hi hb;have h2:=congrArg (fun z:AS=>z.getLsbD i) eb
 have h3:(aus l s x).rhs.getLsbD i = !x.getLsbD i:=by
  show ((clo l x &&& s) &&& ~~~x).getLsbD i = _;rw [bmr,hb,bob,decide_eq_true hi];rfl
 simp only [bmr,bob,decide_eq_true hi,hsi,h3,boi,Bool.not_not] at h2;exact h2
def aah (l:List Fd):Nat -> List AS -> List AS -> List AS
 | 0,_,out=>out
 | n + 1,todo,out =>
  if todo.length = 0 then out
  else if ec l (todo.getD (todo.length - 1) default) = true then aah l n (todo.take (todo.length - 1) ++ [spA l (todo.getD (todo.length - 1) default),spB l (todo.getD (todo.length - 1) default)]) out
  else aah l n (todo.take (todo.length - 1)) (out ++ [todo.getD (todo.length - 1) default])
def au9 (n:Int) (l:List Fd):List AS:=aah l 6562 [a7 n] []
def alh (n:Int) (l:List Fd):List AS:=if eo n l 8 = 0 then er (au9 n l) else []
variable {n:Int}
def bcg (h:eo n l 8 = 0):alh n l = er (au9 n l):=if_pos h
def bbw (h:¬ eo n l 8 = 0):alh n l = []:=if_neg h
def rz (todo:List AS):Nat:=(todo.map fun s=>3 ^ bsz s).sum
def abn (a b:List AS):rz (a ++ b) = rz a + rz b:=by unfold rz;rw [boh,List.sum_append]
def al0:∀ todo:List AS,todo.length <= rz todo
 | []=>bmh _
 | s :: t=>by
  have h1:=al0 t;have h2:0 < 3 ^ bsz s:=Nat.pow_pos bqi;have e:rz (s :: t) = 3 ^ bsz s + rz t:=by unfold rz;rw [bnx,List.sum_cons]
  rw [bn7,e];omega
def ai9 {todo:List AS} (h:0 < todo.length):todo = todo.take (todo.length - 1) ++ [todo.getD (todo.length - 1) default]:=by
 have:=am (l:=todo) (q:=todo.length - 1) bqi;rw [show todo.length - 1 + 1 = todo.length by omega,bmi] at this;exact this
def a6l (n:Int) (l:List Fd) (x:Nat × List AS × List AS):Prop:=aah l x.1 x.2.1 x.2.2 = au9 n l /\ rz x.2.1 < x.1 /\ x.2.2.length + x.1 <= 6562
variable {k:Nat}
def axu (h:k <= 32):bsz (jn k) <= k:=by
 unfold bsz
 have e:(List.range 32).countP (fun i=>(jn k).getLsbD i) = (List.range 32).countP fun i=>decide (i < k):=by
  apply List.countP_congr;intro i hi;rw [bmq] at hi;rw [ny k i hi]
 have h2:∀ m,(List.range m).countP (fun i=>decide (i < k)) <= k /\ (List.range m).countP (fun i=>decide (i < k)) <= m:=by
  intro m
  induction m with
  | zero=>simp
  | succ m ih =>
   rw [bo0,bq8];simp only [boy,List.countP_nil];by_cases hm:m < k
   · rw [if_pos (decide_eq_true hm)];omega
   rw [if_neg (by simpa using hm)];omega
 rw [e];exact (h2 32).1
def ant {m:Nat} (h:n <= m) (hm:m <= 32):bsz (a7 n) <= m:=by
 unfold a7;exact bmo (axu (Nat.min_le_right _ _)) bqi
def b1e (h:eo n l 8 = 0):a6l n l (6562,[a7 n],[]):=by
 refine ⟨rfl, ?_,bmd _⟩;show 3 ^ bsz (a7 n) + 0 < 6562;have h1:=ant (n:=n) (m:=8) (a8x h).2 bqi;have h2:3 ^ bsz (a7 n) <= 3 ^ 8:=bow bqi h1;have h3:3 ^ 8 = 6561:=rfl;omega
variable {x:Nat × List AS × List AS}
def a96 (h:a6l n l x):x.2.1.length < 6562 /\ x.2.2.length <= 6562 /\ 0 < x.1:=by
 have:=al0 x.2.1;obtain ⟨h1,h2,h3⟩:=h;omega
def ba7 (h:a6l n l x) (h0:x.2.1.length = 0):x.2.2 = au9 n l:=by
 have hp:=(a96 h).2.2;obtain ⟨h1,h2,h3⟩:=h;obtain ⟨m,hm⟩:∃ m,x.1 = m + 1:=⟨x.1 - 1,by omega⟩;rw [hm] at h1;unfold aah at h1;rw [if_pos h0] at h1;exact h1
def b4o (h:a6l n l x) (h0:0 < x.2.1.length) (hv:ec l (x.2.1.getD (x.2.1.length - 1) default) = true):
 a6l n l (x.1 - 1,x.2.1.take (x.2.1.length - 1) ++ [spA l (x.2.1.getD (x.2.1.length - 1) default),spB l (x.2.1.getD (x.2.1.length - 1) default)],x.2.2):=by
 have hp:=(a96 h).2.2;obtain ⟨h1,h2,h3⟩:=h;obtain ⟨m,hm⟩:∃ m,x.1 = m + 1:=⟨x.1 - 1,by omega⟩;rw [hm] at h1;unfold aah at h1;rw [if_neg bqi,if_pos hv] at h1;refine ⟨by rw [hm];exact h1, ?_,by dsimp only;omega⟩;have e:=abn (x.2.1.take (x.2.1.length - 1)) [x.2.1.getD (x.2.1.length - 1) default];rw [<- ai9 h0] at e;have e1:rz [x.2.1.getD (x.2.1.length - 1) default] = 3 ^ bsz (x.2.1.getD (x.2.1.length - 1) default):=by simp [rz]
 generalize x.2.1.getD (x.2.1.length - 1) default = s at *;dsimp only;rw [abn];have e2:rz [spA l s,spB l s] = 3 ^ bsz (spA l s) + 3 ^ bsz (spB l s):=by simp [rz]
 obtain ⟨f1,f2,f3,f4⟩:=b2e hv;have g1:=acg f1 f2;have g2:=acg f3 f4;obtain ⟨b,hb⟩:∃ b,bsz s = b + 1:=⟨bsz s - 1,by omega⟩;have p1:3 ^ bsz (spA l s) <= 3 ^ b:=bow bqi bqi;have p2:3 ^ bsz (spB l s) <= 3 ^ b:=bow bqi bqi;have p3:3 ^ bsz s = 3 ^ b * 3:=by rw [hb,Nat.pow_succ]
 have p4:0 < 3 ^ b:=Nat.pow_pos bqi;omega
def b4r (h:a6l n l x) (h0:0 < x.2.1.length) (hv:ec l (x.2.1.getD (x.2.1.length - 1) default) = false):
 a6l n l (x.1 - 1,x.2.1.take (x.2.1.length - 1),x.2.2 ++ [x.2.1.getD (x.2.1.length - 1) default]):=by
 have hp:=(a96 h).2.2;obtain ⟨h1,h2,h3⟩:=h;obtain ⟨m,hm⟩:∃ m,x.1 = m + 1:=⟨x.1 - 1,by omega⟩;rw [hm] at h1;unfold aah at h1;rw [if_neg bqi,if_neg (by rw [hv];decide)] at h1;refine ⟨by rw [hm];exact h1, ?_,by dsimp only;rw [bmg,bo1];omega⟩;have e:=abn (x.2.1.take (x.2.1.length - 1)) [x.2.1.getD (x.2.1.length - 1) default];rw [<- ai9 h0] at e;have e1:rz [x.2.1.getD (x.2.1.length - 1) default] = 3 ^ bsz (x.2.1.getD (x.2.1.length - 1) default):=by simp [rz]
 have p4:0 < 3 ^ bsz (x.2.1.getD (x.2.1.length - 1) default):=Nat.pow_pos bqi;dsimp only;omega
def aql {α:Type} [Inhabited α] {wr wr':Bool} {n m:Nat} {e:TypeId} {c:α -> Nat -> PV} {l:List α} {x y:α} {f g:Nat -> Nat -> PV} (hn:n = l.length) (hf:∀ i,i < l.length -> CoP (f i 0) (lf c l i 0)) (h0:CoP (g 0 0) (c x 0)) (h1:CoP (g 1 0) (c y 0)) (hm:m = n + 2) (hw:wr' = true -> wr = true:=by exact fun h=>h) :
 CoO (.arr wr 1 e m (eq n f g)) (.arr wr' 1 e (l ++ [x,y]).length (lf c (l ++ [x,y]))):=by
 subst hn hm;refine ⟨hw,rfl,rfl,by simp,fun i j hi hj=>?_⟩;obtain rfl:j = 0:=by omega
 unfold eq;by_cases h:i < l.length
 · rw [if_pos h]
   have:=hf i h;simp only [lf,List.getD,bns h] at this ⊢;exact this
 rw [if_neg h]
 rcases (by omega:i = l.length \/ i = l.length + 1) with rfl | rfl
 · rw [Nat.sub_self]
   simp only [lf,List.getD];rw [bnr (bmd _),Nat.sub_self];exact h0
 rw [show l.length + 1 - l.length = 1 by omega];simp only [lf,List.getD];rw [bnr bqi,show l.length + 1 - l.length = 1 by omega];exact h1
def aku {α:Type} [Inhabited α] {wr wr':Bool} {m:Nat} {e:TypeId} {c:α -> Nat -> PV} {l:List α} (hk:k <= l.length) (hm:m = k) (hw:wr' = true -> wr = true:=by exact fun h=>h):CoO (.arr wr 1 e m (lf c l)) (.arr wr' 1 e (l.take k).length (lf c (l.take k))):=by
 subst hm;refine ⟨hw,rfl,rfl,by rw [bmk,bo5 hk],fun i j hi hj=>CoP.of_eq ?_⟩;simp only [lf,List.getD,bmy,if_pos hi]
def b42:PV.raw (.int .u32 (ay .or .u32 (asI (lr l s).lhs) (asI (lr l s).rhs))) = sC (spA l s) 0:=congrArg (fun z=>PV.raw (.int .u32 z)) (bOr _ _)
def b46 {t:List AS} {i j:Nat} (h:i = j):PV.raw (.int .u32 (ay .andNot .u32 (asI (t.getD i default)) (asI (lr l (t.getD j default)).rhs))) = sC (spB l (t.getD j default)) 0:=by
 subst h;exact congrArg (fun z=>PV.raw (.int .u32 z)) (i7 _ _)
def aos {l:List AS} {i:Nat} (hi:i < (l.take k).length):lf sC l i 0 = lf sC (l.take k) i 0:=by
 rw [bmk] at hi;simp only [lf,List.getD,bmy,if_pos (show i < k by omega)]
def arc {ps:List AS} (hk:idx (fun x=>decide (x = s)) ps = k) (h:ph n l (ps.eraseIdx k) = true):kp n l ps s = ps.eraseIdx k:=by
 unfold kp;rw [hk,bmn,if_pos h]
def ar7 {ps:List AS} (hk:idx (fun x=>decide (x = s)) ps = k) (h:ph n l (ps.eraseIdx k) = false):kp n l ps s = ps:=by
 unfold kp;rw [hk,bmn,if_neg (by rw [h];decide)]
end
end
section
open Go.Proofs
def bqu {p:Prop} (h:p:=by simp only [d9,ax,bmg,bn7,bof,bmk];omega):p:=h
def bkz (n:Int) (l:List Fd):a6 br6 33 [pI n,pP (fdl l)] (a8 [pP (asl (alh n l)),pI (eo n l 8)]):=by
 refine hpx (nt:=60) Tryz.func33 ?_;refine c5 ?_;refine qcx (wgx Tryz.func76) (bga n l) ?_;refine w_7 ?_;refine hcn (fun h0=>?_) (fun h0=>?_)
 · refine v_6 ?_;exact ⟨CoC.one (wu (bbw h0)),CoC.refl _,trivial⟩
 refine w_2 ?_;have hv:=ew (a8x h0).1;refine w_7 ?_;refine qcx amx (auh n hv.1 hv.2.1) ?_;refine m9 0 ?_;refine w_3 ?_;refine bw 7 900 true 1 46 (lf sC []) bqo rfl (CoP.sl rfl (.inr rfl) (fun h=>h) (fun i j hi _=>absurd hi (bmf i))) (.inr rfl) rfl ?_;refine xf 8 901 rfl rfl rfl rfl ?_;refine ae (ι:=Nat × List AS × List AS) (ka 1 kn) km (fun x=>⟨[(7,some (.v (.one (.ref 900 x.2.2.length)))),(8,some (.v (.one (.ref 901 x.2.1.length))))],[(900,some (.arr true 1 46 x.2.2.length (lf sC x.2.2))),(901,some (.arr true 1 46 x.2.1.length (lf sC x.2.1)))]⟩) (fun x=>a6l n l x) (fun x=>x.1) ((6562,[a7 n],[])) (b1e h0) ⟨tt,⟨u9,⟨_,rfl,(a0c (CoP.refl _))⟩,trivial⟩⟩ ?_;rintro x hx;have hlen:=a96 hx;refine xf 8 902 rfl rfl rfl rfl ?_;refine w_7 ?_;refine hcd (fun h1=>?_) (fun h1=>?_)
 ·
  refine abs ?_;refine aas ⟨[(1,some _),(7,some _),(8,some _),(9,some _)],[(900,some _),(902,some _)]⟩ (by exact kk) ?_;refine akf 8 901 rfl rfl rfl rfl (by simp only [d9,ax,bmn];omega) rfl ?_;refine w_4 ?_;refine rc rfl rfl rfl rfl rfl rfl an0 (aui l (x.2.1.getD (x.2.1.length - 1) default)) (⟨CoC.refl _,CoC.one (CoP.of_eq (congrArg (fun i=>asC (x.2.1.getD i default)) bqi)),trivial⟩) rfl rfl ?_;refine w_3 ?_;refine m9 1 ?_;refine w_7 ?_;refine hcb (fun h2=>?_) (fun h2=>?_)
  ·
   refine cq ?_;refine m9 2 ?_;refine r9 3 true ?_;refine w_2 ?_
   first | (refine ⟨(x.1 - 1, (x.2.1.take (x.2.1.length - 1)) ++ [spA l (x.2.1.getD (x.2.1.length - 1) default), spB l (x.2.1.getD (x.2.1.length - 1) default)], x.2.2), ?_, ?_, ?_⟩
            · exact b4o hx bqi bqj
            · dsimp only
              omega
            exact ⟨⟨zy,⟨_,rfl,(j5 bqu)⟩,tt⟩,⟨u9,⟨_,rfl,(aql bqu (fun i hi=>CoP.of_eq (aos hi)) (CoP.of_eq b42) (CoP.of_eq (b46 bqi)) rfl)⟩,trivial⟩⟩)
         | (refine ⟨(x.1 - 1,(x.2.1.take (x.2.1.length - 1)),x.2.2 ++ [(x.2.1.getD (x.2.1.length - 1) default)]), ?_, ?_, ?_⟩
            · exact b4r hx bqi bqj
            · dsimp only
              omega
            exact ⟨⟨⟨_,rfl,(bg rfl)⟩,⟨_,rfl,(j5 bqu)⟩,tt⟩,⟨⟨_,rfl,(bh rfl (CoP.of_eq (congrArg (fun i=>asC (x.2.1.getD i default)) bqi)))⟩,⟨_,rfl,(aku bqi (by simp only [d9,ax];omega))⟩,trivial⟩⟩)
  refine w_3 ?_;refine m9 4 ?_;refine r9 5 true ?_;refine w_2 ?_
  first | (refine ⟨(x.1 - 1, (x.2.1.take (x.2.1.length - 1)) ++ [spA l (x.2.1.getD (x.2.1.length - 1) default), spB l (x.2.1.getD (x.2.1.length - 1) default)], x.2.2), ?_, ?_, ?_⟩
           · exact b4o hx bqi bqj
           · dsimp only
             omega
           exact ⟨⟨zy,⟨_,rfl,(j5 bqu)⟩,tt⟩,⟨u9,⟨_,rfl,(aql bqu (fun i hi=>CoP.of_eq (aos hi)) (CoP.of_eq b42) (CoP.of_eq (b46 bqi)) rfl)⟩,trivial⟩⟩)
        | (refine ⟨(x.1 - 1,(x.2.1.take (x.2.1.length - 1)),x.2.2 ++ [(x.2.1.getD (x.2.1.length - 1) default)]), ?_, ?_, ?_⟩
           · exact b4r hx bqi bqj
           · dsimp only
             omega
           exact ⟨⟨⟨_,rfl,(bg rfl)⟩,⟨_,rfl,(j5 bqu)⟩,tt⟩,⟨⟨_,rfl,(bh rfl (CoP.of_eq (congrArg (fun i=>asC (x.2.1.getD i default)) bqi)))⟩,⟨_,rfl,(aku bqi (by simp only [d9,ax];omega))⟩,trivial⟩⟩)
 refine w_2 ?_;refine al 7 rfl rfl rfl ?_;have hx0:x.2.1.length = 0:=by omega
 refine w_2 ?_;refine qcx ane (abm x.2.2 bqi) ?_;refine v_3 ?_;exact ⟨CoC.one (CoP.of_eq (by rw [bcg h0,ba7 hx hx0])),cci h0.symm,trivial⟩
def bim (n:Int) (l:List Fd):a6 br6 42 [pI n,pP (fdl l)] (a8 [pP (asl (uq n l)),pB (qq n l),pI (eo n l 8)]):=by
 refine hpx (nt:=49) Tryz.func42 ?_;refine sx7 ?_;refine m9 0 ?_;refine m9 1 ?_;refine w_8 ?_;refine qcx (wgx Tryz.func89) (bch n l) ?_;refine dy ?_;refine hcn (fun h0=>?_) (fun h0=>?_)
 · refine w_7 ?_;refine hrr ?_;have he:=ak2 h0;exact f9 rfl rfl (⟨CoC.one (wu he.1),ccb he.2.symm,CoC.refl _,trivial⟩)
 refine w_3 ?_;have hv:=ew (a8x h0).1;have hsl:=a47 n l;have hml:=ajk (ek n l);refine w_3 ?_;refine qcx an3 (b28 l (ek n l) bqi) ?_;refine w_2 ?_;refine hcv (fun h1=>?_) (fun h1=>?_)
 · refine w_6 ?_;refine hrr ?_;have he:=an1 (n:=n) (l:=l) bqj;exact f9 rfl rfl (⟨CoC.one (wu he.1),ccb he.2.symm,cci h0.symm,trivial⟩)
 refine w_4 ?_;refine qcx ane (abm (ek n l) bqi) ?_;refine m9 2 ?_;refine w_4 ?_;refine cz 2 rfl rfl rfl ?_;refine cz 3 rfl rfl rfl ?_;refine w_2 ?_;refine qcx a7s (b2u (er (ek n l)).length false (lf sC (er (ek n l))) bqi) ?_;refine qcx (wgx Tryz.func91) (c74 (er (ek n l)).length false (lf sC (er (ek n l)))) ?_;refine w_2 ?_;refine b12 (ι:=List AS) (swp 2 1000) (as0 2 1000) rfl (wgx Tryz.func147) (bil (er (ek n l)).length false (lf sC (er (ek n l))) bqi) [(2,some (bp (bx (.raw (.int .i64 n))))),(3,some (bp (bx (fdl l)))),(9,some (.v (.one (.ptr 2 0))))] (fun ps=>[(2, .box [.p (asl ps)])]) (fun i ps=>aj2 n l (er (ek n l)) i ps) ((er (ek n l))) (awq n l (er (ek n l))) kk [2] (fun _ _=>rfl) rfl rfl ?_ ?_
 · rintro lp i ps hi hI
   have hpl:=hI.2.1;refine w_3 ?_;refine ⟨rfl, ?_⟩;refine w_5 ?_;refine qcx (wgx Tryz.func92) (bkm ps ((er (ek n l)).getD ((er (ek n l)).length - 1 - i) default)) ?_;refine w_3 ?_;obtain ⟨k,hk1,hk2,hk3⟩:=ado (hI.2.2 ((er (ek n l)).length - 1 - i) bqi);refine w_2 ?_;refine fc9 a7s (a3f ps.length false (lf sC ps) bqi) trivial ?_;refine w_3 ?_;refine gj rfl rfl rfl rfl rfl rfl (wgx Tryz.func93) ((b6m ps k hk2).swap 900 0) (⟨rfl,CoP.of_eq (by rw [hk1]),CoP.of_eq (by rw [hk1]),trivial⟩) uu rfl rfl ?_;refine w_7 ?_;refine qcx (wgx Tryz.func94) (bj4 n l (ps.eraseIdx k) hv.1 hv.2.1 bqi) ?_;refine bz ?_;refine hcb (fun h2=>?_) (fun h2=>?_)
   ·
    refine w_4 ?_;refine ⟨rfl,kp n l ps ((er (ek n l)).getD ((er (ek n l)).length - 1 - i) default), ?_, ?_⟩
    · exact agx (a4l _) hI hi
    exact ⟨⟨_,rfl,(by first | exact ⟨CoP.of_eq (by rw [arc hk1 bqj]),trivial⟩ | exact ⟨CoP.of_eq (by rw [ar7 hk1 bqj]),trivial⟩)⟩,trivial⟩
   refine ck ?_;refine ⟨rfl,kp n l ps ((er (ek n l)).getD ((er (ek n l)).length - 1 - i) default), ?_, ?_⟩
   · exact agx (a4l _) hI hi
   exact ⟨⟨_,rfl,(by first | exact ⟨CoP.of_eq (by rw [arc hk1 bqj]),trivial⟩ | exact ⟨CoP.of_eq (by rw [ar7 hk1 bqj]),trivial⟩)⟩,trivial⟩
 rintro ps hI;refine w_7 ?_;refine hrr ?_;have he:=ays h0 bqj;exact f9 rfl rfl (⟨CoC.one (CoP.of_eq (by rw [he.1,<- hI.1])),ccb he.2.symm,cci h0.symm,trivial⟩)
end
section
open Go.Proofs
def bl6:List Fd:=[⟨1,2⟩,⟨2,4⟩]
def blh:List Fd:=[⟨3,4⟩,⟨4,1⟩]
end
section
open Go.Proofs
def w1 (l:List Fd) (p:AS):Int:=if b6 16 l = 0 /\ (8:Int) < bsz p then 3 else b6 16 l
section
variable {l:List Fd} {p:AS}
end
section
variable {n:Int} {l:List Fd}
end
end
section
open Go.RowKit Go.ChangeShapes Go.WideShapes Go.ChangeAt
def Rd (P:Program) (t:TypeId) (n:Nat) {α:Type} (c:α -> Nat -> PV):Prop :=
 ∀ (H:Type) (enc:TypeId × Value -> H) (w:World) (sp:Nat -> Bool) (held:Bool) (fuel:Nat) (cs:List Value) (x:DataW H × List MemPlace),DataW.trod enc P w 0 sp held fuel t cs = some x ->
  cs.length = n /\ ∃ a:α,∀ j,j < n -> ∃ v,cs[j]? = some v /\ b4 (gz w) (c a j) v
section
variable {P:Program} {t e:TypeId}
def bm5 (k:IntKind) (z:Int):Nat -> PV:=fun _=>.raw (.int k z)
def blj (b:Bool):Nat -> PV:=fun _=>.raw (.bool b)
def blg (s:ByteArray):Nat -> PV:=fun _=>.raw (.string s)
def u8P (u:UInt8):Nat -> PV:=fun _=>.raw (.int .u8 (u.toNat:Int))
def biw (ht:P.underlying t = some (.int .u8)):Rd P t 1 u8P:=by
 intro H enc w sp held fuel cs x h;obtain ⟨n,rfl,_,hw⟩:=DataW.trod_int ht h;have hx:0 <= n /\ n <= 255:=by simpa [Lit.wf,IntKind.min,IntKind.max,IntKind.signed,IntKind.bits] using hw
 refine ⟨rfl,UInt8.ofNat n.toNat,fun j hj=>?_⟩;obtain rfl:j = 0:=by omega
 refine ⟨_,rfl, ?_,rfl⟩
 have:(UInt8.ofNat n.toNat).toNat = n.toNat:=by
  rw [UInt8.toNat_ofNat'];omega
 rw [this];congr 1;omega
theorem Rd.co {n:Nat} {α β:Type} {c:α -> Nat -> PV} {c':β -> Nat -> PV} (h:Rd P t n c) (f:α -> β) (hc:∀ a j,j < n -> CoP (c a j) (c' (f a) j)):Rd P t n c':=by
 intro H enc w sp held fuel cs x hx;obtain ⟨h1,a,h2⟩:=h _ enc w sp held fuel cs x hx;refine ⟨h1,f a,fun j hj=>?_⟩;obtain ⟨v,h3,h4⟩:=h2 j hj;exact ⟨v,h3,hc a j hj _ _ h4⟩
def b2x {α:Type} [Inhabited α] (s:Nat) (c:α -> Nat -> PV) (l:List α):Nat -> PV:=fun _=>psl s c l
end
def aii {W W':World} (hb:Below W.heap.size W W') (may:MemPlace -> Prop):W.keptBut W' may:=by
 refine ⟨hb.os,hb.output,fun i hi=>?_⟩;rw [hb.block i hi]
 cases W.heap[i]? with
 | none=>exact rfl
 | some o=>cases o <;> first | exact ⟨rfl,rfl,rfl,fun _ _=>rfl⟩ | exact .inr ⟨rfl,rfl⟩ | exact rfl
def aiq {W W':World} (hb:Below W.heap.size W W') (p:MemPlace) (hp:p.block < W.heap.size):W.sameAt W' p:=by
 cases p with
 | cell b off=>show W'.cell? _ = W.cell? _;unfold World.cell?;rw [hb.block b hp]
 | map b=>exact hb.block b hp
section
variable {H:Type} {enc:TypeId × Value -> H} {P:Program}
def a5q (hl:laidOutB P = true) {W W':World} {sp':Nat -> Bool}:∀ {ts:List TypeId} {vs:List Value} {ds:List (DataW H)} {ps:List MemPlace},(∀ t ∈ ts,P.readableRec t = true /\ t < P.types.size) -> DataW.TrodAll enc P W 0 (fun _=>true) true ts vs ds ps ->
 (∀ p ∈ ps,W.sameAt W' p) -> (∀ p ∈ ps,sp' p.block = true) -> DataW.TrodAll enc P W' 0 sp' true ts vs ds ps
 | [],[],[],ps,_,h,_,_=>h
 | t :: ts,v :: vs,d :: ds,ps,ht,⟨p,q,h1,h2,e⟩,hs,hsp=>by
  subst e;refine ⟨p,q,WideElems.Trod_stays hl (ht t bqm).1 (ht t bqm).2 h1 (fun z hz=>hs z (by simp [hz])) (fun z hz=>hsp z (by simp [hz])), ?_,rfl⟩;exact a5q hl (fun t ht'=>ht t (by simp [ht'])) h2 (fun z hz=>hs z (by simp [hz])) (fun z hz=>hsp z (by simp [hz]))
 | [],_ :: _,_,_,_,h,_,_=>h.elim
 | [],[],_ :: _,_,_,h,_,_=>h.elim
 | _ :: _,[],_,_,_,h,_,_=>h.elim
 | _ :: _,_ :: _,[],_,_,h,_,_=>h.elim
def b1a {f:Func} {s:ChangeSpec} {W W':World} {args:Array Value} {ds:List (DataW H)} {before:List MemPlace} {tb:TypeId} (hl:laidOutB P = true) (hpar:∀ t ∈ f.params.toList,P.readableRec t = true /\ t < P.types.size)
 (hres:f.resultTypes = #[tb]) (htb:P.underlying tb = some .bool) (hv:s.vars = []) (hfn:s.fn H ds = { results:=[.lit (.bool true)],args:=ds })
 (hW:DataW.Whole enc P f.params.toList s.vars false W args.toList ds [] before) (hb:Below W.heap.size W W'):s.post enc P f false true false false W args (.bool true) W':=by
 have hW':=hW;have hlt:∀ p ∈ before,p.block < W.heap.size:=fun p hp=>hW.lt p hp;obtain ⟨p,q,hA,hV,rfl,hfz,hnd⟩:=hW;rw [hv] at hV;obtain ⟨_,rfl⟩:=trodVars_none hV;have hfn':s.fn H (ds ++ []) = { results:=[.lit (.bool true)],args:=ds }:=by rw [bn9];exact hfn
 have hargs:∀ sp:Nat -> Bool,(∀ z ∈ p ++ [],sp z.block = true) -> DataW.TrodAll enc P W' 0 sp true f.params.toList args.toList (s.fn H (ds ++ [])).args p:=fun sp hsp=>by
  rw [hfn'];exact a5q hl hpar hA (fun z hz=>aiq hb z (hlt z (by simpa using hz))) (fun z hz=>hsp z (by simpa using hz))
 have hrs:∀ (b:Nat) (sp:Nat -> Bool) (hd:Bool),DataW.TrodAll enc P W' b sp hd f.resultTypes.toList ((Value.bool true).resultList f.resultTypes.size) (s.fn H (ds ++ [])).results []:=fun b sp hd=>by
  rw [hfn',hres];exact trodAll_cons_mk (shut_bool htb _) trodAll_mk0
 have hok:∀ (j:Nat) (t:TypeId) (r:Value),f.resultTypes[j]? = some t -> ((Value.bool true).resultList f.resultTypes.size)[j]? = some r -> Value.okWide P W' .any 0 t r:=ok_one hres rfl (okWide_bool_mk htb _)
 have hvars:∀ sp:Nat -> Bool,(∀ z ∈ p ++ [],sp z.block = true) -> DataW.TrodVars enc P W' sp s.vars (s.fn H (ds ++ [])).vars []:=fun sp _=>by
  rw [hfn',hv];exact rfl
 have hold:∀ z ∈ p ++ [],(fun b=>decide (b < W.heap.size)) z.block = true:=fun z hz=>by simpa using hlt z hz
 refine ⟨ds,[],p ++ [],[],p,[],hW',hrs _ _ _,hargs _ hold,hvars _ hold,World.keptBut_mono (fun z hz=>⟨hz, ?_⟩) (aii hb (· ∈ p ++ [])),fun _=>?_⟩
 · exact Or.inr (by simpa using hz)
 refine ⟨hok,_,_,([] ++ p) ++ [],⟨[] ++ p,[],trodAll_append (hargs _ (fun _ _=>rfl)) (hrs _ _ _),hvars _ (fun _ _=>rfl),rfl, ?_, ?_⟩, ?_⟩
 · intro b off hp
   have hp':MemPlace.cell b off ∈ p ++ []:=by simpa using hp
   have:=hfz b off hp';unfold World.frozen? at this ⊢;rw [hb.block b (hlt _ hp')];exact this
 · intro ha;cases ha
 intro z hz _;simpa using hz
end
def awr {P:Program} {f:FuncId} {args:List PC} {us:List Value} {W:World} {R:Ending -> World -> Prop} (ht:so (gz W)) (h:a6 P f args (a8 [.one (.raw (.bool true))])) (hr:cn (gz W) args us) (hR:∀ W',Below W.heap.size W W' -> R (.returned (.bool true)) W'):Calls P f us.toArray W R:=by
 refine (h W (gz W) us ht (fun _ _ hh=>hh) hr).mono ?_;rintro e w' ⟨v,imm',rfl,hv,_,_,hb⟩;obtain ⟨rfl,_⟩:=hv;exact hR w' hb
end
end Go.Hx
