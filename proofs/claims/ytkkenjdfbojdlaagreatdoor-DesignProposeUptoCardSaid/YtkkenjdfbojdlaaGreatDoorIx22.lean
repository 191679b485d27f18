/- A part of the proof: Cs21 V19 Cs22 Cs23 Hx21. -/
import Derived.ChangeArms
import Derived.OpenShut
import Derived.ProofKit
import Derived.WalkKit
import Derived.WideKeyArgs
import Derived.Test.YtkkenjdfbojdlaaGreatDoorIx13
import Derived.Test.YtkkenjdfbojdlaaGreatDoorIx21
set_option linter.all false
set_option maxRecDepth 100000
namespace Go.Hx
section
section
variable {l:List Fd} {s:AS}
def awn (h:cz l s = true):∃ x,aco l s = some x /\ sub x s /\ qq l s x = true:=by
 unfold cz at h;obtain ⟨x,hx⟩:=Option.isSome_iff_exists.1 h;refine ⟨x,hx, ?_,List.find?_some hx⟩;have hm:=List.mem_of_find?_eq_some hx;unfold ax at hm;split at hm
 · cases hm
 exact a1e.1 hm
def ij {a:AS} (h:sub a s) (hne:a ≠ s):bsz a < bsz s:=by
 rcases bp6 (ah2 h) with h1 | h1
 · exact h1
 exfalso;apply hne
 have hs:(ak a).Sublist (ak s):=by
  have:ak a = (ak s).filter fun i=>a.getLsbD i:=by
   unfold ak;rw [List.filter_filter];apply List.filter_congr;intro i hi;rw [bn3] at hi
   cases ha:a.getLsbD i with
   | false=>rfl
   | true=>rw [ap.1 h i hi ha];rfl
  rw [this];exact List.filter_sublist
 rw [uq,uq] at h1;have he:=hs.eq_of_length h1;refine ef h (ap.2 fun i hi hb=>?_);have:i ∈ ak s:=jc.2 ⟨hi,hb⟩;rw [<- he] at this;exact (jc.1 this).2
def spA (l:List Fd) (s:AS):AS:=(lx l s).lhs ||| (lx l s).rhs
def spB (l:List Fd) (s:AS):AS:=s &&& ~~~(lx l s).rhs
def a1m {a b:AS}:sub (a &&& b) b:=ap.2 fun i hi h=>by rw [bn4,bmw] at h;exact h.2
def ml {a b:AS}:sub (a &&& b) a:=ap.2 fun i hi h=>by rw [bn4,bmw] at h;exact h.1
def a6w {a b c:AS} (h:sub a b) (k:sub a c):sub a (b &&& c):=ap.2 fun i hi ha=>by rw [bn4,ap.1 h i hi ha,ap.1 k i hi ha];rfl
def vr (h:cz l s = true):sub (spA l s) s /\ spA l s ≠ s /\ sub (spB l s) s /\ spB l s ≠ s:=by
 obtain ⟨x,hx,hs,hv⟩:=awn h;unfold qq at hv;rw [bmw,decide_eq_true_iff,decide_eq_true_iff] at hv;have e:lx l s = av3 l s x:=by unfold lx;rw [hx]
 have hxc:sub x (clo l x &&& s):=a6w adz hs
 have ea:spA l s = clo l x &&& s:=by
  unfold spA;rw [e];apply ef
  · exact vc hxc ml
  refine ap.2 fun i hi hb=>?_;show (x ||| ((clo l x &&& s) &&& ~~~x)).getLsbD i = true;rw [bo9,bn4,boo,hb,decide_eq_true hi];cases x.getLsbD i <;> rfl
 refine ⟨ea ▸ a1m,ea ▸ hv.2,ml,fun eb=>hv.1 ?_⟩;unfold spB at eb;rw [e] at eb;refine ef (ap.2 fun i hi hb=>?_) hxc;have hsi:s.getLsbD i = true:=ap.1 a1m i hi hb;have h2:=congrArg (fun z:AS=>z.getLsbD i) eb
 have h3:(av3 l s x).rhs.getLsbD i = !x.getLsbD i:=by
  show ((clo l x &&& s) &&& ~~~x).getLsbD i = _;rw [bn4,hb,boo,decide_eq_true hi];rfl
 simp only [bn4,boo,decide_eq_true hi,hsi,h3,bov,Bool.not_not] at h2;exact h2
def a2e (l:List Fd):Nat -> List AS -> List AS -> List AS
 | 0,_,out=>out
 | n + 1,todo,out =>
  if todo.length = 0 then out
  else if cz l (todo.getD (todo.length - 1) default) = true then a2e l n (todo.take (todo.length - 1) ++ [spA l (todo.getD (todo.length - 1) default),spB l (todo.getD (todo.length - 1) default)]) out
  else a2e l n (todo.take (todo.length - 1)) (out ++ [todo.getD (todo.length - 1) default])
def auf (n:Int) (l:List Fd):List AS:=a2e l 6562 [a7 n] []
def aaz (n:Int) (l:List Fd):List AS:=if er n l 8 = 0 then ek (auf n l) else []
variable {n:Int}
def awo (h:er n l 8 = 0):aaz n l = ek (auf n l):=if_pos h
def ay2 (h:¬ er n l 8 = 0):aaz n l = []:=if_neg h
def i6 (todo:List AS):Nat:=(todo.map fun s=>3 ^ bsz s).sum
def mz (a b:List AS):i6 (a ++ b) = i6 a + i6 b:=by unfold i6;rw [bou,List.sum_append]
def abk:∀ todo:List AS,todo.length <= i6 todo
 | []=>bms _
 | s :: t=>by
  have h1:=abk t;have h2:0 < 3 ^ bsz s:=bpg bqx;have e:i6 (s :: t) = 3 ^ bsz s + i6 t:=by unfold i6;rw [bo7,List.sum_cons]
  rw [bn9,e];omega
def up {todo:List AS} (h:0 < todo.length):todo = todo.take (todo.length - 1) ++ [todo.getD (todo.length - 1) default]:=by
 have:=aq (l:=todo) (q:=todo.length - 1) bqx;rw [show todo.length - 1 + 1 = todo.length by omega,bmt] at this;exact this
def a78 (n:Int) (l:List Fd) (x:Nat × List AS × List AS):Prop:=a2e l x.1 x.2.1 x.2.2 = auf n l /\ i6 x.2.1 < x.1 /\ x.2.2.length + x.1 <= 6562
variable {k:Nat}
def axs (h:k <= 32):bsz (jt k) <= k:=by
 unfold bsz
 have e:(List.range 32).countP (fun i=>(jt k).getLsbD i) = (List.range 32).countP fun i=>decide (i < k):=by
  apply List.countP_congr;intro i hi;rw [bn3] at hi;rw [o3 k i hi]
 have h2:∀ m,(List.range m).countP (fun i=>decide (i < k)) <= k /\ (List.range m).countP (fun i=>decide (i < k)) <= m:=by
  intro m
  induction m with
  | zero=>simp
  | succ m ih =>
   rw [bod,bqn];simp only [bp8,List.countP_nil];by_cases hm:m < k
   · rw [if_pos (decide_eq_true hm)];omega
   rw [if_neg (by simpa using hm)];omega
 rw [e];exact (h2 32).1
def ta {m:Nat} (h:n <= m) (hm:m <= 32):bsz (a7 n) <= m:=by
 unfold a7;exact bmy (axs (Nat.min_le_right _ _)) bqx
def anu (h:er n l 8 = 0):a78 n l (6562,[a7 n],[]):=by
 refine ⟨rfl, ?_,bmp _⟩;show 3 ^ bsz (a7 n) + 0 < 6562;have h1:=ta (n:=n) (m:=8) (z6 h).2 bqx;have h2:3 ^ bsz (a7 n) <= 3 ^ 8:=bo2 bqx h1;have h3:3 ^ 8 = 6561:=rfl;omega
variable {x:Nat × List AS × List AS}
def a8y (h:a78 n l x):x.2.1.length < 6562 /\ x.2.2.length <= 6562 /\ 0 < x.1:=by
 have:=abk x.2.1;obtain ⟨h1,h2,h3⟩:=h;omega
def b9z (h:a78 n l x) (h0:x.2.1.length = 0):x.2.2 = auf n l:=by
 have hp:=(a8y h).2.2;obtain ⟨h1,h2,h3⟩:=h;obtain ⟨m,hm⟩:∃ m,x.1 = m + 1:=⟨x.1 - 1,by omega⟩;rw [hm] at h1;unfold a2e at h1;rw [if_pos h0] at h1;exact h1
def b4p (h:a78 n l x) (h0:0 < x.2.1.length) (hv:cz l (x.2.1.getD (x.2.1.length - 1) default) = true):
 a78 n l (x.1 - 1,x.2.1.take (x.2.1.length - 1) ++ [spA l (x.2.1.getD (x.2.1.length - 1) default),spB l (x.2.1.getD (x.2.1.length - 1) default)],x.2.2):=by
 have hp:=(a8y h).2.2;obtain ⟨h1,h2,h3⟩:=h;obtain ⟨m,hm⟩:∃ m,x.1 = m + 1:=⟨x.1 - 1,by omega⟩;rw [hm] at h1;unfold a2e at h1;rw [if_neg bqx,if_pos hv] at h1;refine ⟨by rw [hm];exact h1, ?_,by dsimp only;omega⟩;have e:=mz (x.2.1.take (x.2.1.length - 1)) [x.2.1.getD (x.2.1.length - 1) default];rw [<- up h0] at e;have e1:i6 [x.2.1.getD (x.2.1.length - 1) default] = 3 ^ bsz (x.2.1.getD (x.2.1.length - 1) default):=by simp [i6]
 generalize x.2.1.getD (x.2.1.length - 1) default = s at *;dsimp only;rw [mz];have e2:i6 [spA l s,spB l s] = 3 ^ bsz (spA l s) + 3 ^ bsz (spB l s):=by simp [i6]
 obtain ⟨f1,f2,f3,f4⟩:=vr hv;have g1:=ij f1 f2;have g2:=ij f3 f4;obtain ⟨b,hb⟩:∃ b,bsz s = b + 1:=⟨bsz s - 1,by omega⟩;have p1:3 ^ bsz (spA l s) <= 3 ^ b:=bo2 bqx bqx;have p2:3 ^ bsz (spB l s) <= 3 ^ b:=bo2 bqx bqx;have p3:3 ^ bsz s = 3 ^ b * 3:=by rw [hb,bqe]
 have p4:0 < 3 ^ b:=bpg bqx;omega
def b4m (h:a78 n l x) (h0:0 < x.2.1.length) (hv:cz l (x.2.1.getD (x.2.1.length - 1) default) = false):
 a78 n l (x.1 - 1,x.2.1.take (x.2.1.length - 1),x.2.2 ++ [x.2.1.getD (x.2.1.length - 1) default]):=by
 have hp:=(a8y h).2.2;obtain ⟨h1,h2,h3⟩:=h;obtain ⟨m,hm⟩:∃ m,x.1 = m + 1:=⟨x.1 - 1,by omega⟩;rw [hm] at h1;unfold a2e at h1;rw [if_neg bqx,if_neg (by rw [hv];decide)] at h1;refine ⟨by rw [hm];exact h1, ?_,by dsimp only;rw [bmo,bo3];omega⟩;have e:=mz (x.2.1.take (x.2.1.length - 1)) [x.2.1.getD (x.2.1.length - 1) default];rw [<- up h0] at e;have e1:i6 [x.2.1.getD (x.2.1.length - 1) default] = 3 ^ bsz (x.2.1.getD (x.2.1.length - 1) default):=by simp [i6]
 have p4:0 < 3 ^ bsz (x.2.1.getD (x.2.1.length - 1) default):=bpg bqx;dsimp only;omega
def a96 {α:Type} [Inhabited α] {wr wr':Bool} {n m:Nat} {e:TypeId} {c:α -> Nat -> PV} {l:List α} {x y:α} {f g:Nat -> Nat -> PV} (hn:n = l.length) (hf:∀ i,i < l.length -> CoP (f i 0) (lf c l i 0)) (h0:CoP (g 0 0) (c x 0)) (h1:CoP (g 1 0) (c y 0)) (hm:m = n + 2) (hw:wr' = true -> wr = true:=by exact fun h=>h) :
 CoO (.arr wr 1 e m (fm n f g)) (.arr wr' 1 e (l ++ [x,y]).length (lf c (l ++ [x,y]))):=by
 subst hn hm;refine ⟨hw,rfl,rfl,by simp,fun i j hi hj=>?_⟩;obtain rfl:j = 0:=by omega
 unfold fm;by_cases h:i < l.length
 · rw [if_pos h]
   have:=hf i h;simp only [lf,List.getD,boc h] at this ⊢;exact this
 rw [if_neg h]
 rcases (by omega:i = l.length \/ i = l.length + 1) with rfl | rfl
 · rw [Nat.sub_self]
   simp only [lf,List.getD];rw [bo8 (bmp _),Nat.sub_self];exact h0
 rw [show l.length + 1 - l.length = 1 by omega];simp only [lf,List.getD];rw [bo8 bqx,show l.length + 1 - l.length = 1 by omega];exact h1
def a41 {α:Type} [Inhabited α] {wr wr':Bool} {m:Nat} {e:TypeId} {c:α -> Nat -> PV} {l:List α} (hk:k <= l.length) (hm:m = k) (hw:wr' = true -> wr = true:=by exact fun h=>h):CoO (.arr wr 1 e m (lf c l)) (.arr wr' 1 e (l.take k).length (lf c (l.take k))):=by
 subst hm;refine ⟨hw,rfl,rfl,by rw [bmv,bok hk],fun i j hi hj=>CoP.of_eq ?_⟩;simp only [lf,List.getD,bnl,if_pos hi]
def b5l:PV.raw (.int .u32 (az .or .u32 (asI (lx l s).lhs) (asI (lx l s).rhs))) = sC (spA l s) 0:=congrArg (fun z=>PV.raw (.int .u32 z)) (bOr _ _)
def b5b {t:List AS} {i j:Nat} (h:i = j):PV.raw (.int .u32 (az .andNot .u32 (asI (t.getD i default)) (asI (lx l (t.getD j default)).rhs))) = sC (spB l (t.getD j default)) 0:=by
 subst h;exact congrArg (fun z=>PV.raw (.int .u32 z)) (gl _ _)
def a4y {l:List AS} {i:Nat} (hi:i < (l.take k).length):lf sC l i 0 = lf sC (l.take k) i 0:=by
 rw [bmv] at hi;simp only [lf,List.getD,bnl,if_pos (show i < k by omega)]
def asj {ps:List AS} (hk:idx (fun x=>decide (x = s)) ps = k) (h:xa n l (ps.eraseIdx k) = true):xb n l ps s = ps.eraseIdx k:=by
 unfold xb;rw [hk,bmz,if_pos h]
def aqd {ps:List AS} (hk:idx (fun x=>decide (x = s)) ps = k) (h:xa n l (ps.eraseIdx k) = false):xb n l ps s = ps:=by
 unfold xb;rw [hk,bmz,if_neg (by rw [h];decide)]
end
end
section
open Go.Proofs
def br5 {p:Prop} (h:p:=by simp only [d5,ar,bmo,bn9,bo6,bmv];omega):p:=h
def bgb (n:Int) (l:List Fd):a6 brj 33 [pI n,pP (fdl l)] (a8 [pP (asl (aaz n l)),pI (er n l 8)]):=by
 refine hpx (nt:=60) Tryz.func33 ?_;refine bz ?_;refine qcx (wgx Tryz.func76) (bdi n l) ?_;refine w_7 ?_;refine hcn (fun h0=>?_) (fun h0=>?_)
 · refine v_6 ?_;exact ⟨CoC.one (zr (ay2 h0)),CoC.refl _,trivial⟩
 refine w_2 ?_;have hv:=ep (z6 h0).1;refine w_7 ?_;refine qcx alt (auu n hv.1 hv.2.1) ?_;refine m9 0 ?_;refine w_3 ?_;refine bw 7 900 true 1 46 (lf sC []) br2 rfl (CoP.sl rfl (.inr rfl) (fun h=>h) (fun i j hi _=>absurd hi (bmq i))) (.inr rfl) rfl ?_;refine jz 8 901 rfl rfl rfl rfl ?_;refine ae (ι:=Nat × List AS × List AS) (ka 1 kn) km (fun x=>⟨[(7,some (.v (.one (.ref 900 x.2.2.length)))),(8,some (.v (.one (.ref 901 x.2.1.length))))],[(900,some (.arr true 1 46 x.2.2.length (lf sC x.2.2))),(901,some (.arr true 1 46 x.2.1.length (lf sC x.2.1)))]⟩) (fun x=>a78 n l x) (fun x=>x.1) ((6562,[a7 n],[])) (anu h0) ⟨tt,⟨u9,⟨_,rfl,(qi (CoP.refl _))⟩,trivial⟩⟩ ?_;rintro x hx;have hlen:=a8y hx;refine jz 8 902 rfl rfl rfl rfl ?_;refine w_7 ?_;refine hcd (fun h1=>?_) (fun h1=>?_)
 ·
  refine a82 ?_;refine a4a ⟨[(1,some _),(7,some _),(8,some _),(9,some _)],[(900,some _),(902,some _)]⟩ (by exact kk) ?_;refine ab5 8 901 rfl rfl rfl rfl (by simp only [d5,ar,bmz];omega) rfl ?_;refine w_4 ?_;refine rc rfl rfl rfl rfl rfl rfl amd (ats l (x.2.1.getD (x.2.1.length - 1) default)) (⟨CoC.refl _,CoC.one (CoP.of_eq (congrArg (fun i=>asC (x.2.1.getD i default)) bqx)),trivial⟩) rfl rfl ?_;refine w_3 ?_;refine m9 1 ?_;refine w_7 ?_;refine hcb (fun h2=>?_) (fun h2=>?_)
  ·
   refine cq ?_;refine m9 2 ?_;refine r9 3 true ?_;refine w_2 ?_
   first | (refine ⟨(x.1 - 1, (x.2.1.take (x.2.1.length - 1)) ++ [spA l (x.2.1.getD (x.2.1.length - 1) default), spB l (x.2.1.getD (x.2.1.length - 1) default)], x.2.2), ?_, ?_, ?_⟩
            · exact b4p hx bqx bqy
            · dsimp only
              omega
            exact ⟨⟨zy,⟨_,rfl,(gj br5)⟩,tt⟩,⟨u9,⟨_,rfl,(a96 br5 (fun i hi=>CoP.of_eq (a4y hi)) (CoP.of_eq b5l) (CoP.of_eq (b5b bqx)) rfl)⟩,trivial⟩⟩)
         | (refine ⟨(x.1 - 1,(x.2.1.take (x.2.1.length - 1)),x.2.2 ++ [(x.2.1.getD (x.2.1.length - 1) default)]), ?_, ?_, ?_⟩
            · exact b4m hx bqx bqy
            · dsimp only
              omega
            exact ⟨⟨⟨_,rfl,(bf rfl)⟩,⟨_,rfl,(gj br5)⟩,tt⟩,⟨⟨_,rfl,(bg rfl (CoP.of_eq (congrArg (fun i=>asC (x.2.1.getD i default)) bqx)))⟩,⟨_,rfl,(a41 bqx (by simp only [d5,ar];omega))⟩,trivial⟩⟩)
  refine w_3 ?_;refine m9 4 ?_;refine r9 5 true ?_;refine w_2 ?_
  first | (refine ⟨(x.1 - 1, (x.2.1.take (x.2.1.length - 1)) ++ [spA l (x.2.1.getD (x.2.1.length - 1) default), spB l (x.2.1.getD (x.2.1.length - 1) default)], x.2.2), ?_, ?_, ?_⟩
           · exact b4p hx bqx bqy
           · dsimp only
             omega
           exact ⟨⟨zy,⟨_,rfl,(gj br5)⟩,tt⟩,⟨u9,⟨_,rfl,(a96 br5 (fun i hi=>CoP.of_eq (a4y hi)) (CoP.of_eq b5l) (CoP.of_eq (b5b bqx)) rfl)⟩,trivial⟩⟩)
        | (refine ⟨(x.1 - 1,(x.2.1.take (x.2.1.length - 1)),x.2.2 ++ [(x.2.1.getD (x.2.1.length - 1) default)]), ?_, ?_, ?_⟩
           · exact b4m hx bqx bqy
           · dsimp only
             omega
           exact ⟨⟨⟨_,rfl,(bf rfl)⟩,⟨_,rfl,(gj br5)⟩,tt⟩,⟨⟨_,rfl,(bg rfl (CoP.of_eq (congrArg (fun i=>asC (x.2.1.getD i default)) bqx)))⟩,⟨_,rfl,(a41 bqx (by simp only [d5,ar];omega))⟩,trivial⟩⟩)
 refine w_2 ?_;refine al 7 rfl rfl rfl ?_;have hx0:x.2.1.length = 0:=by omega
 refine w_2 ?_;refine qcx acs (a4o x.2.2 bqx) ?_;refine v_3 ?_;exact ⟨CoC.one (CoP.of_eq (by rw [awo h0,b9z hx hx0])),cci h0.symm,trivial⟩
def bhj (n:Int) (l:List Fd):a6 brj 42 [pI n,pP (fdl l)] (a8 [pP (asl (a0y n l)),pB (x7 n l),pI (er n l 8)]):=by
 refine hpx (nt:=49) Tryz.func42 ?_;refine sx7 ?_;refine m9 0 ?_;refine m9 1 ?_;refine w_8 ?_;refine qcx (wgx Tryz.func89) (bgy n l) ?_;refine en ?_;refine hcn (fun h0=>?_) (fun h0=>?_)
 · refine w_7 ?_;refine hrr ?_;have he:=bd6 h0;exact f9 rfl rfl (⟨CoC.one (zr he.1),ccb he.2.symm,CoC.refl _,trivial⟩)
 refine w_3 ?_;have hv:=ep (z6 h0).1;have hsl:=b0d n l;have hml:=b3a (iz n l);refine w_3 ?_;refine qcx ake (b1h l (iz n l) bqx) ?_;refine w_2 ?_;refine hcv (fun h1=>?_) (fun h1=>?_)
 · refine w_6 ?_;refine hrr ?_;have he:=bf7 (n:=n) (l:=l) bqy;exact f9 rfl rfl (⟨CoC.one (zr he.1),ccb he.2.symm,cci h0.symm,trivial⟩)
 refine w_4 ?_;refine qcx acs (a4o (iz n l) bqx) ?_;refine m9 2 ?_;refine w_4 ?_;refine d8 2 rfl rfl rfl ?_;refine d8 3 rfl rfl rfl ?_;refine w_2 ?_;refine qcx a6c (b11 (ek (iz n l)).length false (lf sC (ek (iz n l))) bqx) ?_;refine qcx (wgx Tryz.func91) (c74 (ek (iz n l)).length false (lf sC (ek (iz n l)))) ?_;refine w_2 ?_;refine b3y (ι:=List AS) (swp 2 1000) (asy 2 1000) rfl (wgx Tryz.func147) (bhb (ek (iz n l)).length false (lf sC (ek (iz n l))) bqx) [(2,some (bp (bx (.raw (.int .i64 n))))),(3,some (bp (bx (fdl l)))),(9,some (.v (.one (.ptr 2 0))))] (fun ps=>[(2, .box [.p (asl ps)])]) (fun i ps=>ajh n l (ek (iz n l)) i ps) ((ek (iz n l))) (azf n l (ek (iz n l))) kk [2] (fun _ _=>rfl) rfl rfl ?_ ?_
 · rintro lp i ps hi hI
   have hpl:=hI.2.1;refine w_3 ?_;refine ⟨rfl, ?_⟩;refine w_5 ?_;refine qcx (wgx Tryz.func92) (bkp ps ((ek (iz n l)).getD ((ek (iz n l)).length - 1 - i) default)) ?_;refine w_3 ?_;obtain ⟨k,hk1,hk2,hk3⟩:=ae0 (hI.2.2 ((ek (iz n l)).length - 1 - i) bqx);refine w_2 ?_;refine fc9 a6c (a3f ps.length false (lf sC ps) bqx) trivial ?_;refine w_3 ?_;refine fj rfl rfl rfl rfl rfl rfl (wgx Tryz.func93) ((bb5 ps k hk2).swap 900 0) (⟨rfl,CoP.of_eq (by rw [hk1]),CoP.of_eq (by rw [hk1]),trivial⟩) uu rfl rfl ?_;refine w_7 ?_;refine qcx (wgx Tryz.func94) (bhk n l (ps.eraseIdx k) hv.1 hv.2.1 bqx) ?_;refine c6 ?_;refine hcb (fun h2=>?_) (fun h2=>?_)
   ·
    refine w_4 ?_;refine ⟨rfl,xb n l ps ((ek (iz n l)).getD ((ek (iz n l)).length - 1 - i) default), ?_, ?_⟩
    · exact aht (aen _) hI hi
    exact ⟨⟨_,rfl,(by first | exact ⟨CoP.of_eq (by rw [asj hk1 bqy]),trivial⟩ | exact ⟨CoP.of_eq (by rw [aqd hk1 bqy]),trivial⟩)⟩,trivial⟩
   refine d6 ?_;refine ⟨rfl,xb n l ps ((ek (iz n l)).getD ((ek (iz n l)).length - 1 - i) default), ?_, ?_⟩
   · exact aht (aen _) hI hi
   exact ⟨⟨_,rfl,(by first | exact ⟨CoP.of_eq (by rw [asj hk1 bqy]),trivial⟩ | exact ⟨CoP.of_eq (by rw [aqd hk1 bqy]),trivial⟩)⟩,trivial⟩
 rintro ps hI;refine w_7 ?_;refine hrr ?_;have he:=be4 h0 bqy;exact f9 rfl rfl (⟨CoC.one (CoP.of_eq (by rw [he.1,<- hI.1])),ccb he.2.symm,cci h0.symm,trivial⟩)
end
section
open Go.Proofs
def bli:List Fd:=[⟨1,2⟩,⟨2,4⟩]
def blm:List Fd:=[⟨3,4⟩,⟨4,1⟩]
end
section
open Go.Proofs
def w1 (l:List Fd) (p:AS):Int:=if b5 16 l = 0 /\ (8:Int) < bsz p then 3 else b5 16 l
section
variable {l:List Fd} {p:AS}
end
section
variable {n:Int} {l:List Fd}
end
end
section
open Go.RowKit Go.ChangeShapes Go.WideShapes Go.ChangeAt
def Rd (P:Program) (t:TypeId) (n:Nat) {α:Type} (c:α -> Nat -> PV):Prop :=
 ∀ (H:Type) (enc:TypeId × Value -> H) (w:World) (sp:Nat -> Bool) (held:Bool) (fuel:Nat) (cs:List Value) (x:DataW H × List MemPlace),DataW.trod enc P w 0 sp held fuel t cs = some x ->
  cs.length = n /\ ∃ a:α,∀ j,j < n -> ∃ v,cs[j]? = some v /\ ay (gw w) (c a j) v
section
variable {P:Program} {t e:TypeId}
def bm6 (k:IntKind) (z:Int):Nat -> PV:=fun _=>.raw (.int k z)
def blp (b:Bool):Nat -> PV:=fun _=>.raw (.bool b)
def blw (s:ByteArray):Nat -> PV:=fun _=>.raw (.string s)
def u8P (u:UInt8):Nat -> PV:=fun _=>.raw (.int .u8 (u.toNat:Int))
def bj0 (ht:P.underlying t = some (.int .u8)):Rd P t 1 u8P:=by
 intro H enc w sp held fuel cs x h;obtain ⟨n,rfl,_,hw⟩:=DataW.trod_int ht h;have hx:0 <= n /\ n <= 255:=by simpa [Lit.wf,IntKind.min,IntKind.max,IntKind.signed,IntKind.bits] using hw
 refine ⟨rfl,UInt8.ofNat n.toNat,fun j hj=>?_⟩;obtain rfl:j = 0:=by omega
 refine ⟨_,rfl, ?_,rfl⟩
 have:(UInt8.ofNat n.toNat).toNat = n.toNat:=by
  rw [UInt8.toNat_ofNat'];omega
 rw [this];congr 1;omega
theorem Rd.co {n:Nat} {α β:Type} {c:α -> Nat -> PV} {c':β -> Nat -> PV} (h:Rd P t n c) (f:α -> β) (hc:∀ a j,j < n -> CoP (c a j) (c' (f a) j)):Rd P t n c':=by
 intro H enc w sp held fuel cs x hx;obtain ⟨h1,a,h2⟩:=h _ enc w sp held fuel cs x hx;refine ⟨h1,f a,fun j hj=>?_⟩;obtain ⟨v,h3,h4⟩:=h2 j hj;exact ⟨v,h3,hc a j hj _ _ h4⟩
def b1z {α:Type} [Inhabited α] (s:Nat) (c:α -> Nat -> PV) (l:List α):Nat -> PV:=fun _=>psl s c l
end
def ajb {W W':World} (hb:Below W.heap.size W W') (may:MemPlace -> Prop):W.keptBut W' may:=by
 refine ⟨hb.os,hb.output,fun i hi=>?_⟩;rw [hb.block i hi]
 cases W.heap[i]? with
 | none=>exact rfl
 | some o=>cases o <;> first | exact ⟨rfl,rfl,rfl,fun _ _=>rfl⟩ | exact .inr ⟨rfl,rfl⟩ | exact rfl
def aj9 {W W':World} (hb:Below W.heap.size W W') (p:MemPlace) (hp:p.block < W.heap.size):W.sameAt W' p:=by
 cases p with
 | cell b off=>show W'.cell? _ = W.cell? _;unfold World.cell?;rw [hb.block b hp]
 | map b=>exact hb.block b hp
section
variable {H:Type} {enc:TypeId × Value -> H} {P:Program}
def a61 (hl:laidOutB P = true) {W W':World} {sp':Nat -> Bool}:∀ {ts:List TypeId} {vs:List Value} {ds:List (DataW H)} {ps:List MemPlace},(∀ t ∈ ts,P.readableRec t = true /\ t < P.types.size) -> DataW.TrodAll enc P W 0 (fun _=>true) true ts vs ds ps ->
 (∀ p ∈ ps,W.sameAt W' p) -> (∀ p ∈ ps,sp' p.block = true) -> DataW.TrodAll enc P W' 0 sp' true ts vs ds ps
 | [],[],[],ps,_,h,_,_=>h
 | t :: ts,v :: vs,d :: ds,ps,ht,⟨p,q,h1,h2,e⟩,hs,hsp=>by
  subst e;refine ⟨p,q,WideElems.Trod_stays hl (ht t br1).1 (ht t br1).2 h1 (fun z hz=>hs z (by simp [hz])) (fun z hz=>hsp z (by simp [hz])), ?_,rfl⟩;exact a61 hl (fun t ht'=>ht t (by simp [ht'])) h2 (fun z hz=>hs z (by simp [hz])) (fun z hz=>hsp z (by simp [hz]))
 | [],_ :: _,_,_,_,h,_,_=>h.elim
 | [],[],_ :: _,_,_,h,_,_=>h.elim
 | _ :: _,[],_,_,_,h,_,_=>h.elim
 | _ :: _,_ :: _,[],_,_,h,_,_=>h.elim
def b41 {f:Func} {s:ChangeSpec} {W W':World} {args:Array Value} {ds:List (DataW H)} {before:List MemPlace} {tb:TypeId} (hl:laidOutB P = true) (hpar:∀ t ∈ f.params.toList,P.readableRec t = true /\ t < P.types.size)
 (hres:f.resultTypes = #[tb]) (htb:P.underlying tb = some .bool) (hv:s.vars = []) (hfn:s.fn H ds = { results:=[.lit (.bool true)],args:=ds })
 (hW:DataW.Whole enc P f.params.toList s.vars false W args.toList ds [] before) (hb:Below W.heap.size W W'):s.post enc P f false true false false W args (.bool true) W':=by
 have hW':=hW;have hlt:∀ p ∈ before,p.block < W.heap.size:=fun p hp=>hW.lt p hp;obtain ⟨p,q,hA,hV,rfl,hfz,hnd⟩:=hW;rw [hv] at hV;obtain ⟨_,rfl⟩:=trodVars_none hV;have hfn':s.fn H (ds ++ []) = { results:=[.lit (.bool true)],args:=ds }:=by rw [bnn];exact hfn
 have hargs:∀ sp:Nat -> Bool,(∀ z ∈ p ++ [],sp z.block = true) -> DataW.TrodAll enc P W' 0 sp true f.params.toList args.toList (s.fn H (ds ++ [])).args p:=fun sp hsp=>by
  rw [hfn'];exact a61 hl hpar hA (fun z hz=>aj9 hb z (hlt z (by simpa using hz))) (fun z hz=>hsp z (by simpa using hz))
 have hrs:∀ (b:Nat) (sp:Nat -> Bool) (hd:Bool),DataW.TrodAll enc P W' b sp hd f.resultTypes.toList ((Value.bool true).resultList f.resultTypes.size) (s.fn H (ds ++ [])).results []:=fun b sp hd=>by
  rw [hfn',hres];exact trodAll_cons_mk (shut_bool htb _) trodAll_mk0
 have hok:∀ (j:Nat) (t:TypeId) (r:Value),f.resultTypes[j]? = some t -> ((Value.bool true).resultList f.resultTypes.size)[j]? = some r -> Value.okWide P W' .any 0 t r:=ok_one hres rfl (okWide_bool_mk htb _)
 have hvars:∀ sp:Nat -> Bool,(∀ z ∈ p ++ [],sp z.block = true) -> DataW.TrodVars enc P W' sp s.vars (s.fn H (ds ++ [])).vars []:=fun sp _=>by
  rw [hfn',hv];exact rfl
 have hold:∀ z ∈ p ++ [],(fun b=>decide (b < W.heap.size)) z.block = true:=fun z hz=>by simpa using hlt z hz
 refine ⟨ds,[],p ++ [],[],p,[],hW',hrs _ _ _,hargs _ hold,hvars _ hold,World.keptBut_mono (fun z hz=>⟨hz, ?_⟩) (ajb hb (· ∈ p ++ [])),fun _=>?_⟩
 · exact Or.inr (by simpa using hz)
 refine ⟨hok,_,_,([] ++ p) ++ [],⟨[] ++ p,[],trodAll_append (hargs _ (fun _ _=>rfl)) (hrs _ _ _),hvars _ (fun _ _=>rfl),rfl, ?_, ?_⟩, ?_⟩
 · intro b off hp
   have hp':MemPlace.cell b off ∈ p ++ []:=by simpa using hp
   have:=hfz b off hp';unfold World.frozen? at this ⊢;rw [hb.block b (hlt _ hp')];exact this
 · intro ha;cases ha
 intro z hz _;simpa using hz
end
def avf {P:Program} {W:World} {r:Reach} {b:Nat} {t:TypeId} {k:IntKind} {v:Value} (ht:P.underlying t = some (.int k)) (h:Value.okWide P W r b t v):v.cells.toList = [v]:=by
 unfold Value.okWide at h;rw [ht] at h;unfold Cell.okWide at h;rw [ht] at h;cases v <;> first | rfl | (simp [Cell.ok,ht] at h)
def azd {P:Program} {f:FuncId} {args:List PC} {us:List Value} {W:World} {R:Ending -> World -> Prop} (ht:sw (gw W)) (h:a6 P f args (a8 [.one (.raw (.bool true))])) (hr:cn (gw W) args us) (hR:∀ W',Below W.heap.size W W' -> R (.returned (.bool true)) W'):Calls P f us.toArray W R:=by
 refine (h W (gw W) us ht (fun _ _ hh=>hh) hr).mono ?_;rintro e w' ⟨v,imm',rfl,hv,_,_,hb⟩;obtain ⟨rfl,_⟩:=hv;exact hR w' hb
end
end Go.Hx
