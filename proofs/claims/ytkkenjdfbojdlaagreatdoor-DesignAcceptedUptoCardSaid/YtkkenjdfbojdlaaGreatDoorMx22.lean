/- A part of the proof: Cs21 V19 Cs22 Cs23 Hx21. -/
import Derived.ChangeArms
import Derived.OpenShut
import Derived.ProofKit
import Derived.WalkKit
import Derived.WideKeyArgs
import Derived.Test.YtkkenjdfbojdlaaGreatDoorMx21
set_option linter.all false
set_option maxRecDepth 100000
namespace Go.Hx
section
section
variable {l:List Fd} {s:AS}
def a92 (h:cr l s = true):∃ x,a1x l s = some x /\ sub x s /\ ll l s x = true:=by
 unfold cr at h;obtain ⟨x,hx⟩:=Option.isSome_iff_exists.1 h;refine ⟨x,hx, ?_,List.find?_some hx⟩;have hm:=bry hx;unfold av at hm;split at hm
 · cases hm
 exact rt.1 hm
def j0 {a:AS} (h:sub a s) (hne:a ≠ s):bsz a < bsz s:=by
 rcases bqp (ah5 h) with h1 | h1
 · exact h1
 exfalso;apply hne
 have hs:(al a).Sublist (al s):=by
  have:al a = (al s).filter fun i=>a.getLsbD i:=by
   unfold al;rw [List.filter_filter];apply List.filter_congr;intro i hi;rw [bor] at hi
   cases ha:a.getLsbD i with
   | false=>rfl
   | true=>rw [ae.1 h i hi ha];rfl
  rw [this];exact List.filter_sublist
 rw [vc,vc] at h1;have he:=hs.eq_of_length h1;refine br h (ae.2 fun i hi hb=>?_);have:i ∈ al s:=gi.2 ⟨hi,hb⟩;rw [<- he] at this;exact (gi.1 this).2
def spA (l:List Fd) (s:AS):AS:=(jy l s).lhs ||| (jy l s).rhs
def spB (l:List Fd) (s:AS):AS:=s &&& ~~~(jy l s).rhs
def lu {a b:AS}:sub (a &&& b) b:=ae.2 fun i hi h=>by rw [boh,boc] at h;exact h.2
def d6 {a b:AS}:sub (a &&& b) a:=ae.2 fun i hi h=>by rw [boh,boc] at h;exact h.1
def gr {a b c:AS} (h:sub a b) (k:sub a c):sub a (b &&& c):=ae.2 fun i hi ha=>by rw [boh,ae.1 h i hi ha,ae.1 k i hi ha];rfl
def a6n (h:cr l s = true):sub (spA l s) s /\ spA l s ≠ s /\ sub (spB l s) s /\ spB l s ≠ s:=by
 obtain ⟨x,hx,hs,hv⟩:=a92 h;unfold ll at hv;rw [boc,decide_eq_true_iff,decide_eq_true_iff] at hv;have e:jy l s = apn l s x:=by unfold jy;rw [hx]
 have hxc:sub x (clo l x &&& s):=gr j9 hs
 have ea:spA l s = clo l x &&& s:=by
  unfold spA;rw [e];apply br
  · exact sc hxc d6
  refine ae.2 fun i hi hb=>?_;show (x ||| ((clo l x &&& s) &&& ~~~x)).getLsbD i = true;rw [bpj,boh,bp7,hb,decide_eq_true hi];cases x.getLsbD i <;> rfl
 refine ⟨ea ▸ lu,ea ▸ hv.2,d6,fun eb=>hv.1 ?_⟩;unfold spB at eb;rw [e] at eb;refine br (ae.2 fun i hi hb=>?_) hxc;have hsi:s.getLsbD i = true:=ae.1 lu i hi hb;have h2:=congrArg (fun z:AS=>z.getLsbD i) eb
 have h3:(apn l s x).rhs.getLsbD i = !x.getLsbD i:=by
  show ((clo l x &&& s) &&& ~~~x).getLsbD i = _;rw [boh,hb,bp7,decide_eq_true hi];rfl
 simp only [boh,bp7,decide_eq_true hi,hsi,h3,bq1,Bool.not_not] at h2;exact h2
def wz (l:List Fd):Nat -> List AS -> List AS -> List AS
 | 0,_,out=>out
 | n + 1,todo,out =>
  if todo.length = 0 then out
  else if cr l (todo.getD (todo.length - 1) default) = true then wz l n (todo.take (todo.length - 1) ++ [spA l (todo.getD (todo.length - 1) default),spB l (todo.getD (todo.length - 1) default)]) out
  else wz l n (todo.take (todo.length - 1)) (out ++ [todo.getD (todo.length - 1) default])
def a57 (n:Int) (l:List Fd):List AS:=wz l 6562 [a6 n] []
def xu (n:Int) (l:List Fd):List AS:=if fc n l 8 = 0 then ef (a57 n l) else []
variable {n:Int}
def apg (h:fc n l 8 = 0):xu n l = ef (a57 n l):=if_pos h
def bii (h:¬ fc n l 8 = 0):xu n l = []:=if_neg h
def f7 (todo:List AS):Nat:=(todo.map fun s=>3 ^ bsz s).sum
def jl (a b:List AS):f7 (a ++ b) = f7 a + f7 b:=by unfold f7;rw [bqi,List.sum_append]
def acu:∀ todo:List AS,todo.length <= f7 todo
 | []=>boe _
 | s :: t=>by
  have h1:=acu t;have h2:0 < 3 ^ bsz s:=bqv bsq;have e:f7 (s :: t) = 3 ^ bsz s + f7 t:=by unfold f7;rw [bpt,List.sum_cons]
  rw [bov,e];omega
def pi {todo:List AS} (h:0 < todo.length):todo = todo.take (todo.length - 1) ++ [todo.getD (todo.length - 1) default]:=by
 have:=aw (l:=todo) (q:=todo.length - 1) bsq;rw [show todo.length - 1 + 1 = todo.length by omega,bog] at this;exact this
def a8m (n:Int) (l:List Fd) (x:Nat × List AS × List AS):Prop:=wz l x.1 x.2.1 x.2.2 = a57 n l /\ f7 x.2.1 < x.1 /\ x.2.2.length + x.1 <= 6562
variable {k:Nat}
def b0e (h:k <= 32):bsz (ky k) <= k:=by
 unfold bsz
 have e:(List.range 32).countP (fun i=>(ky k).getLsbD i) = (List.range 32).countP fun i=>decide (i < k):=by
  apply List.countP_congr;intro i hi;rw [bor] at hi;rw [ly k i hi]
 have h2:∀ m,(List.range m).countP (fun i=>decide (i < k)) <= k /\ (List.range m).countP (fun i=>decide (i < k)) <= m:=by
  intro m
  induction m with
  | zero=>simp
  | succ m ih =>
   rw [bq7,bsd];simp only [bqs,List.countP_nil];by_cases hm:m < k
   · rw [if_pos (decide_eq_true hm)];omega
   rw [if_neg (by simpa using hm)];omega
 rw [e];exact (h2 32).1
def y7 {m:Nat} (h:n <= m) (hm:m <= 32):bsz (a6 n) <= m:=by
 unfold a6;exact bon (b0e (Nat.min_le_right _ _)) bsq
def ad3 (h:fc n l 8 = 0):a8m n l (6562,[a6 n],[]):=by
 refine ⟨rfl, ?_,bo9 _⟩;show 3 ^ bsz (a6 n) + 0 < 6562;have h1:=y7 (n:=n) (m:=8) (sy h).2 bsq;have h2:3 ^ bsz (a6 n) <= 3 ^ 8:=bpm bsq h1;have h3:3 ^ 8 = 6561:=rfl;omega
variable {x:Nat × List AS × List AS}
def aai (h:a8m n l x):x.2.1.length < 6562 /\ x.2.2.length <= 6562 /\ 0 < x.1:=by
 have:=acu x.2.1;obtain ⟨h1,h2,h3⟩:=h;omega
def b8m (h:a8m n l x) (h0:x.2.1.length = 0):x.2.2 = a57 n l:=by
 have hp:=(aai h).2.2;obtain ⟨h1,h2,h3⟩:=h;obtain ⟨m,hm⟩:∃ m,x.1 = m + 1:=⟨x.1 - 1,by omega⟩;rw [hm] at h1;unfold wz at h1;rw [if_pos h0] at h1;exact h1
def b78 (h:a8m n l x) (h0:0 < x.2.1.length) (hv:cr l (x.2.1.getD (x.2.1.length - 1) default) = true):
 a8m n l (x.1 - 1,x.2.1.take (x.2.1.length - 1) ++ [spA l (x.2.1.getD (x.2.1.length - 1) default),spB l (x.2.1.getD (x.2.1.length - 1) default)],x.2.2):=by
 have hp:=(aai h).2.2;obtain ⟨h1,h2,h3⟩:=h;obtain ⟨m,hm⟩:∃ m,x.1 = m + 1:=⟨x.1 - 1,by omega⟩;rw [hm] at h1;unfold wz at h1;rw [if_neg bsq,if_pos hv] at h1;refine ⟨by rw [hm];exact h1, ?_,by dsimp only;omega⟩;have e:=jl (x.2.1.take (x.2.1.length - 1)) [x.2.1.getD (x.2.1.length - 1) default];rw [<- pi h0] at e;have e1:f7 [x.2.1.getD (x.2.1.length - 1) default] = 3 ^ bsz (x.2.1.getD (x.2.1.length - 1) default):=by simp [f7]
 generalize x.2.1.getD (x.2.1.length - 1) default = s at *;dsimp only;rw [jl];have e2:f7 [spA l s,spB l s] = 3 ^ bsz (spA l s) + 3 ^ bsz (spB l s):=by simp [f7]
 obtain ⟨f1,f2,f3,f4⟩:=a6n hv;have g1:=j0 f1 f2;have g2:=j0 f3 f4;obtain ⟨b,hb⟩:∃ b,bsz s = b + 1:=⟨bsz s - 1,by omega⟩;have p1:3 ^ bsz (spA l s) <= 3 ^ b:=bpm bsq bsq;have p2:3 ^ bsz (spB l s) <= 3 ^ b:=bpm bsq bsq;have p3:3 ^ bsz s = 3 ^ b * 3:=by rw [hb,bs6]
 have p4:0 < 3 ^ b:=bqv bsq;omega
def b6n (h:a8m n l x) (h0:0 < x.2.1.length) (hv:cr l (x.2.1.getD (x.2.1.length - 1) default) = false):
 a8m n l (x.1 - 1,x.2.1.take (x.2.1.length - 1),x.2.2 ++ [x.2.1.getD (x.2.1.length - 1) default]):=by
 have hp:=(aai h).2.2;obtain ⟨h1,h2,h3⟩:=h;obtain ⟨m,hm⟩:∃ m,x.1 = m + 1:=⟨x.1 - 1,by omega⟩;rw [hm] at h1;unfold wz at h1;rw [if_neg bsq,if_neg (by rw [hv];decide)] at h1;refine ⟨by rw [hm];exact h1, ?_,by dsimp only;rw [bob,bpz];omega⟩;have e:=jl (x.2.1.take (x.2.1.length - 1)) [x.2.1.getD (x.2.1.length - 1) default];rw [<- pi h0] at e;have e1:f7 [x.2.1.getD (x.2.1.length - 1) default] = 3 ^ bsz (x.2.1.getD (x.2.1.length - 1) default):=by simp [f7]
 have p4:0 < 3 ^ bsz (x.2.1.getD (x.2.1.length - 1) default):=bqv bsq;dsimp only;omega
def aa7 {α:Type} [Inhabited α] {wr wr':Bool} {n m:Nat} {e:TypeId} {c:α -> Nat -> PV} {l:List α} {x y:α} {f g:Nat -> Nat -> PV} (hn:n = l.length) (hf:∀ i,i < l.length -> CoP (f i 0) (lf c l i 0)) (h0:CoP (g 0 0) (c x 0)) (h1:CoP (g 1 0) (c y 0)) (hm:m = n + 2) (hw:wr' = true -> wr = true:=by exact fun h=>h) :
 CoO (.arr wr 1 e m (gv n f g)) (.arr wr' 1 e (l ++ [x,y]).length (lf c (l ++ [x,y]))):=by
 subst hn hm;refine ⟨hw,rfl,rfl,by simp,fun i j hi hj=>?_⟩;obtain rfl:j = 0:=by omega
 unfold gv;by_cases h:i < l.length
 · rw [if_pos h]
   have:=hf i h;simp only [lf,List.getD,bq0 h] at this ⊢;exact this
 rw [if_neg h]
 rcases (by omega:i = l.length \/ i = l.length + 1) with rfl | rfl
 · rw [Nat.sub_self]
   simp only [lf,List.getD];rw [bq3 (bo9 _),Nat.sub_self];exact h0
 rw [show l.length + 1 - l.length = 1 by omega];simp only [lf,List.getD];rw [bq3 bsq,show l.length + 1 - l.length = 1 by omega];exact h1
def a5i {α:Type} [Inhabited α] {wr wr':Bool} {m:Nat} {e:TypeId} {c:α -> Nat -> PV} {l:List α} (hk:k <= l.length) (hm:m = k) (hw:wr' = true -> wr = true:=by exact fun h=>h):CoO (.arr wr 1 e m (lf c l)) (.arr wr' 1 e (l.take k).length (lf c (l.take k))):=by
 subst hm;refine ⟨hw,rfl,rfl,by rw [boi,bq4 hk],fun i j hi hj=>CoP.of_eq ?_⟩;simp only [lf,List.getD,bpf,if_pos hi]
def b7h:PV.raw (.int .u32 (ap .or .u32 (asI (jy l s).lhs) (asI (jy l s).rhs))) = sC (spA l s) 0:=congrArg (fun z=>PV.raw (.int .u32 z)) (bOr _ _)
def b7i {t:List AS} {i j:Nat} (h:i = j):PV.raw (.int .u32 (ap .andNot .u32 (asI (t.getD i default)) (asI (jy l (t.getD j default)).rhs))) = sC (spB l (t.getD j default)) 0:=by
 subst h;exact congrArg (fun z=>PV.raw (.int .u32 z)) (it _ _)
def a5p {l:List AS} {i:Nat} (hi:i < (l.take k).length):lf sC l i 0 = lf sC (l.take k) i 0:=by
 rw [boi] at hi;simp only [lf,List.getD,bpf,if_pos (show i < k by omega)]
def aty {ps:List AS} (hk:idx (fun x=>decide (x = s)) ps = k) (h:kz n l (ps.eraseIdx k) = true):oe n l ps s = ps.eraseIdx k:=by
 unfold oe;rw [hk,bop,if_pos h]
def ary {ps:List AS} (hk:idx (fun x=>decide (x = s)) ps = k) (h:kz n l (ps.eraseIdx k) = false):oe n l ps s = ps:=by
 unfold oe;rw [hk,bop,if_neg (by rw [h];decide)]
end
end
section
open Go.Proofs
def bt0 {p:Prop} (h:p:=by simp only [ek,az,bob,bov,bps,boi];omega):p:=h
def blz (n:Int) (l:List Fd):a7 btb 33 [pI n,pP (fdl l)] (aa [pP (asl (xu n l)),pI (fc n l 8)]):=by
 refine hpx (nt:=60) Tryz.func33 ?_;refine d5 ?_;refine qcx (wgx Tryz.func76) (bel n l) ?_;refine w_7 ?_;refine hcn (fun h0=>?_) (fun h0=>?_)
 · refine v_6 ?_;exact ⟨CoC.one (a2s (bii h0)),CoC.refl _,trivial⟩
 refine w_2 ?_;have hv:=f8 (sy h0).1;refine w_7 ?_;refine qcx amz (aug n hv.1 hv.2.1) ?_;refine m9 0 ?_;refine w_3 ?_;refine ct 7 900 true 1 46 (lf sC []) bsu rfl (CoP.sl rfl (.inr rfl) (fun h=>h) (fun i j hi _=>absurd hi (bod i))) (.inr rfl) rfl ?_;refine sa 8 901 rfl rfl rfl rfl ?_;refine ah (ι:=Nat × List AS × List AS) (ka 1 kn) km (fun x=>⟨[(7,some (.v (.one (.ref 900 x.2.2.length)))),(8,some (.v (.one (.ref 901 x.2.1.length))))],[(900,some (.arr true 1 46 x.2.2.length (lf sC x.2.2))),(901,some (.arr true 1 46 x.2.1.length (lf sC x.2.1)))]⟩) (fun x=>a8m n l x) (fun x=>x.1) ((6562,[a6 n],[])) (ad3 h0) ⟨tt,⟨u9,⟨_,rfl,(y4 (CoP.refl _))⟩,trivial⟩⟩ ?_;rintro x hx;have hlen:=aai hx;refine sa 8 902 rfl rfl rfl rfl ?_;refine w_7 ?_;refine hcd (fun h1=>?_) (fun h1=>?_)
 ·
  refine ad6 ?_;refine a65 ⟨[(1,some _),(7,some _),(8,some _),(9,some _)],[(900,some _),(902,some _)]⟩ (by exact kk) ?_;refine acf 8 901 rfl rfl rfl rfl (by simp only [ek,az,bop];omega) rfl ?_;refine w_4 ?_;refine rc rfl rfl rfl rfl rfl rfl alq (auj l (x.2.1.getD (x.2.1.length - 1) default)) (⟨CoC.refl _,CoC.one (CoP.of_eq (congrArg (fun i=>asC (x.2.1.getD i default)) bsq)),trivial⟩) rfl rfl ?_;refine w_3 ?_;refine m9 1 ?_;refine w_7 ?_;refine hcb (fun h2=>?_) (fun h2=>?_)
  ·
   refine dl ?_;refine m9 2 ?_;refine r9 3 true ?_;refine w_2 ?_
   first | (refine ⟨(x.1 - 1, (x.2.1.take (x.2.1.length - 1)) ++ [spA l (x.2.1.getD (x.2.1.length - 1) default), spB l (x.2.1.getD (x.2.1.length - 1) default)], x.2.2), ?_, ?_, ?_⟩
            · exact b78 hx bsq bsr
            · dsimp only
              omega
            exact ⟨⟨zy,⟨_,rfl,(jq bt0)⟩,tt⟩,⟨u9,⟨_,rfl,(aa7 bt0 (fun i hi=>CoP.of_eq (a5p hi)) (CoP.of_eq b7h) (CoP.of_eq (b7i bsq)) rfl)⟩,trivial⟩⟩)
         | (refine ⟨(x.1 - 1,(x.2.1.take (x.2.1.length - 1)),x.2.2 ++ [(x.2.1.getD (x.2.1.length - 1) default)]), ?_, ?_, ?_⟩
            · exact b6n hx bsq bsr
            · dsimp only
              omega
            exact ⟨⟨⟨_,rfl,(c8 rfl)⟩,⟨_,rfl,(jq bt0)⟩,tt⟩,⟨⟨_,rfl,(bu rfl (CoP.of_eq (congrArg (fun i=>asC (x.2.1.getD i default)) bsq)))⟩,⟨_,rfl,(a5i bsq (by simp only [ek,az];omega))⟩,trivial⟩⟩)
  refine w_3 ?_;refine m9 4 ?_;refine r9 5 true ?_;refine w_2 ?_
  first | (refine ⟨(x.1 - 1, (x.2.1.take (x.2.1.length - 1)) ++ [spA l (x.2.1.getD (x.2.1.length - 1) default), spB l (x.2.1.getD (x.2.1.length - 1) default)], x.2.2), ?_, ?_, ?_⟩
           · exact b78 hx bsq bsr
           · dsimp only
             omega
           exact ⟨⟨zy,⟨_,rfl,(jq bt0)⟩,tt⟩,⟨u9,⟨_,rfl,(aa7 bt0 (fun i hi=>CoP.of_eq (a5p hi)) (CoP.of_eq b7h) (CoP.of_eq (b7i bsq)) rfl)⟩,trivial⟩⟩)
        | (refine ⟨(x.1 - 1,(x.2.1.take (x.2.1.length - 1)),x.2.2 ++ [(x.2.1.getD (x.2.1.length - 1) default)]), ?_, ?_, ?_⟩
           · exact b6n hx bsq bsr
           · dsimp only
             omega
           exact ⟨⟨⟨_,rfl,(c8 rfl)⟩,⟨_,rfl,(jq bt0)⟩,tt⟩,⟨⟨_,rfl,(bu rfl (CoP.of_eq (congrArg (fun i=>asC (x.2.1.getD i default)) bsq)))⟩,⟨_,rfl,(a5i bsq (by simp only [ek,az];omega))⟩,trivial⟩⟩)
 refine w_2 ?_;refine b6 7 rfl rfl rfl ?_;have hx0:x.2.1.length = 0:=by omega
 refine w_2 ?_;refine qcx aet (a6i x.2.2 bsq) ?_;refine v_3 ?_;exact ⟨CoC.one (CoP.of_eq (by rw [apg h0,b8m hx hx0])),cci h0.symm,trivial⟩
def bkn (n:Int) (l:List Fd):a7 btb 42 [pI n,pP (fdl l)] (aa [pP (asl (o9 n l)),pB (qz n l),pI (fc n l 8)]):=by
 refine hpx (nt:=49) Tryz.func42 ?_;refine sx7 ?_;refine m9 0 ?_;refine m9 1 ?_;refine w_8 ?_;refine qcx (wgx Tryz.func89) (bew n l) ?_;refine i6 ?_;refine hcn (fun h0=>?_) (fun h0=>?_)
 · refine w_7 ?_;refine hrr ?_;have he:=bg7 h0;exact f9 rfl rfl (⟨CoC.one (a2s he.1),ccb he.2.symm,CoC.refl _,trivial⟩)
 refine w_3 ?_;have hv:=f8 (sy h0).1;have hsl:=b5g n l;have hml:=b4b (gj n l);refine w_3 ?_;refine qcx ap4 (b60 l (gj n l) bsq) ?_;refine w_2 ?_;refine hcv (fun h1=>?_) (fun h1=>?_)
 · refine w_6 ?_;refine hrr ?_;have he:=bh4 (n:=n) (l:=l) bsr;exact f9 rfl rfl (⟨CoC.one (a2s he.1),ccb he.2.symm,cci h0.symm,trivial⟩)
 refine w_4 ?_;refine qcx aet (a6i (gj n l) bsq) ?_;refine m9 2 ?_;refine w_4 ?_;refine dc 2 rfl rfl rfl ?_;refine dc 3 rfl rfl rfl ?_;refine w_2 ?_;refine qcx a78 (b1t (ef (gj n l)).length false (lf sC (ef (gj n l))) bsq) ?_;refine qcx (wgx Tryz.func91) (c74 (ef (gj n l)).length false (lf sC (ef (gj n l)))) ?_;refine w_2 ?_;refine b5r (ι:=List AS) (swp 2 1000) (ato 2 1000) rfl (wgx Tryz.func147) (bjy (ef (gj n l)).length false (lf sC (ef (gj n l))) bsq) [(2,some (bn (bx (.raw (.int .i64 n))))),(3,some (bn (bx (fdl l)))),(9,some (.v (.one (.ptr 2 0))))] (fun ps=>[(2, .box [.p (asl ps)])]) (fun i ps=>ak8 n l (ef (gj n l)) i ps) ((ef (gj n l))) (axv n l (ef (gj n l))) kk [2] (fun _ _=>rfl) rfl rfl ?_ ?_
 · rintro lp i ps hi hI
   have hpl:=hI.2.1;refine w_3 ?_;refine ⟨rfl, ?_⟩;refine w_5 ?_;refine qcx (wgx Tryz.func92) (bla ps ((ef (gj n l)).getD ((ef (gj n l)).length - 1 - i) default)) ?_;refine w_3 ?_;obtain ⟨k,hk1,hk2,hk3⟩:=aek (hI.2.2 ((ef (gj n l)).length - 1 - i) bsq);refine w_2 ?_;refine fc9 a78 (a42 ps.length false (lf sC ps) bsq) trivial ?_;refine w_3 ?_;refine ik rfl rfl rfl rfl rfl rfl (wgx Tryz.func93) ((bat ps k hk2).swap 900 0) (⟨rfl,CoP.of_eq (by rw [hk1]),CoP.of_eq (by rw [hk1]),trivial⟩) uu rfl rfl ?_;refine w_7 ?_;refine qcx (wgx Tryz.func94) (bk2 n l (ps.eraseIdx k) hv.1 hv.2.1 bsq) ?_;refine cu ?_;refine hcb (fun h2=>?_) (fun h2=>?_)
   ·
    refine w_4 ?_;refine ⟨rfl,oe n l ps ((ef (gj n l)).getD ((ef (gj n l)).length - 1 - i) default), ?_, ?_⟩
    · exact aih (vz _) hI hi
    exact ⟨⟨_,rfl,(by first | exact ⟨CoP.of_eq (by rw [aty hk1 bsr]),trivial⟩ | exact ⟨CoP.of_eq (by rw [ary hk1 bsr]),trivial⟩)⟩,trivial⟩
   refine dp ?_;refine ⟨rfl,oe n l ps ((ef (gj n l)).getD ((ef (gj n l)).length - 1 - i) default), ?_, ?_⟩
   · exact aih (vz _) hI hi
   exact ⟨⟨_,rfl,(by first | exact ⟨CoP.of_eq (by rw [aty hk1 bsr]),trivial⟩ | exact ⟨CoP.of_eq (by rw [ary hk1 bsr]),trivial⟩)⟩,trivial⟩
 rintro ps hI;refine w_7 ?_;refine hrr ?_;have he:=an1 h0 bsr;exact f9 rfl rfl (⟨CoC.one (CoP.of_eq (by rw [he.1,<- hI.1])),ccb he.2.symm,cci h0.symm,trivial⟩)
end
section
open Go.Proofs
def bn4:List Fd:=[⟨1,2⟩,⟨2,4⟩]
def bnh:List Fd:=[⟨3,4⟩,⟨4,1⟩]
end
section
open Go.Proofs
def w1 (l:List Fd) (p:AS):Int:=if au 16 l = 0 /\ (8:Int) < bsz p then 3 else au 16 l
section
variable {l:List Fd} {p:AS}
end
section
variable {n:Int} {l:List Fd}
end
end
section
open Go.RowKit Go.ChangeShapes Go.WideShapes Go.ChangeAt
def Rd (P:Program) (t:TypeId) (n:Nat) {α:Type} (c:α -> Nat -> PV):Prop :=
 ∀ (H:Type) (enc:TypeId × Value -> H) (w:World) (sp:Nat -> Bool) (held:Bool) (fuel:Nat) (cs:List Value) (x:DataW H × List MemPlace),DataW.trod enc P w 0 sp held fuel t cs = some x ->
  cs.length = n /\ ∃ a:α,∀ j,j < n -> ∃ v,cs[j]? = some v /\ ay (ir w) (c a j) v
section
variable {P:Program} {t e:TypeId}
def bnw (k:IntKind) (z:Int):Nat -> PV:=fun _=>.raw (.int k z)
def bn8 (b:Bool):Nat -> PV:=fun _=>.raw (.bool b)
def bn9 (s:ByteArray):Nat -> PV:=fun _=>.raw (.string s)
def u8P (u:UInt8):Nat -> PV:=fun _=>.raw (.int .u8 (u.toNat:Int))
def bjb (ht:P.underlying t = some (.int .u8)):Rd P t 1 u8P:=by
 intro H enc w sp held fuel cs x h;obtain ⟨n,rfl,_,hw⟩:=DataW.trod_int ht h;have hx:0 <= n /\ n <= 255:=by simpa [Lit.wf,IntKind.min,IntKind.max,IntKind.signed,IntKind.bits] using hw
 refine ⟨rfl,UInt8.ofNat n.toNat,fun j hj=>?_⟩;obtain rfl:j = 0:=by omega
 refine ⟨_,rfl, ?_,rfl⟩
 have:(UInt8.ofNat n.toNat).toNat = n.toNat:=by
  rw [UInt8.toNat_ofNat'];omega
 rw [this];congr 1;omega
theorem Rd.co {n:Nat} {α β:Type} {c:α -> Nat -> PV} {c':β -> Nat -> PV} (h:Rd P t n c) (f:α -> β) (hc:∀ a j,j < n -> CoP (c a j) (c' (f a) j)):Rd P t n c':=by
 intro H enc w sp held fuel cs x hx;obtain ⟨h1,a,h2⟩:=h _ enc w sp held fuel cs x hx;refine ⟨h1,f a,fun j hj=>?_⟩;obtain ⟨v,h3,h4⟩:=h2 j hj;exact ⟨v,h3,hc a j hj _ _ h4⟩
def b4r {α:Type} [Inhabited α] (s:Nat) (c:α -> Nat -> PV) (l:List α):Nat -> PV:=fun _=>psl s c l
end
def ajx {W W':World} (hb:Below W.heap.size W W') (may:MemPlace -> Prop):W.keptBut W' may:=by
 refine ⟨hb.os,hb.output,fun i hi=>?_⟩;rw [hb.block i hi]
 cases W.heap[i]? with
 | none=>exact rfl
 | some o=>cases o <;> first | exact ⟨rfl,rfl,rfl,fun _ _=>rfl⟩ | exact .inr ⟨rfl,rfl⟩ | exact rfl
def ak0 {W W':World} (hb:Below W.heap.size W W') (p:MemPlace) (hp:p.block < W.heap.size):W.sameAt W' p:=by
 cases p with
 | cell b off=>show W'.cell? _ = W.cell? _;unfold World.cell?;rw [hb.block b hp]
 | map b=>exact hb.block b hp
section
variable {H:Type} {enc:TypeId × Value -> H} {P:Program}
def a6t (hl:laidOutB P = true) {W W':World} {sp':Nat -> Bool}:∀ {ts:List TypeId} {vs:List Value} {ds:List (DataW H)} {ps:List MemPlace},(∀ t ∈ ts,P.readableRec t = true /\ t < P.types.size) -> DataW.TrodAll enc P W 0 (fun _=>true) true ts vs ds ps ->
 (∀ p ∈ ps,W.sameAt W' p) -> (∀ p ∈ ps,sp' p.block = true) -> DataW.TrodAll enc P W' 0 sp' true ts vs ds ps
 | [],[],[],ps,_,h,_,_=>h
 | t :: ts,v :: vs,d :: ds,ps,ht,⟨p,q,h1,h2,e⟩,hs,hsp=>by
  subst e;refine ⟨p,q,WideElems.Trod_stays hl (ht t bst).1 (ht t bst).2 h1 (fun z hz=>hs z (by simp [hz])) (fun z hz=>hsp z (by simp [hz])), ?_,rfl⟩;exact a6t hl (fun t ht'=>ht t (by simp [ht'])) h2 (fun z hz=>hs z (by simp [hz])) (fun z hz=>hsp z (by simp [hz]))
 | [],_ :: _,_,_,_,h,_,_=>h.elim
 | [],[],_ :: _,_,_,h,_,_=>h.elim
 | _ :: _,[],_,_,_,h,_,_=>h.elim
 | _ :: _,_ :: _,[],_,_,h,_,_=>h.elim
def b4p {f:Func} {s:ChangeSpec} {W W':World} {args:Array Value} {ds:List (DataW H)} {before:List MemPlace} {tb:TypeId} (hl:laidOutB P = true) (hpar:∀ t ∈ f.params.toList,P.readableRec t = true /\ t < P.types.size)
 (hres:f.resultTypes = #[tb]) (htb:P.underlying tb = some .bool) (hv:s.vars = []) (hfn:s.fn H ds = { results:=[.lit (.bool true)],args:=ds })
 (hW:DataW.Whole enc P f.params.toList s.vars false W args.toList ds [] before) (hb:Below W.heap.size W W'):s.post enc P f false true false false W args (.bool true) W':=by
 have hW':=hW;have hlt:∀ p ∈ before,p.block < W.heap.size:=fun p hp=>hW.lt p hp;obtain ⟨p,q,hA,hV,rfl,hfz,hnd⟩:=hW;rw [hv] at hV;obtain ⟨_,rfl⟩:=trodVars_none hV;have hfn':s.fn H (ds ++ []) = { results:=[.lit (.bool true)],args:=ds }:=by rw [bpd];exact hfn
 have hargs:∀ sp:Nat -> Bool,(∀ z ∈ p ++ [],sp z.block = true) -> DataW.TrodAll enc P W' 0 sp true f.params.toList args.toList (s.fn H (ds ++ [])).args p:=fun sp hsp=>by
  rw [hfn'];exact a6t hl hpar hA (fun z hz=>ak0 hb z (hlt z (by simpa using hz))) (fun z hz=>hsp z (by simpa using hz))
 have hrs:∀ (b:Nat) (sp:Nat -> Bool) (hd:Bool),DataW.TrodAll enc P W' b sp hd f.resultTypes.toList ((Value.bool true).resultList f.resultTypes.size) (s.fn H (ds ++ [])).results []:=fun b sp hd=>by
  rw [hfn',hres];exact trodAll_cons_mk (shut_bool htb _) trodAll_mk0
 have hok:∀ (j:Nat) (t:TypeId) (r:Value),f.resultTypes[j]? = some t -> ((Value.bool true).resultList f.resultTypes.size)[j]? = some r -> Value.okWide P W' .any 0 t r:=ok_one hres rfl (okWide_bool_mk htb _)
 have hvars:∀ sp:Nat -> Bool,(∀ z ∈ p ++ [],sp z.block = true) -> DataW.TrodVars enc P W' sp s.vars (s.fn H (ds ++ [])).vars []:=fun sp _=>by
  rw [hfn',hv];exact rfl
 have hold:∀ z ∈ p ++ [],(fun b=>decide (b < W.heap.size)) z.block = true:=fun z hz=>by simpa using hlt z hz
 refine ⟨ds,[],p ++ [],[],p,[],hW',hrs _ _ _,hargs _ hold,hvars _ hold,World.keptBut_mono (fun z hz=>⟨hz, ?_⟩) (ajx hb (· ∈ p ++ [])),fun _=>?_⟩
 · exact Or.inr (by simpa using hz)
 refine ⟨hok,_,_,([] ++ p) ++ [],⟨[] ++ p,[],trodAll_append (hargs _ (fun _ _=>rfl)) (hrs _ _ _),hvars _ (fun _ _=>rfl),rfl, ?_, ?_⟩, ?_⟩
 · intro b off hp
   have hp':MemPlace.cell b off ∈ p ++ []:=by simpa using hp
   have:=hfz b off hp';unfold World.frozen? at this ⊢;rw [hb.block b (hlt _ hp')];exact this
 · intro ha;cases ha
 intro z hz _;simpa using hz
end
def b01 {P:Program} {f:FuncId} {args:List PC} {us:List Value} {W:World} {R:Ending -> World -> Prop} (ht:ug (ir W)) (h:a7 P f args (aa [.one (.raw (.bool true))])) (hr:d9 (ir W) args us) (hR:∀ W',Below W.heap.size W W' -> R (.returned (.bool true)) W'):Calls P f us.toArray W R:=by
 refine (h W (ir W) us ht (fun _ _ hh=>hh) hr).mono ?_;rintro e w' ⟨v,imm',rfl,hv,_,_,hb⟩;obtain ⟨rfl,_⟩:=hv;exact hR w' hb
end
end Go.Hx
