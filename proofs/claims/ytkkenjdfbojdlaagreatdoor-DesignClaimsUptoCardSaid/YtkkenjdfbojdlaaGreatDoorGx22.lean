/- A part of the proof: V18 Cs21 V19 Cs22 Cs23 Hx21. -/
import Derived.ChangeArms
import Derived.OpenShut
import Derived.ProofKit
import Derived.WalkKit
import Derived.WideKeyArgs
import Derived.Test.YtkkenjdfbojdlaaGreatDoorGx14
import Derived.Test.YtkkenjdfbojdlaaGreatDoorGx21
set_option linter.all false
set_option maxRecDepth 100000
namespace Go.Hx
section
open Go.Proofs
theorem bcw:goodFn Tryz.prog 93:=wgx Tryz.func93
theorem b6e (l:List AS) (k:Nat) (hk:k < l.length):da Tryz.prog 93 [.one (.ref 900 l.length), .one (.p (.raw (.int .i64 (k:Int)))), .one (.p (.raw (.int .i64 ((k:Int) + 1))))] [(900, .arr true 1 46 l.length (lf sC l))] (.v (.one (.p (asl (l.eraseIdx k))))) [] []:=by
 refine hfx (nt:=33) Tryz.func93 ?_;refine cq ?_;refine abc 900 rfl fun hlen=>?_;refine a42 ?_;refine hcd (fun h0=>?_) (fun h0=>?_)
 · exfalso;omega
 refine ku ?_;refine r9 0 true ?_;refine ce ?_;refine r9 1 true ?_;refine w_6 ?_;refine ary 6 rfl rfl rfl ?_;refine jn ?_;refine ⟨.inr rfl, ?_⟩;exact ⟨_,_,rfl,bou,(by show CoR _ _;dsimp only [ek,be];exact ba7 hk bos bos bos bos bos bos),trivial⟩
theorem b8j:goodFn Tryz.prog 149:=wgx Tryz.func149
theorem bdh (p:AS) (n:Int) (l:List Fd):a7 Tryz.prog 149 [pA p,pP (bx (.raw (.int .i64 n))),pP (bx (fdl l))] (ae [pB (ld n l p)]):=by
 refine hpx (nt:=9) Tryz.func149 ?_;refine w_9 ?_;refine qcx ab7 (ah0 n l p) ?_;refine w_2 ?_;exact hx8 rfl rfl rfl (CoL.refl _)
theorem ba9:goodFn Tryz.prog 94:=wgx Tryz.func94
theorem bgw (n:Int) (l:List Fd) (ps:List AS) (hn0:0 <= n) (hn1:n <= 16) (hl:l.length <= 16777216):a7 Tryz.prog 94 [pI n,pP (fdl l),pP (asl ps)] (ae [pB (vz n l ps)]):=by
 refine hpx (nt:=34) Tryz.func94 ?_;refine sx7 ?_;refine m9 0 ?_;refine m9 1 ?_;refine w_8 ?_;refine cb 2 rfl fun hn=>?_;refine w_6 ?_;refine d4 3 rfl rfl rfl ?_;refine d4 4 rfl rfl rfl ?_;refine a6 (ι:=Nat) ⟨[(2,some _),(3,some _),(4,some _),(10,some _),(11,some _)],[]⟩ ⟨⟨c9,c9,c9,c9,c9,trivial⟩,trivial⟩ (fun i=>⟨[(7,some (vA (orL (ps.take i)))),(12,some (vI i))],[]⟩) (fun i=>i <= ps.length) (fun i=>ps.length - i) (0) (bkl _) ⟨⟨zy,zy,trivial⟩,trivial⟩ ?_;rintro i hi;refine w_5 ?_;refine hcd (fun h0=>?_) (fun h0=>?_)
 · refine a42 ?_;exact lpx (i + 1) ⟨⟨⟨_,rfl,(bw (by rw [bOr,z7 bos];rfl))⟩,zy,c9,c9,c9,c9,c9,trivial⟩,trivial⟩
 obtain rfl:i = ps.length:=by omega
 refine w_5 ?_;refine qcx ai0 (aql n hn0 hn1) ?_;refine w_2 ?_;refine am rfl rfl (fun r1=>?_) (fun r1=>?_)
 ·
  have h1:=tz1 r1;(iterate 2 refine qy ?_ (hg:=(gtt r1)));refine qcx alw (b2a l ps hl) ?_ (hg:=(gtt r1));refine w_2 ?_;refine am rfl rfl (fun r2=>?_) (fun r2=>?_)
  ·
   have h2:=bp r1 r2;(iterate 2 refine qy ?_ (hg:=(gtt r2)));refine qcx aet (ar0 ps 149 2 (fun i=>[bx (.raw (.int .i64 n)),bx (fdl l)].getD i .any) (ld n l) b8j (fun p=>bdh p n l)) ?_ (hg:=(gtt r2));refine w_3 ?_
   exact hx8 rfl rfl rfl (⟨ccb (by first | exact aa9 | exact (am4 bot).symm | exact (aku bot).symm),trivial⟩)
  have h2:=bp r1 r2;(iterate 3 refine k9 (gft r2) ?_);refine rq rfl rfl rfl rfl rfl ?_ (hp:=r2);refine w_2 ?_
  exact hx8 rfl rfl rfl (⟨ccb (by first | exact aa9 | exact (am4 bot).symm | exact (aku bot).symm),trivial⟩)
 have h1:=tz2 r1;(iterate 3 refine k9 (gft r1) ?_);refine rq rfl rfl rfl rfl rfl ?_ (hp:=r1);refine qy ?_;(iterate 3 refine k9 rfl ?_);refine w_3 ?_
 exact hx8 rfl rfl rfl (⟨ccb (by first | exact aa9 | exact (am4 bot).symm | exact (aku bot).symm),trivial⟩)
end
section
section
variable {l:List Fd} {s:AS}
theorem afr (h:dm l s = true):∃ x,a6o l s = some x /\ sub x s /\ n4 l s x = true:=by
 unfold dm at h;obtain ⟨x,hx⟩:=Option.isSome_iff_exists.1 h;refine ⟨x,hx, ?_,List.find?_some hx⟩;have hm:=List.mem_of_find?_eq_some hx;unfold ax at hm;split at hm
 · cases hm
 exact ta.1 hm
theorem acg {a:AS} (h:sub a s) (hne:a ≠ s):bsz a < bsz s:=by
 rcases bn5 (af4 h) with h1 | h1
 · exact h1
 exfalso;apply hne
 have hs:(al a).Sublist (al s):=by
  have:al a = (al s).filter fun i=>a.getLsbD i:=by
   unfold al;rw [List.filter_filter];apply List.filter_congr;intro i hi;rw [bl0] at hi
   cases ha:a.getLsbD i with
   | false=>rfl
   | true=>rw [ai.1 h i hi ha];rfl
  rw [this];exact List.filter_sublist
 rw [sx,sx] at h1;have he:=hs.eq_of_length h1;refine ec h (ai.2 fun i hi hb=>?_);have:i ∈ al s:=jg.2 ⟨hi,hb⟩;rw [<- he] at this;exact (jg.1 this).2
def spA (l:List Fd) (s:AS):AS:=(ky l s).lhs ||| (ky l s).rhs
def spB (l:List Fd) (s:AS):AS:=s &&& ~~~(ky l s).rhs
theorem a6f {a b:AS}:sub (a &&& b) b:=ai.2 fun i hi h=>by rw [bkz,bkt] at h;exact h.2
theorem sq {a b:AS}:sub (a &&& b) a:=ai.2 fun i hi h=>by rw [bkz,bkt] at h;exact h.1
theorem a4w {a b c:AS} (h:sub a b) (k:sub a c):sub a (b &&& c):=ai.2 fun i hi ha=>by rw [bkz,ai.1 h i hi ha,ai.1 k i hi ha];rfl
theorem b1s (h:dm l s = true):sub (spA l s) s /\ spA l s ≠ s /\ sub (spB l s) s /\ spB l s ≠ s:=by
 obtain ⟨x,hx,hs,hv⟩:=afr h;unfold n4 at hv;rw [bkt,decide_eq_true_iff,decide_eq_true_iff] at hv;have e:ky l s = asb l s x:=by unfold ky;rw [hx]
 have hxc:sub x (clo l x &&& s):=a4w qt hs
 have ea:spA l s = clo l x &&& s:=by
  unfold spA;rw [e];apply ec
  · exact a2n hxc sq
  refine ai.2 fun i hi hb=>?_;show (x ||| ((clo l x &&& s) &&& ~~~x)).getLsbD i = true;rw [bm9,bkz,bmq,hb,decide_eq_true hi];cases x.getLsbD i <;> rfl
 refine ⟨ea ▸ a6f,ea ▸ hv.2,sq,fun eb=>hv.1 ?_⟩;unfold spB at eb;rw [e] at eb;refine ec (ai.2 fun i hi hb=>?_) hxc;have hsi:s.getLsbD i = true:=ai.1 a6f i hi hb;have h2:=congrArg (fun z:AS=>z.getLsbD i) eb
 have h3:(asb l s x).rhs.getLsbD i = !x.getLsbD i:=by
  show ((clo l x &&& s) &&& ~~~x).getLsbD i = _;rw [bkz,hb,bmq,decide_eq_true hi];rfl
 simp only [bkz,bmq,decide_eq_true hi,hsi,h3,bmt,Bool.not_not] at h2;exact h2
def aam (l:List Fd):Nat -> List AS -> List AS -> List AS
 | 0,_,out=>out
 | n + 1,todo,out =>
  if todo.length = 0 then out
  else if dm l (todo.getD (todo.length - 1) default) = true then aam l n (todo.take (todo.length - 1) ++ [spA l (todo.getD (todo.length - 1) default),spB l (todo.getD (todo.length - 1) default)]) out
  else aam l n (todo.take (todo.length - 1)) (out ++ [todo.getD (todo.length - 1) default])
def asa (n:Int) (l:List Fd):List AS:=aam l 6562 [aa n] []
def ail (n:Int) (l:List Fd):List AS:=if gp n l 8 = 0 then iz (asa n l) else []
variable {n:Int}
theorem bb6 (h:gp n l 8 = 0):ail n l = iz (asa n l):=if_pos h
theorem bdj (h:¬ gp n l 8 = 0):ail n l = []:=if_neg h
def qi (todo:List AS):Nat:=(todo.map fun s=>3 ^ bsz s).sum
theorem a95 (a b:List AS):qi (a ++ b) = qi a + qi b:=by unfold qi;rw [bmw,List.sum_append]
theorem akr:∀ todo:List AS,todo.length <= qi todo
 | []=>bkl _
 | s :: t=>by
  have h1:=akr t;have h2:0 < 3 ^ bsz s:=Nat.pow_pos bos;have e:qi (s :: t) = 3 ^ bsz s + qi t:=by unfold qi;rw [bm4,List.sum_cons]
  rw [blf,e];omega
theorem af6 {todo:List AS} (h:0 < todo.length):todo = todo.take (todo.length - 1) ++ [todo.getD (todo.length - 1) default]:=by
 have:=ay (l:=todo) (q:=todo.length - 1) bos;rw [show todo.length - 1 + 1 = todo.length by omega,bks] at this;exact this
def a5a (n:Int) (l:List Fd) (x:Nat × List AS × List AS):Prop:=aam l x.1 x.2.1 x.2.2 = asa n l /\ qi x.2.1 < x.1 /\ x.2.2.length + x.1 <= 6562
variable {k:Nat}
theorem auv (h:k <= 32):bsz (jw k) <= k:=by
 unfold bsz
 have e:(List.range 32).countP (fun i=>(jw k).getLsbD i) = (List.range 32).countP fun i=>decide (i < k):=by
  apply List.countP_congr;intro i hi;rw [bl0] at hi;rw [p9 k i hi]
 have h2:∀ m,(List.range m).countP (fun i=>decide (i < k)) <= k /\ (List.range m).countP (fun i=>decide (i < k)) <= m:=by
  intro m
  induction m with
  | zero=>simp
  | succ m ih =>
   rw [bmg,boh];simp only [bn8,List.countP_nil];by_cases hm:m < k
   · rw [if_pos (decide_eq_true hm)];omega
   rw [if_neg (by simpa using hm)];omega
 rw [e];exact (h2 32).1
theorem aie {m:Nat} (h:n <= m) (hm:m <= 32):bsz (aa n) <= m:=by
 unfold aa;exact bky (auv (Nat.min_le_right _ _)) bos
theorem ay3 (h:gp n l 8 = 0):a5a n l (6562,[aa n],[]):=by
 refine ⟨rfl, ?_,bko _⟩;show 3 ^ bsz (aa n) + 0 < 6562;have h1:=aie (n:=n) (m:=8) (a7l h).2 bos;have h2:3 ^ bsz (aa n) <= 3 ^ 8:=bn7 bos h1;have h3:3 ^ 8 = 6561:=rfl;omega
variable {x:Nat × List AS × List AS}
theorem a85 (h:a5a n l x):x.2.1.length < 6562 /\ x.2.2.length <= 6562 /\ 0 < x.1:=by
 have:=akr x.2.1;obtain ⟨h1,h2,h3⟩:=h;omega
theorem b6o (h:a5a n l x) (h0:x.2.1.length = 0):x.2.2 = asa n l:=by
 have hp:=(a85 h).2.2;obtain ⟨h1,h2,h3⟩:=h;obtain ⟨m,hm⟩:∃ m,x.1 = m + 1:=⟨x.1 - 1,by omega⟩;rw [hm] at h1;unfold aam at h1;rw [if_pos h0] at h1;exact h1
theorem b2h (h:a5a n l x) (h0:0 < x.2.1.length) (hv:dm l (x.2.1.getD (x.2.1.length - 1) default) = true):
 a5a n l (x.1 - 1,x.2.1.take (x.2.1.length - 1) ++ [spA l (x.2.1.getD (x.2.1.length - 1) default),spB l (x.2.1.getD (x.2.1.length - 1) default)],x.2.2):=by
 have hp:=(a85 h).2.2;obtain ⟨h1,h2,h3⟩:=h;obtain ⟨m,hm⟩:∃ m,x.1 = m + 1:=⟨x.1 - 1,by omega⟩;rw [hm] at h1;unfold aam at h1;rw [if_neg bos,if_pos hv] at h1;refine ⟨by rw [hm];exact h1, ?_,by dsimp only;omega⟩;have e:=a95 (x.2.1.take (x.2.1.length - 1)) [x.2.1.getD (x.2.1.length - 1) default];rw [<- af6 h0] at e;have e1:qi [x.2.1.getD (x.2.1.length - 1) default] = 3 ^ bsz (x.2.1.getD (x.2.1.length - 1) default):=by simp [qi]
 generalize x.2.1.getD (x.2.1.length - 1) default = s at *;dsimp only;rw [a95];have e2:qi [spA l s,spB l s] = 3 ^ bsz (spA l s) + 3 ^ bsz (spB l s):=by simp [qi]
 obtain ⟨f1,f2,f3,f4⟩:=b1s hv;have g1:=acg f1 f2;have g2:=acg f3 f4;obtain ⟨b,hb⟩:∃ b,bsz s = b + 1:=⟨bsz s - 1,by omega⟩;have p1:3 ^ bsz (spA l s) <= 3 ^ b:=bn7 bos bos;have p2:3 ^ bsz (spB l s) <= 3 ^ b:=bn7 bos bos;have p3:3 ^ bsz s = 3 ^ b * 3:=by rw [hb,Nat.pow_succ]
 have p4:0 < 3 ^ b:=Nat.pow_pos bos;omega
theorem b33 (h:a5a n l x) (h0:0 < x.2.1.length) (hv:dm l (x.2.1.getD (x.2.1.length - 1) default) = false):
 a5a n l (x.1 - 1,x.2.1.take (x.2.1.length - 1),x.2.2 ++ [x.2.1.getD (x.2.1.length - 1) default]):=by
 have hp:=(a85 h).2.2;obtain ⟨h1,h2,h3⟩:=h;obtain ⟨m,hm⟩:∃ m,x.1 = m + 1:=⟨x.1 - 1,by omega⟩;rw [hm] at h1;unfold aam at h1;rw [if_neg bos,if_neg (by rw [hv];decide)] at h1;refine ⟨by rw [hm];exact h1, ?_,by dsimp only;rw [bkq,bm7];omega⟩;have e:=a95 (x.2.1.take (x.2.1.length - 1)) [x.2.1.getD (x.2.1.length - 1) default];rw [<- af6 h0] at e;have e1:qi [x.2.1.getD (x.2.1.length - 1) default] = 3 ^ bsz (x.2.1.getD (x.2.1.length - 1) default):=by simp [qi]
 have p4:0 < 3 ^ bsz (x.2.1.getD (x.2.1.length - 1) default):=Nat.pow_pos bos;dsimp only;omega
theorem ap3 {α:Type} [Inhabited α] {wr wr':Bool} {n m:Nat} {e:TypeId} {c:α -> Nat -> PV} {l:List α} {x y:α} {f g:Nat -> Nat -> PV} (hn:n = l.length) (hf:∀ i,i < l.length -> CoP (f i 0) (lf c l i 0)) (h0:CoP (g 0 0) (c x 0)) (h1:CoP (g 1 0) (c y 0)) (hm:m = n + 2) (hw:wr' = true -> wr = true:=by exact fun h=>h) :
 CoO (.arr wr 1 e m (fh n f g)) (.arr wr' 1 e (l ++ [x,y]).length (lf c (l ++ [x,y]))):=by
 subst hn hm;refine ⟨hw,rfl,rfl,by simp,fun i j hi hj=>?_⟩;obtain rfl:j = 0:=by omega
 unfold fh;by_cases h:i < l.length
 · rw [if_pos h]
   have:=hf i h;simp only [lf,List.getD,bmd h] at this ⊢;exact this
 rw [if_neg h]
 rcases (by omega:i = l.length \/ i = l.length + 1) with rfl | rfl
 · rw [Nat.sub_self]
   simp only [lf,List.getD];rw [bmb (bko _),Nat.sub_self];exact h0
 rw [show l.length + 1 - l.length = 1 by omega];simp only [lf,List.getD];rw [bmb bos,show l.length + 1 - l.length = 1 by omega];exact h1
theorem alq {α:Type} [Inhabited α] {wr wr':Bool} {m:Nat} {e:TypeId} {c:α -> Nat -> PV} {l:List α} (hk:k <= l.length) (hm:m = k) (hw:wr' = true -> wr = true:=by exact fun h=>h):CoO (.arr wr 1 e m (lf c l)) (.arr wr' 1 e (l.take k).length (lf c (l.take k))):=by
 subst hm;refine ⟨hw,rfl,rfl,by rw [bku,bmn hk],fun i j hi hj=>CoP.of_eq ?_⟩;simp only [lf,List.getD,blp,if_pos hi]
theorem b37:PV.raw (.int .u32 (aw .or .u32 (asI (ky l s).lhs) (asI (ky l s).rhs))) = sC (spA l s) 0:=congrArg (fun z=>PV.raw (.int .u32 z)) (bOr _ _)
theorem b31 {t:List AS} {i j:Nat} (h:i = j):PV.raw (.int .u32 (aw .andNot .u32 (asI (t.getD i default)) (asI (ky l (t.getD j default)).rhs))) = sC (spB l (t.getD j default)) 0:=by
 subst h;exact congrArg (fun z=>PV.raw (.int .u32 z)) (go _ _)
theorem alk {l:List AS} {i:Nat} (hi:i < (l.take k).length):lf sC l i 0 = lf sC (l.take k) i 0:=by
 rw [bku] at hi;simp only [lf,List.getD,blp,if_pos (show i < k by omega)]
theorem ant {ps:List AS} (hk:idx (fun x=>decide (x = s)) ps = k) (h:vz n l (ps.eraseIdx k) = true):vr n l ps s = ps.eraseIdx k:=by
 unfold vr;rw [hk,bkw,if_pos h]
theorem anl {ps:List AS} (hk:idx (fun x=>decide (x = s)) ps = k) (h:vz n l (ps.eraseIdx k) = false):vr n l ps s = ps:=by
 unfold vr;rw [hk,bkw,if_neg (by rw [h];decide)]
end
end
section
open Go.Proofs
theorem bcf:goodFn Tryz.prog 33:=wgx Tryz.func33
theorem bp4 {p:Prop} (h:p:=by simp only [ek,be,bkq,blf,bms,bku];omega):p:=h
theorem bi3 (n:Int) (l:List Fd):a7 Tryz.prog 33 [pI n,pP (fdl l)] (ae [pP (asl (ail n l)),pI (gp n l 8)]):=by
 refine hpx (nt:=60) Tryz.func33 ?_;refine ce ?_;refine qcx awl (bdm n l) ?_;refine w_7 ?_;refine hcn (fun h0=>?_) (fun h0=>?_)
 · refine w_6 ?_;exact hx8 rfl rfl rfl (⟨CoC.one (a3q (bdj h0)),CoC.refl _,trivial⟩)
 refine w_2 ?_;have hv:=gc (a7l h0).1;refine w_7 ?_;refine qcx ai0 (aql n hv.1 hv.2.1) ?_;refine m9 0 ?_;refine w_3 ?_;refine cj 7 900 true 1 46 (lf sC []) boz rfl (CoP.sl rfl (.inr rfl) (fun h=>h) (fun i j hi _=>absurd hi (bkp i))) (.inr rfl) rfl ?_;refine wv 8 901 rfl rfl rfl rfl ?_;refine a6 (ι:=Nat × List AS × List AS) ⟨[(1,some _)],[]⟩ ⟨⟨c9,trivial⟩,trivial⟩ (fun x=>⟨[(7,some (.v (.one (.ref 900 x.2.2.length)))),(8,some (.v (.one (.ref 901 x.2.1.length))))],[(900,some (.arr true 1 46 x.2.2.length (lf sC x.2.2))),(901,some (.arr true 1 46 x.2.1.length (lf sC x.2.1)))]⟩) (fun x=>a5a n l x) (fun x=>x.1) ((6562,[aa n],[])) (ay3 h0) ⟨⟨zy,zy,trivial⟩,⟨u9,⟨_,rfl,(yp (CoP.refl _))⟩,trivial⟩⟩ ?_;rintro x hx;have hlen:=a85 hx;refine wv 8 902 rfl rfl rfl rfl ?_;refine w_7 ?_;refine hcd (fun h1=>?_) (fun h1=>?_)
 ·
  refine a69 ?_;refine yg ⟨[(1,some _),(7,some _),(8,some _),(9,some _)],[(900,some _),(902,some _)]⟩ (by exact ⟨⟨c9,c9,c9,c9,trivial⟩,⟨u9,u9,trivial⟩⟩) ?_;refine am5 8 901 rfl rfl rfl rfl (by simp only [ek,be,bkw];omega) rfl ?_;refine w_4 ?_;refine rc rfl rfl rfl rfl rfl rfl aho (as6 l (x.2.1.getD (x.2.1.length - 1) default)) (⟨CoC.refl _,CoC.one (CoP.of_eq (congrArg (fun i=>asC (x.2.1.getD i default)) bos)),trivial⟩) rfl rfl ?_;refine w_3 ?_;refine m9 1 ?_;refine w_7 ?_;refine hcb (fun h2=>?_) (fun h2=>?_)
  ·
   refine cu ?_;refine m9 2 ?_;refine r9 3 true ?_;refine w_2 ?_
   first | (refine ⟨(x.1 - 1, (x.2.1.take (x.2.1.length - 1)) ++ [spA l (x.2.1.getD (x.2.1.length - 1) default), spB l (x.2.1.getD (x.2.1.length - 1) default)], x.2.2), ?_, ?_, ?_⟩
            · exact b2h hx bos bot
            · dsimp only
              omega
            exact ⟨⟨zy,⟨_,rfl,(kn bp4)⟩,c9,trivial⟩,⟨u9,⟨_,rfl,(ap3 bp4 (fun i hi=>CoP.of_eq (alk hi)) (CoP.of_eq b37) (CoP.of_eq (b31 bos)) rfl)⟩,trivial⟩⟩)
         | (refine ⟨(x.1 - 1,(x.2.1.take (x.2.1.length - 1)),x.2.2 ++ [(x.2.1.getD (x.2.1.length - 1) default)]), ?_, ?_, ?_⟩
            · exact b33 hx bos bot
            · dsimp only
              omega
            exact ⟨⟨⟨_,rfl,(c7 rfl)⟩,⟨_,rfl,(kn bp4)⟩,c9,trivial⟩,⟨⟨_,rfl,(bz rfl (CoP.of_eq (congrArg (fun i=>asC (x.2.1.getD i default)) bos)))⟩,⟨_,rfl,(alq bos (by simp only [ek,be];omega))⟩,trivial⟩⟩)
  refine w_3 ?_;refine m9 4 ?_;refine r9 5 true ?_;refine w_2 ?_
  first | (refine ⟨(x.1 - 1, (x.2.1.take (x.2.1.length - 1)) ++ [spA l (x.2.1.getD (x.2.1.length - 1) default), spB l (x.2.1.getD (x.2.1.length - 1) default)], x.2.2), ?_, ?_, ?_⟩
           · exact b2h hx bos bot
           · dsimp only
             omega
           exact ⟨⟨zy,⟨_,rfl,(kn bp4)⟩,c9,trivial⟩,⟨u9,⟨_,rfl,(ap3 bp4 (fun i hi=>CoP.of_eq (alk hi)) (CoP.of_eq b37) (CoP.of_eq (b31 bos)) rfl)⟩,trivial⟩⟩)
        | (refine ⟨(x.1 - 1,(x.2.1.take (x.2.1.length - 1)),x.2.2 ++ [(x.2.1.getD (x.2.1.length - 1) default)]), ?_, ?_, ?_⟩
           · exact b33 hx bos bot
           · dsimp only
             omega
           exact ⟨⟨⟨_,rfl,(c7 rfl)⟩,⟨_,rfl,(kn bp4)⟩,c9,trivial⟩,⟨⟨_,rfl,(bz rfl (CoP.of_eq (congrArg (fun i=>asC (x.2.1.getD i default)) bos)))⟩,⟨_,rfl,(alq bos (by simp only [ek,be];omega))⟩,trivial⟩⟩)
 refine w_2 ?_;refine av 7 rfl rfl rfl ?_;have hx0:x.2.1.length = 0:=by omega
 refine w_2 ?_;refine qcx ai9 (a9t x.2.2 bos) ?_;refine w_3 ?_;exact hx8 rfl rfl rfl (⟨CoC.one (CoP.of_eq (by rw [bb6 h0,b6o hx hx0])),cci h0.symm,trivial⟩)
theorem bbx:goodFn Tryz.prog 42:=wgx Tryz.func42
theorem bga (n:Int) (l:List Fd):a7 Tryz.prog 42 [pI n,pP (fdl l)] (ae [pP (asl (a0d n l)),pB (vu n l),pI (gp n l 8)]):=by
 refine hpx (nt:=49) Tryz.func42 ?_;refine sx7 ?_;refine m9 0 ?_;refine m9 1 ?_;refine w_8 ?_;refine qcx bbe (bae n l) ?_;refine ef ?_;refine hcn (fun h0=>?_) (fun h0=>?_)
 · refine w_8 ?_;refine ⟨.inr rfl, ?_⟩;have he:=bda h0;exact f9 rfl rfl (⟨CoC.one (a3q he.1),ccb he.2.symm,CoC.refl _,trivial⟩)
 refine w_3 ?_;have hv:=gc (a7l h0).1;have hsl:=b02 n l;have hml:=b13 (i9 n l);refine w_3 ?_;refine qcx alw (b2a l (i9 n l) bos) ?_;refine w_2 ?_;refine hcv (fun h1=>?_) (fun h1=>?_)
 · refine w_7 ?_;refine ⟨.inr rfl, ?_⟩;have he:=bc4 (n:=n) (l:=l) bot;exact f9 rfl rfl (⟨CoC.one (a3q he.1),ccb he.2.symm,cci h0.symm,trivial⟩)
 refine w_4 ?_;refine qcx ai9 (a9t (i9 n l) bos) ?_;refine m9 2 ?_;refine w_4 ?_;refine d4 2 rfl rfl rfl ?_;refine d4 3 rfl rfl rfl ?_;refine w_2 ?_;refine qcx wn (a3s (iz (i9 n l)).length false (lf sC (iz (i9 n l))) bos) ?_;refine qcx bc8 (c74 (iz (i9 n l)).length false (lf sC (iz (i9 n l)))) ?_;refine w_2 ?_;refine b0j (ι:=List AS) (swp 2 1000) (apm 2 1000) rfl b8a (bge (iz (i9 n l)).length false (lf sC (iz (i9 n l))) bos) [(2,some (bn (bx (.raw (.int .i64 n))))),(3,some (bn (bx (fdl l)))),(9,some (.v (.one (.ptr 2 0))))] (fun ps=>[(2, .box [.p (asl ps)])]) (fun i ps=>ahi n l (iz (i9 n l)) i ps) ((iz (i9 n l))) (ax5 n l (iz (i9 n l))) ⟨⟨c9,c9,c9,trivial⟩,⟨u9,trivial⟩⟩ [2] (fun _ _=>rfl) rfl rfl ?_ ?_
 · rintro lp i ps hi hI
   have hpl:=hI.2.1;refine w_3 ?_;refine ⟨rfl, ?_⟩;refine w_5 ?_;refine qcx beb (bia ps ((iz (i9 n l)).getD ((iz (i9 n l)).length - 1 - i) default)) ?_;refine w_3 ?_;obtain ⟨k,hk1,hk2,hk3⟩:=aan (hI.2.2 ((iz (i9 n l)).length - 1 - i) bos);refine w_2 ?_;refine fc9 wn (a1e ps.length false (lf sC ps) bos) trivial ?_;refine w_3 ?_;refine gi rfl rfl rfl rfl rfl rfl bcw ((b6e ps k hk2).swap 900 0) (⟨rfl,CoP.of_eq (by rw [hk1]),CoP.of_eq (by rw [hk1]),trivial⟩) ⟨u9,trivial⟩ rfl rfl ?_;refine w_7 ?_;refine qcx ba9 (bgw n l (ps.eraseIdx k) hv.1 hv.2.1 bos) ?_;refine aq ?_;refine hcb (fun h2=>?_) (fun h2=>?_)
   ·
    refine w_4 ?_;refine ⟨rfl,vr n l ps ((iz (i9 n l)).getD ((iz (i9 n l)).length - 1 - i) default), ?_, ?_⟩
    · exact afs (ack _) hI hi
    exact ⟨⟨_,rfl,(by first | exact ⟨CoP.of_eq (by rw [ant hk1 bot]),trivial⟩ | exact ⟨CoP.of_eq (by rw [anl hk1 bot]),trivial⟩)⟩,trivial⟩
   refine d7 ?_;refine ⟨rfl,vr n l ps ((iz (i9 n l)).getD ((iz (i9 n l)).length - 1 - i) default), ?_, ?_⟩
   · exact afs (ack _) hI hi
   exact ⟨⟨_,rfl,(by first | exact ⟨CoP.of_eq (by rw [ant hk1 bot]),trivial⟩ | exact ⟨CoP.of_eq (by rw [anl hk1 bot]),trivial⟩)⟩,trivial⟩
 rintro ps hI;refine w_8 ?_;refine ⟨.inr rfl, ?_⟩;have he:=bec h0 bot;exact f9 rfl rfl (⟨CoC.one (CoP.of_eq (by rw [he.1,<- hI.1])),ccb he.2.symm,cci h0.symm,trivial⟩)
end
section
open Go.Proofs
def bjc:List Fd:=[⟨1,2⟩,⟨2,4⟩]
def bjp:List Fd:=[⟨3,4⟩,⟨4,1⟩]
theorem b0d {α:Type} [Inhabited α] {wr wr':Bool} {e:TypeId} {c:α -> Nat -> PV} {x y:α} {f:Nat -> Nat -> PV} (h0:CoP (f 0 0) (c x 0)) (h1:CoP (f 1 0) (c y 0)) (hw:wr' = true -> wr = true:=by exact fun h=>h):CoO (.arr wr 1 e 2 f) (.arr wr' 1 e 2 (lf c [x,y])) :=
 ⟨hw,rfl,rfl,rfl,fun i j hi hj=>by
  have hi:i < 2:=hi;have hj:j < 1:=hj;obtain rfl:j = 0:=by omega
  rcases (by omega:i = 0 \/ i = 1) with rfl | rfl
  · exact h0
  exact h1⟩
end
section
open Go.Proofs
def w1 (l:List Fd) (p:AS):Int:=if bj 16 l = 0 /\ (8:Int) < bsz p then 3 else bj 16 l
section
variable {l:List Fd} {p:AS}
end
section
variable {n:Int} {l:List Fd}
end
end
section
open Go.RowKit Go.ChangeShapes Go.WideShapes Go.ChangeAt
def Rd (P:Program) (t:TypeId) (n:Nat) {α:Type} (c:α -> Nat -> PV):Prop :=
 ∀ (H:Type) (enc:TypeId × Value -> H) (w:World) (sp:Nat -> Bool) (held:Bool) (fuel:Nat) (cs:List Value) (x:DataW H × List MemPlace),DataW.trod enc P w 0 sp held fuel t cs = some x ->
  cs.length = n /\ ∃ a:α,∀ j,j < n -> ∃ v,cs[j]? = some v /\ b5 (gq w) (c a j) v
section
variable {P:Program} {t e:TypeId}
def bkc (k:IntKind) (z:Int):Nat -> PV:=fun _=>.raw (.int k z)
def bjr (b:Bool):Nat -> PV:=fun _=>.raw (.bool b)
def bjo (s:ByteArray):Nat -> PV:=fun _=>.raw (.string s)
def u8P (u:UInt8):Nat -> PV:=fun _=>.raw (.int .u8 (u.toNat:Int))
theorem bgv (ht:P.underlying t = some (.int .u8)):Rd P t 1 u8P:=by
 intro H enc w sp held fuel cs x h;obtain ⟨n,rfl,_,hw⟩:=DataW.trod_int ht h;have hx:0 <= n /\ n <= 255:=by simpa [Lit.wf,IntKind.min,IntKind.max,IntKind.signed,IntKind.bits] using hw
 refine ⟨rfl,UInt8.ofNat n.toNat,fun j hj=>?_⟩;obtain rfl:j = 0:=by omega
 refine ⟨_,rfl, ?_,rfl⟩
 have:(UInt8.ofNat n.toNat).toNat = n.toNat:=by
  rw [UInt8.toNat_ofNat'];omega
 rw [this];congr 1;omega
theorem Rd.co {n:Nat} {α β:Type} {c:α -> Nat -> PV} {c':β -> Nat -> PV} (h:Rd P t n c) (f:α -> β) (hc:∀ a j,j < n -> CoP (c a j) (c' (f a) j)):Rd P t n c':=by
 intro H enc w sp held fuel cs x hx;obtain ⟨h1,a,h2⟩:=h _ enc w sp held fuel cs x hx;refine ⟨h1,f a,fun j hj=>?_⟩;obtain ⟨v,h3,h4⟩:=h2 j hj;exact ⟨v,h3,hc a j hj _ _ h4⟩
def b0b {α:Type} [Inhabited α] (s:Nat) (c:α -> Nat -> PV) (l:List α):Nat -> PV:=fun _=>psl s c l
end
theorem agt {W W':World} (hb:Below W.heap.size W W') (may:MemPlace -> Prop):W.keptBut W' may:=by
 refine ⟨hb.os,hb.output,fun i hi=>?_⟩;rw [hb.block i hi]
 cases W.heap[i]? with
 | none=>exact rfl
 | some o=>cases o <;> first | exact ⟨rfl,rfl,rfl,fun _ _=>rfl⟩ | exact .inr ⟨rfl,rfl⟩ | exact rfl
theorem agz {W W':World} (hb:Below W.heap.size W W') (p:MemPlace) (hp:p.block < W.heap.size):W.sameAt W' p:=by
 cases p with
 | cell b off=>show W'.cell? _ = W.cell? _;unfold World.cell?;rw [hb.block b hp]
 | map b=>exact hb.block b hp
section
variable {H:Type} {enc:TypeId × Value -> H} {P:Program}
theorem a4k (hl:laidOutB P = true) {W W':World} {sp':Nat -> Bool}:∀ {ts:List TypeId} {vs:List Value} {ds:List (DataW H)} {ps:List MemPlace},(∀ t ∈ ts,P.readableRec t = true /\ t < P.types.size) -> DataW.TrodAll enc P W 0 (fun _=>true) true ts vs ds ps ->
 (∀ p ∈ ps,W.sameAt W' p) -> (∀ p ∈ ps,sp' p.block = true) -> DataW.TrodAll enc P W' 0 sp' true ts vs ds ps
 | [],[],[],ps,_,h,_,_=>h
 | t :: ts,v :: vs,d :: ds,ps,ht,⟨p,q,h1,h2,e⟩,hs,hsp=>by
  subst e;refine ⟨p,q,WideElems.Trod_stays hl (ht t bow).1 (ht t bow).2 h1 (fun z hz=>hs z (by simp [hz])) (fun z hz=>hsp z (by simp [hz])), ?_,rfl⟩;exact a4k hl (fun t ht'=>ht t (by simp [ht'])) h2 (fun z hz=>hs z (by simp [hz])) (fun z hz=>hsp z (by simp [hz]))
 | [],_ :: _,_,_,_,h,_,_=>h.elim
 | [],[],_ :: _,_,_,h,_,_=>h.elim
 | _ :: _,[],_,_,_,h,_,_=>h.elim
 | _ :: _,_ :: _,[],_,_,h,_,_=>h.elim
theorem ayr {f:Func} {s:ChangeSpec} {W W':World} {args:Array Value} {ds:List (DataW H)} {before:List MemPlace} {tb:TypeId} (hl:laidOutB P = true) (hpar:∀ t ∈ f.params.toList,P.readableRec t = true /\ t < P.types.size)
 (hres:f.resultTypes = #[tb]) (htb:P.underlying tb = some .bool) (hv:s.vars = []) (hfn:s.fn H ds = { results:=[.lit (.bool true)],args:=ds })
 (hW:DataW.Whole enc P f.params.toList s.vars false W args.toList ds [] before) (hb:Below W.heap.size W W'):s.post enc P f false true false false W args (.bool true) W':=by
 have hW':=hW;have hlt:∀ p ∈ before,p.block < W.heap.size:=fun p hp=>hW.lt p hp;obtain ⟨p,q,hA,hV,rfl,hfz,hnd⟩:=hW;rw [hv] at hV;obtain ⟨_,rfl⟩:=trodVars_none hV;have hfn':s.fn H (ds ++ []) = { results:=[.lit (.bool true)],args:=ds }:=by rw [blq];exact hfn
 have hargs:∀ sp:Nat -> Bool,(∀ z ∈ p ++ [],sp z.block = true) -> DataW.TrodAll enc P W' 0 sp true f.params.toList args.toList (s.fn H (ds ++ [])).args p:=fun sp hsp=>by
  rw [hfn'];exact a4k hl hpar hA (fun z hz=>agz hb z (hlt z (by simpa using hz))) (fun z hz=>hsp z (by simpa using hz))
 have hrs:∀ (b:Nat) (sp:Nat -> Bool) (hd:Bool),DataW.TrodAll enc P W' b sp hd f.resultTypes.toList ((Value.bool true).resultList f.resultTypes.size) (s.fn H (ds ++ [])).results []:=fun b sp hd=>by
  rw [hfn',hres];exact trodAll_cons_mk (shut_bool htb _) trodAll_mk0
 have hok:∀ (j:Nat) (t:TypeId) (r:Value),f.resultTypes[j]? = some t -> ((Value.bool true).resultList f.resultTypes.size)[j]? = some r -> Value.okWide P W' .any 0 t r:=ok_one hres rfl (okWide_bool_mk htb _)
 have hvars:∀ sp:Nat -> Bool,(∀ z ∈ p ++ [],sp z.block = true) -> DataW.TrodVars enc P W' sp s.vars (s.fn H (ds ++ [])).vars []:=fun sp _=>by
  rw [hfn',hv];exact rfl
 have hold:∀ z ∈ p ++ [],(fun b=>decide (b < W.heap.size)) z.block = true:=fun z hz=>by simpa using hlt z hz
 refine ⟨ds,[],p ++ [],[],p,[],hW',hrs _ _ _,hargs _ hold,hvars _ hold,World.keptBut_mono (fun z hz=>⟨hz, ?_⟩) (agt hb (· ∈ p ++ [])),fun _=>?_⟩
 · exact Or.inr (by simpa using hz)
 refine ⟨hok,_,_,([] ++ p) ++ [],⟨[] ++ p,[],trodAll_append (hargs _ (fun _ _=>rfl)) (hrs _ _ _),hvars _ (fun _ _=>rfl),rfl, ?_, ?_⟩, ?_⟩
 · intro b off hp
   have hp':MemPlace.cell b off ∈ p ++ []:=by simpa using hp
   have:=hfz b off hp';unfold World.frozen? at this ⊢;rw [hb.block b (hlt _ hp')];exact this
 · intro ha;cases ha
 intro z hz _;simpa using hz
end
theorem aun {P:Program} {f:FuncId} {args:List PC} {us:List Value} {W:World} {R:Ending -> World -> Prop} (ht:rh (gq W)) (h:a7 P f args (ae [.one (.raw (.bool true))])) (hr:cr (gq W) args us) (hR:∀ W',Below W.heap.size W W' -> R (.returned (.bool true)) W'):Calls P f us.toArray W R:=by
 refine (h W (gq W) us ht (fun _ _ hh=>hh) hr).mono ?_;rintro e w' ⟨v,imm',rfl,hv,_,_,hb⟩;obtain ⟨rfl,_⟩:=hv;exact hR w' hb
end
end Go.Hx
