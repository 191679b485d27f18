/- A part of the proof: V16 Cs19 V17 Hx20. -/
import Derived.Test.YtkkenjdfbojdlaaGreatDoorEx16
import Derived.Test.YtkkenjdfbojdlaaGreatDoorEx21
set_option linter.all false
section
namespace Go.Hx
open Go.Proofs
set_option maxRecDepth 100000
theorem b5e:goodFn Tryz.prog 157:=⟨Tryz.f157,Tryz.func157,by kernel_rfl,by kernel_rfl⟩
theorem bd1 (l:List Fd) (p:AS):ae Tryz.prog 157 [pP (fdl l),pA p] (ai [(zh l p).pc,pB (re l p),pI (o8 l p)]):=by
 refine a8 (nt:=32) a7 Tryz.func157 rfl rfl l9 ?_;refine sx7 ?_;refine m9 0 ?_;refine w_7 ?_;refine rc rfl rfl rfl rfl rfl rfl qg (vh 16 l) (CoL.refl _) rfl rfl ?_;refine w_7 ?_
 refine a6 _ rfl (fun r0=>?_) (fun r0=>?_)
 ·
  have h0:=r0
  have h0:=of_decide_eq_false (ap h0)
  try simp only [ty] at h0
  refine w_9 ?_;refine ⟨.inr rfl, ?_⟩
  have he:=b5x (p:=p) h0
  exact f9 rfl rfl (⟨abv he.2.1,ccb he.2.2.symm,cci he.1.symm,trivial⟩)
 have h0:=r0
 have h0:=of_decide_eq_true (am h0)
 try simp only [ty] at h0
 refine w_5 ?_;refine rc rfl rfl rfl rfl rfl rfl tv (a3k p) (CoL.refl _) rfl rfl ?_;refine w_2 ?_;refine a6 _ rfl (fun r1=>?_) (fun r1=>?_)
 ·
  have h1:=of_decide_eq_true r1
  try simp only [ty] at h1
  refine w_8 ?_;refine ⟨.inr rfl, ?_⟩
  have he:=b6q h0 h1
  exact f9 rfl rfl (⟨abv he.2.1,ccb he.2.2.symm,cci he.1.symm,trivial⟩)
 have h1:=of_decide_eq_false r1
 try simp only [ty] at h1
 refine w_8 ?_;refine a6 _ rfl (fun r2=>?_) (fun r2=>?_)
 ·
  have h2:=r2
  have h2:=of_decide_eq_false (ap h2)
  try simp only [ty] at h2
  refine w_8 ?_;refine ⟨.inr rfl, ?_⟩
  have he:=b8t h0 h1 h2
  exact f9 rfl rfl (⟨abv he.2.1,ccb he.2.2.symm,cci he.1.symm,trivial⟩)
 have h2:=r2
 have h2:=of_decide_eq_true (am h2)
 try simp only [ty] at h2
 refine w_5 ?_;refine rc rfl rfl rfl rfl rfl rfl adb (aj0 l p) (CoL.refl _) rfl rfl ?_;refine w_3 ?_;refine m9 1 ?_;refine fl ?_;refine ⟨.inr rfl, ?_⟩
 have he:=b63 h0 h1 h2
 exact f9 rfl rfl (⟨bbn he.2.1.symm,ccb he.2.2.symm,cci he.1.symm,trivial⟩)
theorem b45:goodFn Tryz.prog 146:=⟨Tryz.f146,Tryz.func146,by kernel_rfl,by kernel_rfl⟩
theorem b4u (s:AS) (l:List Fd):ae Tryz.prog 146 [pA s,pP (bx (fdl l))] (ai [pB (gr l s)]):=by
 refine a8 (nt:=13) a7 Tryz.func146 rfl rfl l9 ?_;refine w_8 ?_;refine rc rfl rfl rfl rfl rfl rfl adb (aj0 l s) (CoL.refl _) rfl rfl ?_;refine w_3 ?_;refine m9 0 ?_;refine w_8 ?_
 exact hx8 rfl rfl rfl (CoL.refl _)
theorem b8w:goodFn Tryz.prog 89:=⟨Tryz.f89,Tryz.func89,by kernel_rfl,by kernel_rfl⟩
theorem b97 (n:Int) (l:List Fd):ae Tryz.prog 89 [pI n,pP (fdl l)] (ai [pP (asl (gd n l)),pI (fh n l 8)]):=by
 refine a8 (nt:=18) a7 Tryz.func89 rfl rfl l9 ?_;refine sx7 ?_;refine m9 2 ?_;refine w_8 ?_;refine rc rfl rfl rfl rfl rfl rfl aoa (b8x n l) (CoL.refl _) rfl rfl ?_;refine w_7 ?_
 refine a6 _ rfl (fun r0=>?_) (fun r0=>?_)
 ·
  have h0:=r0
  have h0:=of_decide_eq_false (ap h0)
  try simp only [ty] at h0
  refine w_6 ?_
  exact hx8 rfl rfl rfl (⟨CoC.one (a0k (b8m h0)),CoC.refl _,trivial⟩)
 have h0:=r0
 have h0:=of_decide_eq_true (am h0)
 try simp only [ty] at h0
 refine w_2 ?_
 have hv:=fq (a2x h0).1
 refine cg 3 rfl rfl rfl ?_;refine w_2 ?_;refine rc rfl rfl rfl rfl rfl rfl ac8 (ak5 n hv.1 hv.2.1) (CoL.refl _) rfl rfl ?_
 refine b5 rfl rfl rfl rfl rfl rfl a2o (amt (ar n)) (cn.refl _) trivial rfl rfl ?_;refine qy ?_
 refine b5 rfl rfl rfl rfl rfl rfl a9q ((ajh (bi (ar n)) 146 1 (fun i=>[bx (fdl l)].getD i .any) (gr l) b45 (fun s=>b4u s l)).swap 900 901) (cn.refl _) ⟨u9,trivial⟩ rfl rfl ?_;refine w_3 ?_
 exact hx8 rfl rfl rfl (⟨CoC.one (CoP.of_eq (by rw [b6u h0])),cci h0.symm,trivial⟩)
end Go.Hx
end
section
namespace Go.Hx
def tq (l:List Fd) (p z:AS):AS:=(p &&& clo l (z &&& p)) &&& ~~~z
def jv (l:List Fd) (z p:AS):Bool:=decide (tq l p z ≠ 0)
def a8b (l:List Fd) (ps:List AS):Nat → AS → AS
 | 0,z=>z
 | n + 1,z=>match ps.find? (jv l z) with
  | none=>z
  | some p=>a8b l ps n (z ||| tq l p z)
def a4p (l:List Fd) (ps:List AS) (z:AS):AS:=a8b l ps 4294967297 z
def wa (l:List Fd) (ps:List AS) (f:Fd):Bool:=decide (sub f.rhs (a4p l ps f.lhs))
theorem b67 (l:List Fd) (p z:AS):bj .andNot .u32 (bj .and .u32 (asI p) (asI (clo l (z &&& p)))) (asI z) = asI (tq l p z):=by rw [i6,jd];rfl
theorem b0n {l:List Fd} {p z:AS}:(!decide (asI (tq l p z) = 0)) = jv l z p:=by
 unfold jv
 rw [show (0:Int) = asI 0 from rfl,a6f]
 simp
theorem baz {z m:AS} (h:m &&& ~~~z = m) (h0:m ≠ 0):z.toNat < (z ||| m).toNat:=by
 have hs:sub z (z ||| m):=cb.2 fun i _ hi=>by rw [BitVec.getLsbD_or,hi];rfl
 have hle:=abo hs
 rcases Nat.lt_or_eq_of_le hle with h1 | h1
 · exact h1
 exfalso
 apply h0
 have e:z = z ||| m:=BitVec.eq_of_toNat_eq h1
 apply BitVec.eq_of_getLsbD_eq
 intro i hi
 have e1:=congrArg (fun s:AS=>s.getLsbD i) e
 have e2:=congrArg (fun s:AS=>s.getLsbD i) h
 simp only [BitVec.getLsbD_or,BitVec.getLsbD_and,BitVec.getLsbD_not] at e1 e2
 have e3:(0:AS).getLsbD i = false:=by simp
 rw [e3]
 rw [decide_eq_true hi] at e2
 clear h h0 hs hle h1 e
 revert e1 e2
 cases z.getLsbD i <;> cases m.getLsbD i <;> simp
theorem avc {l:List Fd} {p z:AS} (h:jv l z p = true):z.toNat < (z ||| tq l p z).toNat:=by
 refine baz ?_ (of_decide_eq_true h)
 unfold tq
 rw [BitVec.and_assoc,BitVec.and_self]
def a95 (l:List Fd) (ps:List AS) (z0:AS) (x:Nat × List Nat × AS):Prop:=a8b l ps x.1 x.2.2 = a4p l ps z0 ∧ 4294967296 < x.1 + x.2.2.toNat ∧ x.2.1.length + x.1 = 4294967297
theorem auj (l:List Fd) (ps:List AS) (z0:AS):a95 l ps z0 (4294967297,[],z0):=by
 refine ⟨rfl, ?_, ?_⟩
 · dsimp only;omega
 dsimp only;rw [List.length_nil]
theorem a81 {l:List Fd} {ps:List AS} {z0:AS} {x:Nat × List Nat × AS} (h:a95 l ps z0 x):0 < x.1:=by
 have:=h.2.1
 have:=x.2.2.isLt
 omega
theorem b58 {l:List Fd} {ps:List AS} {z0:AS} {x:Nat × List Nat × AS} (h:a95 l ps z0 x) (hi:idx (jv l x.2.2) ps < 0):x.2.2 = a4p l ps z0:=by
 have hp:=a81 h
 rw [← h.1]
 obtain ⟨n,hn⟩:∃ n,x.1 = n + 1:=⟨x.1 - 1,by omega⟩
 rw [hn]
 unfold a8b
 have:ps.find? (jv l x.2.2) = none:=by
  have hm:idx (jv l x.2.2) ps = -1:=by
   by_cases h:idx (jv l x.2.2) ps = -1
   · exact h
   obtain ⟨i,h1,_⟩:=yw h
   omega
  exact ao6 (a5h hm)
 rw [this]
theorem auw {l:List Fd} {ps:List AS} {z0:AS} {x:Nat × List Nat × AS} {i:Nat} (h:a95 l ps z0 x) (hi:i < ps.length) (hv:jv l x.2.2 (ps.getD i default) = true) (hj:∀ j,j < i → jv l x.2.2 (ps.getD j default) = false) :
 a95 l ps z0 (x.1 - 1,x.2.1 ++ [i],x.2.2 ||| tq l (ps.getD i default) x.2.2):=by
 have hp:=a81 h
 have hlt:=avc hv
 obtain ⟨h1,h2,h3⟩:=h
 obtain ⟨n,hn⟩:∃ n,x.1 = n + 1:=⟨x.1 - 1,by omega⟩
 refine ⟨?_,by dsimp only;omega, ?_⟩
 · rw [← h1,hn]
   have:ps.find? (jv l x.2.2) = some (ps.getD i default):=amo hi hj hv
   show a8b l ps n _ = _
   conv=>rhs;unfold a8b
   rw [this]
 dsimp only
 rw [List.length_append,List.length_singleton]
 omega
def bv (l:List Fd) (ps:List AS) (i:Nat):List Nat:=(List.range i).filter fun j=>!wa l ps (l.getD j default)
def n4 (l:List Fd) (ps:List AS):Bool:=(List.range l.length).all fun j=>wa l ps (l.getD j default)
theorem a3i {l:List Fd} {ps:List AS} {i:Nat} (h:wa l ps (l.getD i default) = false):bv l ps (i + 1) = bv l ps i ++ [i]:=by
 unfold bv
 rw [List.range_succ,List.filter_append]
 simp only [List.filter_cons,h,Bool.not_false,Bool.not_true,if_true,List.filter_nil,List.append_nil,Bool.false_eq_true,if_false]
theorem a3e {l:List Fd} {ps:List AS} {i:Nat} (h:wa l ps (l.getD i default) = true):bv l ps (i + 1) = bv l ps i:=by
 unfold bv
 rw [List.range_succ,List.filter_append]
 simp only [List.filter_cons,h,Bool.not_false,Bool.not_true,if_true,List.filter_nil,List.append_nil,Bool.false_eq_true,if_false]
theorem aqx (l:List Fd) (ps:List AS) (i:Nat):(bv l ps i).length ≤ i:=Nat.le_trans (List.length_filter_le _ _) (by rw [List.length_range];exact Nat.le_refl _)
theorem ayv {l:List Fd} {ps:List AS}:decide (((bv l ps l.length).length:Int) = 0) = n4 l ps:=by
 unfold bv n4
 rw [Bool.eq_iff_iff,decide_eq_true_iff,List.all_eq_true]
 constructor
 · intro h x hx
   have h0:((List.range l.length).filter fun j=>!wa l ps (l.getD j default)) = []:=List.eq_nil_of_length_eq_zero (by omega)
   rw [List.filter_eq_nil_iff] at h0
   have:=h0 x hx
   simpa using this
 intro h
 rw [List.filter_eq_nil_iff.2 fun x hx=>(by rw [h x hx];decide)]
 rfl
theorem b92 {l:List Fd} {ps:List AS} {f:Fd}:decide (bj .andNot .u32 (asI f.rhs) (asI (a4p l ps f.lhs)) = 0) = wa l ps f:=decide_eq_decide.2 l7
theorem b4n (l:List Fd):HV.clo 247 2 (fun i=>[HV.p (bx (fdl l)), .ptr 1 0].getD i (.p .any)) = HV.clo 247 2 (fun i=>([HV.p (bx (fdl l)), .ptr 1000 0].getD i (.p .any)).ren (swp 1000 1)) :=
 congrArg (HV.clo 247 2) (funext fun i=>match i with | 0=>rfl | 1=>rfl | n + 2=>rfl)
end Go.Hx
end
section
namespace Go.Hx
open Go.Proofs
set_option maxRecDepth 100000
set_option maxHeartbeats 1000000
theorem ah1:goodFn Tryz.prog 248:=⟨Tryz.f248,Tryz.func248,by kernel_rfl,by kernel_rfl⟩
theorem az7 (l:List Fd) (p z:AS):ae Tryz.prog 248 [pP (fdl l),pA p,pA z] (ai [pA (tq l p z)]):=by
 refine a8 (nt:=16) a7 Tryz.func248 rfl rfl l9 ?_;refine ez ?_;refine rc rfl rfl rfl rfl rfl rfl od (sc l (z &&& p)) (⟨CoC.refl _,cci (i6 _ _),trivial⟩) rfl rfl ?_;refine w_5 ?_
 exact hx8 rfl rfl rfl (⟨cci (b67 l p z),trivial⟩)
theorem b42:goodFn Tryz.prog 247:=⟨Tryz.f247,Tryz.func247,by kernel_rfl,by kernel_rfl⟩
theorem bb2 (x:AS) (l:List Fd) (z:AS):dj Tryz.prog 247 [.one (.p (asC x)), .one (.p (bx (fdl l))), .one (.ptr 1000 0)] [(1000, .box [.p (asC z)])] (.v (.one (.p (.raw (.bool (jv l z x)))))) [(1000, .box [.p (asC z)])] [1000]:=by
 refine fu (nt:=10) a7 Tryz.func247 rfl rfl l9 rfl ?_;refine w_9 ?_;refine rc rfl rfl rfl rfl rfl rfl ah1 (az7 l x z) (CoL.refl _) rfl rfl ?_;refine w_4 ?_;refine ⟨.inr rfl, ?_⟩
 exact ⟨_,_,rfl,(by (repeat' apply And.intro) <;> first | trivial | exact Nat.le_of_ble_eq_true rfl),cob b0n,⟨u9,trivial⟩⟩
theorem bd8 (ps:List AS) (l:List Fd) (z:AS):dj Tryz.prog 167 [.one (.p (asl ps)), .one (.clo 247 2 fun i=>[HV.p (bx (fdl l)), .ptr 1000 0].getD i (.p .any))] [(1000, .box [.p (asC z)])] (.v (.one (.p (.raw (.int .i64 (idx (jv l z) ps)))))) [(1000, .box [.p (asC z)])] [1000]:=by
 refine fu (nt:=19) a7 Tryz.func167 rfl rfl l9 rfl ?_;refine ct ?_
 refine dg 0 rfl fun hn=>?_
 refine w_3 ?_;refine cj (ι:=Unit) ⟨[],[(1000,some _)]⟩ ⟨trivial,⟨u9,trivial⟩⟩ (fun _i=>⟨[],[]⟩) (fun _i=>idx (jv l z) ps = -1) ?_ ?_
 ·
  refine w_7 ?_
  refine aj (ι:=Nat) ⟨[(0,some _),(1,some _),(7,some _)],[(1000,some _)]⟩ ⟨⟨c9,c9,c9,trivial⟩,⟨u9,trivial⟩⟩ (fun i=>⟨[(8,some (vI i))],[]⟩) (fun i=>i ≤ ps.length ∧ (∀ j,j < i → jv l z (ps.getD j default) = false)) (fun i=>ps.length - i) (0) (⟨Nat.zero_le _,ck⟩) ⟨⟨zy,trivial⟩,trivial⟩ ?_
  rintro i ⟨hi,hI⟩
  refine w_5 ?_;refine a6 _ rfl (fun r0=>?_) (fun r0=>?_)
  ·
   have h0:=of_decide_eq_true r0
   try simp only [ty] at h0
   refine o0 ?_;refine b5 rfl rfl rfl rfl rfl rfl b42 (bb2 (ps.getD i default) l z) (cn.refl _) ⟨u9,trivial⟩ rfl rfl ?_;refine b8 ?_;refine a6 _ rfl (fun r1=>?_) (fun r1=>?_)
   ·
    have h1:=r1
    refine w_6 ?_;refine ⟨.inr rfl, ?_⟩
    exact ⟨_,_,rfl,(by (repeat' apply And.intro) <;> first | trivial | exact Nat.le_of_ble_eq_true rfl),coi (rz (i:=i) (by omega) hI h1).symm,⟨u9,trivial⟩⟩
   have h1:=r1
   refine w_5 ?_;refine ⟨i + 1, ?_, ?_, ?_⟩
   · exact ⟨by show i + 1 ≤ _;omega,br hI (h1)⟩
   · first | omega | (dsimp only;omega)
   exact ⟨⟨zy,c9,c9,c9,trivial⟩,⟨u9,trivial⟩⟩
  have h0:=of_decide_eq_false r0
  try simp only [ty] at h0
  refine er ?_;refine ⟨(), ?_, ?_⟩
  · exact rr fun j hj=>hI j (by omega)
  exact ⟨trivial,⟨u9,trivial⟩⟩
 rintro _ hj
 refine w_5 ?_;refine ⟨.inr rfl, ?_⟩
 exact ⟨_,_,rfl,(by (repeat' apply And.intro) <;> first | trivial | exact Nat.le_of_ble_eq_true rfl),coi hj.symm,⟨u9,trivial⟩⟩
theorem b4w:goodFn Tryz.prog 217:=⟨Tryz.f217,Tryz.func217,by kernel_rfl,by kernel_rfl⟩
theorem b3w (l:List Fd) (ps:List AS) (z0:AS):ae Tryz.prog 217 [pP (fdl l),pP (asl ps),pA z0] (ai [pA (a4p l ps z0),pP .any]):=by
 refine a8 (nt:=30) a7 Tryz.func217 rfl rfl l9 ?_;refine sx7 ?_;refine m9 0 ?_;refine m9 1 ?_;refine w_8 ?_;refine cg 3 rfl rfl rfl ?_
 refine dy 8 900 true 1 3 (lf iC []) (by decide) rfl (CoP.sl rfl (.inr rfl) (fun h=>h) (fun i j hi _=>absurd hi (Nat.not_lt_zero i))) (.inr rfl) rfl ?_
 refine aj (ι:=Nat × List Nat × AS) ⟨[(1,some _),(3,some _),(5,some _)],[]⟩ ⟨⟨c9,c9,c9,trivial⟩,trivial⟩ (fun x=>⟨[(8,some (.v (.one (.ref 900 x.2.1.length))))],[(900,some (.arr true 1 3 x.2.1.length (lf iC x.2.1))),(1,some (.box [.p (asC x.2.2)]))]⟩) (fun x=>a95 l ps z0 x) (fun x=>x.1) ((4294967297,[],z0)) (auj l ps z0) ⟨⟨zy,trivial⟩,⟨u9,u9,trivial⟩⟩ ?_
 rintro x hx
 have hlen:=hx.2.2
 have hpos:=a81 hx
 refine w_5 ?_;refine b5 rfl rfl rfl rfl rfl rfl a80 ((bd8 ps l x.2.2).swap 1000 1) (⟨CoP.refl _,b4n l,trivial⟩) ⟨u9,trivial⟩ rfl rfl ?_;refine w_8 ?_;refine a6 _ rfl (fun r0=>?_) (fun r0=>?_)
 ·
  have h0:=of_decide_eq_true r0
  try simp only [ty] at h0
  refine ct ?_;refine bt 8 rfl rfl rfl ?_;refine w_6 ?_
  exact hx8 rfl rfl rfl (⟨cci (congrArg asI (b58 hx (by omega))),CoC.one (CoP.any_of),trivial⟩)
 have h0:=of_decide_eq_false r0
 try simp only [ty] at h0
 obtain ⟨i0,hi0,hi1,hi2,hi3⟩:=yw (p:=jv l x.2.2) (l:=ps) (by omega)
 refine w_2 ?_;refine bp (E:=bm) a7 ax [0,1,2,3,4,5,6,7,8,9] ?_;refine w_7 ?_
 refine rc rfl rfl rfl rfl rfl rfl ah1 (az7 l (ps.getD i0 default) x.2.2) (⟨CoC.refl _,CoC.one (CoP.of_eq (by rw [hi0];rfl)),CoC.refl _,trivial⟩) rfl rfl ?_;refine w_3 ?_;refine ⟨by kernel_rfl, ?_⟩;refine w_3 ?_
 refine m9 2 ?_;refine ra 3 true rfl rfl rfl rfl rfl rfl ?_;refine w_2 ?_;refine ⟨(x.1 - 1,x.2.1 ++ [i0],x.2.2 ||| tq l (ps.getD i0 default) x.2.2), ?_, ?_, ?_⟩
 · exact auw hx hi1 hi2 hi3
 · dsimp only
   omega
 exact ⟨⟨⟨_,rfl,(d8 rfl)⟩,c9,c9,c9,trivial⟩,⟨⟨_,rfl,(dt rfl (CoP.of_eq (congrArg (fun z=>PV.raw (.int .i64 z)) hi0)))⟩,⟨_,rfl,⟨CoP.of_eq (congrArg (fun z=>PV.raw (.int .u32 z)) (bOr _ _)),trivial⟩⟩,trivial⟩⟩
theorem b4t:goodFn Tryz.prog 171:=⟨Tryz.f171,Tryz.func171,by kernel_rfl,by kernel_rfl⟩
theorem bbd (l:List Fd) (ps:List AS) (z:AS):ae Tryz.prog 171 [pP (fdl l),pP (asl ps),pA z] (ai [pA (a4p l ps z)]):=by
 refine a8 (nt:=17) a7 Tryz.func171 rfl rfl l9 ?_;refine w_9 ?_;refine rc rfl rfl rfl rfl rfl rfl b4w (b3w l ps z) (CoL.refl _) rfl rfl ?_;refine ez ?_
 exact hx8 rfl rfl rfl (CoL.refl _)
theorem b4p:goodFn Tryz.prog 122:=⟨Tryz.f122,Tryz.func122,by kernel_rfl,by kernel_rfl⟩
theorem bal (l:List Fd) (ps:List AS) (x:Fd):ae Tryz.prog 122 [pP (fdl l),pP (asl ps),x.pc] (ai [pB (wa l ps x)]):=by
 refine a8 (nt:=16) a7 Tryz.func122 rfl rfl l9 ?_;refine sx7 ?_;refine m9 0 ?_;refine w_3 ?_;refine bp (E:=bm) a7 ax [0,1,2,3,4,5,6,7,8,9] ?_;refine w_6 ?_
 refine rc rfl rfl rfl rfl rfl rfl b4t (bbd l ps x.lhs) (CoL.refl _) rfl rfl ?_;refine w_4 ?_;refine ⟨by kernel_rfl, ?_⟩
 exact hx8 rfl rfl rfl (⟨ccb b92,trivial⟩)
theorem alh:goodFn Tryz.prog 59:=⟨Tryz.f59,Tryz.func59,by kernel_rfl,by kernel_rfl⟩
theorem azg (l:List Fd) (ps:List AS) (hl:l.length ≤ 16777216):ae Tryz.prog 59 [pP (fdl l),pP (asl ps)] (ai [pP (il (bv l ps l.length))]):=by
 refine a8 (nt:=26) a7 Tryz.func59 rfl rfl l9 ?_;refine d7 ?_
 refine dg 0 rfl fun hn=>?_
 refine w_6 ?_;refine dy 5 900 true 1 3 (lf iC []) (by decide) rfl (CoP.sl rfl (.inr rfl) (fun h=>h) (fun i j hi _=>absurd hi (Nat.not_lt_zero i))) (.inr rfl) rfl ?_
 refine aj (ι:=Nat) ⟨[(0,some _),(1,some _),(8,some _),(9,some _)],[]⟩ ⟨⟨c9,c9,c9,c9,trivial⟩,trivial⟩ (fun i=>⟨[(5,some (.v (.one (.ref 900 (bv l ps i).length)))),(10,some (vI i))],[(900,some (.arr true 1 3 (bv l ps i).length (lf iC (bv l ps i))))]⟩) (fun i=>i ≤ l.length) (fun i=>l.length - i) (0) (Nat.zero_le _) ⟨⟨zy,zy,trivial⟩,⟨u9,trivial⟩⟩ ?_
 rintro i hi
 have hlen:=aqx l ps i
 refine w_5 ?_;refine a6 _ rfl (fun r0=>?_) (fun r0=>?_)
 ·
  have h0:=of_decide_eq_true r0
  try simp only [ty] at h0
  refine w_8 ?_;refine m9 0 ?_;refine w_8 ?_;refine rc rfl rfl rfl rfl rfl rfl b4p (bal l ps (l.getD i default)) (CoL.refl _) rfl rfl ?_;refine w_2 ?_;refine a6 _ rfl (fun r1=>?_) (fun r1=>?_)
  ·
   have h1:=r1
   have h1:=ap h1
   have hq:=ap r1
   refine w_3 ?_;refine m9 1 ?_;refine ra 2 true rfl rfl rfl rfl rfl rfl ?_;refine w_6 ?_
   first | (refine ⟨i + 1, ?_, ?_, ?_⟩
            · show i + 1 ≤ _;omega
            · first | omega | (dsimp only;omega)
            exact ⟨⟨⟨_,rfl,(d8 (a3i (by assumption)))⟩,zy,c9,c9,c9,c9,trivial⟩,⟨⟨_,rfl,(dt (a3i (by assumption)) (CoP.refl _))⟩,trivial⟩⟩)
         | (refine ⟨i + 1, ?_, ?_, ?_⟩
            · show i + 1 ≤ _;omega
            · first | omega | (dsimp only;omega)
            exact ⟨⟨⟨_,rfl,(cz (a3e (by assumption)))⟩,zy,c9,c9,c9,c9,trivial⟩,⟨⟨_,rfl,(d4 (a3e (by assumption)))⟩,trivial⟩⟩)
  have h1:=r1
  have h1:=am h1
  have hq:=am r1
  refine w_5 ?_
  first | (refine ⟨i + 1, ?_, ?_, ?_⟩
           · show i + 1 ≤ _;omega
           · first | omega | (dsimp only;omega)
           exact ⟨⟨⟨_,rfl,(d8 (a3i (by assumption)))⟩,zy,c9,c9,c9,c9,trivial⟩,⟨⟨_,rfl,(dt (a3i (by assumption)) (CoP.refl _))⟩,trivial⟩⟩)
        | (refine ⟨i + 1, ?_, ?_, ?_⟩
           · show i + 1 ≤ _;omega
           · first | omega | (dsimp only;omega)
           exact ⟨⟨⟨_,rfl,(cz (a3e (by assumption)))⟩,zy,c9,c9,c9,c9,trivial⟩,⟨⟨_,rfl,(d4 (a3e (by assumption)))⟩,trivial⟩⟩)
 have h0:=of_decide_eq_false r0
 try simp only [ty] at h0
 obtain rfl:i = l.length:=by omega
 refine w_6 ?_;refine bt 4 rfl rfl rfl ?_
 exact hx8 rfl rfl rfl (⟨CoC.one (CoP.refl _),trivial⟩)
theorem ae2:goodFn Tryz.prog 90:=⟨Tryz.f90,Tryz.func90,by kernel_rfl,by kernel_rfl⟩
theorem aw0 (l:List Fd) (ps:List AS) (hl:l.length ≤ 16777216):ae Tryz.prog 90 [pP (fdl l),pP (asl ps)] (ai [pB (n4 l ps)]):=by
 refine a8 (nt:=10) a7 Tryz.func90 rfl rfl l9 ?_;refine w_8 ?_;refine rc rfl rfl rfl rfl rfl rfl alh (azg l ps hl) (CoL.refl _) rfl rfl ?_;refine w_4 ?_
 exact hx8 rfl rfl rfl (⟨ccb ayv,trivial⟩)
end Go.Hx
end
section
namespace Go.Hx
open Go.RowKit
def az8 (P:Program) (g:FuncId) (caps:List PC) (n:Nat) (xs:Nat → List PC):Prop :=
 ∀ (imm:Imm) (_:nv imm) (us:List Value) (W:World) (l:Nat) (J:Nat → World → Prop),c7 imm caps us →
  (∀ i A,J i A → ∀ b ob,imm b = some ob → A.heap[b]? = some ob) →
  (∀ i A A',J i A → Below A.heap.size A A' → J i A') →
  (∀ i A vs,i < n → J i A → c7 imm (xs i) vs → YieldAt (rf none) 0 P l vs.toArray A fun e A'=>e = .returned (.bool true) ∧ J (i + 1) A') →
  J 0 W → CallsIn (rf none) 0 P g (#[.func (.yield l) #[] #[]] ++ us.toArray) W fun e W'=>(∃ v,e = .returned v) ∧ J n W'
section
variable {P:Program} {nt:Nat} {c:Ctx} {s:S} {a:Act} {w w0:World}
theorem sj {l b:Nat} {o:Obj} (hb:b ≠ l):(w.putObj l o).heap[b]? = w.heap[b]?:=by
 show (w.heap.setIfInBounds l _)[b]? = _
 rw [Array.getElem?_setIfInBounds_ne (Ne.symm hb)]
theorem aa0 {l:Nat} {o o1:Obj} (hl:w.heap[l]? = some o1):(w.putObj l o).heap[l]? = some o:=by
 show (w.heap.setIfInBounds l _)[l]? = _
 rw [Array.getElem?_setIfInBounds_self_of_lt (Array.getElem?_eq_some_iff.1 hl).1]
theorem ak.turn (h:ak w0 nt c s a w) {l:Nat} {o1:Obj} (o2:Obj) (fo:Option Obj) (hl:w.heap[l]? = some o1) (hc:a3a o1 = false) (hd:∀ ds,o1 ≠ .deferred ds) (hi:c.imm l = none) (hi0:fo ≠ none → c.old.1 l = none) (hfo:fo = none ∨ fo = some o2) :
 ak w0 nt { old:=(c.old.1,fun b=>if b = l then fo else c.frm b,c.old.2.2),imm:=c.imm,tab:=c.tab,own:=c.own,blk:=c.blk,rows:=c.rows } s a (w.putObj l o2):=by
 have hblk:∀ id ob b,s.o id = some ob → c.blk id b → b ≠ l:=fun id ob b ho hb e=>by
  obtain ⟨x1,hcc,hdt⟩:=(h.objs id ob ho).data hb
  rw [e,hl] at hcc
  simp only [Option.some.injEq] at hcc
  rw [← hcc,hc] at hdt
  cases hdt
 have hil:∀ b ob,c.imm b = some ob → b ≠ l:=fun b ob hb e=>by rw [e,hi] at hb;cases hb
 refine ⟨⟨h.defers.1,fun d hdd=>?_⟩,h.size, ?_,fun d x hx=>aq.evo (c:=c) (o:=s.o) (Imm.le.refl c.imm) (fun _ _=>Evo.of_same rfl rfl) (h.tmps d x hx),fun id ob ho=>?_,h.inj,fun b ob hb=>(sj (hil b ob hb)).trans (h.imm b ob hb),h.sep,fun b hb=>?_,fun b ob hb=>?_,fun id ob b ho hb=>?_,fun id hid=>h.fixed id hid⟩
 · obtain ⟨D,e,g1,g2,g3,g4⟩:=h.defers.2 d hdd
   have hne:D ≠ l:=fun e=>by
    rw [e,hl] at g1
    simp only [Option.some.injEq] at g1
    exact hd _ g1
   exact ⟨D,e,(sj hne).trans g1,g2,by show (if D = l then fo else c.frm D) = none;rw [if_neg hne];exact g3,g4⟩
 · have hb:=h.below
   exact ⟨hb.os,hb.tape,hb.output,by show _ ≤ (w.heap.setIfInBounds l _).size;rw [Array.size_setIfInBounds];exact hb.size,fun k hk=>absurd hk (Nat.not_lt_zero k),hb.drawn⟩
 · exact (h.objs id ob ho).keep (Imm.le.refl c.imm) rfl rfl (fun _ _=>Evo.of_same rfl rfl) fun b hb=>sj (hblk id ob b ho hb)
 · have hb:(if b = l then fo else c.frm b) ≠ none:=hb
   show c.imm b = c.old.1 b
   by_cases e:b = l
   · subst e
     rw [if_pos rfl] at hb
     rw [hi,hi0 hb]
   rw [if_neg e] at hb
   exact h.was b hb
 · have hb:(if b = l then fo else c.frm b) = some ob:=hb
   by_cases e:b = l
   · subst e
     rw [if_pos rfl] at hb
     rcases hfo with rfl | rfl
     · cases hb
     rw [aa0 hl];exact hb
   rw [if_neg e] at hb
   exact (sj e).trans (h.frm b ob hb)
 show (if b = l then fo else c.frm b) = none
 rw [if_neg (hblk id ob b ho hb)]
 exact h.fsep id ob b ho hb
theorem ak.turn0 (h:ak w0 nt c s a w) {l:Nat} {o1:Obj} (o2:Obj) (hl:w.heap[l]? = some o1) (hc:a3a o1 = false) (hd:∀ ds,o1 ≠ .deferred ds) (hi:c.imm l = none) (hf:c.frm l = none):ak w0 nt c s a (w.putObj l o2):=by
 have:=h.turn o2 none hl hc hd hi (fun e=>absurd rfl e) (.inl rfl)
 have e:(fun b=>if b = l then none else c.frm b) = c.frm:=by
  funext b
  by_cases hb:b = l
  · rw [if_pos hb,hb,hf]
  rw [if_neg hb]
 rw [e] at this
 exact this
end
def va (r:Nat → Nat):List (Nat × Option HR) → List (Nat × Option HR)
 | []=>[]
 | (d,some x) :: l=>(d,some (x.ren r)) :: va r l
 | (d,none) :: l=>(d,none) :: va r l
theorem a0x (r:Nat → Nat):∀ (l:List (Nat × Option HR)) (d:Nat),bf (va r l) d = (bf l d).map (HR.ren r)
 | [],d=>rfl
 | (e,some x) :: l,d=>by
  simp only [va,bf]
  cases Nat.beq e d with
  | true=>rfl
  | false=>simpa using a0x r l d
 | (e,none) :: l,d=>by
  simp only [va,bf]
  cases Nat.beq e d with
  | true=>rfl
  | false=>simpa using a0x r l d
def rgB (r:Nat → Nat) (T:List (Nat × Option HR)) (o1 o2:List (Nat × af)) (fx:List Nat):Bool :=
 (fx.all fun id=>Nat.ble 1000 (r id)) && ((cq o2).all fun id=>(qp fx id && qp (cq o1) id) || (Nat.blt id 1000 && nmT id T)) && (a84 o2).all (qp (cq o2))
theorem aw2 {r:Nat → Nat} {T:List (Nat × Option HR)} {o1 o2:List (Nat × af)} {fx:List Nat} (h:rgB r T o1 o2 fx = true) :
 (∀ id ∈ fx,1000 ≤ r id) ∧ (∀ id ∈ cq o2,id ∉ fx ∨ id ∉ cq o1 → id < 1000 ∧ nmT id T = true) ∧ (∀ id ob,lk o2 id = some ob → ∀ k,ob.men k → k ∈ cq o2):=by
 simp only [rgB,Bool.and_eq_true,List.all_eq_true] at h
 obtain ⟨⟨h1,h2⟩,h3⟩:=h
 refine ⟨fun id hid=>Nat.le_of_ble_eq_true (h1 id hid),fun id hid hor=>?_,fun id ob hid k hk=>?_⟩
 · have:=h2 id hid
   simp only [Bool.or_eq_true,Bool.and_eq_true] at this
   rcases this with ⟨q1,q2⟩ | ⟨q1,q2⟩
   · rcases hor with e | e
     · exact absurd (ik.1 q1) e
     exact absurd (ik.1 q2) e
   exact ⟨by simpa [Nat.blt_eq] using q1,q2⟩
 have hmem:∀ {l:List (Nat × af)},lk l id = some ob → (id,ob) ∈ l:=by
  intro l
  induction l with
  | nil=>intro h;cases h
  | cons p l ih =>
   obtain ⟨e,x⟩:=p
   intro h
   simp only [lk] at h
   cases hb:Nat.beq e id with
   | true =>
    rw [hb] at h
    simp only [cond_true,Option.some.injEq] at h
    rw [← Nat.eq_of_beq_eq_true hb,h]
    exact List.mem_cons_self
   | false =>
    rw [hb] at h
    exact List.mem_cons_of_mem _ (ih (by simpa using h))
 exact ik.1 (h3 k (zf (hmem hid) (af.men_ids hk)))
def bby (P:Program) (nt l:Nat) (body:Code) (Q:HSt → Prop) (e:Exit) (st:HSt):Prop:=e = .normal ∧ HW (ro:=some l) P nt body st fun e st=>e = .normal ∧ Q st
theorem aui {st:HSt} {P:Program} {nt:Nat} {Q:Exit → HSt → Prop} {ι:Type} {g:Operand} {p0 p1:Tmp} {assign body:Code} {gf:FuncId} {k:Nat} {caps:Nat → PV} {n:Nat} {xs0 xs1:Nat → PC} (r:Nat → Nat) (hr:∀ k,r (r k) = k)
 (hg:ev st.den g = some (.v (.one (.p (.fn gf k caps))))) (hf:goodFn P gf) (hit:az8 P gf (fp caps k 0) n fun i=>[xs0 i,xs1 i])
 (T:List (Nat × Option HR)) (O:ι → List (Nat × af)) (p:Nat → ι → Prop) (x0:ι) (hx0:p 0 x0) (hsub:Sub ⟨T,jp (O x0)⟩ st) (fx:List Nat)
 (hB:∀ x y,rgB r T (O x) (O y) fx = true) (hp0:Nat.blt p0 nt = true) (hp1:Nat.blt p1 nt = true)
 (hround:∀ (l i:Nat) (x:ι),i < n → p i x → HW (ro:=some l) P nt assign ⟨(p1,some (.v (xs1 i).toH)) :: (p0,some (.v (xs0 i).toH)) :: va r T,jp (ig r (O x))⟩
  (bby P nt l body fun st2=>∃ y,p (i + 1) y ∧ acd (ig r (O y)) st2.den.o))
 (hdone:∀ y,p n y → Q .normal ⟨T,jp (O y)⟩):HW (ro:=none) P nt (.rangeFunc g #[p0,p1] assign body) st Q:=by
 classical
 intro w0 m0 a w hrel
 obtain ⟨c0,hold0,h0⟩:=hrel
 obtain ⟨cs,e1,hcl,hcr⟩:=ah h0 hg
 have hsT:∀ x:ι,(HSt.den ⟨T,jp (O x)⟩).o = lk (O x):=fun x=>tf _
 have h1:=h0.relax (HSt.den ⟨T,jp (O x0)⟩) (fun d x hx=>so hsub.1 d x hx) (fun d x hx=>vl hsub.2 d x hx)
 have hcaps:c7 c0.imm (fp caps k 0) cs:=by
  have:=p7 (m:=c0.imm) (caps:=caps) k 0 cs (by omega) (fun j hj=>by
   obtain ⟨x,hx,hr⟩:=hcr j (by omega)
   exact ⟨x,hx,hr⟩)
  simpa using this
 obtain ⟨fg,hfg,hname,hbody⟩:=hf
 have eg:∀ args (w:World),(callFunc gf args).run P w = .ok (.enter gf args) w:=fun args w=>by
  simp only [callFunc,Sem.run_bind,run_program,Result.andThen_ok,hfg,hname,hbody]
  simp
 refine wpIn_rangeFunc ?_
 intro fn hfn
 obtain ⟨rec,hrec⟩:∃ rec:LoopState → Option Code → Loop,rec = fun st pe=>{ state:=st,pending:=pe,fn,tmps:=a.tmps,params:=#[p0,p1],assign,body,defers:=w.heap.size }:=⟨_,rfl⟩
 obtain ⟨W1,hW1⟩:∃ W1,(w.alloc (.deferred (some []))).alloc (.loop (rec .ready none)) = W1:=⟨_,rfl⟩
 have hL1:W1.heap[w.heap.size + 1]? = some (.loop (rec .ready none)):=by
  rw [← hW1];have:=World.alloc_heap_new (w.alloc (.deferred (some []))) (.loop (rec .ready none));rwa [World.size_alloc] at this
 have hK1:W1.heap[w.heap.size]? = some (.deferred (some [])):=by
  rw [← hW1];exact (Below.heap_alloc _ _ _ (by simp)).trans (World.alloc_heap_new w _)
 have hb1:Below w.heap.size w W1:=by
  rw [← hW1];exact (((Below.refl _ w).alloc (Nat.le_refl _) _).alloc (by simp) _)
 obtain ⟨l,hl⟩:∃ l,l = w.heap.size + 1:=⟨_,rfl⟩
 rw [← hl] at hL1
 have hnew:∀ b,w.heap.size ≤ b → c0.imm b = none ∧ c0.frm b = none:=fun b hb=>by
  refine ⟨?_, ?_⟩
  · cases hi:c0.imm b with
    | none=>rfl
    | some ob=>have:=(Array.getElem?_eq_some_iff.1 (h0.imm b ob hi)).1;omega
  cases hi:c0.frm b with
  | none=>rfl
  | some ob=>have:=(Array.getElem?_eq_some_iff.1 (h0.frm b ob hi)).1;omega
 have hfl:m0.2.1 l = none:=by rw [← hold0];exact (hnew l (by omega)).2
 let aM:Act:={ a with defers:=[{ target:=.collected w.heap.size,args:=#[] }] ++ a.defers }
 have hM:ak w0 nt c0 (HSt.den ⟨T,jp (O x0)⟩) aM W1:=by
  have h2:=h1.later W1 hb1 c0.imm (fun _ _=>rfl) (fun b ob hb=>(hb1.block b (Array.getElem?_eq_some_iff.1 (h1.imm b ob hb)).1).trans (h1.imm b ob hb))
  refine ⟨⟨List.pairwise_cons.2 ⟨fun d hd e=>?_,h2.defers.1⟩,fun d hd=>?_⟩,h2.size,h2.below,h2.tmps,h2.objs,h2.inj,h2.imm,h2.sep,h2.was,h2.frm,h2.fsep,h2.fixed⟩
  · obtain ⟨D,e2,g1,_⟩:=h1.defers.2 d hd
    rw [← e] at e2
    simp only [Deferred.mk.injEq,Target.collected.injEq,and_true] at e2
    have:=(Array.getElem?_eq_some_iff.1 g1).1
    omega
  rcases List.mem_cons.1 hd with rfl | hd
  · exact ⟨w.heap.size,rfl,hK1,(hnew _ (Nat.le_refl _)).1,(hnew _ (Nat.le_refl _)).2,h0.below.size⟩
  exact h2.defers.2 d hd
 let J:Nat → World → Prop:=fun i A=>∃ x c,p i x ∧ c.old = m0 ∧ Imm.le c0.imm c.imm ∧ c.imm l = none ∧ ak w0 nt c (HSt.den ⟨T,jp (O x)⟩) aM A ∧ A.heap[l]? = some (.loop (rec .ready none))
 refine ⟨l,[{ target:=.collected w.heap.size,args:=#[] }],W1,{ target:=.fn (.func gf) cs.toArray,args:=#[.func (.yield l) #[] #[]] },W1,gf,#[.func (.yield l) #[] #[]] ++ cs.toArray,W1, ?_, ?_,fun _ _=>trivial, ?_,fun hh=>absurd hh (by simp [rf]), ?_⟩
 · rw [← hW1,hrec,hl];exact run_enterLoop_outer _ _ _ _ _
 · simp only [resolve,e1]
   simp [go_sem]
 · simp [invoke,go_sem,eg]
 have hJ0:J 0 W1:=⟨x0,c0,hx0,hold0,Imm.le.refl _,(hnew l (by omega)).1,hM,hL1⟩
 have hnd:∀ (st:LoopState) (pe:Option Code),a3a (Obj.loop (rec st pe)) = false ∧ ∀ ds,Obj.loop (rec st pe) ≠ .deferred ds:=fun st pe=>⟨rfl,(fun _ e=>by cases e)⟩
 refine (hit c0.imm c0.tab cs W1 l J hcaps (fun i A ⟨x,c,_,_,hle,_,hR,_⟩ b ob hb=>hR.imm b ob (hle b ob hb)) (fun i A A' ⟨x,c,hp,ho,hle,hil,hR,hA⟩ hb=>?_) (fun i A vs hi hJ hvs=>?_) hJ0).mono ?_
 · refine ⟨x,_,hp,ho,hle,hil,hR.later A' hb c.imm (fun _ _=>rfl) (fun b ob hb'=>(hb.block b (Array.getElem?_eq_some_iff.1 (hR.imm b ob hb')).1).trans (hR.imm b ob hb')),(hb.block l (Array.getElem?_eq_some_iff.1 hA).1).trans hA⟩
 · obtain ⟨x,c,hp,ho,hle,hil,hR,hA⟩:=hJ
   obtain ⟨v0,v1,rfl,hv0,hv1⟩:∃ v0 v1,vs = [v0,v1] ∧ gm c0.imm (xs0 i) v0 ∧ gm c0.imm (xs1 i) v1:=by
    match vs,hvs with
    | [v0,v1],⟨q0,q1,_⟩=>exact ⟨v0,v1,rfl,q0,q1⟩
   refine ⟨fn,(a.tmps.setIfInBounds p0 v0).setIfInBounds p1 v1,assign,body, ?_, ?_⟩
   · have:=run_yield (P:=P) (l:=l) (r:=rec .ready none) (args:=#[v0,v1]) hA (by rw [hrec];rfl)
     rw [this,hrec]
     simp
   have hmem:Mem c (lk (O x)) A:=by
    have:=hR
    rw [← hsT x]
    exact ⟨hR.objs,hR.inj,hR.imm,hR.sep⟩
   have hmemR:Mem (c.ren r) (lk (ig r (O x))) A:=(Mem.ren hr (ni hr (O x))).2 (by rw [Ctx.ren_ren hr];exact hmem)
   let own2:Nat → Prop:=fun b=>∃ id ob,lk (ig r (O x)) id = some ob ∧ (c.ren r).blk id b
   let frmR:Imm:=fun b=>if own2 b then none else A.heap[b]?
   let oldR:Old:=(c.imm,frmR,(c.ren r).own,lk (ig r (O x)),(c.ren r).rows)
   let cR:Ctx:={ old:=oldR,imm:=c.imm,tab:=c.tab,own:=(c.ren r).own,blk:=(c.ren r).blk,rows:=(c.ren r).rows }
   have hsR:(HSt.den ⟨va r T,jp (ig r (O x))⟩).o = lk (ig r (O x)):=tf _
   have hround0:ak A nt cR (HSt.den ⟨va r T,jp (ig r (O x))⟩) { tmps:=a.tmps,defers:=[] } A:=by
    refine ⟨mh.nil _ _ _ _,hR.size,Below.refl _ _,fun d y hy=>?_,fun id ob hob=>?_,fun id id' ob ob' b hob hob'=>?_,hR.imm,fun id ob b hob=>?_,fun b _=>rfl,fun b ob hbo=>?_,fun id ob b hob hbb=>?_,fun id _=>Evo.of_same (congrFun hsR id) rfl⟩
    · have hy:bf (va r T) d = some y:=hy
      rw [a0x] at hy
      cases hd:bf T d with
      | none=>rw [hd] at hy;cases hy
      | some z =>
       rw [hd] at hy
       simp only [Option.map_some,Option.some.injEq] at hy
       subst hy
       have hz:=hR.tmps d z hd
       rw [hsT x] at hz
       rw [hsR]
       have:=(aq.ren (c:=c.ren r) (r:=r) (ni hr (O x)) (x:=z) (u:=aM.tmps.getD d undef)).2 (by rw [Ctx.ren_ren hr];exact hz)
       exact aq.evo (c:=c.ren r) (o:=lk (ig r (O x))) (Imm.le.refl c.imm) (fun _ _=>Evo.of_same rfl rfl) this
    · rw [hsR] at hob ⊢
      exact (hmemR.objs id ob hob).keep (Imm.le.refl c.imm) rfl rfl (fun _ _=>Evo.of_same rfl rfl) fun _ _=>rfl
    · rw [hsR] at hob hob'
      exact hmemR.inj id id' ob ob' b hob hob'
    · rw [hsR] at hob
      exact hmemR.sep id ob b hob
    · have hbo:frmR b = some ob:=hbo
      simp only [frmR] at hbo
      split at hbo
      · cases hbo
      exact hbo
    rw [hsR] at hob
    show frmR b = none
    simp only [frmR]
    rw [if_pos ⟨id,ob,hob,hbb⟩]
   have hround1:=(hround0.put p0 (by simpa [Nat.blt_eq] using hp0) (some (.v (xs0 i).toH)) v0 (fun y hy=>by cases hy;exact eo.of_P (c:=cR) (gm.mono hle hv0))).put p1 (by simpa [Nat.blt_eq] using hp1) (some (.v (xs1 i).toH)) v1 (fun y hy=>by cases hy;exact eo.of_P (c:=cR) (gm.mono hle hv1))
   have hst:((HSt.den ⟨va r T,jp (ig r (O x))⟩).put p0 (some (.v (xs0 i).toH))).put p1 (some (.v (xs1 i).toH)) = HSt.den ⟨(p1,some (.v (xs1 i).toH)) :: (p0,some (.v (xs0 i).toH)) :: va r T,jp (ig r (O x))⟩:=by
    unfold HSt.den S.put
    simp [bo]
   rw [hst] at hround1
   have hown_l:¬ own2 l:=fun ⟨id,ob,q1,q2⟩=>by
    obtain ⟨x1,hcc,hdt⟩:=(hmemR.objs id ob q1).data q2
    rw [hA] at hcc;cases hcc;cases hdt
   have hfl1:oldR.2.1 l = some (.loop (rec .ready none)):=by
    show frmR l = _
    simp only [frmR]
    rw [if_neg hown_l];exact hA
   refine roundIn_of_wpIn (P:=P) (F:=rf none) (n:=0) trivial ?_;refine wpIn_mono (hround l i x hi hp A oldR _ A ⟨cR,rfl,hround1⟩) ?_
   rintro e a1 w1 ⟨st1,⟨rfl,hbody1⟩,⟨c1,hold1,hR1⟩⟩
   have hfrm1:c1.frm l = some (.loop (rec .ready none)):=by show c1.old.2.1 l = _;rw [hold1];exact hfl1
   have hl1:w1.heap[l]? = some (.loop (rec .ready none)):=hR1.frm l _ hfrm1
   have hi1:c1.imm l = none:=by rw [hR1.was l (by rw [hfrm1];simp),hold1];exact hil
   refine ⟨_,run_beginRound hl1 (by rw [hrec]), ?_⟩
   have hready:({ rec .ready none with state:=.busy }:Loop) = rec .busy none:=by rw [hrec]
   rw [hready]
   have hRb:=hR1.turn (.loop (rec .busy none)) (some (.loop (rec .busy none))) hl1 (hnd _ _).1 (hnd _ _).2 hi1 (fun _=>by rw [hold1];exact hil) (.inr rfl)
   let oldB:Old:=(oldR.1,fun b=>if b = l then some (.loop (rec .busy none)) else oldR.2.1 b,oldR.2.2)
   have hRb':Rel A oldB nt st1.den a1 (w1.putObj l (.loop (rec .busy none))):=⟨_,by
    show ((c1.old.1,(fun b=>if b = l then some (Obj.loop (rec .busy none)) else c1.old.2.1 b),c1.old.2.2):Old) = oldB
    rw [hold1],hRb⟩
   refine wpIn_mono (hbody1 A oldB a1 _ hRb') ?_
   rintro e a2 w2 ⟨st2,⟨rfl,y,hpy,hsub2⟩,⟨c2,hold2,hR2⟩⟩
   have hfrm2:c2.frm l = some (.loop (rec .busy none)):=by show c2.old.2.1 l = _;rw [hold2];show (if l = l then _ else _) = _;rw [if_pos rfl]
   have hl2:w2.heap[l]? = some (.loop (rec .busy none)):=hR2.frm l _ hfrm2
   have hi2:c2.imm l = none:=by rw [hR2.was l (by rw [hfrm2];simp),hold2];exact hil
   refine ⟨_,_,run_endRound none hl2,by simp, ?_⟩
   have hready2:({ rec .busy none with state:=if (none:Option Code).isNone then .ready else .done,pending:=none }:Loop) = rec .ready none:=by rw [hrec];simp
   rw [hready2]
   have hR3:=(hR2.relax ⟨fun _=>none,lk (ig r (O y))⟩ (fun d x hx=>by cases hx) (vn hsub2)).turn (.loop (rec .ready none)) none hl2 (hnd _ _).1 (hnd _ _).2 hi2 (fun e=>absurd rfl e) (.inl rfl)
   have hw3:(w2.putObj l (.loop (rec .ready none))).heap[l]? = some (.loop (rec .ready none)):=aa0 hl2
   obtain ⟨bB1,bB2,bB3⟩:=aw2 (hB x y)
   have hmem3:Mem (c2.ren r) (lk (O y)) (w2.putObj l (.loop (rec .ready none))):=(Mem.ren hr (ni hr (O y))).1 ⟨fun id ob hob=>(hR3.objs id ob hob).keep (Imm.le.refl c2.imm) rfl rfl (fun _ _=>Evo.of_same rfl rfl) fun _ _=>rfl,hR3.inj,hR3.imm,hR3.sep⟩
   have forth:∀ (q:List (Nat × af)) id ob,lk (ig r q) id = some ob → ∃ ob',lk q (r id) = some ob' ∧ ob = ob'.ren r:=fun q id ob h=>by
    have:=ni hr q (r id)
    rw [hr,h] at this
    cases hid:lk q (r id) with
    | none=>rw [hid] at this;cases this
    | some ob'=>rw [hid] at this;exact ⟨ob',rfl,by simpa using this⟩
   have back:∀ (q:List (Nat × af)) id ob,lk q id = some ob → lk (ig r q) (r id) = some (ob.ren r):=fun q id ob h=>by rw [ni hr,h];rfl
   have hfr2:∀ b,c2.frm b = if b = l then some (.loop (rec .busy none)) else frmR b:=fun b=>by show c2.old.2.1 b = _;rw [hold2]
   have hnot:∀ b,b < A.heap.size → ¬ own2 b → (w2.putObj l (.loop (rec .ready none))).heap[b]? = A.heap[b]? ∧ c2.imm b = c.imm b:=fun b hb hno=>by
    by_cases e:b = l
    · subst e
      exact ⟨hw3.trans hA.symm,hi2.trans hil.symm⟩
    have e2:c2.frm b = some A.heap[b]:=by
     rw [hfr2,if_neg e]
     simp only [frmR]
     rw [if_neg hno]
     exact Array.getElem?_eq_getElem hb
    refine ⟨(sj e).trans ?_, ?_⟩
    · rw [hR2.frm b _ e2,Array.getElem?_eq_getElem hb]
    rw [hR2.was b (by rw [e2];simp),hold2]
   have hsO:∀ id ob,lk (O x) id = some ob → ∃ ob',(HSt.den ⟨T,jp (O x)⟩).o id = some ob' ∧ CoO ob' ob:=fun id ob h=>⟨ob,by rw [hsT x];exact h,CoO.refl ob⟩
   have hnoO:∀ b,(∀ id ob,lk (O x) id = some ob → ¬ c.blk id b) → ¬ own2 b:=fun b hno ⟨id,ob,q1,q2⟩=>by
    obtain ⟨ob',q3,_⟩:=forth _ _ _ q1
    exact hno (r id) ob' q3 q2
   obtain ⟨c4,hc4,hc4i,hR4,_⟩:=hR.fcall (o1:=O x) (o2:=O y) (fx:=fx) hsO (fun id h2 h1=>by
    rw [hsT x]
    cases hid:lk (O x) id with
    | none=>rfl
    | some ob=>exact absurd (xq hid) h1)
    (fun id h2 hor=>⟨ul (bB2 id h2 hor).2,fun id' ob' hni ho'=>by
     rw [hsT x] at ho'
     exact absurd (List.mem_append_left _ (xq ho')) hni,(bB2 id h2 hor).1⟩)
    bB3 (w':=w2.putObj l (.loop (rec .ready none))) (c':=c2.ren r) hmem3
    (by
     have hb:=hR3.below
     exact ⟨hb.os,hb.tape,hb.output,hb.size,fun k hk=>absurd hk (Nat.not_lt_zero k),hb.drawn⟩)
    (fun b hb hno=>hnot b hb (hnoO b hno))
    (fun id ob b hid hbk=>by
     have hid':=back _ _ _ hid
     have e:=hR3.fsep (r id) _ b hid' hbk
     have e:(if b = l then none else c2.frm b) = none:=e
     have hbl:b ≠ l:=fun e2=>by
      obtain ⟨x1,hcc,hdt⟩:=(hR3.objs (r id) _ hid').data hbk
      rw [e2,hw3] at hcc;cases hcc;cases hdt
     rw [if_neg hbl,hfr2,if_neg hbl] at e
     simp only [frmR] at e
     by_cases ho2:own2 b
     · obtain ⟨id0,ob0,q1,q2⟩:=ho2
       obtain ⟨ob',q3,_⟩:=forth _ _ _ q1
       exact .inr ⟨r id0,ob',q3,q2⟩
     rw [if_neg ho2] at e
     exact .inl (Nat.le_of_not_lt fun hlt=>by simp [hlt] at e))
    (fun id hid=>by
     have e:=hR3.fixed (r id) (bB1 id hid)
     have e2:∀ (o:Old) (ho:c2.old = o) (ht:nv o.1),Evo { old:=o,imm:=o.1,tab:=ht,own:=o.2.2.1,blk:=c2.blk,rows:=o.2.2.2.2 } o.2.2.2.1 c2 (lk (ig r (O y))) (r id):=by
      intro o ho ht
      subst ho
      exact e
     have e2:=e2 oldB hold2 c.tab
     have e3:Evo cR (lk (ig r (O x))) c2 (lk (ig r (O y))) (r id):=by
      rcases e2 with q | ⟨l1,l2,q1,q2,q3⟩ | ⟨oa,ob,sz,et,n1,n2,q1,q2,q3,q4,q5,q6,q7⟩
      · exact .inl q
      · exact .inr (.inl ⟨l1,l2,q1,q2,q3⟩)
      exact .inr (.inr ⟨oa,ob,sz,et,n1,n2,q1,q2,q3,q4,q5,q6,q7⟩)
     rcases e3 with q | ⟨l1,l2,q1,q2,q3⟩ | ⟨oa,ob,sz,et,n1,n2,q1,q2,q3,q4,q5,q6,q7⟩
     · left
       cases hid2:lk (O y) id with
       | none=>rfl
       | some ob=>rw [back _ _ _ hid2] at q;cases q
     · obtain ⟨ob1,g1,g2⟩:=forth _ _ _ q1
       obtain ⟨ob2,g3,g4⟩:=forth _ _ _ q2
       rw [hr] at g1 g3
       have hbx:∀ {ob:af} {l1:List HV},af.box l1 = ob.ren r → ∃ l0,ob = .box l0:=fun {ob l1} h=>by
        cases ob with
        | box l0=>exact ⟨l0,rfl⟩
        | mp kk n f=>cases h
        | bld fr T e l=>cases h
        | nest e et es n m g pd=>cases pd <;> cases h
        | arr wr s e n f=>cases h
        | arrh s e n ms f=>cases h
       obtain ⟨l3,rfl⟩:=hbx g2
       obtain ⟨l4,rfl⟩:=hbx g4
       refine .inr (.inl ⟨l3,l4,g1,g3, ?_⟩)
       show c2.own (r id) = c.own id
       rw [q3]
       show c.own (r (r id)) = c.own id
       rw [hr]
     obtain ⟨ob1,g1,rfl⟩:=forth _ _ _ q1
     obtain ⟨ob2,g3,rfl⟩:=forth _ _ _ q3
     rw [hr] at g1 g3
     rw [af.ren_dim] at q2 q4
     refine .inr (.inr ⟨ob1,ob2,sz,et,n1,n2,g1,q2,g3,q4,q5,fun hn=>?_,fun ea et2 es na ma ga pd hb=>?_⟩)
     · show c2.own (r id) = c.own id
       rw [q6 hn]
       show c.own (r (r id)) = c.own id
       rw [hr]
     obtain ⟨e0,et0,n0,m0,g0,pd0,t1,t2,t3⟩:=(ff.unren q7) ea et2 es na ma ga pd hb
     refine ⟨e0,et0,n0,m0,g0,pd0,t1,t2,fun i hi=>⟨(t3 i hi).1,fun hm=>?_⟩⟩
     have t4:=(t3 i hi).2 hm
     have t5:c2.rows (r id) i = c.rows (r (r id)) i:=t4
     rw [hr] at t5
     exact t5)
   have hnl:∀ id ob,lk (O x) id = some ob → ¬ c.blk id l:=fun id ob hid hbk=>by
    obtain ⟨x1,hcc,hdt⟩:=(hmem.objs id ob hid).data hbk
    rw [hA] at hcc;cases hcc;cases hdt
   refine ⟨y,c4,hpy,hc4.trans ho,fun b ob hb=>?_, ?_, ?_,hw3⟩
   · rw [hc4i]
     show c2.imm b = some ob
     have hb':=hle b ob hb
     have hlt:=(Array.getElem?_eq_some_iff.1 (hR.imm b ob hb')).1
     rw [(hnot b hlt (hnoO b fun id ob2 hid hbk=>by
      rw [hmem.sep id ob2 b hid hbk] at hb';cases hb')).2]
     exact hb'
   · rw [hc4i];exact hi2
   refine hR4.weaken _ (fun d z hz=>hz) (fun id ob hob=>?_)
   rw [hsT y] at hob
   show (match fy (wk (O x) (O y)) id with | some q=>q | none=>_) = some ob
   rw [a61,hob]
 rintro e W3 ⟨⟨v,rfl⟩,x,c,hp,ho,hle,hil,hR,hA⟩
 refine ⟨_,_,run_endLoop hA (by rw [hrec];simp), ?_⟩
 have hpe:(rec .ready none).pending = none:=by rw [hrec]
 rw [hpe]
 refine ⟨_,hdone x hp,c,ho, ?_⟩
 exact hR.turn0 _ hA (hnd _ _).1 (hnd _ _).2 hil (by show c.old.2.1 l = none;rw [ho];exact hfl)
section
variable {P:Program} {E:Env} {nt:Nat} {ops:Array Oper} {i:Nat} {o:Oper} {Q:Exit → Act → World → Prop} {a:Act} {A:World} {imm:Imm}
def aym (d:Option Tmp) (x:HR) (t:List (Nat × Option HR)):List (Nat × Option HR):=match d with | some d=>(d,some x) :: t | none=>t
class TabC (imm:Imm):Prop where
 ok:nv imm
def cI (imm:Imm) (A:World) [ht:TabC imm]:Ctx:={ old:=(imm,fj A,(fun _=>undef),(fun _=>none),fun _ _=>undef),imm:=imm,tab:=ht.ok,own:=fun _=>undef,blk:=fun _=>noB,rows:=fun _ _=>undef }
variable [TabC imm]
structure It (imm:Imm) [TabC imm] (nt:Nat) (t:List (Nat × Option HR)) (a:Act) (A:World):Prop where
 defers:a.defers = []
 rel:ak A nt (cI imm A) ⟨bf t,fun _=>none⟩ a A
theorem ay9 {us:List Value} {args:List PC} (hi:∀ b ob,imm b = some ob → A.heap[b]? = some ob) (hr:c7 imm args us) (hn:args.length ≤ nt):It imm nt (yy 0 args) { tmps:=us.toArray ++ Array.replicate (nt - us.toArray.size) undef,defers:=[] } A:=by
 have hul:=hr.length
 refine ⟨rfl,mh.nil _ _ _ _, ?_,Below.refl _ _,fun d x hx=>?_,(fun id ob ho=>by cases ho),(fun i i' ob ob' b ho=>by cases ho),hi,(fun id ob b ho=>by cases ho),fun b _=>rfl,fun b ob hb=>hb,(fun id ob b ho=>by cases ho),fun id _=>.inl rfl⟩
 · simp only [Array.size_append,Array.size_replicate,List.size_toArray];omega
 obtain ⟨y,_,hy,rfl⟩:=zb args 0 d x hx
 simp only [Nat.sub_zero] at hy
 obtain ⟨u,hu,hr⟩:=hr.get d y hy
 have hd:d < us.length:=(List.getElem?_eq_some_iff.1 hu).1
 have:(us.toArray ++ Array.replicate (nt - us.toArray.size) undef).getD d undef = u:=by
  have e1:(us.toArray ++ Array.replicate (nt - us.toArray.size) undef)[d]? = some u:=by
   rw [Array.getElem?_append_left (by simpa using hd)]
   simpa using hu
  rw [Array.getD_eq_getD_getElem?,e1]
  rfl
 show aq (cI imm A) _ _ _
 rw [this]
 exact eo.of_P (c:=cI imm A) hr
theorem It.sub {t t':List (Nat × Option HR)} (h:It imm nt t a A) (hs:a12 t' t):It imm nt t' a A :=
 ⟨h.defers,h.rel.relax ⟨bf t',fun _=>none⟩ (fun d x hx=>so hs d x hx) (fun id ob ho=>by cases ho)⟩
theorem It.move {t:List (Nat × Option HR)} {A':World} (h:It imm nt t a A) (hi:∀ b ob,imm b = some ob → A'.heap[b]? = some ob):It imm nt t a A':=by
 refine ⟨h.defers,by rw [h.defers];exact mh.nil _ _ _ _,h.rel.size,Below.refl _ _,fun d x hx=>?_,(fun id ob ho=>by cases ho),(fun i i' ob ob' b ho=>by cases ho),hi,(fun id ob b ho=>by cases ho),fun b _=>rfl,fun b ob hb=>hb,(fun id ob b ho=>by cases ho),fun id _=>.inl rfl⟩
 exact aq.evo (c:=cI imm A) (o:=fun _=>none) (Imm.le.refl imm) (fun _ _=>.inl rfl) (h.rel.tmps d x hx)
theorem It.put {t:List (Nat × Option HR)} (h:It imm nt t a A) {d:Option Tmp} (hd:db nt d = true) (x:HR) (v:Value) (hx:aq (cI imm A) (fun _=>none) x v):It imm nt (aym d x t) (a.put d v) A:=by
 cases d with
 | none=>exact h
 | some d =>
  have:=h.rel.put d (of_decide_eq_true hd) (some x) v (fun y hy=>by cases hy;exact hx)
  refine ⟨h.defers, ?_⟩
  have e:(S.put ⟨bf t,fun _=>none⟩ d (some x)) = ⟨bf ((d,some x) :: t),fun _=>none⟩:=by
   unfold S.put
   simp [bo]
  rw [e] at this
  exact this
theorem yh {t:List (Nat × Option HR)} (h:It imm nt t a A) {x:Operand} {r:HR} (hx:ev ⟨bf t,fun _=>none⟩ x = some r):aq (cI imm A) (fun _=>none) r (a.eval x):=ah h.rel hx
theorem iq (hE:ci P E) {t:List (Nat × Option HR)} {L:List Nat} {out:Out} {gb:Bool} (h:It imm nt t a A) (hi:ops[i]? = some o) (hw:aw ops ⟨bf t,fun _=>none⟩ o = some gb) (hd:db nt o.dst = true) (hq':hq E true (fun _=>none) (ev ⟨bf t,fun _=>none⟩) o.op = some out) (hnd:(match o.op with | .defer _=>false | _=>true) = true) (hg:gb = true)
 (hK:∀ a',It imm nt (aym o.dst out.val t) a' A → wpOpsIn (rf none) 0 P ops Q L a' A)
 (hp:out.pre:=by first | exact trivial | (simp only [io,inR,qf,ve];omega) | exact ⟨trivial,trivial⟩ | exact ⟨trivial,Nat.le_of_ble_eq_true rfl⟩ | (try dsimp only) <;> ((repeat' apply And.intro) <;> first | trivial | rfl | omega | assumption | exact Nat.le_of_ble_eq_true rfl)):wpOpsIn (rf none) 0 P ops Q (i :: L) a A:=by
 rw [wpOpsIn_cons]
 unfold wpOpIn
 simp only [hi]
 rw [if_pos (dn h.rel (by rw [hw,hg]))]
 obtain ⟨v,h1,h2⟩:=adi hE h.rel hq' hp
 have hnd':∀ c,o.op ≠ .defer c:=fun c hc=>by rw [hc] at hnd;cases hnd
 refine a4c hnd' ?_
 unfold Oper.wp
 rw [h1]
 exact hK _ (h.put hd out.val v h2)
theorem iy {t:List (Nat × Option HR)} {L:List Nat} {cl:Call} {f:Operand} {l:Nat} {R:World → Prop} (h:It imm nt t a A) (hi:ops[i]? = some o) (hw:aw ops ⟨bf t,fun _=>none⟩ o = some true) (hd:db nt o.dst = true) (ho:o.op = .call cl) (hcl:cl.callee = .value f) (hf:ev ⟨bf t,fun _=>none⟩ f = some (be (.raw (.func (.yield l) #[] #[]))))
 (hy:YieldAt (rf none) 0 P l (cl.args.toList.map a.eval).toArray A fun e A'=>e = .returned (.bool true) ∧ R A') (him:∀ A',R A' → ∀ b ob,imm b = some ob → A'.heap[b]? = some ob)
 (hK:∀ a' A',R A' → It imm nt (aym o.dst (be (.raw (.bool true))) t) a' A' → wpOpsIn (rf none) 0 P ops Q L a' A'):wpOpsIn (rf none) 0 P ops Q (i :: L) a A:=by
 rw [wpOpsIn_cons]
 unfold wpOpIn
 simp only [hi]
 rw [if_pos (dn h.rel hw)]
 obtain ⟨fn,tmps,assign,body,hyr,hround⟩:=hy
 have hfe:a.eval f = .func (.yield l) #[] #[]:=(yh h hf).1
 refine ⟨fun _ _=>trivial, ?_⟩
 have hsem:Oper.semAt (rf none).round a.eval o = execOp a.eval o:=rfl
 rw [hsem]
 have hma:(cl.args.toList.map a.eval).toArray = cl.args.map a.eval:=by apply Array.toList_inj.1;rw [Array.toList_map]
 rw [hma] at hyr
 have hrun:(execOp a.eval o).run P A = .ok (.round l fn tmps assign body) A:=by
  simp only [execOp,ho,resolve,hcl,hfe,Sem.run_bind,Deferred.ofValue,Sem.run_pure,Result.andThen_ok,invoke]
  simpa using hyr
 rw [hrun,Oper.uponIn_round]
 refine ⟨fun hh=>absurd hh (by simp [rf]),hround.mono ?_⟩
 rintro e A' ⟨rfl,hR⟩
 exact hK _ A' hR ((h.move (him A' hR)).put hd (be (.raw (.bool true))) (.bool true) ⟨rfl,rfl⟩)
end
theorem du.of_H {c:Ctx} {o:av}:∀ {l:List PV} {us:List Value},az c o (l.map .p) us → du c.imm l us
 | [],[],_=>trivial
 | _ :: _,_ :: _,h=>⟨h.1,du.of_H h.2⟩
 | [],_ :: _,h=>h.elim
 | _ :: _,[],h=>h.elim
theorem gm.of_H {c:Ctx} {o:av} {x:PC} {u:Value} (h:aq c o (.v x.toH) u):gm c.imm x u:=by
 cases x with
 | one x=>exact h
 | agg l=>obtain ⟨us,e,hl⟩:=h;exact ⟨us,e,du.of_H hl⟩
theorem CoP.vp {k k':Nat} {f f':Nat → PV} (hk:k' = k) (hf:∀ j,j < k → CoP (f j) (f' j)):CoP (.vp k f) (.vp k' f'):=by
 subst hk
 rintro m u ⟨b,off,rfl,h⟩
 exact ⟨b,off,rfl,fun j hj=>by
  obtain ⟨x,hx,hr⟩:=h j hj
  exact ⟨x,hx,hf j hj m x hr⟩⟩
theorem CoP.fn {g:FuncId} {k k':Nat} {f f':Nat → PV} (hk:k' = k) (hf:∀ j,j < k → CoP (f j) (f' j)):CoP (.fn g k f) (.fn g k' f'):=by
 subst hk
 rintro m u ⟨cs,rfl,hl,h⟩
 exact ⟨cs,rfl,hl,fun j hj=>by
  obtain ⟨x,hx,hr⟩:=h j hj
  exact ⟨x,hx,hf j hj m x hr⟩⟩
def RN (P:Program) (nt:Nat) (ops:Array Oper) (L:List Nat) (st:HSt) (Q:HSt → Prop):Prop :=
 ∀ (ro:Option Nat) (n:Nat) w0 m0 a w (QQ:Exit → Act → World → Prop),Rel w0 m0 nt st.den a w → (∀ st' a' w',Q st' → Rel w0 m0 nt st'.den a' w' → QQ .normal a' w') → wpOpsIn (rf ro) n P ops QQ L a w
section
variable {P:Program} {E:Env} {nt:Nat} {ops:Array Oper} {st:HSt}
end
end Go.Hx
end
