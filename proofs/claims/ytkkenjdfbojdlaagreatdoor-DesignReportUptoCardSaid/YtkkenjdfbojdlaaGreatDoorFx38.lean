/- A part of the proof: Y3 Bz5 Bz6 Ch15 Y4 Bz7 Bz8 Bz9 Ls8 Ds3 Dw3. -/
import Derived.Test.YtkkenjdfbojdlaaGreatDoorFx15
import Derived.Test.YtkkenjdfbojdlaaGreatDoorFx17
import Derived.Test.YtkkenjdfbojdlaaGreatDoorFx20
import Derived.Test.YtkkenjdfbojdlaaGreatDoorFx21
import Derived.Test.YtkkenjdfbojdlaaGreatDoorFx22
import Derived.Test.YtkkenjdfbojdlaaGreatDoorFx23
import Derived.Test.YtkkenjdfbojdlaaGreatDoorFx26
import Derived.Test.YtkkenjdfbojdlaaGreatDoorFx30
import Derived.Test.YtkkenjdfbojdlaaGreatDoorFx31
import Derived.Test.YtkkenjdfbojdlaaGreatDoorFx33
import Derived.Test.YtkkenjdfbojdlaaGreatDoorFx36
import Derived.Test.YtkkenjdfbojdlaaGreatDoorFx37
set_option linter.all false
set_option maxRecDepth 100000
set_option maxHeartbeats 1000000
namespace Go.Hx
section
open Go.Proofs
theorem awf {n:Int} {l m:List Fd} {x:AS} (h:ckB n l m x = 0):af Tryz.prog 192 [pI n,pP (fdl l),pP (fdl m),pA x] (aj [pP (asl (f5 n l m x)),pI 0]):=by
 have:=b00 n l m x
 rw [h,show avz n l m x = f5 n l m x from if_pos h] at this
 exact this
theorem av5 {n:Int} {l m:List Fd} {x:AS} (h:ckB n l m x = 0):af Tryz.prog 139 [pI n,pP (fdl l),pP (fdl m),pA x] (aj [pA (yd n l m x),pI 0]):=by
 have:=b30 n l m x
 rw [h,show ame n l m x = yd n l m x from if_pos h] at this
 exact this
theorem arc {n:Int} {l m:List Fd} {p x:AS} (h:p &&& ~~~(yd n l m x) = 0):a82 n l m p x = none:=if_pos h
theorem aou {n:Int} {l m:List Fd} {p x:AS} (h:¬ p &&& ~~~(yd n l m x) = 0) (h2:¬ 1 < (so n l m x p).length):a82 n l m p x = none:=by unfold a82;rw [if_neg h,if_neg h2]
theorem b4u {n:Int} {l m:List Fd} {p x:AS} (h:¬ p &&& ~~~(yd n l m x) = 0) (h2:1 < (so n l m x p).length):a82 n l m p x = some ⟨x,(so n l m x p).getD 0 default⟩:=by unfold a82;rw [if_neg h,if_pos h2]
def is4 (n:Int) (l m:List Fd):Bool:=if ck4 n l m 0 = 0 then !(a49 n l m (aq n)).2 else false
theorem b32:goodFn Tryz.prog 140:=wgx Tryz.func140
theorem ba3 (n:Int) (l m:List Fd) (x p:AS):af Tryz.prog 140 [pI n,pP (fdl l),pP (fdl m),pA x,pA p] (aj [pP (asl (au7 n l m x p)),pI (ck4 n l m (x ||| p))]):=by
 refine a8 (nt:=58) a7 Tryz.func140 rfl rfl l9 ?_;refine wg ?_;refine rc rfl rfl rfl rfl rfl rfl ar2 (aix n l m (x ||| p)) (⟨CoC.refl _,CoC.refl _,CoC.refl _,cci (bOr _ _),trivial⟩) rfl rfl ?_
 refine w_7 ?_;refine a6 _ rfl (fun r0=>?_) (fun r0=>?_)
 ·
  have h0:=r0
  have h0:=aa (au h0)
  try simp only [ty] at h0
  refine w_6 ?_
  exact hx8 rfl rfl rfl (⟨CoC.one (a0z (if_neg (by assumption))),CoC.refl _,trivial⟩)
 have h0:=r0
 have h0:=ae (ar h0)
 try simp only [ty] at h0
 have hz:ck4 n l m (x ||| p) = 0:=h0
 have hx:=aaq (ae7 hz).2.2 (sg (a:=x) (b:=p))
 refine w_7 ?_;refine qcx b23 (awf hx) ?_;refine fc ?_;refine a6 _ rfl (fun e=>by cases e) (fun _=>?_);refine kf ?_
 refine d6 15 900 true 1 46 (lf sC []) (by decide) rfl (CoP.sl rfl (.inr rfl) (fun h=>h) (fun i j hi _=>absurd hi (Nat.not_lt_zero i))) (.inr rfl) rfl ?_
 have hbl:=a6m n l m x
 refine ah (ι:=Nat) ⟨[(4,some _),(39,some _),(40,some _)],[]⟩ ⟨⟨c9,c9,c9,trivial⟩,trivial⟩ (fun i=>⟨[(15,some (.v (.one (.ref 900 (ou p ((f5 n l m x).take i)).length)))),(41,some (vI i))],[(900,some (.arr true 1 46 (ou p ((f5 n l m x).take i)).length (lf sC (ou p ((f5 n l m x).take i)))))]⟩) (fun i=>i ≤ (f5 n l m x).length) (fun i=>(f5 n l m x).length - i) (0) (Nat.zero_le _) ⟨⟨⟨_,rfl,(CoR.refl _)⟩,⟨_,rfl,(CoR.refl _)⟩,trivial⟩,⟨u9,trivial⟩⟩ ?_
 rintro i hi
 have hcl:(ou p ((f5 n l m x).take i)).length ≤ i:=Nat.le_trans (ady _ _) (by rw [List.length_take];omega)
 refine w_5 ?_;refine a6 _ rfl (fun r1=>?_) (fun r1=>?_)
 ·
  have h1:=ae r1
  try simp only [ty] at h1
  refine a6o ?_;refine a6 _ rfl (fun r2=>?_) (fun r2=>?_)
  ·
   have h2:=r2
   have h2:=aa (au h2)
   try simp only [ty] at h2
   have hq:¬ (f5 n l m x).getD i default &&& p = 0:=yw h2
   refine w_5 ?_;refine m9 0 ?_;refine ra 1 true rfl rfl rfl rfl rfl rfl ?_;refine w_6 ?_
   first | (refine ⟨i + 1, ?_, ?_, ?_⟩
            · show i + 1 ≤ _;omega
            · first | omega | (dsimp only;omega)
            exact ⟨⟨⟨_,rfl,(ca (a9s (by omega) hq))⟩,⟨_,rfl,(CoR.refl _)⟩,c9,c9,c9,trivial⟩,⟨⟨_,rfl,(c7 (a9s (by omega) hq) (CoP.of_eq (congrArg (fun z=>PV.raw (.int .u32 z)) (gl _ _))))⟩,trivial⟩⟩)
         | (refine ⟨i + 1, ?_, ?_, ?_⟩
            · show i + 1 ≤ _;omega
            · first | omega | (dsimp only;omega)
            exact ⟨⟨⟨_,rfl,(cg (a8u (by omega) hq))⟩,⟨_,rfl,(CoR.refl _)⟩,c9,c9,c9,trivial⟩,⟨⟨_,rfl,(cb (a8u (by omega) hq))⟩,trivial⟩⟩)
  have h2:=r2
  have h2:=ae (ar h2)
  try simp only [ty] at h2
  have hq:(f5 n l m x).getD i default &&& p = 0:=a4d h2
  refine w_5 ?_
  first | (refine ⟨i + 1, ?_, ?_, ?_⟩
           · show i + 1 ≤ _;omega
           · first | omega | (dsimp only;omega)
           exact ⟨⟨⟨_,rfl,(ca (a9s (by omega) hq))⟩,⟨_,rfl,(CoR.refl _)⟩,c9,c9,c9,trivial⟩,⟨⟨_,rfl,(c7 (a9s (by omega) hq) (CoP.of_eq (congrArg (fun z=>PV.raw (.int .u32 z)) (gl _ _))))⟩,trivial⟩⟩)
        | (refine ⟨i + 1, ?_, ?_, ?_⟩
           · show i + 1 ≤ _;omega
           · first | omega | (dsimp only;omega)
           exact ⟨⟨⟨_,rfl,(cg (a8u (by omega) hq))⟩,⟨_,rfl,(CoR.refl _)⟩,c9,c9,c9,trivial⟩,⟨⟨_,rfl,(cb (a8u (by omega) hq))⟩,trivial⟩⟩)
 have h1:=aa r1
 try simp only [ty] at h1
 obtain rfl:i = (f5 n l m x).length:=by omega
 rw [show (f5 n l m x).take (f5 n l m x).length = (f5 n l m x) from List.take_length]
 refine w_2 ?_;refine bi 15 rfl rfl rfl ?_;refine w_2 ?_;refine qcx vt (a3p (ou p (f5 n l m x)) (ak8 n l m x p)) ?_;refine w_3 ?_
 exact hx8 rfl rfl rfl (⟨CoC.one (CoP.of_eq (by rw [show au7 n l m x p = so n l m x p from if_pos hz];rfl)),cci hz.symm,trivial⟩)
theorem b7j {n:Int} {l m:List Fd} {x p:AS} (h:ck4 n l m (x ||| p) = 0):af Tryz.prog 140 [pI n,pP (fdl l),pP (fdl m),pA x,pA p] (aj [pP (asl (so n l m x p)),pI 0]):=by
 have:=ba3 n l m x p
 rw [h,show au7 n l m x p = so n l m x p from if_pos h] at this
 exact this
theorem b8g:goodFn Tryz.prog 80:=wgx Tryz.func80
theorem b99 (n:Int) (l m:List Fd) (p:AS):af Tryz.prog 80 [pI n,pP (fdl l),pP (fdl m),pA p] (aj [(a49 n l m p).1.pc,pB (a49 n l m p).2,pI (ck4 n l m p)]):=by
 refine a8 (nt:=72) a7 Tryz.func80 rfl rfl l9 ?_;refine sx7 ?_;refine m9 0 ?_;refine dl ?_;refine qcx ar2 (aix n l m p) ?_;refine w_7 ?_;refine a6 _ rfl (fun r0=>?_) (fun r0=>?_)
 ·
  have h0:=r0
  have h0:=aa (au h0)
  try simp only [ty] at h0
  refine w_8 ?_
  exact hx8 rfl rfl rfl (by rw [b6n (by assumption)];exact ⟨CoC.agg ⟨CoP.of_eq rfl,CoP.of_eq rfl,trivial⟩,CoC.refl _,CoC.refl _,trivial⟩)
 have h0:=r0
 have h0:=ae (ar h0)
 try simp only [ty] at h0
 have hz:ck4 n l m p = 0:=h0
 have hsl:=qc p
 refine w_5 ?_;refine qcx a5a (axj p) ?_;refine w_4 ?_
 refine ah (ι:=Nat) ⟨[(0,some _),(1,some _),(2,some _),(3,some _),(8,some _),(27,some _),(28,some _)],[(0,some _)]⟩ ⟨⟨c9,c9,c9,c9,c9,c9,c9,trivial⟩,⟨u9,trivial⟩⟩ (fun i=>⟨[(29,some (vI i))],[]⟩) (fun i=>i ≤ (be p).length ∧ ((be p).take i).findSome? (a82 n l m p) = none) (fun i=>(be p).length - i) (0) (⟨Nat.zero_le _,rfl⟩) ⟨⟨⟨_,rfl,(CoR.refl _)⟩,trivial⟩,trivial⟩ ?_
 rintro i ⟨hi,hI⟩
 refine w_5 ?_;refine a6 _ rfl (fun r1=>?_) (fun r1=>?_)
 ·
  have h1:=ae r1
  try simp only [ty] at h1
  have hil:i < (be p).length:=by omega
  have hxs:sub ((be p).getD i default) p:=arj (a3e hil)
  have hX:ckB n l m ((be p).getD i default) = 0:=aaq (ae7 hz).2.2 hxs
  have hXp:ck4 n l m (((be p).getD i default) ||| p) = 0:=b38 hz (zm hxs (jj p))
  refine mr ?_;refine qcx b1j (av5 hX) ?_;refine fc ?_;refine a6 _ rfl (fun e=>by cases e) (fun _=>?_);refine w_9 ?_;refine a6 _ rfl (fun r2=>?_) (fun r2=>?_)
  ·
   have h2:=ae r2
   try simp only [ty] at h2
   have hq:p &&& ~~~(yd n l m ((be p).getD i default)) = 0:=axx h2
   refine w_5 ?_;refine ⟨i + 1, ?_, ?_, ?_⟩
   · exact ⟨by omega,(a3r hil hI).trans (by first | exact arc hq | exact aou hq hc)⟩
   · first | omega | (dsimp only;omega)
   exact ⟨⟨⟨_,rfl,(CoR.refl _)⟩,c9,c9,c9,c9,c9,c9,c9,trivial⟩,⟨u9,trivial⟩⟩
  have h2:=aa r2
  try simp only [ty] at h2
  have hq:¬ p &&& ~~~(yd n l m ((be p).getD i default)) = 0:=ash h2
  refine w_8 ?_;refine qcx b32 (b7j hXp) ?_;refine fc ?_;refine a6 _ rfl (fun e=>by cases e) (fun _=>?_);refine w_7 ?_;refine a6 _ rfl (fun r3=>?_) (fun r3=>?_)
  ·
   have h3:=ae r3
   try simp only [ty] at h3
   have hc:1 < (so n l m ((be p).getD i default) p).length:=by omega
   have hcl:(so n l m ((be p).getD i default) p).length ≤ 8589934592:=Nat.le_trans (l7 _) (ak8 n l m ((be p).getD i default) p)
   refine fc ?_;refine ⟨.inr rfl, ?_⟩
   have he:a49 n l m p = (⟨((be p).getD i default),(so n l m ((be p).getD i default) p).getD 0 default⟩,true):=by
    rw [aqn hz,show aaf n l m p = some _ from aps hil hI (b4u hq hc)]
    rfl
   exact f9 rfl rfl (by rw [he];exact ⟨CoC.agg ⟨CoP.refl _,CoP.refl _,trivial⟩,CoC.refl _,cci hz.symm,trivial⟩)
  have h3:=aa r3
  try simp only [ty] at h3
  have hc:¬ 1 < (so n l m ((be p).getD i default) p).length:=by omega
  refine w_5 ?_;refine ⟨i + 1, ?_, ?_, ?_⟩
  · exact ⟨by omega,(a3r hil hI).trans (by first | exact arc hq | exact aou hq hc)⟩
  · first | omega | (dsimp only;omega)
  exact ⟨⟨⟨_,rfl,(CoR.refl _)⟩,c9,c9,c9,c9,c9,c9,c9,trivial⟩,⟨u9,trivial⟩⟩
 have h1:=aa r1
 try simp only [ty] at h1
 obtain rfl:i = (be p).length:=by omega
 rw [show (be p).take (be p).length = (be p) from List.take_length] at hI
 refine w_9 ?_;refine ⟨.inr rfl, ?_⟩
 have he:a49 n l m p = (⟨0,0⟩,false):=by
  rw [aqn hz,show aaf n l m p = none from hI]
  rfl
 exact f9 rfl rfl (by rw [he];exact ⟨CoC.agg ⟨CoP.of_eq rfl,CoP.of_eq rfl,trivial⟩,CoC.refl _,cci hz.symm,trivial⟩)
end
section
structure Mx where
 d:Dps
 m:List Dp
deriving Inhabited
def Mx.mv (x:Mx):List Fd:=x.m.map (Dp.fd x.d.num)
def Mx.c (x:Mx):Nat → PV
 | 0=>x.d.c 0
 | 1=>x.d.c 1
 | 2=>dpl x.m
 | _=>.any
abbrev Mx.pc (x:Mx):PC:=.agg [x.c 0,x.c 1,x.c 2]
def Mx.ok (x:Mx):Bool:=decide (x.d.l.length ≤ 6) && decide (x.m.length ≤ 4)
theorem b83 {a b:List AS} (hl:a.length = b.length) (h:∀ j,j < a.length → a.getD j default = b.getD j default):a = b:=by
 apply List.ext_getElem hl
 intro i h1 h2
 have:=h i h1
 rw [List.getD_eq_getElem?_getD,List.getD_eq_getElem?_getD,List.getElem?_eq_getElem h1,List.getElem?_eq_getElem h2] at this
 simpa using this
def bdp (n:Int) (l m:List Fd) (ps:List AS):Int:=if ck4 n l m 0 = 0 then lsC n ps l m else ck4 n l m 0
def be0 (n:Int) (l m:List Fd) (ps:List AS):Bool:=if ck4 n l m 0 = 0 then (if lsC n ps l m = 0 then lsB n ps l m && ps.all (fun p=>!vBo (aaf n l m) p) else false) else false
end
section
def fdP (d:Fd) (r k:AS):Option AS:=if (r ^^^ k) &&& d.lhs = 0 then (if (r ^^^ k) &&& d.rhs = 0 then none else some ((r ^^^ k) &&& d.rhs)) else none
def fdQ (d:Fd) (T:List AS) (r:AS):Option AS:=T.findSome? (fdP d r)
def fdT (d:Fd) (T:List AS):Option AS:=T.findSome? (fdQ d T)
theorem awe {d:Fd} {T:List AS} {s:AS} (h:fdT d T = some s):∃ r ∈ T,∃ k ∈ T,agB d r k = true ∧ s = (r ^^^ k) &&& d.rhs ∧ s ≠ 0:=by
 unfold fdT at h
 obtain ⟨r,hr,h⟩:=List.exists_of_findSome?_eq_some h
 unfold fdQ at h
 obtain ⟨k,hk,h⟩:=List.exists_of_findSome?_eq_some h
 unfold fdP at h
 split at h
 · rename_i h1
   split at h
   · cases h
   rename_i h2
   cases h
   exact ⟨r,hr,k,hk,decide_eq_true h1,rfl,h2⟩
 cases h
theorem y6 {T:List AS} (h:T.Nodup):T.length ≤ 4294967296:=by
 have h1:(T.map BitVec.toNat).Nodup:=List.Pairwise.map _ (fun a b hab e=>hab (BitVec.eq_of_toNat_eq e)) h
 have h2:∀ x ∈ T.map BitVec.toNat,x < 4294967296:=by
  intro x hx
  obtain ⟨a,_,rfl⟩:=List.mem_map.1 hx
  exact a.isLt
 have hlen:(T.map BitVec.toNat).length = T.length:=List.length_map _
 rw [← hlen]
 have key:∀ (N:Nat) (l:List Nat),l.Nodup → (∀ x ∈ l,x < N) → l.length ≤ N:=by
  intro N
  induction N with
  | zero =>
   intro l _ hl
   cases l with
   | nil=>exact Nat.le_refl _
   | cons a l=>exact absurd (hl a (by simp)) (Nat.not_lt_zero _)
  | succ N ih =>
   intro l hn hl
   have h3:=ih (l.filter fun x=>!decide (x = N)) (hn.filter _) fun x hx=>by
    rw [List.mem_filter] at hx
    have:=hl x hx.1
    have hx2:¬ x = N:=by simpa using hx.2
    omega
   have h4:l.length ≤ (l.filter fun x=>!decide (x = N)).length + 1:=by
    have h5:∀ l:List Nat,l.length = (l.filter fun x=>!decide (x = N)).length + l.countP fun x=>decide (x = N):=by
     intro l
     induction l with
     | nil=>rfl
     | cons a l ih =>
      by_cases e:a = N
      · simp [List.filter_cons,List.countP_cons,e,ih];omega
      simp [List.filter_cons,List.countP_cons,e,ih];omega
    have h6:=h5 l
    have h7:(l.countP fun x=>decide (x = N)) ≤ 1:=by
     have:=hn.count (a:=N)
     have e:(l.countP fun x=>decide (x = N)) = l.count N:=by
      unfold List.count
      congr 1
     rw [e]
     first | exact List.nodup_iff_count.1 hn N | (rw [this];split <;> omega)
    omega
   omega
 exact key _ _ h1 h2
theorem x7 {T:List AS} {i:Nat} (hi:i < 32):(orL T).getLsbD i = T.any fun r=>r.getLsbD i:=by
 unfold orL
 have:∀ (T:List AS) (o:AS),(T.foldl (· ||| ·) o).getLsbD i = (o.getLsbD i || T.any fun r=>r.getLsbD i):=by
  intro T
  induction T with
  | nil=>intro o;simp
  | cons a T ih=>intro o;rw [List.foldl_cons,ih,BitVec.getLsbD_or,List.any_cons,Bool.or_assoc]
 rw [this]
 simp
theorem azn {T:List AS} {s:AS}:orL (oz T s) = orL T &&& ~~~s:=by
 apply a0a
 intro i hi
 rw [x7 hi,ll hi,x7 hi]
 cases hs:s.getLsbD i with
 | true =>
  simp only [Bool.not_true,Bool.and_false]
  rw [List.any_eq_false]
  intro z hz
  obtain ⟨r,hr,rfl⟩:=a7o.1 hz
  rw [ll hi,hs]
  simp
 | false =>
  simp only [Bool.not_false,Bool.and_true]
  rw [Bool.eq_iff_iff,List.any_eq_true,List.any_eq_true]
  constructor
  · rintro ⟨z,hz,hb⟩
    obtain ⟨r,hr,rfl⟩:=a7o.1 hz
    rw [ll hi,Bool.and_eq_true] at hb
    exact ⟨r,hr,hb.1⟩
  rintro ⟨r,hr,hb⟩
  exact ⟨r &&& ~~~s,a7o.2 ⟨r,hr,rfl⟩,by rw [ll hi,hb,hs];rfl⟩
theorem aa6 {d:Fd} {T:List AS} {s:AS} (h:fdT d T = some s):(orL (oz T s)).toNat < (orL T).toNat:=by
 obtain ⟨r,hr,k,hk,_,rfl,hz⟩:=awe h
 rw [azn]
 refine wq ue fun e=>?_
 obtain ⟨i,hi,hb⟩:=b5t hz
 have h1:=congrArg (fun z:AS=>z.getLsbD i) e
 simp only [ll hi,hb,Bool.not_true,Bool.and_false] at h1
 have h1:(orL T).getLsbD i = false:=h1.symm
 rw [x7 hi,List.any_eq_false] at h1
 rw [BitVec.getLsbD_and,BitVec.getLsbD_xor,Bool.and_eq_true] at hb
 have h2:r.getLsbD i = false:=by simpa using h1 r hr
 have h3:k.getLsbD i = false:=by simpa using h1 k hk
 rw [h2,h3] at hb
 simp at hb
def np (d:Fd):Nat → List AS → List AS
 | 0,T=>T
 | f + 1,T=>match fdT d T with
  | none=>T
  | some s=>np d f (oz T s)
def mvS (d:Fd) (T:List AS) (i k:Nat):List AS:=if agB d (T.getD i default) (T.getD k default) = true then nv T (yh d (T.getD i default) (T.getD k default)) else T
def mvI (d:Fd):Nat → List AS → Nat → Nat → List AS
 | 0,T,_,_=>T
 | f + 1,T,i,k=>if k < T.length then mvI d f (mvS d T i k) i (k + 1) else T
def mvO (d:Fd):Nat → List AS → Nat → List AS
 | 0,T,_=>T
 | f + 1,T,i=>if i < T.length then mvO d f (mvI d 8589934592 T i 0) (i + 1) else T
theorem a4e (d:Fd) (T:List AS) (i k:Nat):T <+: mvS d T i k:=by
 unfold mvS nv
 split
 · split
   · exact List.prefix_refl _
   exact List.prefix_append _ _
 exact List.prefix_refl _
theorem a4g (d:Fd):∀ (f:Nat) (T:List AS) (i k:Nat),T <+: mvI d f T i k
 | 0,T,_,_=>List.prefix_refl _
 | f + 1,T,i,k=>by
  unfold mvI
  split
  · exact (a4e d T i k).trans (a4g d f _ i (k + 1))
  exact List.prefix_refl _
theorem akq (d:Fd):∀ (f:Nat) (T:List AS) (i:Nat),T <+: mvO d f T i
 | 0,T,_=>List.prefix_refl _
 | f + 1,T,i=>by
  unfold mvO
  split
  · exact (a4g d _ T i 0).trans (akq d f _ (i + 1))
  exact List.prefix_refl _
theorem aqm {d:Fd} {T:List AS} {i k:Nat} (h:T.Nodup):(mvS d T i k).Nodup:=by
 unfold mvS
 split
 · exact uz h
 exact h
theorem aeg {d:Fd}:∀ {f:Nat} {T:List AS} {i k:Nat},T.Nodup → (mvI d f T i k).Nodup
 | 0,T,_,_,h=>h
 | f + 1,T,i,k,h=>by
  unfold mvI
  split
  · exact aeg (aqm h)
  exact h
theorem ahp {d:Fd}:∀ {f:Nat} {T:List AS} {i:Nat},T.Nodup → (mvO d f T i).Nodup
 | 0,T,_,h=>h
 | f + 1,T,i,h=>by
  unfold mvO
  split
  · exact ahp (aeg h)
  exact h
abbrev TC:=List AS × Bool
def FU2:Nat:=8589934592
def fdR (x:TC) (d:Fd):TC:=(np d FU2 x.1,x.2 || (fdT d x.1).isSome)
def mvR (x:TC) (d:Fd):TC:=(mvO d FU2 x.1 0,x.2 || decide (x.1.length < (mvO d FU2 x.1 0).length))
def ul (fs ms:List Fd) (T:List AS):TC:=ms.foldl mvR (fs.foldl fdR (T,false))
def chF (fs ms:List Fd):Nat → List AS → List AS
 | 0,T=>T
 | f + 1,T=>if (ul fs ms T).2 = true then chF fs ms f (ul fs ms T).1 else (ul fs ms T).1
def muT (T:List AS):Nat:=(orL T).toNat * FU2 + (4294967296 - T.length)
theorem xd {d:Fd} {f:Nat} {T:List AS} {s:AS} (h:fdT d T = some s):np d (f + 1) T = np d f (oz T s):=by
 show (match fdT d T with | none=>T | some s=>np d f (oz T s)) = _
 rw [h]
theorem a47 {d:Fd} {f:Nat} {T:List AS} (h:fdT d T = none):np d f T = T:=by
 cases f with
 | zero=>rfl
 | succ f =>
  show (match fdT d T with | none=>T | some s=>np d f (oz T s)) = _
  rw [h]
theorem ae0 {d:Fd} {P:List AS → Prop} (hP:∀ T s,P T → fdT d T = some s → P (oz T s)):∀ (f:Nat) (T:List AS),P T → P (np d f T)
 | 0,T,h=>h
 | f + 1,T,h=>by
  cases hq:fdT d T with
  | none=>rw [a47 hq];exact h
  | some s=>rw [xd hq];exact ae0 hP f _ (hP T s h hq)
theorem ak1 {d:Fd} {P:List AS → Prop} (hP:∀ T r k,P T → r ∈ T → k ∈ T → agB d r k = true → P (nv T (yh d r k))):∀ (f:Nat) (T:List AS) (i k:Nat),i < T.length → P T → P (mvI d f T i k)
 | 0,T,_,_,_,h=>h
 | f + 1,T,i,k,hi,h=>by
  unfold mvI
  split
  · rename_i hk
    refine ak1 hP f _ i (k + 1) (Nat.lt_of_lt_of_le hi (a4e d T i k).length_le) ?_
    unfold mvS
    split
    · rename_i ha
      exact hP T _ _ h (a3e hi) (a3e hk) ha
    exact h
  exact h
theorem ab4 {d:Fd} {P:List AS → Prop} (hP:∀ T r k,P T → r ∈ T → k ∈ T → agB d r k = true → P (nv T (yh d r k))):∀ (f:Nat) (T:List AS) (i:Nat),P T → P (mvO d f T i)
 | 0,T,_,h=>h
 | f + 1,T,i,h=>by
  unfold mvO
  split
  · rename_i hi
    exact ab4 hP f _ (i + 1) (ak1 hP _ T i 0 hi h)
  exact h
theorem aag {P:List AS → Prop} {fs:List Fd} (hP:∀ d ∈ fs,∀ T s,P T → fdT d T = some s → P (oz T s)):∀ (ds:List Fd) (x:TC),(∀ d ∈ ds,d ∈ fs) → P x.1 → P (ds.foldl fdR x).1
 | [],x,_,h=>h
 | d :: ds,x,hd,h=>aag hP ds (fdR x d) (fun e he=>hd e (by simp [he])) (ae0 (hP d (hd d (by simp))) _ _ h)
theorem ake {P:List AS → Prop} {ms:List Fd} (hP:∀ d ∈ ms,∀ T r k,P T → r ∈ T → k ∈ T → agB d r k = true → P (nv T (yh d r k))):∀ (ds:List Fd) (x:TC),(∀ d ∈ ds,d ∈ ms) → P x.1 → P (ds.foldl mvR x).1
 | [],x,_,h=>h
 | d :: ds,x,hd,h=>ake hP ds (mvR x d) (fun e he=>hd e (by simp [he])) (ab4 (hP d (hd d (by simp))) _ _ _ h)
theorem b0p {P:List AS → Prop} {fs ms:List Fd} (h1:∀ d ∈ fs,∀ T s,P T → fdT d T = some s → P (oz T s)) (h2:∀ d ∈ ms,∀ T r k,P T → r ∈ T → k ∈ T → agB d r k = true → P (nv T (yh d r k))) {T:List AS} (h:P T):P (ul fs ms T).1 :=
 ake h2 ms _ (fun _ h=>h) (aag h1 fs (T,false) (fun _ h=>h) h)
theorem ax5 {fs:List Fd}:∀ d ∈ fs,∀ (T:List AS) (s:AS),T.Nodup → fdT d T = some s → (oz T s).Nodup:=fun _ _ T s _ _=>a8t T s
theorem b9o {ms:List Fd}:∀ d ∈ ms,∀ (T:List AS) (r k:AS),T.Nodup → r ∈ T → k ∈ T → agB d r k = true → (nv T (yh d r k)).Nodup:=fun _ _ _ _ _ h _ _ _=>uz h
theorem aqq {A B:List AS} (h:(orL B).toNat < (orL A).toNat):muT B < muT A:=by
 unfold muT
 have h1:((orL B).toNat + 1) * FU2 ≤ (orL A).toNat * FU2:=Nat.mul_le_mul_right _ h
 rw [Nat.add_mul] at h1
 have:FU2 = 8589934592:=rfl
 omega
theorem ayk {A B:List AS} (hp:A <+: B) (ho:(orL B).toNat = (orL A).toNat) (hB:B.length ≤ 4294967296):muT B ≤ muT A ∧ (A.length < B.length → muT B < muT A):=by
 unfold muT
 rw [ho]
 have:=hp.length_le
 omega
theorem b3a {T:List AS} {d:Fd} {r k:AS} (hr:r ∈ T) (hk:k ∈ T):orL (nv T (yh d r k)) = orL T:=by
 apply a0a
 intro i hi
 rw [x7 hi,x7 hi,Bool.eq_iff_iff,List.any_eq_true,List.any_eq_true]
 constructor
 · rintro ⟨z,hz,hb⟩
   rcases a6f.1 hz with hz | rfl
   · exact ⟨z,hz,hb⟩
   rw [atj hi] at hb
   split at hb
   · exact ⟨r,hr,hb⟩
   exact ⟨k,hk,hb⟩
 rintro ⟨z,hz,hb⟩
 exact ⟨z,a6f.2 (.inl hz),hb⟩
theorem b2d {d:Fd} {f:Nat} {T:List AS} {i:Nat}:orL (mvO d f T i) = orL T :=
 ab4 (P:=fun X=>orL X = orL T) (fun X r k h hr hk _=>(b3a hr hk).trans h) f T i rfl
theorem ajl {d:Fd} {T0:List AS} (f:Nat):∀ (T:List AS),muT T ≤ muT T0 → muT (np d f T) ≤ muT T0:=by
 induction f with
 | zero=>intro T h;exact h
 | succ f ih =>
  intro T h
  cases hq:fdT d T with
  | none=>rw [a47 hq];exact h
  | some s =>
   rw [xd hq]
   have h1:=aqq (aa6 hq)
   exact ih _ (by omega)
theorem b50 (x:TC) (d:Fd):muT (fdR x d).1 ≤ muT x.1 ∧ (x.2 = false → (fdR x d).2 = true → muT (fdR x d).1 < muT x.1):=by
 refine ⟨ajl _ _ (Nat.le_refl _),fun h1 h2=>?_⟩
 unfold fdR at h2 ⊢
 rw [h1,Bool.false_or,Option.isSome_iff_exists] at h2
 obtain ⟨s,hs⟩:=h2
 show muT (np d FU2 x.1) < _
 rw [show FU2 = 8589934591 + 1 from rfl,xd hs]
 exact Nat.lt_of_le_of_lt (ajl _ _ (Nat.le_refl _)) (aqq (aa6 hs))
theorem b65 {x:TC} (hn:x.1.Nodup) (d:Fd):muT (mvR x d).1 ≤ muT x.1 ∧ (x.2 = false → (mvR x d).2 = true → muT (mvR x d).1 < muT x.1):=by
 have h:=ayk (akq d FU2 x.1 0) (congrArg BitVec.toNat b2d) (y6 (ahp hn))
 refine ⟨h.1,fun h1 h2=>h.2 ?_⟩
 unfold mvR at h2
 rw [h1,Bool.false_or] at h2
 exact of_decide_eq_true h2
theorem ajm:∀ (ds:List Fd) (x:TC),muT (ds.foldl fdR x).1 ≤ muT x.1 ∧ (x.2 = false → (ds.foldl fdR x).2 = true → muT (ds.foldl fdR x).1 < muT x.1)
 | [],x=>⟨Nat.le_refl _,fun h k=>by simp only [List.foldl_nil] at k;rw [h] at k;cases k⟩
 | d :: ds,x=>by
  obtain ⟨a1,a2⟩:=b50 x d
  obtain ⟨b1,b2⟩:=ajm ds (fdR x d)
  refine ⟨Nat.le_trans b1 a1,fun h k=>?_⟩
  cases hq:(fdR x d).2 with
  | true=>exact Nat.lt_of_le_of_lt b1 (a2 h hq)
  | false=>exact Nat.lt_of_lt_of_le (b2 hq k) a1
theorem ajd:∀ (ds:List Fd) (x:TC),x.1.Nodup → muT (ds.foldl mvR x).1 ≤ muT x.1 ∧ (x.2 = false → (ds.foldl mvR x).2 = true → muT (ds.foldl mvR x).1 < muT x.1)
 | [],x,_=>⟨Nat.le_refl _,fun h k=>by simp only [List.foldl_nil] at k;rw [h] at k;cases k⟩
 | d :: ds,x,hn=>by
  obtain ⟨a1,a2⟩:=b65 hn d
  obtain ⟨b1,b2⟩:=ajd ds (mvR x d) (ahp hn)
  refine ⟨Nat.le_trans b1 a1,fun h k=>?_⟩
  cases hq:(mvR x d).2 with
  | true=>exact Nat.lt_of_le_of_lt b1 (a2 h hq)
  | false=>exact Nat.lt_of_lt_of_le (b2 hq k) a1
theorem b6i {fs ms:List Fd} {T:List AS} (hn:T.Nodup) (h:(ul fs ms T).2 = true):muT (ul fs ms T).1 < muT T:=by
 unfold ul at h ⊢
 obtain ⟨a1,a2⟩:=ajm fs (T,false)
 have hn2:(fs.foldl fdR (T,false)).1.Nodup:=aag ax5 fs (T,false) (fun _ h=>h) hn
 obtain ⟨b1,b2⟩:=ajd ms (fs.foldl fdR (T,false)) hn2
 cases hq:(fs.foldl fdR (T,false)).2 with
 | true=>exact Nat.lt_of_le_of_lt b1 (a2 rfl hq)
 | false=>exact Nat.lt_of_lt_of_le (b2 hq h) a1
def MU:Nat:=73786976294838206464
theorem b7f (T:List AS):muT T < MU:=by
 unfold muT
 have h:=(orL T).isLt
 have h1:((orL T).toNat + 1) * FU2 ≤ 4294967296 * FU2:=Nat.mul_le_mul_right _ h
 rw [Nat.add_mul] at h1
 have e:FU2 = 8589934592:=rfl
 have e2:MU = 73786976294838206464:=rfl
 omega
def awb (rest:AS):List AS:=nv [0] rest
def chT (fs ms:List Fd) (rest:AS):List AS:=chF fs ms MU (awb rest)
theorem b9t (rest:AS):(awb rest).Nodup:=uz (by simp)
end
section
open Go.Proofs
def sT:List Rw:=[[0,1,5],[0,7,2]]
def fdX:List Fd:=[⟨1,2⟩]
end
section
open Go.Proofs
theorem as6:goodFn Tryz.prog 30:=wgx Tryz.func30
theorem bbi (a b:List AS):af Tryz.prog 30 [pP (asl a),pP (asl b)] (aj [pB (decide (a = b))]):=by
 refine a8 (nt:=26) a7 Tryz.func30 rfl rfl l9 ?_;refine w_6 ?_
 refine dg 0 rfl fun hn0=>?_
 refine dg 1 rfl fun hn1=>?_
 refine w_7 ?_;refine a6 _ rfl (fun r0=>?_) (fun r0=>?_)
 ·
  have h0:=r0
  have h0:=aa (au h0)
  try simp only [ty] at h0
  refine w_4 ?_
  exact hx8 rfl rfl rfl (⟨ccb (decide_eq_false fun e=>by subst e;omega).symm,trivial⟩)
 have h0:=r0
 have h0:=ae (ar h0)
 try simp only [ty] at h0
 refine w_9 ?_
 refine ah (ι:=Nat) ⟨[(0,some _),(1,some _),(12,some _)],[]⟩ ⟨⟨c9,c9,c9,trivial⟩,trivial⟩ (fun i=>⟨[(13,some (vI i))],[]⟩) (fun i=>i ≤ a.length ∧ ∀ j,j < i → a.getD j default = b.getD j default) (fun i=>a.length - i) (0) (⟨Nat.zero_le _,fun j hj=>absurd hj (Nat.not_lt_zero j)⟩) ⟨⟨⟨_,rfl,(CoR.refl _)⟩,trivial⟩,trivial⟩ ?_
 rintro i ⟨hi,hI⟩
 refine w_5 ?_;refine a6 _ rfl (fun r1=>?_) (fun r1=>?_)
 ·
  have h1:=ae r1
  try simp only [ty] at h1
  refine w_9 ?_;refine bg (E:=bj) a7 aw [0,1,2,3,4,5,6,7,8] ?_;refine dl ?_;refine ⟨by kernel_rfl, ?_⟩;refine a6 _ rfl (fun r2=>?_) (fun r2=>?_)
  ·
   have h2:=r2
   have h2:=aa (au h2)
   try simp only [ty] at h2
   refine w_4 ?_
   exact hx8 rfl rfl rfl (⟨ccb (decide_eq_false fun e=>by subst e;exact absurd rfl (by assumption:¬ asI _ = asI _)).symm,trivial⟩)
  have h2:=r2
  have h2:=ae (ar h2)
  try simp only [ty] at h2
  refine w_5 ?_;refine ⟨i + 1, ?_, ?_, ?_⟩
  · refine ⟨by omega,fun j hj=>?_⟩
    by_cases e:j = i
    · subst e;exact c8.1 (by assumption)
    exact hI j (by omega)
  · first | omega | (dsimp only;omega)
  exact ⟨⟨⟨_,rfl,(CoR.refl _)⟩,c9,c9,c9,trivial⟩,trivial⟩
 have h1:=aa r1
 try simp only [ty] at h1
 obtain rfl:i = a.length:=by omega
 refine w_5 ?_
 exact hx8 rfl rfl rfl (⟨ccb (decide_eq_true (b83 (by omega) hI)).symm,trivial⟩)
end
section
structure MvO (d:Fd) (T0:List AS) (x:Nat × List AS × Nat):Prop where
 nd:x.2.1.Nodup
 pre:T0 <+: x.2.1
 res:mvO d x.1 x.2.1 x.2.2 = mvO d FU2 T0 0
 le:x.2.2 ≤ x.2.1.length
 fuel:4294967296 < x.1 + x.2.2
structure MvI (d:Fd) (T:List AS) (i:Nat) (x:Nat × List AS × Nat):Prop where
 nd:x.2.1.Nodup
 pre:T <+: x.2.1
 res:mvI d x.1 x.2.1 i x.2.2 = mvI d 8589934592 T i 0
 le:x.2.2 ≤ x.2.1.length
 fuel:4294967296 < x.1 + x.2.2
section
variable {d:Fd} {T0 T:List AS} {i f k:Nat}
theorem MvO.start (h:T.Nodup):MvO d T (FU2,T,0):=⟨h,List.prefix_refl _,rfl,Nat.zero_le _,by show 4294967296 < 8589934592 + 0;omega⟩
theorem MvI.start (h:T.Nodup):MvI d T i (8589934592,T,0):=⟨h,List.prefix_refl _,rfl,Nat.zero_le _,by show 4294967296 < 8589934592 + 0;omega⟩
theorem MvO.pos (h:MvO d T0 (f,T,i)):0 < f ∧ T.length ≤ 4294967296:=by
 have h1:=y6 h.nd
 have h2:=h.le
 have h3:=h.fuel
 dsimp only at h1 h2 h3
 omega
theorem MvI.pos {U:List AS} (h:MvI d T i (f,U,k)):0 < f ∧ U.length ≤ 4294967296:=by
 have h1:=y6 h.nd
 have h2:=h.le
 have h3:=h.fuel
 dsimp only at h1 h2 h3
 omega
theorem MvO.done (h:MvO d T0 (f,T,i)) (hi:¬ i < T.length):T = mvO d FU2 T0 0:=by
 have hp:=h.pos.1
 have hr:mvO d f T i = mvO d FU2 T0 0:=h.res
 obtain ⟨g,rfl⟩:∃ g,f = g + 1:=⟨f - 1,by omega⟩
 unfold mvO at hr
 rw [if_neg hi] at hr
 exact hr
theorem MvI.done {U:List AS} (h:MvI d T i (f,U,k)) (hk:¬ k < U.length):U = mvI d 8589934592 T i 0:=by
 have hp:=h.pos.1
 have hr:mvI d f U i k = mvI d 8589934592 T i 0:=h.res
 obtain ⟨g,rfl⟩:∃ g,f = g + 1:=⟨f - 1,by omega⟩
 unfold mvI at hr
 rw [if_neg hk] at hr
 exact hr
theorem MvI.next {U:List AS} (h:MvI d T i (f,U,k)) (hk:k < U.length):MvI d T i (f - 1,mvS d U i k,k + 1):=by
 have hp:=h.pos.1
 have hr:mvI d f U i k = mvI d 8589934592 T i 0:=h.res
 obtain ⟨g,rfl⟩:∃ g,f = g + 1:=⟨f - 1,by omega⟩
 unfold mvI at hr
 rw [if_pos hk] at hr
 have hf:4294967296 < g + 1 + k:=h.fuel
 exact ⟨aqm h.nd,h.pre.trans (a4e d U i k),hr,Nat.le_trans hk (a4e d U i k).length_le,by show 4294967296 < g + (k + 1);omega⟩
theorem MvO.next (h:MvO d T0 (f,T,i)) (hi:i < T.length) {U:List AS} (hU:U = mvI d 8589934592 T i 0):MvO d T0 (f - 1,U,i + 1):=by
 subst hU
 have hp:=h.pos.1
 have hr:mvO d f T i = mvO d FU2 T0 0:=h.res
 obtain ⟨g,rfl⟩:∃ g,f = g + 1:=⟨f - 1,by omega⟩
 unfold mvO at hr
 rw [if_pos hi] at hr
 have hf:4294967296 < g + 1 + i:=h.fuel
 exact ⟨aeg h.nd,h.pre.trans (a4g d _ T i 0),hr,Nat.le_trans hi (a4g d _ T i 0).length_le,by show 4294967296 < g + (i + 1);omega⟩
end
end
section
structure ChI (l m:List Fd) (R:List AS) (x:Nat × List AS × Bool):Prop where
 nd:x.2.1.Nodup
 t:x.2.2 = true → chF l m x.1 x.2.1 = R ∧ muT x.2.1 < x.1
 f:x.2.2 = false → x.2.1 = R
def be2 (x:Nat × List AS × Bool):Nat:=x.1 + (bif x.2.2 then 1 else 0)
theorem ChI.start (l m:List Fd) (rest:AS):ChI l m (chT l m rest) (MU,awb rest,true):=⟨b9t rest,fun _=>⟨rfl,b7f _⟩,fun h=>by cases h⟩
theorem ChI.next {l m:List Fd} {R T:List AS} {f:Nat} (h:ChI l m R (f,T,true)):ChI l m R (f - 1,(ul l m T).1,(ul l m T).2) ∧ 0 < f:=by
 obtain ⟨h1,h2⟩:=h.t rfl
 have h2:muT T < f:=h2
 have h1:chF l m f T = R:=h1
 have hn:T.Nodup:=h.nd
 obtain ⟨g,rfl⟩:∃ g,f = g + 1:=⟨f - 1,by omega⟩
 unfold chF at h1
 refine ⟨⟨b0p ax5 b9o hn,fun hc=>?_,fun hc=>?_⟩,by omega⟩
 · have hc:(ul l m T).2 = true:=hc
   rw [if_pos hc] at h1
   have:=b6i hn hc
   exact ⟨h1,by show muT (ul l m T).1 < g;omega⟩
 have hc:(ul l m T).2 = false:=hc
 rw [if_neg (by rw [hc];decide)] at h1
 exact h1
def bds (l:List Fd) (T:List AS) (i:Nat):TC:=(l.take i).foldl fdR (T,false)
def mvX (m:List Fd) (x:TC) (i:Nat):TC:=(m.take i).foldl mvR x
structure FdI (d:Fd) (U0:List AS) (x:Nat × List AS × Bool):Prop where
 nd:x.2.1.Nodup
 res:np d x.1 x.2.1 = np d FU2 U0
 fuel:(orL x.2.1).toNat < x.1
 f:x.2.2 = false → x.2.1 = U0
 t:x.2.2 = true → (fdT d U0).isSome = true
section
variable {d:Fd} {U0 U:List AS} {g:Nat} {b c:Bool} {s:AS}
theorem FdI.start (h:U0.Nodup):FdI d U0 (FU2,U0,false):=⟨h,rfl,Nat.lt_of_lt_of_le (orL U0).isLt (show 2 ^ 32 ≤ FU2 by decide),fun _=>rfl,fun h=>by cases h⟩
theorem FdI.len (h:FdI d U0 (g,U,b)):U.length ≤ 8589934592:=Nat.le_trans (y6 (show U.Nodup from h.nd)) (by decide)
theorem FdI.next (h:FdI d U0 (g,U,b)) (hq:fdT d U = some s):FdI d U0 (g - 1,oz U s,true) ∧ 0 < g:=by
 have h3:(orL U).toNat < g:=h.fuel
 have h2:np d g U = np d FU2 U0:=h.res
 obtain ⟨k,rfl⟩:∃ k,g = k + 1:=⟨g - 1,by omega⟩
 rw [xd hq] at h2
 have h4:=aa6 hq
 refine ⟨⟨a8t U s,h2,(by show (orL (oz U s)).toNat < k;omega),(fun hc=>by cases hc),fun _=>?_⟩,by omega⟩
 cases hb:b with
 | true=>exact h.t hb
 | false =>
  have e:U = U0:=h.f hb
  rw [← e,hq]
  rfl
theorem FdI.done (h:FdI d U0 (g,U,b)) (hq:fdT d U = none):(U,c || b) = fdR (U0,c) d:=by
 have h2:np d g U = np d FU2 U0:=h.res
 rw [a47 hq] at h2
 unfold fdR
 rw [← h2]
 cases hb:b with
 | true=>rw [h.t hb]
 | false =>
  have e:U = U0:=h.f hb
  rw [← e,hq]
  rfl
end
end
section
def a7i (a b:AS):Bool:=s8 b a
def a2h (l:List AS):List AS:=a0i a7i l
def okM (l:List AS) (i k:Nat):Bool:=(List.range k).all fun j=>decide (j = i) || !s8 (l.getD j default) (l.getD i default)
theorem awq (l:List AS) (i k:Nat):okM l i (k + 1) = (okM l i k && (decide (k = i) || !s8 (l.getD k default) (l.getD i default))):=by
 unfold okM
 rw [List.range_succ,List.all_append]
 simp
theorem okM_succ' (l:List AS) (i k:Nat):okM l i (k + 1) = (okM l i k && (decide ((k:Int) = i) || !s8 (l.getD k default) (l.getD i default))):=by
 rw [awq,decide_eq_decide.2 (show (k:Int) = i ↔ k = i by omega)]
theorem ak0 {l:List AS} {i:Nat} (hn:l.Nodup) (hi:i < l.length):okM l i l.length = !tl a7i l (l.getD i default):=by
 rw [Bool.eq_iff_iff]
 unfold okM tl a7i
 rw [List.all_eq_true,Bool.not_eq_true',List.any_eq_false]
 constructor
 · intro h b hb hc
   obtain ⟨j,hj,rfl⟩:=List.getElem_of_mem hb
   have:=h j (List.mem_range.2 hj)
   simp only [Bool.and_eq_true,decide_eq_true_eq,Bool.or_eq_true,Bool.not_eq_true',List.getD_eq_getElem?_getD,List.getElem?_eq_getElem hj,List.getElem?_eq_getElem hi,Option.getD_some] at this hc
   rcases this with h1 | h1
   · subst h1;exact hc.1 rfl
   rw [hc.2] at h1;cases h1
 intro h j hj
 have hj:=List.mem_range.1 hj
 have:=h l[j] (List.getElem_mem hj)
 simp only [List.getD_eq_getElem?_getD,List.getElem?_eq_getElem hj,List.getElem?_eq_getElem hi,Option.getD_some,Bool.or_eq_true,decide_eq_true_eq,Bool.not_eq_true',Bool.and_eq_true] at this ⊢
 by_cases e:j = i
 · exact .inl e
 right
 rw [Bool.eq_false_iff]
 intro hs
 refine this ⟨fun he=>e ?_,hs⟩
 exact ((List.getElem_inj hn).1 he).symm
def nf (l:List AS) (i:Nat):List AS:=((ord l).take i).filter fun x=>!tl a7i (ord l) x
theorem a4w {l:List AS} {i:Nat} (hi:i < (ord l).length) (h:okM (ord l) i (ord l).length = true):nf l (i + 1) = nf l i ++ [(ord l).getD i default]:=by
 rw [ak0 (a2k l) hi] at h
 unfold nf
 rw [b5 hi,List.filter_append]
 simp only [List.filter_cons,h,if_true,List.filter_nil]
theorem a54 {l:List AS} {i:Nat} (hi:i < (ord l).length) (h:okM (ord l) i (ord l).length = false):nf l (i + 1) = nf l i:=by
 rw [ak0 (a2k l) hi] at h
 unfold nf
 rw [b5 hi,List.filter_append]
 simp only [List.filter_cons,h,Bool.false_eq_true,if_false,List.filter_nil,List.append_nil]
theorem aqx (l:List AS) (i:Nat):(nf l i).length ≤ i:=by
 unfold nf
 exact Nat.le_trans (List.length_filter_le _ _) (by rw [List.length_take];omega)
theorem aqy (l:List AS):nf l (ord l).length = a2h l:=by
 unfold nf a2h a0i
 rw [List.take_length]
theorem ato {l:List AS} {z:AS}:z ∈ a2h l ↔ z ∈ l ∧ ∀ b ∈ l,sub b z → b = z:=by
 unfold a2h a0i
 rw [List.mem_filter,ve,Bool.not_eq_true',Bool.eq_false_iff]
 refine and_congr Iff.rfl ?_
 unfold tl a7i s8
 rw [Ne,List.any_eq_true]
 constructor
 · intro h b hb hs
   apply Classical.byContradiction
   intro hne
   exact h ⟨b,ve.2 hb,by rw [Bool.and_eq_true,decide_eq_true_eq,decide_eq_true_eq];exact ⟨fun e=>hne e.symm,hs⟩⟩
 rintro h ⟨b,hb,hc⟩
 rw [Bool.and_eq_true,decide_eq_true_eq,decide_eq_true_eq] at hc
 exact hc.1 (h b (ve.1 hb) hc.2).symm
theorem awa (l:List AS):(a2h l).length ≤ l.length:=Nat.le_trans (List.length_filter_le _ _) (l7 l)
def yq (rest L x:AS) (T:List AS) (y:AS):Bool:=!decide (y = 0) && (decide (y &&& ~~~rest = 0) && decide ((L &&& ~~~(x ||| y)) ∈ T))
def yL (rest L x:AS) (T:List AS) (k:Nat):List AS:=((List.range k).map (BitVec.ofNat 32)).filter (yq rest L x T)
section
variable {rest L x:AS} {T:List AS} {k:Nat}
end
end
section
def bbp (l:List Fd) (p:AS) (k:Nat):List Fd:=(((List.range k).map (BitVec.ofNat 32)).filter fun s=>decide (sub s p)).map fun s=>⟨s,clo l s &&& p⟩
def bdg (l:List Fd) (ps:List AS) (i:Nat):List Fd:=(ps.take i).flatMap fun p=>bbp l p (p.toNat + 1)
def bdl (a b:List Fd):Bool:=b.any fun f=>!imp a f
def bdj (n:Int) (l:List Fd) (ps:List AS):Int:=if br n l = 0 then lsC n ps l [] else br n l
def bdu (n:Int) (l:List Fd) (ps:List AS):Bool:=decide (br n l = 0) && (lsB n ps l [] && nr l ps && ps.all (uc l))
section
variable {n:Int} {l:List Fd} {ps:List AS}
theorem b1p (h0:0 ≤ n) (h8:n ≤ 8) {q:AS} (hq:sub q (aq n)):q.toNat < 65536:=by
 have h1:=anl hq
 have h2:∀ k,k ≤ 8 → (jb k).toNat < 65536:=by decide +kernel
 have h3:(aq n).toNat < 65536:=h2 (min n.toNat 32) (by omega)
 omega
theorem a14 (h:lvE n ps = 0) {q:AS} (hq:q ∈ ps):q.toNat < 65536:=b1p (n3 h).1 (n3 h).2.1 (a9g h hq)
end
end
section
theorem ep (a b:Bs):bL (a ++ b) = bL a ++ bL b:=by simp [ByteArray.data_append]
def pkV (l:List Fd) (p s:AS):Bool:=!decide (p &&& ~~~(clo l s) = 0)
def pkL (l:List Fd) (p:AS):List AS:=a2h ((be p).filter fun s=>!pkV l p s)
def adx (ns:List Bs) (k:AS):List UInt8:=32 :: bL (txT ns k)
def io (ns:List Bs) (ks:List AS) (i:Nat):List UInt8:=(ks.take i).flatMap (adx ns)
def k6 (ns:List Bs) (p:AS):List UInt8:=[112,97,114,116,32] ++ bL (txT ns p) ++ [32,107,101,121,115]
def a08 (ns:List Bs) (l:List Fd) (p:AS):List UInt8:=k6 ns p ++ io ns (pkL l p) (pkL l p).length ++ [10]
def d7 (ns:List Bs) (l:List Fd) (ps:List AS) (i:Nat):List UInt8:=(ps.take i).flatMap (a08 ns l)
def yx (ns:List Bs) (f:Fd):List UInt8:=[108,111,115,116,32] ++ bL (txT ns f.lhs) ++ [32,45,62,32] ++ bL (txT ns f.rhs) ++ [10]
def eq (ns:List Bs) (l:List Fd) (ls:List Nat) (i:Nat):List UInt8:=(ls.take i).flatMap fun j=>yx ns (l.getD j default)
def ir:List Bs:=[⟨#[108,111,115,115,108,101,115,115]⟩,⟨#[112,114,101,115,101,114,118,105,110,103]⟩,⟨#[116,104,105,114,100]⟩,⟨#[98,111,121,99,101]⟩,⟨#[102,111,117,114,116,104]⟩]
def xl (c:Int) (i:Nat):Bool:=decide (bo .and .i64 (c.fdiv (2 ^ (min i 64))) 1 = 1)
def lv (c:Int) (i:Nat):List UInt8:=if xl c i = true then 32 :: bL (ir.getD i default) else []
def fk (c:Int) (i:Nat):List UInt8:=(List.range i).flatMap (lv c)
def ah5 (ns:List Bs) (l:List Fd) (ps:List AS) (c:Int):List UInt8 :=
 d7 ns l ps ps.length ++ eq ns l (b7 l ps l.length) (b7 l ps l.length).length ++ [99,108,97,105,109,115] ++ fk c 5 ++ [10]
section
variable {ns:List Bs} {l:List Fd} {ps:List AS} {c:Int} {i:Nat}
theorem a1p {α:Type} [Inhabited α] {f:α → List UInt8} {q:List α} (h:i < q.length):(q.take (i + 1)).flatMap f = (q.take i).flatMap f ++ f (q.getD i default):=by
 rw [List.take_succ,List.getElem?_eq_getElem h,List.flatMap_append,List.getD_eq_getElem?_getD,List.getElem?_eq_getElem h]
 simp
theorem a6b {ks:List AS} (h:i < ks.length):io ns ks (i + 1) = io ns ks i ++ adx ns (ks.getD i default):=a1p h
theorem a2w (h:i < ps.length):d7 ns l ps (i + 1) = d7 ns l ps i ++ a08 ns l (ps.getD i default):=a1p h
theorem a30 {ls:List Nat} (h:i < ls.length):eq ns l ls (i + 1) = eq ns l ls i ++ yx ns (l.getD (ls.getD i default) default):=a1p h
theorem a1u:fk c (i + 1) = fk c i ++ lv c i:=by
 unfold fk
 rw [List.range_succ,List.flatMap_append]
 simp
theorem tz {α:Type} {f:α → List UInt8} {K:Nat}:∀ {q:List α},(∀ x ∈ q,(f x).length ≤ K) → (q.flatMap f).length ≤ K * q.length
 | [],_=>by simp
 | x :: q,h=>by
  have h1:=h x (by simp)
  have h2:=tz (q:=q) fun y hy=>h y (by simp [hy])
  rw [List.flatMap_cons,List.length_append,List.length_cons,Nat.mul_succ]
  omega
theorem a2f (h:∀ b ∈ ns,b.size ≤ 1000) (s:AS):(bL (txT ns s)).length ≤ 32033:=by
 have:=b3f (s:=s) h
 rw [aa0]
 omega
theorem xu (h:∀ b ∈ ns,b.size ≤ 1000) {ks:List AS}:(io ns ks i).length ≤ 32034 * ks.length:=by
 refine Nat.le_trans (tz (K:=32034) fun x _=>?_) (Nat.mul_le_mul_left _ (by rw [List.length_take];omega))
 have:=a2f h x
 show (bL _).length + 1 ≤ _
 omega
theorem xr (h:∀ b ∈ ns,b.size ≤ 1000) (p:AS):(k6 ns p).length ≤ 32043:=by
 have:=a2f h p
 unfold k6
 simp only [List.length_append,List.length_cons,List.length_nil]
 omega
theorem yu {p:AS} (hp:p.toNat < 65536):(pkL l p).length ≤ 65537:=by
 unfold pkL
 refine Nat.le_trans (awa _) (Nat.le_trans (List.length_filter_le _ _) ?_)
 unfold be v7
 have h1:=a2s (s:=p) (p.toNat + 1) p
 have h2:=l7 (xz p (p.toNat + 1) p)
 split
 · simp
 omega
theorem aq1 (h:∀ b ∈ ns,b.size ≤ 1000) {p:AS} (hp:p.toNat < 65536):(a08 ns l p).length ≤ 2100000000:=by
 have h1:=xu (i:=(pkL l p).length) (ks:=pkL l p) h
 have h2:=xr h p
 have h3:=yu (l:=l) hp
 unfold a08
 simp only [List.length_append,List.length_cons,List.length_nil]
 omega
theorem a89 (h:∀ b ∈ ns,b.size ≤ 1000) (hp:∀ p ∈ ps,p.toNat < 65536) (h64:ps.length ≤ 64):(d7 ns l ps i).length ≤ 134400000000:=by
 have h1:(d7 ns l ps i).length ≤ 2100000000 * (ps.take i).length:=tz (K:=2100000000) fun x hx=>aq1 h (hp x (List.mem_of_mem_take hx))
 rw [List.length_take] at h1
 omega
theorem arm (h:∀ b ∈ ns,b.size ≤ 1000) (f:Fd):(yx ns f).length ≤ 64100:=by
 have h1:=a2f h f.lhs
 have h2:=a2f h f.rhs
 unfold yx
 simp only [List.length_append,List.length_cons,List.length_nil]
 omega
theorem a9a (h:∀ b ∈ ns,b.size ≤ 1000) {ls:List Nat} (hl:ls.length ≤ 64):(eq ns l ls i).length ≤ 4102400:=by
 have h1:(eq ns l ls i).length ≤ 64100 * (ls.take i).length:=tz (K:=64100) fun x _=>arm h _
 rw [List.length_take] at h1
 omega
theorem a69 (h:i ≤ 5):(fk c i).length ≤ 100:=by
 have h1:(fk c i).length ≤ 20 * (List.range i).length:=tz (K:=20) fun x hx=>by
  unfold lv
  split
  · have hx:=List.mem_range.1 hx
    have:(bL (ir.getD x default)).length ≤ 10:=by
     match x,hx with
     | 0,_=>decide
     | 1,_=>decide
     | 2,_=>decide
     | 3,_=>decide
     | 4,_=>decide
     | n + 5,hx=>omega
    show _ + 1 ≤ _
    omega
  exact Nat.zero_le _
 rw [List.length_range] at h1
 omega
theorem aiw {s:AS} {n:Nat} (h8:n ≤ 16) (h:sub s (aq n)) {i:Nat} (hi:i ∈ ap s):i < n:=by
 obtain ⟨h32,hb⟩:=kb.1 hi
 have:=ct.1 h i h32 hb
 have hn:¬ n ≤ i:=fun hle=>by
  have h2:=(ana (s:=aq n) (n:=(n:Int)) (by omega) (by omega)).1 (sub_self _)
  have h3:=congrArg (fun x:AS=>x.getLsbD (i - n)) h2
  simp only [Int.toNat_natCast,BitVec.getLsbD_ushiftRight,show n + (i - n) = i by omega,this] at h3
  simp at h3
 omega
theorem akg {j:Nat} (h:j < (b7 l ps l.length).length):(b7 l ps l.length).getD j default < l.length:=by
 have hm:(b7 l ps l.length).getD j default ∈ b7 l ps l.length:=cu h
 exact List.mem_range.1 (List.mem_filter.1 hm).1
theorem a11:(b7 l ps l.length).length ≤ l.length:=by
 refine Nat.le_trans (List.length_filter_le _ _) ?_
 rw [List.length_range]
 exact Nat.le_refl _
end
end
section
open Go.Proofs
theorem b8o:af Tryz.prog 55 [pA 0] (aj [pP (il [])]):=by
 have h:=aad 0
 rw [a8h] at h
 exact h
theorem aga {ns:List Bs} {q:List Nat} {i:Nat} (h:i < q.length):(q.take (i + 1)).map (fun k=>ns.getD k default) = (q.take i).map (fun k=>ns.getD k default) ++ [ns.getD (q.getD i default) default]:=by
 rw [List.take_succ,List.getElem?_eq_getElem h,List.map_append,List.getD_eq_getElem?_getD (l:=q),List.getElem?_eq_getElem h]
 rfl
theorem b62:goodFn Tryz.prog 51:=wgx Tryz.func51
theorem b3x (ns:List Bs) (hl:∀ b ∈ ns,b.size ≤ maxLen):af Tryz.prog 51 [pA 0,pP (bsl ns)] (aj [pS ⟨#[]⟩,pI (j6 ns)]):=by
 refine a8 (nt:=36) a7 Tryz.func51 rfl rfl l9 ?_;refine w_9 ?_;refine qcx b10 (bco ns hl) ?_;refine w_7 ?_;refine a6 _ rfl (fun r0=>?_) (fun r0=>?_)
 ·
  have h0:=r0
  have h0:=aa (au h0)
  try simp only [ty] at h0
  refine w_6 ?_
  exact hx8 rfl rfl rfl (CoL.refl _)
 have h0:=r0
 have h0:=ae (ar h0)
 try simp only [ty] at h0
 refine w_9 ?_;refine qcx za (b8o) ?_;refine w_4 ?_
 refine ah (ι:=Unit) ⟨[(1,some _),(16,some _),(17,some _)],[]⟩ ⟨⟨c9,c9,c9,trivial⟩,trivial⟩ (fun x=>⟨[(7,some (.v (.one (.p (.sl 0 0 true fun _ _=>.any))))),(18,some (vI 0))],[]⟩) (fun x=>True) (fun x=>0) (()) (trivial) ⟨⟨zy,zy,trivial⟩,trivial⟩ ?_
 rintro _ _
 refine w_5 ?_;refine a6 _ rfl (fun r1=>?_) (fun r1=>?_)
 ·
  have h1:=ae r1
  try simp only [ty] at h1
  exfalso
  exact absurd h1 (by simp)
 have h1:=aa r1
 try simp only [ty] at h1
 refine w_4 ?_;refine rc rfl rfl rfl rfl rfl rfl apa (axb [] ⟨#[32]⟩ rfl (by decide) (by decide)) (⟨CoC.one coN,CoC.refl _,trivial⟩) rfl rfl ?_;refine w_3 ?_
 exact hx8 rfl rfl rfl (⟨CoC.refl _,cci (by omega),trivial⟩)
theorem a9w:goodFn Tryz.prog 54:=wgx Tryz.func54
theorem ads (s:AS) (ns:List Bs) (hm:∀ i ∈ ap s,i < ns.length) (hsz:∀ b ∈ ns,b.size ≤ 1000):af Tryz.prog 54 [pA s,pP (bx (bsl ns))] (aj [pS (txT ns s)]):=by
 refine a8 (nt:=27) a7 Tryz.func54 rfl rfl l9 ?_;refine dl ?_
 have h32:=lg s
 refine w_2 ?_;refine qcx za (aad s) ?_;refine w_4 ?_;refine d6 4 900 true 1 9 (lf bsC []) (by decide) rfl (CoP.sl rfl (.inr rfl) (fun h=>h) (fun i j hi _=>absurd hi (Nat.not_lt_zero i))) (.inr rfl) rfl ?_
 refine ah (ι:=Nat) ⟨[(1,some _),(8,some _),(9,some _)],[]⟩ ⟨⟨c9,c9,c9,trivial⟩,trivial⟩ (fun i=>⟨[(4,some (.v (.one (.ref 900 (((ap s).take i).map fun k=>ns.getD k default).length)))),(10,some (vI i))],[(900,some (.arr true 1 9 (((ap s).take i).map fun k=>ns.getD k default).length (lf bsC (((ap s).take i).map fun k=>ns.getD k default))))]⟩) (fun i=>i ≤ (ap s).length) (fun i=>(ap s).length - i) (0) (Nat.zero_le _) ⟨⟨zy,zy,trivial⟩,⟨u9,trivial⟩⟩ ?_
 rintro i hi
 have hlen:(((ap s).take i).map fun k=>ns.getD k default).length ≤ 32:=by rw [List.length_map,List.length_take];omega
 refine w_5 ?_;refine a6 _ rfl (fun r0=>?_) (fun r0=>?_)
 ·
  have h0:=ae r0
  try simp only [ty] at h0
  have hil:i < (ap s).length:=by omega
  have hk:(ap s).getD i default < ns.length:=hm _ (cu hil)
  refine kf ?_;refine rq rfl rfl rfl rfl rfl ?_ (hp:=⟨rfl,Int.natCast_nonneg _,Int.ofNat_lt.2 hk⟩);refine qy ?_;refine m9 0 ?_;refine ra 1 true rfl rfl rfl rfl rfl rfl ?_;refine w_6 ?_;refine ⟨i + 1, ?_, ?_, ?_⟩
  · show i + 1 ≤ _;omega
  · first | omega | (dsimp only;omega)
  exact ⟨⟨⟨_,rfl,(ca (aga hil))⟩,zy,c9,c9,c9,trivial⟩,⟨⟨_,rfl,(c7 (aga hil) (CoP.refl _))⟩,trivial⟩⟩
 have h0:=aa r0
 try simp only [ty] at h0
 obtain rfl:i = (ap s).length:=by omega
 rw [List.take_length] at hlen ⊢
 refine w_8 ?_;refine a6 _ rfl (fun r1=>?_) (fun r1=>?_)
 ·
  have h1:=ae r1
  try simp only [ty] at h1
  refine w_4 ?_
  exact hx8 rfl rfl rfl (⟨CoC.one (CoP.of_eq (by rw [show txT ns s = ⟨#[45]⟩ from if_pos (by unfold o5;omega)];rfl)),trivial⟩)
 have h1:=aa r1
 try simp only [ty] at h1
 refine w_4 ?_;refine qcx apa (axb (o5 ns s) ⟨#[44]⟩ rfl (by unfold o5;rw [List.length_map];omega) (by have:=aef (s:=s) hsz;omega)) ?_;refine w_2 ?_
 exact hx8 rfl rfl rfl (⟨CoC.one (CoP.of_eq (by rw [show txT ns s = lq (o5 ns s) ⟨#[44]⟩ from if_neg (by unfold o5;omega)])),trivial⟩)
theorem azq:goodFn Tryz.prog 119:=wgx Tryz.func119
theorem bbo (s p:AS) (l:List Fd):af Tryz.prog 119 [pA s,pP (bx (asC p)),pP (bx (fdl l))] (aj [pB (pkV l p s)]):=by
 refine a8 (nt:=11) a7 Tryz.func119 rfl rfl l9 ?_;refine w_5 ?_;refine bg (E:=bj) a7 aw [0,1,2,3,4,5,6] ?_;refine w_3 ?_;refine qcx qf (uf l s) ?_;refine w_4 ?_
 refine ⟨by kernel_rfl, ?_⟩
 exact hx8 rfl rfl rfl (⟨ccb (by unfold pkV;exact congrArg (!·) (decide_eq_decide.2 (by rw [jn,show (0:Int) = asI 0 from rfl,c8]))),trivial⟩)
theorem b0z:goodFn Tryz.prog 170:=wgx Tryz.func170
theorem ba7 (a b:AS):af Tryz.prog 170 [pA a,pA b] (aj [pB (a7i a b)]):=by
 refine a8 (nt:=9) a7 Tryz.func170 rfl rfl l9 ?_;refine fc ?_
 exact hx8 rfl rfl rfl (⟨ccb (decide_eq_decide.2 m7),trivial⟩)
theorem b1f:goodFn Tryz.prog 121:=wgx Tryz.func121
theorem ari (l:List AS) (hl:l.length ≤ 8589934592):af Tryz.prog 121 [pP (asl l)] (aj [pP (asl (a2h l))]):=by
 refine a8 (nt:=5) a7 Tryz.func121 rfl rfl l9 ?_;refine w_7 ?_;refine qcx aiv (ax0 l hl 170 0 _ a7i b0z (fun a b=>ba7 a b)) ?_;refine w_2 ?_
 exact hx8 rfl rfl rfl (CoL.refl _)
theorem b5m:goodFn Tryz.prog 58:=wgx Tryz.func58
theorem cPk (l:List Fd) (p:AS):af Tryz.prog 58 [pP (fdl l),pA p] (aj [pP (asl (pkL l p))]):=by
 refine a8 (nt:=12) a7 Tryz.func58 rfl rfl l9 ?_;refine sx7 ?_;refine m9 0 ?_;refine m9 1 ?_;refine w_3 ?_;refine cz 3 rfl rfl rfl ?_;refine cz 2 rfl rfl rfl ?_;refine w_2 ?_
 refine bf rfl rfl rfl rfl rfl rfl a5a (asq p) (da.refl _) trivial rfl rfl ?_;refine qy ?_
 refine bf rfl rfl rfl rfl rfl rfl aaw ((amb (be p) 119 2 (fun i=>[bx (asC p),bx (fdl l)].getD i .any) (pkV l p) azq (fun x=>bbo x p l)).swap 900 901) (da.refl _) ⟨u9,trivial⟩ rfl rfl ?_;refine w_5 ?_
 refine qcx b1f (ari ((be p).filter fun s=>!pkV l p s) (Nat.le_trans (List.length_filter_le _ _) (Nat.le_trans (qc p) (by decide)))) ?_;refine w_2 ?_
 exact hx8 rfl rfl rfl (CoL.refl _)
end
end Go.Hx
