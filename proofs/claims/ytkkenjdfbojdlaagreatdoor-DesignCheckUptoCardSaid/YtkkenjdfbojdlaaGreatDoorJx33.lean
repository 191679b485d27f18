/- A part of the proof: Y3 Bz5 Bz6 Ch15 Y4 Y6 Y7 Bz7 Y8 Bz8. -/
import Derived.Test.YtkkenjdfbojdlaaGreatDoorJx32
set_option linter.all false
set_option maxRecDepth 100000
set_option maxHeartbeats 1000000
namespace Go.Hx
section
open Go.Proofs
section
variable {n:Int}
def b0h (h:n <= 16):a8 n >>> n.toNat = 0:=by
 unfold a8;rw [show min n.toNat 32 = n.toNat by omega];exact (u7 bnl).1 (im _)
variable {l m:List Fd} {x:AS}
def axo (h:ckB n l m x = 0):a6 bo6 192 [pI n,pP (fdl l),pP (fdl m),pA x] (a7 [pP (asl (dc n l m x)),pI 0]):=by
 have:=b8l n l m x;rw [h,show b0u n l m x = dc n l m x from if_pos h] at this;exact this
def ay5 (h:ckB n l m x = 0):a6 bo6 139 [pI n,pP (fdl l),pP (fdl m),pA x] (a7 [pA (od n l m x),pI 0]):=by
 have:=b4t n l m x;rw [h,show aqt n l m x = od n l m x from if_pos h] at this;exact this
def abz {p:AS} (h:p &&& ~~~(od n l m x) = 0):a4s n l m p x = none:=if_pos h
def ad1 {p:AS} (h:¬ p &&& ~~~(od n l m x) = 0) (h2:¬ 1 < (o5 n l m x p).length):a4s n l m p x = none:=by unfold a4s;rw [if_neg h,if_neg h2]
def av7 {p:AS} (h:¬ p &&& ~~~(od n l m x) = 0) (h2:1 < (o5 n l m x p).length):a4s n l m p x = some ⟨x,(o5 n l m x p).getD 0 default⟩:=by unfold a4s;rw [if_neg h,if_pos h2]
def is4 (n:Int) (l m:List Fd):Bool:=if ck4 n l m 0 = 0 then !(a64 n l m (a8 n)).2 else false
def bff (n:Int) (l m:List Fd) (x p:AS):a6 bo6 140 [pI n,pP (fdl l),pP (fdl m),pA x,pA p] (a7 [pP (asl (axx n l m x p)),pI (ck4 n l m (x ||| p))]):=by
 refine hpx (nt:=58) Tryz.func140 ?_;refine nx ?_;refine rc rfl rfl rfl rfl rfl rfl (wgx Tryz.func79) (aon n l m (x ||| p)) (⟨CoC.refl _,CoC.refl _,CoC.refl _,cci (bOr _ _),trivial⟩) rfl rfl ?_;refine w_7 ?_;refine hcn (fun h0=>?_) (fun h0=>?_)
 · refine v_6 ?_;exact ⟨CoC.one (a38 (if_neg bnm)),CoC.refl _,trivial⟩
 have hz:ck4 n l m (x ||| p) = 0:=h0;have hx:=ae4 (akh hz).2.2 (yh (a:=x) (b:=p));refine w_7 ?_;refine qcx (wgx Tryz.func192) (axo hx) ?_;refine bbz ?_;refine cb 15 900 true 1 46 (lf sC []) bns rfl (CoP.sl rfl (.inr rfl) (fun h=>h) (fun i j hi _=>absurd hi (bjh i))) (.inr rfl) rfl ?_;have hbl:=a3r n l m x;refine bg (ka 4 (ka 39 (ka 40 kn))) km (fun i=>⟨[(15,some (.v (.one (.ref 900 (mq p ((dc n l m x).take i)).length)))),(41,some (vI i))],[(900,some (.arr true 1 46 (mq p ((dc n l m x).take i)).length (lf sC (mq p ((dc n l m x).take i)))))]⟩) ((dc n l m x).length) ⟨⟨⟨_,rfl,(CoR.refl _)⟩,⟨_,rfl,(CoR.refl _)⟩,trivial⟩,uu⟩ ?_;rintro i hi;have hcl:(mq p ((dc n l m x).take i)).length <= i:=bjr (aai _ _) (by rw [bjn];omega);refine w_5 ?_;refine hcd (fun h1=>?_) (fun h1=>?_)
 ·
  refine sh ?_;refine hcn (fun h2=>?_) (fun h2=>?_)
  ·
   have hq:¬ (dc n l m x).getD i default &&& p = 0:=oz h2;refine w_5 ?_;refine m9 0 ?_;refine r9 1 true ?_;refine w_6 ?_
   first | (refine ⟨i + 1, ?_, ?_, ?_⟩
            · show i + 1 <= _;omega
            · first | omega | (dsimp only;omega)
            exact ⟨⟨⟨_,rfl,(bv (wo bnl hq))⟩,⟨_,rfl,(CoR.refl _)⟩,tt⟩,⟨⟨_,rfl,(bt (wo bnl hq) (CoP.of_eq (congrArg (fun z=>PV.raw (.int .u32 z)) (fc _ _))))⟩,trivial⟩⟩)
         | (refine ⟨i + 1, ?_, ?_, ?_⟩
            · show i + 1 <= _;omega
            · first | omega | (dsimp only;omega)
            exact ⟨⟨⟨_,rfl,(bz (wh bnl hq))⟩,⟨_,rfl,(CoR.refl _)⟩,tt⟩,⟨⟨_,rfl,(bq (wh bnl hq))⟩,trivial⟩⟩)
  have hq:(dc n l m x).getD i default &&& p = 0:=ug h2;refine w_5 ?_
  first | (refine ⟨i + 1, ?_, ?_, ?_⟩
           · show i + 1 <= _;omega
           · first | omega | (dsimp only;omega)
           exact ⟨⟨⟨_,rfl,(bv (wo bnl hq))⟩,⟨_,rfl,(CoR.refl _)⟩,tt⟩,⟨⟨_,rfl,(bt (wo bnl hq) (CoP.of_eq (congrArg (fun z=>PV.raw (.int .u32 z)) (fc _ _))))⟩,trivial⟩⟩)
        | (refine ⟨i + 1, ?_, ?_, ?_⟩
           · show i + 1 <= _;omega
           · first | omega | (dsimp only;omega)
           exact ⟨⟨⟨_,rfl,(bz (wh bnl hq))⟩,⟨_,rfl,(CoR.refl _)⟩,tt⟩,⟨⟨_,rfl,(bq (wh bnl hq))⟩,trivial⟩⟩)
 obtain rfl:i = (dc n l m x).length:=by omega
 rw [show (dc n l m x).take (dc n l m x).length = (dc n l m x) from bjk];refine w_2 ?_;refine aq 15 rfl rfl rfl ?_;refine w_2 ?_;refine qcx y4 (a5z (mq p (dc n l m x)) (a7l n l m x p)) ?_;refine v_3 ?_;exact ⟨CoC.one (CoP.of_eq (by rw [show axx n l m x p = o5 n l m x p from if_pos hz];rfl)),cci hz.symm,trivial⟩
def bcf {p:AS} (h:ck4 n l m (x ||| p) = 0):a6 bo6 140 [pI n,pP (fdl l),pP (fdl m),pA x,pA p] (a7 [pP (asl (o5 n l m x p)),pI 0]):=by
 have:=bff n l m x p;rw [h,show axx n l m x p = o5 n l m x p from if_pos h] at this;exact this
def beu (n:Int) (l m:List Fd) (p:AS):a6 bo6 80 [pI n,pP (fdl l),pP (fdl m),pA p] (a7 [(a64 n l m p).1.pc,pB (a64 n l m p).2,pI (ck4 n l m p)]):=by
 refine hpx (nt:=72) Tryz.func80 ?_;refine sx7 ?_;refine m9 0 ?_;refine c7 ?_;refine qcx (wgx Tryz.func79) (aon n l m p) ?_;refine w_7 ?_;refine hcn (fun h0=>?_) (fun h0=>?_)
 · refine v_8 ?_;exact by rw [bc3 bnm];exact ⟨CoC.agg ⟨CoP.of_eq rfl,CoP.of_eq rfl,trivial⟩,CoC.refl _,CoC.refl _,trivial⟩
 have hz:ck4 n l m p = 0:=h0;have hsl:=ta p;refine w_5 ?_;refine qcx a89 (b16 p) ?_;refine w_4 ?_;refine ae (ι:=Nat) (ka 0 (ka 1 (ka 2 (ka 3 (ka 8 (ka 27 (ka 28 kn))))))) (kb 0 km) (fun i=>⟨[(29,some (vI i))],[]⟩) (fun i=>i <= (aw p).length /\ ((aw p).take i).findSome? (a4s n l m p) = none) (fun i=>(aw p).length - i) (0) (⟨bji _,rfl⟩) ⟨⟨⟨_,rfl,(CoR.refl _)⟩,trivial⟩,trivial⟩ ?_;rintro i ⟨hi,hI⟩;refine w_5 ?_;refine hcd (fun h1=>?_) (fun h1=>?_)
 ·
  have hil:i < (aw p).length:=by omega
  have hxs:sub ((aw p).getD i default) p:=afp (a0f hil);have hX:ckB n l m ((aw p).getD i default) = 0:=ae4 (akh hz).2.2 hxs;have hXp:ck4 n l m (((aw p).getD i default) ||| p) = 0:=b5w hz (a1v hxs (im p));refine lb ?_;refine qcx (wgx Tryz.func139) (ay5 hX) ?_;refine alj ?_;refine hcd (fun h2=>?_) (fun h2=>?_)
  · have hq:p &&& ~~~(od n l m ((aw p).getD i default)) = 0:=are h2;refine w_5 ?_;refine lpz (i + 1) ⟨⟨⟨_,rfl,(CoR.refl _)⟩,tt⟩,uu⟩ ?_;exact ⟨by omega,(ja hil hI).trans (by first | exact abz hq | exact ad1 hq hc)⟩
  have hq:¬ p &&& ~~~(od n l m ((aw p).getD i default)) = 0:=ai0 h2;refine w_8 ?_;refine qcx (wgx Tryz.func140) (bcf hXp) ?_;refine alx ?_;refine hcd (fun h3=>?_) (fun h3=>?_)
  ·
   have hc:1 < (o5 n l m ((aw p).getD i default) p).length:=by omega
   have hcl:(o5 n l m ((aw p).getD i default) p).length <= 8589934592:=bjr (lj _) (a7l n l m ((aw p).getD i default) p);refine ct ?_;refine hrr ?_
   have he:a64 n l m p = (⟨((aw p).getD i default),(o5 n l m ((aw p).getD i default) p).getD 0 default⟩,true):=by
    rw [am7 hz,show lw n l m p = some _ from tg hil hI (av7 hq hc)];rfl
   exact f9 rfl rfl (by rw [he];exact ⟨CoC.agg ⟨CoP.refl _,CoP.refl _,trivial⟩,CoC.refl _,cci hz.symm,trivial⟩)
  have hc:¬ 1 < (o5 n l m ((aw p).getD i default) p).length:=by omega
  refine w_5 ?_;refine lpz (i + 1) ⟨⟨⟨_,rfl,(CoR.refl _)⟩,tt⟩,uu⟩ ?_;exact ⟨by omega,(ja hil hI).trans (by first | exact abz hq | exact ad1 hq hc)⟩
 obtain rfl:i = (aw p).length:=by omega
 rw [show (aw p).take (aw p).length = (aw p) from bjk] at hI;refine w_8 ?_;refine hrr ?_
 have he:a64 n l m p = (⟨0,0⟩,false):=by
  rw [am7 hz,show lw n l m p = none from hI];rfl
 exact f9 rfl rfl (by rw [he];exact ⟨CoC.agg ⟨CoP.of_eq rfl,CoP.of_eq rfl,trivial⟩,CoC.refl _,cci hz.symm,trivial⟩)
end
end
section
structure Mx where
 d:Dps
 m:List Dp
deriving Inhabited
def Mx.mv (x:Mx):List Fd:=x.m.map (Dp.fd x.d.num)
def Mx.c (x:Mx):Nat -> PV
 | 0=>x.d.c 0
 | 1=>x.d.c 1
 | 2=>dpl x.m
 | _=>.any
abbrev Mx.pc (x:Mx):PC:=.agg [x.c 0,x.c 1,x.c 2]
def Mx.ok (x:Mx):Bool:=decide (x.d.l.length <= 6) && decide (x.m.length <= 4)
def bdb {a b:List AS} (hl:a.length = b.length) (h:∀ j,j < a.length -> a.getD j default = b.getD j default):a = b:=by
 apply List.ext_getElem hl;intro i h1 h2;have:=h i h1;rw [bjd,bjd,bjc h1,bjc h2] at this;simpa using this
def bj5 (n:Int) (l m:List Fd) (ps:List AS):Int:=if ck4 n l m 0 = 0 then lsC n ps l m else ck4 n l m 0
def bj4 (n:Int) (l m:List Fd) (ps:List AS):Bool:=if ck4 n l m 0 = 0 then (if lsC n ps l m = 0 then lsB n ps l m && ps.all (fun p=>!vBo (lw n l m) p) else false) else false
end
section
def fdP (d:Fd) (r k:AS):Option AS:=if (r ^^^ k) &&& d.lhs = 0 then (if (r ^^^ k) &&& d.rhs = 0 then none else some ((r ^^^ k) &&& d.rhs)) else none
def fdQ (d:Fd) (T:List AS) (r:AS):Option AS:=T.findSome? (fdP d r)
def fdT (d:Fd) (T:List AS):Option AS:=T.findSome? (fdQ d T)
section
variable {T:List AS} {d:Fd}
def als {s:AS} (h:fdT d T = some s):∃ r ∈ T,∃ k ∈ T,agB d r k = true /\ s = (r ^^^ k) &&& d.rhs /\ s ≠ 0:=by
 unfold fdT at h;obtain ⟨r,hr,h⟩:=bn3 h;unfold fdQ at h;obtain ⟨k,hk,h⟩:=bn3 h;unfold fdP at h;split at h
 · rename_i h1
   split at h
   · cases h
   rename_i h2;cases h;exact ⟨r,hr,k,hk,decide_eq_true h1,rfl,h2⟩
 cases h
def ay0 (h:fdT d T = none):∀ r ∈ T,∀ k ∈ T,agB d r k = true -> (r ^^^ k) &&& d.rhs = 0:=by
 intro r hr k hk ha;unfold fdT at h;rw [bm1] at h;have h:=h r hr;unfold fdQ at h;rw [bm1] at h;have h:=h k hk;unfold fdP at h;rw [if_pos (of_decide_eq_true ha)] at h;split at h
 · assumption
 cases h
def ahq {r k:AS} (h:¬ (r ^^^ k) &&& d.lhs = 0):fdP d r k = none:=if_neg h
def ahn {r k:AS} (h:(r ^^^ k) &&& d.lhs = 0) (h2:(r ^^^ k) &&& d.rhs = 0):fdP d r k = none:=by unfold fdP;rw [if_pos h,if_pos h2]
def b2q {r k:AS} (h:(r ^^^ k) &&& d.lhs = 0) (h2:¬ (r ^^^ k) &&& d.rhs = 0):fdP d r k = some ((r ^^^ k) &&& d.rhs):=by unfold fdP;rw [if_pos h,if_neg h2]
def wl (h:T.Nodup):T.length <= 4294967296:=by
 have h1:(T.map BitVec.toNat).Nodup:=List.Pairwise.map _ (fun a b hab e=>hab (bka e)) h
 have h2:∀ x ∈ T.map BitVec.toNat,x < 4294967296:=by
  intro x hx;obtain ⟨a,_,rfl⟩:=bkg.1 hx;exact a.isLt
 have hlen:(T.map BitVec.toNat).length = T.length:=bk0 _;rw [<- hlen]
 have key:∀ (N:Nat) (l:List Nat),l.Nodup -> (∀ x ∈ l,x < N) -> l.length <= N:=by
  intro N
  induction N with
  | zero =>
   intro l _ hl
   cases l with
   | nil=>exact bjg _
   | cons a l=>exact absurd (hl a bnp) (bjh _)
  | succ N ih =>
   intro l hn hl
   have h3:=ih (l.filter fun x=>!decide (x = N)) (hn.filter _) fun x hx=>by
    rw [blj] at hx;have:=hl x hx.1;have hx2:¬ x = N:=by simpa using hx.2
    omega
   have h4:l.length <= (l.filter fun x=>!decide (x = N)).length + 1:=by
    have h5:∀ l:List Nat,l.length = (l.filter fun x=>!decide (x = N)).length + l.countP fun x=>decide (x = N):=by
     intro l
     induction l with
     | nil=>rfl
     | cons a l ih =>
      by_cases e:a = N
      · simp [bko,bm0,e,ih];omega
      simp [bko,bm0,e,ih];omega
    have h6:=h5 l
    have h7:(l.countP fun x=>decide (x = N)) <= 1:=by
     have:=hn.count (a:=N)
     have e:(l.countP fun x=>decide (x = N)) = l.count N:=by
      unfold List.count;congr 1
     rw [e]
     first | exact List.nodup_iff_count.1 hn N | (rw [this];split <;> omega)
    omega
   omega
 exact key _ _ h1 h2
def yg {i:Nat} (hi:i < 32):(orL T).getLsbD i = T.any fun r=>r.getLsbD i:=by
 unfold orL
 have:∀ (T:List AS) (o:AS),(T.foldl (· ||| ·) o).getLsbD i = (o.getLsbD i || T.any fun r=>r.getLsbD i):=by
  intro T
  induction T with
  | nil=>intro o;simp
  | cons a T ih=>intro o;rw [blb,ih,bky,List.any_cons,Bool.or_assoc]
 rw [this];simp
def b76 {s:AS}:orL (jv T s) = orL T &&& ~~~s:=by
 apply kg;intro i hi;rw [yg hi,cz hi,yg hi]
 cases hs:s.getLsbD i with
 | true =>
  simp only [bmm,bnj];rw [bl5];intro z hz;obtain ⟨r,hr,rfl⟩:=s6.1 hz;rw [cz hi,hs];simp
 | false =>
  simp only [bnh,Bool.and_true];rw [blh,bke,bke];constructor
  · rintro ⟨z,hz,hb⟩
    obtain ⟨r,hr,rfl⟩:=s6.1 hz;rw [cz hi,bjm] at hb;exact ⟨r,hr,hb.1⟩
  rintro ⟨r,hr,hb⟩;exact ⟨r &&& ~~~s,s6.2 ⟨r,hr,rfl⟩,by rw [cz hi,hb,hs];rfl⟩
def ae2 {s:AS} (h:fdT d T = some s):(orL (jv T s)).toNat < (orL T).toNat:=by
 obtain ⟨r,hr,k,hk,_,rfl,hz⟩:=als h;rw [b76];refine yi tk fun e=>?_;obtain ⟨i,hi,hb⟩:=akt hz;have h1:=congrArg (fun z:AS=>z.getLsbD i) e;simp only [cz hi,hb,bmm,bnj] at h1;have h1:(orL T).getLsbD i = false:=h1.symm;rw [yg hi,bl5] at h1;rw [bjv,bna,bjm] at hb;have h2:r.getLsbD i = false:=by simpa using h1 r hr
 have h3:k.getLsbD i = false:=by simpa using h1 k hk
 rw [h2,h3] at hb;simp at hb
def qi (d:Fd):Nat -> List AS -> List AS
 | 0,T=>T
 | f + 1,T=>match fdT d T with
  | none=>T
  | some s=>qi d f (jv T s)
def mvS (d:Fd) (T:List AS) (i k:Nat):List AS:=if agB d (T.getD i default) (T.getD k default) = true then fy T (ku d (T.getD i default) (T.getD k default)) else T
def mvI (d:Fd):Nat -> List AS -> Nat -> Nat -> List AS
 | 0,T,_,_=>T
 | f + 1,T,i,k=>if k < T.length then mvI d f (mvS d T i k) i (k + 1) else T
def mvO (d:Fd):Nat -> List AS -> Nat -> List AS
 | 0,T,_=>T
 | f + 1,T,i=>if i < T.length then mvO d f (mvI d 8589934592 T i 0) (i + 1) else T
def a1y (d:Fd) (T:List AS) (i k:Nat):T <+: mvS d T i k:=by
 unfold mvS fy;split
 · split
   · exact bme _
   exact List.prefix_append _ _
 exact bme _
def xx (d:Fd):∀ (f:Nat) (T:List AS) (i k:Nat),T <+: mvI d f T i k
 | 0,T,_,_=>bme _
 | f + 1,T,i,k=>by
  unfold mvI;split
  · exact (a1y d T i k).trans (xx d f _ i (k + 1))
  exact bme _
def a1p (d:Fd):∀ (f:Nat) (T:List AS) (i:Nat),T <+: mvO d f T i
 | 0,T,_=>bme _
 | f + 1,T,i=>by
  unfold mvO;split
  · exact (xx d _ T i 0).trans (a1p d f _ (i + 1))
  exact bme _
variable {A B:List AS}
def aty (h:A <+: B) (hl:B.length = A.length):B = A:=by
 obtain ⟨C,rfl⟩:=h;rw [bjj] at hl;rw [List.length_eq_zero_iff.1 (show C.length = 0 by omega),bkd]
def a8z {C:List AS} (h:A <+: B) (k:B <+: C) (hl:C.length = A.length):B = A:=by
 have h1:=h.length_le;have h2:=k.length_le;exact aty h bnl
def akq:∀ {f:Nat} {T:List AS} {i k:Nat},T.length < f + k -> (mvI d f T i k).length = T.length -> ∀ j,k <= j -> j < T.length -> agB d (T.getD i default) (T.getD j default) = true -> ku d (T.getD i default) (T.getD j default) ∈ T
 | 0,T,i,k,hf,_,j,hj,hjl,_=>by omega
 | f + 1,T,i,k,hf,hl,j,hj,hjl,ha=>by
  unfold mvI at hl;rw [if_pos bnl] at hl;have e:=a8z (a1y d T i k) (xx d f _ i (k + 1)) hl;by_cases hjk:j = k
  · subst hjk
    unfold mvS fy at e;rw [if_pos ha] at e;split at e
    · assumption
    have:=congrArg List.length e;simp at this
  rw [e] at hl;exact akq bnl hl j bnl hjl ha
def aig:∀ {f:Nat} {T:List AS} {i:Nat},T.length <= 4294967296 -> T.length < f + i -> (mvO d f T i).length = T.length -> ∀ a,i <= a -> a < T.length -> ∀ j,j < T.length -> agB d (T.getD a default) (T.getD j default) = true -> ku d (T.getD a default) (T.getD j default) ∈ T
 | 0,T,i,_,hf,_,a,ha,hal,_,_,_=>by omega
 | f + 1,T,i,hT,hf,hl,a,ha,hal,j,hj,hag=>by
  unfold mvO at hl;rw [if_pos bnl] at hl;have e:=a8z (xx d 8589934592 T i 0) (a1p d f _ (i + 1)) hl;by_cases hai:a = i
  · subst hai
    exact akq bnl (congrArg List.length e) j (bji _) hj hag
  rw [e] at hl;exact aig hT bnl hl a bnl hal j hj hag
def au0 {i k:Nat} (h:T.Nodup):(mvS d T i k).Nodup:=by
 unfold mvS;split
 · exact xq h
 exact h
def al1:∀ {f:Nat} {T:List AS} {i k:Nat},T.Nodup -> (mvI d f T i k).Nodup
 | 0,T,_,_,h=>h
 | f + 1,T,i,k,h=>by
  unfold mvI;split
  · exact al1 (au0 h)
  exact h
def ajt:∀ {f:Nat} {T:List AS} {i:Nat},T.Nodup -> (mvO d f T i).Nodup
 | 0,T,_,h=>h
 | f + 1,T,i,h=>by
  unfold mvO;split
  · exact ajt (al1 h)
  exact h
abbrev TC:=List AS × Bool
def FU2:Nat:=8589934592
def fdR (x:TC) (d:Fd):TC:=(qi d FU2 x.1,x.2 || (fdT d x.1).isSome)
def mvR (x:TC) (d:Fd):TC:=(mvO d FU2 x.1 0,x.2 || decide (x.1.length < (mvO d FU2 x.1 0).length))
def n7 (fs ms:List Fd) (T:List AS):TC:=ms.foldl mvR (fs.foldl fdR (T,false))
def chF (fs ms:List Fd):Nat -> List AS -> List AS
 | 0,T=>T
 | f + 1,T=>if (n7 fs ms T).2 = true then chF fs ms f (n7 fs ms T).1 else (n7 fs ms T).1
def muT (T:List AS):Nat:=(orL T).toNat * FU2 + (4294967296 - T.length)
def a01 {f:Nat} {s:AS} (h:fdT d T = some s):qi d (f + 1) T = qi d f (jv T s):=by
 show (match fdT d T with | none=>T | some s=>qi d f (jv T s)) = _;rw [h]
def a06 {f:Nat} (h:fdT d T = none):qi d f T = T:=by
 cases f with
 | zero=>rfl
 | succ f =>
  show (match fdT d T with | none=>T | some s=>qi d f (jv T s)) = _;rw [h]
variable {P:List AS -> Prop}
def al9 (hP:∀ T s,P T -> fdT d T = some s -> P (jv T s)):∀ (f:Nat) (T:List AS),P T -> P (qi d f T)
 | 0,T,h=>h
 | f + 1,T,h=>by
  cases hq:fdT d T with
  | none=>rw [a06 hq];exact h
  | some s=>rw [a01 hq];exact al9 hP f _ (hP T s h hq)
def aoq (hP:∀ T r k,P T -> r ∈ T -> k ∈ T -> agB d r k = true -> P (fy T (ku d r k))):∀ (f:Nat) (T:List AS) (i k:Nat),i < T.length -> P T -> P (mvI d f T i k)
 | 0,T,_,_,_,h=>h
 | f + 1,T,i,k,hi,h=>by
  unfold mvI;split
  · rename_i hk
    refine aoq hP f _ i (k + 1) (bll hi (a1y d T i k).length_le) ?_;unfold mvS;split
    · rename_i ha
      exact hP T _ _ h (a0f hi) (a0f hk) ha
    exact h
  exact h
def ad8 (hP:∀ T r k,P T -> r ∈ T -> k ∈ T -> agB d r k = true -> P (fy T (ku d r k))):∀ (f:Nat) (T:List AS) (i:Nat),P T -> P (mvO d f T i)
 | 0,T,_,h=>h
 | f + 1,T,i,h=>by
  unfold mvO;split
  · rename_i hi
    exact ad8 hP f _ (i + 1) (aoq hP _ T i 0 hi h)
  exact h
variable {fs:List Fd}
def a7f (hP:∀ d ∈ fs,∀ T s,P T -> fdT d T = some s -> P (jv T s)):∀ (ds:List Fd) (x:TC),(∀ d ∈ ds,d ∈ fs) -> P x.1 -> P (ds.foldl fdR x).1
 | [],x,_,h=>h
 | d :: ds,x,hd,h=>a7f hP ds (fdR x d) (fun e he=>hd e (by simp [he])) (al9 (hP d (hd d bnp)) _ _ h)
variable {ms:List Fd}
def adz (hP:∀ d ∈ ms,∀ T r k,P T -> r ∈ T -> k ∈ T -> agB d r k = true -> P (fy T (ku d r k))):∀ (ds:List Fd) (x:TC),(∀ d ∈ ds,d ∈ ms) -> P x.1 -> P (ds.foldl mvR x).1
 | [],x,_,h=>h
 | d :: ds,x,hd,h=>adz hP ds (mvR x d) (fun e he=>hd e (by simp [he])) (ad8 (hP d (hd d bnp)) _ _ _ h)
def a7p (h1:∀ d ∈ fs,∀ T s,P T -> fdT d T = some s -> P (jv T s)) (h2:∀ d ∈ ms,∀ T r k,P T -> r ∈ T -> k ∈ T -> agB d r k = true -> P (fy T (ku d r k))) (h:P T):P (n7 fs ms T).1 :=
 adz h2 ms _ (fun _ h=>h) (a7f h1 fs (T,false) (fun _ h=>h) h)
def avi (h1:∀ d ∈ fs,∀ T s,P T -> fdT d T = some s -> P (jv T s)) (h2:∀ d ∈ ms,∀ T r k,P T -> r ∈ T -> k ∈ T -> agB d r k = true -> P (fy T (ku d r k))):∀ (f:Nat) (T:List AS),P T -> P (chF fs ms f T)
 | 0,T,h=>h
 | f + 1,T,h=>by
  unfold chF;split
  · exact avi h1 h2 f _ (a7p h1 h2 h)
  exact a7p h1 h2 h
def ahr:∀ d ∈ fs,∀ (T:List AS) (s:AS),T.Nodup -> fdT d T = some s -> (jv T s).Nodup:=fun _ _ T s _ _=>acu T s
def art:∀ d ∈ ms,∀ (T:List AS) (r k:AS),T.Nodup -> r ∈ T -> k ∈ T -> agB d r k = true -> (fy T (ku d r k)).Nodup:=fun _ _ _ _ _ h _ _ _=>xq h
def ala:∀ (ds:List Fd) (x:TC),x.2 = true -> (ds.foldl fdR x).2 = true
 | [],x,h=>h
 | d :: ds,x,h=>ala ds (fdR x d) (by unfold fdR;simp [h])
def aah:∀ (ds:List Fd) (x:TC),x.2 = true -> (ds.foldl mvR x).2 = true
 | [],x,h=>h
 | d :: ds,x,h=>aah ds (mvR x d) (by unfold mvR;simp [h])
def al4:∀ {ds:List Fd} {x:TC},(ds.foldl fdR x).2 = false -> ds.foldl fdR x = x /\ ∀ d ∈ ds,fdT d x.1 = none
 | [],x,h=>⟨rfl,fun _ h=>by cases h⟩
 | d :: ds,x,h=>by
  have hx2:(fdR x d).2 = false:=by
   cases hq:(fdR x d).2 with
   | false=>rfl
   | true=>rw [blb,ala ds _ hq] at h;cases h
  have hd:x.2 = false /\ fdT d x.1 = none:=by
   unfold fdR at hx2;rw [bmj] at hx2;exact ⟨hx2.1,by cases hq:fdT d x.1 with | none=>rfl | some s=>rw [hq] at hx2;cases hx2.2⟩
  have e:fdR x d = x:=by
   unfold fdR;rw [a06 hd.2,hd.2];simp
  rw [blb,e] at h;obtain ⟨q1,q2⟩:=al4 h;refine ⟨by rw [blb,e];exact q1,fun k hk=>?_⟩
  rcases bjq.1 hk with rfl | hk
  · exact hd.2
  exact q2 k hk
def ahy:∀ {ds:List Fd} {x:TC},x.1.Nodup -> (ds.foldl mvR x).2 = false -> ds.foldl mvR x = x /\ ∀ d ∈ ds,∀ r ∈ x.1,∀ k ∈ x.1,agB d r k = true -> ku d r k ∈ x.1
 | [],x,_,h=>⟨rfl,fun _ h=>by cases h⟩
 | d :: ds,x,hn,h=>by
  have hx2:(mvR x d).2 = false:=by
   cases hq:(mvR x d).2 with
   | false=>rfl
   | true=>rw [blb,aah ds _ hq] at h;cases h
  have hfew:=wl hn
  have hd:x.2 = false /\ (mvO d FU2 x.1 0).length = x.1.length:=by
   unfold mvR at hx2;rw [bmj] at hx2;refine ⟨hx2.1, ?_⟩;have h1:=of_decide_eq_false hx2.2;have h2:=(a1p d FU2 x.1 0).length_le;omega
  have e0:mvO d FU2 x.1 0 = x.1:=aty (a1p d FU2 x.1 0) hd.2
  have e:mvR x d = x:=by
   unfold mvR;rw [e0];simp
  rw [blb,e] at h;obtain ⟨q1,q2⟩:=ahy hn h;refine ⟨by rw [blb,e];exact q1,fun k hk=>?_⟩
  rcases bjq.1 hk with rfl | hk
  · intro r hr q hq ha
    obtain ⟨i,hi,rfl⟩:=bmv.1 hr;obtain ⟨j,hj,rfl⟩:=bmv.1 hq;have g:=aig (d:=k) (f:=FU2) (T:=x.1) (i:=0) hfew (by show _ < 8589934592 + 0;omega) hd.2 i (bji _) hi j hj;have ei:x.1.getD i default = x.1[i]:=by rw [bjd,bjc hi];rfl
    have ej:x.1.getD j default = x.1[j]:=by rw [bjd,bjc hj];rfl
    rw [ei,ej] at g;exact g ha
  exact q2 k hk
def axg (hn:T.Nodup) (h:(n7 fs ms T).2 = false):(n7 fs ms T).1 = T /\ ahv fs ms T:=by
 unfold n7 at h ⊢
 have h0:(fs.foldl fdR (T,false)).2 = false:=by
  cases hq:(fs.foldl fdR (T,false)).2 with
  | false=>rfl
  | true=>rw [aah ms _ hq] at h;cases h
 obtain ⟨e1,c1⟩:=al4 h0;rw [e1] at h ⊢;obtain ⟨e2,c2⟩:=ahy (x:=(T,false)) hn h;rw [e2];exact ⟨rfl,fun d hd=>ay0 (c1 d hd),fun d hd r hr k hk ha=>c2 d hd r hr k hk ha⟩
def avv (h:(orL B).toNat < (orL A).toNat):muT B < muT A:=by
 unfold muT;have h1:((orL B).toNat + 1) * FU2 <= (orL A).toNat * FU2:=bjt _ h;rw [bkj] at h1;have:FU2 = 8589934592:=rfl;omega
def b2w (hp:A <+: B) (ho:(orL B).toNat = (orL A).toNat) (hB:B.length <= 4294967296):muT B <= muT A /\ (A.length < B.length -> muT B < muT A):=by
 unfold muT;rw [ho];have:=hp.length_le;omega
def b83 {r k:AS} (hr:r ∈ T) (hk:k ∈ T):orL (fy T (ku d r k)) = orL T:=by
 apply kg;intro i hi;rw [yg hi,yg hi,blh,bke,bke];constructor
 · rintro ⟨z,hz,hb⟩
   rcases oo.1 hz with hz | rfl
   · exact ⟨z,hz,hb⟩
   rw [vm hi] at hb;split at hb
   · exact ⟨r,hr,hb⟩
   exact ⟨k,hk,hb⟩
 rintro ⟨z,hz,hb⟩;exact ⟨z,oo.2 (.inl hz),hb⟩
def b4c {f:Nat} {i:Nat}:orL (mvO d f T i) = orL T :=
 ad8 (P:=fun X=>orL X = orL T) (fun X r k h hr hk _=>(b83 hr hk).trans h) f T i rfl
def aox {T0:List AS} (f:Nat):∀ (T:List AS),muT T <= muT T0 -> muT (qi d f T) <= muT T0:=by
 induction f with
 | zero=>intro T h;exact h
 | succ f ih =>
  intro T h
  cases hq:fdT d T with
  | none=>rw [a06 hq];exact h
  | some s =>
   rw [a01 hq];have h1:=avv (ae2 hq);exact ih _ bnl
def bcq (x:TC) (d:Fd):muT (fdR x d).1 <= muT x.1 /\ (x.2 = false -> (fdR x d).2 = true -> muT (fdR x d).1 < muT x.1):=by
 refine ⟨aox _ _ (bjg _),fun h1 h2=>?_⟩;unfold fdR at h2 ⊢;rw [h1,Bool.false_or,Option.isSome_iff_exists] at h2;obtain ⟨s,hs⟩:=h2;show muT (qi d FU2 x.1) < _;rw [show FU2 = 8589934591 + 1 from rfl,a01 hs];exact bmr (aox _ _ (bjg _)) (avv (ae2 hs))
def b9v {x:TC} (hn:x.1.Nodup) (d:Fd):muT (mvR x d).1 <= muT x.1 /\ (x.2 = false -> (mvR x d).2 = true -> muT (mvR x d).1 < muT x.1):=by
 have h:=b2w (a1p d FU2 x.1 0) (congrArg BitVec.toNat b4c) (wl (ajt hn));refine ⟨h.1,fun h1 h2=>h.2 ?_⟩;unfold mvR at h2;rw [h1,Bool.false_or] at h2;exact of_decide_eq_true h2
def aok:∀ (ds:List Fd) (x:TC),muT (ds.foldl fdR x).1 <= muT x.1 /\ (x.2 = false -> (ds.foldl fdR x).2 = true -> muT (ds.foldl fdR x).1 < muT x.1)
 | [],x=>⟨bjg _,fun h k=>by simp only [List.foldl_nil] at k;rw [h] at k;cases k⟩
 | d :: ds,x=>by
  obtain ⟨a1,a2⟩:=bcq x d;obtain ⟨b1,b2⟩:=aok ds (fdR x d);refine ⟨bjr b1 a1,fun h k=>?_⟩
  cases hq:(fdR x d).2 with
  | true=>exact bmr b1 (a2 h hq)
  | false=>exact bll (b2 hq k) a1
def anu:∀ (ds:List Fd) (x:TC),x.1.Nodup -> muT (ds.foldl mvR x).1 <= muT x.1 /\ (x.2 = false -> (ds.foldl mvR x).2 = true -> muT (ds.foldl mvR x).1 < muT x.1)
 | [],x,_=>⟨bjg _,fun h k=>by simp only [List.foldl_nil] at k;rw [h] at k;cases k⟩
 | d :: ds,x,hn=>by
  obtain ⟨a1,a2⟩:=b9v hn d;obtain ⟨b1,b2⟩:=anu ds (mvR x d) (ajt hn);refine ⟨bjr b1 a1,fun h k=>?_⟩
  cases hq:(mvR x d).2 with
  | true=>exact bmr b1 (a2 h hq)
  | false=>exact bll (b2 hq k) a1
def av2 (hn:T.Nodup) (h:(n7 fs ms T).2 = true):muT (n7 fs ms T).1 < muT T:=by
 unfold n7 at h ⊢;obtain ⟨a1,a2⟩:=aok fs (T,false);have hn2:(fs.foldl fdR (T,false)).1.Nodup:=a7f ahr fs (T,false) (fun _ h=>h) hn;obtain ⟨b1,b2⟩:=anu ms (fs.foldl fdR (T,false)) hn2
 cases hq:(fs.foldl fdR (T,false)).2 with
 | true=>exact bmr b1 (a2 rfl hq)
 | false=>exact bll (b2 hq h) a1
def b52 (f:Nat):∀ {T:List AS},T.Nodup -> muT T < f -> ahv fs ms (chF fs ms f T):=by
 induction f with
 | zero=>intro T _ h;omega
 | succ f ih =>
  intro T hn h;unfold chF;split
  · rename_i hc
    have h1:=av2 hn hc;exact ih (a7p ahr art hn) bnl
  rename_i hc;rw [bmy] at hc;obtain ⟨e,c⟩:=axg hn hc;rw [e];exact c
def MU:Nat:=73786976294838206464
def aun (T:List AS):muT T < MU:=by
 unfold muT;have h:=(orL T).isLt;have h1:((orL T).toNat + 1) * FU2 <= 4294967296 * FU2:=bjt _ h;rw [bkj] at h1;have e:FU2 = 8589934592:=rfl;have e2:MU = 73786976294838206464:=rfl;omega
def a9q (rest:AS):List AS:=fy [0] rest
def chT (fs ms:List Fd) (rest:AS):List AS:=chF fs ms MU (a9q rest)
def b18 (rest:AS):(a9q rest).Nodup:=xq bnp
def ain {rest:AS}:ayl fs ms (blks (ju fs ms) rest) rest (chT fs ms rest):=by
 obtain ⟨hb,hs⟩:=aek (ju fs ms) rest;refine ⟨avi (P:=JT fs (blks (ju fs ms) rest) rest) (fun d hd T s hT hq=>?_) (fun d hd T r k hT hr hk ha=>?_) MU (a9q rest) ?_,b52 MU (b18 rest) (aun _)⟩
 · obtain ⟨r,hr,k,hk,ha,rfl,_⟩:=als hq
   exact hT.equ hb hs hd hr hk ha
 · exact hT.mix (hs d (a5v.2 (.inl hd))) hr hk ha
 have hm:∀ z,z ∈ a9q rest <-> z = 0 \/ z = rest:=fun z=>by unfold a9q;rw [oo];simp
 refine ⟨(hm 0).2 (.inl rfl),fun r hr=>?_,rest,(hm rest).2 (.inr rfl),fun r hr=>?_,fun a ha h1 h2=>by rw [h1] at h2;cases h2⟩
 · rcases (hm r).1 hr with rfl | rfl
   · exact ⟨ar.2 fun i hi h=>by simp at h,fun b hb'=>.inl bnp⟩
   exact ⟨im _,fun b hb'=>.inr (hb.sub hb')⟩
 rcases (hm r).1 hr with rfl | rfl
 · exact ar.2 fun i hi h=>by simp at h
 exact im _
def alf {rest:AS}:orL (chT fs ms rest) ∈ chT fs ms rest /\ ∀ r ∈ chT fs ms rest,sub r (orL (chT fs ms rest)):=by
 have h:=(ain (fs:=fs) (ms:=ms) (rest:=rest)).j;obtain ⟨L,h1,h2,h3⟩:=h.top;have e:orL (chT fs ms rest) = L:=ep (b99 h2) (ap8 h1);rw [e];exact ⟨h1,h2⟩
end
end
section
open Go.Proofs
def sT:List Rw:=[[0,1,5],[0,7,2]]
def fdX:List Fd:=[⟨1,2⟩]
end
section
open Go.Proofs
def bgg (a b:List AS):a6 bo6 30 [pP (asl a),pP (asl b)] (a7 [pB (decide (a = b))]):=by
 refine hpx (nt:=26) Tryz.func30 ?_;refine w_6 ?_;refine c6 0 rfl fun hn0=>?_;refine c6 1 rfl fun hn1=>?_;refine w_7 ?_;refine hcn (fun h0=>?_) (fun h0=>?_)
 · refine v_4 ?_;exact ⟨ccb (decide_eq_false fun e=>by subst e;omega).symm,trivial⟩
 refine w_9 ?_;refine ae (ι:=Nat) (ka 0 (ka 1 (ka 12 kn))) km (fun i=>⟨[(13,some (vI i))],[]⟩) (fun i=>i <= a.length /\ ∀ j,j < i -> a.getD j default = b.getD j default) (fun i=>a.length - i) (0) (⟨bji _,fun j hj=>absurd hj (bjh j)⟩) ⟨⟨⟨_,rfl,(CoR.refl _)⟩,trivial⟩,trivial⟩ ?_;rintro i ⟨hi,hI⟩;refine w_5 ?_;refine hcd (fun h1=>?_) (fun h1=>?_)
 ·
  refine aei ?_;refine hcn (fun h2=>?_) (fun h2=>?_)
  · refine v_4 ?_;exact ⟨ccb (decide_eq_false fun e=>by subst e;exact absurd rfl (by assumption:¬ asI _ = asI _)).symm,trivial⟩
  refine w_5 ?_;refine lpz (i + 1) ⟨⟨⟨_,rfl,(CoR.refl _)⟩,tt⟩,trivial⟩ ?_;refine ⟨by omega,fun j hj=>?_⟩;by_cases e:j = i
  · subst e;exact c8.1 bnm
  exact hI j bnl
 obtain rfl:i = a.length:=by omega
 refine v_5 ?_;exact ⟨ccb (decide_eq_true (bdb bnl hI)).symm,trivial⟩
end
section
open Go.Proofs
def al8 {T:List AS} {r:AS} (h:¬ r ∈ T):(fy T r).length = T.length + 1:=by unfold fy;rw [if_neg h,bjj];rfl
def b84 {T:List AS} {r:AS}:(fy T r).length <= T.length + 1:=by
 unfold fy;split
 · omega
 rw [bjj];exact bjg _
def aiy {s:AS}:∀ {T o:List AS},(mj s o T).length <= o.length + T.length
 | [],o=>by simp [mj]
 | r :: T,o=>by
  have h1:=aiy (s:=s) (T:=T) (o:=fy o (r &&& ~~~s));have h2:=b84 (T:=o) (r:=r &&& ~~~s);show (mj s (fy o (r &&& ~~~s)) T).length <= _;simp only [bk5];omega
def ac3 {s:AS} {T:List AS} {i:Nat} (h:i < T.length):mj s [] (T.take (i + 1)) = fy (mj s [] (T.take i)) (T.getD i default &&& ~~~s):=by
 unfold mj;rw [au h,bki];rfl
def adi:goodFn bo6 239:=wgx Tryz.func239
def b0p (T:List AS) (r:AS) (hT:T.length <= 8589934592):d4 bo6 239 [.one (.ptr 1000 0), .one (.p (asC r))] [(1000, .box [.ref 1001 T.length]),(1001, .arr true 1 46 T.length (lf sC T))] (.v (.one (.p (.raw (.bool (!decide (r ∈ T))))))) [(1000, .box [.ref 1001 (fy T r).length]),(1001, .arr true 1 46 (fy T r).length (lf sC (fy T r)))] [1000,1001]:=by
 refine hfx (nt:=21) Tryz.func239 ?_;refine fj ?_;refine qcx adk (cIn T r) ?_;refine c5 ?_;refine ak _ rfl (fun r0=>?_) (fun r0=>?_)
 · have h0:=r0;have hin:r ∈ T:=a15 r0;refine w_4 ?_;refine hrr ?_;rw [show fy T r = T from if_pos hin,decide_eq_true hin];exact ⟨_,_,rfl,bnn,CoR.refl _,uu⟩
 have h0:=r0;have hin:¬ r ∈ T:=a3t r0;refine w_9 ?_;refine m9 0 ?_;refine r9 1 true ?_;refine w_8 ?_;refine hrr ?_;exact ⟨_,_,rfl,bnn,CoR.of_eq (congrArg (fun z=>HR.v (.one (.p (.raw (.bool (!z)))))) (decide_eq_false hin).symm),⟨⟨_,rfl,⟨congrArg (HV.ref 1001) (al8 hin).symm,trivial⟩⟩,⟨_,rfl,bt (if_neg hin) (CoP.refl _)⟩,trivial⟩⟩
def bg0 (T:List AS) (s:AS) (hT:T.length <= 8589934592):d4 bo6 255 [.one (.ptr 1000 0), .one (.p (asC s))] [(1000, .box [.ref 901 T.length]),(901, .arr true 1 46 T.length (lf sC T))] (.tup []) [(1000, .box [.ref 901 (jv T s).length]),(901, .arr true 1 46 (jv T s).length (lf sC (jv T s)))] [1000]:=by
 refine hfx (nt:=27) Tryz.func255 ?_;refine lb ?_;refine aq 4 rfl rfl rfl ?_;refine zq ⟨[(0,some _),(1,some _),(4,some _)],[(1000,some _)]⟩ (by exact kk) ?_;refine rj 1000 0 901 true 1 46 (lf sC []) bns rfl rfl (CoP.sl rfl (.inr rfl) (fun h=>h) (fun i j hi _=>absurd hi (bjh i))) (.inr rfl) rfl rfl ?_;refine w_5 ?_;refine bg (ka 0 (ka 1 (ka 4 kn))) km (fun i=>⟨[(5,some (vI i))],[(1000,some (.box [.ref 901 (mj s [] (T.take i)).length])),(901,some (.arr true 1 46 (mj s [] (T.take i)).length (lf sC (mj s [] (T.take i)))))]⟩) T.length ⟨⟨⟨_,rfl,(CoR.refl _)⟩,trivial⟩,uu⟩ ?_;rintro i hi;have hel:(mj s [] (T.take i)).length <= i:=bjr aiy (by rw [bjn,bli];omega);refine w_8 ?_;refine hcd (fun h0=>?_) (fun h0=>?_)
 · refine ct ?_;refine gh rfl rfl rfl rfl rfl rfl adi ((b0p (mj s [] (T.take i)) (T.getD i default &&& ~~~s) bnl).swap 1001 901) (⟨vi.refl _,(CoP.of_eq (congrArg (fun z=>PV.raw (.int .u32 z)) (gk _ _))),trivial⟩) uu rfl rfl ?_;refine w_6 ?_;exact lpx (i + 1) ⟨⟨⟨_,rfl,(CoR.refl _)⟩,tt⟩,⟨⟨_,rfl,(by rw [ac3 bnl];exact CoO.refl _)⟩,⟨_,rfl,(by rw [ac3 bnl];exact CoO.refl _)⟩,trivial⟩⟩
 obtain rfl:i = T.length:=by omega
 rw [show T.take T.length = T from bjk];refine dj ?_;refine ⟨.inl rfl, ?_⟩;exact ⟨_,_,rfl,bnn,CoR.refl _,uu⟩
end
section
open Go.Proofs
def bgr (T:List AS) (d:Fd) (s:AS) (hq:fdT d T = some s) (hT:T.length <= 8589934592):d4 bo6 240 [.one (.ptr 1000 0),d.pc.toH] [(1000, .box [.ref 901 T.length]),(901, .arr true 1 46 T.length (lf sC T))] (.v (.one (.p (.raw (.bool true))))) [(1000, .box [.ref 901 (jv T s).length]),(901, .arr true 1 46 (jv T s).length (lf sC (jv T s)))] [1000]:=by
 refine hfx (nt:=59) Tryz.func240 ?_;refine sx7 ?_;refine m9 0 ?_;refine w_8 ?_;refine ae (ι:=Nat) (ka 0 (ka 3 kn)) (kb 1000 (kb 901 (kb 0 km))) (fun i=>⟨[(5,some (vI i))],[]⟩) (fun i=>i <= T.length /\ (T.take i).findSome? (fdQ d T) = none) (fun i=>T.length - i) (0) (⟨bji _,rfl⟩) ⟨⟨⟨_,rfl,(CoR.refl _)⟩,trivial⟩,trivial⟩ ?_;rintro i ⟨hi,hI⟩;refine ct ?_;refine hcd (fun h0=>?_) (fun h0=>?_)
 ·
  have hil:i < T.length:=by omega
  refine w_8 ?_;refine ae (ι:=Nat) (ka 0 (ka 3 (ka 5 kn))) (kb 1000 (kb 901 (kb 0 km))) (fun k=>⟨[(6,some (vI k))],[]⟩) (fun k=>k <= T.length /\ (T.take k).findSome? (fdP d (T.getD i default)) = none) (fun k=>T.length - k) (0) (⟨bji _,rfl⟩) ⟨⟨⟨_,rfl,(CoR.refl _)⟩,trivial⟩,trivial⟩ ?_;rintro k ⟨hk,hK⟩;refine ct ?_;refine hcd (fun h1=>?_) (fun h1=>?_)
  ·
   have hkl:k < T.length:=by omega
   refine a0w ?_;refine rq (out:=⟨_, .v (.one (.p (asC ((T.getD i default) ^^^ (T.getD k default)))))⟩) rfl rfl rfl (congrArg (fun z=>some (Out.mk _ (HR.v (HC.one (HV.p (.raw (.int .u32 z))))))) (as4 _ _)) rfl ?_;refine ct ?_;refine ah rfl rfl (fun r2=>?_) (fun r2=>?_)
   ·
    have h2:=tz1 r2;have g1:((T.getD i default) ^^^ (T.getD k default)) &&& d.lhs = 0:=ug h2;(iterate 5 refine qy ?_ (hg:=(gtt r2)));refine w_2 ?_;refine ak _ rfl (fun r3=>?_) (fun r3=>?_)
    · have h3:=tz2 (cj (bn r2 r3));have g2:¬ ((T.getD i default) ^^^ (T.getD k default)) &&& d.rhs = 0:=oz h3;have hq2:fdT d T = some (((T.getD i default) ^^^ (T.getD k default)) &&& d.rhs):=tg hil hI (show fdQ d T (T.getD i default) = _ from tg hkl hK (b2q g1 g2));rw [hq] at hq2;obtain rfl:=Option.some.inj hq2;refine ce ?_;refine zq ⟨[(0,some _),(3,some _),(7,some _)],[(1000,some _),(901,some _),(0,some _)]⟩ (by exact kk) ?_;refine w_6 ?_;refine gh rfl rfl rfl rfl rfl rfl (wgx Tryz.func255) (bg0 T (((T.getD i default) ^^^ (T.getD k default)) &&& d.rhs) hT) (⟨vi.refl _,(CoP.of_eq (congrArg (fun z=>PV.raw (.int .u32 z)) (fc _ _))),trivial⟩) uu rfl rfl ?_;refine w_5 ?_;refine hrr ?_;exact ⟨_,_,rfl,bnn,CoR.refl _,uu⟩
    have h3:=tz1 (ck (bn r2 r3));have g2:((T.getD i default) ^^^ (T.getD k default)) &&& d.rhs = 0:=ug h3;refine w_6 ?_;refine lpz (k + 1) ⟨⟨⟨_,rfl,(CoR.refl _)⟩,tt⟩,uu⟩ ?_;exact ⟨by omega,(ja hkl hK).trans (by first | exact ahq g1 | exact ahn g1 g2)⟩
   have h2:=tz2 r2;have g1:¬ ((T.getD i default) ^^^ (T.getD k default)) &&& d.lhs = 0:=oz h2;(iterate 5 refine k9 (gft r2) ?_);refine rq rfl rfl rfl rfl rfl ?_ (hp:=r2);refine w_8 ?_;refine lpz (k + 1) ⟨⟨⟨_,rfl,(CoR.refl _)⟩,tt⟩,uu⟩ ?_
   exact ⟨by omega,(ja hkl hK).trans (by first | exact ahq g1 | exact ahn g1 g2)⟩
  obtain rfl:k = T.length:=by omega
  rw [show T.take T.length = T from bjk] at hK;refine w_6 ?_;refine lpz (i + 1) ⟨⟨⟨_,rfl,(CoR.refl _)⟩,tt⟩,uu⟩ ?_;exact ⟨by omega,(ja hil hI).trans hK⟩
 obtain rfl:i = T.length:=by omega
 rw [show T.take T.length = T from bjk] at hI;refine w_5 ?_;refine hrr ?_;exact absurd (hq.symm.trans (show fdT d T = none from hI)) (fun e=>by cases e)
def bha (T:List AS) (d:Fd) (hq:fdT d T = none) (hT:T.length <= 8589934592):d4 bo6 240 [.one (.ptr 1000 0),d.pc.toH] [(1000, .box [.ref 901 T.length]),(901, .arr true 1 46 T.length (lf sC T))] (.v (.one (.p (.raw (.bool false))))) [(1000, .box [.ref 901 T.length]),(901, .arr true 1 46 T.length (lf sC T))] [1000]:=by
 refine hfx (nt:=59) Tryz.func240 ?_;refine sx7 ?_;refine m9 0 ?_;refine w_8 ?_;refine ae (ι:=Nat) (ka 0 (ka 3 kn)) (kb 1000 (kb 901 (kb 0 km))) (fun i=>⟨[(5,some (vI i))],[]⟩) (fun i=>i <= T.length /\ (T.take i).findSome? (fdQ d T) = none) (fun i=>T.length - i) (0) (⟨bji _,rfl⟩) ⟨⟨⟨_,rfl,(CoR.refl _)⟩,trivial⟩,trivial⟩ ?_;rintro i ⟨hi,hI⟩;refine ct ?_;refine hcd (fun h0=>?_) (fun h0=>?_)
 ·
  have hil:i < T.length:=by omega
  refine w_8 ?_;refine ae (ι:=Nat) (ka 0 (ka 3 (ka 5 kn))) (kb 1000 (kb 901 (kb 0 km))) (fun k=>⟨[(6,some (vI k))],[]⟩) (fun k=>k <= T.length /\ (T.take k).findSome? (fdP d (T.getD i default)) = none) (fun k=>T.length - k) (0) (⟨bji _,rfl⟩) ⟨⟨⟨_,rfl,(CoR.refl _)⟩,trivial⟩,trivial⟩ ?_;rintro k ⟨hk,hK⟩;refine ct ?_;refine hcd (fun h1=>?_) (fun h1=>?_)
  ·
   have hkl:k < T.length:=by omega
   refine a0w ?_;refine rq (out:=⟨_, .v (.one (.p (asC ((T.getD i default) ^^^ (T.getD k default)))))⟩) rfl rfl rfl (congrArg (fun z=>some (Out.mk _ (HR.v (HC.one (HV.p (.raw (.int .u32 z))))))) (as4 _ _)) rfl ?_;refine ct ?_;refine ah rfl rfl (fun r2=>?_) (fun r2=>?_)
   ·
    have h2:=tz1 r2;have g1:((T.getD i default) ^^^ (T.getD k default)) &&& d.lhs = 0:=ug h2;(iterate 5 refine qy ?_ (hg:=(gtt r2)));refine w_2 ?_;refine ak _ rfl (fun r3=>?_) (fun r3=>?_)
    · have h3:=tz2 (cj (bn r2 r3));have g2:¬ ((T.getD i default) ^^^ (T.getD k default)) &&& d.rhs = 0:=oz h3;have hq2:fdT d T = some (((T.getD i default) ^^^ (T.getD k default)) &&& d.rhs):=tg hil hI (show fdQ d T (T.getD i default) = _ from tg hkl hK (b2q g1 g2));exact absurd (hq.symm.trans hq2) (fun e=>by cases e)
    have h3:=tz1 (ck (bn r2 r3));have g2:((T.getD i default) ^^^ (T.getD k default)) &&& d.rhs = 0:=ug h3;refine w_6 ?_;refine lpz (k + 1) ⟨⟨⟨_,rfl,(CoR.refl _)⟩,tt⟩,uu⟩ ?_;exact ⟨by omega,(ja hkl hK).trans (by first | exact ahq g1 | exact ahn g1 g2)⟩
   have h2:=tz2 r2;have g1:¬ ((T.getD i default) ^^^ (T.getD k default)) &&& d.lhs = 0:=oz h2;(iterate 5 refine k9 (gft r2) ?_);refine rq rfl rfl rfl rfl rfl ?_ (hp:=r2);refine w_8 ?_;refine lpz (k + 1) ⟨⟨⟨_,rfl,(CoR.refl _)⟩,tt⟩,uu⟩ ?_
   exact ⟨by omega,(ja hkl hK).trans (by first | exact ahq g1 | exact ahn g1 g2)⟩
  obtain rfl:k = T.length:=by omega
  rw [show T.take T.length = T from bjk] at hK;refine w_6 ?_;refine lpz (i + 1) ⟨⟨⟨_,rfl,(CoR.refl _)⟩,tt⟩,uu⟩ ?_;exact ⟨by omega,(ja hil hI).trans hK⟩
 obtain rfl:i = T.length:=by omega
 rw [show T.take T.length = T from bjk] at hI;refine w_5 ?_;refine hrr ?_;exact ⟨_,_,rfl,bnn,CoR.refl _,uu⟩
end
section
structure MvO (d:Fd) (T0:List AS) (x:Nat × List AS × Nat):Prop where
 nd:x.2.1.Nodup
 pre:T0 <+: x.2.1
 res:mvO d x.1 x.2.1 x.2.2 = mvO d FU2 T0 0
 le:x.2.2 <= x.2.1.length
 fuel:4294967296 < x.1 + x.2.2
structure MvI (d:Fd) (T:List AS) (i:Nat) (x:Nat × List AS × Nat):Prop where
 nd:x.2.1.Nodup
 pre:T <+: x.2.1
 res:mvI d x.1 x.2.1 i x.2.2 = mvI d 8589934592 T i 0
 le:x.2.2 <= x.2.1.length
 fuel:4294967296 < x.1 + x.2.2
section
variable {d:Fd} {T0 T:List AS} {i f k:Nat}
theorem MvO.start (h:T.Nodup):MvO d T (FU2,T,0):=⟨h,bme _,rfl,bji _,by show 4294967296 < 8589934592 + 0;omega⟩
theorem MvI.start (h:T.Nodup):MvI d T i (8589934592,T,0):=⟨h,bme _,rfl,bji _,by show 4294967296 < 8589934592 + 0;omega⟩
theorem MvO.pos (h:MvO d T0 (f,T,i)):0 < f /\ T.length <= 4294967296:=by
 have h1:=wl h.nd;have h2:=h.le;have h3:=h.fuel;dsimp only at h1 h2 h3;omega
section
variable {U:List AS}
theorem MvI.pos (h:MvI d T i (f,U,k)):0 < f /\ U.length <= 4294967296:=by
 have h1:=wl h.nd;have h2:=h.le;have h3:=h.fuel;dsimp only at h1 h2 h3;omega
theorem MvO.done (h:MvO d T0 (f,T,i)) (hi:¬ i < T.length):T = mvO d FU2 T0 0:=by
 have hp:=h.pos.1;have hr:mvO d f T i = mvO d FU2 T0 0:=h.res;obtain ⟨g,rfl⟩:∃ g,f = g + 1:=⟨f - 1,by omega⟩;unfold mvO at hr;rw [if_neg hi] at hr;exact hr
theorem MvI.done (h:MvI d T i (f,U,k)) (hk:¬ k < U.length):U = mvI d 8589934592 T i 0:=by
 have hp:=h.pos.1;have hr:mvI d f U i k = mvI d 8589934592 T i 0:=h.res;obtain ⟨g,rfl⟩:∃ g,f = g + 1:=⟨f - 1,by omega⟩;unfold mvI at hr;rw [if_neg hk] at hr;exact hr
theorem MvI.next (h:MvI d T i (f,U,k)) (hk:k < U.length):MvI d T i (f - 1,mvS d U i k,k + 1):=by
 have hp:=h.pos.1;have hr:mvI d f U i k = mvI d 8589934592 T i 0:=h.res;obtain ⟨g,rfl⟩:∃ g,f = g + 1:=⟨f - 1,by omega⟩;unfold mvI at hr;rw [if_pos hk] at hr;have hf:4294967296 < g + 1 + k:=h.fuel;exact ⟨au0 h.nd,h.pre.trans (a1y d U i k),hr,bjr hk (a1y d U i k).length_le,by show 4294967296 < g + (k + 1);omega⟩
theorem MvO.next (h:MvO d T0 (f,T,i)) (hi:i < T.length) (hU:U = mvI d 8589934592 T i 0):MvO d T0 (f - 1,U,i + 1):=by
 subst hU;have hp:=h.pos.1;have hr:mvO d f T i = mvO d FU2 T0 0:=h.res;obtain ⟨g,rfl⟩:∃ g,f = g + 1:=⟨f - 1,by omega⟩;unfold mvO at hr;rw [if_pos hi] at hr;have hf:4294967296 < g + 1 + i:=h.fuel;exact ⟨al1 h.nd,h.pre.trans (xx d _ T i 0),hr,bjr hi (xx d _ T i 0).length_le,by show 4294967296 < g + (i + 1);omega⟩
def uk (h:agB d (U.getD i default) (U.getD k default) = false):mvS d U i k = U:=by unfold mvS;rw [if_neg (by rw [h];decide)]
def lh (h:agB d (U.getD i default) (U.getD k default) = true):mvS d U i k = fy U (ku d (U.getD i default) (U.getD k default)):=by unfold mvS;rw [if_pos h]
def akx {T:List AS} {q:AS} (hp:T <+: U) (h:¬ q ∈ U):true = decide (T.length < (fy U q).length):=by
 have h1:=hp.length_le;rw [al8 h];exact (decide_eq_true bnl).symm
def amu {T:List AS} {q:AS} (h:q ∈ U):decide (T.length < U.length) = decide (T.length < (fy U q).length):=by rw [show fy U q = U from if_pos h]
def bfn (r k l h:AS):al .or .u32 (al .and .u32 (asI r) (al .or .u32 (asI l) (asI h))) (al .andNot .u32 (asI k) (al .or .u32 (asI l) (asI h))) = asI (ku ⟨l,h⟩ r k):=by
 rw [bOr,fc,gk,bOr];rfl
def bfz {r k:AS} (h:al .and .u32 (al .xor .u32 (asI r) (asI k)) (asI d.lhs) = 0):agB d r k = true:=by
 rw [as4,fc] at h;exact decide_eq_true (c8.1 h)
def bgm {r k:AS} (h:¬ al .and .u32 (al .xor .u32 (asI r) (asI k)) (asI d.lhs) = 0):agB d r k = false:=by
 rw [as4,fc] at h;exact decide_eq_false fun e=>h (congrArg asI e)
end
end
end
section
open Go.Proofs
def bgs (T:List AS) (d:Fd) (hn:T.Nodup):d4 bo6 241 [.one (.ptr 1000 0),d.pc.toH] [(1000, .box [.ref 1001 T.length]),(1001, .arr true 1 46 T.length (lf sC T))] (.v (.one (.p (.raw (.bool (decide (T.length < (mvO d FU2 T 0).length))))))) [(1000, .box [.ref 1001 (mvO d FU2 T 0).length]),(1001, .arr true 1 46 (mvO d FU2 T 0).length (lf sC (mvO d FU2 T 0)))] [1000,1001]:=by
 refine hfx (nt:=77) Tryz.func241 ?_;refine sx7 ?_;refine m9 0 ?_;refine fj ?_;refine ae (ι:=(Nat × List AS × Nat)) (ka 0 (ka 3 kn)) (kb 0 km) (fun x=>⟨[(5,some (vB (decide (T.length < x.2.1.length)))),(6,some (vI x.2.2))],[(1000,some (.box [.ref 1001 x.2.1.length])),(1001,some (.arr true 1 46 x.2.1.length (lf sC x.2.1)))]⟩) (fun x=>MvO d T x) (fun x=>x.1) ((FU2,T,0)) (MvO.start hn) ⟨⟨⟨_,rfl,(cob bnp)⟩,⟨_,rfl,(CoR.refl _)⟩,trivial⟩,uu⟩ ?_;rintro ⟨f,T1,i⟩ hO;have hOl:=hO.pos.2;refine ct ?_;refine hcd (fun h0=>?_) (fun h0=>?_)
 ·
  have hil:i < T1.length:=by omega
  have hfI:=hO.pos.1;refine w_8 ?_;refine ae (ι:=(Nat × List AS × Nat)) (ka 0 (ka 3 (ka 6 kn))) (kb 0 km) (fun y=>⟨[(5,some (vB (decide (T.length < y.2.1.length)))),(7,some (vI y.2.2))],[(1000,some (.box [.ref 1001 y.2.1.length])),(1001,some (.arr true 1 46 y.2.1.length (lf sC y.2.1)))]⟩) (fun y=>MvI d T1 i y) (fun y=>y.1) ((8589934592,T1,0)) (MvI.start hO.nd) ⟨⟨⟨_,rfl,(CoR.refl _)⟩,⟨_,rfl,(CoR.refl _)⟩,trivial⟩,uu⟩ ?_;rintro ⟨g,U,k⟩ hI;have hIl:=hI.pos.2;refine ct ?_;refine hcd (fun h1=>?_) (fun h1=>?_)
  ·
   have hkl:k < U.length:=by omega
   have hil2:i < U.length:=bll hil hI.pre.length_le;have hUl:=hI.pos.2;have hpre:T <+: U:=hO.pre.trans hI.pre;have hg0:=hI.pos.1;refine ba8 ?_;refine ah rfl rfl (fun r2=>?_) (fun r2=>?_)
   ·
    have h2:=tz1 r2;have ha:agB d (U.getD i default) (U.getD k default) = true:=bfz h2;(iterate 28 refine qy ?_ (hg:=(gtt r2)));refine gh rfl rfl rfl rfl rfl rfl adi (b0p U (ku d (U.getD i default) (U.getD k default)) bnl) (⟨vi.refl _,(CoP.of_eq (congrArg (fun z=>PV.raw (.int .u32 z)) (bfn _ _ _ _))),trivial⟩) uu rfl (gtt r2) ?_;refine w_3 ?_;refine ak _ rfl (fun r3=>?_) (fun r3=>?_)
    ·
     have h3:=bn r2 r3;have hin:¬ (ku d (U.getD i default) (U.getD k default)) ∈ U:=a3t (by simpa using h3);refine w_8 ?_;refine ⟨(g - 1,mvS d U i k,k + 1), ?_, ?_, ?_⟩
     · exact hI.next hkl
     · dsimp only;omega
     exact ⟨⟨⟨_,rfl,(by first | (rw [uk ha];exact CoR.refl _) | (rw [lh ha];exact cob (akx hpre hin)) | (rw [lh ha];exact cob (amu hin)))⟩,⟨_,rfl,(CoR.refl _)⟩,tt⟩,⟨⟨_,rfl,(by first | (rw [uk ha];exact CoO.refl _) | (rw [lh ha];exact CoO.refl _))⟩,⟨_,rfl,(by first | (rw [uk ha];exact CoO.refl _) | (rw [lh ha];exact CoO.refl _))⟩,uu⟩⟩
    have h3:=bn r2 r3;have hin:(ku d (U.getD i default) (U.getD k default)) ∈ U:=a15 (by simpa using h3);refine w_6 ?_;refine ⟨(g - 1,mvS d U i k,k + 1), ?_, ?_, ?_⟩
    · exact hI.next hkl
    · dsimp only;omega
    exact ⟨⟨⟨_,rfl,(by first | (rw [uk ha];exact CoR.refl _) | (rw [lh ha];exact cob (akx hpre hin)) | (rw [lh ha];exact cob (amu hin)))⟩,⟨_,rfl,(CoR.refl _)⟩,tt⟩,⟨⟨_,rfl,(by first | (rw [uk ha];exact CoO.refl _) | (rw [lh ha];exact CoO.refl _))⟩,⟨_,rfl,(by first | (rw [uk ha];exact CoO.refl _) | (rw [lh ha];exact CoO.refl _))⟩,uu⟩⟩
   have h2:=tz2 r2;have ha:agB d (U.getD i default) (U.getD k default) = false:=bgm h2;(iterate 29 refine k9 (gft r2) ?_);refine rq rfl rfl rfl rfl rfl ?_ (hp:=r2);refine w_9 ?_;refine ⟨(g - 1,mvS d U i k,k + 1), ?_, ?_, ?_⟩
   · exact hI.next hkl
   · dsimp only;omega
   exact ⟨⟨⟨_,rfl,(by first | (rw [uk ha];exact CoR.refl _) | (rw [lh ha];exact cob (akx hpre hin)) | (rw [lh ha];exact cob (amu hin)))⟩,⟨_,rfl,(CoR.refl _)⟩,tt⟩,⟨⟨_,rfl,(by first | (rw [uk ha];exact CoO.refl _) | (rw [lh ha];exact CoO.refl _))⟩,⟨_,rfl,(by first | (rw [uk ha];exact CoO.refl _) | (rw [lh ha];exact CoO.refl _))⟩,uu⟩⟩
  have hU:=hI.done bnl;have hT1l:=hO.pos.2;refine w_6 ?_;refine ⟨(f - 1,U,i + 1), ?_, ?_, ?_⟩
  · exact hO.next hil hU
  · dsimp only;omega
  exact ⟨⟨⟨_,rfl,(CoR.refl _)⟩,⟨_,rfl,(CoR.refl _)⟩,tt⟩,uu⟩
 have hT:T1 = mvO d FU2 T 0:=hO.done bnl;subst hT;refine w_6 ?_;refine hrr ?_;exact ⟨_,_,rfl,bnn,CoR.refl _,uu⟩
end
section
structure ChI (l m:List Fd) (R:List AS) (x:Nat × List AS × Bool):Prop where
 nd:x.2.1.Nodup
 t:x.2.2 = true -> chF l m x.1 x.2.1 = R /\ muT x.2.1 < x.1
 f:x.2.2 = false -> x.2.1 = R
def aqp (x:Nat × List AS × Bool):Nat:=x.1 + (bif x.2.2 then 1 else 0)
def b5g {f:Nat} {T U:List AS} {c:Bool} (h:0 < f):aqp (f - 1,U,c) < aqp (f,T,true):=by
 cases c <;> simp only [aqp,cond_true,cond_false] <;> omega
theorem ChI.start (l m:List Fd) (rest:AS):ChI l m (chT l m rest) (MU,a9q rest,true):=⟨b18 rest,fun _=>⟨rfl,aun _⟩,fun h=>by cases h⟩
theorem ChI.next {l m:List Fd} {R T:List AS} {f:Nat} (h:ChI l m R (f,T,true)):ChI l m R (f - 1,(n7 l m T).1,(n7 l m T).2) /\ 0 < f:=by
 obtain ⟨h1,h2⟩:=h.t rfl;have h2:muT T < f:=h2;have h1:chF l m f T = R:=h1;have hn:T.Nodup:=h.nd;obtain ⟨g,rfl⟩:∃ g,f = g + 1:=⟨f - 1,by omega⟩;unfold chF at h1;refine ⟨⟨a7p ahr art hn,fun hc=>?_,fun hc=>?_⟩,by omega⟩
 · have hc:(n7 l m T).2 = true:=hc
   rw [if_pos hc] at h1;have:=av2 hn hc;exact ⟨h1,by show muT (n7 l m T).1 < g;omega⟩
 have hc:(n7 l m T).2 = false:=hc;rw [if_neg (by rw [hc];decide)] at h1;exact h1
def ld (l:List Fd) (T:List AS) (i:Nat):TC:=(l.take i).foldl fdR (T,false)
def age {l:List Fd} {T:List AS} {i:Nat} (h:i < l.length):ld l T (i + 1) = fdR (ld l T i) (l.getD i default):=by
 unfold ld;rw [au h,bki];rfl
def aqg {l:List Fd} {T:List AS} {i:Nat} (h:T.Nodup):(ld l T i).1.Nodup:=a7f (fs:=l) ahr (l.take i) (T,false) (fun _ h=>bm6 h) h
def mvX (m:List Fd) (x:TC) (i:Nat):TC:=(m.take i).foldl mvR x
def vr {m:List Fd} {x:TC} {i:Nat} (h:i < m.length):mvX m x (i + 1) = mvR (mvX m x i) (m.getD i default):=by
 unfold mvX;rw [au h,bki];rfl
def bbq {m:List Fd} {x:TC} {i:Nat} (h:x.1.Nodup):(mvX m x i).1.Nodup:=adz (ms:=m) art (m.take i) x (fun _ h=>bm6 h) h
def bfm (l m:List Fd) (T:List AS):mvX m (ld l T l.length) m.length = n7 l m T:=by
 unfold mvX ld n7;rw [bjk,bjk]
structure FdI (d:Fd) (U0:List AS) (x:Nat × List AS × Bool):Prop where
 nd:x.2.1.Nodup
 res:qi d x.1 x.2.1 = qi d FU2 U0
 fuel:(orL x.2.1).toNat < x.1
 f:x.2.2 = false -> x.2.1 = U0
 t:x.2.2 = true -> (fdT d U0).isSome = true
section
variable {d:Fd} {U0 U:List AS} {g:Nat} {b c:Bool} {s:AS}
theorem FdI.start (h:U0.Nodup):FdI d U0 (FU2,U0,false):=⟨h,rfl,bll (orL U0).isLt (show 2 ^ 32 <= FU2 by decide),fun _=>rfl,fun h=>by cases h⟩
theorem FdI.len (h:FdI d U0 (g,U,b)):U.length <= 8589934592:=bjr (wl (show U.Nodup from h.nd)) bns
theorem FdI.next (h:FdI d U0 (g,U,b)) (hq:fdT d U = some s):FdI d U0 (g - 1,jv U s,true) /\ 0 < g:=by
 have h3:(orL U).toNat < g:=h.fuel;have h2:qi d g U = qi d FU2 U0:=h.res;obtain ⟨k,rfl⟩:∃ k,g = k + 1:=⟨g - 1,by omega⟩;rw [a01 hq] at h2;have h4:=ae2 hq;refine ⟨⟨acu U s,h2,(by show (orL (jv U s)).toNat < k;omega),(fun hc=>by cases hc),fun _=>?_⟩,by omega⟩
 cases hb:b with
 | true=>exact h.t hb
 | false =>
  have e:U = U0:=h.f hb;rw [<- e,hq];rfl
theorem FdI.done (h:FdI d U0 (g,U,b)) (hq:fdT d U = none):(U,c || b) = fdR (U0,c) d:=by
 have h2:qi d g U = qi d FU2 U0:=h.res;rw [a06 hq] at h2;unfold fdR;rw [<- h2]
 cases hb:b with
 | true=>rw [h.t hb]
 | false =>
  have e:U = U0:=h.f hb;rw [<- e,hq];rfl
end
def a7w {x:TC} {d:Fd}:mvR x d = (mvO d FU2 x.1 0,x.2 || decide (x.1.length < (mvO d FU2 x.1 0).length)):=rfl
end
end Go.Hx
