/- A part of the proof: Y3 Bz5 Bz6 Ch15 Y4 Y6 Y7 Bz7. -/
import Derived.Test.YtkkenjdfbojdlaaGreatDoorIx34
set_option linter.all false
set_option maxRecDepth 100000
set_option maxHeartbeats 1000000
namespace Go.Hx
section
open Go.Proofs
section
variable {n:Int}
def an9 (h:n <= 16):a7 n >>> n.toNat = 0:=by
 unfold a7;rw [show min n.toNat 32 = n.toNat by omega];exact (vm bqx).1 (gz _)
variable {l m:List Fd} {x:AS}
def b3c (h:ckB n l m x = 0):a6 brj 192 [pI n,pP (fdl l),pP (fdl m),pA x] (a8 [pP (asl (dc n l m x)),pI 0]):=by
 have:=b8v n l m x;rw [h,show b0p n l m x = dc n l m x from if_pos h] at this;exact this
def b0v (h:ckB n l m x = 0):a6 brj 139 [pI n,pP (fdl l),pP (fdl m),pA x] (a8 [pA (qa n l m x),pI 0]):=by
 have:=ba5 n l m x;rw [h,show at8 n l m x = qa n l m x from if_pos h] at this;exact this
variable {p:AS}
def aed (h:p &&& ~~~(qa n l m x) = 0):a47 n l m p x = none:=if_pos h
def ad7 (h:¬ p &&& ~~~(qa n l m x) = 0) (h2:¬ 1 < (jh n l m x p).length):a47 n l m p x = none:=by unfold a47;rw [if_neg h,if_neg h2]
def axl (h:¬ p &&& ~~~(qa n l m x) = 0) (h2:1 < (jh n l m x p).length):a47 n l m p x = some ⟨x,(jh n l m x p).getD 0 default⟩:=by unfold a47;rw [if_neg h,if_pos h2]
def is4 (n:Int) (l m:List Fd):Bool:=if ck4 n l m 0 = 0 then !(a6h n l m (a7 n)).2 else false
def bhq (n:Int) (l m:List Fd) (x p:AS):a6 brj 140 [pI n,pP (fdl l),pP (fdl m),pA x,pA p] (a8 [pP (asl (b0n n l m x p)),pI (ck4 n l m (x ||| p))]):=by
 refine hpx (nt:=58) Tryz.func140 ?_;refine pw ?_;refine rc rfl rfl rfl rfl rfl rfl amr (aez n l m (x ||| p)) (⟨CoC.refl _,CoC.refl _,CoC.refl _,cci (bOr _ _),trivial⟩) rfl rfl ?_;refine w_7 ?_;refine hcn (fun h0=>?_) (fun h0=>?_)
 · refine v_6 ?_;exact ⟨CoC.one (zr (if_neg bqy)),CoC.refl _,trivial⟩
 have hz:ck4 n l m (x ||| p) = 0:=h0;have hx:=afx (a68 hz).2.2 (a0j (a:=x) (b:=p));refine w_7 ?_;refine qcx (wgx Tryz.func192) (b3c hx) ?_;refine bgh ?_;refine bw 15 900 true 1 46 (lf sC []) br2 rfl (CoP.sl rfl (.inr rfl) (fun h=>h) (fun i j hi _=>absurd hi (bmq i))) (.inr rfl) rfl ?_;have hbl:=a51 n l m x;refine b7 (ka 4 (ka 39 (ka 40 kn))) km (fun i=>⟨[(15,some (.v (.one (.ref 900 (mb p ((dc n l m x).take i)).length)))),(41,some (vI i))],[(900,some (.arr true 1 46 (mb p ((dc n l m x).take i)).length (lf sC (mb p ((dc n l m x).take i)))))]⟩) ((dc n l m x).length) ⟨⟨⟨_,rfl,(CoR.refl _)⟩,⟨_,rfl,(CoR.refl _)⟩,trivial⟩,uu⟩ ?_;rintro i hi;have hcl:(mb p ((dc n l m x).take i)).length <= i:=bmy (abs _ _) (by rw [bmv];omega);refine w_5 ?_;refine hcd (fun h1=>?_) (fun h1=>?_)
 ·
  refine pg ?_;refine hcn (fun h2=>?_) (fun h2=>?_)
  ·
   have hq:¬ (dc n l m x).getD i default &&& p = 0:=qt h2;refine w_5 ?_;refine m9 0 ?_;refine r9 1 true ?_;refine w_6 ?_
   first | (refine ⟨i + 1, ?_, ?_, ?_⟩
            · show i + 1 <= _;omega
            · first | omega | (dsimp only;omega)
            exact ⟨⟨⟨_,rfl,(bf (xv bqx hq))⟩,⟨_,rfl,(CoR.refl _)⟩,tt⟩,⟨⟨_,rfl,(bg (xv bqx hq) (CoP.of_eq (congrArg (fun z=>PV.raw (.int .u32 z)) (fv _ _))))⟩,trivial⟩⟩)
         | (refine ⟨i + 1, ?_, ?_, ?_⟩
            · show i + 1 <= _;omega
            · first | omega | (dsimp only;omega)
            exact ⟨⟨⟨_,rfl,(bj (xt bqx hq))⟩,⟨_,rfl,(CoR.refl _)⟩,tt⟩,⟨⟨_,rfl,(bh (xt bqx hq))⟩,trivial⟩⟩)
  have hq:(dc n l m x).getD i default &&& p = 0:=vj h2;refine w_5 ?_
  first | (refine ⟨i + 1, ?_, ?_, ?_⟩
           · show i + 1 <= _;omega
           · first | omega | (dsimp only;omega)
           exact ⟨⟨⟨_,rfl,(bf (xv bqx hq))⟩,⟨_,rfl,(CoR.refl _)⟩,tt⟩,⟨⟨_,rfl,(bg (xv bqx hq) (CoP.of_eq (congrArg (fun z=>PV.raw (.int .u32 z)) (fv _ _))))⟩,trivial⟩⟩)
        | (refine ⟨i + 1, ?_, ?_, ?_⟩
           · show i + 1 <= _;omega
           · first | omega | (dsimp only;omega)
           exact ⟨⟨⟨_,rfl,(bj (xt bqx hq))⟩,⟨_,rfl,(CoR.refl _)⟩,tt⟩,⟨⟨_,rfl,(bh (xt bqx hq))⟩,trivial⟩⟩)
 obtain rfl:i = (dc n l m x).length:=by omega
 rw [show (dc n l m x).take (dc n l m x).length = (dc n l m x) from bmt];refine w_2 ?_;refine al 15 rfl rfl rfl ?_;refine w_2 ?_;refine qcx zk (a7k (mb p (dc n l m x)) (a8a n l m x p)) ?_;refine v_3 ?_;exact ⟨CoC.one (CoP.of_eq (by rw [show b0n n l m x p = jh n l m x p from if_pos hz];rfl)),cci hz.symm,trivial⟩
def bfy (h:ck4 n l m (x ||| p) = 0):a6 brj 140 [pI n,pP (fdl l),pP (fdl m),pA x,pA p] (a8 [pP (asl (jh n l m x p)),pI 0]):=by
 have:=bhq n l m x p;rw [h,show b0n n l m x p = jh n l m x p from if_pos h] at this;exact this
def b50 (n:Int) (l m:List Fd) (p:AS):a6 brj 80 [pI n,pP (fdl l),pP (fdl m),pA p] (a8 [(a6h n l m p).1.pc,pB (a6h n l m p).2,pI (ck4 n l m p)]):=by
 refine hpx (nt:=72) Tryz.func80 ?_;refine sx7 ?_;refine m9 0 ?_;refine bz ?_;refine qcx amr (aez n l m p) ?_;refine w_7 ?_;refine hcn (fun h0=>?_) (fun h0=>?_)
 · refine v_8 ?_;exact by rw [bgw bqy];exact ⟨CoC.agg ⟨CoP.of_eq rfl,CoP.of_eq rfl,trivial⟩,CoC.refl _,CoC.refl _,trivial⟩
 have hz:ck4 n l m p = 0:=h0;have hsl:=uc p;refine w_5 ?_;refine qcx a9d (b54 p) ?_;refine w_4 ?_;refine ae (ι:=Nat) (ka 0 (ka 1 (ka 2 (ka 3 (ka 8 (ka 27 (ka 28 kn))))))) (kb 0 km) (fun i=>⟨[(29,some (vI i))],[]⟩) (fun i=>i <= (ax p).length /\ ((ax p).take i).findSome? (a47 n l m p) = none) (fun i=>(ax p).length - i) (0) (⟨bms _,rfl⟩) ⟨⟨⟨_,rfl,(CoR.refl _)⟩,trivial⟩,trivial⟩ ?_;rintro i ⟨hi,hI⟩;refine w_5 ?_;refine hcd (fun h1=>?_) (fun h1=>?_)
 ·
  have hil:i < (ax p).length:=by omega
  have hxs:sub ((ax p).getD i default) p:=a6m (qe hil);have hX:ckB n l m ((ax p).getD i default) = 0:=afx (a68 hz).2.2 hxs;have hXp:ck4 n l m (((ax p).getD i default) ||| p) = 0:=ah3 hz (vc hxs (gz p));refine n7 ?_;refine qcx (wgx Tryz.func139) (b0v hX) ?_;refine am5 ?_;refine hcd (fun h2=>?_) (fun h2=>?_)
  · have hq:p &&& ~~~(qa n l m ((ax p).getD i default)) = 0:=at5 h2;refine w_5 ?_;refine lpz (i + 1) ⟨⟨⟨_,rfl,(CoR.refl _)⟩,tt⟩,uu⟩ ?_;exact ⟨by omega,(jv hil hI).trans (by first | exact aed hq | exact ad7 hq hc)⟩
  have hq:¬ p &&& ~~~(qa n l m ((ax p).getD i default)) = 0:=aop h2;refine w_8 ?_;refine qcx (wgx Tryz.func140) (bfy hXp) ?_;refine ao5 ?_;refine hcd (fun h3=>?_) (fun h3=>?_)
  ·
   have hc:1 < (jh n l m ((ax p).getD i default) p).length:=by omega
   have hcl:(jh n l m ((ax p).getD i default) p).length <= 8589934592:=bmy (ke _) (a8a n l m ((ax p).getD i default) p);refine cq ?_;refine hrr ?_
   have he:a6h n l m p = (⟨((ax p).getD i default),(jh n l m ((ax p).getD i default) p).getD 0 default⟩,true):=by
    rw [acz hz,show ce n l m p = some _ from ua hil hI (axl hq hc)];rfl
   exact f9 rfl rfl (by rw [he];exact ⟨CoC.agg ⟨CoP.refl _,CoP.refl _,trivial⟩,CoC.refl _,cci hz.symm,trivial⟩)
  have hc:¬ 1 < (jh n l m ((ax p).getD i default) p).length:=by omega
  refine w_5 ?_;refine lpz (i + 1) ⟨⟨⟨_,rfl,(CoR.refl _)⟩,tt⟩,uu⟩ ?_;exact ⟨by omega,(jv hil hI).trans (by first | exact aed hq | exact ad7 hq hc)⟩
 obtain rfl:i = (ax p).length:=by omega
 rw [show (ax p).take (ax p).length = (ax p) from bmt] at hI;refine w_8 ?_;refine hrr ?_
 have he:a6h n l m p = (⟨0,0⟩,false):=by
  rw [acz hz,show ce n l m p = none from hI];rfl
 exact f9 rfl rfl (by rw [he];exact ⟨CoC.agg ⟨CoP.of_eq rfl,CoP.of_eq rfl,trivial⟩,CoC.refl _,cci hz.symm,trivial⟩)
def bcg (h:ck4 n l m p = 0):a6 brj 80 [pI n,pP (fdl l),pP (fdl m),pA p] (a8 [(vF (ce n l m) p).pc,pB (vBo (ce n l m) p),pI 0]):=by
 have:=b50 n l m p;rw [h,acz h] at this;exact this
def axy {V:AS -> Option Fd} {t:List AS} {i j:Nat} (h:i = j):PV.raw (.int .u32 (az .andNot .u32 (asI (t.getD i default)) (asI (vF V (t.getD j default)).rhs))) = sC (lu V (t.getD j default)) 0:=by
 subst h;exact congrArg (fun z=>PV.raw (.int .u32 z)) (gl _ _)
def arx {t:List AS} {s:AS} (ht:∀ q ∈ t,ck4 n l m q = 0) (hv:vBo (ce n l m) s = true) (hs:ck4 n l m s = 0):∀ q ∈ t ++ [nv (ce n l m) s,lu (ce n l m) s],ck4 n l m q = 0:=by
 intro q hq
 rcases bn1.1 hq with hq | hq
 · exact ht q hq
 obtain ⟨h1,h2,h3⟩:=ln n l m s _ (ab1 hv);simp only [bn0,List.not_mem_nil,or_false] at hq
 rcases hq with rfl | rfl
 · exact ah3 hs h1
 exact ah3 hs ml
def bje (n:Int) (l m:List Fd):a6 brj 34 [pI n,pP (fdl l),pP (fdl m)] (a8 [pP (asl (af0 n l m)),pI (ck4 n l m 0)]):=by
 refine hpx (nt:=71) Tryz.func34 ?_;refine cq ?_;refine qcx amr (aez n l m 0) ?_;refine w_7 ?_;refine hcn (fun h0=>?_) (fun h0=>?_)
 · refine v_6 ?_;exact ⟨CoC.one (zr (beb bqy)),CoC.refl _,trivial⟩
 have hz:ck4 n l m 0 = 0:=h0;obtain ⟨hn0,hn8,hb⟩:=a68 hz;have hn1:n <= 16:=by omega
 have hf:ck4 n l m (a7 n) = 0:=by rw [a5o bqx];exact ae9 (a67 hb).1 (an9 hn1)
 refine w_5 ?_;refine rq rfl rfl rfl rfl rfl ?_ (hp:=⟨ww hn0 hn1,uf hn0 hn1⟩);refine m9 0 ?_;refine w_8 ?_;refine bw 10 900 true 1 46 (lf sC []) br2 rfl (CoP.sl rfl (.inr rfl) (fun h=>h) (fun i j hi _=>absurd hi (bmq i))) (.inr rfl) rfl ?_;refine jz 9 901 rfl rfl rfl rfl ?_
 refine ae (ι := Nat × List AS × List AS) (ka 0 (ka 1 (ka 2 kn))) km (fun x => ⟨[(10, some (.v (.one (.ref 900 x.2.2.length)))), (9, some (.v (.one (.ref 901 x.2.1.length))))], [(900, some (.arr true 1 46 x.2.2.length (lf sC x.2.2))), (901, some (.arr true 1 46 x.2.1.length (lf sC x.2.1)))]⟩) (fun x => a89 (ce n l m) (a7 n) x /\ ∀ q ∈ x.2.1, ck4 n l m q = 0) (fun x => x.1) ((6562, [a7 n], [])) (⟨air hn8, fun q hq => by
       simp only [bn2] at hq
       rw [hq];exact hf⟩) ⟨tt,⟨u9,⟨_,rfl,(qi (CoP.of_eq (congrArg (fun z=>PV.raw (.int .u32 z)) (sg hn0 hn1))))⟩,trivial⟩⟩ ?_
 rintro x ⟨hx,hk⟩;have hlen:=a4t hx;refine jz 9 902 rfl rfl rfl rfl ?_;refine w_7 ?_;refine hcd (fun h1=>?_) (fun h1=>?_)
 ·
  have hs:ck4 n l m (x.2.1.getD (x.2.1.length - 1) default) = 0:=hk _ (qe bqx);refine a82 ?_;refine a4a ⟨[(0,some _),(1,some _),(2,some _),(9,some _),(10,some _),(11,some _)],[(900,some _),(902,some _)]⟩ (by exact kk) ?_;refine ab5 9 901 rfl rfl rfl rfl (by simp only [d5,ar,bmz];omega) rfl ?_;refine w_6 ?_;refine rc rfl rfl rfl rfl rfl rfl (wgx Tryz.func80) (bcg (p:=(x.2.1.getD (x.2.1.length - 1) default)) hs) (⟨CoC.refl _,CoC.refl _,CoC.refl _,CoC.one (CoP.of_eq (congrArg (fun i=>asC (x.2.1.getD i default)) bqx)),trivial⟩) rfl rfl ?_;refine w_4 ?_;refine m9 1 ?_;refine pg ?_;refine aj _ rfl (fun r2=>?_) (fun r2=>?_)
  ·
   have h2:=r2;have hv:vBo (ce n l m) (x.2.1.getD (x.2.1.length - 1) default) = true:=r2;refine cq ?_;refine m9 2 ?_;refine r9 3 true ?_;refine w_2 ?_
   first | (refine ⟨(x.1 - 1, (x.2.1.take (x.2.1.length - 1)) ++ [nv (ce n l m) (x.2.1.getD (x.2.1.length - 1) default), lu (ce n l m) (x.2.1.getD (x.2.1.length - 1) default)], x.2.2), ?_, ?_, ?_⟩
            · exact ⟨axh (ln n l m) hx bqx hv,arx (fun q hq=>hk q (bos hq)) hv hs⟩
            · dsimp only
              omega
            exact ⟨⟨zy,⟨_,rfl,(gj br5)⟩,tt⟩,⟨u9,⟨_,rfl,(a96 br5 (fun i hi=>CoP.of_eq (a4y hi)) (CoP.of_eq (congrArg (fun z=>PV.raw (.int .u32 z)) (bOr _ _))) (CoP.of_eq (axy bqx)) rfl)⟩,trivial⟩⟩)
         | (refine ⟨(x.1 - 1,(x.2.1.take (x.2.1.length - 1)),x.2.2 ++ [(x.2.1.getD (x.2.1.length - 1) default)]), ?_, ?_, ?_⟩
            · exact ⟨ayu hx bqx hv,fun q hq=>hk q (bos hq)⟩
            · dsimp only
              omega
            exact ⟨⟨⟨_,rfl,(bf rfl)⟩,⟨_,rfl,(gj br5)⟩,tt⟩,⟨⟨_,rfl,(bg rfl (CoP.of_eq (congrArg (fun i=>asC (x.2.1.getD i default)) bqx)))⟩,⟨_,rfl,(a41 bqx (by simp only [d5,ar];omega))⟩,trivial⟩⟩)
  have h2:=r2;have hv:vBo (ce n l m) (x.2.1.getD (x.2.1.length - 1) default) = false:=r2;refine w_3 ?_;refine m9 4 ?_;refine r9 5 true ?_;refine w_2 ?_
  first | (refine ⟨(x.1 - 1, (x.2.1.take (x.2.1.length - 1)) ++ [nv (ce n l m) (x.2.1.getD (x.2.1.length - 1) default), lu (ce n l m) (x.2.1.getD (x.2.1.length - 1) default)], x.2.2), ?_, ?_, ?_⟩
           · exact ⟨axh (ln n l m) hx bqx hv,arx (fun q hq=>hk q (bos hq)) hv hs⟩
           · dsimp only
             omega
           exact ⟨⟨zy,⟨_,rfl,(gj br5)⟩,tt⟩,⟨u9,⟨_,rfl,(a96 br5 (fun i hi=>CoP.of_eq (a4y hi)) (CoP.of_eq (congrArg (fun z=>PV.raw (.int .u32 z)) (bOr _ _))) (CoP.of_eq (axy bqx)) rfl)⟩,trivial⟩⟩)
        | (refine ⟨(x.1 - 1,(x.2.1.take (x.2.1.length - 1)),x.2.2 ++ [(x.2.1.getD (x.2.1.length - 1) default)]), ?_, ?_, ?_⟩
           · exact ⟨ayu hx bqx hv,fun q hq=>hk q (bos hq)⟩
           · dsimp only
             omega
           exact ⟨⟨⟨_,rfl,(bf rfl)⟩,⟨_,rfl,(gj br5)⟩,tt⟩,⟨⟨_,rfl,(bg rfl (CoP.of_eq (congrArg (fun i=>asC (x.2.1.getD i default)) bqx)))⟩,⟨_,rfl,(a41 bqx (by simp only [d5,ar];omega))⟩,trivial⟩⟩)
 refine w_2 ?_;refine al 10 rfl rfl rfl ?_;have hx0:x.2.1.length = 0:=by omega
 refine w_2 ?_;refine qcx acs (a4o x.2.2 bqx) ?_;refine v_3 ?_;exact ⟨CoC.one (CoP.of_eq (by rw [ayn hz,b16 hx hx0];rfl)),cci hz.symm,trivial⟩
end
end
section
structure Mx where
 d:Dps
 m:List Dp
deriving Inhabited
def Mx.mv (x:Mx):List Fd:=x.m.map (Dp.fd x.d.num)
def Mx.c (x:Mx):Nat -> PV
 | 0=>x.d.c 0
 | 1=>x.d.c 1
 | 2=>dpl x.m
 | _=>.any
abbrev Mx.pc (x:Mx):PC:=.agg [x.c 0,x.c 1,x.c 2]
def Mx.ok (x:Mx):Bool:=decide (x.d.l.length <= 6) && decide (x.m.length <= 4)
def bg4 {a b:List AS} (hl:a.length = b.length) (h:∀ j,j < a.length -> a.getD j default = b.getD j default):a = b:=by
 apply List.ext_getElem hl;intro i h1 h2;have:=h i h1;rw [bmm,bmm,bml h1,bml h2] at this;simpa using this
def bmd (n:Int) (l m:List Fd) (ps:List AS):Int:=if ck4 n l m 0 = 0 then lsC n ps l m else ck4 n l m 0
def bmc (n:Int) (l m:List Fd) (ps:List AS):Bool:=if ck4 n l m 0 = 0 then (if lsC n ps l m = 0 then lsB n ps l m && ps.all (fun p=>!vBo (ce n l m) p) else false) else false
end
section
def fdP (d:Fd) (r k:AS):Option AS:=if (r ^^^ k) &&& d.lhs = 0 then (if (r ^^^ k) &&& d.rhs = 0 then none else some ((r ^^^ k) &&& d.rhs)) else none
def fdQ (d:Fd) (T:List AS) (r:AS):Option AS:=T.findSome? (fdP d r)
def fdT (d:Fd) (T:List AS):Option AS:=T.findSome? (fdQ d T)
section
variable {T:List AS} {d:Fd}
def aow {s:AS} (h:fdT d T = some s):∃ r ∈ T,∃ k ∈ T,agB d r k = true /\ s = (r ^^^ k) &&& d.rhs /\ s ≠ 0:=by
 unfold fdT at h;obtain ⟨r,hr,h⟩:=bpm h;unfold fdQ at h;obtain ⟨k,hk,h⟩:=bpm h;unfold fdP at h;split at h
 · rename_i h1
   split at h
   · cases h
   rename_i h2;cases h;exact ⟨r,hr,k,hk,decide_eq_true h1,rfl,h2⟩
 cases h
def b23 (h:fdT d T = none):∀ r ∈ T,∀ k ∈ T,agB d r k = true -> (r ^^^ k) &&& d.rhs = 0:=by
 intro r hr k hk ha;unfold fdT at h;rw [bp9] at h;have h:=h r hr;unfold fdQ at h;rw [bp9] at h;have h:=h k hk;unfold fdP at h;rw [if_pos (of_decide_eq_true ha)] at h;split at h
 · assumption
 cases h
def ajk {r k:AS} (h:¬ (r ^^^ k) &&& d.lhs = 0):fdP d r k = none:=if_neg h
def ajv {r k:AS} (h:(r ^^^ k) &&& d.lhs = 0) (h2:(r ^^^ k) &&& d.rhs = 0):fdP d r k = none:=by unfold fdP;rw [if_pos h,if_pos h2]
def b5a {r k:AS} (h:(r ^^^ k) &&& d.lhs = 0) (h2:¬ (r ^^^ k) &&& d.rhs = 0):fdP d r k = some ((r ^^^ k) &&& d.rhs):=by unfold fdP;rw [if_pos h,if_neg h2]
def xm (h:T.Nodup):T.length <= 4294967296:=by
 have h1:(T.map BitVec.toNat).Nodup:=List.Pairwise.map _ (fun a b hab e=>hab (bnp e)) h
 have h2:∀ x ∈ T.map BitVec.toNat,x < 4294967296:=by
  intro x hx;obtain ⟨a,_,rfl⟩:=bne.1 hx;exact a.isLt
 have hlen:(T.map BitVec.toNat).length = T.length:=bn6 _;rw [<- hlen]
 have key:∀ (N:Nat) (l:List Nat),l.Nodup -> (∀ x ∈ l,x < N) -> l.length <= N:=by
  intro N
  induction N with
  | zero =>
   intro l _ hl
   cases l with
   | nil=>exact bmp _
   | cons a l=>exact absurd (hl a br1) (bmq _)
  | succ N ih =>
   intro l hn hl
   have h3:=ih (l.filter fun x=>!decide (x = N)) (hn.filter _) fun x hx=>by
    rw [bol] at hx;have:=hl x hx.1;have hx2:¬ x = N:=by simpa using hx.2
    omega
   have h4:l.length <= (l.filter fun x=>!decide (x = N)).length + 1:=by
    have h5:∀ l:List Nat,l.length = (l.filter fun x=>!decide (x = N)).length + l.countP fun x=>decide (x = N):=by
     intro l
     induction l with
     | nil=>rfl
     | cons a l ih =>
      by_cases e:a = N
      · simp [bns,bp8,e,ih];omega
      simp [bns,bp8,e,ih];omega
    have h6:=h5 l
    have h7:(l.countP fun x=>decide (x = N)) <= 1:=by
     have:=hn.count (a:=N)
     have e:(l.countP fun x=>decide (x = N)) = l.count N:=by
      unfold List.count;congr 1
     rw [e]
     first | exact List.nodup_iff_count.1 hn N | (rw [this];split <;> omega)
    omega
   omega
 exact key _ _ h1 h2
def a0m {i:Nat} (hi:i < 32):(orL T).getLsbD i = T.any fun r=>r.getLsbD i:=by
 unfold orL
 have:∀ (T:List AS) (o:AS),(T.foldl (· ||| ·) o).getLsbD i = (o.getLsbD i || T.any fun r=>r.getLsbD i):=by
  intro T
  induction T with
  | nil=>intro o;simp
  | cons a T ih=>intro o;rw [bor,ih,bo9,List.any_cons,Bool.or_assoc]
 rw [this];simp
def b92 {s:AS}:orL (kx T s) = orL T &&& ~~~s:=by
 apply lc;intro i hi;rw [a0m hi,cw hi,a0m hi]
 cases hs:s.getLsbD i with
 | true =>
  simp only [bpu,bqv];rw [bof];intro z hz;obtain ⟨r,hr,rfl⟩:=tq.1 hz;rw [cw hi,hs];simp
 | false =>
  simp only [bqt,Bool.and_true];rw [bom,bno,bno];constructor
  · rintro ⟨z,hz,hb⟩
    obtain ⟨r,hr,rfl⟩:=tq.1 hz;rw [cw hi,bmw] at hb;exact ⟨r,hr,hb.1⟩
  rintro ⟨r,hr,hb⟩;exact ⟨r &&& ~~~s,tq.2 ⟨r,hr,rfl⟩,by rw [cw hi,hb,hs];rfl⟩
def ag1 {s:AS} (h:fdT d T = some s):(orL (kx T s)).toNat < (orL T).toNat:=by
 obtain ⟨r,hr,k,hk,_,rfl,hz⟩:=aow h;rw [b92];refine a0n ml fun e=>?_;obtain ⟨i,hi,hb⟩:=ama hz;have h1:=congrArg (fun z:AS=>z.getLsbD i) e;simp only [cw hi,hb,bpu,bqv] at h1;have h1:(orL T).getLsbD i = false:=h1.symm;rw [a0m hi,bof] at h1;rw [bn4,bqo,bmw] at hb;have h2:r.getLsbD i = false:=by simpa using h1 r hr
 have h3:k.getLsbD i = false:=by simpa using h1 k hk
 rw [h2,h3] at hb;simp at hb
def s7 (d:Fd):Nat -> List AS -> List AS
 | 0,T=>T
 | f + 1,T=>match fdT d T with
  | none=>T
  | some s=>s7 d f (kx T s)
def mvS (d:Fd) (T:List AS) (i k:Nat):List AS:=if agB d (T.getD i default) (T.getD k default) = true then gr T (lg d (T.getD i default) (T.getD k default)) else T
def mvI (d:Fd):Nat -> List AS -> Nat -> Nat -> List AS
 | 0,T,_,_=>T
 | f + 1,T,i,k=>if k < T.length then mvI d f (mvS d T i k) i (k + 1) else T
def mvO (d:Fd):Nat -> List AS -> Nat -> List AS
 | 0,T,_=>T
 | f + 1,T,i=>if i < T.length then mvO d f (mvI d 8589934592 T i 0) (i + 1) else T
def a2s (d:Fd) (T:List AS) (i k:Nat):T <+: mvS d T i k:=by
 unfold mvS gr;split
 · split
   · exact bpn _
   exact List.prefix_append _ _
 exact bpn _
def ze (d:Fd):∀ (f:Nat) (T:List AS) (i k:Nat),T <+: mvI d f T i k
 | 0,T,_,_=>bpn _
 | f + 1,T,i,k=>by
  unfold mvI;split
  · exact (a2s d T i k).trans (ze d f _ i (k + 1))
  exact bpn _
def a3c (d:Fd):∀ (f:Nat) (T:List AS) (i:Nat),T <+: mvO d f T i
 | 0,T,_=>bpn _
 | f + 1,T,i=>by
  unfold mvO;split
  · exact (ze d _ T i 0).trans (a3c d f _ (i + 1))
  exact bpn _
variable {A B:List AS}
def awk (h:A <+: B) (hl:B.length = A.length):B = A:=by
 obtain ⟨C,rfl⟩:=h;rw [bmo] at hl;rw [bqh.1 (show C.length = 0 by omega),bnn]
def aab {C:List AS} (h:A <+: B) (k:B <+: C) (hl:C.length = A.length):B = A:=by
 have h1:=h.length_le;have h2:=k.length_le;exact awk h bqx
def an7:∀ {f:Nat} {T:List AS} {i k:Nat},T.length < f + k -> (mvI d f T i k).length = T.length -> ∀ j,k <= j -> j < T.length -> agB d (T.getD i default) (T.getD j default) = true -> lg d (T.getD i default) (T.getD j default) ∈ T
 | 0,T,i,k,hf,_,j,hj,hjl,_=>by omega
 | f + 1,T,i,k,hf,hl,j,hj,hjl,ha=>by
  unfold mvI at hl;rw [if_pos bqx] at hl;have e:=aab (a2s d T i k) (ze d f _ i (k + 1)) hl;by_cases hjk:j = k
  · subst hjk
    unfold mvS gr at e;rw [if_pos ha] at e;split at e
    · assumption
    have:=congrArg List.length e;simp at this
  rw [e] at hl;exact an7 bqx hl j bqx hjl ha
def anz:∀ {f:Nat} {T:List AS} {i:Nat},T.length <= 4294967296 -> T.length < f + i -> (mvO d f T i).length = T.length -> ∀ a,i <= a -> a < T.length -> ∀ j,j < T.length -> agB d (T.getD a default) (T.getD j default) = true -> lg d (T.getD a default) (T.getD j default) ∈ T
 | 0,T,i,_,hf,_,a,ha,hal,_,_,_=>by omega
 | f + 1,T,i,hT,hf,hl,a,ha,hal,j,hj,hag=>by
  unfold mvO at hl;rw [if_pos bqx] at hl;have e:=aab (ze d 8589934592 T i 0) (a3c d f _ (i + 1)) hl;by_cases hai:a = i
  · subst hai
    exact an7 bqx (congrArg List.length e) j (bms _) hj hag
  rw [e] at hl;exact anz hT bqx hl a bqx hal j hj hag
def az9 {i k:Nat} (h:T.Nodup):(mvS d T i k).Nodup:=by
 unfold mvS;split
 · exact yo h
 exact h
def aoa:∀ {f:Nat} {T:List AS} {i k:Nat},T.Nodup -> (mvI d f T i k).Nodup
 | 0,T,_,_,h=>h
 | f + 1,T,i,k,h=>by
  unfold mvI;split
  · exact aoa (az9 h)
  exact h
def anp:∀ {f:Nat} {T:List AS} {i:Nat},T.Nodup -> (mvO d f T i).Nodup
 | 0,T,_,h=>h
 | f + 1,T,i,h=>by
  unfold mvO;split
  · exact anp (aoa h)
  exact h
abbrev TC:=List AS × Bool
def FU2:Nat:=8589934592
def fdR (x:TC) (d:Fd):TC:=(s7 d FU2 x.1,x.2 || (fdT d x.1).isSome)
def mvR (x:TC) (d:Fd):TC:=(mvO d FU2 x.1 0,x.2 || decide (x.1.length < (mvO d FU2 x.1 0).length))
def o9 (fs ms:List Fd) (T:List AS):TC:=ms.foldl mvR (fs.foldl fdR (T,false))
def chF (fs ms:List Fd):Nat -> List AS -> List AS
 | 0,T=>T
 | f + 1,T=>if (o9 fs ms T).2 = true then chF fs ms f (o9 fs ms T).1 else (o9 fs ms T).1
def muT (T:List AS):Nat:=(orL T).toNat * FU2 + (4294967296 - T.length)
def a1c {f:Nat} {s:AS} (h:fdT d T = some s):s7 d (f + 1) T = s7 d f (kx T s):=by
 show (match fdT d T with | none=>T | some s=>s7 d f (kx T s)) = _;rw [h]
def a14 {f:Nat} (h:fdT d T = none):s7 d f T = T:=by
 cases f with
 | zero=>rfl
 | succ f =>
  show (match fdT d T with | none=>T | some s=>s7 d f (kx T s)) = _;rw [h]
variable {P:List AS -> Prop}
def aos (hP:∀ T s,P T -> fdT d T = some s -> P (kx T s)):∀ (f:Nat) (T:List AS),P T -> P (s7 d f T)
 | 0,T,h=>h
 | f + 1,T,h=>by
  cases hq:fdT d T with
  | none=>rw [a14 hq];exact h
  | some s=>rw [a1c hq];exact aos hP f _ (hP T s h hq)
def aqs (hP:∀ T r k,P T -> r ∈ T -> k ∈ T -> agB d r k = true -> P (gr T (lg d r k))):∀ (f:Nat) (T:List AS) (i k:Nat),i < T.length -> P T -> P (mvI d f T i k)
 | 0,T,_,_,_,h=>h
 | f + 1,T,i,k,hi,h=>by
  unfold mvI;split
  · rename_i hk
    refine aqs hP f _ i (k + 1) (bow hi (a2s d T i k).length_le) ?_;unfold mvS;split
    · rename_i ha
      exact hP T _ _ h (qe hi) (qe hk) ha
    exact h
  exact h
def ag7 (hP:∀ T r k,P T -> r ∈ T -> k ∈ T -> agB d r k = true -> P (gr T (lg d r k))):∀ (f:Nat) (T:List AS) (i:Nat),P T -> P (mvO d f T i)
 | 0,T,_,h=>h
 | f + 1,T,i,h=>by
  unfold mvO;split
  · rename_i hi
    exact ag7 hP f _ (i + 1) (aqs hP _ T i 0 hi h)
  exact h
variable {fs:List Fd}
def a8c (hP:∀ d ∈ fs,∀ T s,P T -> fdT d T = some s -> P (kx T s)):∀ (ds:List Fd) (x:TC),(∀ d ∈ ds,d ∈ fs) -> P x.1 -> P (ds.foldl fdR x).1
 | [],x,_,h=>h
 | d :: ds,x,hd,h=>a8c hP ds (fdR x d) (fun e he=>hd e (by simp [he])) (aos (hP d (hd d br1)) _ _ h)
variable {ms:List Fd}
def aff (hP:∀ d ∈ ms,∀ T r k,P T -> r ∈ T -> k ∈ T -> agB d r k = true -> P (gr T (lg d r k))):∀ (ds:List Fd) (x:TC),(∀ d ∈ ds,d ∈ ms) -> P x.1 -> P (ds.foldl mvR x).1
 | [],x,_,h=>h
 | d :: ds,x,hd,h=>aff hP ds (mvR x d) (fun e he=>hd e (by simp [he])) (ag7 (hP d (hd d br1)) _ _ _ h)
def a9o (h1:∀ d ∈ fs,∀ T s,P T -> fdT d T = some s -> P (kx T s)) (h2:∀ d ∈ ms,∀ T r k,P T -> r ∈ T -> k ∈ T -> agB d r k = true -> P (gr T (lg d r k))) (h:P T):P (o9 fs ms T).1 :=
 aff h2 ms _ (fun _ h=>h) (a8c h1 fs (T,false) (fun _ h=>h) h)
def ayh (h1:∀ d ∈ fs,∀ T s,P T -> fdT d T = some s -> P (kx T s)) (h2:∀ d ∈ ms,∀ T r k,P T -> r ∈ T -> k ∈ T -> agB d r k = true -> P (gr T (lg d r k))):∀ (f:Nat) (T:List AS),P T -> P (chF fs ms f T)
 | 0,T,h=>h
 | f + 1,T,h=>by
  unfold chF;split
  · exact ayh h1 h2 f _ (a9o h1 h2 h)
  exact a9o h1 h2 h
def ajq:∀ d ∈ fs,∀ (T:List AS) (s:AS),T.Nodup -> fdT d T = some s -> (kx T s).Nodup:=fun _ _ T s _ _=>aeb T s
def auh:∀ d ∈ ms,∀ (T:List AS) (r k:AS),T.Nodup -> r ∈ T -> k ∈ T -> agB d r k = true -> (gr T (lg d r k)).Nodup:=fun _ _ _ _ _ h _ _ _=>yo h
def alx:∀ (ds:List Fd) (x:TC),x.2 = true -> (ds.foldl fdR x).2 = true
 | [],x,h=>h
 | d :: ds,x,h=>alx ds (fdR x d) (by unfold fdR;simp [h])
def abx:∀ (ds:List Fd) (x:TC),x.2 = true -> (ds.foldl mvR x).2 = true
 | [],x,h=>h
 | d :: ds,x,h=>abx ds (mvR x d) (by unfold mvR;simp [h])
def an1:∀ {ds:List Fd} {x:TC},(ds.foldl fdR x).2 = false -> ds.foldl fdR x = x /\ ∀ d ∈ ds,fdT d x.1 = none
 | [],x,h=>⟨rfl,fun _ h=>by cases h⟩
 | d :: ds,x,h=>by
  have hx2:(fdR x d).2 = false:=by
   cases hq:(fdR x d).2 with
   | false=>rfl
   | true=>rw [bor,alx ds _ hq] at h;cases h
  have hd:x.2 = false /\ fdT d x.1 = none:=by
   unfold fdR at hx2;rw [bpq] at hx2;exact ⟨hx2.1,by cases hq:fdT d x.1 with | none=>rfl | some s=>rw [hq] at hx2;cases hx2.2⟩
  have e:fdR x d = x:=by
   unfold fdR;rw [a14 hd.2,hd.2];simp
  rw [bor,e] at h;obtain ⟨q1,q2⟩:=an1 h;refine ⟨by rw [bor,e];exact q1,fun k hk=>?_⟩
  rcases bn0.1 hk with rfl | hk
  · exact hd.2
  exact q2 k hk
def aoi:∀ {ds:List Fd} {x:TC},x.1.Nodup -> (ds.foldl mvR x).2 = false -> ds.foldl mvR x = x /\ ∀ d ∈ ds,∀ r ∈ x.1,∀ k ∈ x.1,agB d r k = true -> lg d r k ∈ x.1
 | [],x,_,h=>⟨rfl,fun _ h=>by cases h⟩
 | d :: ds,x,hn,h=>by
  have hx2:(mvR x d).2 = false:=by
   cases hq:(mvR x d).2 with
   | false=>rfl
   | true=>rw [bor,abx ds _ hq] at h;cases h
  have hfew:=xm hn
  have hd:x.2 = false /\ (mvO d FU2 x.1 0).length = x.1.length:=by
   unfold mvR at hx2;rw [bpq] at hx2;refine ⟨hx2.1, ?_⟩;have h1:=of_decide_eq_false hx2.2;have h2:=(a3c d FU2 x.1 0).length_le;omega
  have e0:mvO d FU2 x.1 0 = x.1:=awk (a3c d FU2 x.1 0) hd.2
  have e:mvR x d = x:=by
   unfold mvR;rw [e0];simp
  rw [bor,e] at h;obtain ⟨q1,q2⟩:=aoi hn h;refine ⟨by rw [bor,e];exact q1,fun k hk=>?_⟩
  rcases bn0.1 hk with rfl | hk
  · intro r hr q hq ha
    obtain ⟨i,hi,rfl⟩:=bq6.1 hr;obtain ⟨j,hj,rfl⟩:=bq6.1 hq;have g:=anz (d:=k) (f:=FU2) (T:=x.1) (i:=0) hfew (by show _ < 8589934592 + 0;omega) hd.2 i (bms _) hi j hj;have ei:x.1.getD i default = x.1[i]:=by rw [bmm,bml hi];rfl
    have ej:x.1.getD j default = x.1[j]:=by rw [bmm,bml hj];rfl
    rw [ei,ej] at g;exact g ha
  exact q2 k hk
def b3m (hn:T.Nodup) (h:(o9 fs ms T).2 = false):(o9 fs ms T).1 = T /\ ajz fs ms T:=by
 unfold o9 at h ⊢
 have h0:(fs.foldl fdR (T,false)).2 = false:=by
  cases hq:(fs.foldl fdR (T,false)).2 with
  | false=>rfl
  | true=>rw [abx ms _ hq] at h;cases h
 obtain ⟨e1,c1⟩:=an1 h0;rw [e1] at h ⊢;obtain ⟨e2,c2⟩:=aoi (x:=(T,false)) hn h;rw [e2];exact ⟨rfl,fun d hd=>b23 (c1 d hd),fun d hd r hr k hk ha=>c2 d hd r hr k hk ha⟩
def avu (h:(orL B).toNat < (orL A).toNat):muT B < muT A:=by
 unfold muT;have h1:((orL B).toNat + 1) * FU2 <= (orL A).toNat * FU2:=bn7 _ h;rw [bny] at h1;have:FU2 = 8589934592:=rfl;omega
def b78 (hp:A <+: B) (ho:(orL B).toNat = (orL A).toNat) (hB:B.length <= 4294967296):muT B <= muT A /\ (A.length < B.length -> muT B < muT A):=by
 unfold muT;rw [ho];have:=hp.length_le;omega
def b9e {r k:AS} (hr:r ∈ T) (hk:k ∈ T):orL (gr T (lg d r k)) = orL T:=by
 apply lc;intro i hi;rw [a0m hi,a0m hi,bom,bno,bno];constructor
 · rintro ⟨z,hz,hb⟩
   rcases qh.1 hz with hz | rfl
   · exact ⟨z,hz,hb⟩
   rw [wn hi] at hb;split at hb
   · exact ⟨r,hr,hb⟩
   exact ⟨k,hk,hb⟩
 rintro ⟨z,hz,hb⟩;exact ⟨z,qh.2 (.inl hz),hb⟩
def b7u {f:Nat} {i:Nat}:orL (mvO d f T i) = orL T :=
 ag7 (P:=fun X=>orL X = orL T) (fun X r k h hr hk _=>(b9e hr hk).trans h) f T i rfl
def aqr {T0:List AS} (f:Nat):∀ (T:List AS),muT T <= muT T0 -> muT (s7 d f T) <= muT T0:=by
 induction f with
 | zero=>intro T h;exact h
 | succ f ih =>
  intro T h
  cases hq:fdT d T with
  | none=>rw [a14 hq];exact h
  | some s =>
   rw [a1c hq];have h1:=avu (ag1 hq);exact ih _ bqx
def ben (x:TC) (d:Fd):muT (fdR x d).1 <= muT x.1 /\ (x.2 = false -> (fdR x d).2 = true -> muT (fdR x d).1 < muT x.1):=by
 refine ⟨aqr _ _ (bmp _),fun h1 h2=>?_⟩;unfold fdR at h2 ⊢;rw [h1,bqi,Option.isSome_iff_exists] at h2;obtain ⟨s,hs⟩:=h2;show muT (s7 d FU2 x.1) < _;rw [show FU2 = 8589934591 + 1 from rfl,a1c hs];exact bq1 (aqr _ _ (bmp _)) (avu (ag1 hs))
def bf3 {x:TC} (hn:x.1.Nodup) (d:Fd):muT (mvR x d).1 <= muT x.1 /\ (x.2 = false -> (mvR x d).2 = true -> muT (mvR x d).1 < muT x.1):=by
 have h:=b78 (a3c d FU2 x.1 0) (congrArg BitVec.toNat b7u) (xm (anp hn));refine ⟨h.1,fun h1 h2=>h.2 ?_⟩;unfold mvR at h2;rw [h1,bqi] at h2;exact of_decide_eq_true h2
def aru:∀ (ds:List Fd) (x:TC),muT (ds.foldl fdR x).1 <= muT x.1 /\ (x.2 = false -> (ds.foldl fdR x).2 = true -> muT (ds.foldl fdR x).1 < muT x.1)
 | [],x=>⟨bmp _,fun h k=>by simp only [List.foldl_nil] at k;rw [h] at k;cases k⟩
 | d :: ds,x=>by
  obtain ⟨a1,a2⟩:=ben x d;obtain ⟨b1,b2⟩:=aru ds (fdR x d);refine ⟨bmy b1 a1,fun h k=>?_⟩
  cases hq:(fdR x d).2 with
  | true=>exact bq1 b1 (a2 h hq)
  | false=>exact bow (b2 hq k) a1
def arh:∀ (ds:List Fd) (x:TC),x.1.Nodup -> muT (ds.foldl mvR x).1 <= muT x.1 /\ (x.2 = false -> (ds.foldl mvR x).2 = true -> muT (ds.foldl mvR x).1 < muT x.1)
 | [],x,_=>⟨bmp _,fun h k=>by simp only [List.foldl_nil] at k;rw [h] at k;cases k⟩
 | d :: ds,x,hn=>by
  obtain ⟨a1,a2⟩:=bf3 hn d;obtain ⟨b1,b2⟩:=arh ds (mvR x d) (anp hn);refine ⟨bmy b1 a1,fun h k=>?_⟩
  cases hq:(mvR x d).2 with
  | true=>exact bq1 b1 (a2 h hq)
  | false=>exact bow (b2 hq k) a1
def aw7 (hn:T.Nodup) (h:(o9 fs ms T).2 = true):muT (o9 fs ms T).1 < muT T:=by
 unfold o9 at h ⊢;obtain ⟨a1,a2⟩:=aru fs (T,false);have hn2:(fs.foldl fdR (T,false)).1.Nodup:=a8c ajq fs (T,false) (fun _ h=>h) hn;obtain ⟨b1,b2⟩:=arh ms (fs.foldl fdR (T,false)) hn2
 cases hq:(fs.foldl fdR (T,false)).2 with
 | true=>exact bq1 b1 (a2 rfl hq)
 | false=>exact bow (b2 hq h) a1
def b96 (f:Nat):∀ {T:List AS},T.Nodup -> muT T < f -> ajz fs ms (chF fs ms f T):=by
 induction f with
 | zero=>intro T _ h;omega
 | succ f ih =>
  intro T hn h;unfold chF;split
  · rename_i hc
    have h1:=aw7 hn hc;exact ih (a9o ajq auh hn) bqx
  rename_i hc;rw [bqa] at hc;obtain ⟨e,c⟩:=b3m hn hc;rw [e];exact c
def MU:Nat:=73786976294838206464
def avn (T:List AS):muT T < MU:=by
 unfold muT;have h:=(orL T).isLt;have h1:((orL T).toNat + 1) * FU2 <= 4294967296 * FU2:=bn7 _ h;rw [bny] at h1;have e:FU2 = 8589934592:=rfl;have e2:MU = 73786976294838206464:=rfl;omega
def abr (rest:AS):List AS:=gr [0] rest
def chT (fs ms:List Fd) (rest:AS):List AS:=chF fs ms MU (abr rest)
def b4a (rest:AS):(abr rest).Nodup:=yo br1
def ap3 {rest:AS}:b2c fs ms (blks (jr fs ms) rest) rest (chT fs ms rest):=by
 obtain ⟨hb,hs⟩:=a9j (jr fs ms) rest;refine ⟨ayh (P:=JT fs (blks (jr fs ms) rest) rest) (fun d hd T s hT hq=>?_) (fun d hd T r k hT hr hk ha=>?_) MU (abr rest) ?_,b96 MU (b4a rest) (avn _)⟩
 · obtain ⟨r,hr,k,hk,ha,rfl,_⟩:=aow hq
   exact hT.equ hb hs hd hr hk ha
 · exact hT.mix (hs d (a7z.2 (.inl hd))) hr hk ha
 have hm:∀ z,z ∈ abr rest <-> z = 0 \/ z = rest:=fun z=>by unfold abr;rw [qh];simp
 refine ⟨(hm 0).2 (.inl rfl),fun r hr=>?_,rest,(hm rest).2 (.inr rfl),fun r hr=>?_,fun a ha h1 h2=>by rw [h1] at h2;cases h2⟩
 · rcases (hm r).1 hr with rfl | rfl
   · exact ⟨ap.2 fun i hi h=>by simp at h,fun b hb'=>.inl br1⟩
   exact ⟨gz _,fun b hb'=>.inr (hb.sub hb')⟩
 rcases (hm r).1 hr with rfl | rfl
 · exact ap.2 fun i hi h=>by simp at h
 exact gz _
def amz {rest:AS}:orL (chT fs ms rest) ∈ chT fs ms rest /\ ∀ r ∈ chT fs ms rest,sub r (orL (chT fs ms rest)):=by
 have h:=(ap3 (fs:=fs) (ms:=ms) (rest:=rest)).j;obtain ⟨L,h1,h2,h3⟩:=h.top;have e:orL (chT fs ms rest) = L:=ef (bg2 h2) (as6 h1);rw [e];exact ⟨h1,h2⟩
end
end
section
open Go.Proofs
def sT:List Rw:=[[0,1,5],[0,7,2]]
def fdX:List Fd:=[⟨1,2⟩]
end
section
open Go.Proofs
def bk9 (a b:List AS):a6 brj 30 [pP (asl a),pP (asl b)] (a8 [pB (decide (a = b))]):=by
 refine hpx (nt:=26) Tryz.func30 ?_;refine w_6 ?_;refine ca 0 rfl fun hn0=>?_;refine ca 1 rfl fun hn1=>?_;refine w_7 ?_;refine hcn (fun h0=>?_) (fun h0=>?_)
 · refine v_4 ?_;exact ⟨ccb (decide_eq_false fun e=>by subst e;omega).symm,trivial⟩
 refine w_9 ?_;refine ae (ι:=Nat) (ka 0 (ka 1 (ka 12 kn))) km (fun i=>⟨[(13,some (vI i))],[]⟩) (fun i=>i <= a.length /\ ∀ j,j < i -> a.getD j default = b.getD j default) (fun i=>a.length - i) (0) (⟨bms _,fun j hj=>absurd hj (bmq j)⟩) ⟨⟨⟨_,rfl,(CoR.refl _)⟩,trivial⟩,trivial⟩ ?_;rintro i ⟨hi,hI⟩;refine w_5 ?_;refine hcd (fun h1=>?_) (fun h1=>?_)
 ·
  refine a82 ?_;refine hcn (fun h2=>?_) (fun h2=>?_)
  · refine v_4 ?_;exact ⟨ccb (decide_eq_false fun e=>by subst e;exact absurd rfl (by assumption:¬ asI _ = asI _)).symm,trivial⟩
  refine w_5 ?_;refine lpz (i + 1) ⟨⟨⟨_,rfl,(CoR.refl _)⟩,tt⟩,trivial⟩ ?_;refine ⟨by omega,fun j hj=>?_⟩;by_cases e:j = i
  · subst e;exact c7.1 bqy
  exact hI j bqx
 obtain rfl:i = a.length:=by omega
 refine v_5 ?_;exact ⟨ccb (decide_eq_true (bg4 bqx hI)).symm,trivial⟩
end
section
open Go.Proofs
def ak5 {T:List AS} {r:AS} (h:¬ r ∈ T):(gr T r).length = T.length + 1:=by unfold gr;rw [if_neg h,bmo];rfl
def b9d {T:List AS} {r:AS}:(gr T r).length <= T.length + 1:=by
 unfold gr;split
 · omega
 rw [bmo];exact bmp _
def aov {s:AS}:∀ {T o:List AS},(nc s o T).length <= o.length + T.length
 | [],o=>by simp [nc]
 | r :: T,o=>by
  have h1:=aov (s:=s) (T:=T) (o:=gr o (r &&& ~~~s));have h2:=b9d (T:=o) (r:=r &&& ~~~s);show (nc s (gr o (r &&& ~~~s)) T).length <= _;simp only [bn9];omega
def aem {s:AS} {T:List AS} {i:Nat} (h:i < T.length):nc s [] (T.take (i + 1)) = gr (nc s [] (T.take i)) (T.getD i default &&& ~~~s):=by
 unfold nc;rw [aq h,bo0];rfl
def afe:goodFn brj 239:=wgx Tryz.func239
def b3k (T:List AS) (r:AS) (hT:T.length <= 8589934592):cb brj 239 [.one (.ptr 1000 0), .one (.p (asC r))] [(1000, .box [.ref 1001 T.length]),(1001, .arr true 1 46 T.length (lf sC T))] (.v (.one (.p (.raw (.bool (!decide (r ∈ T))))))) [(1000, .box [.ref 1001 (gr T r).length]),(1001, .arr true 1 46 (gr T r).length (lf sC (gr T r)))] [1000,1001]:=by
 refine hfx (nt:=21) Tryz.func239 ?_;refine en ?_;refine qcx af5 (cIn T r) ?_;refine c6 ?_;refine aj _ rfl (fun r0=>?_) (fun r0=>?_)
 · have h0:=r0;have hin:r ∈ T:=a08 r0;refine w_4 ?_;refine hrr ?_;rw [show gr T r = T from if_pos hin,decide_eq_true hin];exact ⟨_,_,rfl,bqz,CoR.refl _,uu⟩
 have h0:=r0;have hin:¬ r ∈ T:=a2a r0;refine w_9 ?_;refine m9 0 ?_;refine r9 1 true ?_;refine w_8 ?_;refine hrr ?_;exact ⟨_,_,rfl,bqz,CoR.of_eq (congrArg (fun z=>HR.v (.one (.p (.raw (.bool (!z)))))) (decide_eq_false hin).symm),⟨⟨_,rfl,⟨congrArg (HV.ref 1001) (ak5 hin).symm,trivial⟩⟩,⟨_,rfl,bg (if_neg hin) (CoP.refl _)⟩,trivial⟩⟩
def bju (T:List AS) (s:AS) (hT:T.length <= 8589934592):cb brj 255 [.one (.ptr 1000 0), .one (.p (asC s))] [(1000, .box [.ref 901 T.length]),(901, .arr true 1 46 T.length (lf sC T))] (.tup []) [(1000, .box [.ref 901 (kx T s).length]),(901, .arr true 1 46 (kx T s).length (lf sC (kx T s)))] [1000]:=by
 refine hfx (nt:=27) Tryz.func255 ?_;refine n7 ?_;refine al 4 rfl rfl rfl ?_;refine a4a ⟨[(0,some _),(1,some _),(4,some _)],[(1000,some _)]⟩ (by exact kk) ?_;refine sn 1000 0 901 true 1 46 (lf sC []) br2 rfl rfl (CoP.sl rfl (.inr rfl) (fun h=>h) (fun i j hi _=>absurd hi (bmq i))) (.inr rfl) rfl rfl ?_;refine w_5 ?_;refine b7 (ka 0 (ka 1 (ka 4 kn))) km (fun i=>⟨[(5,some (vI i))],[(1000,some (.box [.ref 901 (nc s [] (T.take i)).length])),(901,some (.arr true 1 46 (nc s [] (T.take i)).length (lf sC (nc s [] (T.take i)))))]⟩) T.length ⟨⟨⟨_,rfl,(CoR.refl _)⟩,trivial⟩,uu⟩ ?_;rintro i hi;have hel:(nc s [] (T.take i)).length <= i:=bmy aov (by rw [bmv,bo6];omega);refine w_8 ?_;refine hcd (fun h0=>?_) (fun h0=>?_)
 · refine cq ?_;refine fj rfl rfl rfl rfl rfl rfl afe ((b3k (nc s [] (T.take i)) (T.getD i default &&& ~~~s) bqx).swap 1001 901) (⟨vw.refl _,(CoP.of_eq (congrArg (fun z=>PV.raw (.int .u32 z)) (gl _ _))),trivial⟩) uu rfl rfl ?_;refine w_6 ?_;exact lpx (i + 1) ⟨⟨⟨_,rfl,(CoR.refl _)⟩,tt⟩,⟨⟨_,rfl,(by rw [aem bqx];exact CoO.refl _)⟩,⟨_,rfl,(by rw [aem bqx];exact CoO.refl _)⟩,trivial⟩⟩
 obtain rfl:i = T.length:=by omega
 rw [show T.take T.length = T from bmt];refine dj ?_;refine ⟨.inl rfl, ?_⟩;exact ⟨_,_,rfl,bqz,CoR.refl _,uu⟩
end
section
open Go.Proofs
def bka (T:List AS) (d:Fd) (s:AS) (hq:fdT d T = some s) (hT:T.length <= 8589934592):cb brj 240 [.one (.ptr 1000 0),d.pc.toH] [(1000, .box [.ref 901 T.length]),(901, .arr true 1 46 T.length (lf sC T))] (.v (.one (.p (.raw (.bool true))))) [(1000, .box [.ref 901 (kx T s).length]),(901, .arr true 1 46 (kx T s).length (lf sC (kx T s)))] [1000]:=by
 refine hfx (nt:=59) Tryz.func240 ?_;refine sx7 ?_;refine m9 0 ?_;refine w_8 ?_;refine ae (ι:=Nat) (ka 0 (ka 3 kn)) (kb 1000 (kb 901 (kb 0 km))) (fun i=>⟨[(5,some (vI i))],[]⟩) (fun i=>i <= T.length /\ (T.take i).findSome? (fdQ d T) = none) (fun i=>T.length - i) (0) (⟨bms _,rfl⟩) ⟨⟨⟨_,rfl,(CoR.refl _)⟩,trivial⟩,trivial⟩ ?_;rintro i ⟨hi,hI⟩;refine cq ?_;refine hcd (fun h0=>?_) (fun h0=>?_)
 ·
  have hil:i < T.length:=by omega
  refine w_8 ?_;refine ae (ι:=Nat) (ka 0 (ka 3 (ka 5 kn))) (kb 1000 (kb 901 (kb 0 km))) (fun k=>⟨[(6,some (vI k))],[]⟩) (fun k=>k <= T.length /\ (T.take k).findSome? (fdP d (T.getD i default)) = none) (fun k=>T.length - k) (0) (⟨bms _,rfl⟩) ⟨⟨⟨_,rfl,(CoR.refl _)⟩,trivial⟩,trivial⟩ ?_;rintro k ⟨hk,hK⟩;refine cq ?_;refine hcd (fun h1=>?_) (fun h1=>?_)
  ·
   have hkl:k < T.length:=by omega
   refine a2o ?_;refine rq (out:=⟨_, .v (.one (.p (asC ((T.getD i default) ^^^ (T.getD k default)))))⟩) rfl rfl rfl (congrArg (fun z=>some (Out.mk _ (HR.v (HC.one (HV.p (.raw (.int .u32 z))))))) (at3 _ _)) rfl ?_;refine cq ?_;refine ai rfl rfl (fun r2=>?_) (fun r2=>?_)
   ·
    have h2:=tz1 r2;have g1:((T.getD i default) ^^^ (T.getD k default)) &&& d.lhs = 0:=vj h2;(iterate 5 refine qy ?_ (hg:=(gtt r2)));refine w_2 ?_;refine aj _ rfl (fun r3=>?_) (fun r3=>?_)
    · have h3:=tz2 (cu (bt r2 r3));have g2:¬ ((T.getD i default) ^^^ (T.getD k default)) &&& d.rhs = 0:=qt h3;have hq2:fdT d T = some (((T.getD i default) ^^^ (T.getD k default)) &&& d.rhs):=ua hil hI (show fdQ d T (T.getD i default) = _ from ua hkl hK (b5a g1 g2));rw [hq] at hq2;obtain rfl:=Option.some.inj hq2;refine cg ?_;refine a4a ⟨[(0,some _),(3,some _),(7,some _)],[(1000,some _),(901,some _),(0,some _)]⟩ (by exact kk) ?_;refine w_6 ?_;refine fj rfl rfl rfl rfl rfl rfl (wgx Tryz.func255) (bju T (((T.getD i default) ^^^ (T.getD k default)) &&& d.rhs) hT) (⟨vw.refl _,(CoP.of_eq (congrArg (fun z=>PV.raw (.int .u32 z)) (fv _ _))),trivial⟩) uu rfl rfl ?_;refine w_5 ?_;refine hrr ?_;exact ⟨_,_,rfl,bqz,CoR.refl _,uu⟩
    have h3:=tz1 (ct (bt r2 r3));have g2:((T.getD i default) ^^^ (T.getD k default)) &&& d.rhs = 0:=vj h3;refine w_6 ?_;refine lpz (k + 1) ⟨⟨⟨_,rfl,(CoR.refl _)⟩,tt⟩,uu⟩ ?_;exact ⟨by omega,(jv hkl hK).trans (by first | exact ajk g1 | exact ajv g1 g2)⟩
   have h2:=tz2 r2;have g1:¬ ((T.getD i default) ^^^ (T.getD k default)) &&& d.lhs = 0:=qt h2;(iterate 5 refine k9 (gft r2) ?_);refine rq rfl rfl rfl rfl rfl ?_ (hp:=r2);refine w_8 ?_;refine lpz (k + 1) ⟨⟨⟨_,rfl,(CoR.refl _)⟩,tt⟩,uu⟩ ?_
   exact ⟨by omega,(jv hkl hK).trans (by first | exact ajk g1 | exact ajv g1 g2)⟩
  obtain rfl:k = T.length:=by omega
  rw [show T.take T.length = T from bmt] at hK;refine w_6 ?_;refine lpz (i + 1) ⟨⟨⟨_,rfl,(CoR.refl _)⟩,tt⟩,uu⟩ ?_;exact ⟨by omega,(jv hil hI).trans hK⟩
 obtain rfl:i = T.length:=by omega
 rw [show T.take T.length = T from bmt] at hI;refine w_5 ?_;refine hrr ?_;exact absurd (hq.symm.trans (show fdT d T = none from hI)) (fun e=>by cases e)
def bjv (T:List AS) (d:Fd) (hq:fdT d T = none) (hT:T.length <= 8589934592):cb brj 240 [.one (.ptr 1000 0),d.pc.toH] [(1000, .box [.ref 901 T.length]),(901, .arr true 1 46 T.length (lf sC T))] (.v (.one (.p (.raw (.bool false))))) [(1000, .box [.ref 901 T.length]),(901, .arr true 1 46 T.length (lf sC T))] [1000]:=by
 refine hfx (nt:=59) Tryz.func240 ?_;refine sx7 ?_;refine m9 0 ?_;refine w_8 ?_;refine ae (ι:=Nat) (ka 0 (ka 3 kn)) (kb 1000 (kb 901 (kb 0 km))) (fun i=>⟨[(5,some (vI i))],[]⟩) (fun i=>i <= T.length /\ (T.take i).findSome? (fdQ d T) = none) (fun i=>T.length - i) (0) (⟨bms _,rfl⟩) ⟨⟨⟨_,rfl,(CoR.refl _)⟩,trivial⟩,trivial⟩ ?_;rintro i ⟨hi,hI⟩;refine cq ?_;refine hcd (fun h0=>?_) (fun h0=>?_)
 ·
  have hil:i < T.length:=by omega
  refine w_8 ?_;refine ae (ι:=Nat) (ka 0 (ka 3 (ka 5 kn))) (kb 1000 (kb 901 (kb 0 km))) (fun k=>⟨[(6,some (vI k))],[]⟩) (fun k=>k <= T.length /\ (T.take k).findSome? (fdP d (T.getD i default)) = none) (fun k=>T.length - k) (0) (⟨bms _,rfl⟩) ⟨⟨⟨_,rfl,(CoR.refl _)⟩,trivial⟩,trivial⟩ ?_;rintro k ⟨hk,hK⟩;refine cq ?_;refine hcd (fun h1=>?_) (fun h1=>?_)
  ·
   have hkl:k < T.length:=by omega
   refine a2o ?_;refine rq (out:=⟨_, .v (.one (.p (asC ((T.getD i default) ^^^ (T.getD k default)))))⟩) rfl rfl rfl (congrArg (fun z=>some (Out.mk _ (HR.v (HC.one (HV.p (.raw (.int .u32 z))))))) (at3 _ _)) rfl ?_;refine cq ?_;refine ai rfl rfl (fun r2=>?_) (fun r2=>?_)
   ·
    have h2:=tz1 r2;have g1:((T.getD i default) ^^^ (T.getD k default)) &&& d.lhs = 0:=vj h2;(iterate 5 refine qy ?_ (hg:=(gtt r2)));refine w_2 ?_;refine aj _ rfl (fun r3=>?_) (fun r3=>?_)
    · have h3:=tz2 (cu (bt r2 r3));have g2:¬ ((T.getD i default) ^^^ (T.getD k default)) &&& d.rhs = 0:=qt h3;have hq2:fdT d T = some (((T.getD i default) ^^^ (T.getD k default)) &&& d.rhs):=ua hil hI (show fdQ d T (T.getD i default) = _ from ua hkl hK (b5a g1 g2));exact absurd (hq.symm.trans hq2) (fun e=>by cases e)
    have h3:=tz1 (ct (bt r2 r3));have g2:((T.getD i default) ^^^ (T.getD k default)) &&& d.rhs = 0:=vj h3;refine w_6 ?_;refine lpz (k + 1) ⟨⟨⟨_,rfl,(CoR.refl _)⟩,tt⟩,uu⟩ ?_;exact ⟨by omega,(jv hkl hK).trans (by first | exact ajk g1 | exact ajv g1 g2)⟩
   have h2:=tz2 r2;have g1:¬ ((T.getD i default) ^^^ (T.getD k default)) &&& d.lhs = 0:=qt h2;(iterate 5 refine k9 (gft r2) ?_);refine rq rfl rfl rfl rfl rfl ?_ (hp:=r2);refine w_8 ?_;refine lpz (k + 1) ⟨⟨⟨_,rfl,(CoR.refl _)⟩,tt⟩,uu⟩ ?_
   exact ⟨by omega,(jv hkl hK).trans (by first | exact ajk g1 | exact ajv g1 g2)⟩
  obtain rfl:k = T.length:=by omega
  rw [show T.take T.length = T from bmt] at hK;refine w_6 ?_;refine lpz (i + 1) ⟨⟨⟨_,rfl,(CoR.refl _)⟩,tt⟩,uu⟩ ?_;exact ⟨by omega,(jv hil hI).trans hK⟩
 obtain rfl:i = T.length:=by omega
 rw [show T.take T.length = T from bmt] at hI;refine w_5 ?_;refine hrr ?_;exact ⟨_,_,rfl,bqz,CoR.refl _,uu⟩
end
section
structure MvO (d:Fd) (T0:List AS) (x:Nat × List AS × Nat):Prop where
 nd:x.2.1.Nodup
 pre:T0 <+: x.2.1
 res:mvO d x.1 x.2.1 x.2.2 = mvO d FU2 T0 0
 le:x.2.2 <= x.2.1.length
 fuel:4294967296 < x.1 + x.2.2
structure MvI (d:Fd) (T:List AS) (i:Nat) (x:Nat × List AS × Nat):Prop where
 nd:x.2.1.Nodup
 pre:T <+: x.2.1
 res:mvI d x.1 x.2.1 i x.2.2 = mvI d 8589934592 T i 0
 le:x.2.2 <= x.2.1.length
 fuel:4294967296 < x.1 + x.2.2
section
variable {d:Fd} {T0 T:List AS} {i f k:Nat}
theorem MvO.start (h:T.Nodup):MvO d T (FU2,T,0):=⟨h,bpn _,rfl,bms _,by show 4294967296 < 8589934592 + 0;omega⟩
theorem MvI.start (h:T.Nodup):MvI d T i (8589934592,T,0):=⟨h,bpn _,rfl,bms _,by show 4294967296 < 8589934592 + 0;omega⟩
theorem MvO.pos (h:MvO d T0 (f,T,i)):0 < f /\ T.length <= 4294967296:=by
 have h1:=xm h.nd;have h2:=h.le;have h3:=h.fuel;dsimp only at h1 h2 h3;omega
section
variable {U:List AS}
theorem MvI.pos (h:MvI d T i (f,U,k)):0 < f /\ U.length <= 4294967296:=by
 have h1:=xm h.nd;have h2:=h.le;have h3:=h.fuel;dsimp only at h1 h2 h3;omega
theorem MvO.done (h:MvO d T0 (f,T,i)) (hi:¬ i < T.length):T = mvO d FU2 T0 0:=by
 have hp:=h.pos.1;have hr:mvO d f T i = mvO d FU2 T0 0:=h.res;obtain ⟨g,rfl⟩:∃ g,f = g + 1:=⟨f - 1,by omega⟩;unfold mvO at hr;rw [if_neg hi] at hr;exact hr
theorem MvI.done (h:MvI d T i (f,U,k)) (hk:¬ k < U.length):U = mvI d 8589934592 T i 0:=by
 have hp:=h.pos.1;have hr:mvI d f U i k = mvI d 8589934592 T i 0:=h.res;obtain ⟨g,rfl⟩:∃ g,f = g + 1:=⟨f - 1,by omega⟩;unfold mvI at hr;rw [if_neg hk] at hr;exact hr
theorem MvI.next (h:MvI d T i (f,U,k)) (hk:k < U.length):MvI d T i (f - 1,mvS d U i k,k + 1):=by
 have hp:=h.pos.1;have hr:mvI d f U i k = mvI d 8589934592 T i 0:=h.res;obtain ⟨g,rfl⟩:∃ g,f = g + 1:=⟨f - 1,by omega⟩;unfold mvI at hr;rw [if_pos hk] at hr;have hf:4294967296 < g + 1 + k:=h.fuel;exact ⟨az9 h.nd,h.pre.trans (a2s d U i k),hr,bmy hk (a2s d U i k).length_le,by show 4294967296 < g + (k + 1);omega⟩
theorem MvO.next (h:MvO d T0 (f,T,i)) (hi:i < T.length) (hU:U = mvI d 8589934592 T i 0):MvO d T0 (f - 1,U,i + 1):=by
 subst hU;have hp:=h.pos.1;have hr:mvO d f T i = mvO d FU2 T0 0:=h.res;obtain ⟨g,rfl⟩:∃ g,f = g + 1:=⟨f - 1,by omega⟩;unfold mvO at hr;rw [if_pos hi] at hr;have hf:4294967296 < g + 1 + i:=h.fuel;exact ⟨aoa h.nd,h.pre.trans (ze d _ T i 0),hr,bmy hi (ze d _ T i 0).length_le,by show 4294967296 < g + (i + 1);omega⟩
def uy (h:agB d (U.getD i default) (U.getD k default) = false):mvS d U i k = U:=by unfold mvS;rw [if_neg (by rw [h];decide)]
def mh (h:agB d (U.getD i default) (U.getD k default) = true):mvS d U i k = gr U (lg d (U.getD i default) (U.getD k default)):=by unfold mvS;rw [if_pos h]
def aoy {T:List AS} {q:AS} (hp:T <+: U) (h:¬ q ∈ U):true = decide (T.length < (gr U q).length):=by
 have h1:=hp.length_le;rw [ak5 h];exact (decide_eq_true bqx).symm
def ao0 {T:List AS} {q:AS} (h:q ∈ U):decide (T.length < U.length) = decide (T.length < (gr U q).length):=by rw [show gr U q = U from if_pos h]
def big (r k l h:AS):az .or .u32 (az .and .u32 (asI r) (az .or .u32 (asI l) (asI h))) (az .andNot .u32 (asI k) (az .or .u32 (asI l) (asI h))) = asI (lg ⟨l,h⟩ r k):=by
 rw [bOr,fv,gl,bOr];rfl
def bkf {r k:AS} (h:az .and .u32 (az .xor .u32 (asI r) (asI k)) (asI d.lhs) = 0):agB d r k = true:=by
 rw [at3,fv] at h;exact decide_eq_true (c7.1 h)
def bl5 {r k:AS} (h:¬ az .and .u32 (az .xor .u32 (asI r) (asI k)) (asI d.lhs) = 0):agB d r k = false:=by
 rw [at3,fv] at h;exact decide_eq_false fun e=>h (congrArg asI e)
end
end
end
end Go.Hx
