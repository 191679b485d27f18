/- A part of the proof: W1 Ls6 W2a Rbm Bz1 Bz2 Bz3 Y1 Bz4 Y2 Y3 Bz5 Rb25 Ch22 X26 Ch25 X31 Cc4. -/
import Derived.Test.YteklilhbjjofbaaGreatDoorLd25
set_option linter.all false
set_option maxRecDepth 100000
set_option maxHeartbeats 1000000
namespace Go.Hx
section
open Go.Proofs
def awl (ps:List AS):a8 b98 44 [pP (asl ps)] (ae [pA (orL ps)]):=by
 refine hpx (nt:=17) Tryz.func44 ?_;refine df ?_;refine bv 0 rfl fun hn=>?_;refine w_6 ?_;refine cj (ka 6 (ka 7 kn)) km (fun i=>⟨[(3,some (vA (orL (ps.take i)))),(8,some (vI i))],[]⟩) ps.length ⟨⟨⟨_,rfl,(CoR.refl _)⟩,tt⟩,trivial⟩ ?_;rintro i hi;refine w_5 ?_;refine hcd (fun h0=>?_) (fun h0=>?_)
 · refine a7t ?_;exact lpx (i + 1) ⟨⟨⟨_,rfl,(ta (by rw [bOr,a4h b8i];rfl))⟩,tt⟩,trivial⟩
 obtain rfl:i = ps.length:=by omega
 refine v_6 ?_;exact ⟨cci (by rw [b67]),trivial⟩
def ad8:goodFn b98 12:=wgx Tryz.func12
def b8v {p:Prop} (h:p:=by (repeat' apply And.intro) <;> first | trivial | exact b5d rfl | rfl):p:=h
def a8m (n:Int) (ps:List AS):a8 b98 12 [pI n,pP (asl ps)] (ae [pI (lvE n ps)]):=by
 refine hpx (nt:=28) Tryz.func12 ?_;refine ej ?_;refine aa rfl rfl (fun r0=>?_) (fun r0=>?_)
 ·
  have h0:=tz1 r0;(iterate 2 refine k9 (gtf r0) ?_);refine w_8 ?_
  exact hx8 rfl rfl rfl (⟨cci (ab4 b8i).symm,trivial⟩)
 have h0:=tz2 r0;(iterate 2 refine qy ?_ (hg:=(gff r0)));refine w_3 ?_;refine ag _ rfl (fun r1=>?_) (fun r1=>?_)
 · have h1:=tz1 (ab r0 r1);refine v_4 ?_;exact ⟨cci (ab4 b8i).symm,trivial⟩
 have h1:=tz2 (ab r0 r1);have hz0:0 <= n:=by omega
 have hz1:n <= 16:=by omega
 refine w_7 ?_;refine hcd (fun h2=>?_) (fun h2=>?_)
 · refine v_4 ?_;exact ⟨cci (aqo b8i b8i).symm,trivial⟩
 refine w_6 ?_;refine aa rfl rfl (fun r3=>?_) (fun r3=>?_)
 ·
  have h3:=tz1 r3;(iterate 6 refine k9 (gtf r3) ?_);refine w_9 ?_
  exact hx8 rfl rfl rfl (⟨cci (ab3 b8i b8i (by first | exact .inl b8i | exact .inr (fun e=>absurd (show asI (orL ps) = IntKind.wrap .u32 (1 * 2 ^ (min n.toNat 32)) - 1 by rw [a0s hz0 hz1,e]) b8j))).symm,trivial⟩)
 have h3:=tz2 r3;refine qy ?_ (hg:=(gff r3));refine qcx (wgx Tryz.func44) (awl ps) ?_ (hg:=(gff r3));(iterate 2 refine qy ?_ (hg:=(gff r3)));refine rq rfl rfl rfl rfl (gff r3) ?_ (hp:=⟨apt hz0 hz1,alf hz0 hz1⟩);refine qy ?_ (hg:=(gff r3));refine w_4 ?_;refine ag _ rfl (fun r4=>?_) (fun r4=>?_)
 · have h4:=tz2 (d6 (ab r3 r4));refine v_4 ?_;exact ⟨cci (ab3 b8i b8i (by first | exact .inl b8i | exact .inr (fun e=>absurd (show asI (orL ps) = IntKind.wrap .u32 (1 * 2 ^ (min n.toNat 32)) - 1 by rw [a0s hz0 hz1,e]) b8j))).symm,trivial⟩
 have h4:=tz1 (d5 (ab r3 r4));refine w_6 ?_;refine ⟨.inr rfl, ?_⟩
 exact ⟨_,_,_,_,rfl,b8v,rfl,b8v,⟨cci (aqh b8i b8i (fun e=>by
  rcases e with e | e
  · omega
  exact e (qi.1 ((by assumption:asI (orL ps) = IntKind.wrap .u32 (1 * 2 ^ (min n.toNat 32)) - 1).trans (a0s hz0 hz1))))).symm,trivial⟩⟩
def ae9:goodFn b98 45:=wgx Tryz.func45
def a8r (n:Int) (ps:List AS) (p m:List Fd):a8 b98 45 [pI n,pP (asl ps),pP (fdl p),pP (fdl m)] (ae [pT (lcR n ps p m).1.1 (lcR n ps p m).1.2,pP (stl (lcR n ps p m).2.1),pT (lcR n ps p m).2.2.1.1 (lcR n ps p m).2.2.1.2,pI (lcR n ps p m).2.2.2]):=by
 refine hpx (nt:=58) Tryz.func45 ?_;refine sx7 ?_;refine m9 0 ?_;refine qy ?_;refine m9 1 ?_;refine w_7 ?_;refine qcx ad8 (a8m n ps) ?_;refine w_7 ?_;refine hcn (fun h0=>?_) (fun h0=>?_)
 · refine df ?_;refine hrr ?_;have he:=b0e (p:=p) (m:=m) (by assumption:¬ lvE n ps = 0);exact f9 rfl rfl (by rw [he];exact ⟨CoC.agg ⟨CoP.refl _,aw,trivial⟩,CoC.one (CoP.sl rfl (.inr rfl) (fun _=>rfl) (fun i j hi _=>absurd hi (b5i i))),CoC.agg ⟨CoP.refl _,aw,trivial⟩,CoC.refl _,trivial⟩)
 have hv:lvE n ps = 0:=by assumption
 refine w_7 ?_;refine qcx abn (a8z n p m) ?_;refine w_7 ?_;refine hcn (fun h1=>?_) (fun h1=>?_)
 · refine df ?_;refine hrr ?_;have he:=b0n hv (by assumption:¬ bw n p m = 0);exact f9 rfl rfl (by rw [he];exact ⟨CoC.agg ⟨CoP.refl _,aw,trivial⟩,CoC.one (CoP.sl rfl (.inr rfl) (fun _=>rfl) (fun i j hi _=>absurd hi (b5i i))),CoC.agg ⟨CoP.refl _,aw,trivial⟩,CoC.refl _,trivial⟩)
 have hb:bw n p m = 0:=by assumption
 refine w_5 ?_;refine qcx (wgx Tryz.func53) (ahq n ps hv) ?_;refine w_3 ?_;refine m9 2 ?_;refine nk ?_;refine qcx (wgx Tryz.func86) (ars n ps p m) ?_;refine w_4 ?_;refine m9 3 ?_;refine nk ?_;refine hrr ?_;have he:=ai3 hv hb;exact f9 rfl rfl (by rw [he];exact CoL.refl _)
def a5d:goodFn b98 47:=wgx Tryz.func47
def a1q (n:Int) (h0:0 <= n) (h1:n <= 16):a8 b98 47 [pI n] (ae [pZ (bh n)]):=by
 refine hpx (nt:=18) Tryz.func47 ?_;refine w_7 ?_;refine m9 0 ?_;refine df ?_;refine cj (ka 3 (ka 8 kn)) km (fun k=>⟨[(9,some (vI k))],[(0,some (.arr true 1 3 n.toNat (lf zC (stT n 0 (jm 32) k))))]⟩) n.toNat ⟨tt,⟨⟨_,rfl,(ae5 rfl (fun _=>rfl))⟩,trivial⟩⟩ ?_;rintro k hk;refine w_5 ?_;refine hcd (fun h0=>?_) (fun h0=>?_)
 · refine a7t ?_;exact lpx (k + 1) ⟨tt,⟨⟨_,rfl,(ay4 (an0 b8i) rfl b8i)⟩,trivial⟩⟩
 refine w_2 ?_;refine bm 3 rfl rfl rfl ?_;refine v_4 ?_;exact ⟨al0 h1 b8i,trivial⟩
def b18 (n:Int) (ps:List AS) (p m:List Fd):a8 b98 17 [pI n,pP (asl ps),pP (fdl p),pP (fdl m)] (ae [pB (lsB n ps p m),pI (lsC n ps p m)]):=by
 refine hpx (nt:=33) Tryz.func17 ?_;refine ej ?_;refine qcx ae9 (a8r n ps p m) ?_;refine w_5 ?_;refine m9 0 ?_;refine m9 1 ?_;refine df ?_;refine aa rfl rfl (fun r0=>?_) (fun r0=>?_)
 ·
  have h0:=tz1 r0;have hz:=b1v (n:=n) (ps:=ps) (p:=p) (m:=m) rfl h0;(iterate 2 refine qy ?_ (hg:=(gtt r0)));refine qcx a5d (a1q n hz.1 b8i) ?_ (hg:=(gtt r0));refine qcx a1g (a6k (lcR n ps p m).2.2.1.1 (lcR n ps p m).2.2.1.2 (bh n)) ?_ (hg:=(gtt r0));refine w_6 ?_
  exact hx8 rfl rfl rfl (⟨ccb (by first | exact aw9 | exact ant (n:=n) (ps:=ps) (p:=p) (m:=m) b8j | exact (anu (n:=n) (ps:=ps) (p:=p) (m:=m) b8j).symm),cci im,trivial⟩)
 have h0:=tz2 r0;(iterate 4 refine k9 (gft r0) ?_);refine w_6 ?_
 exact hx8 rfl rfl rfl (⟨ccb (by first | exact aw9 | exact ant (n:=n) (ps:=ps) (p:=p) (m:=m) b8j | exact (anu (n:=n) (ps:=ps) (p:=p) (m:=m) b8j).symm),cci im,trivial⟩)
def aoc (n:Int) (ps:List AS):a8 b98 14 [pI n,pP (asl ps)] (ae [pI (lvE n ps)]):=by
 refine hpx (nt:=37) Tryz.func14 ?_;refine df ?_;refine aa rfl rfl (fun r0=>?_) (fun r0=>?_)
 ·
  have h0:=tz1 r0;(iterate 2 refine k9 (gtf r0) ?_);refine w_7 ?_
  exact hx8 rfl rfl rfl (⟨cci (ab4 b8i).symm,trivial⟩)
 have h0:=tz2 r0;(iterate 2 refine qy ?_ (hg:=(gff r0)));refine w_2 ?_;refine ag _ rfl (fun r1=>?_) (fun r1=>?_)
 · have h1:=tz1 (ab r0 r1);refine v_4 ?_;exact ⟨cci (ab4 b8i).symm,trivial⟩
 have h1:=tz2 (ab r0 r1);refine w_8 ?_;refine hcd (fun h2=>?_) (fun h2=>?_)
 · refine v_4 ?_;exact ⟨cci (aqo b8i b8i).symm,trivial⟩
 refine ej ?_;refine cj (ka 0 (ka 1 kn)) km (fun i=>⟨[(5,some (vA (orL (ps.take i)))),(6,some (vI i))],[]⟩) ps.length ⟨⟨⟨_,rfl,(CoR.refl _)⟩,tt⟩,trivial⟩ ?_;rintro i hi;refine w_8 ?_;refine hcd (fun h3=>?_) (fun h3=>?_)
 · refine v7 ?_;exact lpx (i + 1) ⟨⟨⟨_,rfl,(ta (by rw [bOr,a4h b8i];rfl))⟩,tt⟩,trivial⟩
 obtain rfl:i = ps.length:=by omega
 rw [show ps.take ps.length = ps from b67];refine w_8 ?_;refine aa rfl rfl (fun r4=>?_) (fun r4=>?_)
 ·
  have h4:=tz1 r4;(iterate 4 refine k9 (gtf r4) ?_);refine w_7 ?_
  exact hx8 rfl rfl rfl (⟨cci (ab3 b8i b8i (by first | exact .inl b8i | exact .inr (fun e=>absurd (show asI (orL ps) = asI (b6 n) by rw [e]) b8j))).symm,trivial⟩)
 have h4:=tz2 r4;(iterate 2 refine qy ?_ (hg:=(gff r4)));refine qcx sa (sj n) ?_ (hg:=(gff r4));refine qy ?_ (hg:=(gff r4));refine w_2 ?_;refine ag _ rfl (fun r5=>?_) (fun r5=>?_)
 · have h5:=tz2 (d6 (ab r4 r5));refine v_4 ?_;exact ⟨cci (ab3 b8i b8i (by first | exact .inl b8i | exact .inr (fun e=>absurd (show asI (orL ps) = asI (b6 n) by rw [e]) b8j))).symm,trivial⟩
 have h5:=tz1 (d5 (ab r4 r5));refine w_6 ?_;refine ⟨.inr rfl, ?_⟩
 exact ⟨_,_,_,_,rfl,b8v,rfl,b8v,⟨cci (aqh b8i b8i (fun e=>by
  rcases e with e | e
  · omega
  exact e (qi.1 b8j))).symm,trivial⟩⟩
def av4 (n:Int) (ps:List AS) (p m:List Fd):a8 b98 49 [pI n,pP (asl ps),pP (fdl p),pP (fdl m)] (ae [pP (stl (rcR n ps p m).1),pP (psl 2 tbC (rcR n ps p m).2.1),pI (rcR n ps p m).2.2]):=by
 refine hpx (nt:=77) Tryz.func49 ?_;refine ej ?_;refine qcx (wgx Tryz.func14) (aoc n ps) ?_;refine w_7 ?_;refine hcn (fun h0=>?_) (fun h0=>?_)
 · refine w_7 ?_;refine hrr ?_;have he:=aj0 (n:=n) (ps:=ps) (p:=p) (m:=m) (azm b8j).1 b8j;exact f9 rfl rfl (by rw [he];exact ⟨CoC.one (CoP.sl rfl (.inr rfl) (fun _=>rfl) (fun i j hi _=>absurd hi (b5i i))),CoC.one (CoP.sl rfl (.inr rfl) (fun _=>rfl) (fun i j hi _=>absurd hi (b5i i))),CoC.refl _,trivial⟩)
 have hv:lvE n ps = 0:=by assumption
 refine w_7 ?_;refine qcx a69 (zj n p m) ?_;refine w_7 ?_;refine hcn (fun h1=>?_) (fun h1=>?_)
 · refine w_7 ?_;refine hrr ?_;have he:=aj0 (n:=n) (ps:=ps) (p:=p) (m:=m) (b08 hv b8j).1 b8j;exact f9 rfl rfl (by rw [he];exact ⟨CoC.one (CoP.sl rfl (.inr rfl) (fun _=>rfl) (fun i j hi _=>absurd hi (b5i i))),CoC.one (CoP.sl rfl (.inr rfl) (fun _=>rfl) (fun i j hi _=>absurd hi (b5i i))),CoC.refl _,trivial⟩)
 have hb:bw n p m = 0:=by assumption
 refine w_5 ?_;refine qcx (wgx Tryz.func84) (ap9 n ps hv) ?_;refine w_3 ?_;refine m9 0 ?_;refine nk ?_;refine qcx (wgx Tryz.func92) (aps n ps p m) ?_;refine w_4 ?_;refine m9 1 ?_;refine df ?_;refine hcn (fun h2=>?_) (fun h2=>?_)
 · refine w_7 ?_;refine hrr ?_;have he:=aj0 (n:=n) (ps:=ps) (p:=p) (m:=m) (ab0 hv hb) b8j;exact f9 rfl rfl (by rw [he];exact ⟨CoC.one (CoP.sl rfl (.inr rfl) (fun _=>rfl) (fun i j hi _=>absurd hi (b5i i))),CoC.one (CoP.sl rfl (.inr rfl) (fun _=>rfl) (fun i j hi _=>absurd hi (b5i i))),CoC.refl _,trivial⟩)
 have hc:(lsT n ps p m).2.2 = 0:=by assumption
 have htr:=ads hv hb hc;have hfew:(lsT n ps p m).1.length <= 1300000:=a8h (p:=p) (m:=m) hv hb;have hls:lsC n ps p m = 0:=(ab0 hv hb).trans hc;refine w_4 ?_;refine m9 2 ?_;refine w_8 ?_;refine cj (ka 2 (ka 3 (ka 13 (ka 15 kn)))) km (fun i=>⟨[(17,some (.v (.one (.ref 2 ((j4 n p m (ai (ak n ps)) (lsT n ps p m).1).take (i + 1)).length)))),(18,some (vI i))],[(0,some (.box [.p (.raw (.int .i64 n)), .p (rl ((trL n p m (ai (ak n ps)) (lsT n ps p m).1).getD i default))])),(2,some (.arr true 2 93 ((j4 n p m (ai (ak n ps)) (lsT n ps p m).1).take (i + 1)).length (lf tbC ((j4 n p m (ai (ak n ps)) (lsT n ps p m).1).take (i + 1)))))]⟩) ((lsT n ps p m).1.length) ⟨⟨⟨_,rfl,(j5 (by rw [ade];rfl))⟩,tt⟩,⟨⟨_,rfl,(by rw [agb];exact CoO.refl _)⟩,⟨_,rfl,(ath ade rfl (CoP.refl _) (CoP.refl _))⟩,trivial⟩⟩ ?_;rintro i hi;have hlen:((j4 n p m (ai (ak n ps)) (lsT n ps p m).1).take (i + 1)).length <= i + 1:=by rw [b5p];omega
 refine w_8 ?_;refine hcd (fun h3=>?_) (fun h3=>?_)
 · obtain ⟨hx1,hx2,hx3⟩:=aqr b8i (aik htr (i:=i) b8i);refine o4 ?_;refine qcx (wgx Tryz.func85) (alj n ((trL n p m (ai (ak n ps)) (lsT n ps p m).1).getD i default) p m ((lsT n ps p m).1.getD i default) hx1 hb hx2 hx3) ?_;refine w_9 ?_;refine m9 3 ?_;refine r9 4 true ?_;refine w_7 ?_;exact lpx (i + 1) ⟨⟨⟨_,rfl,(j0 (a9d b8i))⟩,tt⟩,⟨⟨_,rfl,(by rw [a1r b8i];exact CoO.refl _)⟩,⟨_,rfl,(a4j (a9d b8i) (CoP.refl _) (CoP.refl _))⟩,trivial⟩⟩
 obtain rfl:i = (lsT n ps p m).1.length:=by omega
 refine w_2 ?_;refine bm 17 rfl rfl rfl ?_;refine w_7 ?_;refine hrr ?_;have he:=aav hls;exact f9 rfl rfl (by rw [he];exact ⟨CoC.refl _,(by rw [b6z (by rw [u7];omega)];exact CoC.refl _),CoC.refl _,trivial⟩)
end
section
inductive Lf (l:List Fd):AS -> AS -> Prop
 | leaf {s:AS}:sx l s = false -> Lf l s s
 | left {s q:AS}:sx l s = true -> Lf l (spA l s) q -> Lf l s q
 | right {s q:AS}:sx l s = true -> Lf l (spB l s) q -> Lf l s q
def avm (l:List Fd):Nat -> AS -> List AS
 | 0,s=>[s]
 | k + 1,s=>if sx l s = true then avm l k (spA l s) ++ avm l k (spB l s) else [s]
def a5t {s:Nat} {f:Nat -> Nat -> PV}:CoC (.one (.sl 0 s true f)) (pP (fdl [])):=CoC.one (CoP.sl rfl (.inr rfl) (fun h=>by cases h) fun i j hi _=>absurd hi (b5i i))
end
section
open Go.Proofs
def u8A (b:BitVec 8):AS:=b.setWidth 32
abbrev u8C:BitVec 8 -> Nat -> PV:=fun b _=>.raw (.int .u8 (b.toNat:Int))
end
section
open Go.Proofs Go.Proofs.YteklilhbjjofbaaGreatDoor
open Go.RowKit Go.ChangeShapes Go.WideShapes Go.ChangeAt
def rd5:Rd b98 5 1 u8C:=(azu Tryz.underlying5).co (fun u=>u.toBitVec) fun a j hj=>CoP.refl _
def b2g:RdB b98 31 1 (apy 1 u8C) fun b l=>l.length <= b :=
 (a9g (B:=fun _ _=>True) (fun _ _ _ _ _=>trivial) Tryz.underlying31 (by kernel_rfl) b8i rd5.toB).co id (fun b a h=>h.1) fun a j hj=>CoP.refl _
end
section
section
variable {b:AS}
def aei {a:AS} (h:∀ i,i < 32 -> a.getLsbD i = b.getLsbD i):a = b:=b6y h
def avf {s:AS} (h:s ≠ 0):∃ i,i < 32 /\ s.getLsbD i = true:=by
 apply Classical.byContradiction;intro hn;refine h (aei fun i hi=>?_)
 cases hs:s.getLsbD i with
 | false=>simp
 | true=>exact absurd ⟨i,hi,hs⟩ hn
def ay1 {s:AS} {i:Nat} (h:s.getLsbD i = true):i < 32:=BitVec.lt_of_getLsbD h
def ni {s t:AS} {i:Nat} (hi:i < 32):(s &&& ~~~t).getLsbD i = (s.getLsbD i && !t.getLsbD i):=by simp [hi]
def awf (a:Nat):AS:=1#32 <<< a
def uk (m:Fd) (b:AS):Bool:=decide (b &&& m.lhs = 0) && (decide (b &&& m.rhs ≠ 0) && decide (b &&& ~~~m.rhs ≠ 0))
def hdB (m:Fd) (b:AS):AS:=if uk m b = true then b &&& m.rhs else b
def tlB (m:Fd) (b:AS):List AS:=if uk m b = true then [b &&& ~~~m.rhs] else []
def stB (m:Fd) (l:List AS) (i:Nat):List AS:=(l.take i).map (hdB m) ++ l.drop i ++ (l.take i).flatMap (tlB m)
def rdB (m:Fd) (l:List AS):List AS:=l.map (hdB m) ++ l.flatMap (tlB m)
def avq (ms:List Fd) (l:List AS):List AS:=ms.foldl (fun l m=>rdB m l) l
def axo:List Fd -> List AS -> Bool
 | [],_=>false
 | m :: ms,l=>l.any (uk m) || axo ms (rdB m l)
def ap5 (ms:List Fd):Nat -> List AS -> List AS
 | 0,l=>l
 | f + 1,l=>if axo ms l = true then ap5 ms f (avq ms l) else avq ms l
def muB:List AS -> Nat
 | []=>0
 | b :: l=>b.toNat * b.toNat + muB l
def ap0 {m:Fd}:uk m b = true <-> b &&& m.lhs = 0 /\ b &&& m.rhs ≠ 0 /\ b &&& ~~~m.rhs ≠ 0:=by simp [uk]
structure Blk (ms:List Fd) (rest:AS) (bs:List AS):Prop where
 nz:∀ b ∈ bs,b ≠ 0
 cnt:∀ a,a < 32 -> bs.countP (fun b=>b.getLsbD a) = if rest.getLsbD a = true then 1 else 0
 ind:∀ G:AS -> Prop,G rest -> (∀ m ∈ ms,∀ b,G b -> uk m b = true -> G (b &&& m.rhs) /\ G (b &&& ~~~m.rhs)) -> ∀ b ∈ bs,G b
variable {bs:List AS} {ms:List Fd} {rest:AS}
theorem Blk.rd (h:Blk ms rest bs) {m:Fd} (hm:m ∈ ms):Blk ms rest (rdB m bs):=by
 have hmem:∀ {b:AS},b ∈ rdB m bs -> ∃ b0 ∈ bs,(uk m b0 = false /\ b = b0) \/ (uk m b0 = true /\ (b = b0 &&& m.rhs \/ b = b0 &&& ~~~m.rhs)):=by
  intro b hb;unfold rdB at hb
  rcases b60.1 hb with hb | hb
  · obtain ⟨b0,h0,rfl⟩:=b5w.1 hb
    refine ⟨b0,h0, ?_⟩;cases hs:uk m b0 <;> simp [hdB,hs]
  obtain ⟨b0,h0,hb⟩:=b8h.1 hb;refine ⟨b0,h0, ?_⟩;cases hs:uk m b0
  · simp [tlB,hs] at hb
  simp [tlB,hs] at hb;exact .inr ⟨rfl, .inr hb⟩
 refine ⟨fun b hb=>?_,fun a ha=>?_,fun G h0 hG b hb=>?_⟩
 · obtain ⟨b0,h0,⟨_,rfl⟩ | ⟨hs,hb⟩⟩:=hmem hb
   · exact h.nz _ h0
   obtain ⟨_,h2,h3⟩:=ap0.1 hs
   rcases hb with rfl | rfl
   · exact h2
   exact h3
 · rw [<- h.cnt a ha]
   have:∀ l:List AS,(l.map (hdB m)).countP (fun b=>b.getLsbD a) + (l.flatMap (tlB m)).countP (fun b=>b.getLsbD a) = l.countP (fun b=>b.getLsbD a):=by
    intro l
    induction l with
    | nil=>rfl
    | cons b l ih =>
     rw [b71,b7y,List.countP_append,b7j,b7j,<- ih];cases hs:uk m b
     · simp [hdB,tlB,hs];omega
     simp only [hdB,tlB,hs,if_true,b7j,List.countP_nil,ni ha,b6o];cases b.getLsbD a <;> cases m.rhs.getLsbD a <;> simp <;> omega
   unfold rdB;rw [List.countP_append];exact this bs
 obtain ⟨b0,h1,⟨_,rfl⟩ | ⟨hs,hb⟩⟩:=hmem hb
 · exact h.ind G h0 hG _ h1
 obtain ⟨g1,g2⟩:=hG m hm b0 (h.ind G h0 hG _ h1) hs
 rcases hb with rfl | rfl
 · exact g1
 exact g2
def abm (rest:AS):List AS:=if rest = 0 then [] else [rest]
theorem Blk.start (ms:List Fd) (rest:AS):Blk ms rest (abm rest):=by
 unfold abm;by_cases h:rest = 0
 · subst h
   simp only [if_true];exact ⟨fun _ h=>by (cases h),fun a ha=>by simp,fun _ _ _ _ h=>by cases h⟩
 rw [if_neg h];exact ⟨fun b hb=>by (simp at hb;subst hb;exact h),fun a ha=>by simp [b7j],fun G h0 _ b hb=>by (simp at hb;subst hb;exact h0)⟩
def blks (ms:List Fd) (rest:AS):List AS:=ap5 ms 18446744073709551616 (abm rest)
def aj6 {p:AS -> Bool} {l:List AS} (h:l.countP p <= 1) {a:AS} (ha:a ∈ l) (hb:b ∈ l) (pa:p a = true) (pb:p b = true):a = b:=by
 rw [List.countP_eq_length_filter] at h;have h1:a ∈ l.filter p:=b7o.2 ⟨ha,pa⟩;have h2:b ∈ l.filter p:=b7o.2 ⟨hb,pb⟩
 cases hl:l.filter p with
 | nil=>rw [hl] at h1;cases h1
 | cons x r =>
  rw [hl] at h h1 h2
  cases r with
  | nil=>simp at h1 h2;rw [h1,h2]
  | cons=>simp at h
theorem Blk.one (h:Blk ms rest bs) {b':AS} (hb:b ∈ bs) (hb':b' ∈ bs) {a:Nat} (h1:b.getLsbD a = true) (h2:b'.getLsbD a = true):b = b':=by
 refine aj6 (p:=fun b=>b.getLsbD a) ?_ hb hb' h1 h2;rw [h.cnt a (ay1 h1)];split <;> omega
theorem Blk.sub (h:Blk ms rest bs) (hb:b ∈ bs):Go.Hx.sub b rest:=dj.2 fun a ha hba=>by
 have h1:=h.cnt a ha;have h2:0 < bs.countP (fun b=>b.getLsbD a):=List.countP_pos_iff.2 ⟨b,hb,hba⟩
 cases hr:rest.getLsbD a with
 | true=>rfl
 | false=>rw [hr] at h1;simp only [b88,if_false] at h1;omega
end
end
section
def sgl (f:Fd):List Fd:=(b7 f.rhs).map fun a=>⟨f.lhs,awf a⟩
def b02 (fs ms:List Fd):List Fd:=ms ++ fs.flatMap sgl
def mr (T:List AS) (r:AS):List AS:=if r ∈ T then T else T ++ [r]
def a4y {T:List AS} {r z:AS}:z ∈ mr T r <-> z ∈ T \/ z = r:=by
 unfold mr;split
 · rename_i h
   constructor
   · exact .inl
   rintro (h2 | rfl)
   · exact h2
   exact h
 simp
def sy {T:List AS} {r:AS} (h:T.Nodup):(mr T r).Nodup:=by
 unfold mr;split
 · exact h
 rename_i hr;rw [List.nodup_append];exact ⟨h,by simp,fun a ha b hb=>by simp at hb;subst hb;rintro rfl;exact hr ha⟩
def a5u (s:AS) (o:List AS) (T:List AS):List AS:=T.foldl (fun o r=>mr o (r &&& ~~~s)) o
def ns (T:List AS) (s:AS):List AS:=a5u s [] T
def a48 {s:AS}:∀ {T o:List AS},(o.Nodup -> (a5u s o T).Nodup) /\ ∀ z,z ∈ a5u s o T <-> z ∈ o \/ ∃ r ∈ T,z = r &&& ~~~s
 | [],o=>⟨fun h=>h,fun z=>by simp [a5u]⟩
 | r :: T,o=>by
  obtain ⟨h1,h2⟩:=a48 (s:=s) (T:=T) (o:=mr o (r &&& ~~~s));refine ⟨fun h=>h1 (sy h),fun z=>?_⟩;show z ∈ a5u s (mr o (r &&& ~~~s)) T <-> _;rw [h2 z,a4y];simp only [b5k];constructor
  · rintro ((h | h) | ⟨q,hq,h⟩)
    · exact .inl h
    · exact .inr ⟨r, .inl rfl,h⟩
    exact .inr ⟨q, .inr hq,h⟩
  rintro (h | ⟨q,rfl | hq,h⟩)
  · exact .inl (.inl h)
  · exact .inl (.inr h)
  exact .inr ⟨q,hq,h⟩
def a41 {T:List AS} {s z:AS}:z ∈ ns T s <-> ∃ r ∈ T,z = r &&& ~~~s:=by
 have:=(a48 (s:=s) (T:=T) (o:=[])).2 z;simpa [ns] using this
def a5x (T:List AS) (s:AS):(ns T s).Nodup:=(a48 (s:=s) (T:=T) (o:=[])).1 List.nodup_nil
def xc (d:Fd) (r k:AS):AS:=(r &&& (d.lhs ||| d.rhs)) ||| (k &&& ~~~(d.lhs ||| d.rhs))
def agB (d:Fd) (r k:AS):Bool:=decide ((r ^^^ k) &&& d.lhs = 0)
def aoe {d:Fd} {r k:AS} {i:Nat} (hi:i < 32):(xc d r k).getLsbD i = (if d.lhs.getLsbD i || d.rhs.getLsbD i then r.getLsbD i else k.getLsbD i):=by
 unfold xc;rw [b7g,ni hi,b6o,b7g];cases d.lhs.getLsbD i <;> cases d.rhs.getLsbD i <;> simp
structure b0l (fs ms:List Fd) (T:List AS):Prop where
 fd:∀ d ∈ fs,∀ r ∈ T,∀ k ∈ T,agB d r k = true -> (r ^^^ k) &&& d.rhs = 0
 mv:∀ d ∈ ms,∀ r ∈ T,∀ k ∈ T,agB d r k = true -> xc d r k ∈ T
def azj (fs:List Fd) (bs:List AS) (a:Nat):Prop:=awf a ∈ bs /\ ∃ f ∈ fs,f.rhs.getLsbD a = true /\ f.lhs.getLsbD a = false
structure JT (fs:List Fd) (bs:List AS) (rest:AS) (T:List AS):Prop where
 z:(0:AS) ∈ T
 r:∀ r ∈ T,sub r rest /\ ∀ b ∈ bs,b &&& r = 0 \/ sub b r
 top:∃ L ∈ T,(∀ r ∈ T,sub r L) /\ ∀ a,a < 32 -> rest.getLsbD a = true -> L.getLsbD a = false -> azj fs bs a
section
variable {fs ms:List Fd} {bs:List AS} {rest:AS} {T:List AS}
def b3p (T:List AS) (b:AS):Prop:=∀ r ∈ T,∀ k ∈ T,((r &&& b) ||| (k &&& ~~~b)) ∈ T
structure b49 (fs ms:List Fd) (bs:List AS) (rest:AS) (T:List AS):Prop where
 j:JT fs bs rest T
 c:b0l fs ms T
def qB (T:List AS) (L x rest y:AS):Prop:=y ≠ 0 /\ sub y rest /\ (L &&& ~~~(x ||| y)) ∈ T
end
end
section
def axq:List AS -> Nat
 | []=>0
 | b :: l=>b.toNat + axq l
def OkB (l:List AS):Prop:=axq l < 4294967296 /\ ∀ b ∈ l,b ≠ 0
def b57 (l:List AS) (i:Nat):Nat -> Nat -> PV:=fun k c=>if k < i then .any else sC (l.getD k default) c
structure BkI (ms:List Fd) (R:List AS) (x:Nat × List AS × Bool):Prop where
 ok:OkB x.2.1
 t:x.2.2 = true -> ap5 ms x.1 x.2.1 = R /\ muB x.2.1 < x.1
 f:x.2.2 = false -> x.2.1 = R
def ckB (n:Int) (l m:List Fd) (s:AS):Int:=if bw n l m = 0 then (if s >>> n.toNat = 0 then 0 else 1) else bw n l m
def b4o (fs ms:List Fd) (i k:Nat):List Fd:=ms ++ (fs.take i).flatMap sgl ++ (sgl (fs.getD i default)).take k
end
section
open Go.Proofs
def b3r (x:Nat × List AS × Bool):Nat:=x.1 + (bif x.2.2 then 1 else 0)
end
section
def b25 (b:AS) (f:Fd):Bool:=!decide ((f.rhs &&& ~~~f.lhs) &&& b = 0)
def are (l:List Fd) (o b:AS):AS:=if bsz b = 1 then (if l.any (b25 b) = true then o ||| b else o) else o
def b17 (l:List Fd) (o:AS) (bs:List AS):AS:=bs.foldl (are l) o
section
variable {l:List Fd} {o:AS} {bs:List AS} {i:Nat}
end
def aq7 (n:Int) (l m:List Fd) (x:AS):List AS:=ord (blks (b02 l m) (b6 n &&& ~~~x))
def b48 (n:Int) (l m:List Fd) (x:AS):List AS:=if ckB n l m x = 0 then aq7 n l m x else []
def ayh (n:Int) (l m:List Fd) (x:AS):AS:=b17 l x (aq7 n l m x)
def b3u (n:Int) (l m:List Fd) (x:AS):AS:=if ckB n l m x = 0 then ayh n l m x else 0
def b2b (p:AS) (bs:List AS):List AS:=(bs.filter fun b=>!decide (b &&& p = 0)).map fun b=>b &&& p
def apg (n:Int) (l m:List Fd) (x p:AS):List AS:=ord (b2b p (aq7 n l m x))
def ck4 (n:Int) (l m:List Fd) (s:AS):Int:=if n < 0 \/ 8 < n then 7 else ckB n l m s
def b3y (n:Int) (l m:List Fd) (x p:AS):List AS:=if ck4 n l m (x ||| p) = 0 then apg n l m x p else []
def b1q (n:Int) (l m:List Fd) (p x:AS):Option Fd:=if p &&& ~~~(ayh n l m x) = 0 then none else if 1 < (apg n l m x p).length then some ⟨x,(apg n l m x p).getD 0 default⟩ else none
def ap4 (n:Int) (l m:List Fd) (p:AS):Option Fd:=(aam p).findSome? (b1q n l m p)
def anm:Option Fd -> Fd × Bool
 | some v=>(v,true)
 | none=>(⟨0,0⟩,false)
def b1g (n:Int) (l m:List Fd) (p:AS):Fd × Bool:=if ck4 n l m p = 0 then anm (ap4 n l m p) else (⟨0,0⟩,false)
def a98 {α:Type} [Inhabited α] {l:List α} {i:Nat} (h:i < l.length):l.getD i default ∈ l:=by
 rw [b5c,b5b h];exact b5l h
def b3f (V:AS -> Option Fd):Prop:=∀ p v,V p = some v -> sub (v.lhs ||| v.rhs) p /\ v.lhs ||| v.rhs ≠ p /\ p &&& ~~~v.rhs ≠ p
section
variable {V:AS -> Option Fd}
def vF (V:AS -> Option Fd) (s:AS):Fd:=(anm (V s)).1
def vBo (V:AS -> Option Fd) (s:AS):Bool:=(anm (V s)).2
def axt (V:AS -> Option Fd) (s:AS):AS:=(vF V s).lhs ||| (vF V s).rhs
def axs (V:AS -> Option Fd) (s:AS):AS:=s &&& ~~~(vF V s).rhs
def ab5 (V:AS -> Option Fd):Nat -> List AS -> List AS -> List AS
 | 0,_,out=>out
 | n + 1,todo,out =>
  if todo.length = 0 then out
  else if vBo V (todo.getD (todo.length - 1) default) = true then ab5 V n (todo.take (todo.length - 1) ++ [axt V (todo.getD (todo.length - 1) default),axs V (todo.getD (todo.length - 1) default)]) out
  else ab5 V n (todo.take (todo.length - 1)) (out ++ [todo.getD (todo.length - 1) default])
def b50 (V:AS -> Option Fd) (p0:AS) (x:Nat × List AS × List AS):Prop:=ab5 V x.1 x.2.1 x.2.2 = ab5 V 6562 [p0] [] /\ ayx x.2.1 < x.1 /\ x.2.2.length + x.1 <= 6562
def lvG (V:AS -> Option Fd):Nat -> AS -> List AS
 | 0,s=>[s]
 | n + 1,s=>if vBo V s = true then lvG V n (axt V s) ++ lvG V n (axs V s) else [s]
end
def b10 (n:Int) (l m:List Fd):List AS:=ab5 (ap4 n l m) 6562 [b6 n] []
def b46 (n:Int) (l m:List Fd):List AS:=if ck4 n l m 0 = 0 then acm (b10 n l m) else []
end
section
open Go.Proofs
def awx:goodFn b98 19:=⟨Tryz.f19,Tryz.func19,by kernel_rfl,by kernel_rfl⟩
def ayz (n:Nat) (c:Bool) (f:Nat -> Nat -> PV) (hn:n <= 17592186044416) :
 cq b98 19 [.one (.p (.sl n 2 c f))] [] (.v (.one (.ref 0 n))) [(0, .arr true 2 45 n f)] []:=by
 refine hfx (nt:=8) Tryz.func19 ?_;refine sx7 ?_;refine ax true rfl rfl rfl rfl rfl trivial ?_;refine bq ?_;refine qb (ι:=Bool) (fun c=>⟨[(0,some (b4 (.sl n 2 c f)))],[]⟩) (fun _=>True) ?_ fun c _=>?_
 · rcases b6m n with hz | h0
   · subst hz
     refine hw_exact' 0 rfl fun ad cap hcap=>?_;refine sx7 ?_;(iterate 2 refine ax true rfl rfl rfl rfl rfl trivial ?_);refine bq ?_;refine ag ad.isNone rfl (fun hc=>?_) (fun hc=>?_)
     · refine sx7 ?_
       refine ax true rfl rfl rfl rfl rfl trivial ?_;refine bq ?_;refine eo 2 0 true 2 45 f b8n rfl (CoP.sl rfl (.inr rfl) (fun h=>h) fun i j hi _=>absurd hi (b5i i)) (.inr rfl) rfl ?_;refine hrr ?_;exact ⟨_,_,rfl,trivial,CoR.refl _,uu⟩
     refine cz ?_;exact ⟨false,trivial,⟨⟨_,rfl,CoP.raw_sl hcap⟩,trivial⟩,trivial⟩
   refine sx7 ?_;refine ax true rfl rfl rfl rfl rfl trivial ?_;refine ax true rfl rfl rfl rfl rfl h0 ?_;refine bq ?_;refine ag false rfl (fun hc=>by cases hc) (fun hc=>?_);refine cz ?_;exact ⟨c,trivial,tt,trivial⟩
 refine sx7 ?_;refine ou 0 rfl rfl rfl rfl rfl rfl trivial ?_;refine ax true rfl rfl rfl rfl rfl trivial ?_;refine se 0 true rfl rfl rfl rfl rfl rfl ⟨trivial,rfl,rfl,rfl, .inl rfl,by show 0 + n <= 9223372036854775807;omega,by show (0 + n) * 8 <= 140737488355328;omega,fun _=>.inl rfl⟩ ?_;refine ax true rfl rfl rfl rfl rfl trivial ?_;refine bq ?_;refine hrr ?_;refine ⟨_,_,rfl,trivial,CoR.of_eq (by show HR.v (.one (.ref 0 (0 + n))) = _;rw [b5q]),⟨⟨_,rfl, ?_⟩,trivial⟩⟩;exact ⟨fun h=>h,rfl,rfl,(b5q n).symm,fun i j _ _=>CoP.of_eq (by simp [d8])⟩
def asn (n:Nat) (c:Bool) (f:Nat -> Nat -> PV) (hn:n <= 17592186044416):a8 b98 19 [.one (.sl n 2 c f)] (.v (.one (.sl n 2 false f))) :=
 cq.pure (args:=[.one (.sl n 2 c f)]) (l:=[.one (.ref 0 n)]) (ayz n c f hn) rfl ⟨rfl,trivial⟩
end
section
open Go.Proofs
def is4 (n:Int) (l m:List Fd):Bool:=if ck4 n l m 0 = 0 then !(b1g n l m (b6 n)).2 else false
end
section
structure Mx where
 d:Dps
 m:List Dp
deriving Inhabited
def Mx.mv (x:Mx):List Fd:=x.m.map (Dp.fd x.d.num)
def Mx.c (x:Mx):Nat -> PV
 | 0=>x.d.c 0
 | 1=>x.d.c 1
 | 2=>dpl x.m
 | _=>.any
abbrev Mx.pc (x:Mx):PC:=.agg [x.c 0,x.c 1,x.c 2]
def Mx.ok (x:Mx):Bool:=decide (x.d.l.length <= 6) && decide (x.m.length <= 4)
def b4q (n:Int) (l m:List Fd) (ps:List AS):Int:=if ck4 n l m 0 = 0 then lsC n ps l m else ck4 n l m 0
def b3s (n:Int) (l m:List Fd) (ps:List AS):Bool:=if ck4 n l m 0 = 0 then (if lsC n ps l m = 0 then lsB n ps l m && ps.all (fun p=>!vBo (ap4 n l m) p) else false) else false
end
section
open Go.Proofs Go.Proofs.YteklilhbjjofbaaGreatDoor
open Go.RowKit Go.ChangeShapes Go.WideShapes Go.ChangeAt
def s2C (x:AS × AS):Nat -> PV
 | 0=>asC x.1
 | 1=>asC x.2
 | _=>.any
end
section
structure Rcp where
 n:BitVec 8
 f:List Dp
 m:List Dp
 p:List (BitVec 8)
deriving Inhabited
def Rcp.num (d:Rcp) (k:Nat):Int:=1 + ((d.n.toNat % k:Nat):Int)
abbrev Rcp.pc (d:Rcp):PC:=.agg [.raw (.int .u8 (d.n.toNat:Int)),dpl d.f,dpl d.m,psl 1 u8C d.p]
def u8S (n:Int) (b:BitVec 8):AS:=b.setWidth 32 &&& b6 n
def ajq {a b c:Nat}:(bif bif decide ((a:Int) <= 4) then decide ((b:Int) <= 4) else false then decide ((c:Int) <= 3) else false) = decide (a <= 4 /\ b <= 4 /\ c <= 3):=by
 rw [b87,decide_eq_true_iff];by_cases h1:(a:Int) <= 4
 · by_cases h2:(b:Int) <= 4
   · rw [decide_eq_true h1,decide_eq_true h2,cond_true,cond_true,decide_eq_true_iff];omega
   rw [decide_eq_true h1,decide_eq_false h2,cond_true,cond_false];exact ⟨(fun h=>by cases h),(fun h=>by omega)⟩
 rw [decide_eq_false h1,cond_false,cond_false];exact ⟨(fun h=>by cases h),(fun h=>by omega)⟩
end
section
open Go.Proofs
def b1w (d:Rcp) (hf:d.f.length <= 16777216) (hm:d.m.length <= 16777216) (hp:d.p.length <= 16777216):a8 b98 15 [d.pc,pI 4] (ae [pI (d.num 4),pP (fdl (d.f.map (Dp.fd (d.num 4)))),pP (fdl (d.m.map (Dp.fd (d.num 4)))),pP (asl (d.p.map (u8S (d.num 4)))),pB (decide (d.f.length <= 4 /\ d.m.length <= 4 /\ d.p.length <= 3))]):=by
 refine hpx (nt:=118) Tryz.func15 ?_;refine sx7 ?_;refine m9 0 ?_;refine a7t ?_;refine qcx sa (sj (d.num 4)) ?_;refine o4 ?_;refine eo 11 900 true 2 43 (lf Fd.c []) b8n rfl (CoP.sl rfl (.inr rfl) (fun h=>h) (fun i j hi _=>absurd hi (b5i i))) (.inr rfl) rfl ?_;refine cj (ka 2 (ka 9 (ka 10 kn))) (kb 0 km) (fun i=>⟨[(11,some (.v (.one (.ref 900 ((d.f.take i).map (Dp.fd (d.num 4))).length)))),(12,some (vI i))],[(900,some (.arr true 2 43 ((d.f.take i).map (Dp.fd (d.num 4))).length (lf Fd.c ((d.f.take i).map (Dp.fd (d.num 4))))))]⟩) d.f.length kk ?_;rintro i hi;have hlen:((d.f.take i).map (Dp.fd (d.num 4))).length <= i:=by rw [b64,b5p];omega
 refine w_9 ?_;refine hcd (fun h0=>?_) (fun h0=>?_)
 · refine ax9 ?_;refine m9 1 ?_;refine r9 2 true ?_;refine w_8 ?_;exact lpx (i + 1) ⟨⟨⟨_,rfl,(j0 (a7e b8i))⟩,tt⟩,⟨⟨_,rfl,(a4j (a7e b8i) (CoP.of_eq (congrArg (fun z=>PV.raw (.int .u32 z)) (a18 _ _))) (CoP.of_eq (congrArg (fun z=>PV.raw (.int .u32 z)) (a18 _ _))))⟩,uu⟩⟩
 obtain rfl:i = d.f.length:=by omega
 refine w_2 ?_;refine bm 11 rfl rfl rfl ?_;refine w_9 ?_;refine eo 13 901 true 2 45 (lf Fd.c []) b8n rfl (CoP.sl rfl (.inr rfl) (fun h=>h) (fun i j hi _=>absurd hi (b5i i))) (.inr rfl) rfl ?_;refine cj (ka 2 (ka 9 (ka 10 (ka 11 kn)))) (kb 0 km) (fun i=>⟨[(13,some (.v (.one (.ref 901 ((d.m.take i).map (Dp.fd (d.num 4))).length)))),(14,some (vI i))],[(901,some (.arr true 2 45 ((d.m.take i).map (Dp.fd (d.num 4))).length (lf Fd.c ((d.m.take i).map (Dp.fd (d.num 4))))))]⟩) d.m.length kk ?_;rintro i hi;have hlen:((d.m.take i).map (Dp.fd (d.num 4))).length <= i:=by rw [b64,b5p];omega
 refine w_9 ?_;refine hcd (fun h1=>?_) (fun h1=>?_)
 · refine ax9 ?_;refine m9 3 ?_;refine r9 4 true ?_;refine w_8 ?_;exact lpx (i + 1) ⟨⟨⟨_,rfl,(j0 (a7e b8i))⟩,tt⟩,⟨⟨_,rfl,(a4j (a7e b8i) (CoP.of_eq (congrArg (fun z=>PV.raw (.int .u32 z)) (a18 _ _))) (CoP.of_eq (congrArg (fun z=>PV.raw (.int .u32 z)) (a18 _ _))))⟩,uu⟩⟩
 obtain rfl:i = d.m.length:=by omega
 refine w_2 ?_;refine bm 13 rfl rfl rfl ?_;refine w_9 ?_;refine eo 15 902 true 1 28 (lf sC []) b8n rfl (CoP.sl rfl (.inr rfl) (fun h=>h) (fun i j hi _=>absurd hi (b5i i))) (.inr rfl) rfl ?_;refine cj (ka 2 (ka 9 (ka 10 (ka 11 (ka 13 kn))))) (kb 0 km) (fun i=>⟨[(15,some (.v (.one (.ref 902 ((d.p.take i).map (u8S (d.num 4))).length)))),(16,some (vI i))],[(902,some (.arr true 1 28 ((d.p.take i).map (u8S (d.num 4))).length (lf sC ((d.p.take i).map (u8S (d.num 4))))))]⟩) d.p.length kk ?_;rintro i hi;have hlen:((d.p.take i).map (u8S (d.num 4))).length <= i:=by rw [b64,b5p];omega
 refine w_9 ?_;refine hcd (fun h2=>?_) (fun h2=>?_)
 · refine m7 ?_;refine m9 5 ?_;refine r9 6 true ?_;refine w_7 ?_;exact lpx (i + 1) ⟨⟨⟨_,rfl,(j0 (a7e b8i))⟩,tt⟩,⟨⟨_,rfl,(kz (a7e b8i) (CoP.of_eq (congrArg (fun z=>PV.raw (.int .u32 z)) (a18 _ _))))⟩,uu⟩⟩
 obtain rfl:i = d.p.length:=by omega
 refine w_2 ?_;refine bm 15 rfl rfl rfl ?_;refine w_9 ?_;refine aa rfl rfl (fun r3=>?_) (fun r3=>?_)
 ·
  have h3:=tz1 r3;(iterate 3 refine qy ?_ (hg:=(gtt r3)));refine w_2 ?_;refine aa rfl rfl (fun r4=>?_) (fun r4=>?_)
  ·
   have h4:=tz1 (bd r3 r4);(iterate 3 refine qy ?_ (hg:=(gtt r4)));refine w_7 ?_
   exact hx8 rfl rfl rfl (⟨CoC.refl _,(by rw [b67];exact CoC.refl _),(by rw [b67];exact CoC.refl _),(by rw [b67];exact CoC.refl _),ccb (by first | (simp only [b64,b67];exact ajq) | exact (decide_eq_false b8i).symm),trivial⟩)
  have h4:=tz2 (bd r3 r4);(iterate 3 refine k9 (gft r4) ?_);refine w_7 ?_
  exact hx8 rfl rfl rfl (⟨CoC.refl _,(by rw [b67];exact CoC.refl _),(by rw [b67];exact CoC.refl _),(by rw [b67];exact CoC.refl _),ccb (by first | (simp only [b64,b67];exact ajq) | exact (decide_eq_false b8i).symm),trivial⟩)
 have h3:=tz2 r3;(iterate 3 refine k9 (gft r3) ?_);refine w_2 ?_;(iterate 3 refine k9 rfl ?_);refine w_7 ?_
 exact hx8 rfl rfl rfl (⟨CoC.refl _,(by rw [b67];exact CoC.refl _),(by rw [b67];exact CoC.refl _),(by rw [b67];exact CoC.refl _),ccb (by first | (simp only [b64,b67];exact ajq) | exact (decide_eq_false b8i).symm),trivial⟩)
end
section
section
variable {a b:Int}
def adr {n:Int} {l:List Rw} {p m:List Fd} {mu:Bool} {i:Int} (h:¬ ckE n l p m = 0):da n l p m mu i a b = (0,[],ckE n l p m):=if_neg h
def jc {n:Int} {l:List Rw} {p m:List Fd} {mu:Bool} {i:Int} (h:ckE n l p m = 0) (h3:fh l p m mu i a b):da n l p m mu i a b = (0,[],1):=(if_pos h).trans (if_pos h3)
def a4t {n:Int} {l:List Rw} {p m:List Fd} {mu:Bool} {i:Int} (h:ckE n l p m = 0) (h3:¬ fh l p m mu i a b):da n l p m mu i a b = ci n l p m (mu,i.toNat,a.toNat,b.toNat):=(if_pos h).trans (if_neg h3)
def la (h:(if b < a then b else a) < 0):a < 0 \/ b < 0:=by split at h <;> omega
def l8 {k:Int} (h:k <= (if a < b then b else a)):k <= a \/ k <= b:=by split at h <;> omega
def aky (h:¬ (if b < a then b else a) < 0):0 <= a /\ 0 <= b:=by split at h <;> omega
def ajy {k:Int} (h:¬ k <= (if a < b then b else a)):a < k /\ b < k:=by split at h <;> omega
def stQ (x y:St):Bool:=(x.1 == y.1) && (decide ((x.2.1:Int) = (y.2.1:Int)) && (decide ((x.2.2.1:Int) = (y.2.2.1:Int)) && decide ((x.2.2.2:Int) = (y.2.2.2:Int))))
end
end
section
open Go.Proofs
def ao0 (n:Int) (l:List Rw) (p m:List Fd) (i a b:Int):a8 b98 48 [pT n l,pP (fdl p),pP (fdl m), .agg [.raw (.bool true), .raw (.int .i64 i), .raw (.int .i64 a), .raw (.int .i64 b)]] (ae [pT (da n l p m true i a b).1 (da n l p m true i a b).2.1,pI (da n l p m true i a b).2.2]):=by
 refine hpx (nt:=69) Tryz.func48 ?_;refine sx7 ?_;refine m9 0 ?_;refine m9 1 ?_;refine m9 2 ?_;refine w_8 ?_;refine qcx ad5 (a3s n l p m) ?_;refine w_7 ?_;refine hcn (fun h0=>?_) (fun h0=>?_)
 · refine w_7 ?_;refine hrr ?_;have he:=adr (n:=n) (l:=l) (p:=p) (m:=m) (mu:=true) (i:=i) (a:=a) (b:=b) b8j;exact f9 rfl rfl (by rw [he];exact ⟨CoC.agg ⟨CoP.refl _,aw,trivial⟩,CoC.refl _,trivial⟩)
 have hck:ckE n l p m = 0:=by assumption
 obtain ⟨hT,hbe,hpa⟩:=a72 hck;refine b23 ?_;refine aa rfl rfl (fun r1=>?_) (fun r1=>?_)
 ·
  have h1:=tz1 r1;(iterate 4 refine k9 (gtf r1) ?_);refine w_2 ?_;(iterate 5 refine k9 rfl ?_);refine w_2 ?_;(iterate 6 refine k9 rfl ?_);refine w_2 ?_;(iterate 9 refine k9 rfl ?_);refine w_9 ?_;refine hrr ?_
  have hbad:fh l p m true i a b:=by
   first
    | exact bdS
    | (refine (la (a:=a) (b:=b) ?_).elim (fun hq=>?_) (fun hq=>?_) <;> first | assumption | exact bdS)
    | (refine (l8 (a:=a) (b:=b) (k:=(l.length:Int)) ?_).elim (fun hq=>?_) (fun hq=>?_) <;> first | assumption | exact bdS)
  have he:=jc hck hbad;exact f9 rfl rfl (by rw [he];exact ⟨CoC.agg ⟨CoP.refl _,aw,trivial⟩,CoC.refl _,trivial⟩)
 have h1:=tz2 r1;(iterate 4 refine qy ?_ (hg:=(gff r1)));refine w_2 ?_;refine aa rfl rfl (fun r2=>?_) (fun r2=>?_)
 ·
  have h2:=tz1 (ab r1 r2);(iterate 5 refine k9 (gtf r2) ?_);refine w_2 ?_;(iterate 6 refine k9 rfl ?_);refine w_2 ?_;(iterate 9 refine k9 rfl ?_);refine w_9 ?_;refine hrr ?_
  have hbad:fh l p m true i a b:=by
   first
    | exact bdS
    | (refine (la (a:=a) (b:=b) ?_).elim (fun hq=>?_) (fun hq=>?_) <;> first | assumption | exact bdS)
    | (refine (l8 (a:=a) (b:=b) (k:=(l.length:Int)) ?_).elim (fun hq=>?_) (fun hq=>?_) <;> first | assumption | exact bdS)
  have he:=jc hck hbad;exact f9 rfl rfl (by rw [he];exact ⟨CoC.agg ⟨CoP.refl _,aw,trivial⟩,CoC.refl _,trivial⟩)
 have h2:=tz2 (ab r1 r2);(iterate 5 refine qy ?_ (hg:=(gff r2)));refine w_2 ?_;refine aa rfl rfl (fun r3=>?_) (fun r3=>?_)
 ·
  have h3:=tz1 (ab r2 r3);(iterate 6 refine k9 (gtf r3) ?_);refine w_2 ?_;(iterate 9 refine k9 rfl ?_);refine w_9 ?_;refine hrr ?_
  have hbad:fh l p m true i a b:=by
   first
    | exact bdS
    | (refine (la (a:=a) (b:=b) ?_).elim (fun hq=>?_) (fun hq=>?_) <;> first | assumption | exact bdS)
    | (refine (l8 (a:=a) (b:=b) (k:=(l.length:Int)) ?_).elim (fun hq=>?_) (fun hq=>?_) <;> first | assumption | exact bdS)
  have he:=jc hck hbad;exact f9 rfl rfl (by rw [he];exact ⟨CoC.agg ⟨CoP.refl _,aw,trivial⟩,CoC.refl _,trivial⟩)
 have h3:=tz2 (ab r2 r3);(iterate 6 refine qy ?_ (hg:=(gff r3)));refine w_2 ?_;refine aa rfl rfl (fun r4=>?_) (fun r4=>?_)
 ·
  have h4:=tz1 (ab r3 r4);(iterate 9 refine k9 (gtf r4) ?_);refine w_9 ?_;refine hrr ?_
  have hbad:fh l p m true i a b:=by
   first
    | exact bdS
    | (refine (la (a:=a) (b:=b) ?_).elim (fun hq=>?_) (fun hq=>?_) <;> first | assumption | exact bdS)
    | (refine (l8 (a:=a) (b:=b) (k:=(l.length:Int)) ?_).elim (fun hq=>?_) (fun hq=>?_) <;> first | assumption | exact bdS)
  have he:=jc hck hbad;exact f9 rfl rfl (by rw [he];exact ⟨CoC.agg ⟨CoP.refl _,aw,trivial⟩,CoC.refl _,trivial⟩)
 have h4:=tz2 (ab r3 r4);(iterate 9 refine qy ?_ (hg:=(gff r4)));refine w_2 ?_;refine ag _ rfl (fun r5=>?_) (fun r5=>?_)
 ·
  have h5:=tz1 (ab r4 r5);refine w_6 ?_;refine hrr ?_
  have hbad:fh l p m true i a b:=by
   first
    | exact bdS
    | (refine (la (a:=a) (b:=b) ?_).elim (fun hq=>?_) (fun hq=>?_) <;> first | assumption | exact bdS)
    | (refine (l8 (a:=a) (b:=b) (k:=(l.length:Int)) ?_).elim (fun hq=>?_) (fun hq=>?_) <;> first | assumption | exact bdS)
  have he:=jc hck hbad;exact f9 rfl rfl (by rw [he];exact ⟨CoC.agg ⟨CoP.refl _,aw,trivial⟩,CoC.refl _,trivial⟩)
 have h5:=tz2 (ab r4 r5);refine w_2 ?_;obtain ⟨ha0,hb0⟩:=aky (a:=a) (b:=b) b8j;obtain ⟨hal,hbl⟩:=ajy (a:=a) (b:=b) (k:=(l.length:Int)) b8j
 have hnb:¬ fh l p m true i a b:=by
  unfold fh;rintro (h | h | h | h | h | h | ⟨h,h2⟩ | ⟨h,h2⟩) <;> first | omega | cases h
 have ha:a.toNat < l.length:=by omega
 have hb:b.toNat < l.length:=by omega
 have hi:i.toNat < m.length:=by omega
 refine w_5 ?_;refine rc rfl rfl rfl rfl rfl rfl ae4 (ah3 n l p m i.toNat a.toNat b.toNat hT ha hb hi) (⟨CoC.refl _,CoC.refl _,CoC.refl _,CoC.agg ⟨CoP.refl _,CoP.of_eq (by rw [b7q b8i]),CoP.of_eq (by rw [b7q b8i]),CoP.of_eq (by rw [b7q b8i]),trivial⟩,trivial⟩) rfl rfl ?_;refine w_5 ?_;refine hrr ?_;have he:=a4t (n:=n) (i:=i) (a:=a) (b:=b) hck hnb;exact f9 rfl rfl (by rw [he];exact CoL.refl _)
def aok (n:Int) (l:List Rw) (p m:List Fd) (i a b:Int):a8 b98 48 [pT n l,pP (fdl p),pP (fdl m), .agg [.raw (.bool false), .raw (.int .i64 i), .raw (.int .i64 a), .raw (.int .i64 b)]] (ae [pT (da n l p m false i a b).1 (da n l p m false i a b).2.1,pI (da n l p m false i a b).2.2]):=by
 refine hpx (nt:=69) Tryz.func48 ?_;refine sx7 ?_;refine m9 0 ?_;refine m9 1 ?_;refine m9 2 ?_;refine w_8 ?_;refine qcx ad5 (a3s n l p m) ?_;refine w_7 ?_;refine hcn (fun h0=>?_) (fun h0=>?_)
 · refine w_7 ?_;refine hrr ?_;have he:=adr (n:=n) (l:=l) (p:=p) (m:=m) (mu:=false) (i:=i) (a:=a) (b:=b) b8j;exact f9 rfl rfl (by rw [he];exact ⟨CoC.agg ⟨CoP.refl _,aw,trivial⟩,CoC.refl _,trivial⟩)
 have hck:ckE n l p m = 0:=by assumption
 obtain ⟨hT,hbe,hpa⟩:=a72 hck;refine apj ?_;refine aa rfl rfl (fun r1=>?_) (fun r1=>?_)
 ·
  have h1:=tz1 r1;(iterate 4 refine k9 (gtf r1) ?_);refine w_2 ?_;(iterate 5 refine k9 rfl ?_);refine w_2 ?_;(iterate 6 refine k9 rfl ?_);refine w_2 ?_;(iterate 9 refine k9 rfl ?_);refine w_9 ?_;refine hrr ?_
  have hbad:fh l p m false i a b:=by
   first
    | exact bdS
    | (refine (la (a:=a) (b:=b) ?_).elim (fun hq=>?_) (fun hq=>?_) <;> first | assumption | exact bdS)
    | (refine (l8 (a:=a) (b:=b) (k:=(l.length:Int)) ?_).elim (fun hq=>?_) (fun hq=>?_) <;> first | assumption | exact bdS)
  have he:=jc hck hbad;exact f9 rfl rfl (by rw [he];exact ⟨CoC.agg ⟨CoP.refl _,aw,trivial⟩,CoC.refl _,trivial⟩)
 have h1:=tz2 r1;(iterate 4 refine qy ?_ (hg:=(gff r1)));refine w_2 ?_;refine aa rfl rfl (fun r2=>?_) (fun r2=>?_)
 ·
  have h2:=tz1 (ab r1 r2);(iterate 5 refine k9 (gtf r2) ?_);refine w_2 ?_;(iterate 6 refine k9 rfl ?_);refine w_2 ?_;(iterate 9 refine k9 rfl ?_);refine w_9 ?_;refine hrr ?_
  have hbad:fh l p m false i a b:=by
   first
    | exact bdS
    | (refine (la (a:=a) (b:=b) ?_).elim (fun hq=>?_) (fun hq=>?_) <;> first | assumption | exact bdS)
    | (refine (l8 (a:=a) (b:=b) (k:=(l.length:Int)) ?_).elim (fun hq=>?_) (fun hq=>?_) <;> first | assumption | exact bdS)
  have he:=jc hck hbad;exact f9 rfl rfl (by rw [he];exact ⟨CoC.agg ⟨CoP.refl _,aw,trivial⟩,CoC.refl _,trivial⟩)
 have h2:=tz2 (ab r1 r2);(iterate 5 refine qy ?_ (hg:=(gff r2)));refine w_2 ?_;refine aa rfl rfl (fun r3=>?_) (fun r3=>?_)
 ·
  have h3:=tz1 (ab r2 r3);(iterate 6 refine k9 (gtf r3) ?_);refine w_2 ?_;(iterate 9 refine k9 rfl ?_);refine w_9 ?_;refine hrr ?_
  have hbad:fh l p m false i a b:=by
   first
    | exact bdS
    | (refine (la (a:=a) (b:=b) ?_).elim (fun hq=>?_) (fun hq=>?_) <;> first | assumption | exact bdS)
    | (refine (l8 (a:=a) (b:=b) (k:=(l.length:Int)) ?_).elim (fun hq=>?_) (fun hq=>?_) <;> first | assumption | exact bdS)
  have he:=jc hck hbad;exact f9 rfl rfl (by rw [he];exact ⟨CoC.agg ⟨CoP.refl _,aw,trivial⟩,CoC.refl _,trivial⟩)
 have h3:=tz2 (ab r2 r3);(iterate 6 refine qy ?_ (hg:=(gff r3)));refine w_2 ?_;refine aa rfl rfl (fun r4=>?_) (fun r4=>?_)
 ·
  have h4:=tz1 (ab r3 r4);(iterate 9 refine k9 (gtf r4) ?_);refine w_9 ?_;refine hrr ?_
  have hbad:fh l p m false i a b:=by
   first
    | exact bdS
    | (refine (la (a:=a) (b:=b) ?_).elim (fun hq=>?_) (fun hq=>?_) <;> first | assumption | exact bdS)
    | (refine (l8 (a:=a) (b:=b) (k:=(l.length:Int)) ?_).elim (fun hq=>?_) (fun hq=>?_) <;> first | assumption | exact bdS)
  have he:=jc hck hbad;exact f9 rfl rfl (by rw [he];exact ⟨CoC.agg ⟨CoP.refl _,aw,trivial⟩,CoC.refl _,trivial⟩)
 have h4:=tz2 (ab r3 r4);(iterate 9 refine qy ?_ (hg:=(gff r4)));refine w_2 ?_;refine ag _ rfl (fun r5=>?_) (fun r5=>?_)
 ·
  have h5:=tz1 (ab r4 r5);refine w_6 ?_;refine hrr ?_
  have hbad:fh l p m false i a b:=by
   first
    | exact bdS
    | (refine (la (a:=a) (b:=b) ?_).elim (fun hq=>?_) (fun hq=>?_) <;> first | assumption | exact bdS)
    | (refine (l8 (a:=a) (b:=b) (k:=(l.length:Int)) ?_).elim (fun hq=>?_) (fun hq=>?_) <;> first | assumption | exact bdS)
  have he:=jc hck hbad;exact f9 rfl rfl (by rw [he];exact ⟨CoC.agg ⟨CoP.refl _,aw,trivial⟩,CoC.refl _,trivial⟩)
 have h5:=tz2 (ab r4 r5);refine w_2 ?_;obtain ⟨ha0,hb0⟩:=aky (a:=a) (b:=b) b8j;obtain ⟨hal,hbl⟩:=ajy (a:=a) (b:=b) (k:=(l.length:Int)) b8j
 have hnb:¬ fh l p m false i a b:=by
  unfold fh;rintro (h | h | h | h | h | h | ⟨h,h2⟩ | ⟨h,h2⟩) <;> first | omega | cases h
 have ha:a.toNat < l.length:=by omega
 have hb:b.toNat < l.length:=by omega
 have hi:i.toNat < p.length:=by omega
 refine w_5 ?_;refine rc rfl rfl rfl rfl rfl rfl ae4 (ag6 n l p m i.toNat a.toNat b.toNat hT ha hb hi (b5u.1 hpa _ (du hi))) (⟨CoC.refl _,CoC.refl _,CoC.refl _,CoC.agg ⟨CoP.refl _,CoP.of_eq (by rw [b7q b8i]),CoP.of_eq (by rw [b7q b8i]),CoP.of_eq (by rw [b7q b8i]),trivial⟩,trivial⟩) rfl rfl ?_;refine w_5 ?_;refine hrr ?_;have he:=a4t (n:=n) (i:=i) (a:=a) (b:=b) hck hnb;exact f9 rfl rfl (by rw [he];exact CoL.refl _)
end
section
open Go.Proofs
abbrev Rcp.fs (d:Rcp) (k:Nat):List Fd:=d.f.map (Dp.fd (d.num k))
abbrev Rcp.ms (d:Rcp) (k:Nat):List Fd:=d.m.map (Dp.fd (d.num k))
abbrev Rcp.ps (d:Rcp) (k:Nat):List AS:=d.p.map (u8S (d.num k))
abbrev Rcp.t0 (d:Rcp) (k:Nat):List Rw:=ai (ak (d.num k) (d.ps k))
section
variable {n:Int} {p m:List Fd} {l0 l:List Rw}
end
def ahp (n:Int) (l:List Rw) (p m:List Fd) (mu:Bool) (i a b:Int):a8 b98 48 [pT n l,pP (fdl p),pP (fdl m), .agg [.raw (.bool mu), .raw (.int .i64 i), .raw (.int .i64 a), .raw (.int .i64 b)]] (ae [pT (da n l p m mu i a b).1 (da n l p m mu i a b).2.1,pI (da n l p m mu i a b).2.2]):=by
 cases mu with
 | false=>exact aok n l p m i a b
 | true=>exact ao0 n l p m i a b
def aln {n:Int} {l:List Rw} {p m:List Fd} {s:St} (hT:tok n l = true) (hb:bw n p m = 0) (h:sv l p m s):da n l p m s.1 s.2.1 s.2.2.1 s.2.2.2 = ci n l p m s:=by
 obtain ⟨mu,i,a,b⟩:=s;have hck:ckE n l p m = 0:=(if_pos hT).trans hb;obtain ⟨ha,hbb,h⟩:=h;have ha:a < l.length:=ha;have hbb:b < l.length:=hbb
 have hne:¬ a = b:=by
  rintro rfl
  rcases h with ⟨_,_,h⟩ | ⟨_,_,h⟩
  · rw [show dm l (p.getD i default) a a = false from za] at h;cases h
  rw [show dt l (m.getD i default) a a = false from zi ha] at h;cases h
 show da n l p m mu (i:Int) (a:Int) (b:Int) = _;rw [a4t hck]
 · rfl
 unfold fh
 rcases h with ⟨h1,h2,_⟩ | ⟨h1,h2,_⟩
 · have h1:mu = false:=h1
   subst h1;have h2:i < p.length:=h2;rintro (h | h | h | h | h | h | ⟨h,h3⟩ | ⟨h,h3⟩) <;> first | omega | cases h
 have h1:mu = true:=h1;subst h1;have h2:i < m.length:=h2;rintro (h | h | h | h | h | h | ⟨h,h3⟩ | ⟨h,h3⟩) <;> first | omega | cases h
def am8 (n:Int) (l:List Rw) (p m:List Fd) (s:St) (hT:tok n l = true) (hb:bw n p m = 0) (h:sv l p m s) (he:ci n l p m s = (n,(ci n l p m s).2.1,0)):a8 b98 48 [pT n l,pP (fdl p),pP (fdl m),s.pc] (ae [pT n (ci n l p m s).2.1,pI 0]):=by
 have:=ahp n l p m s.1 s.2.1 s.2.2.1 s.2.2.2;rw [aln hT hb h,he] at this;exact this
end
end Go.Hx
