/- A part of the proof: Jrw2 Jw1. -/
import Derived.Test.YteklilhbjjofbaaGreatDoorLd32
set_option linter.all false
set_option maxRecDepth 100000
set_option maxHeartbeats 1000000
namespace Go.Hx
section
open Go.Proofs
def b2j (t:Tbl) (d:Fd) (ht:t.ok):a8 b98 37 [t.pc,d.pc] (ae [pB (fdB t d)]):=by
 refine hpx (nt:=48) Tryz.func37 ?_;have hrl:=ht.2.1;refine sx7 ?_;refine m9 0 ?_;refine m9 1 ?_;refine w_8 ?_;refine af (ι:=Nat) (ka 2 (ka 3 kn)) (kb 0 (kb 1 km)) (fun i=>⟨[(5,some (vI i))],[]⟩) (fun i=>i <= t.rows.length /\ (∀ j,j < i -> ((List.range j).all fun k=>x3 t d j k) = true)) (fun i=>t.rows.length - i) (0) (⟨b5h _,ar⟩) kk ?_;rintro i ⟨hi,hIi⟩;refine w_9 ?_;refine hcd (fun h0=>?_) (fun h0=>?_)
 ·
  refine w_8 ?_;refine af (ι:=Nat) (ka 2 (ka 3 (ka 5 kn))) (kb 0 (kb 1 km)) (fun k=>⟨[(6,some (vI k))],[]⟩) (fun k=>k <= i /\ (∀ j,j < k -> x3 t d i j = true)) (fun k=>i - k) (0) (⟨b5h _,ar⟩) kk ?_;rintro k ⟨hk,hIk⟩;refine w_7 ?_;refine hcd (fun h1=>?_) (fun h1=>?_)
  ·
   refine v7 ?_;refine qcx a0c (a5i (t.rows.getD i default) (t.rows.getD k default) d.lhs (ht.2.2 i b8i) (ht.2.2 k b8i)) ?_;refine qy ?_;refine aa rfl rfl (fun r2=>?_) (fun r2=>?_)
   ·
    have h2:=r2;(iterate 12 refine qy ?_ (hg:=(gtt r2)));refine qcx a0c (a5i (t.rows.getD i default) (t.rows.getD k default) d.rhs (ht.2.2 i b8i) (ht.2.2 k b8i)) ?_ (hg:=(gtt r2));refine qy ?_ (hg:=(gtt r2))
    refine w_3 ?_;refine ag _ rfl (fun r3=>?_) (fun r3=>?_)
    · have h3:=d6 (bd r2 r3);refine v_4 ?_;exact ⟨ccb (gk (p:=fun i=>(List.range i).all fun k=>x3 t d i k) (i:=i) b8i (gk (p:=fun k=>x3 t d i k) (i:=k) b8i (by unfold x3;simp_all))).symm,trivial⟩
    have h3:=d5 (bd r2 r3);refine w_6 ?_;refine lpz (k + 1) kk ?_;exact ⟨by show k + 1 <= _;omega,aj hIk (by unfold x3;simp_all)⟩
   have h2:=r2;(iterate 14 refine k9 (gft r2) ?_);refine df ?_;refine lpz (k + 1) kk ?_
   exact ⟨by show k + 1 <= _;omega,aj hIk (by unfold x3;simp_all)⟩
  have hki:k = i:=by omega
  refine w_6 ?_;refine lpz (i + 1) kk ?_;exact ⟨by show i + 1 <= _;omega,aj hIi (jh fun q hq=>hIk q b8i)⟩
 obtain rfl:i = t.rows.length:=by omega
 refine v_5 ?_;exact ⟨ccb (jh (p:=fun i=>(List.range i).all fun k=>x3 t d i k) hIi).symm,trivial⟩
def azl (t:Tbl) (a b:Row) (s:AS) (ht:t.ok) (ha:a.ok) (hb:b.ok):a8 b98 108 [t.pc,a.pc,b.pc,pA s] (ae [pB (ajl t a b s)]):=by
 refine hpx (nt:=40) Tryz.func108 ?_;have hrl:=ht.2.1;refine sx7 ?_;refine m9 0 ?_;refine m9 1 ?_;refine m9 2 ?_;refine w_8 ?_;refine af (ι:=Nat) (ka 3 (ka 4 (ka 5 (ka 6 kn)))) (kb 0 (kb 1 (kb 2 km))) (fun i=>⟨[(9,some (vI i))],[]⟩) (fun i=>i <= t.rows.length /\ (∀ j,j < i -> (o3 (t.rows.getD j default) a s && o3 (t.rows.getD j default) b (b6 t.attrs.length &&& ~~~s)) = false)) (fun i=>t.rows.length - i) (0) (⟨b5h _,ar⟩) kk ?_;rintro i ⟨hi,hIi⟩;refine w_9 ?_;refine hcd (fun h0=>?_) (fun h0=>?_)
 ·
  refine o4 ?_;refine qcx a0c (a5i (t.rows.getD i default) a s (ht.2.2 i b8i) ha) ?_;refine qy ?_;refine aa rfl rfl (fun r1=>?_) (fun r1=>?_)
  ·
   have h1:=r1;(iterate 9 refine qy ?_ (hg:=(gtt r1)));refine qcx sa (sj (t.attrs.length:Int)) ?_ (hg:=(gtt r1));(iterate 2 refine qy ?_ (hg:=(gtt r1)))
   refine rc rfl rfl rfl rfl rfl rfl a0c (a5i (t.rows.getD i default) b (b6 t.attrs.length &&& ~~~s) (ht.2.2 i b8i) hb) (⟨CoC.refl _,CoC.refl _,cci (by first | exact awk _ _ | rfl),trivial⟩) rfl (gtt r1) ?_;refine w_3 ?_;refine ag _ rfl (fun r2=>?_) (fun r2=>?_)
   · have h2:=bd r1 r2;refine v_4 ?_;exact ⟨ccb (a5w (p:=fun x:Row=>o3 x a s && o3 x b (b6 t.attrs.length &&& ~~~s)) (i:=i) b8i b8p).symm,trivial⟩
   have h2:=bd r1 r2;refine w_6 ?_;refine lpz (i + 1) kk ?_;exact ⟨by show i + 1 <= _;omega,aj hIi b8p⟩
  have h1:=r1;(iterate 13 refine k9 (gft r1) ?_);refine df ?_;refine lpz (i + 1) kk ?_
  exact ⟨by show i + 1 <= _;omega,aj hIi b8p⟩
 obtain rfl:i = t.rows.length:=by omega
 refine v_5 ?_;exact ⟨ccb (a5k (p:=fun x:Row=>o3 x a s && o3 x b (b6 t.attrs.length &&& ~~~s)) hIi).symm,trivial⟩
def ass (t:Tbl) (d:Fd) (ht:TOk t) (hd:sub (d.lhs ||| d.rhs) (b6 t.attrs.length)):a8 b98 68 [t.pc,d.pc] (ae [pB (mvB t d),pI 0]):=by
 refine hpx (nt:=75) Tryz.func68 ?_;have hok:=ht.ok;have hrl:=hok.2.1;have htz:=mh.2 ht;refine sx7 ?_;refine m9 0 ?_;refine m9 1 ?_;refine w_7 ?_;refine qcx (wgx Tryz.func70) (c82 t) ?_;refine w_7 ?_;refine hcn (fun h0=>?_) (fun h0=>?_)
 · exfalso;omega
 refine v7 ?_;refine rc rfl rfl rfl rfl rfl rfl aek (a7d (t.attrs.length:Int) (d.lhs ||| d.rhs)) (⟨CoC.refl _,cci (bOr _ _),trivial⟩) rfl rfl ?_;refine w_2 ?_;refine hcv (fun h1=>?_) (fun h1=>?_)
 · exfalso;simp_all
 refine nk ?_;refine af (ι:=Nat) (ka 2 (ka 3 (ka 8 kn))) (kb 0 (kb 1 km)) (fun i=>⟨[(9,some (vI i))],[]⟩) (fun i=>i <= t.rows.length /\ (∀ j,j < i -> ((List.range t.rows.length).all fun k=>wj t d j k) = true)) (fun i=>t.rows.length - i) (0) (⟨b5h _,ar⟩) kk ?_;rintro i ⟨hi,hIi⟩;refine w_9 ?_;refine hcd (fun h2=>?_) (fun h2=>?_)
 ·
  refine w_8 ?_;refine af (ι:=Nat) (ka 2 (ka 3 (ka 8 (ka 9 kn)))) (kb 0 (kb 1 km)) (fun k=>⟨[(10,some (vI k))],[]⟩) (fun k=>k <= t.rows.length /\ (∀ j,j < k -> wj t d i j = true)) (fun k=>t.rows.length - k) (0) (⟨b5h _,ar⟩) kk ?_;rintro k ⟨hk,hIk⟩;refine w_9 ?_;refine hcd (fun h3=>?_) (fun h3=>?_)
  ·
   refine v7 ?_;refine qcx a0c (a5i (t.rows.getD i default) (t.rows.getD k default) d.lhs (hok.2.2 i b8i) (hok.2.2 k b8i)) ?_;refine qy ?_;refine aa rfl rfl (fun r4=>?_) (fun r4=>?_)
   ·
    have h4:=r4;(iterate 12 refine qy ?_ (hg:=(gtt r4)));refine rc rfl rfl rfl rfl rfl rfl (wgx Tryz.func108) (azl t (t.rows.getD i default) (t.rows.getD k default) (d.lhs ||| d.rhs) hok (hok.2.2 i b8i) (hok.2.2 k b8i)) (⟨CoC.refl _,CoC.refl _,CoC.refl _,cci (bOr _ _),trivial⟩) rfl (gtt r4) ?_;refine qy ?_ (hg:=(gtt r4));refine w_3 ?_;refine ag _ rfl (fun r5=>?_) (fun r5=>?_)
    · have h5:=d6 (bd r4 r5);refine v_5 ?_;exact ⟨ccb (gk (p:=fun i=>(List.range t.rows.length).all fun k=>wj t d i k) (i:=i) b8i (gk (p:=fun k=>wj t d i k) (i:=k) b8i (by unfold wj;simp_all))).symm,CoC.refl _,trivial⟩
    have h5:=d5 (bd r4 r5);refine w_6 ?_;refine lpz (k + 1) kk ?_;exact ⟨by show k + 1 <= _;omega,aj hIk (by unfold wj;simp_all)⟩
   have h4:=r4;(iterate 14 refine k9 (gft r4) ?_);refine df ?_;refine lpz (k + 1) kk ?_
   exact ⟨by show k + 1 <= _;omega,aj hIk (by unfold wj;simp_all)⟩
  obtain rfl:k = t.rows.length:=by omega
  refine w_6 ?_;refine lpz (i + 1) kk ?_;exact ⟨by show i + 1 <= _;omega,aj hIi (jh hIk)⟩
 obtain rfl:i = t.rows.length:=by omega
 refine v_6 ?_;exact ⟨ccb (jh (p:=fun i=>(List.range t.rows.length).all fun k=>wj t d i k) hIi).symm,CoC.refl _,trivial⟩
def apm (t:Tbl) (fs ms:List Fd) (ht:TOk t) (hm:∀ j,j < ms.length -> sub ((ms.getD j default).lhs ||| (ms.getD j default).rhs) (b6 t.attrs.length)):a8 b98 31 [t.pc,pP (fdl fs),pP (fdl ms)] (ae [pB (fs.all (fdB t) && ms.all (mvB t))]):=by
 refine hpx (nt:=43) Tryz.func31 ?_;refine sx7 ?_;refine m9 0 ?_;refine w_4 ?_;refine bv 1 rfl fun hfl=>?_;refine w_6 ?_;refine af (ι:=Nat) (ka 2 (ka 3 (ka 13 (ka 14 kn)))) (kb 0 km) (fun i=>⟨[(15,some (vI i))],[]⟩) (fun i=>i <= fs.length /\ (∀ j,j < i -> fdB t (fs.getD j default) = true)) (fun i=>fs.length - i) (0) (⟨b5h _,ar⟩) kk ?_;rintro i ⟨hi,hIi⟩;refine w_5 ?_;refine hcd (fun h0=>?_) (fun h0=>?_)
 ·
  refine w_7 ?_;refine m9 1 ?_;refine w_6 ?_;refine qcx (wgx Tryz.func37) (b2j t (fs.getD i default) ht.ok) ?_;refine w_2 ?_;refine hcv (fun h1=>?_) (fun h1=>?_)
  · refine v_4 ?_;exact ⟨ccb (by rw [s4 (p:=fdB t) (i:=i) b8i b8p];rfl),trivial⟩
  refine w_5 ?_;refine lpz (i + 1) kk ?_;exact ⟨by show i + 1 <= _;omega,aj hIi b8p⟩
 obtain rfl:i = fs.length:=by omega
 have hF:=w5 (p:=fdB t) hIi;refine w_3 ?_;refine bv 2 rfl fun hml=>?_;refine w_6 ?_;refine af (ι:=Nat) (ka 3 (ka 24 (ka 25 kn))) (kb 0 km) (fun i=>⟨[(26,some (vI i))],[]⟩) (fun i=>i <= ms.length /\ (∀ j,j < i -> mvB t (ms.getD j default) = true)) (fun i=>ms.length - i) (0) (⟨b5h _,ar⟩) kk ?_;rintro i ⟨hi,hIi⟩;refine w_5 ?_;refine hcd (fun h2=>?_) (fun h2=>?_)
 ·
  refine w_7 ?_;refine m9 2 ?_;refine w_6 ?_;refine qcx (wgx Tryz.func68) (ass t (ms.getD i default) ht (hm i b8i)) ?_;refine ej ?_;refine aa rfl rfl (fun r3=>?_) (fun r3=>?_)
  ·
   have h3:=tz2 (d6 r3);(iterate 2 refine k9 (gtf r3) ?_);refine w_7 ?_
   exact hx8 rfl rfl rfl (⟨ccb (by rw [hF,s4 (p:=mvB t) (i:=i) b8i b8p];rfl),trivial⟩)
  have h3:=tz1 (d5 r3);(iterate 2 refine qy ?_ (hg:=(gff r3)));refine w_2 ?_;refine ag _ rfl (fun r4=>?_) (fun r4=>?_)
  · have h4:=d6 (ab r3 r4);refine v_4 ?_;exact ⟨ccb (by rw [hF,s4 (p:=mvB t) (i:=i) b8i b8p];rfl),trivial⟩
  have h4:=d5 (ab r3 r4);refine w_5 ?_;refine lpz (i + 1) kk ?_;exact ⟨by show i + 1 <= _;omega,aj hIi b8p⟩
 obtain rfl:i = ms.length:=by omega
 have hM:=w5 (p:=mvB t) hIi;refine v_5 ?_;exact ⟨ccb (by rw [hF,hM];rfl),trivial⟩
end
section
open Go.Proofs
def ah7 (l:List Int) (n:Int) (hl:l.length <= 1000000):cq b98 155 [.one (.ref 1000 l.length), .one (.p (.raw (.int .i64 n)))] [(1000, .arr true 1 5 l.length (lf byC l))] (.v (.one (.ref 1000 (l ++ su n).length))) [(1000, .arr true 1 5 (l ++ su n).length (lf byC (l ++ su n)))] [1000]:=by
 refine hfx (nt:=22) Tryz.func155 ?_;refine w_7 ?_;refine rqw rfl rfl rfl rfl rfl ?_;refine w_9 ?_;refine cj (ka 5 kn) km (fun i=>⟨[(0,some (.v (.one (.ref 1000 (l ++ qu n i).length)))),(6,some (vI (56 - 8 * (i:Int))))],[(1000,some (.arr true 1 5 (l ++ qu n i).length (lf byC (l ++ qu n i))))]⟩) 8 ⟨⟨⟨_,rfl,(a4x (by simp [qu]))⟩,⟨_,rfl,(coi (by first | rfl | omega))⟩,trivial⟩,⟨⟨_,rfl,(ik (by simp [qu]))⟩,trivial⟩⟩ ?_;rintro i hi;have hlen:(l ++ qu n i).length = l.length + i:=by simp [qu]
 refine w_6 ?_;refine hcd (fun h0=>?_) (fun h0=>?_)
 · refine w_8 ?_;refine rqw rfl rfl rfl rfl rfl ?_;refine m9 0 ?_;refine r9 1 true ?_;refine w_7 ?_;exact lpx (i + 1) ⟨⟨⟨_,rfl,(j0 ada)⟩,⟨_,rfl,(coi (by first | omega | (dsimp only;omega)))⟩,tt⟩,⟨⟨_,rfl,(kz ada (CoP.of_eq (by dsimp only;rw [show ((56:Int) - 8 * (i:Int)).toNat = 56 - 8 * i by omega];rfl)))⟩,trivial⟩⟩
 obtain rfl:i = 8:=by omega
 refine w_6 ?_;refine hrr ?_;exact ⟨_,_,rfl,(by (repeat' apply And.intro) <;> first | trivial | exact b5d rfl),j5 (by rw [adc]),⟨⟨_,rfl,ik (by rw [adc])⟩,trivial⟩⟩
def b91 {p:Prop} (h:p:=by first | exact .inl b8j | exact .inr b8j):p:=h
def b97 {p:Prop} (h:p:=by first | exact j5 (by rw [(oc b91)]) | exact j5 (by rw [og b8j,b5x];rfl) | exact j5 (by rw [(ow b8j b8j b8j)];rfl)):p:=h
def b1m (v:Val):a8 b98 106 [v.pc] (ae [pS (ze v),pI (aqd v)]):=by
 refine hpx (nt:=51) Tryz.func106 ?_;refine sx7 ?_;refine m9 0 ?_;refine w_7 ?_;refine qcx (wgx Tryz.func141) (c76 v) ?_;refine w_2 ?_;refine hcv (fun h0=>?_) (fun h0=>?_)
 · refine v_5 ?_;exact ⟨CoC.one (by rw [au7 b8j];exact CoP.refl _),cci (arl b8j).symm,trivial⟩
 have hs:=zb h0;refine w_5 ?_;refine rqw rfl rfl rfl rfl rfl ?_;refine m9 1 ?_;refine w_2 ?_;refine aas kn (kb 0 km) ⟨[(4,some (.v (.one (.ref 1 (jz v).length))))],[(1,some (.arr true 1 5 (jz v).length (lf byC (jz v))))]⟩ ?_ ?_
 ·
  refine o4 ?_;refine ag _ rfl (fun r1=>?_) (fun r1=>?_)
  · have h1:=tz1 r1;refine cz ?_;refine ag _ rfl (fun _=>?_) (fun e=>Bool.noConfusion (r1.symm.trans e));refine w_4 ?_;refine fc9 (wgx Tryz.func155) ((ah7 [kB v] v.num l9).swap 1000 1) ⟨⟨_,rfl,o5 (CoP.refl _)⟩,trivial⟩ ?_;refine w_2 ?_;exact ⟨⟨⟨_,rfl,b97⟩,trivial⟩,⟨⟨_,rfl,(by first | exact ik (oc b91) | exact zg (og b8j) (CoP.refl _) (CoP.refl _) | (rw [(ow b8j b8j b8j)];exact o5 (CoP.refl _)))⟩,uu⟩⟩
  have h1:=tz2 r1;refine w_4 ?_;refine hcd (fun h2=>?_) (fun h2=>?_)
  · refine w_4 ?_;refine fc9 (wgx Tryz.func155) ((ah7 [kB v] v.num l9).swap 1000 1) ⟨⟨_,rfl,o5 (CoP.refl _)⟩,trivial⟩ ?_;refine w_2 ?_;exact ⟨⟨⟨_,rfl,b97⟩,trivial⟩,⟨⟨_,rfl,(by first | exact ik (oc b91) | exact zg (og b8j) (CoP.refl _) (CoP.refl _) | (rw [(ow b8j b8j b8j)];exact o5 (CoP.refl _)))⟩,uu⟩⟩
  refine w_5 ?_;refine hcd (fun h3=>?_) (fun h3=>?_)
  ·
   refine w_9 ?_;refine cj (ka 1 (ka 26 kn)) (kb 0 km) (fun i=>⟨[(4,some (.v (.one (.ref 1 (re v i).length)))),(27,some (vI i))],[(1,some (.arr true 1 5 (re v i).length (lf byC (re v i))))]⟩) v.str.size ⟨⟨⟨_,rfl,(CoR.refl _)⟩,tt⟩,⟨⟨_,rfl,(o5 (CoP.refl _))⟩,trivial⟩⟩ ?_;rintro i hi;have hlen:=aru (v:=v) (i:=i);refine w_5 ?_;refine hcd (fun h4=>?_) (fun h4=>?_)
   ·
    refine pl ?_;refine m9 2 ?_;refine r9 3 true ?_;refine df ?_;refine hcd (fun h5=>?_) (fun h5=>?_)
    ·
     refine w_2 ?_;refine m9 4 ?_;refine r9 5 true ?_;refine w_6 ?_
     first | (refine lpz (i + 1) ⟨⟨⟨_, rfl, (by rw [aar b8i b8j]; simp only [b5x]; exact CoR.refl _)⟩, tt⟩, ⟨⟨_, rfl, (by rw [aar b8i b8j]; exact a95 rfl (CoP.refl _) (CoP.refl _))⟩, uu⟩⟩ ?_; show i + 1 <= _; omega)
           | (refine lpz (i + 1) ⟨⟨⟨_,rfl,(j0 (aat b8i b8j))⟩,tt⟩,⟨⟨_,rfl,(kz (aat b8i b8j) (CoP.refl _))⟩,uu⟩⟩ ?_;show i + 1 <= _;omega)
    refine w_5 ?_
    first | (refine lpz (i + 1) ⟨⟨⟨_, rfl, (by rw [aar b8i b8j]; simp only [b5x]; exact CoR.refl _)⟩, tt⟩, ⟨⟨_, rfl, (by rw [aar b8i b8j]; exact a95 rfl (CoP.refl _) (CoP.refl _))⟩, uu⟩⟩ ?_; show i + 1 <= _; omega)
          | (refine lpz (i + 1) ⟨⟨⟨_,rfl,(j0 (aat b8i b8j))⟩,tt⟩,⟨⟨_,rfl,(kz (aat b8i b8j) (CoP.refl _))⟩,uu⟩⟩ ?_;show i + 1 <= _;omega)
   obtain rfl:i = v.str.size:=by omega
   refine w_3 ?_;refine m9 6 ?_;refine r9 7 true ?_;refine w_2 ?_;exact ⟨⟨⟨_,rfl,b97⟩,trivial⟩,⟨⟨_,rfl,(by first | exact ik (oc b91) | exact zg (og b8j) (CoP.refl _) (CoP.refl _) | (rw [(ow b8j b8j b8j)];exact o5 (CoP.refl _)))⟩,uu⟩⟩
  refine cz ?_;exact ⟨⟨⟨_,rfl,b97⟩,trivial⟩,⟨⟨_,rfl,(by first | exact ik (oc b91) | exact zg (og b8j) (CoP.refl _) (CoP.refl _) | (rw [(ow b8j b8j b8j)];exact o5 (CoP.refl _)))⟩,uu⟩⟩
 refine cu ?_;refine bm 4 rfl rfl rfl ?_;refine w_2 ?_;refine rq rfl rfl rfl rfl rfl ?_ (hp:=⟨rfl,fun i hi=>⟨_,rfl⟩⟩);refine v_3 ?_;exact ⟨CoC.one (by rw [ah4 b8j,<- au9];exact CoP.refl _),cci (av6 b8j).symm,trivial⟩
def aey:goodFn b98 65:=wgx Tryz.func65
def a7i (l:List Val) (s:AS) (hl:l.length <= 16):a8 b98 65 [pP (vals l),pA s] (ae [pS (fp l s)]):=by
 refine hpx (nt:=32) Tryz.func65 ?_;refine df ?_;refine bv 0 rfl fun hn=>?_;refine w_6 ?_;refine cj (ka 1 (ka 10 (ka 11 kn))) km (fun i=>⟨[(5,some (vS (fp (l.take i) s))),(12,some (vI i))],[]⟩) l.length kk ?_;rintro i hi;have hsz:=aa2 (l:=l.take i) (s:=s);rw [b5p] at hsz;have hk:=aa5 (v:=l.getD i default);refine w_5 ?_;refine hcd (fun h0=>?_) (fun h0=>?_)
 ·
  refine w_8 ?_;refine m9 0 ?_;refine ej ?_;refine hcd (fun h1=>?_) (fun h1=>?_)
  ·
   refine w_3 ?_;refine qcx (wgx Tryz.func106) (b1m (l.getD i default)) ?_;refine nk ?_
   first | (refine lpz (i + 1) ⟨⟨⟨_, rfl, (coS (ara b8i b8i b8j).symm)⟩, tt⟩, trivial⟩ ?_; show i + 1 <= _; omega)
         | (refine lpz (i + 1) ⟨⟨⟨_,rfl,(coS (aqk b8i b8i b8j).symm)⟩,tt⟩,trivial⟩ ?_;show i + 1 <= _;omega)
  refine w_5 ?_
  first | (refine lpz (i + 1) ⟨⟨⟨_, rfl, (coS (ara b8i b8i b8j).symm)⟩, tt⟩, trivial⟩ ?_; show i + 1 <= _; omega)
        | (refine lpz (i + 1) ⟨⟨⟨_,rfl,(coS (aqk b8i b8i b8j).symm)⟩,tt⟩,trivial⟩ ?_;show i + 1 <= _;omega)
 obtain rfl:i = l.length:=by omega
 refine v_6 ?_;exact ⟨CoC.one (by rw [b67];exact CoP.refl _),trivial⟩
end
end Go.Hx
