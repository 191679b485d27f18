/- A part of the proof: Jrw2 Jw1. -/
import Derived.Test.YteklilhbjjofbaaGreatDoorLc30
set_option linter.all false
set_option maxRecDepth 100000
set_option maxHeartbeats 1000000
namespace Go.Hx
section
open Go.Proofs
def auz (t:Tbl) (d:Fd) (ht:t.ok):a8 b6g 37 [t.pc,d.pc] (ab [pB (fdB t d)]):=by
 refine hpx (nt:=48) Tryz.func37 ?_;have hrl:=ht.2.1;refine sx7 ?_;refine m9 0 ?_;refine m9 1 ?_;refine w_8 ?_;refine ah (ι:=Nat) (ka 2 (ka 3 kn)) (kb 0 (kb 1 km)) (fun i=>⟨[(5,some (vI i))],[]⟩) (fun i=>i <= t.rows.length /\ (∀ j,j < i -> ((List.range j).all fun k=>ve t d j k) = true)) (fun i=>t.rows.length - i) (0) (⟨b2w _,b7⟩) kk ?_;rintro i ⟨hi,hIi⟩;refine w_9 ?_;refine hcd (fun h0=>?_) (fun h0=>?_)
 ·
  refine w_8 ?_;refine ah (ι:=Nat) (ka 2 (ka 3 (ka 5 kn))) (kb 0 (kb 1 km)) (fun k=>⟨[(6,some (vI k))],[]⟩) (fun k=>k <= i /\ (∀ j,j < k -> ve t d i j = true)) (fun k=>i - k) (0) (⟨b2w _,b7⟩) kk ?_;rintro k ⟨hk,hIk⟩;refine w_7 ?_;refine hcd (fun h1=>?_) (fun h1=>?_)
  ·
   refine uw ?_;refine qcx zz (a3p (t.rows.getD i default) (t.rows.getD k default) d.lhs (ht.2.2 i b5s) (ht.2.2 k b5s)) ?_;refine qy ?_;refine ae rfl rfl (fun r2=>?_) (fun r2=>?_)
   ·
    have h2:=r2;(iterate 12 refine qy ?_ (hg:=(gtt r2)));refine qcx zz (a3p (t.rows.getD i default) (t.rows.getD k default) d.rhs (ht.2.2 i b5s) (ht.2.2 k b5s)) ?_ (hg:=(gtt r2));refine qy ?_ (hg:=(gtt r2))
    refine w_3 ?_;refine am _ rfl (fun r3=>?_) (fun r3=>?_)
    · have h3:=ez (bp r2 r3);refine v_4 ?_;exact ⟨ccb (fj (p:=fun i=>(List.range i).all fun k=>ve t d i k) (i:=i) b5s (fj (p:=fun k=>ve t d i k) (i:=k) b5s (by unfold ve;simp_all))).symm,trivial⟩
    have h3:=f0 (bp r2 r3);refine w_6 ?_;refine lpz (k + 1) kk ?_;exact ⟨by show k + 1 <= _;omega,av hIk (by unfold ve;simp_all)⟩
   have h2:=r2;(iterate 14 refine k9 (gft r2) ?_);refine dq ?_;refine lpz (k + 1) kk ?_
   exact ⟨by show k + 1 <= _;omega,av hIk (by unfold ve;simp_all)⟩
  have hki:k = i:=by omega
  refine w_6 ?_;refine lpz (i + 1) kk ?_;exact ⟨by show i + 1 <= _;omega,av hIi (iu fun q hq=>hIk q b5s)⟩
 obtain rfl:i = t.rows.length:=by omega
 refine v_5 ?_;exact ⟨ccb (iu (p:=fun i=>(List.range i).all fun k=>ve t d i k) hIi).symm,trivial⟩
def aww (t:Tbl) (a b:Row) (s:AS) (ht:t.ok) (ha:a.ok) (hb:b.ok):a8 b6g 108 [t.pc,a.pc,b.pc,pA s] (ab [pB (a8f t a b s)]):=by
 refine hpx (nt:=40) Tryz.func108 ?_;have hrl:=ht.2.1;refine sx7 ?_;refine m9 0 ?_;refine m9 1 ?_;refine m9 2 ?_;refine w_8 ?_;refine ah (ι:=Nat) (ka 3 (ka 4 (ka 5 (ka 6 kn)))) (kb 0 (kb 1 (kb 2 km))) (fun i=>⟨[(9,some (vI i))],[]⟩) (fun i=>i <= t.rows.length /\ (∀ j,j < i -> (ly (t.rows.getD j default) a s && ly (t.rows.getD j default) b (ai t.attrs.length &&& ~~~s)) = false)) (fun i=>t.rows.length - i) (0) (⟨b2w _,b7⟩) kk ?_;rintro i ⟨hi,hIi⟩;refine w_9 ?_;refine hcd (fun h0=>?_) (fun h0=>?_)
 ·
  refine sv ?_;refine qcx zz (a3p (t.rows.getD i default) a s (ht.2.2 i b5s) ha) ?_;refine qy ?_;refine ae rfl rfl (fun r1=>?_) (fun r1=>?_)
  ·
   have h1:=r1;(iterate 9 refine qy ?_ (hg:=(gtt r1)));refine qcx w5 (w4 (t.attrs.length:Int)) ?_ (hg:=(gtt r1));(iterate 2 refine qy ?_ (hg:=(gtt r1)))
   refine rc rfl rfl rfl rfl rfl rfl zz (a3p (t.rows.getD i default) b (ai t.attrs.length &&& ~~~s) (ht.2.2 i b5s) hb) (⟨CoC.refl _,CoC.refl _,cci (by first | exact avb _ _ | rfl),trivial⟩) rfl (gtt r1) ?_;refine w_3 ?_;refine am _ rfl (fun r2=>?_) (fun r2=>?_)
   · have h2:=bp r1 r2;refine v_4 ?_;exact ⟨ccb (aoj (p:=fun x:Row=>ly x a s && ly x b (ai t.attrs.length &&& ~~~s)) (i:=i) b5s b62).symm,trivial⟩
   have h2:=bp r1 r2;refine w_6 ?_;refine lpz (i + 1) kk ?_;exact ⟨by show i + 1 <= _;omega,av hIi b62⟩
  have h1:=r1;(iterate 13 refine k9 (gft r1) ?_);refine dq ?_;refine lpz (i + 1) kk ?_
  exact ⟨by show i + 1 <= _;omega,av hIi b62⟩
 obtain rfl:i = t.rows.length:=by omega
 refine v_5 ?_;exact ⟨ccb (aon (p:=fun x:Row=>ly x a s && ly x b (ai t.attrs.length &&& ~~~s)) hIi).symm,trivial⟩
def aqk (t:Tbl) (d:Fd) (ht:TOk t) (hd:sub (d.lhs ||| d.rhs) (ai t.attrs.length)):a8 b6g 68 [t.pc,d.pc] (ab [pB (mvB t d),pI 0]):=by
 refine hpx (nt:=75) Tryz.func68 ?_;have hok:=ht.ok;have hrl:=hok.2.1;have htz:=la.2 ht;refine sx7 ?_;refine m9 0 ?_;refine m9 1 ?_;refine w_7 ?_;refine qcx (wgx Tryz.func70) (c82 t) ?_;refine w_7 ?_;refine hcn (fun h0=>?_) (fun h0=>?_)
 · exfalso;omega
 refine uw ?_;refine rc rfl rfl rfl rfl rfl rfl (wgx Tryz.func57) (aqj (t.attrs.length:Int) (d.lhs ||| d.rhs)) (⟨CoC.refl _,cci (bOr _ _),trivial⟩) rfl rfl ?_;refine w_2 ?_;refine hcv (fun h1=>?_) (fun h1=>?_)
 · exfalso;simp_all
 refine tk ?_;refine ah (ι:=Nat) (ka 2 (ka 3 (ka 8 kn))) (kb 0 (kb 1 km)) (fun i=>⟨[(9,some (vI i))],[]⟩) (fun i=>i <= t.rows.length /\ (∀ j,j < i -> ((List.range t.rows.length).all fun k=>v7 t d j k) = true)) (fun i=>t.rows.length - i) (0) (⟨b2w _,b7⟩) kk ?_;rintro i ⟨hi,hIi⟩;refine w_9 ?_;refine hcd (fun h2=>?_) (fun h2=>?_)
 ·
  refine w_8 ?_;refine ah (ι:=Nat) (ka 2 (ka 3 (ka 8 (ka 9 kn)))) (kb 0 (kb 1 km)) (fun k=>⟨[(10,some (vI k))],[]⟩) (fun k=>k <= t.rows.length /\ (∀ j,j < k -> v7 t d i j = true)) (fun k=>t.rows.length - k) (0) (⟨b2w _,b7⟩) kk ?_;rintro k ⟨hk,hIk⟩;refine w_9 ?_;refine hcd (fun h3=>?_) (fun h3=>?_)
  ·
   refine uw ?_;refine qcx zz (a3p (t.rows.getD i default) (t.rows.getD k default) d.lhs (hok.2.2 i b5s) (hok.2.2 k b5s)) ?_;refine qy ?_;refine ae rfl rfl (fun r4=>?_) (fun r4=>?_)
   ·
    have h4:=r4;(iterate 12 refine qy ?_ (hg:=(gtt r4)));refine rc rfl rfl rfl rfl rfl rfl (wgx Tryz.func108) (aww t (t.rows.getD i default) (t.rows.getD k default) (d.lhs ||| d.rhs) hok (hok.2.2 i b5s) (hok.2.2 k b5s)) (⟨CoC.refl _,CoC.refl _,CoC.refl _,cci (bOr _ _),trivial⟩) rfl (gtt r4) ?_;refine qy ?_ (hg:=(gtt r4));refine w_3 ?_;refine am _ rfl (fun r5=>?_) (fun r5=>?_)
    · have h5:=ez (bp r4 r5);refine v_5 ?_;exact ⟨ccb (fj (p:=fun i=>(List.range t.rows.length).all fun k=>v7 t d i k) (i:=i) b5s (fj (p:=fun k=>v7 t d i k) (i:=k) b5s (by unfold v7;simp_all))).symm,CoC.refl _,trivial⟩
    have h5:=f0 (bp r4 r5);refine w_6 ?_;refine lpz (k + 1) kk ?_;exact ⟨by show k + 1 <= _;omega,av hIk (by unfold v7;simp_all)⟩
   have h4:=r4;(iterate 14 refine k9 (gft r4) ?_);refine dq ?_;refine lpz (k + 1) kk ?_
   exact ⟨by show k + 1 <= _;omega,av hIk (by unfold v7;simp_all)⟩
  obtain rfl:k = t.rows.length:=by omega
  refine w_6 ?_;refine lpz (i + 1) kk ?_;exact ⟨by show i + 1 <= _;omega,av hIi (iu hIk)⟩
 obtain rfl:i = t.rows.length:=by omega
 refine v_6 ?_;exact ⟨ccb (iu (p:=fun i=>(List.range t.rows.length).all fun k=>v7 t d i k) hIi).symm,CoC.refl _,trivial⟩
def anq (t:Tbl) (fs ms:List Fd) (ht:TOk t) (hm:∀ j,j < ms.length -> sub ((ms.getD j default).lhs ||| (ms.getD j default).rhs) (ai t.attrs.length)):a8 b6g 31 [t.pc,pP (fdl fs),pP (fdl ms)] (ab [pB (fs.all (fdB t) && ms.all (mvB t))]):=by
 refine hpx (nt:=43) Tryz.func31 ?_;refine sx7 ?_;refine m9 0 ?_;refine w_4 ?_;refine ci 1 rfl fun hfl=>?_;refine w_6 ?_;refine ah (ι:=Nat) (ka 2 (ka 3 (ka 13 (ka 14 kn)))) (kb 0 km) (fun i=>⟨[(15,some (vI i))],[]⟩) (fun i=>i <= fs.length /\ (∀ j,j < i -> fdB t (fs.getD j default) = true)) (fun i=>fs.length - i) (0) (⟨b2w _,b7⟩) kk ?_;rintro i ⟨hi,hIi⟩;refine w_5 ?_;refine hcd (fun h0=>?_) (fun h0=>?_)
 ·
  refine w_7 ?_;refine m9 1 ?_;refine w_6 ?_;refine qcx (wgx Tryz.func37) (auz t (fs.getD i default) ht.ok) ?_;refine w_2 ?_;refine hcv (fun h1=>?_) (fun h1=>?_)
  · refine v_4 ?_;exact ⟨ccb (by rw [ue (p:=fdB t) (i:=i) b5s b62];rfl),trivial⟩
  refine w_5 ?_;refine lpz (i + 1) kk ?_;exact ⟨by show i + 1 <= _;omega,av hIi b62⟩
 obtain rfl:i = fs.length:=by omega
 have hF:=x8 (p:=fdB t) hIi;refine w_3 ?_;refine ci 2 rfl fun hml=>?_;refine w_6 ?_;refine ah (ι:=Nat) (ka 3 (ka 24 (ka 25 kn))) (kb 0 km) (fun i=>⟨[(26,some (vI i))],[]⟩) (fun i=>i <= ms.length /\ (∀ j,j < i -> mvB t (ms.getD j default) = true)) (fun i=>ms.length - i) (0) (⟨b2w _,b7⟩) kk ?_;rintro i ⟨hi,hIi⟩;refine w_5 ?_;refine hcd (fun h2=>?_) (fun h2=>?_)
 ·
  refine w_7 ?_;refine m9 2 ?_;refine w_6 ?_;refine qcx (wgx Tryz.func68) (aqk t (ms.getD i default) ht (hm i b5s)) ?_;refine fl ?_;refine ae rfl rfl (fun r3=>?_) (fun r3=>?_)
  ·
   have h3:=tz2 (ez r3);(iterate 2 refine k9 (gtf r3) ?_);refine w_7 ?_
   exact hx8 rfl rfl rfl (⟨ccb (by rw [hF,ue (p:=mvB t) (i:=i) b5s b62];rfl),trivial⟩)
  have h3:=tz1 (f0 r3);(iterate 2 refine qy ?_ (hg:=(gff r3)));refine w_2 ?_;refine am _ rfl (fun r4=>?_) (fun r4=>?_)
  · have h4:=ez (ar r3 r4);refine v_4 ?_;exact ⟨ccb (by rw [hF,ue (p:=mvB t) (i:=i) b5s b62];rfl),trivial⟩
  have h4:=f0 (ar r3 r4);refine w_5 ?_;refine lpz (i + 1) kk ?_;exact ⟨by show i + 1 <= _;omega,av hIi b62⟩
 obtain rfl:i = ms.length:=by omega
 have hM:=x8 (p:=mvB t) hIi;refine v_5 ?_;exact ⟨ccb (by rw [hF,hM];rfl),trivial⟩
end
section
open Go.Proofs
def adw (l:List Int) (n:Int) (hl:l.length <= 1000000):cw b6g 155 [.one (.ref 1000 l.length), .one (.p (.raw (.int .i64 n)))] [(1000, .arr true 1 5 l.length (lf byC l))] (.v (.one (.ref 1000 (l ++ qq n).length))) [(1000, .arr true 1 5 (l ++ qq n).length (lf byC (l ++ qq n)))] [1000]:=by
 refine hfx (nt:=22) Tryz.func155 ?_;refine w_7 ?_;refine rqw rfl rfl rfl rfl rfl ?_;refine w_9 ?_;refine cj (ka 5 kn) km (fun i=>⟨[(0,some (.v (.one (.ref 1000 (l ++ pe n i).length)))),(6,some (vI (56 - 8 * (i:Int))))],[(1000,some (.arr true 1 5 (l ++ pe n i).length (lf byC (l ++ pe n i))))]⟩) 8 ⟨⟨⟨_,rfl,(n4 (by simp [pe]))⟩,⟨_,rfl,(coi (by first | rfl | omega))⟩,trivial⟩,⟨⟨_,rfl,(fw (by simp [pe]))⟩,trivial⟩⟩ ?_;rintro i hi;have hlen:(l ++ pe n i).length = l.length + i:=by simp [pe]
 refine w_6 ?_;refine hcd (fun h0=>?_) (fun h0=>?_)
 · refine w_8 ?_;refine rqw rfl rfl rfl rfl rfl ?_;refine m9 0 ?_;refine r9 1 true ?_;refine w_7 ?_;exact lpx (i + 1) ⟨⟨⟨_,rfl,(fk a8z)⟩,⟨_,rfl,(coi (by first | omega | (dsimp only;omega)))⟩,tt⟩,⟨⟨_,rfl,(mw a8z (CoP.of_eq (by dsimp only;rw [show ((56:Int) - 8 * (i:Int)).toNat = 56 - 8 * i by omega];rfl)))⟩,trivial⟩⟩
 obtain rfl:i = 8:=by omega
 refine w_6 ?_;refine hrr ?_;exact ⟨_,_,rfl,(by (repeat' apply And.intro) <;> first | trivial | exact b2u rfl),jg (by rw [abn]),⟨⟨_,rfl,fw (by rw [abn])⟩,trivial⟩⟩
def b6b {p:Prop} (h:p:=by first | exact .inl b5t | exact .inr b5t):p:=h
def b6f {p:Prop} (h:p:=by first | exact jg (by rw [(ni b6b)]) | exact jg (by rw [nq b5t,b36];rfl) | exact jg (by rw [(nj b5t b5t b5t)];rfl)):p:=h
def aym (v:Val):a8 b6g 106 [v.pc] (ab [pS (x6 v),pI (ale v)]):=by
 refine hpx (nt:=51) Tryz.func106 ?_;refine sx7 ?_;refine m9 0 ?_;refine w_7 ?_;refine qcx (wgx Tryz.func141) (c76 v) ?_;refine w_2 ?_;refine hcv (fun h0=>?_) (fun h0=>?_)
 · refine v_5 ?_;exact ⟨CoC.one (by rw [apy b5t];exact CoP.refl _),cci (as9 b5t).symm,trivial⟩
 have hs:=xo h0;refine w_5 ?_;refine rqw rfl rfl rfl rfl rfl ?_;refine m9 1 ?_;refine w_2 ?_;refine ags kn (kb 0 km) ⟨[(4,some (.v (.one (.ref 1 (j9 v).length))))],[(1,some (.arr true 1 5 (j9 v).length (lf byC (j9 v))))]⟩ ?_ ?_
 ·
  refine sv ?_;refine am _ rfl (fun r1=>?_) (fun r1=>?_)
  · have h1:=tz1 r1;refine f4 ?_;refine am _ rfl (fun _=>?_) (fun e=>Bool.noConfusion (r1.symm.trans e));refine w_4 ?_;refine fc9 (wgx Tryz.func155) ((adw [kB v] v.num l9).swap 1000 1) ⟨⟨_,rfl,n3 (CoP.refl _)⟩,trivial⟩ ?_;refine w_2 ?_;exact ⟨⟨⟨_,rfl,b6f⟩,trivial⟩,⟨⟨_,rfl,(by first | exact fw (ni b6b) | exact ws (nq b5t) (CoP.refl _) (CoP.refl _) | (rw [(nj b5t b5t b5t)];exact n3 (CoP.refl _)))⟩,uu⟩⟩
  have h1:=tz2 r1;refine w_4 ?_;refine hcd (fun h2=>?_) (fun h2=>?_)
  · refine w_4 ?_;refine fc9 (wgx Tryz.func155) ((adw [kB v] v.num l9).swap 1000 1) ⟨⟨_,rfl,n3 (CoP.refl _)⟩,trivial⟩ ?_;refine w_2 ?_;exact ⟨⟨⟨_,rfl,b6f⟩,trivial⟩,⟨⟨_,rfl,(by first | exact fw (ni b6b) | exact ws (nq b5t) (CoP.refl _) (CoP.refl _) | (rw [(nj b5t b5t b5t)];exact n3 (CoP.refl _)))⟩,uu⟩⟩
  refine w_5 ?_;refine hcd (fun h3=>?_) (fun h3=>?_)
  ·
   refine w_9 ?_;refine cj (ka 1 (ka 26 kn)) (kb 0 km) (fun i=>⟨[(4,some (.v (.one (.ref 1 (p9 v i).length)))),(27,some (vI i))],[(1,some (.arr true 1 5 (p9 v i).length (lf byC (p9 v i))))]⟩) v.str.size ⟨⟨⟨_,rfl,(CoR.refl _)⟩,tt⟩,⟨⟨_,rfl,(n3 (CoP.refl _))⟩,trivial⟩⟩ ?_;rintro i hi;have hlen:=aq7 (v:=v) (i:=i);refine w_5 ?_;refine hcd (fun h4=>?_) (fun h4=>?_)
   ·
    refine qk ?_;refine m9 2 ?_;refine r9 3 true ?_;refine dq ?_;refine hcd (fun h5=>?_) (fun h5=>?_)
    ·
     refine w_2 ?_;refine m9 4 ?_;refine r9 5 true ?_;refine w_6 ?_
     first | (refine lpz (i + 1) ⟨⟨⟨_, rfl, (by rw [a8q b5s b5t]; simp only [b36]; exact CoR.refl _)⟩, tt⟩, ⟨⟨_, rfl, (by rw [a8q b5s b5t]; exact a82 rfl (CoP.refl _) (CoP.refl _))⟩, uu⟩⟩ ?_; show i + 1 <= _; omega)
           | (refine lpz (i + 1) ⟨⟨⟨_,rfl,(fk (a8s b5s b5t))⟩,tt⟩,⟨⟨_,rfl,(mw (a8s b5s b5t) (CoP.refl _))⟩,uu⟩⟩ ?_;show i + 1 <= _;omega)
    refine w_5 ?_
    first | (refine lpz (i + 1) ⟨⟨⟨_, rfl, (by rw [a8q b5s b5t]; simp only [b36]; exact CoR.refl _)⟩, tt⟩, ⟨⟨_, rfl, (by rw [a8q b5s b5t]; exact a82 rfl (CoP.refl _) (CoP.refl _))⟩, uu⟩⟩ ?_; show i + 1 <= _; omega)
          | (refine lpz (i + 1) ⟨⟨⟨_,rfl,(fk (a8s b5s b5t))⟩,tt⟩,⟨⟨_,rfl,(mw (a8s b5s b5t) (CoP.refl _))⟩,uu⟩⟩ ?_;show i + 1 <= _;omega)
   obtain rfl:i = v.str.size:=by omega
   refine w_3 ?_;refine m9 6 ?_;refine r9 7 true ?_;refine w_2 ?_;exact ⟨⟨⟨_,rfl,b6f⟩,trivial⟩,⟨⟨_,rfl,(by first | exact fw (ni b6b) | exact ws (nq b5t) (CoP.refl _) (CoP.refl _) | (rw [(nj b5t b5t b5t)];exact n3 (CoP.refl _)))⟩,uu⟩⟩
  refine f4 ?_;exact ⟨⟨⟨_,rfl,b6f⟩,trivial⟩,⟨⟨_,rfl,(by first | exact fw (ni b6b) | exact ws (nq b5t) (CoP.refl _) (CoP.refl _) | (rw [(nj b5t b5t b5t)];exact n3 (CoP.refl _)))⟩,uu⟩⟩
 refine dc ?_;refine c3 4 rfl rfl rfl ?_;refine w_2 ?_;refine rq rfl rfl rfl rfl rfl ?_ (hp:=⟨rfl,fun i hi=>⟨_,rfl⟩⟩);refine v_3 ?_;exact ⟨CoC.one (by rw [aeb b5t,<- aso];exact CoP.refl _),cci (ari b5t).symm,trivial⟩
def ace:goodFn b6g 65:=wgx Tryz.func65
def a5f (l:List Val) (s:AS) (hl:l.length <= 16):a8 b6g 65 [pP (vals l),pA s] (ab [pS (er l s)]):=by
 refine hpx (nt:=32) Tryz.func65 ?_;refine dq ?_;refine ci 0 rfl fun hn=>?_;refine w_6 ?_;refine cj (ka 1 (ka 10 (ka 11 kn))) km (fun i=>⟨[(5,some (vS (er (l.take i) s))),(12,some (vI i))],[]⟩) l.length kk ?_;rintro i hi;have hsz:=a7t (l:=l.take i) (s:=s);rw [b33] at hsz;have hk:=a78 (v:=l.getD i default);refine w_5 ?_;refine hcd (fun h0=>?_) (fun h0=>?_)
 ·
  refine w_8 ?_;refine m9 0 ?_;refine fl ?_;refine hcd (fun h1=>?_) (fun h1=>?_)
  ·
   refine w_3 ?_;refine qcx (wgx Tryz.func106) (aym (l.getD i default)) ?_;refine tk ?_
   first | (refine lpz (i + 1) ⟨⟨⟨_, rfl, (coS (aol b5s b5s b5t).symm)⟩, tt⟩, trivial⟩ ?_; show i + 1 <= _; omega)
         | (refine lpz (i + 1) ⟨⟨⟨_,rfl,(coS (aoq b5s b5s b5t).symm)⟩,tt⟩,trivial⟩ ?_;show i + 1 <= _;omega)
  refine w_5 ?_
  first | (refine lpz (i + 1) ⟨⟨⟨_, rfl, (coS (aol b5s b5s b5t).symm)⟩, tt⟩, trivial⟩ ?_; show i + 1 <= _; omega)
        | (refine lpz (i + 1) ⟨⟨⟨_,rfl,(coS (aoq b5s b5s b5t).symm)⟩,tt⟩,trivial⟩ ?_;show i + 1 <= _;omega)
 obtain rfl:i = l.length:=by omega
 refine v_6 ?_;exact ⟨CoC.one (by rw [b3k];exact CoP.refl _),trivial⟩
end
end Go.Hx
