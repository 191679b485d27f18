/- A part of the proof: Kw10 Kb10 V39 Kw11 Kd1 Kl3 Y13 W5a. -/
import Derived.Test.YtnlcekpflogjkaaGreatDoorTz42
set_option linter.all false
set_option maxRecDepth 100000
namespace Go.Hx
section
open Go.Proofs
def bdr(t:Tbl)(hT:TOk t)(h10:t.attrs.length<=10)(h200:t.rows.length<=200)(hg:∀k,k<2^t.attrs.length->lm (lg t k)=true/\(lg t k).rows=t.rows.length)(h1:∀a,a<=t.attrs.length->(fmS (ap t) t.attrs.length a).length<=100)(h2:∀a,a<t.attrs.length->(mnL (ap t) t.attrs.length a).length<=100)(h3:∀i,i<=(ord (fmS (ap t) t.attrs.length t.attrs.length)).length->((bdR (bdT (ap t) t.attrs.length t.attrs.length) (ord (fmS (ap t) t.attrs.length t.attrs.length)) i).2).length<=100):a7 bxr 84 [t.pc,pI 16] (ae [pP (fdl (bft (ap t) t.attrs.length)),pI 0]):=by
 refine hpx (nt:=82) Tryz.func84 ?_;have hna:=hT.na;have hrk:(ap t).length=2^t.attrs.length:=by unfold ap;exact b4x
 have hol:=pn (fmS (ap t) t.attrs.length t.attrs.length);have hfn:=h1 t.attrs.length (bt2 _);refine sx7 ?_;refine m9 0 ?_;refine w_7 ?_;refine qcx (wgx Tryz.func134) (bmq t hT h10 h200) ?_;refine awe ?_;refine qcx (wgx Tryz.func135) (bju t hT hg) ?_;refine m9 1 ?_;refine w_3 ?_;refine fl [] [0,1] rfl ?_;refine a65 (k:=0) (L:=[1]) 901 rfl (fun bg=>?_);refine zj ?_;refine ayh 905 ?_;refine m8 ?_;refine fj (E:=d4) (L1:=[1]) (L2:=[]) ca ?_;refine w_2 ?_;refine kc ?_;refine gh ?_;refine d8 9 900 true 1 50 (lf sC []) bxc rfl (CoP.sl rfl (.inr rfl) (fun h=>h) (fun i j hi _=>absurd hi (bt9 i))) (.inr rfl) rfl ?_;refine am (ι:=Nat×Array MapEntry×Nat×BG) (ka 1 (ka 7 (ka 8 (ka 30 kn)))) (kb 1 km) (fun x=>⟨[(9,some (.v (.one (.ref 900 (fmS (ap t) t.attrs.length x.1).length)))),(31,some (vI x.1))],[(900,some (.arr true 1 50 (fmS (ap t) t.attrs.length x.1).length (lf sC (fmS (ap t) t.attrs.length x.1)))),(901,some (mpO bg x.2.1 x.2.2.1)),(905,some (.opq 0 0 0 (jj (yr x.2.2.2))))]⟩) (fun x=>x.1<=t.attrs.length/\BIn bxr x.2.1 x.2.2.1 x.2.2.2 (fun _=>True) (100*x.1)/\prG x.2.2.2=bdT (ap t) t.attrs.length x.1) (fun x=>t.attrs.length-x.1) ((0,#[],0,[])) (⟨bt6 _,BIn.nil,rfl⟩) kk ?_;rintro⟨a,es,clock,G⟩ ⟨ha,hB,hp⟩;dsimp only at ha hB hp ⊢;refine w_5 ?_;refine hcd ?_ ?_<;>intro h0
 ·
  have han:a<t.attrs.length:=by omega
  have hml:=h2 a han;have hfa:=h1 a bx5;refine mq ?_;refine qcx (wgx Tryz.func136) (bog (ap t) t.attrs.length a hna hrk bx5) ?_;refine w_6 ?_;refine r9 2 true ?_;refine w_9 ?_;refine am (ι:=Nat×Array MapEntry×Nat×BG) (ka 1 (ka 7 (ka 8 (ka 9 (ka 10 (ka 30 (ka 31 (ka 41 (ka 42 kn))))))))) (kb 900 (kb 1 km)) (fun y=>⟨[(43,some (vI y.1))],[(901,some (mpO bg y.2.1 y.2.2.1)),(905,some (.opq 0 0 0 (jj (yr y.2.2.2))))]⟩) (fun y=>y.1<=(mnL (ap t) t.attrs.length a).length/\BIn bxr y.2.1 y.2.2.1 y.2.2.2 (fun _=>True) (100*a+y.1)/\prG y.2.2.2=bdJ a (mnL (ap t) t.attrs.length a) (bdT (ap t) t.attrs.length a) y.1) (fun y=>(mnL (ap t) t.attrs.length a).length-y.1) ((0,es,clock,G)) (⟨bt6 _,hB,hp⟩) kk ?_;rintro⟨j,es,clock,G⟩ ⟨hj,hB,hp⟩;dsimp only at hj hB hp ⊢;refine w_5 ?_;refine hcd ?_ ?_<;>intro h1
  ·
   have hjl:j<(mnL (ap t) t.attrs.length a).length:=by omega
   refine w_9 ?_;refine fl [] [0,1,2,3,4,5,6,7,8] rfl ?_;refine fj (E:=d4) (L1:=[0,1,2,3]) (L2:=[4,5,6,7,8]) ca ?_;refine w_5 ?_;refine acz (mid:=901) (k:=4) (L:=[5,6,7,8]) rfl Tryz.underlying189 (Go.Maps.int_keyed Tryz.underlying50) Tryz.zeroValue124 rfl hB.mx (Go.Maps.keyOf_int_mk Tryz.underlying50 (wfA _)) rfl (fun hno=>?_) (fun e he hk=>?_)
   ·
    obtain⟨hl0,her⟩:=hB.absent (s:=((mnL (ap t) t.attrs.length a).getD j default)) hno;have hlb:(lkP ((mnL (ap t) t.attrs.length a).getD j default) (prG G)).length<=100*a+j:=by rw[hl0];exact bt6 _
    refine zj ?_;refine a3p 51 (bp (.sl 0 0 true fun _ _=>.any)) rfl aud ?_;refine anv 51 903 true 1 3 (lf iC []) bxc rfl (CoP.sl rfl (.inr rfl) (fun h=>h) (fun i j hi _=>absurd hi (bt9 i))) (.inr rfl) rfl ?_;refine t7 903 (.arr true 1 3 (lkP ((mnL (ap t) t.attrs.length a).getD j default) (prG G)).length (lf iC (lkP ((mnL (ap t) t.attrs.length a).getD j default) (prG G)))) rfl (az (l:=[]) hl0) ?_;refine a3p 51 (.v (.one (.ref 903 (lkP ((mnL (ap t) t.attrs.length a).getD j default) (prG G)).length))) rfl (be (l:=([]:List Nat)) hl0) ?_;refine t7 905 (.opq 0 0 0 (jj (yr (erG ((mnL (ap t) t.attrs.length a).getD j default) G)))) rfl (CoO.of_eq (by rw[her])) ?_;refine m8 ?_;refine fj (E:=d4) (L1:=[5,6,7]) (L2:=[8]) ca ?_;refine qy ?_;refine m9 3 ?_;refine r9 4 true ?_;refine dq ?_;refine zj ?_;refine t7 903 (.arr true 1 3 ((lkP ((mnL (ap t) t.attrs.length a).getD j default) (prG G))++[a]).length (lf iC ((lkP ((mnL (ap t) t.attrs.length a).getD j default) (prG G))++[a]))) rfl (bq rfl (CoP.refl _)) ?_;refine a3p 54 (.v (.one (.ref 903 ((lkP ((mnL (ap t) t.attrs.length a).getD j default) (prG G))++[a]).length))) rfl (bo rfl) ?_;refine ajo 903 rfl (fun _ _ _ _=>rfl) ?_;refine ayt 903 rfl (fun v1 hv1=>?_);refine a9o 54 (.v (.one (.p (.raw v1)))) rfl (wt.to rfl) ?_;refine alx 903 905 rfl rfl ?_;refine m8 ?_;refine a33 (mid:=901) (k:=8) (L:=[]) rfl Tryz.underlying189 (Go.Maps.int_keyed Tryz.underlying50) hB.mx (by have:=hB.sz;unfold maxLen;omega) (Go.Maps.keyOf_int_mk Tryz.underlying50 (wfA _)) rfl rfl (fun es3 clock3 hX3 hP=>?_);refine kc ?_;have hB3:=hB.put (s:=((mnL (ap t) t.attrs.length a).getD j default)) (a:=a) hv1 hlb hX3 hP;refine w_4 ?_;refine lpz (j+1,es3,clock3,erG ((mnL (ap t) t.attrs.length a).getD j default) G++[(((mnL (ap t) t.attrs.length a).getD j default),((lkP ((mnL (ap t) t.attrs.length a).getD j default) (prG G))++[a]),v1)]) ⟨tt,⟨u9,⟨_,rfl,(CoO.of_eq (by rw[b20]))⟩,uu⟩⟩ ?_;exact⟨by show j+1<=_;omega,hB3,by rw[b8n,hp,aql hjl]⟩
   obtain⟨v0,hv0,hvc,hperm,hlb0⟩:=hB.found (s:=((mnL (ap t) t.attrs.length a).getD j default)) he hk trivial;have hlb:(lkP ((mnL (ap t) t.attrs.length a).getD j default) (prG G)).length<=100*a+j:=hlb0;rw[hv0,hvc];refine zj ?_;refine t7 905 (.opq 0 0 0 (jj ((v0,JSl 1 3 (lkP ((mnL (ap t) t.attrs.length a).getD j default) (prG G)).length (lf iC (lkP ((mnL (ap t) t.attrs.length a).getD j default) (prG G))))::yr (erG ((mnL (ap t) t.attrs.length a).getD j default) G)))) rfl (an8 hperm) ?_;refine ajy 903 905 1 (lkP ((mnL (ap t) t.attrs.length a).getD j default) (prG G)).length 3 rfl ?_;refine a9o 51 (.v (.one (.ref 903 (lkP ((mnL (ap t) t.attrs.length a).getD j default) (prG G)).length))) rfl (wt.from rfl) ?_;refine t7 903 (.opq 1 3 (lkP ((mnL (ap t) t.attrs.length a).getD j default) (prG G)).length (JSl 1 3 (lkP ((mnL (ap t) t.attrs.length a).getD j default) (prG G)).length (lf iC (lkP ((mnL (ap t) t.attrs.length a).getD j default) (prG G))))) rfl azg ?_;refine akd 903 rfl bxc (by unfold maxLen;omega) (fun _ _ _ _=>rfl) ?_;refine m8 ?_;refine fj (E:=d4) (L1:=[5,6,7]) (L2:=[8]) ca ?_;refine qy ?_;refine m9 5 ?_;refine r9 6 true ?_;refine dq ?_;refine zj ?_;refine t7 903 (.arr true 1 3 ((lkP ((mnL (ap t) t.attrs.length a).getD j default) (prG G))++[a]).length (lf iC ((lkP ((mnL (ap t) t.attrs.length a).getD j default) (prG G))++[a]))) rfl (bq rfl (CoP.refl _)) ?_;refine a3p 54 (.v (.one (.ref 903 ((lkP ((mnL (ap t) t.attrs.length a).getD j default) (prG G))++[a]).length))) rfl (bo rfl) ?_;refine ajo 903 rfl (fun _ _ _ _=>rfl) ?_;refine ayt 903 rfl (fun v1 hv1=>?_);refine a9o 54 (.v (.one (.p (.raw v1)))) rfl (wt.to rfl) ?_;refine alx 903 905 rfl rfl ?_;refine m8 ?_;refine a33 (mid:=901) (k:=8) (L:=[]) rfl Tryz.underlying189 (Go.Maps.int_keyed Tryz.underlying50) hB.mx (by have:=hB.sz;unfold maxLen;omega) (Go.Maps.keyOf_int_mk Tryz.underlying50 (wfA _)) rfl rfl (fun es3 clock3 hX3 hP=>?_);refine kc ?_
   have hB3:=hB.put (s:=((mnL (ap t) t.attrs.length a).getD j default)) (a:=a) hv1 hlb hX3 hP;refine w_4 ?_;refine lpz (j+1,es3,clock3,erG ((mnL (ap t) t.attrs.length a).getD j default) G++[(((mnL (ap t) t.attrs.length a).getD j default),((lkP ((mnL (ap t) t.attrs.length a).getD j default) (prG G))++[a]),v1)]) ⟨tt,⟨u9,⟨_,rfl,(CoO.of_eq (by rw[b20]))⟩,uu⟩⟩ ?_;exact⟨by show j+1<=_;omega,hB3,by rw[b8n,hp,aql hjl]⟩
  obtain rfl:j=(mnL (ap t) t.attrs.length a).length:=by omega
  refine w_5 ?_;refine lpz (a+1,es,clock,G) ⟨⟨⟨_,rfl,(CoR.of_eq (by rw[aq9,bt8]))⟩,tt⟩,⟨⟨_,rfl,(by rw[aq9];exact afl _ (fun h=>h) rfl fun _ _ _ _=>CoP.refl _)⟩,uu⟩⟩ ?_;exact⟨by show a+1<=_;omega,hB.mono bx5,by rw[b3h];exact hp⟩
 obtain rfl:a=t.attrs.length:=by omega
 refine w_7 ?_;refine bj 9 rfl rfl rfl ?_;refine w_2 ?_;refine fc9 uo ((atz (fmS (ap t) t.attrs.length t.attrs.length) bx5).swap 901 906) trivial ?_;refine w_4 ?_;refine d8 14 902 true 2 61 (lf Fd.c []) bxc rfl (CoP.sl rfl (.inr rfl) (fun h=>h) (fun i j hi _=>absurd hi (bt9 i))) (.inr rfl) rfl ?_;refine am (ι:=Nat×BG) (ka 8 (ka 58 (ka 59 kn))) (kb 901 (kb 906 km)) (fun z=>⟨[(14,some (.v (.one (.ref 902 ((bdR (bdT (ap t) t.attrs.length t.attrs.length) (ord (fmS (ap t) t.attrs.length t.attrs.length)) z.1).2).length)))),(60,some (vI z.1))],[(902,some (.arr true 2 61 ((bdR (bdT (ap t) t.attrs.length t.attrs.length) (ord (fmS (ap t) t.attrs.length t.attrs.length)) z.1).2).length (lf Fd.c ((bdR (bdT (ap t) t.attrs.length t.attrs.length) (ord (fmS (ap t) t.attrs.length t.attrs.length)) z.1).2)))),(905,some (.opq 0 0 0 (jj (yr z.2))))]⟩) (fun z=>z.1<=(ord (fmS (ap t) t.attrs.length t.attrs.length)).length/\BIn bxr es clock z.2 (fun s=>¬s∈(ord (fmS (ap t) t.attrs.length t.attrs.length)).take z.1) (100*t.attrs.length)/\prG z.2=(bdR (bdT (ap t) t.attrs.length t.attrs.length) (ord (fmS (ap t) t.attrs.length t.attrs.length)) z.1).1) (fun z=>(ord (fmS (ap t) t.attrs.length t.attrs.length)).length-z.1) ((0,G)) (⟨bt6 _,hB.keys (fun _ _=>trivial),hp⟩) kk ?_;rintro⟨i,G⟩ ⟨hi,hB,hp⟩;dsimp only at hi hB hp ⊢;refine w_5 ?_;refine hcd ?_ ?_<;>intro h2
 ·
  have hil:i<(ord (fmS (ap t) t.attrs.length t.attrs.length)).length:=by omega
  have ho3:=h3 i bx5;have hKs:¬((ord (fmS (ap t) t.attrs.length t.attrs.length)).getD i default)∈(ord (fmS (ap t) t.attrs.length t.attrs.length)).take i:=b4v (a8i _) hil;refine cr ?_;refine fl [] [0,1,2,3,4] rfl ?_;refine fj (E:=d4) (L1:=[0,1]) (L2:=[2,3,4]) ca ?_;refine w_3 ?_;refine acz (mid:=901) (k:=2) (L:=[3,4]) rfl Tryz.underlying189 (Go.Maps.int_keyed Tryz.underlying50) Tryz.zeroValue124 rfl hB.mx (Go.Maps.keyOf_int_mk Tryz.underlying50 (wfA _)) rfl (fun hno=>?_) (fun e he hk=>?_)
  ·
   obtain⟨hl0,her⟩:=hB.absent (s:=((ord (fmS (ap t) t.attrs.length t.attrs.length)).getD i default)) hno;have hlb:(lkP ((ord (fmS (ap t) t.attrs.length t.attrs.length)).getD i default) (prG G)).length<=100*t.attrs.length:=by rw[hl0];exact bt6 _
   refine zj ?_;refine a3p 66 (bp (.sl 0 0 true fun _ _=>.any)) rfl aud ?_;refine anv 66 903 true 1 3 (lf iC []) bxc rfl (CoP.sl rfl (.inr rfl) (fun h=>h) (fun i j hi _=>absurd hi (bt9 i))) (.inr rfl) rfl ?_;refine t7 903 (.arr true 1 3 (lkP ((ord (fmS (ap t) t.attrs.length t.attrs.length)).getD i default) (prG G)).length (lf iC (lkP ((ord (fmS (ap t) t.attrs.length t.attrs.length)).getD i default) (prG G)))) rfl (az (l:=[]) hl0) ?_;refine a3p 66 (.v (.one (.ref 903 (lkP ((ord (fmS (ap t) t.attrs.length t.attrs.length)).getD i default) (prG G)).length))) rfl (be (l:=([]:List Nat)) hl0) ?_;refine t7 905 (.opq 0 0 0 (jj (yr (erG ((ord (fmS (ap t) t.attrs.length t.attrs.length)).getD i default) G)))) rfl (CoO.of_eq (by rw[her])) ?_;refine m8 ?_;refine fj (E:=d4) (L1:=[3,4]) (L2:=[]) ca ?_;refine w_3 ?_;refine kc ?_;refine a4j ?_
   refine bw (ka 8 (ka 16 (ka 58 (ka 59 (ka 60 (ka 66 (ka 67 kn))))))) (kb 905 (kb 901 (kb 906 (kb 903 km)))) (fun k=>⟨[(14,some (.v (.one (.ref 902 ((bdR (bdT (ap t) t.attrs.length t.attrs.length) (ord (fmS (ap t) t.attrs.length t.attrs.length)) i).2++((lkP ((ord (fmS (ap t) t.attrs.length t.attrs.length)).getD i default) (prG G)).take k).map (mkF ((ord (fmS (ap t) t.attrs.length t.attrs.length)).getD i default))).length)))),(68,some (vI k))],[(902,some (.arr true 2 61 ((bdR (bdT (ap t) t.attrs.length t.attrs.length) (ord (fmS (ap t) t.attrs.length t.attrs.length)) i).2++((lkP ((ord (fmS (ap t) t.attrs.length t.attrs.length)).getD i default) (prG G)).take k).map (mkF ((ord (fmS (ap t) t.attrs.length t.attrs.length)).getD i default))).length (lf Fd.c ((bdR (bdT (ap t) t.attrs.length t.attrs.length) (ord (fmS (ap t) t.attrs.length t.attrs.length)) i).2++((lkP ((ord (fmS (ap t) t.attrs.length t.attrs.length)).getD i default) (prG G)).take k).map (mkF ((ord (fmS (ap t) t.attrs.length t.attrs.length)).getD i default))))))]⟩) ((lkP ((ord (fmS (ap t) t.attrs.length t.attrs.length)).getD i default) (prG G)).length) ⟨⟨⟨_,rfl,(be bx8)⟩,tt⟩,⟨⟨_,rfl,(az bx8)⟩,trivial⟩⟩ ?_;rintro k hk;have htl:((bdR (bdT (ap t) t.attrs.length t.attrs.length) (ord (fmS (ap t) t.attrs.length t.attrs.length)) i).2++((lkP ((ord (fmS (ap t) t.attrs.length t.attrs.length)).getD i default) (prG G)).take k).map (mkF ((ord (fmS (ap t) t.attrs.length t.attrs.length)).getD i default))).length<=1800:=by rw[bt8,btw,btp];omega
   refine w_5 ?_;refine hcd ?_ ?_<;>intro h3
   ·
    have hkl:k<(lkP ((ord (fmS (ap t) t.attrs.length t.attrs.length)).getD i default) (prG G)).length:=by omega
    refine jk ?_;refine m9 7 ?_;refine r9 8 true ?_;refine w_6 ?_;exact lpx (k+1) ⟨⟨⟨_,rfl,(bo (aa8 hkl))⟩,tt⟩,⟨⟨_,rfl,(l5 (aa8 hkl) (CoP.refl _) (CoP.of_eq (congrArg (fun z=>PV.raw (.int .u32 z)) (a0j 1 _))))⟩,uu⟩⟩
   obtain rfl:k=(lkP ((ord (fmS (ap t) t.attrs.length t.attrs.length)).getD i default) (prG G)).length:=by omega
   refine w_5 ?_;refine lpz (i+1,erG ((ord (fmS (ap t) t.attrs.length t.attrs.length)).getD i default) G) ⟨⟨⟨_,rfl,(be (by rw[x4 hil,btb,hp];rfl))⟩,tt⟩,⟨⟨_,rfl,(az (by rw[x4 hil,btb,hp];rfl))⟩,uu⟩⟩ ?_;exact⟨by show i+1<=_;omega,hB.take (fun x hx=>ao2 hil hx),by rw[x4 hil,avh,hp];rfl⟩
  obtain⟨v0,hv0,hvc,hperm,hlb0⟩:=hB.found (s:=((ord (fmS (ap t) t.attrs.length t.attrs.length)).getD i default)) he hk hKs;have hlb:(lkP ((ord (fmS (ap t) t.attrs.length t.attrs.length)).getD i default) (prG G)).length<=100*t.attrs.length:=hlb0;rw[hv0,hvc];refine zj ?_;refine t7 905 (.opq 0 0 0 (jj ((v0,JSl 1 3 (lkP ((ord (fmS (ap t) t.attrs.length t.attrs.length)).getD i default) (prG G)).length (lf iC (lkP ((ord (fmS (ap t) t.attrs.length t.attrs.length)).getD i default) (prG G))))::yr (erG ((ord (fmS (ap t) t.attrs.length t.attrs.length)).getD i default) G)))) rfl (an8 hperm) ?_;refine ajy 903 905 1 (lkP ((ord (fmS (ap t) t.attrs.length t.attrs.length)).getD i default) (prG G)).length 3 rfl ?_;refine a9o 66 (.v (.one (.ref 903 (lkP ((ord (fmS (ap t) t.attrs.length t.attrs.length)).getD i default) (prG G)).length))) rfl (wt.from rfl) ?_;refine t7 903 (.opq 1 3 (lkP ((ord (fmS (ap t) t.attrs.length t.attrs.length)).getD i default) (prG G)).length (JSl 1 3 (lkP ((ord (fmS (ap t) t.attrs.length t.attrs.length)).getD i default) (prG G)).length (lf iC (lkP ((ord (fmS (ap t) t.attrs.length t.attrs.length)).getD i default) (prG G))))) rfl azg ?_;refine akd 903 rfl bxc (by unfold maxLen;omega) (fun _ _ _ _=>rfl) ?_;refine m8 ?_;refine fj (E:=d4) (L1:=[3,4]) (L2:=[]) ca ?_;refine w_3 ?_;refine kc ?_;refine a4j ?_
  refine bw (ka 8 (ka 16 (ka 58 (ka 59 (ka 60 (ka 66 (ka 67 kn))))))) (kb 905 (kb 901 (kb 906 (kb 903 km)))) (fun k=>⟨[(14,some (.v (.one (.ref 902 ((bdR (bdT (ap t) t.attrs.length t.attrs.length) (ord (fmS (ap t) t.attrs.length t.attrs.length)) i).2++((lkP ((ord (fmS (ap t) t.attrs.length t.attrs.length)).getD i default) (prG G)).take k).map (mkF ((ord (fmS (ap t) t.attrs.length t.attrs.length)).getD i default))).length)))),(68,some (vI k))],[(902,some (.arr true 2 61 ((bdR (bdT (ap t) t.attrs.length t.attrs.length) (ord (fmS (ap t) t.attrs.length t.attrs.length)) i).2++((lkP ((ord (fmS (ap t) t.attrs.length t.attrs.length)).getD i default) (prG G)).take k).map (mkF ((ord (fmS (ap t) t.attrs.length t.attrs.length)).getD i default))).length (lf Fd.c ((bdR (bdT (ap t) t.attrs.length t.attrs.length) (ord (fmS (ap t) t.attrs.length t.attrs.length)) i).2++((lkP ((ord (fmS (ap t) t.attrs.length t.attrs.length)).getD i default) (prG G)).take k).map (mkF ((ord (fmS (ap t) t.attrs.length t.attrs.length)).getD i default))))))]⟩) ((lkP ((ord (fmS (ap t) t.attrs.length t.attrs.length)).getD i default) (prG G)).length) ⟨⟨⟨_,rfl,(be bx8)⟩,tt⟩,⟨⟨_,rfl,(az bx8)⟩,trivial⟩⟩ ?_;rintro k hk;have htl:((bdR (bdT (ap t) t.attrs.length t.attrs.length) (ord (fmS (ap t) t.attrs.length t.attrs.length)) i).2++((lkP ((ord (fmS (ap t) t.attrs.length t.attrs.length)).getD i default) (prG G)).take k).map (mkF ((ord (fmS (ap t) t.attrs.length t.attrs.length)).getD i default))).length<=1800:=by rw[bt8,btw,btp];omega
  refine w_5 ?_;refine hcd ?_ ?_<;>intro h4
  ·
   have hkl:k<(lkP ((ord (fmS (ap t) t.attrs.length t.attrs.length)).getD i default) (prG G)).length:=by omega
   refine jk ?_;refine m9 9 ?_;refine r9 10 true ?_;refine w_6 ?_;exact lpx (k+1) ⟨⟨⟨_,rfl,(bo (aa8 hkl))⟩,tt⟩,⟨⟨_,rfl,(l5 (aa8 hkl) (CoP.refl _) (CoP.of_eq (congrArg (fun z=>PV.raw (.int .u32 z)) (a0j 1 _))))⟩,uu⟩⟩
  obtain rfl:k=(lkP ((ord (fmS (ap t) t.attrs.length t.attrs.length)).getD i default) (prG G)).length:=by omega
  refine w_5 ?_;refine lpz (i+1,erG ((ord (fmS (ap t) t.attrs.length t.attrs.length)).getD i default) G) ⟨⟨⟨_,rfl,(be (by rw[x4 hil,btb,hp];rfl))⟩,tt⟩,⟨⟨_,rfl,(az (by rw[x4 hil,btb,hp];rfl))⟩,uu⟩⟩ ?_;exact⟨by show i+1<=_;omega,hB.take (fun x hx=>ao2 hil hx),by rw[x4 hil,avh,hp];rfl⟩
 obtain rfl:i=(ord (fmS (ap t) t.attrs.length t.attrs.length)).length:=by omega
 refine w_2 ?_;refine bj 14 rfl rfl rfl ?_;refine v_5 ?_;exact⟨CoC.one (CoP.refl _),CoC.refl _,trivial⟩
end
section
def ai9:List Fd:=[⟨1,2⟩,⟨2,4⟩]
def gl:Tbl:=bke (a6 ((3:Nat):Int)::kz ((3:Nat):Int) (fp ai9 ((3:Nat):Int))) 3
def b8m:aw ((3:Nat):Int) ai9=0:=by decide +kernel
def bn8:an5 ((3:Nat):Int) ai9=[3,6]:=by decide +kernel
def b93:TOk gl:=s5.1 (by decide +kernel)
def a4q:gl.attrs.length=3:=by decide +kernel
def aww:gl.rows.length=4:=by decide +kernel
def boi:b83 gl=[1]:=by decide +kernel
def bok:∀k,k<2^gl.attrs.length->lm (lg gl k)=true/\(lg gl k).rows=gl.rows.length:=by
 rw[a4q,aww];have:∀k:Fin 8,lm (lg gl k.val)=true/\(lg gl k.val).rows=((4:Nat):Int):=by decide +kernel
 exact fun k hk=>this ⟨k,hk⟩
def bon:∀a,a<=gl.attrs.length->(fmS (ap gl) gl.attrs.length a).length<=100:=by
 rw[a4q];have:∀a:Fin 4,(fmS (ap gl) 3 a.val).length<=100:=by decide +kernel
 exact fun a ha=>this ⟨a,by omega⟩
def bn2:∀a,a<gl.attrs.length->(mnL (ap gl) gl.attrs.length a).length<=100:=by
 rw[a4q];have:∀a:Fin 3,(mnL (ap gl) 3 a.val).length<=100:=by decide +kernel
 exact fun a ha=>this ⟨a,ha⟩
def bll:∀i,i<=(ord (fmS (ap gl) gl.attrs.length gl.attrs.length)).length->((bdR (bdT (ap gl) gl.attrs.length gl.attrs.length) (ord (fmS (ap gl) gl.attrs.length gl.attrs.length)) i).2).length<=100:=by
 rw[a4q];have hl:(ord (fmS (ap gl) 3 3)).length=2:=by decide +kernel
 have:∀i:Fin 3,((bdR (bdT (ap gl) 3 3) (ord (fmS (ap gl) 3 3)) i.val).2).length<=100:=by decide +kernel
 rw[hl];exact fun i hi=>this ⟨i,by omega⟩
def boc:bft (ap gl) gl.attrs.length=[⟨1,2⟩,⟨1,4⟩,⟨2,4⟩]:=by
 rw[a4q];decide +kernel
end
section
open Go.Proofs
def bfp (l:List Fd) (hl:l.length<=16777216):a7 bxr 89 [pP (fdl l)] (ae [pP (fdl (agv l))]):=by
 refine hpx (nt:=47) Tryz.func89 ?_;refine w_6 ?_;refine m9 0 ?_;refine qb ?_;refine d8 4 900 true 1 50 (lf sC []) bxc rfl (CoP.sl rfl (.inr rfl) (fun h=>h) (fun i j hi _=>absurd hi (bt9 i))) (.inr rfl) rfl ?_;refine bw (ka 3 (ka 11 (ka 12 kn))) km (fun i=>⟨[(4,some (.v (.one (.ref 900 ((l.take i).map Fd.lhs).length)))),(13,some (vI i))],[(0,some (.mp (.int .u32) i (a5n (l.take i)))),(900,some (.arr true 1 50 ((l.take i).map Fd.lhs).length (lf sC ((l.take i).map Fd.lhs))))]⟩) l.length ⟨tt,⟨⟨_,rfl,⟨rfl,bt2 _,axi⟩⟩,uu⟩⟩ ?_;rintro i hi;have hlen:((l.take i).map Fd.lhs).length<=i:=by rw[btw,btp];omega
 refine w_5 ?_;refine hcd ?_ ?_<;>intro h0
 · refine w_7 ?_;refine m9 1 ?_;refine w_7 ?_;refine rq (out:=⟨_, .v (.one (.p (asC (mgR (l.take i) (l.getD i default).lhs))))⟩) rfl rfl rfl (congrArg (fun z=>some (Out.mk _ (HR.v (HC.one (HV.p z))))) (aem _ _)) rfl ?_ (hp:=⟨rfl,rfl,wfA _⟩);refine w_3 ?_;refine rs rfl rfl rfl rfl rfl ?_ (hp:=⟨rfl,⟨rfl,wfA _⟩,by simp only[maxLen];omega⟩);refine w_5 ?_;refine m9 2 ?_;refine r9 3 true ?_;refine w_6 ?_;exact lpx (i+1) ⟨⟨⟨_,rfl,(bo (a2m bx5))⟩,tt⟩,⟨⟨_,rfl,⟨rfl,bt2 _,b0l bx5⟩⟩,⟨_,rfl,(bq (a2m bx5) (CoP.refl _))⟩,trivial⟩⟩
 obtain rfl:i=l.length:=by omega
 rw[show(l.take l.length).map Fd.lhs=l.map Fd.lhs by rw[btb],show a5n (l.take l.length)=a5n l by rw[btb]];refine w_7 ?_;refine bj 4 rfl rfl rfl ?_;have hol:=pn (l.map Fd.lhs);rw[btw]at hol;refine w_2 ?_;refine qcx uo (a40 (l.map Fd.lhs) (by rw[btw];omega)) ?_;refine w_4 ?_;refine d8 7 901 true 2 61 (lf Fd.c []) bxc rfl (CoP.sl rfl (.inr rfl) (fun h=>h) (fun i j hi _=>absurd hi (bt9 i))) (.inr rfl) rfl ?_;refine bw (ka 3 (ka 31 (ka 32 kn))) (kb 0 km) (fun k=>⟨[(7,some (.v (.one (.ref 901 (((ord (l.map Fd.lhs)).take k).map (mgF l)).length)))),(33,some (vI k))],[(901,some (.arr true 2 61 (((ord (l.map Fd.lhs)).take k).map (mgF l)).length (lf Fd.c (((ord (l.map Fd.lhs)).take k).map (mgF l)))))]⟩) ((ord (l.map Fd.lhs)).length) kk ?_;rintro k hk;have hlen2:(((ord (l.map Fd.lhs)).take k).map (mgF l)).length<=k:=by rw[btw,btp];omega
 refine w_5 ?_;refine hcd ?_ ?_<;>intro h1
 · refine qb ?_;refine rq (out:=⟨_, .v (.one (.p (asC (mgR l ((ord (l.map Fd.lhs)).getD k default)))))⟩) rfl rfl rfl (congrArg (fun z=>some (Out.mk _ (HR.v (HC.one (HV.p z))))) (aem _ _)) rfl ?_ (hp:=⟨rfl,rfl,wfA _⟩);refine qy ?_;refine m9 4 ?_;refine r9 5 true ?_;refine w_6 ?_;exact lpx (k+1) ⟨⟨⟨_,rfl,(bo (a2m bx5))⟩,tt⟩,⟨⟨_,rfl,(l5 (a2m bx5) (CoP.refl _) (CoP.refl _))⟩,uu⟩⟩
 obtain rfl:k=(ord (l.map Fd.lhs)).length:=by omega
 refine w_6 ?_;refine bj 2 rfl rfl rfl ?_;exact hx8 rfl rfl rfl (⟨CoC.one (CoP.of_eq (by rw[btb];rfl)),trivial⟩)
end
section
open Go.Proofs
def bmh  : a7 bxr 31 [gl.pc] (ae [pP (fdl [⟨1,2⟩,⟨1,4⟩,⟨2,4⟩]),pI 0]):=by
 refine hpx (nt:=8) Tryz.func31 ?_;refine sx7 ?_;refine m9 0 ?_;refine w_6 ?_;refine qcx (wgx Tryz.func84) (bdr gl b93 (by rw[a4q];decide) (by rw[aww];decide) bok bon bn2 bll) ?_;refine v_5 ?_;exact⟨CoC.of_eq (by rw[boc]),CoC.refl _,trivial⟩
def bhq:a7 bxr 32 [gl.pc] (ae [pP (asl [1]),pI 0]):=by
 have h:=bg3 gl b93 (by rw[a4q];decide) (by rw[aww];decide);rw[boi]at h;exact h
def bce:a7 bxr 10 [pI 3,pP (fdl ai9)] (ae [pP (asl [3,6]),pI 0]):=by
 have h:=b95 (fun k hk=>bfp k hk) ((3:Nat):Int) ai9;rw[bn8,b8m]at h;exact h
def bi4(a b:List Fd):a7 bxr 34 [pP (fdl a),pP (fdl b)] (ae [pB (decide (a=b))]):=by
 refine hpx (nt:=26) Tryz.func34 ?_;refine dt ?_;refine e9 0 rfl fun hn=>?_;refine gh ?_;refine hcn ?_ ?_<;>intro h0
 · refine v_4 ?_;exact⟨ccb (decide_eq_false fun e=>by subst e;omega).symm,trivial⟩
 refine fk ?_;refine dp (ι:=Unit) kn km (fun _i=>⟨[],[]⟩) (fun _i=>a=b) ?_ ?_
 ·
  refine w_5 ?_;refine am (ι:=Nat) (ka 0 (ka 1 kn)) km (fun i=>⟨[(5,some (vI i))],[]⟩) (fun i=>i<=a.length/\(∀j,j<i->decide (a.getD j default=b.getD j default)=true)) (fun i=>a.length-i) (0) (⟨bt6 _,d5⟩) kk ?_;rintro i ⟨hi,hI⟩;refine w_8 ?_;refine hcd ?_ ?_<;>intro h1
  ·
   refine ss ?_;refine hcb ?_ ?_<;>intro h2
   · refine v_4 ?_;exact⟨ccb (decide_eq_false fun e=>by subst e;simp_all).symm,trivial⟩
   refine w_6 ?_;refine lpz (i+1) kk ?_;exact⟨by show i+1<=_;omega,c6 hI (decide_eq_true (by simp_all [Fd.eq_iff,cb]))⟩
  refine ek ?_;refine⟨(), ?_, ?_⟩
  · exact b47 bx5 fun j hj=>hI j bx5
  exact⟨trivial,trivial⟩
 rintro _ hj;refine v_4 ?_;exact⟨ccb (decide_eq_true hj).symm,trivial⟩
def apa (l:List AS):a7 bxr 33 [pP (asl l),pP (asl l)] (ae [pB true]):=by
 have h:=bjx l l;rw[decide_eq_true rfl]at h;exact h
def b3j (l:List Fd):a7 bxr 34 [pP (fdl l),pP (fdl l)] (ae [pB true]):=by
 have h:=bi4 l l;rw[decide_eq_true rfl]at h;exact h
def avd:goodFn bxr 7:=wgx Tryz.func7
def acn  : a7 bxr 7 [] (ae [pB true]):=by
 refine hpx (nt:=67) Tryz.func7 ?_;refine w_8 ?_;refine m9 0 ?_;refine w_2 ?_;refine bj 1 rfl rfl rfl ?_;refine w_3 ?_;refine rc rfl rfl rfl rfl rfl rfl (wgx Tryz.func10) (bce) (⟨CoC.refl _,(CoC.one (CoP.sl rfl (.inl rfl) (fun h=>(by cases h)) fun i j hi hj=>CoP.of_eq (by have hi:i<2:=hi;have hj:j<2:=hj;rcases(show i=0\/i=1 by omega)with rfl|rfl<;>rcases(show j=0\/j=1 by omega)with rfl|rfl<;>rfl))),trivial⟩) rfl rfl ?_;refine w_9 ?_;refine rc rfl rfl rfl rfl rfl rfl (wgx Tryz.func30) (bgx 3 ai9 bxc b8m) (⟨CoC.refl _,(CoC.one (CoP.sl rfl (.inl rfl) (fun h=>(by cases h)) fun i j hi hj=>CoP.of_eq (by have hi:i<2:=hi;have hj:j<2:=hj;rcases(show i=0\/i=1 by omega)with rfl|rfl<;>rcases(show j=0\/j=1 by omega)with rfl|rfl<;>rfl))),trivial⟩) rfl rfl ?_;refine w_3 ?_;refine m9 1 ?_;refine w_6 ?_;refine qcx (wgx Tryz.func31) (bmh) ?_;refine w_9 ?_;refine qcx (wgx Tryz.func32) (bhq) ?_;refine bpj ?_;refine m9 2 ?_;refine rc rfl rfl rfl rfl rfl rfl (wgx Tryz.func33) (apa [3,6]) (⟨CoC.refl _,(CoC.one (CoP.sl rfl (.inl rfl) (fun h=>(by cases h)) fun i j hi hj=>CoP.of_eq (by have hi:i<2:=hi;have hj:j<1:=hj;rcases(show i=0\/i=1 by omega)with rfl|rfl<;>(obtain rfl:j=0:=by omega)<;>rfl))),trivial⟩) rfl rfl ?_;refine w_6 ?_;refine m9 3 ?_;refine rc rfl rfl rfl rfl rfl rfl (wgx Tryz.func34) (b3j [⟨1,2⟩,⟨1,4⟩,⟨2,4⟩]) (⟨CoC.refl _,(CoC.one (CoP.sl rfl (.inl rfl) (fun h=>(by cases h)) fun i j hi hj=>CoP.of_eq (by have hi:i<3:=hi;have hj:j<2:=hj;rcases(show i=0\/i=1\/i=2 by omega)with rfl|rfl|rfl<;>rcases(show j=0\/j=1 by omega)with rfl|rfl<;>rfl))),trivial⟩) rfl rfl ?_;refine w_3 ?_;refine m9 4 ?_;refine rc rfl rfl rfl rfl rfl rfl (wgx Tryz.func33) (apa [1]) (⟨CoC.refl _,(CoC.one (CoP.sl rfl (.inl rfl) (fun h=>(by cases h)) fun i j hi hj=>CoP.of_eq (by have hi:i<1:=hi;have hj:j<1:=hj;(obtain rfl:i=0:=by omega)<;>(obtain rfl:j=0:=by omega)<;>rfl))),trivial⟩) rfl rfl ?_
 refine v_3 ?_;exact CoL.refl _
end
section
section
variable {n:Int}{l m:List Fd}{ps:List AS}{p x:AS}
def b0t {q:Fd}:q∈ll l []<->∃f∈l,∃a,a<32/\f.rhs.getLsbD a=true/\q=⟨f.lhs,lb a⟩:=by
 rw[b1m];simp
def an2(hb:bsz p<=12)(h:dx l p=false):ew l p=true:=ag8 fun x hx=>by
 by_cases h1:clo l x&&&p=x
 · unfold oc
   rw[h1];have:x&&&~~~x=0:=by simp
   rw[this];simp
 by_cases h2:clo l x&&&p=p
 · exact ado (by unfold ni;exact decide_eq_true (aiy.2 (by rw[BitVec.and_comm];exact h2)))
 have:dx l p=true:=(a78 hb).2 ⟨x,hx,by unfold kw;rw[decide_eq_true h1,decide_eq_true h2];rfl⟩;rw[h]at this;cases this
def auh(hu:∀f∈l,sub f.lhs (a6 n)/\sub f.rhs (a6 n))(hx:sub x (a6 n)){b:AS}(hb:b∈blks (ll l []) (a6 n&&&~~~x)) :
 sub b (clo l x)\/sub ((a6 n&&&~~~x)&&&~~~(clo l x)) b:=by
 refine(ag6 (ll l []) (a6 n&&&~~~x)).1.ind (fun b=>sub b (clo l x)\/sub ((a6 n&&&~~~x)&&&~~~(clo l x)) b) (.inr (ai.2 fun i hi h=>?_)) (fun q hq b h hs=>?_) b hb
 · rw [db hi,bt3]at h
   exact h.1
 obtain⟨f,hf,a,ha,hra,rfl⟩:=b0t.1 hq;obtain⟨s1,s2,s3⟩:=xb.1 hs
 rcases h with h|h
 · refine ⟨.inl (ai.2 fun i hi hbi=>?_), .inl (ai.2 fun i hi hbi=>?_)⟩
   · rw [bta,bt3]at hbi
     exact ai.1 h i hi hbi.1
   rw[db hi,bt3]at hbi;exact ai.1 h i hi hbi.1
 have hL:sub f.lhs (clo l x):=ai.2 fun i hi hl=>by
  cases hc:(clo l x).getLsbD i with
  |true=>rfl
  | false =>
   have hxi:x.getLsbD i=false:=by
    cases hxi:x.getLsbD i with
    |false=>rfl
    |true=>rw[ai.1 (jf (l:=l)) i hi hxi]at hc;cases hc
   have hb':=ai.1 h i hi (by rw[db hi,db hi,ai.1 (hu f hf).1 i hi hl,hxi,hc];rfl);have:=a62.1 s1 i hi hb';rw[this]at hl;cases hl
 have haC:(clo l x).getLsbD a=true:=ai.1 (gr f hf hL) a ha hra;refine⟨.inl (ai.2 fun i hi hbi=>?_), .inr (ai.2 fun i hi hbi=>?_)⟩
 · rw [bta,bt3]at hbi
   have e:=hbi.2;rw[j3 ha hi,decide_eq_true_iff]at e;rw[e];exact haC
 have h1:=ai.1 h i hi hbi;rw[db hi,h1,bu0,btv];rw[j3 ha hi,decide_eq_false_iff_not];rintro rfl;rw[db hi,bt3,haC]at hbi;simp at hbi
def b4d(hu:∀f∈l,sub f.lhs (a6 n)/\sub f.rhs (a6 n))(hx:sub x (a6 n)){a:Nat}(ha:a<32)(h:aez l (blks (ll l []) (a6 n&&&~~~x)) a):(clo l x).getLsbD a=true:=by
 obtain⟨h1,f,hf,h2,h3⟩:=h;have hsa:(lb a).getLsbD a=true:=by rw[j3 ha ha];simp
 rcases auh hu hx h1 with h|h
 · exact ai.1 h a ha hsa
 cases hc:(clo l x).getLsbD a with
 |true=>rfl
 | false =>
  have hL:sub f.lhs (clo l x):=ai.2 fun i hi hl=>by
   cases hci:(clo l x).getLsbD i with
   |true=>rfl
   | false =>
    have hxi:x.getLsbD i=false:=by
     cases hxi:x.getLsbD i with
     |false=>rfl
     |true=>rw[ai.1 (jf (l:=l)) i hi hxi]at hci;cases hci
    have hb':=ai.1 h i hi (by rw[db hi,db hi,ai.1 (hu f hf).1 i hi hl,hxi,hci];rfl);rw[j3 ha hi,decide_eq_true_iff]at hb';subst hb';rw[hl]at h3;cases h3
  rw[ai.1 (gr f hf hL) a ha h2]at hc;cases hc
def bek(hu:∀f∈l,sub f.lhs (a6 n)/\sub f.rhs (a6 n))(hx:sub x (a6 n)):w6 n l [] x=clo l x:=by
 obtain⟨hbk,hsp⟩:=ag6 (ll l []) (a6 n&&&~~~x);refine d7 (ai.2 fun a ha h=>?_) (n9 (fun f hf hl=>ai.2 fun a ha hr=>(zw ha).2 ?_) (ai.2 fun a ha h=>(zw ha).2 (.inl h)))
 · rcases(zw ha).1 h with h|h
   · exact ai.1 jf a ha h
   exact b4d hu hx ha h
 by_cases hla:f.lhs.getLsbD a=true
 · exact(zw ha).1 (ai.1 hl a ha hla)
 by_cases hxa:x.getLsbD a=true
 · exact .inl hxa
 right;have hla:f.lhs.getLsbD a=false:=by simpa using hla
 have hxa:x.getLsbD a=false:=by simpa using hxa
 obtain⟨b,hb,hba⟩:=hbk.cov (a:=a) (by rw[db ha,ai.1 (hu f hf).2 a ha hr,hxa];rfl);have hn:=hsp ⟨f.lhs,lb a⟩ (b0t.2 ⟨f,hf,a,ha,hr,rfl⟩) b hb;have hsa:(lb a).getLsbD a=true:=by rw[j3 ha ha];simp
 by_cases hz:b&&&f.lhs=0
 · have hs:sub b (lb a):=by
    apply Classical.byContradiction;intro hc
    have:dz ⟨f.lhs,lb a⟩ b=true:=xb.2 ⟨hz,(fun e=>by
     have:=a62.1 (show b&&&lb a=0 from e) a ha hba;rw[hsa]at this
     cases this),hc⟩
    rw[hn]at this;cases this
   have e:=b55 ha hs hba;exact⟨by rw[<- e];exact hb,f,hf,hr,hla⟩
 obtain⟨c,hc,hbc,hlc⟩:=anj hz
 rcases(zw hc).1 (ai.1 hl c hc hlc)with hxc|⟨hd,_⟩
 · have:=ai.1 (hbk.sub hb) c hc hbc
   rw[db hc,hxc]at this;simp at this
 have hsc:(lb c).getLsbD c=true:=by rw[j3 hc hc];simp
 have e:=hbk.one hb hd hbc hsc;rw[e,j3 hc ha,decide_eq_true_iff]at hba;subst hba;rw[hlc]at hla;cases hla
def be3 {L:List AS} {c d:AS} (hc:c∈L) (hd:d∈L) (h:c≠d):1<L.length:=by
 match L with
 | []=>cases hc
 | [y] =>
  rw[btu]at hc hd;exact absurd (hc.trans hd.symm) h
 |_::_::t=>simp
def bds {L:List AS} (hnd:L.Nodup) (h:1<L.length):∃c∈L,∃d∈L,c≠d:=by
 match L with
 | []=>simp at h
 | [y]=>simp at h
 | c::d::t =>
  refine⟨c,by simp,d,by simp, ?_⟩;rintro rfl;simp at hnd
def bfo(hu:∀f∈l,sub f.lhs (a6 n)/\sub f.rhs (a6 n))(hp:sub p (a6 n))(hb:bsz p<=12):vBo (vt n l []) p=dx l p:=by
 have key:vBo (vt n l []) p=true<->∃x,sub x p/\¬p&&&~~~(w6 n l [] x)=0/\1<(qr n l [] x p).length:=by
  unfold vBo;constructor
  · intro h
    cases hv:vt n l [] p with
    |none=>rw[hv]at h;cases h
    | some v =>
     unfold vt at hv;obtain⟨x,hx,hv⟩:=bw5 hv;refine⟨x,ajc hx, ?_⟩;unfold a5s at hv;split at hv
     · cases hv
     split at hv
     · exact⟨by assumption,by assumption⟩
     cases hv
  rintro⟨x,hx,h1,h2⟩
  cases hv:vt n l [] p with
  |some v=>rfl
  | none =>
   unfold vt at hv;rw[List.findSome?_eq_none_iff]at hv;have:=hv x (by unfold b6;rw[if_neg bx5];exact qn.2 hx);unfold a5s at this;rw[if_neg h1,if_pos h2]at this;cases this
 rw[bv5,key,a78 hb];refine exists_congr fun x=>and_congr_right fun hxp=>?_;have hx:sub x (a6 n):=bz hxp hp;obtain⟨hbk,hsp⟩:=ag6 (ll l []) (a6 n&&&~~~x);have hcls:=bek hu hx;rw[hcls];have hbits:∀(Q:AS->Prop),True:=fun _=>trivial;unfold kw;rw[bt3,decide_eq_true_iff,decide_eq_true_iff];constructor
 · rintro ⟨h1,h2⟩
   obtain⟨a,ha,hpa,hca⟩:=apf h1 |>.elim fun a h=>(⟨a,h.1,by rw[db h.1,bt3]at h;exact h.2.1,by rw[db h.1,bt3]at h;simpa using h.2.2⟩:∃a,a<32/\p.getLsbD a=true/\(clo l x).getLsbD a=false)
   refine⟨fun e=>?_,fun e=>?_⟩
   · obtain ⟨c,hc,d,hd,hne⟩:=bds (by unfold qr;exact a8i _) h2
     obtain⟨b0,hb0,hz0,rfl⟩:=a5a.1 hc;obtain⟨b1,hb1,hz1,rfl⟩:=a5a.1 hd
     have no:∀b,b∈blks (ll l []) (a6 n&&&~~~x)->b&&&p≠0->¬sub b (clo l x):=fun b hb hz hs=>by
      obtain⟨i,hi,g1,g2⟩:=anj hz;have g3:=ai.1 (hbk.sub hb) i hi g1;rw[db hi,bt3]at g3;have g4:=congrArg (fun z:AS=>z.getLsbD i) e;simp only[bta,ai.1 hs i hi g1,g2]at g4;rw[<- g4]at g3;simp at g3
     have haR:((a6 n&&&~~~x)&&&~~~(clo l x)).getLsbD a=true:=by
      rw[db ha,db ha,ai.1 hp a ha hpa,hca]
      cases hxa:x.getLsbD a with
      |false=>rfl
      |true=>rw[ai.1 (jf (l:=l)) a ha hxa]at hca;cases hca
     have yes:∀b,b∈blks (ll l []) (a6 n&&&~~~x)->b&&&p≠0->b.getLsbD a=true:=fun b hb hz=>by
      rcases auh hu hx hb with h|h
      · exact absurd h (no b hb hz)
      exact ai.1 h a ha haR
     exact hne (by rw[hbk.one hb0 hb1 (yes _ hb0 hz0) (yes _ hb1 hz1)])
   have:=congrArg (fun z:AS=>z.getLsbD a) e;simp only[bta,hca,hpa]at this;simp at this
 rintro⟨h1,h2⟩
 have hz:¬p&&&~~~(clo l x)=0:=fun e=>h2 (t8 fun i hi=>by
  have:=congrArg (fun z:AS=>z.getLsbD i) e;simp only[db hi]at this;rw[bta]
  cases hpi:p.getLsbD i with
  |false=>simp
  | true=>rw[hpi]at this;cases hci:(clo l x).getLsbD i with
   |true=>rfl
   |false=>rw[hci]at this;simp at this)
 refine⟨hz, ?_⟩;obtain⟨a,ha,hpa⟩:=apf hz;rw[db ha,bt3,btv]at hpa;obtain⟨hpa,hca⟩:=hpa
 have:∃e,e<32/\p.getLsbD e=true/\(clo l x).getLsbD e=true/\x.getLsbD e=false:=by
  apply Classical.byContradiction;intro hn;refine h1 (t8 fun i hi=>?_);rw[bta]
  cases hxi:x.getLsbD i with
  |true=>rw[ai.1 (jf (l:=l)) i hi hxi,ai.1 hxp i hi hxi];rfl
  | false =>
   cases hci:(clo l x).getLsbD i with
   |false=>rfl
   | true =>
    cases hpi:p.getLsbD i with
    |false=>rfl
    |true=>exact absurd ⟨i,hi,hpi,hci,hxi⟩ hn
 obtain⟨e,he,hpe,hce,hxe⟩:=this
 have hd:aez l (blks (ll l []) (a6 n&&&~~~x)) e:=by
  rcases(zw (n:=n) (l:=l) (m:=[]) (x:=x) he).1 (by rw[hcls];exact hce)with h|h
  · rw[hxe]at h;cases h
  exact h
 have hse:(lb e).getLsbD e=true:=by rw[j3 he he];simp
 have hxa:x.getLsbD a=false:=by
  cases hxa:x.getLsbD a with
  |false=>rfl
  |true=>rw[ai.1 (jf (l:=l)) a ha hxa]at hca;cases hca
 obtain⟨b,hb,hba⟩:=hbk.cov (a:=a) (by rw[db ha,ai.1 hp a ha hpa,hxa];rfl);refine be3 (c:=lb e&&&p) (d:=b&&&p) (a5a.2 ⟨_,hd.1,fun h=>?_,rfl⟩) (a5a.2 ⟨_,hb,fun h=>?_,rfl⟩) fun h=>?_
 · have:=a62.1 h e he hse
   rw[hpe]at this;cases this
 · have:=a62.1 h a ha hba
   rw[hpa]at this;cases this
 have:=congrArg (fun z:AS=>z.getLsbD a) h;simp only[bta,hba,hpa,Bool.and_true]at this;rw[j3 he ha,decide_eq_true_iff]at this;subst this;rw[hce]at hca;cases hca
end
end
section
section
variable {n:Int}{l:List Fd}
def b7t(h:aw n l=0)(h6:n<=6):bcS n l=!dx l (a6 n):=by rw[b7v h,b6o h bx5]
def arx (h:aw n l=0) (h6:n<=6):is4 n l []=bcS n l/\ck4 n l [] 0=0:=by
 obtain⟨h0,h16,h64,hu⟩:=d9 h;have hb:eo n l []=0:=by unfold eo;rw[if_pos h];simp
 have hk:ck4 n l [] 0=0:=by rw[a5g bx5,aag hb bx8]
 have hkf:ck4 n l [] (a6 n)=0:=by
  rw[a5g bx5,aag hb];exact(s8 (s:=a6 n) (n:=n.toNat) bx5).1 (by unfold a6;rw[bua bx5];exact dw _)
 have hbz:=a0n (n:=n) (m:=8) bx5 bx5;refine⟨?_,hk⟩;have hv:=bfo (n:=n) (l:=l) (p:=a6 n) (fun f hf=>(a38 h0 h16).1 (btl.1 hu f hf)) (dw _) bx5;rw[b7t h h6,<- hv];unfold is4;rw[if_pos hk,a6m hkf];rfl
def b5b (h:aw n l=0) (h6:n<=6) (hb:bcS n l=true):tq n l=[]:=by
 rw[b7t h h6]at hb;have hbz:=a0n (n:=n) (m:=8) bx5 bx5;have:=an2 (p:=a6 n) (l:=l) bx5 (by simpa using hb);rw[aog h]at this;exact of_decide_eq_true this
def bjg (h:aw n l=0) (h3:tq n l=[]):adk n l=true:=by
 rw[ams h (ap3 h (by rw[aog h];exact decide_eq_true h3))]
end
end
section
open Go.Proofs
def q8(n:Int)(q:BitVec 8):AS:=q.setWidth 32&&&a6 n
end
section
open Go.Proofs
def b78 {n:Int} {l:List Fd} {p:AS} (hv:aw n l=0) (hs:sub p (a6 n)):a7 bxr 71 [pI n,pP (fdl l),pA p] (ae [pB (ew l p),pI 0]):=by
 have h:=bbl n l p;have e1:yz n l p=0:=by unfold yz;rw[if_pos hv,if_pos hs]
 have e2:a4z n l p=ew l p:=by unfold a4z;rw[decide_eq_true e1,bu0]
 rw[e1,e2]at h;exact h
def bs7(a b:List Fd):Int:=let i:=idx (fun f=>!imp a f) b;if i<0 then 0 else i
end
end Go.Hx
