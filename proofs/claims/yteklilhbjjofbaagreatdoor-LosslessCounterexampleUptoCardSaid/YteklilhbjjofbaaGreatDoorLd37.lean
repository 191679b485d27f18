/- A part of the proof: Jrw7. -/
import Derived.Test.YteklilhbjjofbaaGreatDoorLd36
set_option linter.all false
set_option maxRecDepth 100000
namespace Go.Hx
section
open Go.Proofs
section
variable {n:Int} {ps:List AS} {p m:List Fd}
def aym (h0:0 <= n) (ps:List AS) (p m:List Fd):a8 b98 28 [pI n,pP (asl ps),pP (fdl p),pP (fdl m)] (ae [(fz n ps p m).pc,pI (lb n ps p m)]):=by
 obtain ⟨N,rfl⟩:=Int.eq_ofNat_of_zero_le h0;exact b0m N ps p m
def ayp (h:lb n ps p m = 0):lsC n ps p m = 0 /\ ig n (lsT n ps p m).2.1.2 = false:=by
 unfold lb at h;by_cases h1:lsC n ps p m = 0
 · rw [if_neg (by simp [h1])] at h
   refine ⟨h1, ?_⟩
   cases h2:ig n (lsT n ps p m).2.1.2 with
   | false=>rfl
   | true=>rw [if_pos h2] at h;cases h
 rw [if_pos h1] at h;exact absurd h h1
structure axb (n:Int) (ps:List AS) (p m:List Fd) (t:Tbl):Prop where
 tok:TOk t
 fd:∀ d ∈ p,fdB t d = true
 mv:∀ d ∈ m,mvB t d = true
 je:jo t ps = 0
 lt:t.rows.length < (jp t ps).rows.length
 no:vj (jp t ps) t = false
 ok:(jp t ps).ok
 hm:∀ j,j < m.length -> sub ((m.getD j default).lhs ||| (m.getD j default).rhs) (b6 t.attrs.length)
def ar9 (h0:0 <= n) (h4:n <= 4) (hps:ps.length <= 3) (h:lb n ps p m = 0):axb n ps p m (fz n ps p m):=by
 obtain ⟨N,rfl⟩:=Int.eq_ofNat_of_zero_le h0;obtain ⟨hls,hf⟩:=ayp h;obtain ⟨c1,c2,c3,c4,c5,c6,c7,c8⟩:=aty b8i hps hls hf;refine ⟨c1,c2,c3,c4,c5,c6,c7,fun j hj=>?_⟩;rw [c8];obtain ⟨_,hb⟩:=a0x hls;obtain ⟨_,_,_,_,_,hmu⟩:=oj hb;have h1:=b5u.1 hmu (m.getD j default) (by rw [ca _ _ hj];exact b5l hj);obtain ⟨h2,h3⟩:=(od b8i b8i).1 h1;refine dj.2 fun i hi hh=>?_;rw [b7g,b6r] at hh
 rcases hh with hh | hh
 · exact dj.1 h2 i hi hh
 exact dj.1 h3 i hi hh
def ay0 (h0:0 <= n) (h4:n <= 4) (hps:ps.length <= 3):(fz n ps p m).ok:=by
 by_cases h:lb n ps p m = 0
 · exact (ar9 h0 h4 hps h).tok.ok
 have e:fz n ps p m = T0:=if_neg h;rw [e];exact ⟨b5h _,b5h _,fun j hj=>absurd hj (b5i j)⟩
def a26 {t:Tbl} (h:axb n ps p m t):(bif bif bif (p.all (fdB t) && m.all (mvB t)) then decide (jo t ps = 0) else false then decide ((t.rows.length:Int) < ((jp t ps).rows.length:Int)) else false then !vj (jp t ps) t else false) = true:=by
 rw [b5u.2 h.fd,b5u.2 h.mv,decide_eq_true h.je,decide_eq_true (show (t.rows.length:Int) < ((jp t ps).rows.length:Int) by have:=h.lt;omega),h.no];rfl
end
def az1 (d:Rcp) (hf:d.f.length <= 16777216) (hm:d.m.length <= 16777216) (hp:d.p.length <= 16777216):a8 b98 6 [d.pc] (ae [pB true]):=by
 refine hpx (nt:=97) Tryz.func6 ?_;refine sx7 ?_;refine m9 0 ?_;refine w_5 ?_;refine qcx (wgx Tryz.func15) (b1w d hf hm hp) ?_;refine pl ?_;refine qcx (wgx Tryz.func11) (abd) ?_;refine w_6 ?_;refine hcv (fun h0=>?_) (fun h0=>?_)
 · refine sx7 ?_;refine qcx (wgx Tryz.func11) (abd) ?_;refine v_2 ?_;exact CoL.refl _
 have hok:d.f.length <= 4 /\ d.m.length <= 4 /\ d.p.length <= 3:=by simp_all
 have hfl:(d.fs 4).length <= 4:=by unfold Rcp.fs;rw [b64];exact hok.1
 have hml:(d.ms 4).length <= 4:=by unfold Rcp.ms;rw [b64];exact hok.2.1
 have hpl:(d.ps 4).length <= 3:=by unfold Rcp.ps;rw [b64];exact hok.2.2
 have hwl:=(ape (n:=(d.num 4)) (ps:=(d.ps 4)) (k:=3) hpl b8i).1;have hn0:0 <= (d.num 4):=by unfold Rcp.num;omega
 have hn4:(d.num 4) <= 4:=by unfold Rcp.num;omega
 have hTok:(fz (d.num 4) (fm (d.num 4) (d.ps 4)) (d.fs 4) (d.ms 4)).ok:=ay0 hn0 hn4 hwl;refine w_5 ?_;refine qcx (wgx Tryz.func16) (az0 (d.num 4) (d.ps 4) b8i) ?_;refine w_6 ?_;refine qcx aye (aqe (fm (d.num 4) (d.ps 4)).length false (lf sC (fm (d.num 4) (d.ps 4))) b8i) ?_;refine qy ?_;refine qcx (wgx Tryz.func18) (aq3 (d.fs 4).length false (lf Fd.c (d.fs 4)) b8i) ?_;refine qy ?_;refine qcx awx (asn (d.ms 4).length false (lf Fd.c (d.ms 4)) b8i) ?_;refine qcx (wgx Tryz.func27) (ayc (d.num 4) (fm (d.num 4) (d.ps 4)) (d.fs 4) (d.ms 4)) ?_;refine w_3 ?_;refine m9 1 ?_;refine w_9 ?_;refine qcx (wgx Tryz.func28) (aym hn0 (fm (d.num 4) (d.ps 4)) (d.fs 4) (d.ms 4)) ?_;refine w_3 ?_;refine m9 2 ?_;refine df ?_;refine aa rfl rfl (fun r1=>?_) (fun r1=>?_)
 · have h1:=tz2 (d6 r1);exfalso;simp at r1
 have h1:=tz1 (d5 r1);(iterate 2 refine qy ?_ (hg:=(gff r1)));refine qcx (wgx Tryz.func29) (c47 (fz (d.num 4) (fm (d.num 4) (d.ps 4)) (d.fs 4) (d.ms 4)) (fz (d.num 4) (fm (d.num 4) (d.ps 4)) (d.fs 4) (d.ms 4)) hTok hTok) ?_ (hg:=(gff r1))
 refine qy ?_ (hg:=(gff r1));refine w_2 ?_;refine ag _ rfl (fun r2=>?_) (fun r2=>?_)
 · have h2:=d6 (ab r1 r2);exfalso;simp at r2
 have h2:=d5 (ab r1 r2);refine w_7 ?_;refine aa rfl rfl (fun r3=>?_) (fun r3=>?_)
 ·
  have h3:=tz2 (d6 r3);(iterate 4 refine k9 (gtf r3) ?_);refine w_7 ?_
  exact hx8 rfl rfl rfl (CoL.refl _)
 have h3:=tz1 (d5 r3);(iterate 4 refine qy ?_ (hg:=(gff r3)));refine w_2 ?_;refine ag _ rfl (fun r4=>?_) (fun r4=>?_)
 · have h4:=tz1 (ab r3 r4);refine v_4 ?_;exact CoL.refl _
 have h4:=tz2 (ab r3 r4);have hez:lb (d.num 4) (fm (d.num 4) (d.ps 4)) (d.fs 4) (d.ms 4) = 0:=by simp_all
 have hC:=ar9 hn0 hn4 hwl hez;refine w_5 ?_;refine qcx (wgx Tryz.func30) (ah5 (fz (d.num 4) (fm (d.num 4) (d.ps 4)) (d.fs 4) (d.ms 4)) (fm (d.num 4) (d.ps 4))) ?_;refine w_3 ?_;refine m9 3 ?_;refine w_8 ?_;refine qcx (wgx Tryz.func31) (apm (fz (d.num 4) (fm (d.num 4) (d.ps 4)) (d.fs 4) (d.ms 4)) (d.fs 4) (d.ms 4) hC.tok hC.hm) ?_;refine qy ?_;refine aa rfl rfl (fun r5=>?_) (fun r5=>?_)
 ·
  have h5:=r5;(iterate 2 refine qy ?_ (hg:=(gtt r5)));refine w_2 ?_;refine aa rfl rfl (fun r6=>?_) (fun r6=>?_)
  ·
   have h6:=tz1 (bd r5 r6);(iterate 7 refine qy ?_ (hg:=(gtt r6)));refine w_2 ?_;refine aa rfl rfl (fun r7=>?_) (fun r7=>?_)
   · have h7:=tz1 (bd r6 r7);(iterate 2 refine qy ?_ (hg:=(gtt r7)));refine qcx (wgx Tryz.func32) (ax8 (jp (fz (d.num 4) (fm (d.num 4) (d.ps 4)) (d.fs 4) (d.ms 4)) (fm (d.num 4) (d.ps 4))) (fz (d.num 4) (fm (d.num 4) (d.ps 4)) (d.fs 4) (d.ms 4)) hC.ok hTok) ?_ (hg:=(gtt r7));refine qy ?_ (hg:=(gtt r7));refine v_3 ?_;exact ⟨ccb (by first | exact a26 hC | (have h1:=b5u.2 hC.fd;have h2:=b5u.2 hC.mv;have h3:=hC.je;have h4:=hC.no;have h5:=hC.lt;simp_all)),trivial⟩
   have h7:=tz2 (bd r6 r7);(iterate 4 refine k9 (gft r7) ?_);refine w_3 ?_
   exact hx8 rfl rfl rfl (⟨ccb (by first | exact a26 hC | (have h1:=b5u.2 hC.fd;have h2:=b5u.2 hC.mv;have h3:=hC.je;have h4:=hC.no;have h5:=hC.lt;simp_all)),trivial⟩)
  have h6:=tz2 (bd r5 r6);(iterate 7 refine k9 (gft r6) ?_);refine w_2 ?_;(iterate 4 refine k9 rfl ?_);refine w_3 ?_
  exact hx8 rfl rfl rfl (⟨ccb (by first | exact a26 hC | (have h1:=b5u.2 hC.fd;have h2:=b5u.2 hC.mv;have h3:=hC.je;have h4:=hC.no;have h5:=hC.lt;simp_all)),trivial⟩)
 have h5:=r5;(iterate 2 refine k9 (gft r5) ?_);refine w_2 ?_;(iterate 7 refine k9 rfl ?_);refine w_2 ?_;(iterate 4 refine k9 rfl ?_);refine w_3 ?_
 exact hx8 rfl rfl rfl (⟨ccb (by first | exact a26 hC | (have h1:=b5u.2 hC.fd;have h2:=b5u.2 hC.mv;have h3:=hC.je;have h4:=hC.no;have h5:=hC.lt;simp_all)),trivial⟩)
end
end Go.Hx
