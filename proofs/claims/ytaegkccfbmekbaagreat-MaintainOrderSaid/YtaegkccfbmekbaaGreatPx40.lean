/- A part of the proof: Mw18 Ms10 Mw19 Ms11 Mw20. -/
import Derived.Test.YtaegkccfbmekbaaGreatPx39
set_option linter.all false
section
namespace Go.Hx
open Go.Proofs
set_option maxRecDepth 100000
set_option maxHeartbeats 1000000
theorem akc (t:Tbl) (a r:List Fd) (w:Row) (hk:ROk t a r) (he:dh t w = 0):cg Tryz.prog 33 [.one (.ptr 1000 0), .one (.p (.raw (.int .i64 (w.id))))] (qe (mst t (ap t) a r) w).objs (.v (.one (.p (.raw (.int .i64 (0)))))) (mst t (ap t) (dA t (ck t w)) (dA (ck t w) t)).objs [1000]:=by
 have hn:(ck t w).attrs.length ≤ 8:=by rw [a6l he];exact hk.na
 have hd:=aq8 he
 have h:=ama (ck t w) (ap (ck t w)) (dl (ap (ck t w)) (ap t)) (dl (ap t) (ap (ck t w))) (um (tf he).1) hn (du hn) w.id
 rw [hd.1,show a0l (mst (ck t w) (ap (ck t w)) (dl (ap (ck t w)) (ap t)) (dl (ap t) (ap (ck t w)))) w.id = _ from hd.2] at h
 rw [ain he]
 exact h
theorem aaa (t:Tbl) (a r:List Fd) (id b:Int) (v:Val) (hk:ROk t a r) (he:c8 t id b v = 0):cg Tryz.prog 36 [.one (.ptr 1000 0), .agg [.p (.raw (.int .i64 id)), .p (.raw (.int .i64 b))],v.pc.toH] (mst t (ap t) a r).objs (.v (.one (.p (.raw (.int .i64 (0)))))) (kb (chT t id b v) (ap t)).objs [1000]:=by
 have h:=aln t (ap t) a r hk.ok hk.na (du hk.na) id b v
 rw [he,show mCh (mst t (ap t) a r) id b v = kb (chT t id b v) (ap t) from if_pos he] at h
 exact h
theorem adz (t:Tbl) (a r:List Fd) (id b:Int) (v:Val) (hk:ROk t a r) (he:c8 t id b v = 0):cg Tryz.prog 36 [.one (.ptr 1000 0), .agg [.p (.raw (.int .i64 id)), .p (.raw (.int .i64 b))],(uv t id b).pc.toH] (kb (chT t id b v) (ap t)).objs (.v (.one (.p (.raw (.int .i64 (0)))))) (mst t (ap t) (dA t (chT t id b v)) (dA (chT t id b v) t)).objs [1000]:=by
 have hn:(chT t id b v).attrs.length ≤ 8:=by rw [acb he];exact hk.na
 have hd:=adv he
 have h:=aln (chT t id b v) (ap (chT t id b v)) (dl (ap (chT t id b v)) (ap t)) (dl (ap t) (ap (chT t id b v))) (a19 he) hn (du hn) id b (uv t id b)
 rw [hd.1,show mCh (mst (chT t id b v) (ap (chT t id b v)) (dl (ap (chT t id b v)) (ap t)) (dl (ap t) (ap (chT t id b v)))) id b (uv t id b) = _ from auw he] at h
 exact h
theorem ath (x:Scr) (o:MOp) (hx:12 < x.ops.length):al Tryz.prog 8 [x.pc,o.pc] (az [pB true]):=by
 refine ag (nt:=120) ae Tryz.func8 rfl rfl l9 ?_;refine sx7 ?_;refine m9 0 ?_;refine m9 1 ?_;refine qy ?_;refine a6 ?_;refine a7 ?_;refine sx7 ?_
 refine rc rfl rfl rfl rfl rfl rfl ur (nu) (CoL.refl _) rfl rfl ?_;refine qy ?_;refine a6 ?_;refine a8 _ rfl (fun r0=>?_) (fun r0=>?_)
 ·
  have h0:=r0
  have h0:=b8 h0
  exfalso
  first | (simp_all;done) | omega | (simp_all;omega)
 ·
  have h0:=r0
  have h0:=b9 h0
  refine aa ?_;refine sx7 ?_;refine qy ?_;refine ax rfl rfl rfl rfl rfl rfl ai9 (amx x hx) (bo.refl _) trivial rfl rfl ?_;(iterate 4 refine qy ?_);refine m9 2 ?_;refine qy ?_;refine s9 ?_;refine qy ?_
  refine a6 ?_;refine a7 ?_;refine sx7 ?_;(iterate 2 refine qy ?_);refine a6 ?_;refine a8 _ rfl (fun r1=>?_) (fun r1=>?_)
  ·
   have h1:=r1
   have h1:=b8 h1
   refine sx7 ?_;(iterate 5 refine qy ?_);refine a6 ?_
   exact hx8 rfl rfl rfl (⟨ccb (decide_eq_true (by omega)),trivial⟩)
  ·
   have h1:=r1
   have h1:=b9 h1
   exfalso
   first | (simp_all;done) | omega | (simp_all;omega)
theorem ar0 (x:Scr) (o:MOp) (hx:¬ 12 < x.ops.length):al Tryz.prog 8 [x.pc,o.pc] (az [pB true]):=by
 refine ag (nt:=120) ae Tryz.func8 rfl rfl l9 ?_;refine sx7 ?_;refine m9 0 ?_;refine m9 1 ?_;refine qy ?_;refine a6 ?_;refine a7 ?_;refine sx7 ?_
 refine rc rfl rfl rfl rfl rfl rfl ur (nu) (CoL.refl _) rfl rfl ?_;refine qy ?_;refine a6 ?_;refine a8 _ rfl (fun r0=>?_) (fun r0=>?_)
 ·
  have h0:=r0
  have h0:=b8 h0
  exfalso
  first | (simp_all;done) | omega | (simp_all;omega)
 ·
  have h0:=r0
  have h0:=b9 h0
  refine aa ?_;refine sx7 ?_;refine qy ?_;refine ax rfl rfl rfl rfl rfl rfl ai9 (anp x hx) (bo.refl _) trivial rfl rfl ?_;(iterate 4 refine qy ?_);refine m9 2 ?_;refine qy ?_;refine s9 ?_;refine qy ?_
  refine a6 ?_;refine a7 ?_;refine sx7 ?_;(iterate 2 refine qy ?_);refine a6 ?_;refine a8 _ rfl (fun r1=>?_) (fun r1=>?_)
  ·
   have h1:=r1
   have h1:=b8 h1
   exfalso
   first | (simp_all;done) | omega | (simp_all;omega)
  ·
   have h1:=r1
   have h1:=b9 h1
   refine aa ?_;refine a7 ?_;refine sx7 ?_;(iterate 4 refine qy ?_);refine a6 ?_;refine af ?_
   refine av (ι:=(Nat × Tbl × List Fd × List Fd)) ⟨[(3,some _),(5,some _),(6,some _),(32,some _),(33,some _)],[(1,some _)]⟩ ⟨⟨c9,c9,c9,c9,c9,trivial⟩,⟨u9,trivial⟩⟩ (fun q=>⟨[(34,some (vI q.1))],[(2,some (.box [.p (q.2.1.c 0), .p (q.2.1.c 1), .p (q.2.1.c 2)])),(902,some (ak6 q.2.1 (ap q.2.1) q.2.2.1 q.2.2.2)),(901,some (ag2 (db q.2.1.rows)))]⟩) (fun q=>q.1 ≤ x.ops.length ∧ ROk q.2.1 q.2.2.1 q.2.2.2) (fun q=>x.ops.length - q.1) ((0,(fq sR (nmS x)),[],[])) (⟨Nat.zero_le _,ROk.new x⟩) ⟨⟨zy,trivial⟩,⟨u9,u9,u9,trivial⟩⟩ ?_
   rintro ⟨i,t,a,r⟩ ⟨hi,hk⟩
   dsimp only at hi hk ⊢
   refine sx7 ?_;refine qy ?_;refine a6 ?_;refine a7 ?_;refine a8 _ rfl (fun r2=>?_) (fun r2=>?_)
   ·
    have h2:=of_decide_eq_true r2
    try simp only [ty] at h2
    refine aa ?_;refine a7 ?_;refine af ?_;refine sx7 ?_;(iterate 2 refine qy ?_);refine m9 3 ?_;refine s9 ?_;refine a6 ?_;refine sx7 ?_;(iterate 5 refine qy ?_)
    refine ax rfl rfl rfl rfl rfl rfl at3 ((auq t a r hk (x.ops.getD i default)).swap 1000 902) (bo.refl _) ⟨u9,u9,trivial⟩ rfl rfl ?_;refine a6 ?_;refine gy ?_;(iterate 2 refine qy ?_)
    refine rc rfl rfl rfl rfl rfl rfl atg (ajq t (x.ops.getD i default) (by have:=hk.na;omega)) (CoL.refl _) rfl rfl ?_;(iterate 3 refine qy ?_);refine s9 ?_;refine a6 ?_;refine gy ?_;(iterate 2 refine qy ?_)
    refine a6 ?_;refine ⟨(i + 1,opT t (x.ops.getD i default),nxA t (x.ops.getD i default) a,nxR t (x.ops.getD i default) r), ?_, ?_, ?_⟩
    · exact ⟨by dsimp only;omega,hk.op _⟩
    · first | omega | (dsimp only;omega)
    · exact ⟨⟨zy,c9,c9,c9,c9,c9,trivial⟩,⟨u9,u9,u9,u9,trivial⟩⟩
   ·
    have h2:=of_decide_eq_false r2
    try simp only [ty] at h2
    have hid8:=o.id.toNat_lt
    have hat8:=o.attr.toNat_lt
    have hb0:0 ≤ (ge t.attrs.length o):=Int.emod_nonneg _ (by omega)
    refine aq ?_;refine sx7 ?_;(iterate 4 refine qy ?_);refine a6 ?_;refine sx7 ?_;refine qy ?_
    refine ax rfl rfl rfl rfl rfl rfl mz ((qh t (ap t) a r (du hk.na) hk.la hk.lr).swap 1000 902) (bo.refl _) ⟨u9,u9,trivial⟩ rfl rfl ?_;refine qy ?_;refine a6 ?_;refine a7 ?_;refine sx7 ?_
    (iterate 2 refine qy ?_);refine rc rfl rfl rfl rfl rfl rfl aci (abz t.attrs.length o (by have:=hk.na;omega)) (CoL.refl _) rfl rfl ?_;refine m9 4 ?_;refine s9 ?_;refine a6 ?_;refine sx7 ?_
    (iterate 2 refine qy ?_);refine ax rfl rfl rfl rfl rfl rfl a00 ((a4w t (ap t) a r hk.ok hk.na (du hk.na) (ja t.attrs.length o)).swap 1000 902) (bo.refl _) ⟨u9,u9,trivial⟩ rfl rfl ?_
    (iterate 2 refine qy ?_);refine b4 rfl rfl (fun r3=>?_) (fun r3=>?_)
    ·
     have h3:=of_decide_eq_true r3
     try simp only [ty] at h3
     have he:dh t (ja t.attrs.length o) = 0:=h3
     obtain ⟨a2,r2,hk2,e2⟩:=bkA (t2:=ck t (ja t.attrs.length o)) hk (by rw [a6l he];exact hk.na)
     (iterate 3 refine qy ?_ (hg:=(gtt r3)));refine ax rfl rfl rfl rfl rfl rfl ags ((akc t a r (ja t.attrs.length o) hk he).swap 1000 902) (bo.refl _) ⟨u9,u9,trivial⟩ rfl (gtt r3) ?_
     refine qy ?_ (hg:=(gtt r3));refine qy ?_;refine a6 ?_
     rw [e2]
     refine a8 _ rfl (fun r4=>?_) (fun r4=>?_)
     ·
      have h4:=r4
      have h4:=ci r3 h4
      have h4:=of_decide_eq_false (b8 h4)
      try simp only [ty] at h4
      exfalso
      first | (simp_all;done) | omega | (simp_all;omega)
     ·
      have h4:=r4
      have h4:=ci r3 h4
      have h4:=of_decide_eq_true (b9 h4)
      try simp only [ty] at h4
      refine aa ?_;refine a7 ?_;refine sx7 ?_;(iterate 2 refine qy ?_);refine rc rfl rfl rfl rfl rfl rfl a5m (a1f t.attrs.length o (by have:=hk.na;omega)) (CoL.refl _) rfl rfl ?_
      (iterate 3 refine qy ?_);refine m9 5 ?_;refine m9 6 ?_;(iterate 2 refine s9 ?_);refine a6 ?_;refine sx7 ?_;(iterate 4 refine qy ?_);refine a6 ?_;refine a8 _ rfl (fun r5=>?_) (fun r5=>?_)
      ·
       have h5:=of_decide_eq_true r5
       try simp only [ty] at h5
       have hb1:(ge t.attrs.length o) < (t.attrs.length:Nat):=h5
       refine sx7 ?_;(iterate 3 refine qy ?_);refine rc rfl rfl rfl rfl rfl rfl zl (c62 t (dv o)) (CoL.refl _) rfl rfl ?_;(iterate 5 refine qy ?_);refine a6 ?_;refine a7 ?_
       refine ay (E:=b5) ae ak [0,1,2,3,4,5,6,7,8,9,10,11,12,13,14,15,16,17,18,19,20,21,22,23] ?_;(iterate 2 refine qy ?_);refine b4 rfl rfl (fun r6=>?_) (fun r6=>?_)
       ·
        have h6:=r6
        have hf:0 ≤ am t.rows (dv o):=by simpa using r6
        have hm0:0 ≤ max (am t.rows (dv o)) 0:=by omega
        have hm1:max (am t.rows (dv o)) 0 < (t.rows.length:Int):=by have:=oq hf;omega
        have hv1:(ge t.attrs.length o) < (((t.rows.getD (max (am t.rows (dv o)) 0).toNat default).vals.length:Nat):Int):=by rw [hk.ok.width (oq hf)];exact hb1
        have hce:c8 t (dv o) (ge t.attrs.length o) (gj o) = 0:=af3 hk.ok hf hb0 hb1 (aau o)
        obtain ⟨a3,r3,hk3,e3⟩:=bkA (t2:=chT t (dv o) (ge t.attrs.length o) (gj o)) hk2 (by rw [acb hce];exact hk.na)
        (iterate 3 refine qy ?_ (hg:=(gtt r6)))
        refine ax rfl rfl rfl rfl rfl rfl zk ((aaa t a2 r2 (dv o) (ge t.attrs.length o) (gj o) hk2 hce).swap 1000 902) (bo.refl _) ⟨u9,u9,trivial⟩ rfl (gtt r6) ?_
        (iterate 2 refine qy ?_ (hg:=(gtt r6)));refine b4 rfl rfl (fun r7=>?_) (fun r7=>?_)
        ·
         have h7:=r7
         have h7:=of_decide_eq_false (b8 h7)
         try simp only [ty] at h7
         exfalso
         first | (simp_all;done) | omega | (simp_all;omega)
        ·
         have h7:=r7
         have h7:=of_decide_eq_true (b9 h7)
         try simp only [ty] at h7
         (iterate 12 refine qy ?_ (hg:=(gff r7)))
         refine ax rfl rfl rfl rfl rfl rfl zk ((adz t a2 r2 (dv o) (ge t.attrs.length o) (gj o) hk2 hce).swap 1000 902) (bo.refl _) ⟨u9,u9,trivial⟩ rfl (gff r7) ?_;refine qy ?_ (hg:=(gff r7))
         refine qy ?_ (hg:=(gtt r6));refine qy ?_;refine a6 ?_;refine ⟨by kernel_rfl, ?_⟩;refine a8 _ rfl (fun r8=>?_) (fun r8=>?_)
         ·
          have h8:=r8
          have h8:=ci r6 h8
          have h8:=bp r7 h8
          have h8:=of_decide_eq_false (b8 h8)
          try simp only [ty] at h8
          exfalso
          first | (simp_all;done) | omega | (simp_all;omega)
         ·
          have h8:=r8
          have h8:=ci r6 h8
          have h8:=bp r7 h8
          have h8:=of_decide_eq_true (b9 h8)
          try simp only [ty] at h8
          refine aa ?_;refine a7 ?_
          rw [e3]
          refine gy ?_;(iterate 2 refine qy ?_);refine ax rfl rfl rfl rfl rfl rfl tt ((ui t a3 r3 hk3.ok hk3.na hk3.nr hk3.la hk3.lr).swap 1000 902) (bo.refl _) ⟨u9,u9,trivial⟩ rfl rfl ?_;refine qy ?_
          refine b4 rfl rfl (fun r9=>?_) (fun r9=>?_)
          ·
           have h9:=r9
           refine qy ?_ (hg:=(gtt r9));refine ax rfl rfl rfl rfl rfl rfl mz ((qh t (ap t) a3 r3 (du hk3.na) hk3.la hk3.lr).swap 1000 902) (bo.refl _) ⟨u9,u9,trivial⟩ rfl (gtt r9) ?_
           refine qy ?_ (hg:=(gtt r9));refine rc rfl rfl rfl rfl rfl rfl n7 (n4 (ap t) (ap t)) (CoL.refl _) rfl (gtt r9) ?_;(iterate 2 refine qy ?_);refine a6 ?_
           exact hx8 rfl rfl rfl (⟨ccb (by first | rfl | simp_all),trivial⟩)
          ·
           have h9:=r9
           (iterate 4 refine k9 (gft r9) ?_);refine rq rfl rfl rfl rfl rfl ?_ (hp:=r9);refine qy ?_;refine a6 ?_
           exact hx8 rfl rfl rfl (⟨ccb (by first | rfl | simp_all),trivial⟩)
       ·
        have h6:=r6
        obtain ⟨a3,r3,hk3,e3⟩:=bkC hk2
        (iterate 6 refine k9 (gft r6) ?_);(iterate 14 refine k9 rfl ?_);refine k9 (gft r6) ?_;refine rq rfl rfl rfl rfl rfl ?_ (hp:=r6);refine a6 ?_;refine ⟨by kernel_rfl, ?_⟩
        refine a8 _ rfl (fun e=>by cases e) (fun _=>?_);refine aa ?_;refine a7 ?_
        rw [e3]
        refine gy ?_;(iterate 2 refine qy ?_);refine ax rfl rfl rfl rfl rfl rfl tt ((ui t a3 r3 hk3.ok hk3.na hk3.nr hk3.la hk3.lr).swap 1000 902) (bo.refl _) ⟨u9,u9,trivial⟩ rfl rfl ?_;refine qy ?_
        refine b4 rfl rfl (fun r10=>?_) (fun r10=>?_)
        ·
         have h10:=r10
         refine qy ?_ (hg:=(gtt r10));refine ax rfl rfl rfl rfl rfl rfl mz ((qh t (ap t) a3 r3 (du hk3.na) hk3.la hk3.lr).swap 1000 902) (bo.refl _) ⟨u9,u9,trivial⟩ rfl (gtt r10) ?_
         refine qy ?_ (hg:=(gtt r10));refine rc rfl rfl rfl rfl rfl rfl n7 (n4 (ap t) (ap t)) (CoL.refl _) rfl (gtt r10) ?_;(iterate 2 refine qy ?_);refine a6 ?_
         exact hx8 rfl rfl rfl (⟨ccb (by first | rfl | simp_all),trivial⟩)
        ·
         have h10:=r10
         (iterate 4 refine k9 (gft r10) ?_);refine rq rfl rfl rfl rfl rfl ?_ (hp:=r10);refine qy ?_;refine a6 ?_
         exact hx8 rfl rfl rfl (⟨ccb (by first | rfl | simp_all),trivial⟩)
      ·
       have h5:=of_decide_eq_false r5
       try simp only [ty] at h5
       obtain ⟨a3,r3,hk3,e3⟩:=bkC hk2
       refine aa ?_;refine a7 ?_
       rw [e3]
       refine gy ?_;(iterate 2 refine qy ?_);refine ax rfl rfl rfl rfl rfl rfl tt ((ui t a3 r3 hk3.ok hk3.na hk3.nr hk3.la hk3.lr).swap 1000 902) (bo.refl _) ⟨u9,u9,trivial⟩ rfl rfl ?_;refine qy ?_
       refine b4 rfl rfl (fun r11=>?_) (fun r11=>?_)
       ·
        have h11:=r11
        refine qy ?_ (hg:=(gtt r11));refine ax rfl rfl rfl rfl rfl rfl mz ((qh t (ap t) a3 r3 (du hk3.na) hk3.la hk3.lr).swap 1000 902) (bo.refl _) ⟨u9,u9,trivial⟩ rfl (gtt r11) ?_
        refine qy ?_ (hg:=(gtt r11));refine rc rfl rfl rfl rfl rfl rfl n7 (n4 (ap t) (ap t)) (CoL.refl _) rfl (gtt r11) ?_;(iterate 2 refine qy ?_);refine a6 ?_
        exact hx8 rfl rfl rfl (⟨ccb (by first | rfl | simp_all),trivial⟩)
       ·
        have h11:=r11
        (iterate 4 refine k9 (gft r11) ?_);refine rq rfl rfl rfl rfl rfl ?_ (hp:=r11);refine qy ?_;refine a6 ?_
        exact hx8 rfl rfl rfl (⟨ccb (by first | rfl | simp_all),trivial⟩)
    ·
     have h3:=of_decide_eq_false r3
     try simp only [ty] at h3
     have he:¬ dh t (ja t.attrs.length o) = 0:=by simpa using h3
     obtain ⟨a2,r2,hk2,e2⟩:=bkB hk he
     (iterate 5 refine k9 (gft r3) ?_);refine rq rfl rfl rfl rfl rfl ?_ (hp:=r3);refine a6 ?_
     rw [e2]
     refine a8 _ rfl (fun e=>by cases e) (fun _=>?_);refine aa ?_;refine a7 ?_;refine sx7 ?_;(iterate 2 refine qy ?_)
     refine rc rfl rfl rfl rfl rfl rfl a5m (a1f t.attrs.length o (by have:=hk.na;omega)) (CoL.refl _) rfl rfl ?_;(iterate 3 refine qy ?_);refine m9 7 ?_;refine m9 8 ?_;(iterate 2 refine s9 ?_);refine a6 ?_
     refine sx7 ?_;(iterate 4 refine qy ?_);refine a6 ?_;refine a8 _ rfl (fun r12=>?_) (fun r12=>?_)
     ·
      have h12:=of_decide_eq_true r12
      try simp only [ty] at h12
      have hb1:(ge t.attrs.length o) < (t.attrs.length:Nat):=h12
      refine sx7 ?_;(iterate 3 refine qy ?_);refine rc rfl rfl rfl rfl rfl rfl zl (c62 t (dv o)) (CoL.refl _) rfl rfl ?_;(iterate 5 refine qy ?_);refine a6 ?_;refine a7 ?_
      refine ay (E:=b5) ae ak [0,1,2,3,4,5,6,7,8,9,10,11,12,13,14,15,16,17,18,19,20,21,22,23] ?_;(iterate 2 refine qy ?_);refine b4 rfl rfl (fun r13=>?_) (fun r13=>?_)
      ·
       have h13:=r13
       have hf:0 ≤ am t.rows (dv o):=by simpa using r13
       have hm0:0 ≤ max (am t.rows (dv o)) 0:=by omega
       have hm1:max (am t.rows (dv o)) 0 < (t.rows.length:Int):=by have:=oq hf;omega
       have hv1:(ge t.attrs.length o) < (((t.rows.getD (max (am t.rows (dv o)) 0).toNat default).vals.length:Nat):Int):=by rw [hk.ok.width (oq hf)];exact hb1
       have hce:c8 t (dv o) (ge t.attrs.length o) (gj o) = 0:=af3 hk.ok hf hb0 hb1 (aau o)
       obtain ⟨a3,r3,hk3,e3⟩:=bkA (t2:=chT t (dv o) (ge t.attrs.length o) (gj o)) hk2 (by rw [acb hce];exact hk.na)
       (iterate 3 refine qy ?_ (hg:=(gtt r13)))
       refine ax rfl rfl rfl rfl rfl rfl zk ((aaa t a2 r2 (dv o) (ge t.attrs.length o) (gj o) hk2 hce).swap 1000 902) (bo.refl _) ⟨u9,u9,trivial⟩ rfl (gtt r13) ?_
       (iterate 2 refine qy ?_ (hg:=(gtt r13)));refine b4 rfl rfl (fun r14=>?_) (fun r14=>?_)
       ·
        have h14:=r14
        have h14:=of_decide_eq_false (b8 h14)
        try simp only [ty] at h14
        exfalso
        first | (simp_all;done) | omega | (simp_all;omega)
       ·
        have h14:=r14
        have h14:=of_decide_eq_true (b9 h14)
        try simp only [ty] at h14
        (iterate 12 refine qy ?_ (hg:=(gff r14)))
        refine ax rfl rfl rfl rfl rfl rfl zk ((adz t a2 r2 (dv o) (ge t.attrs.length o) (gj o) hk2 hce).swap 1000 902) (bo.refl _) ⟨u9,u9,trivial⟩ rfl (gff r14) ?_;refine qy ?_ (hg:=(gff r14))
        refine qy ?_ (hg:=(gtt r13));refine qy ?_;refine a6 ?_;refine ⟨by kernel_rfl, ?_⟩;refine a8 _ rfl (fun r15=>?_) (fun r15=>?_)
        ·
         have h15:=r15
         have h15:=ci r13 h15
         have h15:=bp r14 h15
         have h15:=of_decide_eq_false (b8 h15)
         try simp only [ty] at h15
         exfalso
         first | (simp_all;done) | omega | (simp_all;omega)
        ·
         have h15:=r15
         have h15:=ci r13 h15
         have h15:=bp r14 h15
         have h15:=of_decide_eq_true (b9 h15)
         try simp only [ty] at h15
         refine aa ?_;refine a7 ?_
         rw [e3]
         refine gy ?_;(iterate 2 refine qy ?_);refine ax rfl rfl rfl rfl rfl rfl tt ((ui t a3 r3 hk3.ok hk3.na hk3.nr hk3.la hk3.lr).swap 1000 902) (bo.refl _) ⟨u9,u9,trivial⟩ rfl rfl ?_;refine qy ?_
         refine b4 rfl rfl (fun r16=>?_) (fun r16=>?_)
         ·
          have h16:=r16
          refine qy ?_ (hg:=(gtt r16));refine ax rfl rfl rfl rfl rfl rfl mz ((qh t (ap t) a3 r3 (du hk3.na) hk3.la hk3.lr).swap 1000 902) (bo.refl _) ⟨u9,u9,trivial⟩ rfl (gtt r16) ?_
          refine qy ?_ (hg:=(gtt r16));refine rc rfl rfl rfl rfl rfl rfl n7 (n4 (ap t) (ap t)) (CoL.refl _) rfl (gtt r16) ?_;(iterate 2 refine qy ?_);refine a6 ?_
          exact hx8 rfl rfl rfl (⟨ccb (by first | rfl | simp_all),trivial⟩)
         ·
          have h16:=r16
          (iterate 4 refine k9 (gft r16) ?_);refine rq rfl rfl rfl rfl rfl ?_ (hp:=r16);refine qy ?_;refine a6 ?_
          exact hx8 rfl rfl rfl (⟨ccb (by first | rfl | simp_all),trivial⟩)
      ·
       have h13:=r13
       obtain ⟨a3,r3,hk3,e3⟩:=bkC hk2
       (iterate 6 refine k9 (gft r13) ?_);(iterate 14 refine k9 rfl ?_);refine k9 (gft r13) ?_;refine rq rfl rfl rfl rfl rfl ?_ (hp:=r13);refine a6 ?_;refine ⟨by kernel_rfl, ?_⟩
       refine a8 _ rfl (fun e=>by cases e) (fun _=>?_);refine aa ?_;refine a7 ?_
       rw [e3]
       refine gy ?_;(iterate 2 refine qy ?_);refine ax rfl rfl rfl rfl rfl rfl tt ((ui t a3 r3 hk3.ok hk3.na hk3.nr hk3.la hk3.lr).swap 1000 902) (bo.refl _) ⟨u9,u9,trivial⟩ rfl rfl ?_;refine qy ?_
       refine b4 rfl rfl (fun r17=>?_) (fun r17=>?_)
       ·
        have h17:=r17
        refine qy ?_ (hg:=(gtt r17));refine ax rfl rfl rfl rfl rfl rfl mz ((qh t (ap t) a3 r3 (du hk3.na) hk3.la hk3.lr).swap 1000 902) (bo.refl _) ⟨u9,u9,trivial⟩ rfl (gtt r17) ?_
        refine qy ?_ (hg:=(gtt r17));refine rc rfl rfl rfl rfl rfl rfl n7 (n4 (ap t) (ap t)) (CoL.refl _) rfl (gtt r17) ?_;(iterate 2 refine qy ?_);refine a6 ?_
        exact hx8 rfl rfl rfl (⟨ccb (by first | rfl | simp_all),trivial⟩)
       ·
        have h17:=r17
        (iterate 4 refine k9 (gft r17) ?_);refine rq rfl rfl rfl rfl rfl ?_ (hp:=r17);refine qy ?_;refine a6 ?_
        exact hx8 rfl rfl rfl (⟨ccb (by first | rfl | simp_all),trivial⟩)
     ·
      have h12:=of_decide_eq_false r12
      try simp only [ty] at h12
      obtain ⟨a3,r3,hk3,e3⟩:=bkC hk2
      refine aa ?_;refine a7 ?_
      rw [e3]
      refine gy ?_;(iterate 2 refine qy ?_);refine ax rfl rfl rfl rfl rfl rfl tt ((ui t a3 r3 hk3.ok hk3.na hk3.nr hk3.la hk3.lr).swap 1000 902) (bo.refl _) ⟨u9,u9,trivial⟩ rfl rfl ?_;refine qy ?_
      refine b4 rfl rfl (fun r18=>?_) (fun r18=>?_)
      ·
       have h18:=r18
       refine qy ?_ (hg:=(gtt r18));refine ax rfl rfl rfl rfl rfl rfl mz ((qh t (ap t) a3 r3 (du hk3.na) hk3.la hk3.lr).swap 1000 902) (bo.refl _) ⟨u9,u9,trivial⟩ rfl (gtt r18) ?_
       refine qy ?_ (hg:=(gtt r18));refine rc rfl rfl rfl rfl rfl rfl n7 (n4 (ap t) (ap t)) (CoL.refl _) rfl (gtt r18) ?_;(iterate 2 refine qy ?_);refine a6 ?_
       exact hx8 rfl rfl rfl (⟨ccb (by first | rfl | simp_all),trivial⟩)
      ·
       have h18:=r18
       (iterate 4 refine k9 (gft r18) ?_);refine rq rfl rfl rfl rfl rfl ?_ (hp:=r18);refine qy ?_;refine a6 ?_
       exact hx8 rfl rfl rfl (⟨ccb (by first | rfl | simp_all),trivial⟩)
theorem au3 (x:Scr) (o:MOp):al Tryz.prog 8 [x.pc,o.pc] (az [pB true]):=by
 by_cases h:12 < x.ops.length
 · exact ath x o h
 · exact ar0 x o h
end Go.Hx
end
section
namespace Go.Hx
theorem ap7 {l:List Row} {k n p j m c d n':Nat} {z:List Value} (hk:k < l.length) (hn:n = n') (hn2:n' = (l.eraseIdx k).length) (hp:p = k) (hj:j = k + 1) (hm:m = l.length - (k + 1)) (hc:l.length - 1 ≤ c) :
 CoO (.arr true 2 48 n (pl (mvF (lf Row.c l) p j m) c d z)) (.arr true 2 48 n' (lf Row.c (l.eraseIdx k))):=by
 subst hp hj hm hn
 rw [List.length_eraseIdx,if_pos hk] at hn2
 refine ⟨fun h=>h,rfl,rfl,rfl,fun i b hi hb=>CoP.of_eq ?_⟩
 show pl (mvF (lf Row.c l) p (p + 1) (l.length - (p + 1))) c d z i b = lf Row.c (l.eraseIdx p) i b
 unfold pl
 rw [if_neg (by omega)]
 unfold mvF
 simp only [lf,List.getD]
 rw [List.getElem?_eraseIdx]
 by_cases h:i < p
 · rw [if_neg (by omega),if_pos h]
 · rw [if_pos (by omega),if_neg h,show i - p + (p + 1) = i + 1 by omega]
theorem a83:∀ {a b:List Row},ep a → ep b → (∀ w,w ∈ a ↔ w ∈ b) → a = b
 | [],[],_,_,_=>rfl
 | [],y :: b,_,_,h=>absurd ((h y).2 (by simp)) (by simp)
 | x :: a,[],_,_,h=>absurd ((h x).1 (by simp)) (by simp)
 | x :: a,y :: b,ha,hb,h=>by
  obtain ⟨ha1,ha2⟩:=List.pairwise_cons.1 ha
  obtain ⟨hb1,hb2⟩:=List.pairwise_cons.1 hb
  have hxy:x = y:=by
   rcases List.mem_cons.1 ((h x).1 (by simp)) with e | e
   · exact e
   · rcases List.mem_cons.1 ((h y).2 (by simp)) with e2 | e2
     · exact e2.symm
     · have h1:=hb1 x e
       have h2:=ha1 y e2
       omega
  subst hxy
  have:a = b:=a83 ha2 hb2 fun w=>by
   constructor
   · intro hw
     rcases List.mem_cons.1 ((h w).1 (List.mem_cons_of_mem _ hw)) with e | e
     · subst e;have:=ha1 w hw;omega
     · exact e
   · intro hw
     rcases List.mem_cons.1 ((h w).2 (List.mem_cons_of_mem _ hw)) with e | e
     · subst e;have:=hb1 w hw;omega
     · exact e
  rw [this]
structure OOk (T t:Tbl) (q:List Row) (a r:List Fd):Prop where
 ok:ROk t a r
 hT:TOk T
 nm:t.name = T.name
 at':t.attrs = T.attrs
 hq:q.Sublist T.rows
 mem:∀ w,w ∈ T.rows ↔ w ∈ t.rows ∨ w ∈ q
 dis:∀ w ∈ t.rows,∀ y ∈ q,w.id ≠ y.id
 len:t.rows.length + q.length = T.rows.length
 le:T.rows.length ≤ 8
theorem OOk.new {s:ByteArray} {l:List ByteArray} {T:Tbl} (hT:TOk T) (hn:T.name = s) (ha:T.attrs = l) (h8:T.rows.length ≤ 8) (hl:l.length ≤ 8) (hok:TOk (fq s l)):OOk T (fq s l) T.rows [] [] where
 ok:=⟨hok,hl,Nat.zero_le _,Nat.zero_le _,Nat.zero_le _⟩
 hT:=hT
 nm:=hn.symm
 at':=ha.symm
 hq:=List.Sublist.refl _
 mem:=fun w=>⟨fun h=>.inr h,fun h=>h.elim (fun h=>by cases h) id⟩
 dis:=fun w hw=>by cases hw
 len:=Nat.zero_add _
 le:=h8
theorem OOk.ins {T t:Tbl} {q:List Row} {a r:List Fd} (h:OOk T t q a r) {k:Nat} (hk:k < q.length):dh t (q.getD k default) = 0:=by
 have hm:q.getD k default ∈ q:=zj hk
 have hmT:=h.hq.subset hm
 have hr:=fp h.hT.rs _ hmT
 have hlen:=h.len
 have hle:=h.le
 have e:c4 t (q.getD k default) = 0:=by
  unfold c4
  rw [if_neg (by rw [dj.2 h.ok.ok];decide),if_neg (by rw [h.at',hr.2.1];simp),if_neg (by
   rintro (h0 | h0)
   · have:=hr.1;omega
   · rw [hr.2.2] at h0;cases h0),if_neg (fun h0=>by
   have h1:=a3v (p:=fun x:Row=>decide (x.id = (q.getD k default).id)) h0
   exact h.dis _ (zj h1.1) _ hm (of_decide_eq_true h1.2)),if_neg (by omega)]
 unfold dh
 rw [if_neg (by rw [e];decide),if_neg (by omega)]
theorem OOk.next {T t:Tbl} {q:List Row} {a r:List Fd} (h:OOk T t q a r) {k:Nat} (hk:k < q.length):OOk T (ck t (q.getD k default)) (q.eraseIdx k) (dA (ck t (q.getD k default)) t) (dA t (ck t (q.getD k default))):=by
 have he:=h.ins hk
 have hi:=(tf he).1
 have hsub:=List.eraseIdx_sublist q k
 have hat:=a6l he
 have hrows:(ck t (q.getD k default)).rows = jm (q.getD k default) t.rows:=by rw [gz hi]
 have hlen:=h.len
 have hle:=h.le
 have hm:q.getD k default ∈ q:=zj hk
 have hs:ep q:=(List.Pairwise.sublist h.hq h.hT.sorted)
 have hmem:∀ w,w ∈ q ↔ w = q.getD k default ∨ w ∈ q.eraseIdx k:=fun w=>by
  constructor
  · intro hw
    obtain ⟨i,hi2,e⟩:=List.getElem_of_mem hw
    by_cases hik:i = k
    · left;subst hik;rw [← e,List.getD_eq_getElem?_getD,List.getElem?_eq_getElem hi2];rfl
    · right;exact List.mem_eraseIdx_iff_getElem?.2 ⟨i,hik,by rw [List.getElem?_eq_getElem hi2,e]⟩
  · rintro (e | e)
    · rw [e];exact hm
    · exact hsub.subset e
 have hlq:(q.eraseIdx k).length = q.length - 1:=by rw [List.length_eraseIdx,if_pos hk]
 refine ⟨⟨um hi,by rw [hat];exact h.ok.na,by rw [hrows,qa];omega,a5s (by rw [hat];exact h.ok.na),a5s h.ok.na⟩,h.hT,by rw [gz hi];exact h.nm,by rw [hat];exact h.at',hsub.trans h.hq,fun w=>?_,fun w hw y hy=>?_,by rw [hrows,qa,hlq];omega,hle⟩
 · rw [hrows,uk,h.mem,hmem w]
   constructor
   · rintro (h1 | h1 | h1)
     · exact .inl (.inr h1)
     · exact .inl (.inl h1)
     · exact .inr h1
   · rintro ((h1 | h1) | h1)
     · exact .inr (.inl h1)
     · exact .inl h1
     · exact .inr (.inr h1)
 · rw [hrows,uk] at hw
   rcases hw with rfl | hw
   · intro e
     obtain ⟨i,hik,hi2⟩:=List.mem_eraseIdx_iff_getElem?.1 hy
     have hi3:i < q.length:=(List.getElem?_eq_some_iff.1 hi2).1
     have hyi:q.getD i default = y:=by rw [List.getD_eq_getElem?_getD,hi2];rfl
     rcases Nat.lt_or_gt_of_ne hik with hlt | hlt
     · have:=a05 hs hlt hk;rw [hyi] at this;omega
     · have:=a05 hs hlt hi3;rw [hyi] at this;omega
   · exact h.dis w hw y (hsub.subset hy)
theorem OOk.done {T t:Tbl} {a r:List Fd} (h:OOk T t [] a r):t = T:=by
 have e:t.rows = T.rows:=a83 h.ok.ok.sorted h.hT.sorted fun w=>by rw [h.mem w];simp
 rw [Tbl.eq_iff]
 exact ⟨h.nm,h.at',e⟩
end Go.Hx
end
section
namespace Go.Hx
open Go.Proofs
set_option maxRecDepth 100000
theorem ats:ai Tryz.prog 19:=⟨Tryz.f19,Tryz.func19,by kernel_rfl,by kernel_rfl⟩
theorem ana (l:List Row) (k:Nat) (hk:k < l.length):cg Tryz.prog 19 [.one (.ref 900 l.length), .one (.p (.raw (.int .i64 ((k:Int))))), .one (.p (.raw (.int .i64 (((k:Int) + 1)))))] [(900, .arr true 2 48 l.length (lf Row.c l))] (.v (.one (.ref 903 (l.length - 1)))) [(903, .arr true 2 48 (l.length - 1) (lf Row.c (l.eraseIdx k)))] []:=by
 refine cw (nt:=33) ae Tryz.func19 rfl rfl l9 rfl ?_;refine a7 ?_
 refine amb 900 rfl fun hlen=>?_
 refine gy ?_;refine qy ?_;refine a6 ?_;refine sx7 ?_;(iterate 6 refine qy ?_);refine a6 ?_;refine a7 ?_;refine sx7 ?_;(iterate 3 refine qy ?_);refine a6 ?_
 refine a8 _ rfl (fun r0=>?_) (fun r0=>?_)
 ·
  have h0:=of_decide_eq_true r0
  try simp only [ty] at h0
  exfalso
  omega
 ·
  have h0:=of_decide_eq_false r0
  try simp only [ty] at h0
  refine aa ?_;refine sx7 ?_;(iterate 3 refine qy ?_);refine a6 ?_;refine a7 ?_;refine ay (E:=b5) ae ak [0,1,2,3,4,5,6,7] ?_;(iterate 6 refine qy ?_)
  refine ra 0 true rfl rfl rfl rfl rfl rfl ?_;refine qy ?_;refine a6 ?_;refine ⟨by kernel_rfl, ?_⟩;refine sx7 ?_;(iterate 5 refine qy ?_);refine ra 1 true rfl rfl rfl rfl rfl rfl ?_;refine a6 ?_;refine sx7 ?_
  (iterate 2 refine qy ?_);refine a6 ?_;refine ako 6 903 rfl rfl rfl rfl (by first | omega | (simp only [j9,dw];omega)) rfl ?_;refine aw ?_;refine ⟨.inr rfl, ?_⟩
  exact ⟨_,_,rfl,(by (repeat' apply And.intro) <;> first | trivial | exact Nat.le_of_ble_eq_true rfl),CoR.of_eq (by show HR.v (.one (.ref 903 _)) = _;congr 3;first | omega | (simp only [j9,dw];omega)),⟨⟨_,rfl,(by dsimp only [j9,dw];exact ap7 hk (by omega) (by rw [List.length_eraseIdx,if_pos hk]) (by omega) (by omega) (by omega) (by omega))⟩,trivial⟩⟩
end Go.Hx
end
section
namespace Go.Hx
theorem akr:∀ k,k < 9 → vl (fv.take k) = true:=by decide
theorem acd:∀ k,k < 9 → ig sR (fv.take k) = 0:=by decide
theorem at1 (c:UInt8):cu (ofV c) = true:=by
 unfold ofV
 have:=ahu (c.toNat % 12) (by omega)
 rw [show ((c.toNat % 12:Nat):Int) = (c.toNat:Int) % 12 by omega] at this
 exact this
theorem anz {x:Rcp} {n:Nat} (hn:n ≤ 8) (hx:x.rows.length ≤ 8):TOk (nx x n) where
 nm:=by show i7 ⟨#[114]⟩ = true;decide
 na:=by show (fv.take n).length ≤ 16;rw [List.length_take];omega
 nr:=by show (iw x n).length ≤ 1000;rw [aat];omega
 nms:=akr n (by omega)
 rs:=by
  have hl:(nx x n).attrs.length = n:=by
   show (fv.take n).length = n
   rw [List.length_take]
   have:fv.length = 8:=rfl
   omega
  rw [hl]
  refine og (fun w hw=>?_) ?_
  · obtain ⟨i,hi,e⟩:=List.mem_map.1 hw
    subst e
    refine ⟨?_,x6, ?_⟩
    · show (0:Int) < 1 + (i:Int) * (1 + (x.gap.toNat:Int) % 3)
      have:(0:Int) ≤ (i:Int) * (1 + (x.gap.toNat:Int) % 3):=Int.mul_nonneg (by omega) (by omega)
      omega
    · rw [List.all_eq_true]
      intro v hv
      obtain ⟨k,_,e⟩:=List.mem_map.1 hv
      rw [← e]
      exact at1 _
  · show ep (iw x n)
    unfold iw
    refine List.pairwise_map.2 ((List.pairwise_lt_range (n:=x.rows.length)).imp fun {i j} hij=>?_)
    show 1 + (i:Int) * (1 + (x.gap.toNat:Int) % 3) < 1 + (j:Int) * (1 + (x.gap.toNat:Int) % 3)
    have:(i:Int) * (1 + (x.gap.toNat:Int) % 3) < (j:Int) * (1 + (x.gap.toNat:Int) % 3):=Int.mul_lt_mul_of_pos_right (by omega) (by omega)
    omega
abbrev nw (x:Rcp):List ByteArray:=fv.take (x.attrs.toNat % 6)
theorem awg {x:Rcp} (hx:x.rows.length ≤ 8):aaj x 8 = nx x (x.attrs.toNat % 6):=if_neg (by omega)
theorem OOk.start {x:Rcp} (hx:x.rows.length ≤ 8):OOk (nx x (x.attrs.toNat % 6)) (fq sR (nw x)) (nx x (x.attrs.toNat % 6)).rows [] []:=by
 have hl:(nw x).length ≤ 8:=by rw [List.length_take];have:fv.length = 8:=rfl;omega
 refine OOk.new (anz (by omega) hx) rfl rfl (by show (iw x _).length ≤ 8;rw [aat];exact hx) hl ?_
 have hE:=acd (x.attrs.toNat % 6) (by omega)
 exact dj.1 (by
  unfold ig at hE
  split at hE
  · rename_i h1;exact absurd hE h1
  · rename_i h1;simpa using h1)
def ju (l:List UInt8) (j n:Nat):Nat:=if 0 < l.length then (l.getD (j % l.length) default).toNat % n else 0
theorem aoo {l:List UInt8} {j n:Nat} (h:0 < n):ju l j n < n:=by
 unfold ju
 split
 · exact Nat.mod_lt _ h
 · exact h
theorem ag8 {l:List UInt8} {j n:Nat} (h:0 < l.length):(((l.getD ((j:Int) % (l.length:Int)).toNat default).toNat:Int) % (n:Int)) = (ju l j n:Nat):=by
 unfold ju
 rw [if_pos h]
 have e:((j:Int) % (l.length:Int)).toNat = j % l.length:=by rw [← Int.natCast_emod,Int.toNat_natCast]
 rw [e,← Int.natCast_emod]
theorem aic {l:List UInt8} {j n:Nat} (h:¬ 0 < l.length):(0:Int) = (ju l j n:Nat):=by
 unfold ju
 rw [if_neg h];rfl
end Go.Hx
end
section
namespace Go.Hx
open Go.Proofs
set_option maxRecDepth 100000
set_option maxHeartbeats 1000000
theorem atb:ai Tryz.prog 17:=⟨Tryz.f17,Tryz.func17,by kernel_rfl,by kernel_rfl⟩
theorem ao8 (n:Nat) (c:Bool) (f:Nat → Nat → PV) (hn:n ≤ 4398046511104) :
 cg Tryz.prog 17 [.one (.p (.sl n 2 c f))] [] (.v (.one (.ref 0 n))) [(0, .arr true 2 48 n f)] []:=by
 refine cw (nt:=8) ae Tryz.func17 rfl rfl l9 rfl ?_;refine sx7 ?_;refine bz true rfl rfl rfl rfl rfl trivial ?_;refine a6 ?_
 refine te (ι:=Bool) (fun c=>⟨[(0,some (c7 (.sl n 2 c f)))],[]⟩) (fun _=>True) ?_ fun c _=>?_
 · rcases Nat.eq_zero_or_pos n with hz | h0
   · subst hz
     refine hw_exact' 0 rfl fun ad cap hcap=>?_
     refine sx7 ?_;(iterate 2 refine bz true rfl rfl rfl rfl rfl trivial ?_);refine a6 ?_;refine a8 ad.isNone rfl (fun hc=>?_) (fun hc=>?_)
     · refine sx7 ?_
       refine bz true rfl rfl rfl rfl rfl trivial ?_;refine a6 ?_;refine ec 2 0 true 2 48 f (by decide) rfl (CoP.sl rfl (.inr rfl) (fun h=>h) fun i j hi _=>absurd hi (Nat.not_lt_zero i)) (.inr rfl) rfl ?_
       refine aw ?_;refine ⟨.inr rfl, ?_⟩
       exact ⟨_,_,rfl,trivial,CoR.refl _,⟨u9,trivial⟩⟩
     · refine aa ?_
       exact ⟨false,trivial,⟨⟨_,rfl,CoP.raw_sl hcap⟩,trivial⟩,trivial⟩
   · refine sx7 ?_
     refine bz true rfl rfl rfl rfl rfl trivial ?_;refine bz true rfl rfl rfl rfl rfl h0 ?_;refine a6 ?_;refine a8 false rfl (fun hc=>by cases hc) (fun hc=>?_);refine aa ?_
     exact ⟨c,trivial,⟨c9,trivial⟩,trivial⟩
 · refine sx7 ?_
   refine ph 0 rfl rfl rfl rfl rfl rfl trivial ?_;refine bz true rfl rfl rfl rfl rfl trivial ?_
   refine wz 0 true rfl rfl rfl rfl rfl rfl ⟨trivial,rfl,rfl,rfl, .inl rfl,by show 0 + n ≤ 9223372036854775807;omega,by show (0 + n) * 32 ≤ 140737488355328;omega,fun _=>.inl rfl⟩ ?_
   refine bz true rfl rfl rfl rfl rfl trivial ?_;refine a6 ?_;refine aw ?_;refine ⟨.inr rfl, ?_⟩
   refine ⟨_,_,rfl,trivial,CoR.of_eq (by show HR.v (.one (.ref 0 (0 + n))) = _;rw [Nat.zero_add]),⟨⟨_,rfl, ?_⟩,trivial⟩⟩
   exact ⟨fun h=>h,rfl,rfl,(Nat.zero_add n).symm,fun i j _ _=>CoP.of_eq (by simp [en])⟩
theorem amg (x:Rcp):al Tryz.prog 16 [x.pc,pI (8:Nat)] (az [(aaj x 8).pc,pB (a3u x (8:Nat))]):=by
 refine ag (nt:=18) ae Tryz.func16 rfl rfl l9 ?_;refine sx7 ?_;refine m9 0 ?_;refine m9 1 ?_;refine qy ?_;refine a6 ?_;refine a7 ?_;refine sx7 ?_;(iterate 5 refine qy ?_);refine a6 ?_
 refine a8 _ rfl (fun r0=>?_) (fun r0=>?_)
 ·
  have h0:=of_decide_eq_true r0
  try simp only [ty] at h0
  refine sx7 ?_;refine qy ?_;refine s9 ?_;refine qy ?_;refine a6 ?_
  exact hx8 rfl rfl rfl (⟨by rw [show aaj x 8 = T0 from if_pos (by omega)];exact CoC.agg ⟨CoP.refl _,bc,bc,trivial⟩,ccb (by unfold a3u;simp;omega),trivial⟩)
 ·
  have h0:=of_decide_eq_false r0
  try simp only [ty] at h0
  refine aa ?_;refine sx7 ?_;(iterate 5 refine qy ?_);refine rc rfl rfl rfl rfl rfl rfl at5 (c36 x (x.attrs.toNat % 6) (by omega) (by omega)) (⟨CoC.refl _,cci (by omega),trivial⟩) rfl rfl ?_;refine s9 ?_
  refine qy ?_;refine a6 ?_
  exact hx8 rfl rfl rfl (⟨CoC.of_eq (by rw [show aaj x 8 = (nx x (x.attrs.toNat % 6)) from if_neg (by omega)]),ccb (by unfold a3u;simp;omega),trivial⟩)
theorem ah0 (x:Rcp) (hx:x.rows.length ≤ 8):al Tryz.prog 16 [x.pc,pI (8:Nat)] (az [(nx x (x.attrs.toNat % 6)).pc,pB true]):=by
 have h:=amg x
 rw [awg hx,show a3u x ((8:Nat):Int) = true by unfold a3u;simp;omega] at h
 exact h
theorem aql (x:Rcp) (hx:¬ x.rows.length ≤ 8):al Tryz.prog 16 [x.pc,pI (8:Nat)] (az [(aaj x 8).pc,pB false]):=by
 have h:=amg x
 rw [show a3u x ((8:Nat):Int) = false by unfold a3u;simp;omega] at h
 exact h
theorem aol (U t:Tbl) (q:List Row) (a r:List Fd) (h:OOk U t q a r) (k:Nat) (hk:k < q.length):cg Tryz.prog 18 [.one (.ptr 1000 0),(q.getD k default).pc.toH] (mst t (ap t) a r).objs (.v (.one (.p (.raw (.int .i64 (0)))))) (mst (ck t (q.getD k default)) (ap (ck t (q.getD k default))) (dA (ck t (q.getD k default)) t) (dA t (ck t (q.getD k default)))).objs [1000]:=by
 have he:=h.ins hk
 have hh:=a4w t (ap t) a r h.ok.ok h.ok.na (du h.ok.na) (q.getD k default)
 rw [he,ain he] at hh
 exact hh
theorem aom (x:Rcp) (l:List UInt8) (hx:¬ x.rows.length ≤ 8):al Tryz.prog 4 [x.pc,pP (u8s l)] (az [pB true]):=by
 refine ag (nt:=80) ae Tryz.func4 rfl rfl l9 ?_;refine sx7 ?_;refine m9 0 ?_;refine qy ?_;refine a6 ?_;refine sx7 ?_;refine qy ?_;refine rc rfl rfl rfl rfl rfl rfl abx (aql x hx) (CoL.refl _) rfl rfl ?_
 (iterate 3 refine qy ?_);refine m9 1 ?_;refine s9 ?_;refine qy ?_;refine a6 ?_;refine a7 ?_;refine sx7 ?_;refine rc rfl rfl rfl rfl rfl rfl ur (nu) (CoL.refl _) rfl rfl ?_;(iterate 2 refine qy ?_)
 refine b4 rfl rfl (fun r0=>?_) (fun r0=>?_)
 ·
  have h0:=r0
  have h0:=b8 h0
  exfalso
  first | (simp_all;done) | omega | (simp_all;omega)
 ·
  have h0:=r0
  have h0:=b9 h0
  (iterate 2 refine qy ?_ (hg:=(gff r0)));(iterate 2 refine qy ?_);refine b4 rfl rfl (fun r1=>?_) (fun r1=>?_)
  ·
   have h1:=r1
   have h1:=bp r0 h1
   have h1:=b8 h1
   (iterate 3 refine k9 (gtf r1) ?_);refine rq rfl rfl rfl rfl rfl ?_ (hp:=r1);refine a6 ?_;refine a8 _ rfl (fun _=>?_) (fun e=>by cases e);refine sx7 ?_
   refine rc rfl rfl rfl rfl rfl rfl ur (nu) (CoL.refl _) rfl rfl ?_;refine qy ?_;refine a6 ?_
   exact hx8 rfl rfl rfl (⟨CoC.refl _,trivial⟩)
  ·
   have h1:=r1
   have h1:=bp r0 h1
   have h1:=b9 h1
   exfalso
   first | (simp_all;done) | omega | (simp_all;omega)
theorem apd (x:Rcp) (l:List UInt8) (hx:x.rows.length ≤ 8) (hl:12 < l.length):al Tryz.prog 4 [x.pc,pP (u8s l)] (az [pB true]):=by
 refine ag (nt:=80) ae Tryz.func4 rfl rfl l9 ?_;refine sx7 ?_;refine m9 0 ?_;refine qy ?_;refine a6 ?_;refine sx7 ?_;refine qy ?_;refine rc rfl rfl rfl rfl rfl rfl abx (ah0 x hx) (CoL.refl _) rfl rfl ?_
 (iterate 3 refine qy ?_);refine m9 1 ?_;refine s9 ?_;refine qy ?_;refine a6 ?_;refine a7 ?_;refine sx7 ?_;refine rc rfl rfl rfl rfl rfl rfl ur (nu) (CoL.refl _) rfl rfl ?_;(iterate 2 refine qy ?_)
 refine b4 rfl rfl (fun r0=>?_) (fun r0=>?_)
 ·
  have h0:=r0
  have h0:=b8 h0
  exfalso
  first | (simp_all;done) | omega | (simp_all;omega)
 ·
  have h0:=r0
  have h0:=b9 h0
  (iterate 2 refine qy ?_ (hg:=(gff r0)));(iterate 2 refine qy ?_);refine b4 rfl rfl (fun r1=>?_) (fun r1=>?_)
  ·
   have h1:=r1
   have h1:=bp r0 h1
   have h1:=b8 h1
   exfalso
   first | (simp_all;done) | omega | (simp_all;omega)
  ·
   have h1:=r1
   have h1:=bp r0 h1
   have h1:=b9 h1
   (iterate 3 refine qy ?_ (hg:=(gff r1)));refine qy ?_;refine a6 ?_;refine a8 _ rfl (fun r2=>?_) (fun r2=>?_)
   ·
    have h2:=r2
    have h2:=bp r1 h2
    have h2:=of_decide_eq_true h2
    try simp only [ty] at h2
    refine sx7 ?_;refine rc rfl rfl rfl rfl rfl rfl ur (nu) (CoL.refl _) rfl rfl ?_;refine qy ?_;refine a6 ?_
    exact hx8 rfl rfl rfl (⟨CoC.refl _,trivial⟩)
   ·
    have h2:=r2
    have h2:=bp r1 h2
    have h2:=of_decide_eq_false h2
    try simp only [ty] at h2
    exfalso
    first | (simp_all;done) | omega | (simp_all;omega)
theorem ap8 (x:Rcp) (l:List UInt8) (hx:x.rows.length ≤ 8) (hl:¬ 12 < l.length):al Tryz.prog 4 [x.pc,pP (u8s l)] (az [pB true]):=by
 refine ag (nt:=80) ae Tryz.func4 rfl rfl l9 ?_
 have h0s:=OOk.start hx
 have hnl:(nw x).length ≤ 1000000:=by rw [List.length_take];omega
 refine sx7 ?_;refine m9 0 ?_;refine qy ?_;refine a6 ?_;refine sx7 ?_;refine qy ?_;refine rc rfl rfl rfl rfl rfl rfl abx (ah0 x hx) (CoL.refl _) rfl rfl ?_;(iterate 3 refine qy ?_);refine m9 1 ?_;refine s9 ?_
 refine qy ?_;refine a6 ?_;refine a7 ?_;refine sx7 ?_;refine rc rfl rfl rfl rfl rfl rfl ur (nu) (CoL.refl _) rfl rfl ?_;(iterate 2 refine qy ?_);refine b4 rfl rfl (fun r0=>?_) (fun r0=>?_)
 ·
  have h0:=r0
  have h0:=b8 h0
  exfalso
  first | (simp_all;done) | omega | (simp_all;omega)
 ·
  have h0:=r0
  have h0:=b9 h0
  (iterate 2 refine qy ?_ (hg:=(gff r0)));(iterate 2 refine qy ?_);refine b4 rfl rfl (fun r1=>?_) (fun r1=>?_)
  ·
   have h1:=r1
   have h1:=bp r0 h1
   have h1:=b8 h1
   exfalso
   first | (simp_all;done) | omega | (simp_all;omega)
  ·
   have h1:=r1
   have h1:=bp r0 h1
   have h1:=b9 h1
   (iterate 3 refine qy ?_ (hg:=(gff r1)));refine qy ?_;refine a6 ?_;refine a8 _ rfl (fun r2=>?_) (fun r2=>?_)
   ·
    have h2:=r2
    have h2:=bp r1 h2
    have h2:=of_decide_eq_true h2
    try simp only [ty] at h2
    exfalso
    first | (simp_all;done) | omega | (simp_all;omega)
   ·
    have h2:=r2
    have h2:=bp r1 h2
    have h2:=of_decide_eq_false h2
    try simp only [ty] at h2
    refine aa ?_;refine sx7 ?_;(iterate 4 refine qy ?_);refine ax rfl rfl rfl rfl rfl rfl ab9 (ab2 sR (nw x) hnl (acd (x.attrs.toNat % 6) (by omega))) (bo.refl _) trivial rfl rfl ?_
    (iterate 5 refine qy ?_);refine a6 ?_;refine a7 ?_;refine sx7 ?_;(iterate 3 refine qy ?_);refine b4 rfl rfl (fun r3=>?_) (fun r3=>?_)
    ·
     have h3:=r3
     have h3:=of_decide_eq_false (b8 h3)
     try simp only [ty] at h3
     exfalso
     first | (simp_all;done) | omega | (simp_all;omega)
    ·
     have h3:=r3
     have h3:=of_decide_eq_true (b9 h3)
     try simp only [ty] at h3
     (iterate 2 refine qy ?_ (hg:=(gff r3)));refine qy ?_;refine a6 ?_;refine a8 _ rfl (fun r4=>?_) (fun r4=>?_)
     ·
      have h4:=r4
      have h4:=bp r3 h4
      exfalso
      first | (simp_all;done) | omega | (simp_all;omega)
     ·
      have h4:=r4
      have h4:=bp r3 h4
      refine aa ?_;refine sx7 ?_;(iterate 2 refine qy ?_)
      refine ax rfl rfl rfl rfl rfl rfl atb ((ao8 (nx x (x.attrs.toNat % 6)).rows.length false (lf Row.c (nx x (x.attrs.toNat % 6)).rows) (by have:=h0s.le;omega)).swap 0 904) (bo.refl _) trivial rfl rfl ?_
      refine qy ?_;refine a6 ?_;refine a7 ?_;refine sx7 ?_;refine qy ?_;refine a6 ?_;refine af ?_
      refine av (ι:=(Nat × Tbl × List Row × List Fd × List Fd)) ⟨[(1,some _),(5,some _),(7,some _)],[(1,some _)]⟩ ⟨⟨c9,c9,c9,trivial⟩,⟨u9,trivial⟩⟩ (fun z=>⟨[(9,some (.v (.one (.ref 904 z.2.2.1.length)))),(10,some (vI z.1))],[(904,some (.arr true 2 48 z.2.2.1.length (lf Row.c z.2.2.1))),(902,some (ak6 z.2.1 (ap z.2.1) z.2.2.2.1 z.2.2.2.2)),(901,some (ag2 (db z.2.1.rows)))]⟩) (fun z=>OOk (nx x (x.attrs.toNat % 6)) z.2.1 z.2.2.1 z.2.2.2.1 z.2.2.2.2 ∧ z.1 + z.2.2.1.length ≤ 8) (fun z=>z.2.2.1.length) ((0,fq sR (nw x),(nx x (x.attrs.toNat % 6)).rows,[],[])) (⟨h0s,by have:=h0s.le;exact Nat.le_trans (Nat.le_of_eq (Nat.zero_add _)) this⟩) ⟨⟨zy,zy,trivial⟩,⟨u9,u9,u9,trivial⟩⟩ ?_
      rintro ⟨j,t,q,a,r⟩ ⟨hk,hj8⟩
      dsimp only at hk hj8 ⊢
      refine a7 ?_;refine sx7 ?_;(iterate 3 refine qy ?_);refine a6 ?_;refine a8 _ rfl (fun r5=>?_) (fun r5=>?_)
      ·
       have h5:=of_decide_eq_true r5
       try simp only [ty] at h5
       have hq0:0 < q.length:=by omega
       have hkl:(ju l j q.length) < q.length:=aoo hq0
       have hlq:=hk.len
       have hle:=hk.le
       refine aa ?_;refine a7 ?_;refine af ?_;refine sx7 ?_;refine qy ?_;refine a6 ?_
       refine df (ι:=Unit) ⟨[(1,some _),(5,some _),(7,some _),(9,some _),(10,some _)],[(904,some _),(902,some _),(901,some _),(1,some _)]⟩ ⟨⟨c9,c9,c9,c9,c9,trivial⟩,⟨u9,u9,u9,u9,trivial⟩⟩ (fun _i=>⟨[(11,some (vI (ju l j q.length)))],[]⟩) (fun _i=>True) ?_ ?_
       ·
        refine sx7 ?_;(iterate 3 refine qy ?_);refine a6 ?_;refine a8 _ rfl (fun r6=>?_) (fun r6=>?_)
        ·
         have h6:=of_decide_eq_true r6
         try simp only [ty] at h6
         have hm4:(l.getD ((j:Int) % (l.length:Int)).toNat default).toNat < 256:=UInt8.toNat_lt _
         have hm0:0 ≤ (j:Int) % (l.length:Int):=Int.emod_nonneg _ (by omega)
         have hm1:(j:Int) % (l.length:Int) < (l.length:Int):=Int.emod_lt_of_pos _ (by omega)
         have hm2:((l.getD ((j:Int) % (l.length:Int)).toNat default).toNat:Int) % (q.length:Int) < (q.length:Int):=Int.emod_lt_of_pos _ (by omega)
         have hm3:0 ≤ ((l.getD ((j:Int) % (l.length:Int)).toNat default).toNat:Int) % (q.length:Int):=Int.emod_nonneg _ (by omega)
         refine gy ?_;(iterate 10 refine qy ?_);refine rq rfl rfl rfl rfl rfl ?_ (hp:=⟨by omega,by omega⟩);refine qy ?_;refine a6 ?_;refine ⟨(), ?_, ?_⟩
         · trivial
         · exact ⟨⟨⟨_,rfl,(coi (by first | exact ag8 (by omega) | exact aic (by omega)))⟩,c9,c9,c9,c9,c9,trivial⟩,⟨u9,u9,u9,u9,trivial⟩⟩
        ·
         have h6:=of_decide_eq_false r6
         try simp only [ty] at h6
         refine aa ?_;refine ⟨(), ?_, ?_⟩
         · trivial
         · exact ⟨⟨⟨_,rfl,(coi (by first | exact ag8 (by omega) | exact aic (by omega)))⟩,c9,c9,c9,c9,c9,trivial⟩,⟨u9,u9,u9,u9,trivial⟩⟩
       · rintro _ _
         refine a7 ?_;refine sx7 ?_;(iterate 5 refine qy ?_)
         refine ax rfl rfl rfl rfl rfl rfl a00 ((aol (nx x (x.attrs.toNat % 6)) t q a r hk (ju l j q.length) hkl).swap 1000 902) (bo.refl _) ⟨u9,u9,trivial⟩ rfl rfl ?_;refine qy ?_;refine a6 ?_
         refine a8 _ rfl (fun r7=>?_) (fun r7=>?_)
         ·
          have h7:=r7
          have h7:=of_decide_eq_false (b8 h7)
          try simp only [ty] at h7
          exfalso
          first | (simp_all;done) | omega | (simp_all;omega)
         ·
          have h7:=r7
          have h7:=of_decide_eq_true (b9 h7)
          try simp only [ty] at h7
          refine aa ?_;refine gy ?_;(iterate 4 refine qy ?_);refine ax rfl rfl rfl rfl rfl rfl ats ((ana q (ju l j q.length) hkl).swap 900 904) (bo.refl _) ⟨u9,trivial⟩ rfl rfl ?_;refine qy ?_
          refine a6 ?_
          refine jp ⟨[(1,some _),(5,some _),(7,some _),(9,some _),(10,some _)],[(1,some _),(902,some _),(901,some _),(903,some _)]⟩ ⟨⟨c9,c9,c9,c9,c9,trivial⟩,⟨u9,u9,u9,u9,trivial⟩⟩ ?_
          refine agm 9 904 rfl rfl rfl rfl ?_;refine gy ?_;(iterate 3 refine qy ?_);refine a6 ?_
          refine ⟨(j + 1,ck t (q.getD (ju l j q.length) default),q.eraseIdx (ju l j q.length),dA (ck t (q.getD (ju l j q.length) default)) t,dA t (ck t (q.getD (ju l j q.length) default))), ?_, ?_, ?_⟩
          · refine ⟨hk.next hkl, ?_⟩
            show j + 1 + (q.eraseIdx (ju l j q.length)).length ≤ 8
            rw [List.length_eraseIdx,if_pos hkl]
            omega
          · show (q.eraseIdx (ju l j q.length)).length < q.length
            rw [List.length_eraseIdx,if_pos hkl]
            omega
          · exact ⟨⟨⟨_,rfl,(CoR.of_eq (by rw [List.length_eraseIdx,if_pos hkl]))⟩,zy,c9,c9,c9,trivial⟩,⟨⟨_,rfl,(ml rfl (by rw [List.length_eraseIdx,if_pos hkl]))⟩,u9,u9,u9,trivial⟩⟩
      ·
       have h5:=of_decide_eq_false r5
       try simp only [ty] at h5
       obtain rfl:q = []:=List.eq_nil_of_length_eq_zero (by omega)
       have htT:=hk.done
       refine aq ?_;refine sx7 ?_;(iterate 2 refine qy ?_)
       refine ax rfl rfl rfl rfl rfl rfl tt ((ui t a r hk.ok.ok hk.ok.na hk.ok.nr hk.ok.la hk.ok.lr).swap 1000 902) (⟨nn.refl _,(by rw [htT];exact nn.refl _),trivial⟩) ⟨u9,u9,trivial⟩ rfl rfl ?_
       refine qy ?_;refine a6 ?_
       exact hx8 rfl rfl rfl (CoL.refl _)
theorem akh (x:Rcp) (l:List UInt8):al Tryz.prog 4 [x.pc,pP (u8s l)] (az [pB true]):=by
 by_cases hx:x.rows.length ≤ 8
 · by_cases hl:12 < l.length
   · exact apd x l hx hl
   · exact ap8 x l hx hl
 · exact aom x l hx
end Go.Hx
end
