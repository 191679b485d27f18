/- A part of the proof: Dw10 Dw11. -/
import Derived.Test.YtkkenjdfbojdlaaGreatDoorFx32
import Derived.Test.YtkkenjdfbojdlaaGreatDoorFx39
import Derived.Test.YtkkenjdfbojdlaaGreatDoorFx40
set_option linter.all false
set_option maxRecDepth 100000
set_option maxHeartbeats 1000000
namespace Go.Hx
section
open Go.Proofs
theorem b5d:goodFn Tryz.prog 25:=wgx Tryz.func25
theorem au4 (ns:List Bs) (l m:List Fd) (ps:List AS) (c:Int) (sts:PV) (hsz:∀ b ∈ ns,b.size ≤ 1000):af Tryz.prog 25 [pP (bsl ns),pP (fdl l),pP (fdl m), .agg [asl ps, .raw (.int .i64 c),sts]] (aj [pS (a6l ns l m ps c),pI (pg ns l m ps)]):=by
 refine a8 (nt:=139) a7 Tryz.func25 rfl rfl l9 ?_;refine sx7 ?_;refine m9 0 ?_;refine w_7 ?_;refine qcx b6u (b75 ns (fun b hb=>Nat.le_trans (hsz b hb) (by decide))) ?_;refine w_7 ?_
 refine a6 _ rfl (fun r0=>?_) (fun r0=>?_)
 ·
  have h0:=r0
  have h0:=aa (au h0)
  try simp only [ty] at h0
  refine w_7 ?_;refine ⟨.inr rfl, ?_⟩
  have hr:=apm (l:=l) (m:=m) (ps:=ps) (c:=c) h0
  exact f9 rfl rfl (⟨CoC.one (CoP.of_eq (by rw [hr.2];rfl)),cci hr.1.symm,trivial⟩)
 have h0:=r0
 have h0:=ae (ar h0)
 try simp only [ty] at h0
 refine w_8 ?_;refine qcx b84 (atv ns.length ps) ?_;refine w_7 ?_;refine a6 _ rfl (fun r1=>?_) (fun r1=>?_)
 ·
  have h1:=r1
  have h1:=aa (au h1)
  try simp only [ty] at h1
  refine w_7 ?_;refine ⟨.inr rfl, ?_⟩
  have hr:=asb (l:=l) (m:=m) (c:=c) h0 h1
  exact f9 rfl rfl (⟨CoC.one (CoP.of_eq (by rw [hr.2];rfl)),cci hr.1.symm,trivial⟩)
 have h1:=r1
 have h1:=ae (ar h1)
 try simp only [ty] at h1
 refine w_8 ?_;refine qcx b4c (at6 ns.length l m) ?_;refine w_7 ?_;refine a6 _ rfl (fun r2=>?_) (fun r2=>?_)
 ·
  have h2:=r2
  have h2:=aa (au h2)
  try simp only [ty] at h2
  refine w_7 ?_;refine ⟨.inr rfl, ?_⟩
  have hr:=aru (c:=c) h0 h1 h2
  exact f9 rfl rfl (⟨CoC.one (CoP.of_eq (by rw [hr.2];rfl)),cci hr.1.symm,trivial⟩)
 have h2:=r2
 have h2:=ae (ar h2)
 try simp only [ty] at h2
 refine w_2 ?_
 have he:j6 ns = 0:=h0
 have hv:lvE ns.length ps = 0:=h1
 have hb:d9 ns.length l m = 0:=h2
 obtain ⟨hn0,hn8,h64,_,_⟩:=n3 hv
 obtain ⟨_,_,hl64,hall,_,_⟩:=m8 hb
 have h16:ns.length ≤ 16:=by omega
 have hne:∀ b ∈ ns,¬ b = ⟨#[]⟩:=fun b hb=>ban he hb
 have hx:=axw hsz
 have hP:∀ i,(d7 ns l ps i).length ≤ 134400000000:=fun i=>a89 hsz (fun p hp=>a14 hv hp) h64
 have hin:∀ f ∈ l,sub f.lhs (aq ns.length) ∧ sub f.rhs (aq ns.length):=fun f hf=>by
  have:=(aj5 hn0 (by omega)).1 (List.all_eq_true.1 hall f hf)
  exact ⟨it sg this,it wh this⟩
 have hmem:∀ s,sub s (aq ns.length) → ∀ i ∈ ap s,i < ns.length:=fun s hs i hi=>aiw (by omega) hs hi
 refine w_9 ?_
 refine ah (ι:=Nat) ⟨[(0,some _),(1,some _),(7,some _)],[(0,some _)]⟩ ⟨⟨c9,c9,c9,trivial⟩,⟨u9,trivial⟩⟩ (fun i=>⟨[(13,some (vS (bOf (d7 ns l ps i)))),(14,some (vI i))],[]⟩) (fun i=>i ≤ ps.length) (fun i=>ps.length - i) (0) (Nat.zero_le _) ⟨⟨⟨_,rfl,(CoR.of_eq rfl)⟩,zy,trivial⟩,trivial⟩ ?_
 rintro i hi
 refine w_9 ?_;refine a6 _ rfl (fun r3=>?_) (fun r3=>?_)
 ·
  have h3:=ae r3
  try simp only [ty] at h3
  have hil:i < ps.length:=by omega
  have hmp:(ps.getD i default) ∈ ps:=cu hil
  have hps:sub (ps.getD i default) (aq ns.length):=a9g hv hmp
  have hpl:=yu (l:=l) (a14 hv hmp)
  refine w_6 ?_;refine rq rfl rfl rfl rfl rfl ?_ (hp:=(by have h1:=hP i;show (d7 ns l ps i).length + 5 ≤ _;omega));refine w_6 ?_;refine qcx a9m (a58 (ps.getD i default) ns h16 hne (hmem _ hps) hsz) ?_
  refine rq rfl rfl rfl rfl rfl ?_ (hp:=(by have h1:=hP i;have h2:=hx (ps.getD i default);rw [szA];show (d7 ns l ps i).length + 5 + _ ≤ _;omega))
  refine rq rfl rfl rfl rfl rfl ?_ (hp:=(by have h1:=hP i;have h2:=hx (ps.getD i default);rw [szA,szA];show (d7 ns l ps i).length + 5 + _ + 5 ≤ _;omega));refine dl ?_
  refine qcx b5n (b7v l (ps.getD i default)) ?_;refine w_8 ?_
  have hK:∀ k,(((d7 ns l ps i) ++ k6 ns (ps.getD i default)) ++ io ns (pkL l (ps.getD i default)) k).length ≤ 140000000000:=fun k=>by
   have h1:=hP i
   have h3:=xr hsz (ps.getD i default)
   have h4:=xu (i:=k) (ks:=(pkL l (ps.getD i default))) hsz
   have h5:=yu (l:=l) (a14 hv hmp)
   rw [List.length_append,List.length_append]
   omega
  refine ah (ι:=Nat) ⟨[(0,some _),(1,some _),(7,some _),(14,some _),(15,some _)],[(0,some _)]⟩ ⟨⟨c9,c9,c9,c9,c9,trivial⟩,⟨u9,trivial⟩⟩ (fun k=>⟨[(13,some (vS (bOf (((d7 ns l ps i) ++ k6 ns (ps.getD i default)) ++ io ns (pkL l (ps.getD i default)) k)))),(16,some (vI k))],[]⟩) (fun k=>k ≤ (pkL l (ps.getD i default)).length) (fun k=>(pkL l (ps.getD i default)).length - k) (0) (Nat.zero_le _) ⟨⟨⟨_,rfl,(CoR.of_eq (by rw [b9c]))⟩,zy,trivial⟩,trivial⟩ ?_
  rintro k hk
  refine w_8 ?_;refine a6 _ rfl (fun r4=>?_) (fun r4=>?_)
  ·
   have h4:=ae r4
   try simp only [ty] at h4
   have hkk:k < (pkL l (ps.getD i default)).length:=by omega
   have hkey:sub ((pkL l (ps.getD i default)).getD k default) (aq ns.length):=it (apy (cu hkk)) hps
   refine w_5 ?_;refine rq rfl rfl rfl rfl rfl ?_ (hp:=(by have h1:=hK k;show _ + 1 ≤ _;rw [li];omega));refine w_5 ?_
   refine qcx a9m (a58 ((pkL l (ps.getD i default)).getD k default) ns h16 hne (hmem _ hkey) hsz) ?_
   refine rq rfl rfl rfl rfl rfl ?_ (hp:=(by have h1:=hK k;have h2:=hx ((pkL l (ps.getD i default)).getD k default);rw [szA,li];show _ + 1 + _ ≤ _;omega));refine w_7 ?_;refine ⟨k + 1, ?_, ?_, ?_⟩
   · show k + 1 ≤ _;omega
   · first | omega | (dsimp only;omega)
   exact ⟨⟨⟨_,rfl,(CoR.of_eq (by rw [bay hkk]))⟩,zy,c9,c9,c9,c9,c9,trivial⟩,⟨u9,trivial⟩⟩
  have h4:=aa r4
  try simp only [ty] at h4
  obtain rfl:k = (pkL l (ps.getD i default)).length:=by omega
  refine w_3 ?_;refine rq rfl rfl rfl rfl rfl ?_ (hp:=(by have h1:=hK (pkL l (ps.getD i default)).length;show _ + 1 ≤ _;rw [li];omega));refine w_7 ?_;refine ⟨i + 1, ?_, ?_, ?_⟩
  · show i + 1 ≤ _;omega
  · first | omega | (dsimp only;omega)
  exact ⟨⟨⟨_,rfl,(CoR.of_eq (by rw [b9i hil]))⟩,zy,c9,c9,c9,trivial⟩,⟨u9,trivial⟩⟩
 have h3:=aa r3
 try simp only [ty] at h3
 obtain rfl:i = ps.length:=by omega
 refine w_6 ?_;refine qcx b6m (au5 l ps (by omega)) ?_;refine w_8 ?_
 have hL:∀ j,(eq ns l (b7 l ps l.length) j).length ≤ 4102400:=fun j=>a9a hsz (Nat.le_trans a11 hl64)
 have hJ:∀ j,((d7 ns l ps ps.length) ++ eq ns l (b7 l ps l.length) j).length ≤ 140000000000:=fun j=>by
  have h1:=hP ps.length
  have h4:=hL j
  rw [List.length_append]
  omega
 refine ah (ι:=Nat) ⟨[(0,some _),(1,some _),(7,some _),(17,some _)],[(0,some _)]⟩ ⟨⟨c9,c9,c9,c9,trivial⟩,⟨u9,trivial⟩⟩ (fun j=>⟨[(13,some (vS (bOf ((d7 ns l ps ps.length) ++ eq ns l (b7 l ps l.length) j)))),(18,some (vI j))],[]⟩) (fun j=>j ≤ (b7 l ps l.length).length) (fun j=>(b7 l ps l.length).length - j) (0) (Nat.zero_le _) ⟨⟨⟨_,rfl,(CoR.of_eq (by rw [show eq ns l (b7 l ps l.length) 0 = [] from rfl,List.append_nil]))⟩,zy,trivial⟩,trivial⟩ ?_
 rintro j hj
 refine w_8 ?_;refine a6 _ rfl (fun r5=>?_) (fun r5=>?_)
 ·
  have h5:=ae r5
  try simp only [ty] at h5
  have hjl:j < (b7 l ps l.length).length:=by omega
  have hj2:=akg hjl
  have hls:=Nat.le_trans (a11 (l:=l) (ps:=ps)) hl64
  have hf:=hin (l.getD ((b7 l ps l.length).getD j default) default) (cu hj2)
  refine w_3 ?_;refine bg (E:=bj) a7 aw [0,1,2,3,4,5,6,7,8,9,10,11,12,13,14,15,16,17,18,19,20,21,22,23,24,25,26] ?_;refine qy ?_
  refine rq rfl rfl rfl rfl rfl ?_ (hp:=(by have h1:=hJ j;show _ + 5 ≤ _;rw [li];omega));refine w_5 ?_;refine rq rfl rfl rfl rfl rfl ?_ (hp:=⟨rfl,Int.natCast_nonneg _,Int.ofNat_lt.2 hj2⟩);refine w_3 ?_
  refine qcx a9m (a58 (l.getD ((b7 l ps l.length).getD j default) default).lhs ns h16 hne (hmem _ hf.1) hsz) ?_
  refine rq rfl rfl rfl rfl rfl ?_ (hp:=(by have h1:=hJ j;have h2:=hx (l.getD ((b7 l ps l.length).getD j default) default).lhs;rw [szA,li];show _ + 5 + _ ≤ _;omega))
  refine rq rfl rfl rfl rfl rfl ?_ (hp:=(by have h1:=hJ j;have h2:=hx (l.getD ((b7 l ps l.length).getD j default) default).lhs;rw [szA,szA,li];show _ + 5 + _ + 4 ≤ _;omega));refine w_5 ?_
  refine rq rfl rfl rfl rfl rfl ?_ (hp:=⟨rfl,Int.natCast_nonneg _,Int.ofNat_lt.2 hj2⟩);refine w_3 ?_;refine qcx a9m (a58 (l.getD ((b7 l ps l.length).getD j default) default).rhs ns h16 hne (hmem _ hf.2) hsz) ?_
  refine rq rfl rfl rfl rfl rfl ?_ (hp:=(by have h1:=hJ j;have h2:=hx (l.getD ((b7 l ps l.length).getD j default) default).lhs;have h3:=hx (l.getD ((b7 l ps l.length).getD j default) default).rhs;rw [szA,szA,szA,li];show _ + 5 + _ + 4 + _ ≤ _;omega))
  refine rq rfl rfl rfl rfl rfl ?_ (hp:=(by have h1:=hJ j;have h2:=hx (l.getD ((b7 l ps l.length).getD j default) default).lhs;have h3:=hx (l.getD ((b7 l ps l.length).getD j default) default).rhs;rw [szA,szA,szA,szA,li];show _ + 5 + _ + 4 + _ + 1 ≤ _;omega))
  refine w_2 ?_;refine ⟨by kernel_rfl, ?_⟩;refine w_5 ?_;refine ⟨j + 1, ?_, ?_, ?_⟩
  · show j + 1 ≤ _;omega
  · first | omega | (dsimp only;omega)
  exact ⟨⟨⟨_,rfl,(CoR.of_eq (by rw [ba8 hjl _ rfl]))⟩,zy,c9,c9,c9,c9,trivial⟩,⟨u9,trivial⟩⟩
 have h5:=aa r5
 try simp only [ty] at h5
 obtain rfl:j = (b7 l ps l.length).length:=by omega
 refine w_8 ?_
 have z0:(bOf ((d7 ns l ps ps.length) ++ eq ns l (b7 l ps l.length) (b7 l ps l.length).length)).size ≤ 140000000000:=by have h1:=hP ps.length;have h4:=hL (b7 l ps l.length).length;rw [li,List.length_append];omega
 have z1:=zo z0 (show (⟨#[99,108,97,105,109,115]⟩:Bs).size ≤ 6 by decide)
 have w0:(kd c 1 ⟨#[108,111,115,115,108,101,115,115]⟩).size ≤ 11:=Nat.le_trans (x5 c 1 ⟨#[108,111,115,115,108,101,115,115]⟩) (by decide)
 have z2:=zo z1 w0
 have w1:(kd c 2 ⟨#[112,114,101,115,101,114,118,105,110,103]⟩).size ≤ 11:=Nat.le_trans (x5 c 2 ⟨#[112,114,101,115,101,114,118,105,110,103]⟩) (by decide)
 have z3:=zo z2 w1
 have w2:(kd c 4 ⟨#[116,104,105,114,100]⟩).size ≤ 11:=Nat.le_trans (x5 c 4 ⟨#[116,104,105,114,100]⟩) (by decide)
 have z4:=zo z3 w2
 have w3:(kd c 8 ⟨#[98,111,121,99,101]⟩).size ≤ 11:=Nat.le_trans (x5 c 8 ⟨#[98,111,121,99,101]⟩) (by decide)
 have z5:=zo z4 w3
 have w4:(kd c 16 ⟨#[102,111,117,114,116,104]⟩).size ≤ 11:=Nat.le_trans (x5 c 16 ⟨#[102,111,117,114,116,104]⟩) (by decide)
 have z6:=zo z5 w4
 refine w_2 ?_;refine rq rfl rfl rfl rfl rfl ?_ (hp:=(by show _ + 6 ≤ _;omega));refine qy ?_;refine qcx a2u (a3q c 1 ⟨#[108,111,115,115,108,101,115,115]⟩ (by decide)) ?_
 refine rq rfl rfl rfl rfl rfl ?_ (hp:=(by omega));refine qy ?_;refine qcx a2u (a3q c 2 ⟨#[112,114,101,115,101,114,118,105,110,103]⟩ (by decide)) ?_;refine rq rfl rfl rfl rfl rfl ?_ (hp:=(by omega))
 refine qy ?_;refine qcx a2u (a3q c 4 ⟨#[116,104,105,114,100]⟩ (by decide)) ?_;refine rq rfl rfl rfl rfl rfl ?_ (hp:=(by omega));refine qy ?_;refine qcx a2u (a3q c 8 ⟨#[98,111,121,99,101]⟩ (by decide)) ?_
 refine rq rfl rfl rfl rfl rfl ?_ (hp:=(by omega));refine qy ?_;refine qcx a2u (a3q c 16 ⟨#[102,111,117,114,116,104]⟩ (by decide)) ?_;refine rq rfl rfl rfl rfl rfl ?_ (hp:=(by omega))
 refine rq rfl rfl rfl rfl rfl ?_ (hp:=(by show _ + 1 ≤ _;omega));refine w_4 ?_;refine ⟨.inr rfl, ?_⟩
 have hr:=ap1 (c:=c) he hv hb
 exact f9 rfl rfl (⟨CoC.one (CoP.of_eq (by rw [hr.2,b8u];rfl)),cci hr.1.symm,trivial⟩)
theorem b68:goodFn Tryz.prog 24:=wgx Tryz.func24
theorem b3l (n:Nat) (c:Bool) (f:Nat → Nat → PV) (hn:n ≤ 8796093022208) :
 dw Tryz.prog 24 [.one (.p (.sl n 1 c f))] [] (.v (.one (.ref 0 n))) [(0, .arr true 1 9 n f)] []:=by
 refine gd (nt:=8) a7 Tryz.func24 rfl rfl l9 rfl ?_;refine sx7 ?_;refine ce true rfl rfl rfl rfl rfl trivial ?_;refine ax ?_
 refine zd (ι:=Bool) (fun c=>⟨[(0,some (bp (.sl n 1 c f)))],[]⟩) (fun _=>True) ?_ fun c _=>?_
 · rcases Nat.eq_zero_or_pos n with hz | h0
   · subst hz
     refine hw_exact' 0 rfl fun ad cap hcap=>?_
     refine sx7 ?_;(iterate 2 refine ce true rfl rfl rfl rfl rfl trivial ?_);refine ax ?_;refine a6 ad.isNone rfl (fun hc=>?_) (fun hc=>?_)
     · refine sx7 ?_
       refine ce true rfl rfl rfl rfl rfl trivial ?_;refine ax ?_;refine d6 2 0 true 1 9 f (by decide) rfl (CoP.sl rfl (.inr rfl) (fun h=>h) fun i j hi _=>absurd hi (Nat.not_lt_zero i)) (.inr rfl) rfl ?_
       refine go ?_;refine ⟨.inr rfl, ?_⟩
       exact ⟨_,_,rfl,trivial,CoR.refl _,⟨u9,trivial⟩⟩
     refine dn ?_
     exact ⟨false,trivial,⟨⟨_,rfl,CoP.raw_sl hcap⟩,trivial⟩,trivial⟩
   refine sx7 ?_;refine ce true rfl rfl rfl rfl rfl trivial ?_;refine ce true rfl rfl rfl rfl rfl h0 ?_;refine ax ?_;refine a6 false rfl (fun hc=>by cases hc) (fun hc=>?_);refine dn ?_
   exact ⟨c,trivial,⟨c9,trivial⟩,trivial⟩
 refine sx7 ?_;refine vn 0 rfl rfl rfl rfl rfl rfl trivial ?_;refine ce true rfl rfl rfl rfl rfl trivial ?_
 refine a35 0 true rfl rfl rfl rfl rfl rfl ⟨trivial,rfl,rfl,rfl, .inl rfl,by show 0 + n ≤ 9223372036854775807;omega,by show (0 + n) * 16 ≤ 140737488355328;omega,fun _=>.inl rfl⟩ ?_
 refine ce true rfl rfl rfl rfl rfl trivial ?_;refine w_2 ?_;refine ⟨.inr rfl, ?_⟩;refine ⟨_,_,rfl,trivial,CoR.of_eq (by show HR.v (.one (.ref 0 (0 + n))) = _;rw [Nat.zero_add]),⟨⟨_,rfl, ?_⟩,trivial⟩⟩
 exact ⟨fun h=>h,rfl,rfl,(Nat.zero_add n).symm,fun i j _ _=>CoP.of_eq (by simp [gk])⟩
theorem atg (n:Nat) (c:Bool) (f:Nat → Nat → PV) (hn:n ≤ 8796093022208):af Tryz.prog 24 [.one (.sl n 1 c f)] (.v (.one (.sl n 1 false f))) :=
 dw.pure (args:=[.one (.sl n 1 c f)]) (l:=[.one (.ref 0 n)]) (b3l n c f hn) rfl ⟨rfl,trivial⟩
theorem b7n:goodFn Tryz.prog 22:=wgx Tryz.func22
theorem b9s (t:Bs) (ns:List Bs) (ht:t.size ≤ 1048576) (hl:ns.length ≤ 1048576) (hs:∀ b ∈ ns,b.size ≤ 1048576):af Tryz.prog 22 [pS t,pP (bsl ns)] (aj [pB (abn t ns)]):=by
 refine a8 (nt:=29) a7 Tryz.func22 rfl rfl l9 ?_;refine fc ?_
 have hall:=b2s hs
 have hall2:=Nat.mul_le_mul_left 1048576 hl
 refine w_4 ?_
 refine ah (ι:=Nat) ⟨[(1,some _)],[]⟩ ⟨⟨c9,trivial⟩,trivial⟩ (fun i=>⟨[(5,some (vI ((t.size:Int) + szB (ns.take i)))),(6,some (vI i))],[]⟩) (fun i=>i ≤ ns.length) (fun i=>ns.length - i) (0) (Nat.zero_le _) ⟨⟨⟨_,rfl,(coi (by simp [szB]))⟩,zy,trivial⟩,trivial⟩ ?_
 rintro i hi
 refine w_8 ?_;refine a6 _ rfl (fun r0=>?_) (fun r0=>?_)
 ·
  have h0:=ae r0
  try simp only [ty] at h0
  have hil:i < ns.length:=by omega
  have hst:=a7p hil
  have hst2:=tg ns (i + 1)
  have hst3:(ns.getD (i:Int).toNat default).size = (ns.getD i default).size:=rfl
  refine amv ?_;refine ⟨i + 1, ?_, ?_, ?_⟩
  · show i + 1 ≤ _;omega
  · first | omega | (dsimp only;omega)
  exact ⟨⟨⟨_,rfl,(coi (by rw [hst];omega))⟩,zy,c9,trivial⟩,trivial⟩
 have h0:=aa r0
 try simp only [ty] at h0
 obtain rfl:i = ns.length:=by omega
 rw [List.take_length] at *
 refine w_6 ?_;refine b9 rfl rfl (fun r1=>?_) (fun r1=>?_)
 ·
  have h1:=ae r1
  try simp only [ty] at h1
  (iterate 3 refine qy ?_ (hg:=(gtt r1)));refine w_3 ?_
  exact hx8 rfl rfl rfl (⟨ccb (by unfold abn;first | (simp_all;done) | (rw [decide_eq_false (by assumption)];rfl)),trivial⟩)
 have h1:=aa r1
 try simp only [ty] at h1
 (iterate 3 refine k9 (gft r1) ?_);refine rq rfl rfl rfl rfl rfl ?_ (hp:=r1);refine w_2 ?_
 exact hx8 rfl rfl rfl (⟨ccb (by unfold abn;first | (simp_all;done) | (rw [decide_eq_false (by assumption)];rfl)),trivial⟩)
theorem b79:goodFn Tryz.prog 10:=wgx Tryz.func10
theorem b9u (d:Rcp) (hf:d.f.length ≤ 16777216) (hm:d.m.length ≤ 16777216) (hp:d.p.length ≤ 16777216):af Tryz.prog 10 [d.pc] (aj [pI (d.num 4),pP (fdl (d.fs 4)),pP (fdl (d.ms 4)),pP (asl (d.ps 4)),pB (okR d)]):=by
 refine a8 (nt:=30) a7 Tryz.func10 rfl rfl l9 ?_;refine sx7 ?_;refine m9 0 ?_;refine w_9 ?_;refine qcx b51 (bbr d hf hm hp) ?_;refine aay ?_;refine b9 rfl rfl (fun r0=>?_) (fun r0=>?_)
 ·
  have h0:=r0
  (iterate 3 refine qy ?_ (hg:=(gtt r0)));refine w_7 ?_
  exact hx8 rfl rfl rfl (⟨CoC.refl _,CoC.refl _,CoC.refl _,CoC.refl _,ccb (by unfold okR;first | (simp_all;done) | (rw [‹decide _ = false›];rfl) | (simp_all;omega)),trivial⟩)
 have h0:=r0
 (iterate 3 refine k9 (gft r0) ?_);refine rq rfl rfl rfl rfl rfl ?_ (hp:=r0);refine w_6 ?_
 exact hx8 rfl rfl rfl (⟨CoC.refl _,CoC.refl _,CoC.refl _,CoC.refl _,ccb (by unfold okR;first | (simp_all;done) | (rw [‹decide _ = false›];rfl) | (simp_all;omega)),trivial⟩)
end
section
open Go.Proofs
theorem b8b (d:Rcp) (hf:d.f.length ≤ 16777216) (hm:d.m.length ≤ 16777216) (hp:d.p.length ≤ 16777216) (ns:List Bs) (c:Int) (hl:ns.length ≤ 1048576) (hs:∀ b ∈ ns,b.size ≤ 1048576):af Tryz.prog 7 [d.pc,pP (bsl ns),pI c] (aj [pB true]):=by
 refine a8 (nt:=81) a7 Tryz.func7 rfl rfl l9 ?_;refine sx7 ?_;refine m9 0 ?_;refine w_5 ?_;refine qcx b79 (b9u d hf hm hp) ?_;refine mr ?_;refine qcx afg (a7c) ?_;refine w_6 ?_
 refine b9 rfl rfl (fun r0=>?_) (fun r0=>?_)
 ·
  have h0:=r0
  have h0:=au h0
  (iterate 3 refine k9 (gtf r0) ?_);refine rq rfl rfl rfl rfl rfl ?_ (hp:=r0);refine ax ?_;refine a6 _ rfl (fun _=>?_) (fun e=>by cases e);refine sx7 ?_;refine qcx afg (a7c) ?_;refine w_2 ?_
  exact hx8 rfl rfl rfl (CoL.refl _)
 have h0:=r0
 have h0:=ar h0
 refine qy ?_ (hg:=(gff r0));refine qcx b7n (b9s ⟨#[]⟩ ns (by decide) hl hs) ?_ (hg:=(gff r0));refine qy ?_ (hg:=(gff r0));refine w_2 ?_;refine a6 _ rfl (fun r1=>?_) (fun r1=>?_)
 ·
  have h1:=r1
  have h1:=c6 r0 h1
  have h1:=au h1
  refine sx7 ?_;refine qcx afg (a7c) ?_;refine w_2 ?_
  exact hx8 rfl rfl rfl (CoL.refl _)
 have h1:=r1
 have h1:=c6 r0 h1
 have h1:=ar h1
 have hok:okR d = true:=by simp_all
 have hfew:abn ⟨#[]⟩ ns = true:=by simp_all
 obtain ⟨hf4,hm4,hp3⟩:=b8t hok
 have hn4:=bbb d
 have hsz:∀ b ∈ nsL d ns,b.size ≤ 1000:=fun b hb=>b4h hfew (ayp hb)
 have hnl:(nsL d ns).length ≤ 1048576:=b3e hl
 have hpl:(d.ps 4).length = d.p.length:=by simp [Rcp.ps]
 refine dn ?_;refine d4 (ι:=Unit) ⟨[(2,some _),(8,some _),(9,some _),(10,some _)],[]⟩ ⟨⟨c9,c9,c9,c9,trivial⟩,trivial⟩ (fun _i=>⟨[(1,some (.v (.one (.p (bsl (nsL d ns))))))],[]⟩) (fun _i=>True) ?_ ?_
 ·
  refine w_7 ?_;refine b9 rfl rfl (fun r2=>?_) (fun r2=>?_)
  ·
   have h2:=ae r2
   try simp only [ty] at h2
   (iterate 4 refine qy ?_ (hg:=(gtt r2)));refine w_2 ?_;refine a6 _ rfl (fun r3=>?_) (fun r3=>?_)
   ·
    have h3:=r3
    have h3:=du r2 h3
    have h3:=ae h3
    try simp only [ty] at h3
    refine w_3 ?_;refine rq rfl rfl rfl rfl rfl ?_ (hp:=⟨rfl,trivial,⟨by omega,by show d.num 4 ≤ ((ns.length:Nat):Int);omega⟩,trivial⟩);refine w_2 ?_;refine ⟨(), ?_, ?_⟩
    · trivial
    exact ⟨⟨⟨_,rfl,(by first | (rw [alu (d:=d) (ns:=ns) (by assumption) (by assumption)];exact CoC.one (a1h rfl (by omega))) | (rw [alj (d:=d) (ns:=ns) (by assumption)];exact CoR.refl _) | (rw [anb (d:=d) (ns:=ns) (by assumption)];exact CoR.refl _))⟩,c9,c9,c9,c9,trivial⟩,trivial⟩
   have h3:=r3
   have h3:=du r2 h3
   have h3:=aa h3
   try simp only [ty] at h3
   refine dn ?_;refine ⟨(), ?_, ?_⟩
   · trivial
   exact ⟨⟨⟨_,rfl,(by first | (rw [alu (d:=d) (ns:=ns) (by assumption) (by assumption)];exact CoC.one (a1h rfl (by omega))) | (rw [alj (d:=d) (ns:=ns) (by assumption)];exact CoR.refl _) | (rw [anb (d:=d) (ns:=ns) (by assumption)];exact CoR.refl _))⟩,c9,c9,c9,c9,trivial⟩,trivial⟩
  have h2:=aa r2
  try simp only [ty] at h2
  (iterate 4 refine k9 (gft r2) ?_);refine rq rfl rfl rfl rfl rfl ?_ (hp:=r2);refine ax ?_;refine a6 _ rfl (fun e=>by cases e) (fun _=>?_);refine dn ?_;refine ⟨(), ?_, ?_⟩
  · trivial
  exact ⟨⟨⟨_,rfl,(by first | (rw [alu (d:=d) (ns:=ns) (by assumption) (by assumption)];exact CoC.one (a1h rfl (by omega))) | (rw [alj (d:=d) (ns:=ns) (by assumption)];exact CoR.refl _) | (rw [anb (d:=d) (ns:=ns) (by assumption)];exact CoR.refl _))⟩,c9,c9,c9,c9,trivial⟩,trivial⟩
 rintro _ _
 refine w_5 ?_;refine qcx b58 (b5u (nsL d ns).length (d.ps 4) (by omega)) ?_;refine w_2 ?_;refine m9 1 ?_;refine w_3 ?_;refine bg (E:=bj) a7 aw [0,1,2,3,4,5,6,7,8,9,10] ?_;refine qy ?_
 refine qcx b68 (atg (nsL d ns).length false (lf bsC (nsL d ns)) (by omega)) ?_;refine w_3 ?_;refine qcx aqu (ajj (nsL d ns) (d.fs 4) (d.ms 4) (a3t (nsL d ns).length (d.ps 4)) c _ hsz) ?_;refine w_6 ?_
 refine ⟨by kernel_rfl, ?_⟩;refine w_6 ?_;refine qcx b5d (au4 (nsL d ns) (d.fs 4) (d.ms 4) (a3t (nsL d ns).length (d.ps 4)) c _ hsz) ?_;refine fc ?_;refine b9 rfl rfl (fun r4=>?_) (fun r4=>?_)
 ·
  have h4:=ae r4
  try simp only [ty] at h4
  (iterate 3 refine qy ?_ (hg:=(gtt r4)));refine w_3 ?_
  exact hx8 rfl rfl rfl (⟨ccb (by simp),trivial⟩)
 have h4:=aa r4
 try simp only [ty] at h4
 exfalso
 first | exact h4 rfl | exact h4 trivial | cases h4
end
end Go.Hx
