/- A part of the proof: X31 Cc4 Ds1 Rb27 Ds2 Bz1 Bz2. -/
import Derived.Lib.Join
import Derived.Test.YtkkenjdfbojdlaaGreatDoorMx31
set_option linter.all false
set_option maxRecDepth 100000
set_option maxHeartbeats 1000000
namespace Go.Hx
section
open Go.Proofs
def b3m (n:Int) (l:List Rw) (p m:List Fd) (i a b:Int):a7 btb 129 [pT n l,pP (fdl p),pP (fdl m), .agg [.raw (.bool true), .raw (.int .i64 i), .raw (.int .i64 a), .raw (.int .i64 b)]] (aa [pT (dv n l p m true i a b).1 (dv n l p m true i a b).2.1,pI (dv n l p m true i a b).2.2]):=by
 refine hpx (nt:=69) Tryz.func129 ?_;refine sx7 ?_;refine m9 0 ?_;refine m9 1 ?_;refine m9 2 ?_;refine w_8 ?_;refine qcx ah2 (acb n l p m) ?_;refine w_7 ?_;refine hcn (fun h0=>?_) (fun h0=>?_)
 · refine w_7 ?_;refine hrr ?_;have he:=alm (n:=n) (l:=l) (p:=p) (m:=m) (mu:=true) (i:=i) (a:=a) (b:=b) bsr;exact f9 rfl rfl (by rw [he];exact ⟨CoC.agg ⟨CoP.refl _,bg,trivial⟩,CoC.refl _,trivial⟩)
 have hck:ckE n l p m = 0:=by assumption
 obtain ⟨hT,hbe,hpa⟩:=aou hck;refine bf2 ?_;refine ai rfl rfl (fun r1=>?_) (fun r1=>?_)
 ·
  have h1:=tz1 r1;(iterate 4 refine k9 (gtf r1) ?_);refine w_2 ?_;(iterate 5 refine k9 rfl ?_);refine w_2 ?_;(iterate 6 refine k9 rfl ?_);refine w_2 ?_;(iterate 9 refine k9 rfl ?_);refine w_9 ?_;refine hrr ?_
  have hbad:jm l p m true i a b:=by
   first
    | exact bdS
    | (refine (qk (a:=a) (b:=b) ?_).elim (fun hq=>?_) (fun hq=>?_) <;> first | assumption | exact bdS)
    | (refine (qi (a:=a) (b:=b) (k:=(l.length:Int)) ?_).elim (fun hq=>?_) (fun hq=>?_) <;> first | assumption | exact bdS)
  have he:=np hck hbad;exact f9 rfl rfl (by rw [he];exact ⟨CoC.agg ⟨CoP.refl _,bg,trivial⟩,CoC.refl _,trivial⟩)
 have h1:=tz2 r1;(iterate 4 refine qy ?_ (hg:=(gff r1)));refine w_2 ?_;refine ai rfl rfl (fun r2=>?_) (fun r2=>?_)
 ·
  have h2:=tz1 (aq r1 r2);(iterate 5 refine k9 (gtf r2) ?_);refine w_2 ?_;(iterate 6 refine k9 rfl ?_);refine w_2 ?_;(iterate 9 refine k9 rfl ?_);refine w_9 ?_;refine hrr ?_
  have hbad:jm l p m true i a b:=by
   first
    | exact bdS
    | (refine (qk (a:=a) (b:=b) ?_).elim (fun hq=>?_) (fun hq=>?_) <;> first | assumption | exact bdS)
    | (refine (qi (a:=a) (b:=b) (k:=(l.length:Int)) ?_).elim (fun hq=>?_) (fun hq=>?_) <;> first | assumption | exact bdS)
  have he:=np hck hbad;exact f9 rfl rfl (by rw [he];exact ⟨CoC.agg ⟨CoP.refl _,bg,trivial⟩,CoC.refl _,trivial⟩)
 have h2:=tz2 (aq r1 r2);(iterate 5 refine qy ?_ (hg:=(gff r2)));refine w_2 ?_;refine ai rfl rfl (fun r3=>?_) (fun r3=>?_)
 ·
  have h3:=tz1 (aq r2 r3);(iterate 6 refine k9 (gtf r3) ?_);refine w_2 ?_;(iterate 9 refine k9 rfl ?_);refine w_9 ?_;refine hrr ?_
  have hbad:jm l p m true i a b:=by
   first
    | exact bdS
    | (refine (qk (a:=a) (b:=b) ?_).elim (fun hq=>?_) (fun hq=>?_) <;> first | assumption | exact bdS)
    | (refine (qi (a:=a) (b:=b) (k:=(l.length:Int)) ?_).elim (fun hq=>?_) (fun hq=>?_) <;> first | assumption | exact bdS)
  have he:=np hck hbad;exact f9 rfl rfl (by rw [he];exact ⟨CoC.agg ⟨CoP.refl _,bg,trivial⟩,CoC.refl _,trivial⟩)
 have h3:=tz2 (aq r2 r3);(iterate 6 refine qy ?_ (hg:=(gff r3)));refine w_2 ?_;refine ai rfl rfl (fun r4=>?_) (fun r4=>?_)
 ·
  have h4:=tz1 (aq r3 r4);(iterate 9 refine k9 (gtf r4) ?_);refine w_9 ?_;refine hrr ?_
  have hbad:jm l p m true i a b:=by
   first
    | exact bdS
    | (refine (qk (a:=a) (b:=b) ?_).elim (fun hq=>?_) (fun hq=>?_) <;> first | assumption | exact bdS)
    | (refine (qi (a:=a) (b:=b) (k:=(l.length:Int)) ?_).elim (fun hq=>?_) (fun hq=>?_) <;> first | assumption | exact bdS)
  have he:=np hck hbad;exact f9 rfl rfl (by rw [he];exact ⟨CoC.agg ⟨CoP.refl _,bg,trivial⟩,CoC.refl _,trivial⟩)
 have h4:=tz2 (aq r3 r4);(iterate 9 refine qy ?_ (hg:=(gff r4)));refine w_2 ?_;refine am _ rfl (fun r5=>?_) (fun r5=>?_)
 ·
  have h5:=tz1 (aq r4 r5);refine w_6 ?_;refine hrr ?_
  have hbad:jm l p m true i a b:=by
   first
    | exact bdS
    | (refine (qk (a:=a) (b:=b) ?_).elim (fun hq=>?_) (fun hq=>?_) <;> first | assumption | exact bdS)
    | (refine (qi (a:=a) (b:=b) (k:=(l.length:Int)) ?_).elim (fun hq=>?_) (fun hq=>?_) <;> first | assumption | exact bdS)
  have he:=np hck hbad;exact f9 rfl rfl (by rw [he];exact ⟨CoC.agg ⟨CoP.refl _,bg,trivial⟩,CoC.refl _,trivial⟩)
 have h5:=tz2 (aq r4 r5);refine w_2 ?_;obtain ⟨ha0,hb0⟩:=az2 (a:=a) (b:=b) bsr;obtain ⟨hal,hbl⟩:=b0h (a:=a) (b:=b) (k:=(l.length:Int)) bsr
 have hnb:¬ jm l p m true i a b:=by
  unfold jm;rintro (h | h | h | h | h | h | ⟨h,h2⟩ | ⟨h,h2⟩) <;> first | omega | cases h
 have ha:a.toNat < l.length:=by omega
 have hb:b.toNat < l.length:=by omega
 have hi:i.toNat < m.length:=by omega
 refine w_5 ?_;refine rc rfl rfl rfl rfl rfl rfl ah3 (aso n l p m i.toNat a.toNat b.toNat hT ha hb hi) (⟨CoC.refl _,CoC.refl _,CoC.refl _,CoC.agg ⟨CoP.refl _,CoP.of_eq (by rw [brm bsq]),CoP.of_eq (by rw [brm bsq]),CoP.of_eq (by rw [brm bsq]),trivial⟩,trivial⟩) rfl rfl ?_;refine w_5 ?_;refine hrr ?_;have he:=acq (n:=n) (i:=i) (a:=a) (b:=b) hck hnb;exact f9 rfl rfl (by rw [he];exact CoL.refl _)
def b4i (n:Int) (l:List Rw) (p m:List Fd) (i a b:Int):a7 btb 129 [pT n l,pP (fdl p),pP (fdl m), .agg [.raw (.bool false), .raw (.int .i64 i), .raw (.int .i64 a), .raw (.int .i64 b)]] (aa [pT (dv n l p m false i a b).1 (dv n l p m false i a b).2.1,pI (dv n l p m false i a b).2.2]):=by
 refine hpx (nt:=69) Tryz.func129 ?_;refine sx7 ?_;refine m9 0 ?_;refine m9 1 ?_;refine m9 2 ?_;refine w_8 ?_;refine qcx ah2 (acb n l p m) ?_;refine w_7 ?_;refine hcn (fun h0=>?_) (fun h0=>?_)
 · refine w_7 ?_;refine hrr ?_;have he:=alm (n:=n) (l:=l) (p:=p) (m:=m) (mu:=false) (i:=i) (a:=a) (b:=b) bsr;exact f9 rfl rfl (by rw [he];exact ⟨CoC.agg ⟨CoP.refl _,bg,trivial⟩,CoC.refl _,trivial⟩)
 have hck:ckE n l p m = 0:=by assumption
 obtain ⟨hT,hbe,hpa⟩:=aou hck;refine an8 ?_;refine ai rfl rfl (fun r1=>?_) (fun r1=>?_)
 ·
  have h1:=tz1 r1;(iterate 4 refine k9 (gtf r1) ?_);refine w_2 ?_;(iterate 5 refine k9 rfl ?_);refine w_2 ?_;(iterate 6 refine k9 rfl ?_);refine w_2 ?_;(iterate 9 refine k9 rfl ?_);refine w_9 ?_;refine hrr ?_
  have hbad:jm l p m false i a b:=by
   first
    | exact bdS
    | (refine (qk (a:=a) (b:=b) ?_).elim (fun hq=>?_) (fun hq=>?_) <;> first | assumption | exact bdS)
    | (refine (qi (a:=a) (b:=b) (k:=(l.length:Int)) ?_).elim (fun hq=>?_) (fun hq=>?_) <;> first | assumption | exact bdS)
  have he:=np hck hbad;exact f9 rfl rfl (by rw [he];exact ⟨CoC.agg ⟨CoP.refl _,bg,trivial⟩,CoC.refl _,trivial⟩)
 have h1:=tz2 r1;(iterate 4 refine qy ?_ (hg:=(gff r1)));refine w_2 ?_;refine ai rfl rfl (fun r2=>?_) (fun r2=>?_)
 ·
  have h2:=tz1 (aq r1 r2);(iterate 5 refine k9 (gtf r2) ?_);refine w_2 ?_;(iterate 6 refine k9 rfl ?_);refine w_2 ?_;(iterate 9 refine k9 rfl ?_);refine w_9 ?_;refine hrr ?_
  have hbad:jm l p m false i a b:=by
   first
    | exact bdS
    | (refine (qk (a:=a) (b:=b) ?_).elim (fun hq=>?_) (fun hq=>?_) <;> first | assumption | exact bdS)
    | (refine (qi (a:=a) (b:=b) (k:=(l.length:Int)) ?_).elim (fun hq=>?_) (fun hq=>?_) <;> first | assumption | exact bdS)
  have he:=np hck hbad;exact f9 rfl rfl (by rw [he];exact ⟨CoC.agg ⟨CoP.refl _,bg,trivial⟩,CoC.refl _,trivial⟩)
 have h2:=tz2 (aq r1 r2);(iterate 5 refine qy ?_ (hg:=(gff r2)));refine w_2 ?_;refine ai rfl rfl (fun r3=>?_) (fun r3=>?_)
 ·
  have h3:=tz1 (aq r2 r3);(iterate 6 refine k9 (gtf r3) ?_);refine w_2 ?_;(iterate 9 refine k9 rfl ?_);refine w_9 ?_;refine hrr ?_
  have hbad:jm l p m false i a b:=by
   first
    | exact bdS
    | (refine (qk (a:=a) (b:=b) ?_).elim (fun hq=>?_) (fun hq=>?_) <;> first | assumption | exact bdS)
    | (refine (qi (a:=a) (b:=b) (k:=(l.length:Int)) ?_).elim (fun hq=>?_) (fun hq=>?_) <;> first | assumption | exact bdS)
  have he:=np hck hbad;exact f9 rfl rfl (by rw [he];exact ⟨CoC.agg ⟨CoP.refl _,bg,trivial⟩,CoC.refl _,trivial⟩)
 have h3:=tz2 (aq r2 r3);(iterate 6 refine qy ?_ (hg:=(gff r3)));refine w_2 ?_;refine ai rfl rfl (fun r4=>?_) (fun r4=>?_)
 ·
  have h4:=tz1 (aq r3 r4);(iterate 9 refine k9 (gtf r4) ?_);refine w_9 ?_;refine hrr ?_
  have hbad:jm l p m false i a b:=by
   first
    | exact bdS
    | (refine (qk (a:=a) (b:=b) ?_).elim (fun hq=>?_) (fun hq=>?_) <;> first | assumption | exact bdS)
    | (refine (qi (a:=a) (b:=b) (k:=(l.length:Int)) ?_).elim (fun hq=>?_) (fun hq=>?_) <;> first | assumption | exact bdS)
  have he:=np hck hbad;exact f9 rfl rfl (by rw [he];exact ⟨CoC.agg ⟨CoP.refl _,bg,trivial⟩,CoC.refl _,trivial⟩)
 have h4:=tz2 (aq r3 r4);(iterate 9 refine qy ?_ (hg:=(gff r4)));refine w_2 ?_;refine am _ rfl (fun r5=>?_) (fun r5=>?_)
 ·
  have h5:=tz1 (aq r4 r5);refine w_6 ?_;refine hrr ?_
  have hbad:jm l p m false i a b:=by
   first
    | exact bdS
    | (refine (qk (a:=a) (b:=b) ?_).elim (fun hq=>?_) (fun hq=>?_) <;> first | assumption | exact bdS)
    | (refine (qi (a:=a) (b:=b) (k:=(l.length:Int)) ?_).elim (fun hq=>?_) (fun hq=>?_) <;> first | assumption | exact bdS)
  have he:=np hck hbad;exact f9 rfl rfl (by rw [he];exact ⟨CoC.agg ⟨CoP.refl _,bg,trivial⟩,CoC.refl _,trivial⟩)
 have h5:=tz2 (aq r4 r5);refine w_2 ?_;obtain ⟨ha0,hb0⟩:=az2 (a:=a) (b:=b) bsr;obtain ⟨hal,hbl⟩:=b0h (a:=a) (b:=b) (k:=(l.length:Int)) bsr
 have hnb:¬ jm l p m false i a b:=by
  unfold jm;rintro (h | h | h | h | h | h | ⟨h,h2⟩ | ⟨h,h2⟩) <;> first | omega | cases h
 have ha:a.toNat < l.length:=by omega
 have hb:b.toNat < l.length:=by omega
 have hi:i.toNat < p.length:=by omega
 refine w_5 ?_;refine rc rfl rfl rfl rfl rfl rfl ah3 (au6 n l p m i.toNat a.toNat b.toNat hT ha hb hi (bp1.1 hpa _ (dj hi))) (⟨CoC.refl _,CoC.refl _,CoC.refl _,CoC.agg ⟨CoP.refl _,CoP.of_eq (by rw [brm bsq]),CoP.of_eq (by rw [brm bsq]),CoP.of_eq (by rw [brm bsq]),trivial⟩,trivial⟩) rfl rfl ?_;refine w_5 ?_;refine hrr ?_;have he:=acq (n:=n) (i:=i) (a:=a) (b:=b) hck hnb;exact f9 rfl rfl (by rw [he];exact CoL.refl _)
end
section
open Go.Proofs
def bgq (d:Rcp) {k:Nat} (hk:0 < k):1 <= d.num k /\ d.num k <= k:=by
 have:=brv d.n.toNat hk;unfold Rcp.num;omega
abbrev Rcp.fs (d:Rcp) (k:Nat):List Fd:=d.f.map (Dp.fd (d.num k))
abbrev Rcp.ms (d:Rcp) (k:Nat):List Fd:=d.m.map (Dp.fd (d.num k))
abbrev Rcp.ps (d:Rcp) (k:Nat):List AS:=d.p.map (u8S (d.num k))
abbrev Rcp.t0 (d:Rcp) (k:Nat):List Rw:=b5 (bj (d.num k) (d.ps k))
def ap8 {a b:AS}:sub (a &&& b) b:=ae.2 fun i hi e=>by
 rw [boh,boc] at e;exact e.2
def b69 {n:Int} (h0:0 <= n) (h16:n <= 16) (x:Dp):inU n (x.fd n) = true:=(pf h0 h16).2 ⟨ap8,ap8⟩
def b8r (d:Rcp) {k:Nat} (hk:0 < k /\ k <= 5) (hf:d.f.length <= 4) (hm:d.m.length <= 4):be (d.num k) (d.fs k) (d.ms k) = 0:=by
 obtain ⟨h1,h2⟩:=bgq d hk.1
 have hv:au (d.num k) (d.fs k) = 0:=by
  unfold au
  rw [if_neg bsq,if_neg bt3,if_pos (bp1.2 fun x hx=>by
   obtain ⟨y,_,rfl⟩:=boo.1 hx
   exact b69 bsq bsq y)]
 exact (aeu hv bt3 fun j hj=>by
  obtain ⟨y,_,e⟩:=boo.1 (dj hj);rw [<- e]
  exact b69 bsq bsq y).symm
section
variable {n:Int} {p m:List Fd} {l0 l:List Rw}
end
def ari (n:Int) (l:List Rw) (p m:List Fd) (mu:Bool) (i a b:Int):a7 btb 129 [pT n l,pP (fdl p),pP (fdl m), .agg [.raw (.bool mu), .raw (.int .i64 i), .raw (.int .i64 a), .raw (.int .i64 b)]] (aa [pT (dv n l p m mu i a b).1 (dv n l p m mu i a b).2.1,pI (dv n l p m mu i a b).2.2]):=by
 cases mu with
 | false=>exact b4i n l p m i a b
 | true=>exact b3m n l p m i a b
def b1v (n:Int) (l:List Rw) (p m:List Fd) (mu:Bool) (i a b:Int):a7 btb 131 [pT n l,pP (fdl p),pP (fdl m), .agg [.raw (.bool mu), .raw (.int .i64 i), .raw (.int .i64 a), .raw (.int .i64 b)]] (aa [pT (dv n l p m mu i a b).1 (dv n l p m mu i a b).2.1,pI (dv n l p m mu i a b).2.2]):=by
 cases mu with
 | false=>exact b2g n l p m i a b
 | true=>exact b4d n l p m i a b
def aj4 {n:Int} {l:List Rw} {p m:List Fd} {s:St} (hT:tok n l = true) (hb:be n p m = 0) (h:a2z l p m s):dv n l p m s.1 s.2.1 s.2.2.1 s.2.2.2 = fu n l p m s:=by
 obtain ⟨mu,i,a,b⟩:=s;have hck:ckE n l p m = 0:=(if_pos hT).trans hb;obtain ⟨ha,hbb,h⟩:=h;have ha:a < l.length:=ha;have hbb:b < l.length:=hbb
 have hne:¬ a = b:=by
  rintro rfl
  rcases h with ⟨_,_,h⟩ | ⟨_,_,h⟩
  · rw [show j3 l (p.getD i default) a a = false from avt] at h;cases h
  rw [show j4 l (m.getD i default) a a = false from avv ha] at h;cases h
 show dv n l p m mu (i:Int) (a:Int) (b:Int) = _;rw [acq hck]
 · rfl
 unfold jm
 rcases h with ⟨h1,h2,_⟩ | ⟨h1,h2,_⟩
 · have h1:mu = false:=h1
   subst h1;have h2:i < p.length:=h2;rintro (h | h | h | h | h | h | ⟨h,h3⟩ | ⟨h,h3⟩) <;> first | omega | cases h
 have h1:mu = true:=h1;subst h1;have h2:i < m.length:=h2;rintro (h | h | h | h | h | h | ⟨h,h3⟩ | ⟨h,h3⟩) <;> first | omega | cases h
def ayq (n:Int) (l:List Rw) (p m:List Fd) (s:St) (hT:tok n l = true) (hb:be n p m = 0) (h:a2z l p m s) (he:fu n l p m s = (n,(fu n l p m s).2.1,0)):a7 btb 129 [pT n l,pP (fdl p),pP (fdl m),s.pc] (aa [pT n (fu n l p m s).2.1,pI 0]):=by
 have:=ari n l p m s.1 s.2.1 s.2.2.1 s.2.2.2;rw [aj4 hT hb h,he] at this;exact this
end
section
abbrev Bs:=ByteArray
def bsC:Bs -> Nat -> PV:=fun b _=>.raw (.string b)
abbrev bsl (l:List Bs):PV:=psl 1 bsC l
abbrev pS (b:Bs):PC:=.one (.raw (.string b))
abbrev vS (b:Bs):HR:=bn (.raw (.string b))
def byC:UInt8 -> Nat -> PV:=fun x _=>.raw (.int .u8 (x.toNat:Int))
abbrev byl (b:Bs):PV:=psl 1 byC b.data.toList
abbrev pU8 (x:UInt8):PC:=.one (.raw (.int .u8 (x.toNat:Int)))
def coN {α:Type} [Inhabited α] {s:Nat} {c:α -> Nat -> PV} {f:Nat -> Nat -> PV}:CoP (.sl 0 0 true f) (psl s c []):=CoP.sl rfl (.inr rfl) (fun h=>by cases h) fun i j hi _=>absurd hi (bod i)
def aq7 (x:UInt8):Bool:=decide ((x.toNat:Int) <= 32) || decide ((x.toNat:Int) = 127)
def ue (l:List Bs) (i:Nat):Bool:=decide (l.getD i default = ⟨#[]⟩) || ((l.getD i default).data.toList.any aq7 || (l.take i).any fun x=>decide (x = l.getD i default))
def oi (l:List Bs):Int:=if 16 < l.length then 3 else if (List.range l.length).any (ue l) = true then 1 else 0
section
variable {l:List Bs}
def b3e {i:Nat} (h0:¬ (16:Int) < l.length) (hi:i < l.length) (h:ue l i = true):oi l = 1:=by
 unfold oi;rw [if_neg bsq,if_pos (bp4.2 ⟨i,bor.2 hi,h⟩)]
def bm9 (h0:¬ (16:Int) < l.length) (h:∀ j,j < l.length -> ue l j = false):oi l = 0:=by
 unfold oi;rw [if_neg bsq,if_neg];rw [brn,bpw];intro j hj;rw [h j (bor.1 hj)];exact bre
def bmr (h:(16:Int) < l.length):oi l = 3:=if_pos bsq
def bOf (l:List UInt8):Bs:=⟨l.toArray⟩
abbrev bL (b:Bs):List UInt8:=b.data.toList
def bjx (b:Bs):bOf (bL b) = b:=by
 cases b;simp [bOf]
def a6p (l:List Bs) (sep:Bs):Bs:=bOf (Lib.join (l.map bL) (bL sep))
def xm (l:List Bs) (s:AS):List Bs:=(al s).map fun i=>l.getD i default
def txT (l:List Bs) (s:AS):Bs:=if (xm l s).length = 0 then ⟨#[45]⟩ else a6p (xm l s) ⟨#[44]⟩
def szB (l:List Bs):Nat:=(l.map ByteArray.size).sum
def afc (b:Bs):(bL b).length = b.size:=rfl
def b5x (l:List Bs) (sep:List UInt8):(Lib.join (l.map bL) sep).length <= szB l + sep.length * l.length:=by
 cases l with
 | nil=>simp [Lib.join_nil]
 | cons x r =>
  rw [bpt,Lib.join_cons,bob,Lib.joinTail_length]
  have:Lib.lens (r.map bL) = szB r:=by
   unfold Lib.lens szB;rw [List.map_map];rfl
  rw [this,bp2];have h2:szB (x :: r) = x.size + szB r:=by simp [szB]
  rw [h2,afc,bov,Nat.mul_succ];omega
def apo {s:AS} {m:Nat} (h:∀ b ∈ l,b.size <= m):szB (xm l s) <= m * 32:=by
 have key:∀ q:List Nat,szB (q.map fun i=>l.getD i default) <= m * q.length:=by
  intro q
  induction q with
  | nil=>simp [szB]
  | cons i q ih =>
   have h1:(l.getD i default).size <= m:=by
    rw [bo7]
    cases hi:l[i]? with
    | none=>exact boe _
    | some b=>exact h b (List.mem_of_getElem? hi)
   have h2:szB ((i :: q).map fun i=>l.getD i default) = (l.getD i default).size + szB (q.map fun i=>l.getD i default):=by simp [szB]
   rw [h2,bov,Nat.mul_succ];omega
 exact bon (key _) (Nat.mul_le_mul_left _ (qc s))
def b8s {s:AS} {m:Nat} (h:∀ b ∈ l,b.size <= m):(txT l s).size <= m * 32 + 33:=by
 unfold txT;split
 · show 1 <= _
   omega
 show (bOf _).size <= _;have h1:=b5x (xm l s) [44];have h2:=apo (s:=s) h;have h3:(xm l s).length <= 32:=by unfold xm;rw [bp2];exact qc s
 have h4:(bOf (Lib.join ((xm l s).map bL) (bL ⟨#[44]⟩))).size = (Lib.join ((xm l s).map bL) [44]).length:=rfl;rw [h4];simp only [bpz,Nat.one_mul] at h1;omega
end
end
section
open Go.Proofs Go.Proofs.YtkkenjdfbojdlaaGreatDoor
open Go.RowKit Go.ChangeShapes Go.WideShapes Go.ChangeAt
def rd5:Rd btb 5 1 u8C:=(bjb Tryz.underlying5).co (fun u=>u.toBitVec) fun a j hj=>CoP.refl _
def bmm:RdB btb 113 2 Dp.c fun _ _=>True:=by
 intro H enc w sp held fuel cs x h;obtain ⟨hl,n,hf⟩:=b2y Tryz.underlying113 h;obtain ⟨y0,e0⟩:=hf 0 bsq;obtain ⟨y1,e1⟩:=hf 1 bsq;have hc:btb.cellsOf 5 = 1:=by kernel_rfl
 obtain ⟨a0,_,h0⟩:=vt (off:=0) (fun _ _ _ _ _=>trivial) rd5.toB (by simpa using e0);obtain ⟨a1,_,h1⟩:=vt (off:=1) (fun _ _ _ _ _=>trivial) rd5.toB (by simpa [hc] using e1);refine ⟨hl.trans (by kernel_rfl),(⟨a0,a1⟩:Dp),trivial,fun j hj=>?_⟩
 match j,hj with
 | 0,_=>exact h0 0 bsq
 | 1,_=>exact h1 0 bsq
def bg3:RdB btb 22 1 (b4r 2 Dp.c) fun b l=>l.length <= b :=
 (aj0 (B:=fun _ _=>True) (fun _ _ _ _ _=>trivial) Tryz.underlying22 (by kernel_rfl) bsq bmm).co id (fun b a h=>h.1) fun a j hj=>CoP.refl _
def bmx:RdB btb 23 1 (b4r 1 u8C) fun b l=>l.length <= b :=
 (aj0 (B:=fun _ _=>True) (fun _ _ _ _ _=>trivial) Tryz.underlying23 (by kernel_rfl) bsq rd5.toB).co id (fun b a h=>h.1) fun a j hj=>CoP.refl _
abbrev Rcp.c (d:Rcp):Nat -> PV:=fun j=>[.raw (.int .u8 (d.n.toNat:Int)),dpl d.f,dpl d.m,psl 1 u8C d.p].getD j .any
def blv:RdB btb 25 4 Rcp.c fun b d=>d.f.length <= b /\ d.m.length <= b /\ d.p.length <= b:=by
 intro H enc w sp held fuel cs x h;obtain ⟨hl,n,hf⟩:=auz Tryz.underlying25 h;obtain ⟨y0,e0⟩:=hf 0 _ rfl;obtain ⟨y1,e1⟩:=hf 1 _ rfl;obtain ⟨y2,e2⟩:=hf 2 _ rfl;obtain ⟨y3,e3⟩:=hf 3 _ rfl;obtain ⟨a0,_,h0⟩:=vt (fun _ _ _ _ _=>trivial) rd5.toB e0;obtain ⟨a1,b1,h1⟩:=vt (B:=fun b (l:List Dp)=>l.length <= b) (fun _ _ _ h k=>bon k h) bg3 e1;obtain ⟨a2,b2,h2⟩:=vt (B:=fun b (l:List Dp)=>l.length <= b) (fun _ _ _ h k=>bon k h) bg3 e2;obtain ⟨a3,b3,h3⟩:=vt (B:=fun b (l:List (BitVec 8))=>l.length <= b) (fun _ _ _ h k=>bon k h) bmx e3;refine ⟨hl.trans (by kernel_rfl),(⟨a0,a1,a2,a3⟩:Rcp),⟨b1,b2,b3⟩,fun j hj=>?_⟩
 match j,hj with
 | 0,_=>exact h0 0 bsq
 | 1,_=>exact h1 0 bsq
 | 2,_=>exact h2 0 bsq
 | 3,_=>exact h3 0 bsq
def bk3:btb.readableRec 25 = true /\ 25 < btb.types.size:=⟨by kernel_rfl,of_decide_eq_true (by kernel_rfl)⟩
end
section
section
variable {l:List Bs}
def ano {i:Nat} (hi:i < l.length):szB (l.take (i + 1)) = szB (l.take i) + (l.getD i default).size:=by
 unfold szB;rw [List.take_succ,bo6 hi,bqi,List.sum_append,bo7,bo6 hi];simp
def azx (l:List Bs) (i:Nat):szB l = szB (l.take i) + szB (l.drop i):=by
 unfold szB;rw [<- List.sum_append,<- bqi,brd]
def a3h (l:List Bs) (i:Nat):szB (l.take i) <= szB l:=by have:=azx l i;omega
def aez {i:Nat} (hi:i < l.length):(l.getD i default).size <= szB l:=by
 have h1:=ano hi;have h2:=a3h l (i + 1);omega
def ul (l:List Bs) (sep:Bs) (i:Nat):List UInt8:=bL (l.getD 0 default) ++ Lib.joinTail (bL sep) (((l.drop 1).take i).map bL)
def bgi (l:List Bs) (sep:Bs):ul l sep 0 = [] ++ bL (l.getD 0 default):=by simp [ul,Lib.joinTail]
def aia {sep:Bs} {i:Nat} (hi:1 + i < l.length):ul l sep (i + 1) = (ul l sep i ++ bL sep) ++ bL (l.getD (1 + i) default):=by
 unfold ul
 have h:((l.drop 1).map bL)[i]? = some (bL (l.getD (1 + i) default)):=by
  rw [boy,bqj,bo7,bo6 hi];rfl
 have h2:=Lib.joinTail_take_succ (bL sep) ((l.drop 1).map bL) i _ h;rw [List.map_take,List.map_take,h2];simp only [bpo]
def b47 (sep:Bs) (h:l ≠ []):(⟨(ul l sep (l.length - 1)).toArray⟩:Bs) = a6p l sep:=by
 obtain ⟨x,r,rfl⟩:=List.exists_cons_of_ne_nil h;unfold ul a6p bOf;rw [bpt,Lib.join_cons];simp
def bdc (l:List Bs) (sep:Bs) (i:Nat):(ul l sep i).length <= szB l + sep.size * l.length:=by
 unfold ul;rw [bob,Lib.joinTail_length,bp2]
 have h1:Lib.lens (((l.drop 1).take i).map bL) <= szB (l.drop 1):=by
  have:Lib.lens (((l.drop 1).take i).map bL) = szB ((l.drop 1).take i):=by
   unfold Lib.lens szB;rw [List.map_map];rfl
  rw [this];exact a3h _ _
 have h2:((l.drop 1).take i).length <= l.length:=by
  rw [boi,bpy];omega
 have h3:(bL (l.getD 0 default)).length + szB (l.drop 1) <= szB l:=by
  cases l with
  | nil=>exact bo9 0
  | cons x r =>
   have e:szB (x :: r) = x.size + szB r:=by simp [szB]
   rw [e];show x.size + szB r <= _;omega
 have h4:=Nat.mul_le_mul_left sep.size h2;show _ + (sep.size * _ + _) <= _;omega
def b1e (sep:Bs) (h:(l.length:Int) = 1):a6p l sep = l.getD 0 default:=by
 match l,h with
 | [x],_ =>
  show bOf (Lib.join [bL x] (bL sep)) = x;rw [Lib.join_one,bjx]
def bms {α:Type} {l:List α} (h:(l.length:Int) = 0):l = []:=bq2 bsq
def bbw {n:Int} (h1:1 <= n) (h2:n <= 1000):(2:Int) <= 9223372036854775807 / n:=Int.le_ediv_of_mul_le bsq bsq
end
end
section
section
variable {b:AS}
def mf {a:AS} (h:∀ i,i < 32 -> a.getLsbD i = b.getLsbD i):a = b:=bpx h
variable {s:AS}
def k7 {t:AS}:s &&& t = 0 <-> ∀ i,i < 32 -> s.getLsbD i = true -> t.getLsbD i = false:=by
 constructor
 · intro h i hi hs
   have:=congrArg (fun x:AS=>x.getLsbD i) h;simp only [boh,hs,bq1] at this;simpa using this
 intro h;apply mf;intro i hi;have:=h i hi;rw [boh];cases hs:s.getLsbD i <;> simp_all
def z6 {t:AS} (h:s &&& t ≠ 0):∃ i,i < 32 /\ s.getLsbD i = true /\ t.getLsbD i = true:=by
 apply Classical.byContradiction;intro hn;refine h (k7.2 fun i hi hs=>?_)
 cases ht:t.getLsbD i with
 | false=>rfl
 | true=>exact absurd ⟨i,hi,hs,ht⟩ hn
def ao8 (h:s ≠ 0):∃ i,i < 32 /\ s.getLsbD i = true:=by
 apply Classical.byContradiction;intro hn;refine h (mf fun i hi=>?_)
 cases hs:s.getLsbD i with
 | false=>simp
 | true=>exact absurd ⟨i,hi,hs⟩ hn
def a1g {i:Nat} (h:s.getLsbD i = true):i < 32:=BitVec.lt_of_getLsbD h
def c7 {t:AS} {i:Nat} (hi:i < 32):(s &&& ~~~t).getLsbD i = (s.getLsbD i && !t.getLsbD i):=by simp [hi]
def j8 (a:Nat):AS:=1#32 <<< a
def fp {a i:Nat} (ha:a < 32) (hi:i < 32):(j8 a).getLsbD i = decide (i = a):=by
 unfold j8;rw [BitVec.getLsbD_shiftLeft];by_cases h:i = a
 · subst h;simp [hi]
 by_cases h2:i < a
 · simp [h,h2,hi]
 have:i - a ≠ 0:=by omega
 simp [h,h2,hi,BitVec.getLsbD_one,this]
def b3r {a:Nat} (ha:a < 32) (h:sub b (j8 a)) (hb:b.getLsbD a = true):b = j8 a:=by
 apply mf;intro i hi;have:=ae.1 h i hi;rw [fp ha hi] at this ⊢;by_cases e:i = a
 · subst e;simp [hb]
 cases hs:b.getLsbD i
 · simp [e]
 simp [e,hs] at this
def eq (m:Fd) (b:AS):Bool:=decide (b &&& m.lhs = 0) && (decide (b &&& m.rhs ≠ 0) && decide (b &&& ~~~m.rhs ≠ 0))
def hdB (m:Fd) (b:AS):AS:=if eq m b = true then b &&& m.rhs else b
def tlB (m:Fd) (b:AS):List AS:=if eq m b = true then [b &&& ~~~m.rhs] else []
def stB (m:Fd) (l:List AS) (i:Nat):List AS:=(l.take i).map (hdB m) ++ l.drop i ++ (l.take i).flatMap (tlB m)
def rdB (m:Fd) (l:List AS):List AS:=l.map (hdB m) ++ l.flatMap (tlB m)
def cz (ms:List Fd) (l:List AS):List AS:=ms.foldl (fun l m=>rdB m l) l
def nv:List Fd -> List AS -> Bool
 | [],_=>false
 | m :: ms,l=>l.any (eq m) || nv ms (rdB m l)
def zr (ms:List Fd):Nat -> List AS -> List AS
 | 0,l=>l
 | f + 1,l=>if nv ms l = true then zr ms f (cz ms l) else cz ms l
def muB:List AS -> Nat
 | []=>0
 | b :: l=>b.toNat * b.toNat + muB l
def afo:∀ (l k:List AS),muB (l ++ k) = muB l + muB k
 | [],k=>by simp [muB]
 | b :: l,k=>by simp [muB,afo l k];omega
def abd (b r:AS):(b &&& r).toNat + (b &&& ~~~r).toNat = b.toNat:=by
 have h:(b &&& r) &&& (b &&& ~~~r) = 0#32:=k7.2 fun i hi hs=>by
  rw [c7 hi];rw [boh,boc] at hs;simp [hs.1,hs.2]
 have e:(b &&& r) + (b &&& ~~~r) = b:=by
  rw [BitVec.add_eq_or_of_and_eq_zero _ _ h];apply mf;intro i hi;rw [bpj,c7 hi,boh];cases b.getLsbD i <;> cases r.getLsbD i <;> rfl
 rw [<- BitVec.toNat_add_of_and_eq_zero h,e]
def rp {m:Fd}:eq m b = true <-> b &&& m.lhs = 0 /\ b &&& m.rhs ≠ 0 /\ b &&& ~~~m.rhs ≠ 0:=by simp [eq]
def b31 {x y z:Nat} (h:x + y = z) (hx:0 < x) (hy:0 < y):x * x + y * y < z * z:=by
 subst h;rw [bpl,Nat.mul_add,Nat.mul_add];have:0 < x * y:=Nat.mul_pos hx hy;have:0 < y * x:=Nat.mul_pos hy hx;omega
def a73 (h:b ≠ 0):0 < b.toNat:=Nat.pos_of_ne_zero fun e=>h (bp8 e)
def ayt (m:Fd):∀ (l:List AS),muB (l.map (hdB m)) + muB (l.flatMap (tlB m)) + (if l.any (eq m) = true then 1 else 0) <= muB l
 | []=>by simp [muB]
 | b :: l=>by
  have ih:=ayt m l;rw [bpt,brk,afo,List.any_cons];simp only [muB];by_cases h:eq m b = true
  · obtain ⟨_,h2,h3⟩:=rp.1 h
    have:=b31 (abd b m.rhs) (a73 h2) (a73 h3);simp only [hdB,tlB,h,if_true,muB,Bool.true_or];omega
  rw [brn] at h;simp only [hdB,tlB,h,muB,Bool.false_or,bpe,if_false];omega
def bcr (m:Fd) (l:List AS):muB (rdB m l) + (if l.any (eq m) = true then 1 else 0) <= muB l:=by
 unfold rdB;rw [afo];exact ayt m l
def agu:∀ (ms:List Fd) (l:List AS),muB (cz ms l) + (if nv ms l = true then 1 else 0) <= muB l
 | [],l=>by simp [cz,nv]
 | m :: ms,l=>by
  have h1:=bcr m l;have h2:=agu ms (rdB m l);show muB (cz ms (rdB m l)) + _ <= _;simp only [nv];by_cases h3:l.any (eq m) = true <;> by_cases h4:nv ms (rdB m l) = true <;> simp only [h3,h4,Bool.true_or,bsp,Bool.or_false,if_true,bpe,if_false] at h1 h2 ⊢ <;> omega
def b2f {m:Fd} {l:List AS} (h:l.any (eq m) = false):rdB m l = l:=by
 have h':∀ b ∈ l,eq m b = false:=fun b hb=>by
  have:=bpw.1 h b hb;simpa using this
 have e1:l.map (hdB m) = l:=by
  conv=>rhs;rw [<- List.map_id l]
  exact bqx fun b hb=>by simp [hdB,h' b hb]
 have e2:l.flatMap (tlB m) = []:=List.flatMap_eq_nil_iff.2 fun b hb=>by simp [tlB,h' b hb]
 simp [rdB,e1,e2]
def aoy:∀ {ms:List Fd} {l:List AS},nv ms l = false -> cz ms l = l /\ ∀ m ∈ ms,∀ b ∈ l,eq m b = false
 | [],l,_=>⟨rfl,fun _ h=>by cases h⟩
 | m :: ms,l,h=>by
  simp only [nv,bri] at h;have e:=b2f h.1;rw [e] at h;obtain ⟨h1,h2⟩:=aoy h.2;refine ⟨?_,fun k hk b hb=>?_⟩
  · show cz ms (rdB m l) = l
    rw [e];exact h1
  rcases bok.1 hk with rfl | hk
  · have:=bpw.1 h.1 b hb
    simpa using this
  exact h2 k hk b hb
structure Blk (ms:List Fd) (rest:AS) (bs:List AS):Prop where
 nz:∀ b ∈ bs,b ≠ 0
 cnt:∀ a,a < 32 -> bs.countP (fun b=>b.getLsbD a) = if rest.getLsbD a = true then 1 else 0
 ind:∀ G:AS -> Prop,G rest -> (∀ m ∈ ms,∀ b,G b -> eq m b = true -> G (b &&& m.rhs) /\ G (b &&& ~~~m.rhs)) -> ∀ b ∈ bs,G b
variable {bs:List AS} {ms:List Fd} {rest:AS}
theorem Blk.rd (h:Blk ms rest bs) {m:Fd} (hm:m ∈ ms):Blk ms rest (rdB m bs):=by
 have hmem:∀ {b:AS},b ∈ rdB m bs -> ∃ b0 ∈ bs,(eq m b0 = false /\ b = b0) \/ (eq m b0 = true /\ (b = b0 &&& m.rhs \/ b = b0 &&& ~~~m.rhs)):=by
  intro b hb;unfold rdB at hb
  rcases boj.1 hb with hb | hb
  · obtain ⟨b0,h0,rfl⟩:=boo.1 hb
    refine ⟨b0,h0, ?_⟩;cases hs:eq m b0 <;> simp [hdB,hs]
  obtain ⟨b0,h0,hb⟩:=List.mem_flatMap.1 hb;refine ⟨b0,h0, ?_⟩;cases hs:eq m b0
  · simp [tlB,hs] at hb
  simp [tlB,hs] at hb;exact .inr ⟨rfl, .inr hb⟩
 refine ⟨fun b hb=>?_,fun a ha=>?_,fun G h0 hG b hb=>?_⟩
 · obtain ⟨b0,h0,⟨_,rfl⟩ | ⟨hs,hb⟩⟩:=hmem hb
   · exact h.nz _ h0
   obtain ⟨_,h2,h3⟩:=rp.1 hs
   rcases hb with rfl | rfl
   · exact h2
   exact h3
 · rw [<- h.cnt a ha]
   have:∀ l:List AS,(l.map (hdB m)).countP (fun b=>b.getLsbD a) + (l.flatMap (tlB m)).countP (fun b=>b.getLsbD a) = l.countP (fun b=>b.getLsbD a):=by
    intro l
    induction l with
    | nil=>rfl
    | cons b l ih =>
     rw [bpt,brk,bsd,bqs,bqs,<- ih];cases hs:eq m b
     · simp [hdB,tlB,hs];omega
     simp only [hdB,tlB,hs,if_true,bqs,List.countP_nil,c7 ha,boh];cases b.getLsbD a <;> cases m.rhs.getLsbD a <;> simp <;> omega
   unfold rdB;rw [bsd];exact this bs
 obtain ⟨b0,h1,⟨_,rfl⟩ | ⟨hs,hb⟩⟩:=hmem hb
 · exact h.ind G h0 hG _ h1
 obtain ⟨g1,g2⟩:=hG m hm b0 (h.ind G h0 hG _ h1) hs
 rcases hb with rfl | rfl
 · exact g1
 exact g2
theorem Blk.ron:∀ {ms':List Fd} {bs:List AS},(∀ m ∈ ms',m ∈ ms) -> Blk ms rest bs -> Blk ms rest (cz ms' bs)
 | [],bs,_,h=>h
 | m :: ms',bs,hm,h=>Blk.ron (ms':=ms') (fun k hk=>hm k (by simp [hk])) (h.rd (hm m bst))
theorem Blk.end_:∀ {f:Nat} {bs:List AS},muB bs < f -> Blk ms rest bs -> Blk ms rest (zr ms f bs) /\ ∀ m ∈ ms,∀ b ∈ zr ms f bs,eq m b = false
 | 0,bs,hf,_=>absurd hf (bod _)
 | f + 1,bs,hf,h=>by
  have hr:=h.ron (ms':=ms) (fun _ h=>h);unfold zr;cases hc:nv ms bs
  · obtain ⟨e,hs⟩:=aoy hc
    simp only [bpe,if_false];rw [e];exact ⟨h,hs⟩
  have:=agu ms bs;rw [hc] at this;simp only [if_true] at this ⊢;exact Blk.end_ bsq hr
def li (rest:AS):List AS:=if rest = 0 then [] else [rest]
theorem Blk.start (ms:List Fd) (rest:AS):Blk ms rest (li rest):=by
 unfold li;by_cases h:rest = 0
 · subst h
   simp only [if_true];exact ⟨fun _ h=>by (cases h),fun a ha=>by simp,fun _ _ _ _ h=>by cases h⟩
 rw [if_neg h];exact ⟨fun b hb=>by (simp at hb;subst hb;exact h),fun a ha=>by simp [bqs],fun G h0 _ b hb=>by (simp at hb;subst hb;exact h0)⟩
def ai9 (rest:AS):muB (li rest) < 18446744073709551616:=by
 unfold li;split
 · simp [muB]
 simp only [muB];have h:=rest.isLt;have:=Nat.mul_le_mul (br4 (show rest.toNat < 4294967295 + 1 from h)) (br4 (show rest.toNat < 4294967295 + 1 from h));omega
def blks (ms:List Fd) (rest:AS):List AS:=zr ms 18446744073709551616 (li rest)
def a3j (ms:List Fd) (rest:AS):Blk ms rest (blks ms rest) /\ ∀ m ∈ ms,∀ b ∈ blks ms rest,eq m b = false:=Blk.end_ (ai9 rest) (Blk.start ms rest)
def aw4 {p:AS -> Bool} {l:List AS} (h:l.countP p <= 1) {a:AS} (ha:a ∈ l) (hb:b ∈ l) (pa:p a = true) (pb:p b = true):a = b:=by
 rw [List.countP_eq_length_filter] at h;have h1:a ∈ l.filter p:=bpq.2 ⟨ha,pa⟩;have h2:b ∈ l.filter p:=bpq.2 ⟨hb,pb⟩
 cases hl:l.filter p with
 | nil=>rw [hl] at h1;cases h1
 | cons x r =>
  rw [hl] at h h1 h2
  cases r with
  | nil=>simp at h1 h2;rw [h1,h2]
  | cons=>simp at h
theorem Blk.one (h:Blk ms rest bs) {b':AS} (hb:b ∈ bs) (hb':b' ∈ bs) {a:Nat} (h1:b.getLsbD a = true) (h2:b'.getLsbD a = true):b = b':=by
 refine aw4 (p:=fun b=>b.getLsbD a) ?_ hb hb' h1 h2;rw [h.cnt a (a1g h1)];split <;> omega
theorem Blk.cov (h:Blk ms rest bs) {a:Nat} (ha:rest.getLsbD a = true):∃ b ∈ bs,b.getLsbD a = true:=by
 have:=h.cnt a (a1g ha);rw [if_pos ha] at this;exact List.countP_pos_iff.1 bsq
theorem Blk.sub (h:Blk ms rest bs) (hb:b ∈ bs):Go.Hx.sub b rest:=ae.2 fun a ha hba=>by
 have h1:=h.cnt a ha;have h2:0 < bs.countP (fun b=>b.getLsbD a):=List.countP_pos_iff.2 ⟨b,hb,hba⟩
 cases hr:rest.getLsbD a with
 | true=>rfl
 | false=>rw [hr] at h1;simp only [bpe,if_false] at h1;omega
end
end
section
def sgl (f:Fd):List Fd:=(al f.rhs).map fun a=>⟨f.lhs,j8 a⟩
def j5 (fs ms:List Fd):List Fd:=ms ++ fs.flatMap sgl
def a1t {fs ms:List Fd} {m:Fd}:m ∈ j5 fs ms <-> m ∈ ms \/ ∃ f ∈ fs,∃ a,a < 32 /\ f.rhs.getLsbD a = true /\ m = ⟨f.lhs,j8 a⟩:=by
 unfold j5 sgl;simp only [boj,List.mem_flatMap,boo,gi];constructor
 · rintro (h | ⟨f,hf,a,⟨h1,h2⟩,rfl⟩)
   · exact .inl h
   exact .inr ⟨f,hf,a,h1,h2,rfl⟩
 rintro (h | ⟨f,hf,a,h1,h2,rfl⟩)
 · exact .inl h
 exact .inr ⟨f,hf,a,⟨h1,h2⟩,rfl⟩
def i7 (T:List AS) (r:AS):List AS:=if r ∈ T then T else T ++ [r]
def sb {T:List AS} {r z:AS}:z ∈ i7 T r <-> z ∈ T \/ z = r:=by
 unfold i7;split
 · rename_i h
   constructor
   · exact .inl
   rintro (h2 | rfl)
   · exact h2
   exact h
 simp
def zz {T:List AS} {r:AS} (h:T.Nodup):(i7 T r).Nodup:=by
 unfold i7;split
 · exact h
 rename_i hr;rw [List.nodup_append];exact ⟨h,by simp,fun a ha b hb=>by simp at hb;subst hb;rintro rfl;exact hr ha⟩
def og (s:AS) (o:List AS) (T:List AS):List AS:=T.foldl (fun o r=>i7 o (r &&& ~~~s)) o
def ln (T:List AS) (s:AS):List AS:=og s [] T
def ac9 {s:AS}:∀ {T o:List AS},(o.Nodup -> (og s o T).Nodup) /\ ∀ z,z ∈ og s o T <-> z ∈ o \/ ∃ r ∈ T,z = r &&& ~~~s
 | [],o=>⟨fun h=>h,fun z=>by simp [og]⟩
 | r :: T,o=>by
  obtain ⟨h1,h2⟩:=ac9 (s:=s) (T:=T) (o:=i7 o (r &&& ~~~s));refine ⟨fun h=>h1 (zz h),fun z=>?_⟩;show z ∈ og s (i7 o (r &&& ~~~s)) T <-> _;rw [h2 z,sb];simp only [bok];constructor
  · rintro ((h | h) | ⟨q,hq,h⟩)
    · exact .inl h
    · exact .inr ⟨r, .inl rfl,h⟩
    exact .inr ⟨q, .inr hq,h⟩
  rintro (h | ⟨q,rfl | hq,h⟩)
  · exact .inl (.inl h)
  · exact .inl (.inr h)
  exact .inr ⟨q,hq,h⟩
def uv {T:List AS} {s z:AS}:z ∈ ln T s <-> ∃ r ∈ T,z = r &&& ~~~s:=by
 have:=(ac9 (s:=s) (T:=T) (o:=[])).2 z;simpa [ln] using this
def aem (T:List AS) (s:AS):(ln T s).Nodup:=(ac9 (s:=s) (T:=T) (o:=[])).1 List.nodup_nil
def mh (d:Fd) (r k:AS):AS:=(r &&& (d.lhs ||| d.rhs)) ||| (k &&& ~~~(d.lhs ||| d.rhs))
def agB (d:Fd) (r k:AS):Bool:=decide ((r ^^^ k) &&& d.lhs = 0)
def x9 {d:Fd} {r k:AS}:agB d r k = true <-> ∀ i,i < 32 -> d.lhs.getLsbD i = true -> r.getLsbD i = k.getLsbD i:=by
 unfold agB;rw [decide_eq_true_eq,k7];constructor
 · intro h i hi hl
   have:=h i hi;rw [bsf] at this;cases hr:r.getLsbD i <;> cases hk:k.getLsbD i <;> simp_all
 intro h i hi hx
 cases hl:d.lhs.getLsbD i with
 | false=>rfl
 | true =>
  rw [bsf,h i hi hl] at hx;simp at hx
def xd {d:Fd} {r k:AS} {i:Nat} (hi:i < 32):(mh d r k).getLsbD i = (if d.lhs.getLsbD i || d.rhs.getLsbD i then r.getLsbD i else k.getLsbD i):=by
 unfold mh;rw [bpj,c7 hi,boh,bpj];cases d.lhs.getLsbD i <;> cases d.rhs.getLsbD i <;> simp
structure aka (fs ms:List Fd) (T:List AS):Prop where
 fd:∀ d ∈ fs,∀ r ∈ T,∀ k ∈ T,agB d r k = true -> (r ^^^ k) &&& d.rhs = 0
 mv:∀ d ∈ ms,∀ r ∈ T,∀ k ∈ T,agB d r k = true -> mh d r k ∈ T
def adg (fs:List Fd) (bs:List AS) (a:Nat):Prop:=j8 a ∈ bs /\ ∃ f ∈ fs,f.rhs.getLsbD a = true /\ f.lhs.getLsbD a = false
structure JT (fs:List Fd) (bs:List AS) (rest:AS) (T:List AS):Prop where
 z:(0:AS) ∈ T
 r:∀ r ∈ T,sub r rest /\ ∀ b ∈ bs,b &&& r = 0 \/ sub b r
 top:∃ L ∈ T,(∀ r ∈ T,sub r L) /\ ∀ a,a < 32 -> rest.getLsbD a = true -> L.getLsbD a = false -> adg fs bs a
def a2w {b r:AS} (h:b &&& r = 0 \/ sub b r) {a c:Nat} (hc:c < 32) (ha:b.getLsbD a = true) (hb:b.getLsbD c = true):r.getLsbD a = r.getLsbD c:=by
 rcases h with h | h
 · rw [k7.1 h a (a1g ha) ha,k7.1 h c hc hb]
 rw [ae.1 h a (a1g ha) ha,ae.1 h c hc hb]
def asj {b r:AS} (h:∀ a c,a < 32 -> c < 32 -> b.getLsbD a = true -> b.getLsbD c = true -> r.getLsbD a = true -> r.getLsbD c = true):b &&& r = 0 \/ sub b r:=by
 by_cases hz:b &&& r = 0
 · exact .inl hz
 obtain ⟨a,ha,h1,h2⟩:=z6 hz;exact .inr (ae.2 fun c hc hb=>h a c ha hc h1 hb h2)
section
variable {fs ms:List Fd} {bs:List AS} {rest:AS} {T:List AS}
theorem JT.mix (h:JT fs bs rest T) {d:Fd} (hs:∀ b ∈ bs,eq d b = false) {r k:AS} (hr:r ∈ T) (hk:k ∈ T) (ha:agB d r k = true):JT fs bs rest (i7 T (mh d r k)):=by
 have ha:=x9.1 ha;obtain ⟨r1,r2⟩:=h.r r hr;obtain ⟨k1,k2⟩:=h.r k hk;obtain ⟨L,l1,l2,l3⟩:=h.top
 have hm:∀ R:AS,sub r R -> sub k R -> sub (mh d r k) R:=fun R h1 h2=>ae.2 fun i hi hb=>by
  rw [xd hi] at hb;split at hb
  · exact ae.1 h1 i hi hb
  exact ae.1 h2 i hi hb
 refine ⟨sb.2 (.inl h.z),fun q hq=>?_,L,sb.2 (.inl l1),fun q hq=>?_,l3⟩
 · rcases sb.1 hq with hq | rfl
   · exact h.r q hq
   refine ⟨hm rest r1 k1,fun b hb=>?_⟩;refine asj fun a c hal hcl hba hbc hqa=>?_;rw [xd hal] at hqa;rw [xd hcl];by_cases hL:b &&& d.lhs = 0
   · have hns:=hs b hb
     have hor:b &&& d.rhs = 0 \/ b &&& ~~~d.rhs = 0:=by
      apply Classical.byContradiction;intro hn;rw [not_or] at hn;rw [rp.2 ⟨hL,hn.1,hn.2⟩] at hns;cases hns
     have e1:=k7.1 hL a hal hba;have e2:=k7.1 hL c hcl hbc;rw [e1] at hqa;rw [e2]
     rcases hor with ho | ho
     · rw [k7.1 ho a hal hba] at hqa
       rw [k7.1 ho c hcl hbc];simp only [Bool.or_false,bpe,if_false] at hqa ⊢;rw [<- a2w (k2 b hb) hcl hba hbc];exact hqa
     have f1:=k7.1 ho a hal hba;have f2:=k7.1 ho c hcl hbc;have f1:d.rhs.getLsbD a = true:=by simpa [hal] using f1
     have f2:d.rhs.getLsbD c = true:=by simpa [hcl] using f2
     rw [f1] at hqa;rw [f2];simp only [bsp,if_true] at hqa ⊢;rw [<- a2w (r2 b hb) hcl hba hbc];exact hqa
   obtain ⟨e,he,hbe,hle⟩:=z6 hL;have hrk:=ha e he hle;have ra:=a2w (r2 b hb) he hba hbe;have rc:=a2w (r2 b hb) he hbc hbe;have ka:=a2w (k2 b hb) he hba hbe;have kc:=a2w (k2 b hb) he hbc hbe
   have x1:r.getLsbD e = true:=by
    split at hqa
    · rw [<- ra];exact hqa
    rw [hrk,<- ka];exact hqa
   split
   · rw [rc];exact x1
   rw [kc,<- hrk];exact x1
 rcases sb.1 hq with hq | rfl
 · exact l2 q hq
 exact hm L (l2 r hr) (l2 k hk)
theorem JT.equ (h:JT fs bs rest T) (hbk:Blk (j5 fs ms) rest bs) (hs:∀ m ∈ j5 fs ms,∀ b ∈ bs,eq m b = false) {d:Fd} (hd:d ∈ fs) {r k:AS} (hr:r ∈ T) (hk:k ∈ T) (ha:agB d r k = true):JT fs bs rest (ln T ((r ^^^ k) &&& d.rhs)):=by
 have ha:=x9.1 ha;obtain ⟨r1,r2⟩:=h.r r hr;obtain ⟨k1,k2⟩:=h.r k hk;obtain ⟨L,l1,l2,l3⟩:=h.top
 have hdead:∀ a,a < 32 -> ((r ^^^ k) &&& d.rhs).getLsbD a = true -> adg fs bs a:=fun a hal h0=>by
  rw [boh,bsf,boc] at h0;obtain ⟨h0,hR⟩:=h0;have hne:r.getLsbD a ≠ k.getLsbD a:=fun e=>by rw [e] at h0;simp at h0
  have hLa:d.lhs.getLsbD a = false:=by
   cases hl:d.lhs.getLsbD a with
   | false=>rfl
   | true=>exact absurd (ha a hal hl) hne
  have hrest:rest.getLsbD a = true:=by
   cases hra:r.getLsbD a with
   | true=>exact ae.1 r1 a hal hra
   | false =>
    cases hka:k.getLsbD a with
    | true=>exact ae.1 k1 a hal hka
    | false=>rw [hra,hka] at hne;exact absurd rfl hne
  obtain ⟨b,hb,hba⟩:=hbk.cov hrest
  have hL0:b &&& d.lhs = 0:=k7.2 fun e he hbe=>by
   cases hl:d.lhs.getLsbD e with
   | false=>rfl
   | true =>
    have h1:=ha e he hl;rw [<- a2w (r2 b hb) he hba hbe,<- a2w (k2 b hb) he hba hbe] at h1;exact absurd h1 hne
  have hsp:=hs ⟨d.lhs,j8 a⟩ (a1t.2 (.inr ⟨d,hd,a,hal,hR,rfl⟩)) b hb
  have hsub:sub b (j8 a):=by
   apply Classical.byContradiction;intro hn
   have ht:eq ⟨d.lhs,j8 a⟩ b = true:=rp.2 ⟨hL0,fun e=>by
    have:=k7.1 (show b &&& j8 a = 0 from e) a hal hba;rw [fp hal hal] at this
    simp at this,hn⟩
   rw [ht] at hsp;cases hsp
  have he:=b3r hal hsub hba;exact ⟨by rw [<- he];exact hb,d,hd,hR,hLa⟩
 refine ⟨uv.2 ⟨0,h.z,by simp⟩,fun q hq=>?_,L &&& ~~~((r ^^^ k) &&& d.rhs),uv.2 ⟨L,l1,rfl⟩,fun q hq=>?_,fun a hal h1 h2=>?_⟩
 · obtain ⟨p,hp,rfl⟩:=uv.1 hq
   obtain ⟨p1,p2⟩:=h.r p hp;refine ⟨ae.2 fun i hi hb=>?_,fun b hb=>asj fun a c hal hcl hba hbc hqa=>?_⟩
   · rw [c7 hi,boc] at hb
     exact ae.1 p1 i hi hb.1
   rw [c7 hal,boc] at hqa;rw [c7 hcl,boc];refine ⟨by rw [<- a2w (p2 b hb) hcl hba hbc];exact hqa.1, ?_⟩
   cases hsc:((r ^^^ k) &&& d.rhs).getLsbD c with
   | false=>rfl
   | true =>
    have hsg:=(hdead c hcl hsc).1;have he:=hbk.one hb hsg hbc (by rw [fp hcl hcl];simp);rw [he,fp hcl hal] at hba;have hac:a = c:=by simpa using hba
    rw [hac,hsc] at hqa;simp at hqa
 · obtain ⟨p,hp,rfl⟩:=uv.1 hq
   refine ae.2 fun i hi hb=>?_;rw [c7 hi,boc] at hb ⊢;exact ⟨ae.1 (l2 p hp) i hi hb.1,hb.2⟩
 rw [c7 hal] at h2
 cases hLa:L.getLsbD a with
 | false=>exact l3 a hal h1 hLa
 | true =>
  rw [hLa] at h2;exact hdead a hal (by simpa using h2)
def bjk (T:List AS) (b:AS):Prop:=∀ r ∈ T,∀ k ∈ T,((r &&& b) ||| (k &&& ~~~b)) ∈ T
def l6 {r k b:AS} {i:Nat} (hi:i < 32):((r &&& b) ||| (k &&& ~~~b)).getLsbD i = (if b.getLsbD i then r.getLsbD i else k.getLsbD i):=by
 rw [bpj,c7 hi,boh];cases b.getLsbD i <;> simp
def b6e {r k s:AS} (h:(r ^^^ k) &&& s = 0) {i:Nat} (hi:i < 32) (hs:s.getLsbD i = true):r.getLsbD i = k.getLsbD i:=by
 have:=k7.1 (show s &&& (r ^^^ k) = 0 by rw [bse];exact h) i hi hs;rw [bsf] at this;cases hr:r.getLsbD i <;> cases hk:k.getLsbD i <;> simp_all
def ale (hT:JT fs bs rest T) (hc:aka fs ms T) (hbk:Blk (j5 fs ms) rest bs):∀ b ∈ bs,bjk T b:=by
 refine hbk.ind _ (fun r hr k hk=>?_) fun m hm b hb hsp=>?_
 · have e:(r &&& rest) ||| (k &&& ~~~rest) = r:=by
    apply mf;intro i hi;rw [l6 hi];split
    · rfl
    rename_i hn;have h1:=ae.1 (hT.r r hr).1 i hi;have h2:=ae.1 (hT.r k hk).1 i hi;cases hr2:r.getLsbD i <;> cases hk2:k.getLsbD i <;> simp_all
   rw [e];exact hr
 obtain ⟨s1,s2,s3⟩:=rp.1 hsp
 have key:∀ r ∈ T,∀ k ∈ T,((r &&& b) ||| (k &&& ~~~b)) ∈ T /\ agB m ((r &&& b) ||| (k &&& ~~~b)) k = true:=fun r hr k hk=>by
  refine ⟨hb r hr k hk,x9.2 fun i hi hl=>?_⟩;rw [l6 hi]
  have:b.getLsbD i = false:=by
   cases h:b.getLsbD i with
   | false=>rfl
   | true=>rw [k7.1 s1 i hi h] at hl;cases hl
  simp [this]
 have agc:∀ r k:AS,agB m r k = true -> agB m k r = true:=fun r k h=>x9.2 fun i hi hl=>(x9.1 h i hi hl).symm
 rcases a1t.1 hm with hm | ⟨f,hf,a,hal,hfa,rfl⟩
 · constructor
   · intro r hr k hk
     obtain ⟨h1,h2⟩:=key r hr k hk;have:=hc.mv m hm _ h1 k hk h2
     have e:mh m ((r &&& b) ||| (k &&& ~~~b)) k = (r &&& (b &&& m.rhs)) ||| (k &&& ~~~(b &&& m.rhs)):=by
      apply mf;intro i hi;rw [xd hi,l6 hi,l6 hi,boh];cases hb2:b.getLsbD i <;> cases hl:m.lhs.getLsbD i <;> cases hr2:m.rhs.getLsbD i <;> simp;have:=k7.1 s1 i hi hb2;rw [hl] at this;cases this
     rw [e] at this;exact this
   intro r hr k hk;obtain ⟨h1,h2⟩:=key r hr k hk;have:=hc.mv m hm k hk _ h1 (agc _ _ h2)
   have e:mh m k ((r &&& b) ||| (k &&& ~~~b)) = (r &&& (b &&& ~~~m.rhs)) ||| (k &&& ~~~(b &&& ~~~m.rhs)):=by
    apply mf;intro i hi;rw [xd hi,l6 hi,l6 hi,c7 hi];cases hb2:b.getLsbD i <;> cases hl:m.lhs.getLsbD i <;> cases hr2:m.rhs.getLsbD i <;> simp;have:=k7.1 s1 i hi hb2;rw [hl] at this;cases this
   rw [e] at this;exact this
 have hba:b.getLsbD a = true:=by
  obtain ⟨i,hi,h1,h2⟩:=z6 s2;rw [fp hal hi] at h2;have:i = a:=by simpa using h2
  rw [<- this];exact h1
 have hno:∀ r ∈ T,∀ k ∈ T,r.getLsbD a = k.getLsbD a:=fun r hr k hk=>by
  obtain ⟨h1,h2⟩:=key r hr k hk
  have h3:=b6e (hc.fd f hf _ h1 k hk (by
   rw [x9] at h2 ⊢
   exact h2)) hal hfa
  rw [l6 hal,hba] at h3;simpa using h3
 have hza:∀ r ∈ T,r.getLsbD a = false:=fun r hr=>by rw [hno r hr 0 hT.z];simp
 constructor
 · intro r hr k hk
   have e:(r &&& (b &&& j8 a)) ||| (k &&& ~~~(b &&& j8 a)) = k:=by
    apply mf;intro i hi;rw [l6 hi,boh,fp hal hi];by_cases h:i = a
    · subst h;simp [hza r hr,hza k hk]
    simp [h]
   show (r &&& (b &&& j8 a)) ||| (k &&& ~~~(b &&& j8 a)) ∈ T
   rw [e];exact hk
 intro r hr k hk
 have e:(r &&& (b &&& ~~~j8 a)) ||| (k &&& ~~~(b &&& ~~~j8 a)) = (r &&& b) ||| (k &&& ~~~b):=by
  apply mf;intro i hi;rw [l6 hi,l6 hi,c7 hi,fp hal hi];by_cases h:i = a
  · subst h;simp [hza r hr,hza k hk]
  simp [h]
 show (r &&& (b &&& ~~~j8 a)) ||| (k &&& ~~~(b &&& ~~~j8 a)) ∈ T
 rw [e];exact hb r hr k hk
structure b4w (fs ms:List Fd) (bs:List AS) (rest:AS) (T:List AS):Prop where
 j:JT fs bs rest T
 c:aka fs ms T
def b4n (h:b4w fs ms bs rest T) (hbk:Blk (j5 fs ms) rest bs) {L:AS} (hL:L ∈ T) (hm:∀ r ∈ T,sub r L) {a:Nat} (hal:a < 32):adg fs bs a -> L.getLsbD a = false:=by
 rintro ⟨h1,f,hf,h2,h3⟩;have hg:=ale h.j h.c hbk _ h1 L hL 0 h.j.z
 have h4:=h.c.fd f hf _ hg 0 h.j.z (x9.2 fun i hi hl=>by
  rw [l6 hi,fp hal hi];by_cases e:i = a
  · subst e;rw [h3] at hl;cases hl
  simp [e])
 have h5:=b6e h4 hal h2;rw [l6 hal,fp hal hal] at h5;simpa using h5
def qB (T:List AS) (L x rest y:AS):Prop:=y ≠ 0 /\ sub y rest /\ (L &&& ~~~(x ||| y)) ∈ T
def az4 (h:b4w fs ms bs rest T) (hbk:Blk (j5 fs ms) rest bs) {L x:AS} (hL:L ∈ T) (hm:∀ r ∈ T,sub r L) (hx:rest &&& x = 0) (b:AS) :
 b ∈ bs <-> qB T L x rest b /\ ∀ y,qB T L x rest y -> sub y b -> y = b:=by
 have hLr:=(h.j.r L hL).1
 have hLx:∀ y:AS,L &&& ~~~(x ||| y) = L &&& ~~~y:=fun y=>by
  apply mf;intro i hi;rw [c7 hi,c7 hi,bpj]
  cases hl:L.getLsbD i with
  | false=>rfl
  | true=>rw [k7.1 hx i hi (ae.1 hLr i hi hl)];simp
 have hA:∀ b ∈ bs,qB T L x rest b:=fun b hb=>by
  refine ⟨hbk.nz b hb,hbk.sub hb, ?_⟩;rw [hLx];have:=ale h.j h.c hbk b hb 0 h.j.z L hL;have e:((0:AS) &&& b) ||| (L &&& ~~~b) = L &&& ~~~b:=by simp
  rw [e] at this;exact this
 have hB:∀ y,qB T L x rest y -> ∃ b ∈ bs,sub b y:=fun y ⟨y1,y2,y3⟩=>by
  obtain ⟨a,hal,hya⟩:=ao8 y1;obtain ⟨b,hb,hba⟩:=hbk.cov (ae.1 y2 a hal hya);by_cases hs:sub b y
  · exact ⟨b,hb,hs⟩
  exfalso;obtain ⟨c,hcl,hbc,hyc⟩:=z6 hs;have hyc:y.getLsbD c = false:=by simpa [hcl] using hyc
  rw [hLx] at y3;have h1:=a2w ((h.j.r _ y3).2 b hb) hcl hba hbc;rw [c7 hal,c7 hcl,hya,hyc] at h1;have hLc:L.getLsbD c = false:=by simpa using h1.symm
  obtain ⟨L2,m1,m2,m3⟩:=h.j.top;have e:L2 = L:=br (hm L2 m1) (m2 L hL);subst e;have hd:=(m3 c hcl (ae.1 (hbk.sub hb) c hcl hbc) hLc).1;have he:=hbk.one hb hd hbc (by rw [fp hcl hcl];simp);rw [he,fp hcl hal] at hba;have:a = c:=by simpa using hba
  rw [this,hyc] at hya;cases hya
 constructor
 · intro hb
   refine ⟨hA b hb,fun y hy hyb=>?_⟩;obtain ⟨b',hb',hs⟩:=hB y hy;obtain ⟨a,hal,hba⟩:=ao8 (hbk.nz b' hb');have hya:=ae.1 hs a hal hba;have e:=hbk.one hb' hb hba (ae.1 hyb a hal hya);subst e;exact br hyb hs
 rintro ⟨hq,hmin⟩;obtain ⟨b',hb',hs⟩:=hB b hq;have:=hmin b' (hA b' hb') hs;rw [<- this];exact hb'
end
end
end Go.Hx
