/- A part of the proof: Bz7 Y8 Bz8 Y9 Bz9 Bz10 Y10. -/
import Derived.Test.YtidophngianjiaaDoorDx14
import Derived.Test.YtidophngianjiaaDoorDx26
set_option linter.all false
section
namespace Go.Hx
structure MvO (d:Fd) (T0:List AS) (x:Nat × List AS × Nat):Prop where
 nd:x.2.1.Nodup
 pre:T0 <+: x.2.1
 res:mvO d x.1 x.2.1 x.2.2 = mvO d FU2 T0 0
 le:x.2.2 ≤ x.2.1.length
 fuel:4294967296 < x.1 + x.2.2
structure MvI (d:Fd) (T:List AS) (i:Nat) (x:Nat × List AS × Nat):Prop where
 nd:x.2.1.Nodup
 pre:T <+: x.2.1
 res:mvI d x.1 x.2.1 i x.2.2 = mvI d 8589934592 T i 0
 le:x.2.2 ≤ x.2.1.length
 fuel:4294967296 < x.1 + x.2.2
section
variable {d:Fd} {T0 T:List AS} {i f k:Nat}
theorem MvO.start (h:T.Nodup):MvO d T (FU2,T,0):=⟨h,List.prefix_refl _,rfl,Nat.zero_le _,by show 4294967296 < 8589934592 + 0;omega⟩
theorem MvI.start (h:T.Nodup):MvI d T i (8589934592,T,0):=⟨h,List.prefix_refl _,rfl,Nat.zero_le _,by show 4294967296 < 8589934592 + 0;omega⟩
theorem MvO.pos (h:MvO d T0 (f,T,i)):0 < f ∧ T.length ≤ 4294967296:=by
 have h1:=nk h.nd
 have h2:=h.le
 have h3:=h.fuel
 dsimp only at h1 h2 h3
 omega
theorem MvI.pos {U:List AS} (h:MvI d T i (f,U,k)):0 < f ∧ U.length ≤ 4294967296:=by
 have h1:=nk h.nd
 have h2:=h.le
 have h3:=h.fuel
 dsimp only at h1 h2 h3
 omega
theorem MvO.done (h:MvO d T0 (f,T,i)) (hi:¬ i < T.length):T = mvO d FU2 T0 0:=by
 have hp:=h.pos.1
 have hr:mvO d f T i = mvO d FU2 T0 0:=h.res
 obtain ⟨g,rfl⟩:∃ g,f = g + 1:=⟨f - 1,by omega⟩
 unfold mvO at hr
 rw [if_neg hi] at hr
 exact hr
theorem MvI.done {U:List AS} (h:MvI d T i (f,U,k)) (hk:¬ k < U.length):U = mvI d 8589934592 T i 0:=by
 have hp:=h.pos.1
 have hr:mvI d f U i k = mvI d 8589934592 T i 0:=h.res
 obtain ⟨g,rfl⟩:∃ g,f = g + 1:=⟨f - 1,by omega⟩
 unfold mvI at hr
 rw [if_neg hk] at hr
 exact hr
theorem MvI.next {U:List AS} (h:MvI d T i (f,U,k)) (hk:k < U.length):MvI d T i (f - 1,mvS d U i k,k + 1):=by
 have hp:=h.pos.1
 have hr:mvI d f U i k = mvI d 8589934592 T i 0:=h.res
 obtain ⟨g,rfl⟩:∃ g,f = g + 1:=⟨f - 1,by omega⟩
 unfold mvI at hr
 rw [if_pos hk] at hr
 have hf:4294967296 < g + 1 + k:=h.fuel
 exact ⟨acm h.nd,h.pre.trans (tf d U i k),hr,Nat.le_trans hk (tf d U i k).length_le,by show 4294967296 < g + (k + 1);omega⟩
theorem MvO.next (h:MvO d T0 (f,T,i)) (hi:i < T.length) {U:List AS} (hU:U = mvI d 8589934592 T i 0):MvO d T0 (f - 1,U,i + 1):=by
 subst hU
 have hp:=h.pos.1
 have hr:mvO d f T i = mvO d FU2 T0 0:=h.res
 obtain ⟨g,rfl⟩:∃ g,f = g + 1:=⟨f - 1,by omega⟩
 unfold mvO at hr
 rw [if_pos hi] at hr
 have hf:4294967296 < g + 1 + i:=h.fuel
 exact ⟨a6n h.nd,h.pre.trans (og d _ T i 0),hr,Nat.le_trans hi (og d _ T i 0).length_le,by show 4294967296 < g + (i + 1);omega⟩
theorem lw {U:List AS} (h:agB d (U.getD i default) (U.getD k default) = false):mvS d U i k = U:=by unfold mvS;rw [if_neg (by rw [h];decide)]
theorem gk {U:List AS} (h:agB d (U.getD i default) (U.getD k default) = true):mvS d U i k = db U (fv d (U.getD i default) (U.getD k default)):=by unfold mvS;rw [if_pos h]
theorem a6v {T U:List AS} {q:AS} (hp:T <+: U) (h:¬ q ∈ U):true = decide (T.length < (db U q).length):=by
 have h1:=hp.length_le
 rw [a5y h]
 exact (decide_eq_true (by omega)).symm
theorem a71 {T U:List AS} {q:AS} (h:q ∈ U):decide (T.length < U.length) = decide (T.length < (db U q).length):=by rw [show db U q = U from if_pos h]
theorem arf (r k l h:AS):bz .or .u32 (bz .and .u32 (asI r) (bz .or .u32 (asI l) (asI h))) (bz .andNot .u32 (asI k) (bz .or .u32 (asI l) (asI h))) = asI (fv ⟨l,h⟩ r k):=by
 rw [bOr,fc,fw,bOr]
 rfl
theorem asr {r k:AS} (h:bz .and .u32 (bz .xor .u32 (asI r) (asI k)) (asI d.lhs) = 0):agB d r k = true:=by
 rw [ab5,fc] at h
 exact decide_eq_true (dt.1 h)
theorem aso {r k:AS} (h:¬ bz .and .u32 (bz .xor .u32 (asI r) (asI k)) (asI d.lhs) = 0):agB d r k = false:=by
 rw [ab5,fc] at h
 exact decide_eq_false fun e=>h (congrArg asI e)
end
end Go.Hx
end
section
namespace Go.Hx
open Go.Proofs
set_option maxRecDepth 100000
theorem anz:al Tryd.prog 62:=⟨Tryd.f62,Tryd.func62,by kernel_rfl,by kernel_rfl⟩
theorem as6 (T:List AS) (d:Fd) (hn:T.Nodup):eq Tryd.prog 62 [.one (.ptr 1000 0),d.pc.toH] [(1000, .box [.ref 1001 T.length]),(1001, .arr true 1 34 T.length (lf sC T))] (.v (.one (.p (.raw (.bool (decide (T.length < (mvO d FU2 T 0).length))))))) [(1000, .box [.ref 1001 (mvO d FU2 T 0).length]),(1001, .arr true 1 34 (mvO d FU2 T 0).length (lf sC (mvO d FU2 T 0)))] [1000,1001]:=by
 refine j2 (nt:=77) ai Tryd.func62 rfl rfl l9 rfl ?_;refine sx7 ?_;refine m9 0 ?_;refine qy ?_;refine a6 ?_;refine sx7 ?_;refine qy ?_;refine a6 ?_;refine a7 ?_;refine sx7 ?_;refine qy ?_
 refine a6 ?_;refine af ?_
 refine av (ι:=(Nat × List AS × Nat)) ⟨[(0,some _),(3,some _)],[(0,some _)]⟩ ⟨⟨c9,c9,trivial⟩,⟨u9,trivial⟩⟩ (fun x=>⟨[(5,some (vB (decide (T.length < x.2.1.length)))),(6,some (vI x.2.2))],[(1000,some (.box [.ref 1001 x.2.1.length])),(1001,some (.arr true 1 34 x.2.1.length (lf sC x.2.1)))]⟩) (fun x=>MvO d T x) (fun x=>x.1) ((FU2,T,0)) (MvO.start hn) ⟨⟨⟨_,rfl,(cob (by simp))⟩,⟨_,rfl,(CoR.refl _)⟩,trivial⟩,⟨u9,u9,trivial⟩⟩ ?_
 rintro ⟨f,T1,i⟩ hO
 have hOl:=hO.pos.2
 refine a7 ?_;refine sx7 ?_;(iterate 7 refine qy ?_);refine a6 ?_;refine a8 _ rfl (fun r0=>?_) (fun r0=>?_)
 ·
  have h0:=of_decide_eq_true r0
  try simp only [ty] at h0
  have hil:i < T1.length:=by omega
  have hfI:=hO.pos.1
  refine aa ?_;refine a7 ?_;refine af ?_;refine sx7 ?_;refine qy ?_;refine a6 ?_;refine af ?_
  refine av (ι:=(Nat × List AS × Nat)) ⟨[(0,some _),(3,some _),(6,some _)],[(0,some _)]⟩ ⟨⟨c9,c9,c9,trivial⟩,⟨u9,trivial⟩⟩ (fun y=>⟨[(5,some (vB (decide (T.length < y.2.1.length)))),(7,some (vI y.2.2))],[(1000,some (.box [.ref 1001 y.2.1.length])),(1001,some (.arr true 1 34 y.2.1.length (lf sC y.2.1)))]⟩) (fun y=>MvI d T1 i y) (fun y=>y.1) ((8589934592,T1,0)) (MvI.start hO.nd) ⟨⟨⟨_,rfl,(CoR.refl _)⟩,⟨_,rfl,(CoR.refl _)⟩,trivial⟩,⟨u9,u9,trivial⟩⟩ ?_
  rintro ⟨g,U,k⟩ hI
  have hIl:=hI.pos.2
  refine a7 ?_;refine sx7 ?_;(iterate 7 refine qy ?_);refine a6 ?_;refine a8 _ rfl (fun r1=>?_) (fun r1=>?_)
  ·
   have h1:=of_decide_eq_true r1
   try simp only [ty] at h1
   have hkl:k < U.length:=by omega
   have hil2:i < U.length:=Nat.lt_of_lt_of_le hil hI.pre.length_le
   have hUl:=hI.pos.2
   have hpre:T <+: U:=hO.pre.trans hI.pre
   have hg0:=hI.pos.1
   refine aa ?_;refine a7 ?_;refine af ?_;refine a7 ?_
   refine d8 (E:=dg) ai c7 [0,1,2,3,4,5,6,7,8,9,10,11,12,13,14,15,16,17,18,19,20,21,22,23,24,25,26,27,28,29,30,31,32,33,34,35,36,37,38,39,40,41,42,43,44,45,46,47,48,49] ?_
   (iterate 20 refine qy ?_);refine ct rfl rfl (fun r2=>?_) (fun r2=>?_)
   ·
    have h2:=of_decide_eq_true r2
    try simp only [ty] at h2
    have ha:agB d (U.getD i default) (U.getD k default) = true:=asr h2
    (iterate 28 refine qy ?_ (hg:=(gtt r2)))
    refine dn rfl rfl rfl rfl rfl rfl a88 (aij U (fv d (U.getD i default) (U.getD k default)) (by omega)) (⟨nx.refl _,(CoP.of_eq (congrArg (fun z=>PV.raw (.int .u32 z)) (arf _ _ _ _))),trivial⟩) ⟨u9,u9,trivial⟩ rfl (gtt r2) ?_
    refine qy ?_;refine a6 ?_;refine ⟨by kernel_rfl, ?_⟩;refine a8 _ rfl (fun r3=>?_) (fun r3=>?_)
    ·
     have h3:=r3
     have h3:=ef r2 h3
     have hin:¬ (fv d (U.getD i default) (U.getD k default)) ∈ U:=of_decide_eq_false (by simpa using h3)
     refine gy ?_;refine qy ?_;refine a6 ?_;refine gy ?_;(iterate 3 refine qy ?_);refine a6 ?_;refine ⟨(g - 1,mvS d U i k,k + 1), ?_, ?_, ?_⟩
     · exact hI.next hkl
     · dsimp only;omega
     · exact ⟨⟨⟨_,rfl,(by first | (rw [lw ha];exact CoR.refl _) | (rw [gk ha];exact cob (a6v hpre hin)) | (rw [gk ha];exact cob (a71 hin)))⟩,⟨_,rfl,(CoR.refl _)⟩,c9,c9,c9,trivial⟩,⟨⟨_,rfl,(by first | (rw [lw ha];exact CoO.refl _) | (rw [gk ha];exact CoO.refl _))⟩,⟨_,rfl,(by first | (rw [lw ha];exact CoO.refl _) | (rw [gk ha];exact CoO.refl _))⟩,u9,trivial⟩⟩
    ·
     have h3:=r3
     have h3:=ef r2 h3
     have hin:(fv d (U.getD i default) (U.getD k default)) ∈ U:=of_decide_eq_true (by simpa using h3)
     refine aa ?_;refine gy ?_;(iterate 3 refine qy ?_);refine a6 ?_;refine ⟨(g - 1,mvS d U i k,k + 1), ?_, ?_, ?_⟩
     · exact hI.next hkl
     · dsimp only;omega
     · exact ⟨⟨⟨_,rfl,(by first | (rw [lw ha];exact CoR.refl _) | (rw [gk ha];exact cob (a6v hpre hin)) | (rw [gk ha];exact cob (a71 hin)))⟩,⟨_,rfl,(CoR.refl _)⟩,c9,c9,c9,trivial⟩,⟨⟨_,rfl,(by first | (rw [lw ha];exact CoO.refl _) | (rw [gk ha];exact CoO.refl _))⟩,⟨_,rfl,(by first | (rw [lw ha];exact CoO.refl _) | (rw [gk ha];exact CoO.refl _))⟩,u9,trivial⟩⟩
   ·
    have h2:=of_decide_eq_false r2
    try simp only [ty] at h2
    have ha:agB d (U.getD i default) (U.getD k default) = false:=aso h2
    (iterate 29 refine k9 (gft r2) ?_);refine rq rfl rfl rfl rfl rfl ?_ (hp:=r2);refine a6 ?_;refine ⟨by kernel_rfl, ?_⟩;refine a8 _ rfl (fun e=>by cases e) (fun _=>?_);refine aa ?_;refine gy ?_
    (iterate 3 refine qy ?_);refine a6 ?_;refine ⟨(g - 1,mvS d U i k,k + 1), ?_, ?_, ?_⟩
    · exact hI.next hkl
    · dsimp only;omega
    · exact ⟨⟨⟨_,rfl,(by first | (rw [lw ha];exact CoR.refl _) | (rw [gk ha];exact cob (a6v hpre hin)) | (rw [gk ha];exact cob (a71 hin)))⟩,⟨_,rfl,(CoR.refl _)⟩,c9,c9,c9,trivial⟩,⟨⟨_,rfl,(by first | (rw [lw ha];exact CoO.refl _) | (rw [gk ha];exact CoO.refl _))⟩,⟨_,rfl,(by first | (rw [lw ha];exact CoO.refl _) | (rw [gk ha];exact CoO.refl _))⟩,u9,trivial⟩⟩
  ·
   have h1:=of_decide_eq_false r1
   try simp only [ty] at h1
   have hU:=hI.done (by omega)
   have hT1l:=hO.pos.2
   refine au ?_;refine gy ?_;(iterate 3 refine qy ?_);refine a6 ?_;refine ⟨(f - 1,U,i + 1), ?_, ?_, ?_⟩
   · exact hO.next hil hU
   · dsimp only;omega
   · exact ⟨⟨⟨_,rfl,(CoR.refl _)⟩,⟨_,rfl,(CoR.refl _)⟩,c9,c9,trivial⟩,⟨u9,u9,u9,trivial⟩⟩
 ·
  have h0:=of_decide_eq_false r0
  try simp only [ty] at h0
  have hT:T1 = mvO d FU2 T 0:=hO.done (by omega)
  subst hT
  refine au ?_;refine sx7 ?_;(iterate 2 refine qy ?_);refine a6 ?_;refine dc ?_;refine ⟨.inr rfl, ?_⟩
  exact ⟨_,_,rfl,(by (repeat' apply And.intro) <;> first | trivial | exact Nat.le_of_ble_eq_true rfl),CoR.refl _,⟨u9,u9,trivial⟩⟩
end Go.Hx
end
section
namespace Go.Hx
structure ChI (l m:List Fd) (R:List AS) (x:Nat × List AS × Bool):Prop where
 nd:x.2.1.Nodup
 t:x.2.2 = true → chF l m x.1 x.2.1 = R ∧ muT x.2.1 < x.1
 f:x.2.2 = false → x.2.1 = R
def aai (x:Nat × List AS × Bool):Nat:=x.1 + (bif x.2.2 then 1 else 0)
theorem alv {f:Nat} {T U:List AS} {c:Bool} (h:0 < f):aai (f - 1,U,c) < aai (f,T,true):=by
 cases c <;> simp only [aai,cond_true,cond_false] <;> omega
theorem ChI.start (l m:List Fd) (rest:AS):ChI l m (chT l m rest) (MU,a0u rest,true):=⟨al7 rest,fun _=>⟨rfl,aco _⟩,fun h=>by cases h⟩
theorem ChI.next {l m:List Fd} {R T:List AS} {f:Nat} (h:ChI l m R (f,T,true)):ChI l m R (f - 1,(iw l m T).1,(iw l m T).2) ∧ 0 < f:=by
 obtain ⟨h1,h2⟩:=h.t rfl
 have h2:muT T < f:=h2
 have h1:chF l m f T = R:=h1
 have hn:T.Nodup:=h.nd
 obtain ⟨g,rfl⟩:∃ g,f = g + 1:=⟨f - 1,by omega⟩
 unfold chF at h1
 refine ⟨⟨xp a54 abf hn,fun hc=>?_,fun hc=>?_⟩,by omega⟩
 · have hc:(iw l m T).2 = true:=hc
   rw [if_pos hc] at h1
   have:=aew hn hc
   exact ⟨h1,by show muT (iw l m T).1 < g;omega⟩
 · have hc:(iw l m T).2 = false:=hc
   rw [if_neg (by rw [hc];decide)] at h1
   exact h1
def gc (l:List Fd) (T:List AS) (i:Nat):TC:=(l.take i).foldl fdR (T,false)
theorem a4h {l:List Fd} {T:List AS} {i:Nat} (h:i < l.length):gc l T (i + 1) = fdR (gc l T i) (l.getD i default):=by
 unfold gc
 rw [b8 h,List.foldl_append]
 rfl
theorem aa1 {l:List Fd} {T:List AS} {i:Nat} (h:T.Nodup):(gc l T i).1.Nodup:=y7 (fs:=l) a54 (l.take i) (T,false) (fun _ h=>List.mem_of_mem_take h) h
def mvX (m:List Fd) (x:TC) (i:Nat):TC:=(m.take i).foldl mvR x
theorem mt {m:List Fd} {x:TC} {i:Nat} (h:i < m.length):mvX m x (i + 1) = mvR (mvX m x i) (m.getD i default):=by
 unfold mvX
 rw [b8 h,List.foldl_append]
 rfl
theorem aog {m:List Fd} {x:TC} {i:Nat} (h:x.1.Nodup):(mvX m x i).1.Nodup:=a3k (ms:=m) abf (m.take i) x (fun _ h=>List.mem_of_mem_take h) h
theorem ar0 (l m:List Fd) (T:List AS):mvX m (gc l T l.length) m.length = iw l m T:=by
 unfold mvX gc iw
 rw [List.take_length,List.take_length]
structure FdI (d:Fd) (U0:List AS) (x:Nat × List AS × Bool):Prop where
 nd:x.2.1.Nodup
 res:jw d x.1 x.2.1 = jw d FU2 U0
 fuel:(orL x.2.1).toNat < x.1
 f:x.2.2 = false → x.2.1 = U0
 t:x.2.2 = true → (fdT d U0).isSome = true
section
variable {d:Fd} {U0 U:List AS} {g:Nat} {b c:Bool} {s:AS}
theorem FdI.start (h:U0.Nodup):FdI d U0 (FU2,U0,false):=⟨h,rfl,Nat.lt_of_lt_of_le (orL U0).isLt (show 2 ^ 32 ≤ FU2 by decide),fun _=>rfl,fun h=>by cases h⟩
theorem FdI.len (h:FdI d U0 (g,U,b)):U.length ≤ 8589934592:=Nat.le_trans (nk (show U.Nodup from h.nd)) (by decide)
theorem FdI.next (h:FdI d U0 (g,U,b)) (hq:fdT d U = some s):FdI d U0 (g - 1,fk U s,true) ∧ 0 < g:=by
 have h3:(orL U).toNat < g:=h.fuel
 have h2:jw d g U = jw d FU2 U0:=h.res
 obtain ⟨k,rfl⟩:∃ k,g = k + 1:=⟨g - 1,by omega⟩
 rw [qw hq] at h2
 have h4:=a2p hq
 refine ⟨⟨a26 U s,h2,(by show (orL (fk U s)).toNat < k;omega),(fun hc=>by cases hc),fun _=>?_⟩,by omega⟩
 cases hb:b with
 | true=>exact h.t hb
 | false =>
  have e:U = U0:=h.f hb
  rw [← e,hq]
  rfl
theorem FdI.done (h:FdI d U0 (g,U,b)) (hq:fdT d U = none):(U,c || b) = fdR (U0,c) d:=by
 have h2:jw d g U = jw d FU2 U0:=h.res
 rw [qi hq] at h2
 unfold fdR
 rw [← h2]
 cases hb:b with
 | true=>rw [h.t hb]
 | false =>
  have e:U = U0:=h.f hb
  rw [← e,hq]
  rfl
end
theorem yg {x:TC} {d:Fd}:mvR x d = (mvO d FU2 x.1 0,x.2 || decide (x.1.length < (mvO d FU2 x.1 0).length)):=rfl
end Go.Hx
end
section
namespace Go.Hx
open Go.Proofs
set_option maxRecDepth 100000
theorem adg:al Tryd.prog 41:=⟨Tryd.f41,Tryd.func41,by kernel_rfl,by kernel_rfl⟩
theorem adf (n:Int) (l m:List Fd) (x:AS):ao Tryd.prog 41 [pI n,pP (fdl l),pP (fdl m),pA x] (ay [.agg [asl (chT l m (ah n &&& ~~~x))]]):=by
 refine am (nt:=44) ai Tryd.func41 rfl rfl l9 ?_
 refine kr 1 rfl fun hbl=>?_
 refine kr 2 rfl fun hbm=>?_
 refine sx7 ?_;refine m9 900 ?_;refine a6 ?_;refine sx7 ?_;refine m9 901 ?_;refine qy ?_;refine m9 902 ?_;refine s9 ?_;refine a6 ?_;refine sx7 ?_;refine qy ?_
 refine rc rfl rfl rfl rfl rfl rfl ue (p6 n) (CoL.refl _) rfl rfl ?_;(iterate 2 refine qy ?_)
 refine dn rfl rfl rfl rfl rfl rfl a88 (((aij [0] (ah n &&& ~~~x) (by decide)).swap 1000 902).swap 1001 901) (⟨nx.refl _,(CoP.of_eq (congrArg (fun z=>PV.raw (.int .u32 z)) (fw _ _))),trivial⟩) ⟨u9,⟨_,rfl,(a0k (CoP.refl _))⟩,trivial⟩ rfl rfl ?_
 refine a6 ?_;refine a7 ?_;refine sx7 ?_;refine qy ?_;refine a6 ?_;refine af ?_
 refine av (ι:=(Nat × List AS × Bool)) ⟨[(1,some _),(2,some _),(8,some _),(9,some _)],[(900,some _)]⟩ ⟨⟨c9,c9,c9,c9,trivial⟩,⟨u9,trivial⟩⟩ (fun y=>⟨[(10,some (vB y.2.2))],[(902,some (.box [.ref 901 y.2.1.length])),(901,some (.arr true 1 34 y.2.1.length (lf sC y.2.1)))]⟩) (fun y=>ChI l m (chT l m (ah n &&& ~~~x)) y) (fun y=>aai y) ((MU,a0u (ah n &&& ~~~x),true)) (ChI.start l m (ah n &&& ~~~x)) ⟨⟨⟨_,rfl,(CoR.refl _)⟩,trivial⟩,⟨u9,u9,trivial⟩⟩ ?_
 rintro ⟨f,T,ag⟩ hC
 refine a7 ?_;refine sx7 ?_;refine qy ?_;refine a6 ?_;refine a8 _ rfl (fun r0=>?_) (fun r0=>?_)
 ·
  have h0:=r0
  obtain rfl:ag = true:=r0
  obtain ⟨hC2,hf⟩:=hC.next
  have hT:T.Nodup:=hC.nd
  refine aa ?_;refine af ?_;refine sx7 ?_;refine qy ?_;refine a6 ?_;refine a7 ?_;refine sx7 ?_;refine qy ?_;refine a6 ?_;refine af ?_
  refine av (ι:=Nat) ⟨[(1,some _),(2,some _),(8,some _),(9,some _)],[(900,some _)]⟩ ⟨⟨c9,c9,c9,c9,trivial⟩,⟨u9,trivial⟩⟩ (fun i=>⟨[(10,some (vB (gc l T i).2)),(11,some (vI i))],[(902,some (.box [.ref 901 (gc l T i).1.length])),(901,some (.arr true 1 34 (gc l T i).1.length (lf sC (gc l T i).1)))]⟩) (fun i=>i ≤ l.length) (fun i=>l.length - i) (0) (Nat.zero_le _) ⟨⟨⟨_,rfl,(CoR.refl _)⟩,⟨_,rfl,(CoR.refl _)⟩,trivial⟩,⟨u9,u9,trivial⟩⟩ ?_
  rintro i hi
  refine a7 ?_;refine sx7 ?_;(iterate 4 refine qy ?_);refine a6 ?_;refine a8 _ rfl (fun r1=>?_) (fun r1=>?_)
  ·
   have h1:=of_decide_eq_true r1
   try simp only [ty] at h1
   have hil:i < l.length:=by omega
   refine aa ?_;refine a7 ?_;(iterate 2 refine af ?_)
   refine av (ι:=(Nat × List AS × Bool)) ⟨[(1,some _),(2,some _),(8,some _),(9,some _),(11,some _)],[(900,some _)]⟩ ⟨⟨c9,c9,c9,c9,c9,trivial⟩,⟨u9,trivial⟩⟩ (fun y=>⟨[(10,some (vB ((gc l T i).2 || y.2.2)))],[(902,some (.box [.ref 901 y.2.1.length])),(901,some (.arr true 1 34 y.2.1.length (lf sC y.2.1)))]⟩) (fun y=>FdI (l.getD i default) (gc l T i).1 y) (fun y=>y.1) ((FU2,(gc l T i).1,false)) (FdI.start (aa1 hT)) ⟨⟨⟨_,rfl,(cob (by simp))⟩,trivial⟩,⟨u9,u9,trivial⟩⟩ ?_
   rintro ⟨g,U,b⟩ hF
   (iterate 2 refine a7 ?_)
   rcases hq:fdT (l.getD i default) U with _ | s
   ·
    refine gy ?_;(iterate 4 refine qy ?_);refine dn rfl rfl rfl rfl rfl rfl aeq ((asa U (l.getD i default) hq hF.len).swap 1000 902) (fh.refl _) ⟨u9,u9,trivial⟩ rfl rfl ?_;refine a6 ?_
    refine a8 _ rfl (fun r2=>?_) (fun r2=>?_)
    ·
     have h2:=r2
     cases r2
    ·
     have h2:=r2
     have hd:=hF.done (c:=(gc l T i).2) hq
     have hd1:U = (gc l T (i + 1)).1:=by rw [a4h hil];exact congrArg Prod.fst hd
     have hd2:((gc l T i).2 || b) = (gc l T (i + 1)).2:=by rw [a4h hil];exact congrArg Prod.snd hd
     refine au ?_;refine gy ?_;(iterate 3 refine qy ?_);refine a6 ?_;refine ⟨i + 1, ?_, ?_, ?_⟩
     · show i + 1 ≤ _;omega
     · first | omega | (dsimp only;omega)
     · exact ⟨⟨⟨_,rfl,(by rw [← hd2];exact CoR.refl _)⟩,⟨_,rfl,(CoR.refl _)⟩,c9,c9,c9,c9,trivial⟩,⟨⟨_,rfl,(by rw [← hd1];exact CoO.refl _)⟩,⟨_,rfl,(by rw [← hd1];exact CoO.refl _)⟩,u9,trivial⟩⟩
   ·
    refine gy ?_;(iterate 4 refine qy ?_);refine dn rfl rfl rfl rfl rfl rfl aeq ((as3 U (l.getD i default) s hq hF.len).swap 1000 902) (fh.refl _) ⟨u9,u9,trivial⟩ rfl rfl ?_;refine a6 ?_
    refine a8 _ rfl (fun r3=>?_) (fun r3=>?_)
    ·
     have h3:=r3
     obtain ⟨hF2,hg0⟩:=hF.next hq
     refine aa ?_;refine af ?_;refine gy ?_;refine qy ?_;refine a6 ?_;refine ⟨(g - 1,fk U s,true), ?_, ?_, ?_⟩
     · exact hF2
     · dsimp only;omega
     · exact ⟨⟨⟨_,rfl,(cob (by simp))⟩,c9,c9,c9,c9,c9,trivial⟩,⟨u9,u9,u9,trivial⟩⟩
    ·
     have h3:=r3
     cases r3
  ·
   have h1:=of_decide_eq_false r1
   try simp only [ty] at h1
   obtain rfl:i = l.length:=by omega
   refine au ?_;refine sx7 ?_;refine qy ?_;refine a6 ?_;refine af ?_
   refine av (ι:=Nat) ⟨[(1,some _),(2,some _),(8,some _),(9,some _)],[(900,some _)]⟩ ⟨⟨c9,c9,c9,c9,trivial⟩,⟨u9,trivial⟩⟩ (fun i=>⟨[(10,some (vB (mvX m (gc l T l.length) i).2)),(12,some (vI i))],[(902,some (.box [.ref 901 (mvX m (gc l T l.length) i).1.length])),(901,some (.arr true 1 34 (mvX m (gc l T l.length) i).1.length (lf sC (mvX m (gc l T l.length) i).1)))]⟩) (fun i=>i ≤ m.length) (fun i=>m.length - i) (0) (Nat.zero_le _) ⟨⟨⟨_,rfl,(CoR.refl _)⟩,⟨_,rfl,(CoR.refl _)⟩,trivial⟩,⟨u9,u9,trivial⟩⟩ ?_
   rintro i hi
   refine a7 ?_;refine sx7 ?_;(iterate 4 refine qy ?_);refine a6 ?_;refine a8 _ rfl (fun r4=>?_) (fun r4=>?_)
   ·
    have h4:=of_decide_eq_true r4
    try simp only [ty] at h4
    have hil:i < m.length:=by omega
    refine aa ?_;refine a7 ?_;refine af ?_;refine sx7 ?_;(iterate 4 refine qy ?_)
    refine dn rfl rfl rfl rfl rfl rfl anz (((as6 (mvX m (gc l T l.length) i).1 (m.getD i default) (aog (aa1 hT))).swap 1000 902).swap 1001 901) (fh.refl _) ⟨u9,u9,trivial⟩ rfl rfl ?_;refine a6 ?_
    refine a8 _ rfl (fun r5=>?_) (fun r5=>?_)
    ·
     have h5:=r5
     have hch:=of_decide_eq_true r5
     refine gy ?_;refine qy ?_;refine a6 ?_;refine gy ?_;(iterate 3 refine qy ?_);refine a6 ?_;refine ⟨i + 1, ?_, ?_, ?_⟩
     · show i + 1 ≤ _;omega
     · first | omega | (dsimp only;omega)
     · exact ⟨⟨⟨_,rfl,(by rw [mt hil,yg];first | exact cob (by rw [decide_eq_true hch];simp) | exact cob (by rw [decide_eq_false hch];simp))⟩,⟨_,rfl,(CoR.refl _)⟩,c9,c9,c9,c9,trivial⟩,⟨⟨_,rfl,(by rw [mt hil,yg];exact CoO.refl _)⟩,⟨_,rfl,(by rw [mt hil,yg];exact CoO.refl _)⟩,u9,trivial⟩⟩
    ·
     have h5:=r5
     have hch:=of_decide_eq_false r5
     refine aa ?_;refine gy ?_;(iterate 3 refine qy ?_);refine a6 ?_;refine ⟨i + 1, ?_, ?_, ?_⟩
     · show i + 1 ≤ _;omega
     · first | omega | (dsimp only;omega)
     · exact ⟨⟨⟨_,rfl,(by rw [mt hil,yg];first | exact cob (by rw [decide_eq_true hch];simp) | exact cob (by rw [decide_eq_false hch];simp))⟩,⟨_,rfl,(CoR.refl _)⟩,c9,c9,c9,c9,trivial⟩,⟨⟨_,rfl,(by rw [mt hil,yg];exact CoO.refl _)⟩,⟨_,rfl,(by rw [mt hil,yg];exact CoO.refl _)⟩,u9,trivial⟩⟩
   ·
    have h4:=of_decide_eq_false r4
    try simp only [ty] at h4
    obtain rfl:i = m.length:=by omega
    have hron:=ar0 l m T
    refine au ?_;refine ⟨(f - 1,(iw l m T).1,(iw l m T).2), ?_, ?_, ?_⟩
    · exact hC2
    · exact alv hf
    · exact ⟨⟨⟨_,rfl,(by rw [← hron];exact CoR.refl _)⟩,c9,c9,c9,c9,trivial⟩,⟨⟨_,rfl,(by rw [← hron];exact CoO.refl _)⟩,⟨_,rfl,(by rw [← hron];exact CoO.refl _)⟩,u9,trivial⟩⟩
 ·
  have h0:=r0
  obtain rfl:ag = false:=r0
  have hl:T = (chT l m (ah n &&& ~~~x)):=hC.f rfl
  subst hl
  refine au ?_;refine sx7 ?_;refine qy ?_;refine s9 ?_;refine a6 ?_;refine a2y 900 0 rfl rfl rfl rfl rfl ?_
  exact hx8 rfl rfl rfl (⟨CoC.refl _,trivial⟩)
theorem ad4:al Tryd.prog 43:=⟨Tryd.f43,Tryd.func43,by kernel_rfl,by kernel_rfl⟩
theorem akz (T:List AS):ao Tryd.prog 43 [.agg [asl T]] (ay [pA (orL T)]):=by
 refine am (nt:=20) ai Tryd.func43 rfl rfl l9 ?_;refine sx7 ?_;refine m9 0 ?_;refine qy ?_;refine a6 ?_;refine sx7 ?_;refine qy ?_;refine a6 ?_;(iterate 2 refine a7 ?_)
 refine ari 0 0 rfl rfl fun hb=>?_
 refine gy ?_;refine qy ?_;refine a6 ?_;refine af ?_
 refine av (ι:=Nat) ⟨[(1,some _)],[(0,some _)]⟩ ⟨⟨c9,trivial⟩,⟨u9,trivial⟩⟩ (fun i=>⟨[(3,some (vA (orL (T.take i)))),(4,some (vI i))],[]⟩) (fun i=>i ≤ T.length) (fun i=>T.length - i) (0) (Nat.zero_le _) ⟨⟨⟨_,rfl,(CoR.refl _)⟩,⟨_,rfl,(CoR.refl _)⟩,trivial⟩,trivial⟩ ?_
 rintro i hi
 refine a7 ?_;refine sx7 ?_;(iterate 5 refine qy ?_);refine a6 ?_;refine a8 _ rfl (fun r0=>?_) (fun r0=>?_)
 ·
  have h0:=of_decide_eq_true r0
  try simp only [ty] at h0
  refine aa ?_;refine a7 ?_;refine af ?_;refine gy ?_;(iterate 8 refine qy ?_);refine a6 ?_;refine gy ?_;(iterate 3 refine qy ?_);refine a6 ?_;refine ⟨i + 1, ?_, ?_, ?_⟩
  · show i + 1 ≤ _;omega
  · first | omega | (dsimp only;omega)
  · exact ⟨⟨⟨_,rfl,(fg ((bOr _ _).trans (congrArg asI (ak5 (by omega)).symm)))⟩,⟨_,rfl,(CoR.refl _)⟩,c9,trivial⟩,⟨u9,trivial⟩⟩
 ·
  have h0:=of_decide_eq_false r0
  try simp only [ty] at h0
  obtain rfl:i = T.length:=by omega
  rw [show T.take T.length = T from List.take_length]
  refine au ?_;refine sx7 ?_;(iterate 2 refine qy ?_);refine a6 ?_
  exact hx8 rfl rfl rfl (CoL.refl _)
theorem ao4:al Tryd.prog 29:=⟨Tryd.f29,Tryd.func29,by kernel_rfl,by kernel_rfl⟩
theorem af6 (n:Int) (l m:List Fd) (x:AS):ao Tryd.prog 29 [pI n,pP (fdl l),pP (fdl m),pA x] (ay [pA (ah n &&& ~~~(orL (chT l m (ah n &&& ~~~x))))]):=by
 refine am (nt:=18) ai Tryd.func29 rfl rfl l9 ?_;refine sx7 ?_;refine qy ?_;refine a6 ?_;refine sx7 ?_;refine qy ?_;refine rc rfl rfl rfl rfl rfl rfl ue (p6 n) (CoL.refl _) rfl rfl ?_
 (iterate 4 refine qy ?_);refine rc rfl rfl rfl rfl rfl rfl adg (adf n l m x) (CoL.refl _) rfl rfl ?_;refine rc rfl rfl rfl rfl rfl rfl ad4 (akz (chT l m (ah n &&& ~~~x))) (CoL.refl _) rfl rfl ?_
 (iterate 2 refine qy ?_);refine a6 ?_
 exact hx8 rfl rfl rfl (⟨cci (fw _ _),trivial⟩)
end Go.Hx
end
section
namespace Go.Hx
def a61 (a b:AS):Bool:=mq b a
def zu (l:List AS):List AS:=a1d a61 l
def okM (l:List AS) (i k:Nat):Bool:=(List.range k).all fun j=>decide (j = i) || !mq (l.getD j default) (l.getD i default)
theorem aj6 (l:List AS) (i k:Nat):okM l i (k + 1) = (okM l i k && (decide (k = i) || !mq (l.getD k default) (l.getD i default))):=by
 unfold okM
 rw [List.range_succ,List.all_append]
 simp
theorem okM_succ' (l:List AS) (i k:Nat):okM l i (k + 1) = (okM l i k && (decide ((k:Int) = i) || !mq (l.getD k default) (l.getD i default))):=by
 rw [aj6,decide_eq_decide.2 (show (k:Int) = i ↔ k = i by omega)]
theorem aad {l:List AS} {i:Nat} (hn:l.Nodup) (hi:i < l.length):okM l i l.length = !nc a61 l (l.getD i default):=by
 rw [Bool.eq_iff_iff]
 unfold okM nc a61
 rw [List.all_eq_true,Bool.not_eq_true',List.any_eq_false]
 constructor
 · intro h b hb hc
   obtain ⟨j,hj,rfl⟩:=List.getElem_of_mem hb
   have:=h j (List.mem_range.2 hj)
   simp only [Bool.and_eq_true,decide_eq_true_eq,Bool.or_eq_true,Bool.not_eq_true',List.getD_eq_getElem?_getD,List.getElem?_eq_getElem hj,List.getElem?_eq_getElem hi,Option.getD_some] at this hc
   rcases this with h1 | h1
   · subst h1;exact hc.1 rfl
   · rw [hc.2] at h1;cases h1
 · intro h j hj
   have hj:=List.mem_range.1 hj
   have:=h l[j] (List.getElem_mem hj)
   simp only [List.getD_eq_getElem?_getD,List.getElem?_eq_getElem hj,List.getElem?_eq_getElem hi,Option.getD_some,Bool.or_eq_true,decide_eq_true_eq,Bool.not_eq_true',Bool.and_eq_true] at this ⊢
   by_cases e:j = i
   · exact .inl e
   · right
     rw [Bool.eq_false_iff]
     intro hs
     refine this ⟨fun he=>e ?_,hs⟩
     exact ((List.getElem_inj hn).1 he).symm
def jp (l:List AS) (i:Nat):List AS:=((ord l).take i).filter fun x=>!nc a61 (ord l) x
theorem y5 {l:List AS} {i:Nat} (hi:i < (ord l).length) (h:okM (ord l) i (ord l).length = true):jp l (i + 1) = jp l i ++ [(ord l).getD i default]:=by
 rw [aad (w6 l) hi] at h
 unfold jp
 rw [b8 hi,List.filter_append]
 simp only [List.filter_cons,h,if_true,List.filter_nil]
theorem xu {l:List AS} {i:Nat} (hi:i < (ord l).length) (h:okM (ord l) i (ord l).length = false):jp l (i + 1) = jp l i:=by
 rw [aad (w6 l) hi] at h
 unfold jp
 rw [b8 hi,List.filter_append]
 simp only [List.filter_cons,h,Bool.false_eq_true,if_false,List.filter_nil,List.append_nil]
theorem ac9 (l:List AS) (i:Nat):(jp l i).length ≤ i:=by
 unfold jp
 exact Nat.le_trans (List.length_filter_le _ _) (by rw [List.length_take];omega)
theorem adx (l:List AS):jp l (ord l).length = zu l:=by
 unfold jp zu a1d
 rw [List.take_length]
theorem agw {l:List AS} {z:AS}:z ∈ zu l ↔ z ∈ l ∧ ∀ b ∈ l,sub b z → b = z:=by
 unfold zu a1d
 rw [List.mem_filter,i6,Bool.not_eq_true',Bool.eq_false_iff]
 refine and_congr Iff.rfl ?_
 unfold nc a61 mq
 rw [Ne,List.any_eq_true]
 constructor
 · intro h b hb hs
   apply Classical.byContradiction
   intro hne
   exact h ⟨b,i6.2 hb,by rw [Bool.and_eq_true,decide_eq_true_eq,decide_eq_true_eq];exact ⟨fun e=>hne e.symm,hs⟩⟩
 · rintro h ⟨b,hb,hc⟩
   rw [Bool.and_eq_true,decide_eq_true_eq,decide_eq_true_eq] at hc
   exact hc.1 (h b (i6.1 hb) hc.2).symm
theorem aik (l:List AS):jv (zu l):=List.Pairwise.filter _ (en l)
def yq (rest L x:AS) (T:List AS) (y:AS):Bool:=!decide (y = 0) && (decide (y &&& ~~~rest = 0) && decide ((L &&& ~~~(x ||| y)) ∈ T))
def yL (rest L x:AS) (T:List AS) (k:Nat):List AS:=((List.range k).map (BitVec.ofNat 32)).filter (yq rest L x T)
section
variable {rest L x:AS} {T:List AS} {k:Nat}
theorem aca:yL rest L x T 1 = []:=by
 unfold yL
 rw [show List.range 1 = [0] from rfl]
 simp only [List.map_cons,List.map_nil,List.filter_cons,List.filter_nil]
 rw [if_neg]
 unfold yq
 rw [decide_eq_true (show BitVec.ofNat 32 0 = 0 from rfl)]
 intro h
 cases h
theorem a3f (h:yq rest L x T (BitVec.ofNat 32 k) = true):yL rest L x T (k + 1) = yL rest L x T k ++ [BitVec.ofNat 32 k]:=by
 unfold yL
 rw [List.range_succ,List.map_append,List.filter_append]
 simp only [List.map_cons,List.map_nil,List.filter_cons,List.filter_nil,h,if_true]
theorem a31 (h:yq rest L x T (BitVec.ofNat 32 k) = false):yL rest L x T (k + 1) = yL rest L x T k:=by
 unfold yL
 rw [List.range_succ,List.map_append,List.filter_append]
 simp only [List.map_cons,List.map_nil,List.filter_cons,List.filter_nil,h,Bool.false_eq_true,if_false,List.append_nil]
theorem aem:(yL rest L x T k).length ≤ k:=by
 unfold yL
 exact Nat.le_trans (List.length_filter_le _ _) (by rw [List.length_map,List.length_range];exact Nat.le_refl _)
theorem anv {z:AS}:z ∈ yL rest L x T (rest.toNat + 1) ↔ qB T L x rest z:=by
 unfold yL yq qB
 rw [List.mem_filter,List.mem_map,Bool.and_eq_true,Bool.and_eq_true,Bool.not_eq_true',decide_eq_false_iff_not,decide_eq_true_eq,decide_eq_true_eq]
 constructor
 · rintro ⟨_,h1,h2,h3⟩
   exact ⟨h1,h2,h3⟩
 · rintro ⟨h1,h2,h3⟩
   exact ⟨⟨z.toNat,List.mem_range.2 (by have:=a64 h2;omega),by simp⟩,h1,h2,h3⟩
end
theorem amq (n:Int) (x:AS):(ah n &&& ~~~x) &&& x = 0:=ez.2 fun i hi h=>by
 rw [bh hi,Bool.and_eq_true] at h
 simpa using h.2
theorem ac5 (n:Int) (l m:List Fd) (x:AS):zu (yL (ah n &&& ~~~x) (orL (chT l m (ah n &&& ~~~x))) x (chT l m (ah n &&& ~~~x)) ((ah n &&& ~~~x).toNat + 1)) = bp n l m x:=by
 obtain ⟨h1,h2⟩:=a5f (fs:=l) (ms:=m) (rest:=ah n &&& ~~~x)
 refine af2 (aik _) fun z=>?_
 rw [agw,aev a78 (xj (ep l m) (ah n &&& ~~~x)).1 h1 h2 (amq n x) z]
 simp only [anv]
theorem an4 {b:AS} {a:Nat} (h:bsz b = 1) (ha:b.getLsbD a = true):b = eu a:=by
 rw [l7] at h
 have h1:a ∈ bi b:=iq.2 ⟨oz ha,ha⟩
 cases hm:bi b with
 | nil=>rw [hm] at h1;cases h1
 | cons c r =>
  rw [hm] at h h1
  have hr:r = []:=List.length_eq_zero_iff.1 (by simpa using h)
  subst hr
  have e:a = c:=by simpa using h1
  subst e
  apply ew
  intro i hi
  rw [d4 (oz ha) hi]
  cases hb:b.getLsbD i with
  | true =>
   have:i ∈ bi b:=iq.2 ⟨hi,hb⟩
   rw [hm] at this
   simpa using this
  | false =>
   symm
   rw [decide_eq_false_iff_not]
   rintro rfl
   rw [ha] at hb
   cases hb
theorem ajp {a:Nat} (ha:a < 32):bsz (eu a) = 1:=by
 unfold bsz
 have e:(List.range 32).countP (fun i=>(eu a).getLsbD i) = (List.range 32).countP fun i=>decide (i = a):=by
  apply List.countP_congr
  intro i hi
  rw [List.mem_range] at hi
  rw [d4 ha hi]
 rw [e]
 have h2:∀ k,(List.range k).countP (fun i=>decide (i = a)) = if a < k then 1 else 0:=by
  intro k
  induction k with
  | zero=>simp
  | succ k ih =>
   rw [List.range_succ,List.countP_append,ih]
   simp only [List.countP_cons,List.countP_nil]
   by_cases h:k = a
   · subst h
     simp
   · have hd:¬ decide (k = a) = true:=fun q=>h (of_decide_eq_true q)
     rw [if_neg hd]
     by_cases h3:a < k
     · rw [if_pos h3,if_pos (show a < k + 1 by omega)]
     · rw [if_neg h3,if_neg (show ¬ a < k + 1 by omega)]
 rw [h2,if_pos ha]
theorem a6d {l:List Fd} {a:Nat}:∀ {bs:List AS} {o:AS},(ly l o bs).getLsbD a = true ↔ o.getLsbD a = true ∨ ∃ b ∈ bs,bsz b = 1 ∧ l.any (ow b) = true ∧ b.getLsbD a = true
 | [],o=>by simp [ly]
 | b :: bs,o=>by
  show (ly l (my l o b) bs).getLsbD a = true ↔ _
  rw [a6d]
  unfold my
  constructor
  · rintro (h | ⟨c,hc,h⟩)
    · split at h
      · split at h
        · rw [BitVec.getLsbD_or,Bool.or_eq_true] at h
          rcases h with h | h
          · exact .inl h
          · exact .inr ⟨b,by simp,by assumption,by assumption,h⟩
        · exact .inl h
      · exact .inl h
    · exact .inr ⟨c,by simp [hc],h⟩
  · rintro (h | ⟨c,hc,h1,h2,h3⟩)
    · left
      split
      · split
        · rw [BitVec.getLsbD_or,h];rfl
        · exact h
      · exact h
    · rcases List.mem_cons.1 hc with rfl | hc
      · left
        rw [if_pos h1,if_pos h2,BitVec.getLsbD_or,h3,Bool.or_true]
      · exact .inr ⟨c,hc,h1,h2,h3⟩
theorem a3u {f:Fd} {a:Nat} (ha:a < 32):ow (eu a) f = true ↔ f.rhs.getLsbD a = true ∧ f.lhs.getLsbD a = false:=by
 unfold ow
 rw [Bool.not_eq_true',decide_eq_false_iff_not]
 constructor
 · intro h
   obtain ⟨i,hi,h1,h2⟩:=qe h
   rw [d4 ha hi] at h2
   have e:i = a:=by simpa using h2
   subst e
   rw [bh hi,Bool.and_eq_true] at h1
   exact ⟨h1.1,by simpa using h1.2⟩
 · rintro ⟨h1,h2⟩ h
   have:=ez.1 h a ha (by rw [bh ha,h1,h2];rfl)
   rw [d4 ha ha] at this
   simp at this
theorem alt {n:Int} {l m:List Fd} {x:AS} {a:Nat} (ha:a < 32):(je n l m x).getLsbD a = true ↔ x.getLsbD a = true ∨ a0z l (blks (ep l m) (ah n &&& ~~~x)) a:=by
 unfold je
 rw [a6d]
 refine or_congr Iff.rfl ?_
 unfold bp a0z
 constructor
 · rintro ⟨b,hb,h1,h2,h3⟩
   have e:=an4 h1 h3
   subst e
   obtain ⟨f,hf,hc⟩:=List.any_eq_true.1 h2
   exact ⟨i6.1 hb,f,hf,(a3u ha).1 hc⟩
 · rintro ⟨h1,f,hf,h2⟩
   exact ⟨eu a,i6.2 h1,ajp ha,List.any_eq_true.2 ⟨f,hf,(a3u ha).2 h2⟩,by rw [d4 ha ha];simp⟩
theorem aix {n:Int} {l m:List Fd} {x:AS} (hx:sub x (ah n)):ah n &&& ~~~(orL (chT l m (ah n &&& ~~~x))) = je n l m x:=by
 obtain ⟨h1,h2⟩:=a5f (fs:=l) (ms:=m) (rest:=ah n &&& ~~~x)
 have hf:=a78 (fs:=l) (ms:=m) (rest:=ah n &&& ~~~x)
 obtain ⟨hb,hs⟩:=xj (ep l m) (ah n &&& ~~~x)
 have hr:=(hf.j.r _ h1).1
 obtain ⟨L,q1,q2,q3⟩:=hf.j.top
 have eL:orL (chT l m (ah n &&& ~~~x)) = L:=dw (q2 _ h1) (h2 _ q1)
 apply ew
 intro a ha
 rw [bh ha,Bool.eq_iff_iff,Bool.and_eq_true,Bool.not_eq_true',alt ha]
 constructor
 · rintro ⟨p1,p2⟩
   cases hxa:x.getLsbD a with
   | true=>exact .inl rfl
   | false =>
    right
    rw [eL] at p2
    exact q3 a ha (by rw [bh ha,p1,hxa];rfl) p2
 · rintro (p | p)
   · refine ⟨ar.1 hx a ha p, ?_⟩
     cases hl:(orL (chT l m (ah n &&& ~~~x))).getLsbD a with
     | false=>rfl
     | true =>
      have:=ar.1 hr a ha hl
      rw [bh ha,p] at this
      simp at this
   · have p0:=p
     obtain ⟨p1,_⟩:=p
     have:=ar.1 (hb.sub p1) a ha (by rw [d4 ha ha];simp)
     rw [bh ha,Bool.and_eq_true] at this
     exact ⟨this.1,ahc hf hb h1 h2 ha p0⟩
end Go.Hx
end
section
namespace Go.Hx
theorem abv {n:Int} (h0:n ≤ 16):(ah n).toNat < 65536:=by
 have h:=um h0
 have h1:=congrArg BitVec.toNat h
 rw [BitVec.toNat_ushiftRight,Nat.shiftRight_eq_div_pow] at h1
 have h2:(ah n).toNat / 2 ^ n.toNat = 0:=by simpa using h1
 have h3:(ah n).toNat < 2 ^ n.toNat:=by
  rcases Nat.lt_or_ge (ah n).toNat (2 ^ n.toNat) with h | h
  · exact h
  · have:=Nat.div_pos h (Nat.pow_pos (by omega))
    omega
 have h4:2 ^ n.toNat ≤ 2 ^ 16:=Nat.pow_le_pow_right (by omega) (by omega)
 omega
theorem ac4 {n:Int} {x:AS} (h0:n ≤ 16):(ah n &&& ~~~x).toNat < 65536:=Nat.lt_of_le_of_lt (a64 qq) (abv h0)
theorem ek {k:Nat} (h:k < 4294967296):asI (BitVec.ofNat 32 k) = (k:Int):=by
 unfold asI
 rw [BitVec.toNat_ofNat,Nat.mod_eq_of_lt h]
theorem aro {k:Nat} (h1:1 ≤ k) (h:k < 4294967296):¬ BitVec.ofNat 32 k = 0:=fun e=>by
 have:=congrArg asI e
 rw [ek h] at this
 have h2:(k:Int) = 0:=this
 omega
theorem aq8 {rest L x y:AS} {T:List AS} (h:¬ y &&& ~~~rest = 0):yq rest L x T y = false:=by unfold yq;rw [decide_eq_false h];simp
theorem asz {rest L x y:AS} {T:List AS} (h:¬ L &&& ~~~(x ||| y) ∈ T):yq rest L x T y = false:=by unfold yq;rw [decide_eq_false h];simp
theorem asp {rest L x y:AS} {T:List AS} (h0:¬ y = 0) (h:y &&& ~~~rest = 0) (h2:L &&& ~~~(x ||| y) ∈ T):yq rest L x T y = true:=by
 unfold yq
 rw [decide_eq_false h0,decide_eq_true h,decide_eq_true h2]
 rfl
section
variable {V:AS → Option Fd}
end
end Go.Hx
end
section
namespace Go.Hx
open Go.Proofs
set_option maxRecDepth 100000
theorem apk:al Tryd.prog 44:=⟨Tryd.f44,Tryd.func44,by kernel_rfl,by kernel_rfl⟩
theorem acn (l:List AS) (hl:l.length ≤ 8589934592):ao Tryd.prog 44 [pP (asl l)] (ay [pP (asl (zu l))]):=by
 refine am (nt:=49) ai Tryd.func44 rfl rfl l9 ?_;refine sx7 ?_;refine qy ?_;refine a6 ?_;refine sx7 ?_;refine qy ?_;refine a6 ?_;refine sx7 ?_;refine qy ?_
 refine rc rfl rfl rfl rfl rfl rfl afw (a9h l hl) (CoL.refl _) rfl rfl ?_;refine qy ?_;refine a6 ?_;refine a7 ?_;refine sx7 ?_;refine qy ?_;refine a6 ?_;refine af ?_
 have hol:=md l
 refine dm 3 900 true 1 34 (lf sC []) (by decide) rfl (CoP.sl rfl (.inr rfl) (fun h=>h) (fun i j hi _=>absurd hi (Nat.not_lt_zero i))) (.inr rfl) rfl ?_
 refine av (ι:=Nat) ⟨[(4,some _)],[]⟩ ⟨⟨c9,trivial⟩,trivial⟩ (fun i=>⟨[(3,some (.v (.one (.ref 900 (jp l i).length)))),(5,some (vI i))],[(900,some (.arr true 1 34 (jp l i).length (lf sC (jp l i))))]⟩) (fun i=>i ≤ (ord l).length) (fun i=>(ord l).length - i) (0) (Nat.zero_le _) ⟨⟨zy,zy,trivial⟩,⟨u9,trivial⟩⟩ ?_
 rintro i hi
 have hlen:=ac9 l i
 refine a7 ?_;refine sx7 ?_;(iterate 4 refine qy ?_);refine a6 ?_;refine a8 _ rfl (fun r0=>?_) (fun r0=>?_)
 ·
  have h0:=of_decide_eq_true r0
  try simp only [ty] at h0
  refine aa ?_;refine a7 ?_;refine af ?_;refine sx7 ?_;refine qy ?_;refine a6 ?_;refine a7 ?_;refine sx7 ?_;refine qy ?_;refine a6 ?_;refine af ?_
  refine av (ι:=Nat) ⟨[(3,some _),(4,some _),(5,some _)],[(900,some _)]⟩ ⟨⟨c9,c9,c9,trivial⟩,⟨u9,trivial⟩⟩ (fun k=>⟨[(6,some (vB (okM (ord l) i k))),(7,some (vI k))],[]⟩) (fun k=>k ≤ (ord l).length) (fun k=>(ord l).length - k) (0) (Nat.zero_le _) ⟨⟨⟨_,rfl,(cob rfl)⟩,zy,trivial⟩,trivial⟩ ?_
  rintro k hk
  refine a7 ?_;refine sx7 ?_;(iterate 4 refine qy ?_);refine a6 ?_;refine a8 _ rfl (fun r1=>?_) (fun r1=>?_)
  ·
   have h1:=of_decide_eq_true r1
   try simp only [ty] at h1
   refine aa ?_;refine a7 ?_;refine af ?_;refine d8 (E:=dg) ai c7 [0,1,2,3,4,5,6,7,8,9,10,11,12,13,14,15,16,17,18] ?_;(iterate 2 refine qy ?_)
   refine ct rfl rfl (fun r2=>?_) (fun r2=>?_)
   ·
    have h2:=r2
    (iterate 4 refine qy ?_ (hg:=(gtt r2)));refine ct rfl rfl (fun r3=>?_) (fun r3=>?_)
    ·
     have h3:=of_decide_eq_true r3
     try simp only [ty] at h3
     (iterate 10 refine k9 (gtf r3) ?_);refine rq rfl rfl rfl rfl (gtt r2) ?_ (hp:=r3);(iterate 2 refine qy ?_);refine a6 ?_;refine ⟨by kernel_rfl, ?_⟩;refine gy ?_;(iterate 3 refine qy ?_);refine a6 ?_
     refine ⟨k + 1, ?_, ?_, ?_⟩
     · show k + 1 ≤ _;omega
     · first | omega | (dsimp only;omega)
     · exact ⟨⟨⟨_,rfl,(cob (by rw [okM_succ'];simp_all only [mq];simp))⟩,zy,c9,c9,c9,trivial⟩,⟨u9,trivial⟩⟩
    ·
     have h3:=of_decide_eq_false r3
     try simp only [ty] at h3
     (iterate 8 refine qy ?_ (hg:=(gff r3)));refine rc rfl rfl rfl rfl rfl rfl aft (ako _ _) (CoL.refl _) rfl (gff r3) ?_;refine qy ?_ (hg:=(gff r3));refine qy ?_ (hg:=(gtt r2));(iterate 2 refine qy ?_)
     refine a6 ?_;refine ⟨by kernel_rfl, ?_⟩;refine gy ?_;(iterate 3 refine qy ?_);refine a6 ?_;refine ⟨k + 1, ?_, ?_, ?_⟩
     · show k + 1 ≤ _;omega
     · first | omega | (dsimp only;omega)
     · exact ⟨⟨⟨_,rfl,(cob (by rw [okM_succ'];simp_all only [mq];simp))⟩,zy,c9,c9,c9,trivial⟩,⟨u9,trivial⟩⟩
   ·
    have h2:=r2
    (iterate 4 refine k9 (gft r2) ?_);(iterate 10 refine k9 rfl ?_);refine k9 (gft r2) ?_;refine rq rfl rfl rfl rfl rfl ?_ (hp:=r2);refine qy ?_;refine a6 ?_;refine ⟨by kernel_rfl, ?_⟩;refine gy ?_
    (iterate 3 refine qy ?_);refine a6 ?_;refine ⟨k + 1, ?_, ?_, ?_⟩
    · show k + 1 ≤ _;omega
    · first | omega | (dsimp only;omega)
    · exact ⟨⟨⟨_,rfl,(cob (by rw [okM_succ'];simp_all only [mq];simp))⟩,zy,c9,c9,c9,trivial⟩,⟨u9,trivial⟩⟩
  ·
   have h1:=of_decide_eq_false r1
   try simp only [ty] at h1
   obtain rfl:k = (ord l).length:=by omega
   refine au ?_;refine sx7 ?_;refine qy ?_;refine a6 ?_;refine a8 _ rfl (fun r4=>?_) (fun r4=>?_)
   ·
    have h4:=r4
    refine gy ?_;(iterate 5 refine qy ?_);refine m9 0 ?_;refine ra 1 true rfl rfl rfl rfl rfl rfl ?_;refine qy ?_;refine a6 ?_;refine gy ?_;(iterate 3 refine qy ?_);refine a6 ?_
    first | (refine ⟨i + 1, ?_, ?_, ?_⟩
             · show i + 1 ≤ _;omega
             · first | omega | (dsimp only;omega)
             · exact ⟨⟨⟨_,rfl,(ck (y5 (by omega) (by assumption)))⟩,zy,c9,trivial⟩,⟨⟨_,rfl,(ca (y5 (by omega) (by assumption)) (CoP.refl _))⟩,trivial⟩⟩)
          | (refine ⟨i + 1, ?_, ?_, ?_⟩
             · show i + 1 ≤ _;omega
             · first | omega | (dsimp only;omega)
             · exact ⟨⟨⟨_,rfl,(bn (xu (by omega) (by assumption)))⟩,zy,c9,trivial⟩,⟨⟨_,rfl,(bo (xu (by omega) (by assumption)))⟩,trivial⟩⟩)
   ·
    have h4:=r4
    refine aa ?_;refine gy ?_;(iterate 3 refine qy ?_);refine a6 ?_
    first | (refine ⟨i + 1, ?_, ?_, ?_⟩
             · show i + 1 ≤ _;omega
             · first | omega | (dsimp only;omega)
             · exact ⟨⟨⟨_,rfl,(ck (y5 (by omega) (by assumption)))⟩,zy,c9,trivial⟩,⟨⟨_,rfl,(ca (y5 (by omega) (by assumption)) (CoP.refl _))⟩,trivial⟩⟩)
          | (refine ⟨i + 1, ?_, ?_, ?_⟩
             · show i + 1 ≤ _;omega
             · first | omega | (dsimp only;omega)
             · exact ⟨⟨⟨_,rfl,(bn (xu (by omega) (by assumption)))⟩,zy,c9,trivial⟩,⟨⟨_,rfl,(bo (xu (by omega) (by assumption)))⟩,trivial⟩⟩)
 ·
  have h0:=of_decide_eq_false r0
  try simp only [ty] at h0
  obtain rfl:i = (ord l).length:=by omega
  refine au ?_;refine sx7 ?_;(iterate 2 refine qy ?_);refine a6 ?_;refine c8 2 rfl rfl rfl ?_
  exact hx8 rfl rfl rfl (⟨CoC.one (CoP.of_eq (by rw [← adx];rfl)),trivial⟩)
theorem apy:al Tryd.prog 23:=⟨Tryd.f23,Tryd.func23,by kernel_rfl,by kernel_rfl⟩
theorem af8 (n:Int) (l m:List Fd) (x:AS) (hn:n ≤ 16):ao Tryd.prog 23 [pI n,pP (fdl l),pP (fdl m),pA x] (ay [pP (asl (bp n l m x))]):=by
 refine am (nt:=48) ai Tryd.func23 rfl rfl l9 ?_
 have hsm:=ac4 (n:=n) (x:=x) hn
 refine sx7 ?_;refine qy ?_;refine a6 ?_;refine sx7 ?_;(iterate 4 refine qy ?_);refine rc rfl rfl rfl rfl rfl rfl adg (adf n l m x) (CoL.refl _) rfl rfl ?_;refine m9 0 ?_;refine s9 ?_;refine a6 ?_
 refine sx7 ?_;refine qy ?_;refine rc rfl rfl rfl rfl rfl rfl ue (p6 n) (CoL.refl _) rfl rfl ?_;(iterate 3 refine qy ?_);refine a6 ?_;refine sx7 ?_;refine qy ?_;refine a6 ?_;refine a7 ?_;refine sx7 ?_
 refine qy ?_;refine a6 ?_;refine af ?_;refine dm 11 900 true 1 34 (lf sC []) (by decide) rfl (CoP.sl rfl (.inr rfl) (fun h=>h) (fun i j hi _=>absurd hi (Nat.not_lt_zero i))) (.inr rfl) rfl ?_
 refine av (ι:=Nat) ⟨[(3,some _),(9,some _),(10,some _)],[(0,some _)]⟩ ⟨⟨c9,c9,c9,trivial⟩,⟨u9,trivial⟩⟩ (fun k=>⟨[(11,some (.v (.one (.ref 900 (yL (ah n &&& ~~~x) (orL (chT l m (ah n &&& ~~~x))) x (chT l m (ah n &&& ~~~x)) k).length)))),(12,some (vA (BitVec.ofNat 32 k)))],[(900,some (.arr true 1 34 (yL (ah n &&& ~~~x) (orL (chT l m (ah n &&& ~~~x))) x (chT l m (ah n &&& ~~~x)) k).length (lf sC (yL (ah n &&& ~~~x) (orL (chT l m (ah n &&& ~~~x))) x (chT l m (ah n &&& ~~~x)) k))))]⟩) (fun k=>1 ≤ k ∧ k ≤ (ah n &&& ~~~x).toNat + 1) (fun k=>(ah n &&& ~~~x).toNat + 1 - k) (1) (⟨Nat.le_refl _,by omega⟩) ⟨⟨⟨_,rfl,(bn aca)⟩,⟨_,rfl,(CoR.refl _)⟩,trivial⟩,⟨⟨_,rfl,(bo aca)⟩,trivial⟩⟩ ?_
 rintro k ⟨hk1,hk2⟩
 have hyl:(yL (ah n &&& ~~~x) (orL (chT l m (ah n &&& ~~~x))) x (chT l m (ah n &&& ~~~x)) k).length ≤ k:=aem
 refine a7 ?_;refine sx7 ?_;(iterate 3 refine qy ?_);refine a6 ?_;refine a8 _ rfl (fun r0=>?_) (fun r0=>?_)
 ·
  have h0:=of_decide_eq_true r0
  try simp only [ty] at h0
  have hkr:k ≤ (ah n &&& ~~~x).toNat:=by
   have q:asI (BitVec.ofNat 32 k) ≤ asI (ah n &&& ~~~x):=by rw [← fw];exact h0
   rw [ek (by omega)] at q
   exact Int.ofNat_le.1 q
  have hnz:¬ (BitVec.ofNat 32 k) = 0:=aro hk1 (by omega)
  refine aa ?_;refine a7 ?_;refine af ?_;refine a7 ?_;refine d8 (E:=dg) ai c7 [0,1,2,3,4,5,6,7,8,9,10,11,12,13,14] ?_;(iterate 5 refine qy ?_)
  refine ct rfl rfl (fun r1=>?_) (fun r1=>?_)
  ·
   have h1:=of_decide_eq_true r1
   try simp only [ty] at h1
   have g1:(BitVec.ofNat 32 k) &&& ~~~(ah n &&& ~~~x) = 0:=abi (by rw [← fw (ah n) x];exact h1)
   (iterate 3 refine qy ?_ (hg:=(gtt r1)));refine rc rfl rfl rfl rfl rfl rfl ad4 (akz (chT l m (ah n &&& ~~~x))) (CoL.refl _) rfl (gtt r1) ?_;(iterate 4 refine qy ?_ (hg:=(gtt r1)))
   refine rc rfl rfl rfl rfl rfl rfl a5p (cIn (chT l m (ah n &&& ~~~x)) ((orL (chT l m (ah n &&& ~~~x))) &&& ~~~(x ||| (BitVec.ofNat 32 k)))) (⟨CoC.refl _,cci (by rw [bOr,fw]),trivial⟩) rfl (gtt r1) ?_;refine qy ?_
   refine a6 ?_;refine ⟨by kernel_rfl, ?_⟩;refine a8 _ rfl (fun r2=>?_) (fun r2=>?_)
   ·
    have h2:=r2
    have h2:=ef r1 h2
    have hin:(orL (chT l m (ah n &&& ~~~x))) &&& ~~~(x ||| (BitVec.ofNat 32 k)) ∈ (chT l m (ah n &&& ~~~x)):=of_decide_eq_true h2
    have hy:yq (ah n &&& ~~~x) (orL (chT l m (ah n &&& ~~~x))) x (chT l m (ah n &&& ~~~x)) (BitVec.ofNat 32 k) = true:=asp hnz g1 hin
    refine gy ?_;(iterate 2 refine qy ?_);refine m9 1 ?_;refine ra 2 true rfl rfl rfl rfl rfl rfl ?_;refine qy ?_;refine a6 ?_;refine gy ?_;refine qy ?_
    refine rq rfl rfl rfl rfl rfl ?_ (hp:=by have q:=ek (k:=k) (by omega);rw [q];simp only [inR,im,j7];omega);refine qy ?_;refine a6 ?_
    first | (refine ⟨k + 1, ?_, ?_, ?_⟩
             · exact ⟨by omega,by omega⟩
             · first | omega | (dsimp only;omega)
             · exact ⟨⟨⟨_,rfl,(ck (a3f hy))⟩,⟨_,rfl,(fg (by rw [ek (by omega),ek (by omega)];rfl))⟩,c9,c9,c9,trivial⟩,⟨⟨_,rfl,(ca (a3f hy) (CoP.refl _))⟩,u9,trivial⟩⟩)
          | (refine ⟨k + 1, ?_, ?_, ?_⟩
             · exact ⟨by omega,by omega⟩
             · first | omega | (dsimp only;omega)
             · exact ⟨⟨⟨_,rfl,(bn (a31 hy))⟩,⟨_,rfl,(fg (by rw [ek (by omega),ek (by omega)];rfl))⟩,c9,c9,c9,trivial⟩,⟨⟨_,rfl,(bo (a31 hy))⟩,u9,trivial⟩⟩)
   ·
    have h2:=r2
    have h2:=ef r1 h2
    have hy:yq (ah n &&& ~~~x) (orL (chT l m (ah n &&& ~~~x))) x (chT l m (ah n &&& ~~~x)) (BitVec.ofNat 32 k) = false:=by first | exact aq8 g1 | exact asz (of_decide_eq_false h2)
    refine aa ?_;refine gy ?_;refine qy ?_;refine rq rfl rfl rfl rfl rfl ?_ (hp:=by have q:=ek (k:=k) (by omega);rw [q];simp only [inR,im,j7];omega);refine qy ?_;refine a6 ?_
    first | (refine ⟨k + 1, ?_, ?_, ?_⟩
             · exact ⟨by omega,by omega⟩
             · first | omega | (dsimp only;omega)
             · exact ⟨⟨⟨_,rfl,(ck (a3f hy))⟩,⟨_,rfl,(fg (by rw [ek (by omega),ek (by omega)];rfl))⟩,c9,c9,c9,trivial⟩,⟨⟨_,rfl,(ca (a3f hy) (CoP.refl _))⟩,u9,trivial⟩⟩)
          | (refine ⟨k + 1, ?_, ?_, ?_⟩
             · exact ⟨by omega,by omega⟩
             · first | omega | (dsimp only;omega)
             · exact ⟨⟨⟨_,rfl,(bn (a31 hy))⟩,⟨_,rfl,(fg (by rw [ek (by omega),ek (by omega)];rfl))⟩,c9,c9,c9,trivial⟩,⟨⟨_,rfl,(bo (a31 hy))⟩,u9,trivial⟩⟩)
  ·
   have h1:=of_decide_eq_false r1
   try simp only [ty] at h1
   have g1:¬ (BitVec.ofNat 32 k) &&& ~~~(ah n &&& ~~~x) = 0:=a68 (by rw [← fw (ah n) x];exact h1)
   have hy:yq (ah n &&& ~~~x) (orL (chT l m (ah n &&& ~~~x))) x (chT l m (ah n &&& ~~~x)) (BitVec.ofNat 32 k) = false:=aq8 g1
   (iterate 9 refine k9 (gft r1) ?_);refine rq rfl rfl rfl rfl rfl ?_ (hp:=r1);refine a6 ?_;refine ⟨by kernel_rfl, ?_⟩;refine a8 _ rfl (fun e=>by cases e) (fun _=>?_);refine aa ?_;refine gy ?_
   refine qy ?_;refine rq rfl rfl rfl rfl rfl ?_ (hp:=by have q:=ek (k:=k) (by omega);rw [q];simp only [inR,im,j7];omega);refine qy ?_;refine a6 ?_
   first | (refine ⟨k + 1, ?_, ?_, ?_⟩
            · exact ⟨by omega,by omega⟩
            · first | omega | (dsimp only;omega)
            · exact ⟨⟨⟨_,rfl,(ck (a3f hy))⟩,⟨_,rfl,(fg (by rw [ek (by omega),ek (by omega)];rfl))⟩,c9,c9,c9,trivial⟩,⟨⟨_,rfl,(ca (a3f hy) (CoP.refl _))⟩,u9,trivial⟩⟩)
         | (refine ⟨k + 1, ?_, ?_, ?_⟩
            · exact ⟨by omega,by omega⟩
            · first | omega | (dsimp only;omega)
            · exact ⟨⟨⟨_,rfl,(bn (a31 hy))⟩,⟨_,rfl,(fg (by rw [ek (by omega),ek (by omega)];rfl))⟩,c9,c9,c9,trivial⟩,⟨⟨_,rfl,(bo (a31 hy))⟩,u9,trivial⟩⟩)
 ·
  have h0:=of_decide_eq_false r0
  try simp only [ty] at h0
  obtain rfl:k = (ah n &&& ~~~x).toNat + 1:=by
   have q:¬ asI (BitVec.ofNat 32 k) ≤ asI (ah n &&& ~~~x):=by rw [← fw];exact h0
   rw [ek (by omega)] at q
   have q2:¬ k ≤ (ah n &&& ~~~x).toNat:=fun e=>q (Int.ofNat_le.2 e)
   omega
  refine au ?_;refine a7 ?_;refine c8 11 rfl rfl rfl ?_;refine gy ?_;refine qy ?_
  refine rc rfl rfl rfl rfl rfl rfl apk (acn (yL (ah n &&& ~~~x) (orL (chT l m (ah n &&& ~~~x))) x (chT l m (ah n &&& ~~~x)) ((ah n &&& ~~~x).toNat + 1)) (Nat.le_trans aem (by omega))) (CoL.refl _) rfl rfl ?_
  refine qy ?_;refine a6 ?_
  exact hx8 rfl rfl rfl (⟨CoC.one (CoP.of_eq (by rw [ac5])),trivial⟩)
end Go.Hx
end
