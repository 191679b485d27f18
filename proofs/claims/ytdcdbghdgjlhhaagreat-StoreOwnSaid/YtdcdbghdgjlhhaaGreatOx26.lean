/- A part of the proof: B1 Sp10 W34 Sp11 W35 Sp12 Sp13 Sp14. -/
import Derived.Test.YtdcdbghdgjlhhaaGreatOx14
import Derived.Test.YtdcdbghdgjlhhaaGreatOx16
import Derived.Test.YtdcdbghdgjlhhaaGreatOx25
set_option linter.all false
set_option maxRecDepth 100000
namespace Go.Hx
section
open Go.Proofs
theorem agx:am Tryz.prog 79:=wgx Tryz.func79
theorem ae5:am Tryz.prog 100:=wgx Tryz.func100
theorem c79 (n:Nat) (cl:Bool) (f:Nat → Nat → PV):ay Tryz.prog 79 [.one (.sl n 11 cl f)] (bu [.one (.fn 100 1 fun _=>.vp 1 fun _=>.sl n 11 cl f)]):=by
 refine av (nt:=4) a8 Tryz.func79 rfl rfl l9 ?_;refine sx7 ?_;refine m9 0 ?_;refine w_3 ?_;refine qa 1 rfl rfl rfl ?_;refine w_5 ?_;refine ⟨.inr rfl, ?_⟩
 exact ⟨_,_,_,_,rfl,(by (repeat' apply And.intro) <;> trivial),rfl,(by (repeat' apply And.intro) <;> trivial),⟨CoC.one (CoP.fn rfl fun i hi=>by
  obtain rfl:i = 0:=by simpa using hi
  exact CoP.vp rfl fun j hj=>by
   obtain rfl:j = 0:=by simpa using hj
   exact CoP.refl _),trivial⟩⟩
theorem ahb (n:Nat) (cl:Bool) (f:Nat → Nat → PV) (hn:n ≤ 68719476736) :
 ae0 Tryz.prog 100 [.one (.vp 1 fun _=>.sl n 11 cl f)] n fun i=>[.one (.raw (.int .i64 ((n - 1 - i:Nat):Int))), .agg [f (n - 1 - i) 0,f (n - 1 - i) 1,f (n - 1 - i) 2,f (n - 1 - i) 3,f (n - 1 - i) 4,f (n - 1 - i) 5,f (n - 1 - i) 6,f (n - 1 - i) 7,f (n - 1 - i) 8,f (n - 1 - i) 9,f (n - 1 - i) 10]]:=by
 intro imm htab us W l J hcaps him hJb hY h0
 haveI:TabC imm:=⟨htab⟩
 refine callsIn_of_wp Tryz.func100 rfl trivial ?_ rfl
 have e0:#[Value.func (.yield l) #[] #[]] ++ us.toArray = (Value.func (.yield l) #[] #[] :: us).toArray:=by simp
 rw [e0]
 have hst:=ac3 (A:=W) (nt:=19) (us:=Value.func (.yield l) #[] #[] :: us) (args:=[.one (.raw (.func (.yield l) #[] #[])), .one (.vp 1 fun _=>.sl n 11 cl f)]) (him 0 W h0) ⟨⟨rfl,rfl⟩,hcaps⟩ l9
 refine wpIn_seq (wpIn_region ?_);refine iq (E:=au) a8 hst rfl rfl rfl rfl rfl rfl (fun a h1=>?_);refine iq (E:=au) a8 h1 rfl rfl rfl rfl rfl rfl (fun a h2=>?_)
 refine iq (E:=au) a8 h2 rfl rfl rfl rfl rfl rfl (fun a h3=>?_);refine iq (E:=au) a8 h3 rfl rfl rfl rfl rfl rfl (fun a h4=>?_)
 show Code.wpIn _ _ _ _ _ _ _
 refine wpIn_block ?_
 refine xh (fun m a A=>∃ i,i ≤ n ∧ m = n - i ∧ J i A ∧ It imm 19 [(0,some (cf (.raw (.func (.yield l) #[] #[])))),(1,some (cf (.vp 1 fun _=>.sl n 11 cl f))),(3,some (cf (.raw (.int .i64 ((n:Int) - 1 - i)))))] a A) n ⟨0,Nat.zero_le _,by omega,h0,h4.sub ⟨c9,c9,⟨_,rfl,coi (by omega)⟩,trivial⟩⟩ ?_
 rintro m a A ⟨i,hi,rfl,hJ,h⟩
 refine wpIn_seq ?_;refine wpIn_seq (wpIn_region ?_);refine iq (E:=au) a8 h rfl rfl rfl rfl rfl rfl (fun a h1=>?_);refine iq (E:=au) a8 h1 rfl rfl rfl rfl rfl rfl (fun a h2=>?_)
 show Code.wpIn _ _ _ _ _ _ _
 refine wpIn_cond_split (ve (x:=.tmp 8) h2 rfl).1 (fun hb=>?_) (fun hb=>?_)
 · have hb:=ae hb
   have hin:i < n:=by omega
   refine wpIn_skip ?_
   show Code.wpIn _ _ _ _ _ _ _
   refine wpIn_seq (wpIn_block ?_);refine wpIn_seq (wpIn_region ?_);refine iq (E:=au) a8 h2 rfl rfl rfl rfl rfl rfl (fun a h3=>?_);refine iq (E:=au) a8 h3 rfl rfl rfl rfl rfl rfl (fun a h4=>?_)
   refine iq (E:=au) a8 h4 rfl rfl rfl rfl rfl rfl (fun a h5=>?_);refine iq (E:=au) a8 h5 rfl rfl rfl rfl rfl rfl (fun a h6=>?_)
   refine iq (E:=au) a8 h6 rfl rfl rfl rfl rfl rfl (fun a h7=>?_) (hp:=⟨rfl,by omega,by omega⟩);refine iq (E:=au) a8 h7 rfl rfl rfl rfl rfl rfl (fun a h8=>?_)
   have ei:((n:Int) - 1 - i).toNat = n - 1 - i:=by omega
   have e12:=ve (x:=.tmp 12) h8 rfl
   rw [show cf (.raw (.int .i64 ((n:Int) - 1 - i))) = cf (.raw (.int .i64 ((n - 1 - i:Nat):Int))) by congr 3;omega] at e12
   have e16:=ve (x:=.tmp 16) h8 rfl
   rw [ei] at e16
   have e16:=fz.of_H (x:=.agg [f (n - 1 - i) 0,f (n - 1 - i) 1,f (n - 1 - i) 2,f (n - 1 - i) 3,f (n - 1 - i) 4,f (n - 1 - i) 5,f (n - 1 - i) 6,f (n - 1 - i) 7,f (n - 1 - i) 8,f (n - 1 - i) 9,f (n - 1 - i) 10]) e16
   refine iy h8 rfl rfl rfl rfl rfl rfl (R:=J (i + 1)) (hY i A [_,_] hin hJ ⟨e12,e16,trivial⟩) (fun A'=>him (i + 1) A') (fun a A1 hJ1 h9=>?_);refine iq (E:=au) a8 h9 rfl rfl rfl rfl rfl rfl (fun a h10=>?_)
   show Code.wpIn _ _ _ _ _ _ _
   refine wpIn_cond_false (ve (x:=.tmp 18) h10 rfl).1 (wpIn_skip ?_)
   show Code.wpIn _ _ _ _ _ _ _
   refine wpIn_region ?_;refine iq (E:=au) a8 h10 rfl rfl rfl rfl rfl rfl (fun a h11=>?_);refine iq (E:=au) a8 h11 rfl rfl rfl rfl rfl rfl (fun a h12=>?_)
   refine iq (E:=au) a8 h12 rfl rfl rfl rfl rfl rfl (fun a h13=>?_)
   exact ⟨n - (i + 1),by omega,i + 1,hin,rfl,hJ1,h13.sub ⟨c9,c9,⟨_,rfl,coi (by omega)⟩,trivial⟩⟩
 have hb:=aa hb
 obtain rfl:i = n:=by omega
 refine wpIn_exit ?_
 exact ⟨h2.defers,_,results_none rfl _ _ _,⟨_,rfl⟩,hJ⟩
end
section
def rvD (d:DB) (c:Chg):DB:=if c.kind = 1 then d.take (d.length - 1) else f8 d (fd c)
def rvN (d:DB) (l:List Chg):Nat → DB
 | 0=>d
 | i + 1=>rvD (rvN d l i) (l.getD (l.length - 1 - i) default)
structure ua (d:DB) (c:Chg):Prop where
 one:c.kind = 1 → 0 < d.length
 len:c.row.vals.length ≤ 68719476736
 at4:c.kind = 4 → 0 ≤ c.attr ∧ c.attr < c.row.vals.length
 ok:(fd c).ok
theorem ack {d:DB} (h:dbV d) (k:Nat):dbV (d.take k):=by
 refine ⟨by rw [List.length_take];have:=h.1;omega,fun j hj=>?_⟩
 rw [List.length_take] at hj
 have:(d.take k).getD j default = d.getD j default:=by simp only [List.getD,List.getElem?_take,show j < k by omega,if_true]
 rw [this]
 exact h.2 j (by omega)
theorem a8w {d:DB} {c:Chg} (h:c.kind = 1):rvD d c = d.take (d.length - 1):=if_pos h
theorem a89 {d:DB} {c:Chg} (h:¬ c.kind = 1):rvD d c = f8 d (fd c):=if_neg h
theorem ady {d:DB} {c:Chg} (h:dbV d):dbV (rvD d c):=by
 by_cases h1:c.kind = 1
 · rw [a8w h1];exact ack h _
 rw [a89 h1];exact a1m h
end
section
open Go.Proofs
theorem aaf:am Tryz.prog 53:=wgx Tryz.func53
theorem afb (x:Str) (l:List Chg) (hd:dbV x.db) (hl:l.length ≤ 68719476736) (hr:∀ i,i < l.length → ua (rvN x.db l i) (l.getD (l.length - 1 - i) default)):br Tryz.prog 53 [.one (.ptr 1000 0), .one (.p (sm l))] x.objs (.tup []) ({ x with db:=rvN x.db l l.length }:Str).objs [1000]:=by
 refine c8 (nt:=44) a8 Tryz.func53 rfl rfl l9 rfl ?_;refine pb ?_;refine sx7 ?_;refine m9 0 ?_;refine w_4 ?_;refine qcx agx (c79 l.length false (lf Chg.c l)) ?_;refine w_2 ?_
 refine acs (ι:=DB) (swp 0 1001) (a7s 0 1001) rfl ae5 (ahb l.length false (lf Chg.c l) hl) [(2,some (.v (.one (.ptr 0 0))))] (fun d=>[(0, .box [.ptr 1000 0]),(1000, .box [.p (pw d), .ref 901 x.done.length, .ref 902 x.undone.length, .p (.raw (.bool x.opn)), .ref 903 x.now.length]),(901, .arr false 1 23 x.done.length (lf txC x.done)),(902, .arr false 1 23 x.undone.length (lf txC x.undone)),(903, .arr false 11 49 x.now.length (lf Chg.c x.now))]) (fun i d=>dbV d ∧ d = rvN x.db l i) (x.db) (⟨hd,rfl⟩) ⟨⟨c9,trivial⟩,⟨u9,u9,u9,u9,u9,trivial⟩⟩ [0,1000] (fun _ _=>rfl) rfl rfl ?_ ?_
 · rintro lp i d hi ⟨hdd,hD⟩
   have hk:=hr i hi
   rw [← hD] at hk
   have hd50:=hdd.1
   refine gy ?_;refine m9 1 ?_;refine w_2 ?_;refine ⟨rfl, ?_⟩;refine w_8 ?_;refine a7 _ rfl (fun r0=>?_) (fun r0=>?_)
   ·
    have h0:=ae r0
    try simp only [ty] at h0
    have hpos:=hk.one (by assumption)
    skip
    refine i5 ?_;refine ap (E:=au) a8 ag [0,1,2,3,4,5,6,7,8,9,10,11,12,13,14,15,16,17,18] ?_;refine qb ?_
    refine rc rfl rfl rfl rfl rfl rfl ow (c66 (d.take (d.length - 1)) (by have:=hdd.1;rw [List.length_take];omega)) (⟨CoC.one (wc (by omega) (by omega)),trivial⟩) rfl rfl ?_;refine w_5 ?_
    refine ⟨by kernel_rfl, ?_⟩;refine cw ?_;refine ⟨rfl,rvD d (l.getD (l.length - 1 - i) default), ?_, ?_⟩
    · exact ⟨ady hdd,by rw [hD];rfl⟩
    first | rw [a8w (d:=d) (c:=(l.getD (l.length - 1 - i) default)) (by assumption)] | rw [a89 (d:=d) (c:=(l.getD (l.length - 1 - i) default)) (by assumption)]
    exact ⟨u9,u9,u9,u9,u9,trivial⟩
   have h0:=aa r0
   try simp only [ty] at h0
   skip
   refine ew ?_;refine ap (E:=au) a8 ag [0,1,2,3,4,5,6,7,8,9,10,11,12,13] ?_;refine w_6 ?_;refine qcx agv (c80 (l.getD (l.length - 1 - i) default) hk.len hk.at4) ?_
   refine qcx a5i (c45 d (fd (l.getD (l.length - 1 - i) default)) hdd hk.ok) ?_;refine w_7 ?_;refine ⟨by kernel_rfl, ?_⟩;refine ⟨rfl,rvD d (l.getD (l.length - 1 - i) default), ?_, ?_⟩
   · exact ⟨ady hdd,by rw [hD];rfl⟩
   first | rw [a8w (d:=d) (c:=(l.getD (l.length - 1 - i) default)) (by assumption)] | rw [a89 (d:=d) (c:=(l.getD (l.length - 1 - i) default)) (by assumption)]
   exact ⟨u9,u9,u9,u9,u9,trivial⟩
 rintro d ⟨hdd,hD⟩
 obtain rfl:d = rvN x.db l l.length:=hD
 show HE _ _ _
 refine ck ?_;refine ⟨.inl rfl, ?_⟩
 exact ⟨_,_,rfl,(by (repeat' apply And.intro) <;> first | trivial | exact Nat.le_of_ble_eq_true rfl),CoR.refl _,⟨u9,u9,u9,u9,trivial⟩⟩
end
section
def udE (x:Str):Int:=if x.opn = true ∨ x.done.length = 0 then 16 else 0
def udS (x:Str):Str:=if x.opn = true ∨ x.done.length = 0 then x else
 { x with db:=rvN x.db (x.done.getD ((x.done.length:Int) - 1).toNat default) (x.done.getD ((x.done.length:Int) - 1).toNat default).length,undone:=x.undone ++ [x.done.getD ((x.done.length:Int) - 1).toNat default],done:=x.done.take (x.done.length - 1) }
def rbS (x:Str):Str:={ enS x with db:=rvN (enS x).db (enL x) (enL x).length }
end
section
open Go.Proofs
theorem a5f:am Tryz.prog 24:=wgx Tryz.func24
theorem agr (x:Str) (hd:dbV x.db) (hd1:x.done.length ≤ 68719476736) (hu:x.undone.length ≤ 68719476736) (hc:¬ (x.opn = true ∨ x.done.length = 0) → (x.done.getD ((x.done.length:Int) - 1).toNat default).length ≤ 68719476736 ∧ ∀ i,i < (x.done.getD ((x.done.length:Int) - 1).toNat default).length → ua (rvN x.db (x.done.getD ((x.done.length:Int) - 1).toNat default) i) ((x.done.getD ((x.done.length:Int) - 1).toNat default).getD ((x.done.getD ((x.done.length:Int) - 1).toNat default).length - 1 - i) default)):br Tryz.prog 24 [.one (.ptr 1000 0)] x.objs (.v (.one (.p (.raw (.int .i64 (udE x)))))) (udS x).objs [1000]:=by
 refine c8 (nt:=51) a8 Tryz.func24 rfl rfl l9 rfl ?_;refine pb ?_
 have hnu:x.done.length ≤ 68719476736:=hd1
 refine ad5 ?_;refine bo rfl rfl (fun r0=>?_) (fun r0=>?_)
 ·
  have h0:=r0
  (iterate 2 refine k9 (gtf r0) ?_);refine rq rfl rfl rfl rfl rfl ?_ (hp:=r0);refine ca ?_;refine a7 _ rfl (fun _=>?_) (fun e=>by cases e);refine w_5 ?_
  show HE _ _ _
  refine ck ?_;refine ⟨.inr rfl, ?_⟩
  have hc:x.opn = true ∨ x.done.length = 0:=by first | exact .inl (by assumption) | exact .inr (by omega)
  rw [show udE x = 16 from if_pos hc,show udS x = x from if_pos hc]
  exact ⟨_,_,rfl,(by (repeat' apply And.intro) <;> first | trivial | exact Nat.le_of_ble_eq_true rfl),CoR.refl _,⟨u9,u9,u9,u9,trivial⟩⟩
 have h0:=r0
 (iterate 2 refine qy ?_ (hg:=(gff r0)));refine w_2 ?_;refine a7 _ rfl (fun r1=>?_) (fun r1=>?_)
 ·
  have h1:=r1
  have h1:=bw r0 h1
  have h1:=ae h1
  try simp only [ty] at h1
  refine w_5 ?_
  show HE _ _ _
  refine ck ?_;refine ⟨.inr rfl, ?_⟩
  have hc:x.opn = true ∨ x.done.length = 0:=by first | exact .inl (by assumption) | exact .inr (by omega)
  rw [show udE x = 16 from if_pos hc,show udS x = x from if_pos hc]
  exact ⟨_,_,rfl,(by (repeat' apply And.intro) <;> first | trivial | exact Nat.le_of_ble_eq_true rfl),CoR.refl _,⟨u9,u9,u9,u9,trivial⟩⟩
 have h1:=r1
 have h1:=bw r0 h1
 have h1:=aa h1
 try simp only [ty] at h1
 refine qb ?_
 have hc2:=hc (by rintro (h | h) <;> first | (simp_all;done) | omega)
 refine abv ⟨[(0,some _),(3,some _),(4,some _)],[(1000,some _),(901,some _),(902,some _),(903,some _)]⟩ ⟨⟨c9,c9,c9,trivial⟩,⟨u9,u9,u9,u9,trivial⟩⟩ ?_;refine w_3 ?_
 refine al rfl rfl rfl rfl rfl rfl aaf (afb x (x.done.getD ((x.done.length:Int) - 1).toNat default) hd hc2.1 hc2.2) (bg.refl _) ⟨u9,u9,u9,u9,trivial⟩ rfl rfl ?_;refine w_2 ?_
 refine f4 1000 1 rfl rfl rfl rfl rfl ?_;refine ap (E:=au) a8 ag [0,2,3,4,5,6,7,8,9,10,11,12,13,14,15,16,17,18,19,20,1,21,22,23] ?_;refine wk ?_;refine m9 0 ?_
 refine ra 1 true rfl rfl rfl rfl rfl rfl ?_;refine w_8 ?_;refine ⟨by kernel_rfl, ?_⟩;refine w_5 ?_
 show HE _ _ _
 refine rn ⟨[(2,some _)],[(1000,some _),(902,some _),(903,some _)]⟩ ⟨⟨c9,trivial⟩,⟨u9,u9,u9,trivial⟩⟩ ?_
 refine ez 1000 1 901 false 1 23 (lf txC x.done) (by decide) rfl rfl (CoP.refl _) (.inl rfl) rfl rfl ?_;refine ck ?_;refine ⟨.inr rfl, ?_⟩
 have hc:¬ (x.opn = true ∨ x.done.length = 0):=by rintro (h | h) <;> first | (simp_all;done) | omega
 rw [show udE x = 0 from if_neg hc,show udS x = { x with db:=rvN x.db (x.done.getD ((x.done.length:Int) - 1).toNat default) (x.done.getD ((x.done.length:Int) - 1).toNat default).length,undone:=x.undone ++ [(x.done.getD ((x.done.length:Int) - 1).toNat default)],done:=x.done.take (x.done.length - 1) } from if_neg hc]
 have hlen:((x.done.length:Int) - 1).toNat = (x.done.take (x.done.length - 1)).length:=by rw [List.length_take];omega
 exact ⟨_,_,rfl,(by (repeat' apply And.intro) <;> first | trivial | exact Nat.le_of_ble_eq_true rfl),CoR.refl _,⟨⟨_,rfl,⟨CoH.refl _,congrArg (HV.ref 901) hlen,congrArg (HV.ref 902) (by simp),CoH.refl _,CoH.refl _,trivial⟩⟩,⟨_,rfl,⟨fun h=>h,rfl,rfl,hlen.symm,fun i j hi hj=>CoP.of_eq (a7u (by have hi:i < ((x.done.length:Int) - 1).toNat:=hi;omega))⟩⟩,⟨_,rfl,(kb _ (fun _=>rfl) rfl (jq (lt1 (CoP.refl _))))⟩,u9,trivial⟩⟩
theorem abi:am Tryz.prog 29:=wgx Tryz.func29
theorem afl (x:Str) (hd:dbV x.db) (hl:x.now.length ≤ 68719476736) (hr:x.opn = true → ∀ i,i < x.now.length → ua (rvN x.db x.now i) (x.now.getD (x.now.length - 1 - i) default)):br Tryz.prog 29 [.one (.ptr 1000 0)] x.objs (.v (.one (.p (.raw (.int .i64 (enE x)))))) (rbS x).objs [1000]:=by
 refine c8 (nt:=14) a8 Tryz.func29 rfl rfl l9 rfl ?_;refine pb ?_
 have hd2:dbV (enS x).db:=by unfold enS;split <;> exact hd
 have hl2:(enL x).length ≤ 68719476736:=by unfold enL;split <;> first | exact hl | exact Nat.zero_le _
 have hr2:∀ i,i < (enL x).length → ua (rvN (enS x).db (enL x) i) ((enL x).getD ((enL x).length - 1 - i) default):=by
  by_cases ho:x.opn = true
  · rw [show enL x = x.now from if_pos ho,show (enS x).db = x.db by rw [enS,if_pos ho]];exact hr ho
  rw [show enL x = [] from if_neg ho];intro i hi;exact absurd hi (Nat.not_lt_zero i)
 refine w_7 ?_;refine al rfl rfl rfl rfl rfl rfl aap (agn x) (bg.refl _) ⟨u9,u9,u9,u9,trivial⟩ rfl rfl ?_;refine dz ?_
 refine al rfl rfl rfl rfl rfl rfl aaf (afb (enS x) (enL x) hd2 hl2 hr2) (bg.refl _) ⟨u9,u9,u9,u9,trivial⟩ rfl rfl ?_;refine w_7 ?_
 show HE _ _ _
 refine ck ?_;refine ⟨.inr rfl, ?_⟩
 exact ⟨_,_,rfl,(by (repeat' apply And.intro) <;> first | trivial | exact Nat.le_of_ble_eq_true rfl),CoR.refl _,⟨u9,u9,u9,u9,trivial⟩⟩
end
section
theorem sx {α:Type} {p:α → Bool} {x:α} {l:List α}:idx p (x :: l) = if p x = true then 0 else if idx p l < 0 then -1 else idx p l + 1:=by
 unfold idx
 rw [List.findIdx?_cons]
 by_cases h:p x = true
 · simp [h]
 simp only [h,if_false]
 cases hf:l.findIdx? p with
 | none=>simp
 | some i =>
  simp
  omega
theorem z0 {α β:Type} {f:α → β} {q:β → Bool} {l:List α}:idx (fun x=>q (f x)) l = idx q (l.map f):=by
 induction l with
 | nil=>rfl
 | cons x l ih=>rw [List.map_cons,sx,sx,ih]
theorem aam {d d':DB} {s:ByteArray} (h:d'.map Tbl.name = d.map Tbl.name):bv d' s = bv d s:=by
 unfold bv
 rw [z0 (f:=Tbl.name) (q:=fun n=>decide (n = s)),z0 (f:=Tbl.name) (q:=fun n=>decide (n = s)) (l:=d),h]
theorem a9d {l l':List Row} {id:Int} (h:l'.map Row.id = l.map Row.id):aj l' id = aj l id:=by
 unfold aj
 rw [z0 (f:=Row.id) (q:=fun n=>decide (n = id)),z0 (f:=Row.id) (q:=fun n=>decide (n = id)) (l:=l),h]
theorem abf {d:DB} {i:Nat} {u:Tbl} (hi:i < d.length) (h:u.name = (d.getD i default).name):(d.set i u).map Tbl.name = d.map Tbl.name:=by
 apply List.ext_getElem?
 intro j
 rw [List.getElem?_map,List.getElem?_map,List.getElem?_set]
 split
 · rename_i e
   subst e
   rw [List.getElem?_eq_getElem hi]
   simp [h,List.getD,List.getElem?_eq_getElem hi]
 rfl
theorem a5z {r:Row}:∀ {l:List Row},(∀ x ∈ l,x.id ≠ r.id) → 0 ≤ aj (f6 r l) r.id ∧ (f6 r l).eraseIdx (aj (f6 r l) r.id).toNat = l ∧ (f6 r l).getD (aj (f6 r l) r.id).toNat default = r
 | [],_=>by simp [f6,aj,sx]
 | x :: l,h=>by
  simp only [f6]
  split
  · simp [aj,sx]
  have hx:¬ x.id = r.id:=h x (by simp)
  obtain ⟨h1,h2,h3⟩:=a5z (r:=r) (l:=l) fun y hy=>h y (by simp [hy])
  have e:aj (x :: f6 r l) r.id = aj (f6 r l) r.id + 1:=by
   unfold aj at *
   rw [sx,if_neg (by simpa using hx),if_neg (by omega)]
  rw [e]
  obtain ⟨k,hk⟩:=Int.eq_ofNat_of_zero_le h1
  rw [hk] at h2 h3 ⊢
  simp only [ty] at h2 h3
  have:((k:Int) + 1).toNat = k + 1:=by omega
  rw [this]
  refine ⟨by omega, ?_, ?_⟩
  · simp [h2]
  simpa using h3
theorem a6i:∀ {l:List Row} {k:Nat},ff l → k < l.length → f6 (l.getD k default) (l.eraseIdx k) = l
 | x :: l,0,hs,_=>by
  unfold ff at hs
  rw [List.pairwise_cons] at hs
  simp only [List.getD_cons_zero,List.eraseIdx_cons_zero]
  cases l with
  | nil=>rfl
  | cons y l=>simp only [f6];rw [if_pos (hs.1 y (by simp))]
 | x :: l,k + 1,hs,hk=>by
  unfold ff at hs
  rw [List.pairwise_cons] at hs
  have hk:k < l.length:=by simpa using hk
  simp only [List.getD_cons_succ,List.eraseIdx_cons_succ,f6]
  have:x.id < (l.getD k default).id:=by rw [cg _ _ hk];exact hs.1 _ (List.getElem_mem hk)
  rw [if_neg (by omega),a6i hs.2 hk]
theorem a6f:∀ {l:List Row} {k:Nat},ff l → k < l.length → ∀ x ∈ l.eraseIdx k,x.id ≠ (l.getD k default).id
 | y :: l,0,hs,_,x,hx=>by
  unfold ff at hs
  rw [List.pairwise_cons] at hs
  have:=hs.1 x (by simpa using hx)
  simp only [List.getD_cons_zero]
  omega
 | y :: l,k + 1,hs,hk,x,hx=>by
  unfold ff at hs
  rw [List.pairwise_cons] at hs
  have hk2:k < l.length:=by simpa using hk
  simp only [List.getD_cons_succ]
  simp only [List.eraseIdx_cons_succ,List.mem_cons] at hx
  rcases hx with rfl | hx
  · have:=hs.1 _ (List.getElem_mem hk2)
    rw [cg _ _ hk2]
    omega
  exact a6f hs.2 hk2 x hx
theorem acx {l:List Row} {id:Int} (h:∀ x ∈ l,x.id ≠ id):aj l id < 0:=by
 have:=tf (p:=fun r:Row=>decide (r.id = id)) (l:=l) (fun j hj=>by
  rw [cg _ _ hj]
  simpa using h _ (List.getElem_mem hj))
 unfold aj
 rw [this]
 omega
theorem a0p {α:Type} [Inhabited α] {l:List α} {i:Nat} (h:i < l.length):l.set i (l.getD i default) = l:=by
 rw [cg _ _ h]
 exact List.set_getElem_self h
theorem adn {a:Int} (h:0 ≤ a):max a 0 = a:=by omega
theorem adf {t:Tbl} {c:Chg} (hk:2 ≤ c.kind ∧ c.kind ≤ 4) (hT:TOk t) (h:fe t c = 0):fe (gc t c) (fd c) = 0 ∧ gc (gc t c) (fd c) = t ∧ (gc t c).name = t.name ∧ (c.kind = 4 → 0 ≤ c.attr ∧ c.attr < c.row.vals.length) ∧ c.row.vals.length = t.attrs.length ∧ c.row.vals.all d5 = true:=by
 have hV:TOk (gc t c):=aa4 h
 have hs:=fu hT.rs
 by_cases h2:c.kind = 2
 · rw [cE2 h2] at h
   obtain ⟨g1,g2,g3,g4,g5,g6⟩:=a4z h
   have hb:=a5z (r:=c.row) (l:=t.rows) (wq g5)
   have ht:gc t c = ⟨t.name,t.attrs,f6 c.row t.rows⟩:=by rw [cT2 h2,qr h]
   rw [ht] at hV ⊢
   have hki:(fd c).kind = 3:=by rw [xd h2]
   have hri:(fd c).row = c.row:=by rw [xd h2]
   have hd:d4 ⟨t.name,t.attrs,f6 c.row t.rows⟩ c.row.id = 0:=by
    unfold d4
    rw [ey.2 hV]
    simp [hb.1]
   refine ⟨?_, ?_,rfl,fun h4=>by omega,g2,g4⟩
   · rw [cE3 hki (by rw [hri];exact hb.1) (by rw [hri,adn hb.1];show ((f6 c.row t.rows).getD _ default).vals = _;rw [hb.2.2]),hri]
     exact hd
   rw [cT3 hki,hri,v6 hd]
   show (⟨t.name,t.attrs,(f6 c.row t.rows).eraseIdx _⟩:Tbl) = t
   rw [hb.2.1]
 unfold fe at h
 rw [if_neg h2] at h
 split at h
 · omega
 rename_i hr
 have hr:0 ≤ aj t.rows c.row.id:=by omega
 split at h
 · omega
 rename_i hv
 have hv:(t.rows.getD (max (aj t.rows c.row.id) 0).toNat default).vals = c.row.vals:=by simpa using hv
 have hat:=il hr
 have hrow:t.rows.getD (max (aj t.rows c.row.id) 0).toNat default = c.row:=(mo hr).2 hv
 have hw:=hT.width hat
 rw [adn hr] at hat hrow hw
 have hmem:=go hT.rs _ (List.getElem_mem hat)
 rw [← cg _ _ hat,hrow] at hmem
 rw [hrow] at hw
 split at h
 · rename_i h3
   have ht:gc t c = ⟨t.name,t.attrs,t.rows.eraseIdx (aj t.rows c.row.id).toNat⟩:=by rw [cT3 h3,v6 h]
   rw [ht] at hV ⊢
   have hki:(fd c).kind = 2:=by rw [xa h3]
   have hri:(fd c).row = c.row:=by rw [xa h3]
   have hnone:=a6f hs hat
   rw [hrow] at hnone
   have hlen:(t.rows.eraseIdx (aj t.rows c.row.id).toNat).length = t.rows.length - 1:=List.length_eraseIdx_of_lt hat
   have hnr:=hT.nr
   have hi:c5 ⟨t.name,t.attrs,t.rows.eraseIdx (aj t.rows c.row.id).toNat⟩ c.row = 0:=by
    unfold c5
    rw [if_neg (by rw [ey.2 hV];simp),if_neg (by show ¬ c.row.vals.length ≠ t.attrs.length;omega),if_neg (by rw [hmem.2.2];simp;exact hmem.1),if_neg (by have:=acx hnone;show ¬ 0 ≤ aj (t.rows.eraseIdx _) _;omega),if_neg (by show ¬ 1000 ≤ (t.rows.eraseIdx _).length;omega)]
   refine ⟨?_, ?_,rfl,fun h4=>by omega,hw,hmem.2.2⟩
   · rw [cE2 hki,hri];exact hi
   rw [cT2 hki,hri,qr hi]
   show (⟨t.name,t.attrs,f6 c.row (t.rows.eraseIdx _)⟩:Tbl) = t
   have:=a6i hs hat
   rw [hrow] at this
   rw [this]
 rename_i h3
 have h4:c.kind = 4:=by omega
 obtain ⟨g1,g2,g3,g4,g5⟩:=z8 h
 have ht:gc t c = ⟨t.name,t.attrs,fk t.rows (aj t.rows c.row.id).toNat c.attr.toNat c.value⟩:=by rw [cT4 h2 h3,xr h]
 rw [ht] at hV ⊢
 have hinv:=a06 h4
 have hki:(fd c).kind = 4:=by rw [hinv];exact h4
 have hix:aj (fk t.rows (aj t.rows c.row.id).toNat c.attr.toNat c.value) c.row.id = aj t.rows c.row.id:=a9d (a6k hat)
 have hid:(fd c).row.id = c.row.id:=by rw [hinv]
 have hget:(fk t.rows (aj t.rows c.row.id).toNat c.attr.toNat c.value).getD (aj t.rows c.row.id).toNat default = { c.row with vals:=c.row.vals.set c.attr.toNat c.value }:=by
  unfold fk
  rw [hrow]
  simp [List.getD,hat]
 have ha:c.attr.toNat < c.row.vals.length:=by omega
 have hold:d5 (c.row.vals.getD c.attr.toNat default) = true:=by
  rw [cg _ _ ha]
  exact List.all_eq_true.1 hmem.2.2 _ (List.getElem_mem ha)
 have hch:cn ⟨t.name,t.attrs,fk t.rows (aj t.rows c.row.id).toNat c.attr.toNat c.value⟩ c.row.id c.attr (c.row.vals.getD c.attr.toNat default) = 0:=by
  unfold cn
  rw [if_neg (by rw [ey.2 hV];simp),if_neg (by show ¬ ¬ 0 ≤ aj (fk _ _ _ _) _;rw [hix];omega),if_neg (by show ¬ (c.attr < 0 ∨ (t.attrs.length:Int) ≤ c.attr);omega),if_neg (by rw [hold];simp)]
 refine ⟨?_, ?_,rfl,fun _=>⟨g3,by omega⟩,hw,hmem.2.2⟩
 · rw [cEc (by omega) (by omega) (by rw [hid];show 0 ≤ aj (fk _ _ _ _) _;rw [hix];exact hr) (by
    rw [hid]
    show ((fk _ _ _ _).getD (max (aj (fk _ _ _ _) _) 0).toNat default).vals = _
    rw [hix,adn hr,hget,hinv]),hid,show (fd c).attr = c.attr by rw [hinv],show (fd c).value = c.row.vals.getD c.attr.toNat default by rw [hinv]]
   exact hch
 rw [cT4 (by omega) (by omega),hid,show (fd c).attr = c.attr by rw [hinv],show (fd c).value = c.row.vals.getD c.attr.toNat default by rw [hinv],xr hch]
 show (⟨t.name,t.attrs,fk (fk _ _ _ _) (aj (fk _ _ _ _) _).toNat _ _⟩:Tbl) = t
 rw [hix]
 have:fk (fk t.rows (aj t.rows c.row.id).toNat c.attr.toNat c.value) (aj t.rows c.row.id).toNat c.attr.toNat (c.row.vals.getD c.attr.toNat default) = t.rows:=by
  rw [show ∀ (A:List Row) (K a:Nat) (v:Val),fk A K a v = A.set K { A.getD K default with vals:=(A.getD K default).vals.set a v } from fun _ _ _ _=>rfl,hget]
  dsimp only
  rw [show ∀ (A:List Row) (K a:Nat) (v:Val),fk A K a v = A.set K { A.getD K default with vals:=(A.getD K default).vals.set a v } from fun _ _ _ _=>rfl,List.set_set,List.set_set,a0p ha]
  have:=a0p hat
  rw [hrow] at this
  exact this
 rw [this]
theorem a7y {d:DB} {c:Chg} (hd:dbV d) (h:ah d c = 0) (hc:c.ok):rvD (f8 d c) c = d ∧ ua (f8 d c) c:=by
 by_cases h1:c.kind = 1
 · rw [a8w h1,aD1 h h1]
   refine ⟨by simp,fun _=>by simp,hc.2.1.1,fun h4=>by omega, ?_⟩
   rw [a4y (by omega) (by omega) (by omega)]
   exact hc
 have hk:2 ≤ c.kind ∧ c.kind ≤ 4:=by
  by_cases hk:c.kind < 1 ∨ 4 < c.kind
  · rw [aE3 hk] at h;omega
  omega
 have hi:¬ bv d c.name < 0:=fun hi=>by rw [aE4 hk hi] at h;omega
 rw [aE5 hk hi] at h
 have hat:=pg hi
 obtain ⟨b1,b2,b3,b4,b5,b6⟩:=adf hk (hd.at hi) h
 have happ:f8 d c = d.set (bv d c.name).toNat (gc (aq d c.name) c):=aD2 (by rw [aE5 hk hi];exact h) h1 rfl
 have hnm:(d.set (bv d c.name).toNat (gc (aq d c.name) c)).map Tbl.name = d.map Tbl.name:=abf hat (by rw [b3];rfl)
 have hin:(fd c).name = c.name:=by
  unfold fd
  split
  · rfl
  split
  · rfl
  split <;> rfl
 have hik:2 ≤ (fd c).kind ∧ (fd c).kind ≤ 4:=by
  by_cases h2:c.kind = 2
  · rw [xd h2];simp
  by_cases h3:c.kind = 3
  · rw [xa h3];simp
  rw [a06 (by omega)];exact hk
 have hix:bv (d.set (bv d c.name).toNat (gc (aq d c.name) c)) (fd c).name = bv d c.name:=by rw [hin];exact aam hnm
 have hta:aq (d.set (bv d c.name).toNat (gc (aq d c.name) c)) (fd c).name = gc (aq d c.name) c:=by
  show (d.set (bv d c.name).toNat (gc (aq d c.name) c)).getD (bv (d.set (bv d c.name).toNat (gc (aq d c.name) c)) (fd c).name).toNat default = _
  rw [hix]
  simp [List.getD,hat]
 have he:ah (d.set (bv d c.name).toNat (gc (aq d c.name) c)) (fd c) = 0:=by
  rw [aE5 hik (by rw [hix];exact hi),hta]
  exact b1
 refine ⟨?_,fun h=>absurd h h1,hc.2.1.1,b4, ?_⟩
 · rw [a89 h1,happ,aD2 he (by omega) rfl,hix,hta,b2,List.set_set]
   exact a0p hat
 have hv:po (c.row.vals.set c.attr.toNat c.value):=fun j hj=>by
  rw [cg _ _ hj]
  rcases List.mem_or_eq_of_mem_set (List.getElem_mem hj) with h5 | h5
  · obtain ⟨k,hk',e⟩:=List.getElem_of_mem h5
    rw [← e,← cg _ _ hk']
    exact hc.2.1.2 k hk'
  rw [h5];exact hc.2.2
 by_cases h2:c.kind = 2
 · rw [xd h2];exact hc
 by_cases h3:c.kind = 3
 · rw [xa h3];exact hc
 have h4:c.kind = 4:=by omega
 obtain ⟨q1,q2⟩:=b4 h4
 rw [a06 h4]
 exact ⟨hc.1,⟨by show (List.set _ _ _).length ≤ _;rw [List.length_set];exact hc.2.1.1,hv⟩,hc.2.1.2 _ (by omega)⟩
end
section
def a9 (s:Stt):Str:=⟨bm s,s.done,s.undone,s.opn,s.now⟩
def dxE (x:Str) (o:Opn):Int :=
 let k:=o.kind.toNat % 9
 if k = 0 then ah x.db (k6 (ep o))
 else if k = 1 then ah x.db (fl 2 (bf o) (ec o))
 else if k = 2 then dlE x (bf o) o.id
 else if k = 3 then cgE x (bf o) o.id o.attr (ofV o.value)
 else if k = 4 then bgE x
 else if k = 5 then enE x
 else if k = 6 then enE x
 else if k = 7 then udE x
 else rdE x
def dxS (x:Str) (o:Opn):Str :=
 let k:=o.kind.toNat % 9
 if k = 0 then pfS x (k6 (ep o))
 else if k = 1 then pfS x (fl 2 (bf o) (ec o))
 else if k = 2 then dlS x (bf o) o.id
 else if k = 3 then cgS x (bf o) o.id o.attr (ofV o.value)
 else if k = 4 then bgS x
 else if k = 5 then cmS (enS x) (enL x)
 else if k = 6 then rbS x
 else if k = 7 then udS x
 else rdS x
structure Sim (n:Nat) (s:Stt):Prop where
 ch:ed [] (s.done.flatten ++ s.undone.reverse.flatten) = 0
 nw:ed [] (s.done.flatten ++ s.now) = 0
 no:s.opn = false → s.now = []
 ok1:∀ c ∈ s.done.flatten,c.ok
 ok2:∀ c ∈ s.undone.flatten,c.ok
 ok3:∀ c ∈ s.now,c.ok
 n1:s.done.flatten.length + s.undone.flatten.length + s.now.length ≤ n
 n2:s.done.length + s.undone.length ≤ n
theorem a86:Sim 0 default:=⟨rfl,rfl,(fun _=>rfl),(fun c h=>by cases h),(fun c h=>by cases h),(fun c h=>by cases h),Nat.le_refl _,Nat.le_refl _⟩
theorem jd (d:DB):∀ (a b:List Chg),gd d (a ++ b) = gd (gd d a) b
 | [],b=>rfl
 | c :: a,b=>jd (f8 d c) a b
theorem n4 {d:DB} (h:dbV d):∀ (l:List Chg),dbV (gd d l)
 | []=>h
 | c :: l=>n4 (a1m h) l
theorem ng {d:DB} {c:Chg} {l:List Chg}:ed d (c :: l) = 0 ↔ ah d c = 0 ∧ ed (f8 d c) l = 0:=by
 simp only [ed]
 split
 · rename_i h;exact ⟨fun e=>absurd e h,fun e=>absurd e.1 h⟩
 rename_i h;exact ⟨fun e=>⟨by omega,e⟩,fun e=>e.2⟩
theorem ju {d:DB}:∀ {a b:List Chg},ed d (a ++ b) = 0 ↔ ed d a = 0 ∧ ed (gd d a) b = 0
 | [],b=>⟨fun h=>⟨rfl,h⟩,fun h=>h.2⟩
 | c :: a,b=>by
  rw [List.cons_append,ng,ng,ju (a:=a)]
  exact ⟨fun h=>⟨⟨h.1,h.2.1⟩,h.2.2⟩,fun h=>⟨h.1.1,h.1.2,h.2⟩⟩
theorem od:∀ {l:List Chg} {d:DB},ed d l = 0 → gu d l = gd d l
 | [],d,_=>rfl
 | c :: l,d,h=>by
  obtain ⟨h1,h2⟩:=ng.1 h
  simp only [gu]
  rw [if_neg (by omega),od h2]
  rfl
theorem a7t {d:DB} {l:List Chg} (h:ed d l = 0) {j:Nat} (hj:j < l.length):ah (gd d (l.take j)) (l.getD j default) = 0:=by
 have e:l = l.take j ++ l.getD j default :: l.drop (j + 1):=by
  rw [cg _ _ hj]
  have:=List.take_append_drop j l
  rw [List.drop_eq_getElem_cons hj] at this
  exact this.symm
 rw [e] at h
 exact (ng.1 (ju.1 h).2).1
theorem take_succ {l:List Chg} {j:Nat} (hj:j < l.length):l.take (j + 1) = l.take j ++ [l.getD j default]:=by
 rw [cg _ _ hj,List.take_succ,List.getElem?_eq_getElem hj]
 rfl
theorem a0v {d:DB} {l:List Chg} (hd:dbV d) (h:ed d l = 0) (hok:∀ c ∈ l,c.ok):∀ i,i ≤ l.length → rvN (gd d l) l i = gd d (l.take (l.length - i))
 | 0,_=>by simp [rvN]
 | i + 1,hi=>by
  simp only [rvN]
  rw [a0v hd h hok i (by omega)]
  have hj:l.length - 1 - i < l.length:=by omega
  rw [show l.length - i = (l.length - 1 - i) + 1 by omega,take_succ hj,jd]
  have hc:(l.getD (l.length - 1 - i) default).ok:=by
   rw [cg _ _ hj];exact hok _ (List.getElem_mem hj)
  rw [show l.length - (i + 1) = l.length - 1 - i by omega]
  exact (a7y (n4 hd _) (a7t h hj) hc).1
theorem aay {d:DB} {l:List Chg} (hd:dbV d) (h:ed d l = 0) (hok:∀ c ∈ l,c.ok) {i:Nat} (hi:i < l.length):ua (rvN (gd d l) l i) (l.getD (l.length - 1 - i) default):=by
 rw [a0v hd h hok i (by omega)]
 have hj:l.length - 1 - i < l.length:=by omega
 rw [show l.length - i = (l.length - 1 - i) + 1 by omega,take_succ hj,jd]
 have hc:(l.getD (l.length - 1 - i) default).ok:=by
  rw [cg _ _ hj];exact hok _ (List.getElem_mem hj)
 exact (a7y (n4 hd _) (a7t h hj) hc).2
theorem a7p {d:DB} {l:List Chg} (hd:dbV d) (h:ed d l = 0) (hok:∀ c ∈ l,c.ok):rvN (gd d l) l l.length = d:=by
 rw [a0v hd h hok _ (Nat.le_refl _)]
 simp [gd]
section
variable {n:Nat} {s:Stt} {o:Opn}
theorem Sim.db (h:Sim n s):bm s = gd [] (s.done.flatten ++ s.now):=od h.nw
theorem Sim.dbV (h:Sim n s):dbV (bm s):=by rw [h.db];exact n4 my _
theorem Sim.jok (h:Sim n s):j8 (jr s):=by
 intro j hj
 rw [cg _ _ hj]
 rcases List.mem_append.1 (List.getElem_mem hj) with h1 | h1
 · exact h.ok1 _ h1
 exact h.ok3 _ h1
theorem Sim.st (h:Sim n s) (hn:n ≤ 68719476736):a0b s:=⟨by have:=h.n1;omega,by have:=h.n1;omega,by have:=h.n2;omega,by have:=h.n2;omega,h.jok⟩
theorem Sim.sok (h:Sim n s) (hn:n ≤ 68719476736):SOk (a9 s):=⟨h.dbV,by have:=h.n2;show s.done.length ≤ _;omega,by have:=h.n1;show s.now.length ≤ _;omega⟩
theorem Sim.mono {m:Nat} (h:Sim n s) (hm:n ≤ m):Sim m s:=⟨h.ch,h.nw,h.no,h.ok1,h.ok2,h.ok3,Nat.le_trans h.n1 hm,Nat.le_trans h.n2 hm⟩
theorem a71 {v:Val} (h:v.str.size ≤ 200):v.ok:=by unfold Val.ok;omega
theorem af9 (k:Int):(ofI k).ok:=by
 unfold ofI
 repeat' split
 all_goals exact a71 l9
theorem a24 (c:UInt8):(ofV c).ok:=af9 _
theorem a7b:(default:Val).ok:=Nat.zero_le _
theorem a7e:(default:Row).ok:=⟨Nat.zero_le _,fun j hj=>by cases hj⟩
theorem a81:(default:Tbl).ok:=⟨Nat.zero_le _,Nat.zero_le _,fun j hj=>by cases hj⟩
theorem lc (ho:gw o):(ec o).ok:=by
 refine ⟨by show (o.vals.map ofV).length ≤ _;rw [List.length_map];exact ho.lv,fun j hj=>?_⟩
 have hj:j < (o.vals.map ofV).length:=hj
 rw [List.length_map] at hj
 show ((o.vals.map ofV).getD j default).ok
 rw [a10 _ _ _ hj]
 exact a24 _
theorem a77 {l:List UInt8} {n:Nat}:po (ge l n):=by
 intro j hj
 rw [a15] at hj
 unfold ge
 rw [n7 _ _ _ hj]
 exact a24 _
theorem ku (ho:gw o):(ep o).ok:=by
 refine ⟨?_, ?_,fun j hj=>?_⟩
 · show (ij.take _).length ≤ _
   rw [List.length_take]
   show min _ 8 ≤ _
   omega
 · show (dg o.t _).length ≤ _
   rw [a1i];exact ho.lr
 have hj:j < (dg o.t (o.t.attrs.toNat % 4)).length:=hj
 rw [a1i] at hj
 show ((dg o.t (o.t.attrs.toNat % 4)).getD j default).ok
 unfold dg
 rw [n7 _ _ _ hj]
 exact ⟨by show (ge _ _).length ≤ _;rw [a15];omega,a77⟩
theorem yx {t:Tbl} (h:t.ok):(k6 t).ok:=⟨h,a7e,a7b⟩
theorem oc {k:Int} {nm:ByteArray} {r:Row} (h:r.ok):(fl k nm r).ok:=⟨a81,h,a7b⟩
theorem a7w {nm:ByteArray} {r:Row} {a:Int} {v:Val} (h:r.ok) (hv:v.ok):(j2 nm r a v).ok:=⟨a81,h,hv⟩
theorem xl {d:DB} (hd:dbV d) {nm:ByteArray} {id:Int}:(bfR d nm id).ok:=by
 unfold bfR
 split
 · rename_i h
   unfold bfE at h
   split at h
   · omega
   rename_i h1
   split at h
   · omega
   rename_i h2
   exact (hd.at h1).ok.2.2 _ (il (by omega))
 exact a7e
theorem a08 {d:DB} {nm:ByteArray} (h:¬ bv d nm < 0):(aq d nm).name = nm:=by
 have:=(a5b (p:=fun t:Tbl=>decide (t.name = nm)) (l:=d) (by unfold bv at h;omega)).2
 simpa [aq,bv] using this
theorem ad6 {t:Tbl} (hT:TOk t) {nm:ByteArray} {id a:Int} {v:Val} (hr:0 ≤ aj t.rows id):fe t (j2 nm (t.rows.getD (max (aj t.rows id) 0).toNat default) a v) = cn t id a v:=by
 have hid:=a66 hr
 rw [cEc (by show ¬ (4:Int) = 2;omega) (by show ¬ (4:Int) = 3;omega) (by show 0 ≤ aj t.rows (t.rows.getD _ default).id;rw [hid];exact hr) (by show (t.rows.getD (max (aj t.rows (t.rows.getD _ default).id) 0).toNat default).vals = _;rw [hid];rfl)]
 show cn t (t.rows.getD _ default).id a v = _
 rw [hid]
theorem ac4 {t:Tbl} (hT:TOk t) {nm:ByteArray} {id:Int} (hr:0 ≤ aj t.rows id):fe t (fl 3 nm (t.rows.getD (max (aj t.rows id) 0).toNat default)) = 0:=by
 have hid:=a66 hr
 rw [cE3 rfl (by show 0 ≤ aj t.rows (t.rows.getD _ default).id;rw [hid];exact hr) (by show (t.rows.getD (max (aj t.rows (t.rows.getD _ default).id) 0).toNat default).vals = _;rw [hid];rfl)]
 show d4 t (t.rows.getD _ default).id = 0
 rw [hid]
 unfold d4
 rw [if_neg (by rw [ey.2 hT];simp),if_pos hr]
theorem ae6 (h:Sim n s) {c:Chg} (hc:c.ok) (he:ah (bm s) c = 0):pfS (a9 s) c = a9 (tp s c) ∧ Sim (n + 1) (tp s c):=by
 have hrep:ed [] (s.done.flatten ++ (s.now ++ [c])) = 0:=by
  rw [← List.append_assoc]
  refine ju.2 ⟨h.nw,ng.2 ⟨by rw [← h.db];exact he,rfl⟩⟩
 have hdb:f8 (bm s) c = gu [] (s.done.flatten ++ (s.now ++ [c])):=by
  rw [od hrep,← List.append_assoc,jd,← h.db]
  rfl
 have n1:=h.n1
 have n2:=h.n2
 by_cases ho:s.opn = true
 · have e:tp s c = { s with now:=s.now ++ [c] }:=if_pos ho
   rw [e]
   refine ⟨?_,⟨h.ch,hrep,(fun hf=>by rw [ho] at hf;cases hf),h.ok1,h.ok2,fun q hq=>?_, ?_,Nat.le_trans n2 (Nat.le_succ n)⟩⟩
   · unfold pfS
     rw [if_neg (by show ¬ ah (bm s) c ≠ 0;omega),if_pos (show (a9 s).opn = true from ho)]
     unfold a9
     rw [hdb]
     rfl
   · rcases List.mem_append.1 hq with hq | hq
     · exact h.ok3 q hq
     rw [List.mem_singleton.1 hq];exact hc
   show _ + (s.now ++ [c]).length ≤ _
   rw [List.length_append]
   simp only [List.length_singleton]
   omega
 have hnow:s.now = []:=h.no (by simpa using ho)
 have e:tp s c = ⟨s.done ++ [[c]],[],false,[]⟩:=by rw [tp,if_neg ho,o4,if_neg (by simp)]
 have hfl:(s.done ++ [[c]]).flatten = s.done.flatten ++ [c]:=by simp
 rw [hnow,List.nil_append] at hrep hdb
 rw [e]
 refine ⟨?_,⟨?_, ?_,fun _=>rfl, ?_,(fun q hq=>by cases hq),(fun q hq=>by cases hq), ?_, ?_⟩⟩
 · unfold pfS
   rw [if_neg (by show ¬ ah (bm s) c ≠ 0;omega),if_neg (show ¬ (a9 s).opn = true from ho),cmS,if_neg (by simp)]
   have ho':s.opn = false:=by simpa using ho
   show (⟨f8 (bm s) c,s.done ++ [[c]],[],s.opn,s.now⟩:Str) = ⟨gu [] ((s.done ++ [[c]]).flatten ++ []),s.done ++ [[c]],[],false,[]⟩
   rw [hfl,List.append_nil,← hdb,hnow,ho']
 · show ed [] ((s.done ++ [[c]]).flatten ++ [].reverse.flatten) = 0
   simpa [hfl] using hrep
 · show ed [] ((s.done ++ [[c]]).flatten ++ []) = 0
   simpa [hfl] using hrep
 · intro q hq
   have hq:q ∈ (s.done ++ [[c]]).flatten:=hq
   rw [hfl] at hq
   rcases List.mem_append.1 hq with hq | hq
   · exact h.ok1 q hq
   rw [List.mem_singleton.1 hq];exact hc
 · show (s.done ++ [[c]]).flatten.length + ([]:List (List Chg)).flatten.length + ([]:List Chg).length ≤ n + 1
   rw [hfl,List.length_append]
   simp only [List.length_singleton,List.flatten_nil,List.length_nil]
   omega
 show (s.done ++ [[c]]).length + 0 ≤ n + 1
 simp
 omega
theorem aes {x:Str} {c:Chg} (h:ah x.db c ≠ 0):pfS x c = x:=if_pos h
end
end
section
section
variable {n:Nat} {s:Stt} {o:Opn}
theorem kc:(a9 s).db = bm s:=rfl
theorem a0w {c:Chg} (h:¬ c.kind = 4):m8 c = false:=by simp [m8,h]
theorem ye (h:Sim n s) {c:Chg} (h4:¬ o.kind.toNat % 9 = 4) (h5:¬ o.kind.toNat % 9 = 5) (h6:¬ o.kind.toNat % 9 = 6) (h7:¬ o.kind.toNat % 9 = 7) (h8:¬ o.kind.toNat % 9 = 8)
 (he:ah (bm s) c = eq s o) (hc:eq s o = 0 → gr s o = c ∧ m8 c = false ∧ c.ok):ah (bm s) c = doE s o ∧ pfS (a9 s) c = a9 (doS s o) ∧ Sim (n + 1) (doS s o):=by
 rw [a0k h4 h5 h6 h7 h8]
 refine ⟨he, ?_⟩
 by_cases h0:eq s o = 0
 · obtain ⟨e1,e2,e3⟩:=hc h0
   rw [(adm h4 h5 h6 h7 h8 h0 (by rw [e1];exact e2)).1,e1]
   exact ae6 h e3 (by rw [he];exact h0)
 rw [(doc h4 h5 h6 h7 h8 h0).1]
 exact ⟨aes (by rw [kc,he];exact h0),h.mono (Nat.le_succ n)⟩
theorem aiz (h:Sim n s) (ho:gw o) (hk:o.kind.toNat % 9 = 0):dxE (a9 s) o = doE s o ∧ dxS (a9 s) o = a9 (doS s o) ∧ Sim (n + 1) (doS s o):=by
 have e1:dxE (a9 s) o = ah (bm s) (k6 (ep o)):=by simp [dxE,hk,a9]
 have e2:dxS (a9 s) o = pfS (a9 s) (k6 (ep o)):=by simp [dxS,hk]
 rw [e1,e2]
 obtain ⟨q1,q2⟩:=a90 (s:=s) hk
 refine ye h (by omega) (by omega) (by omega) (by omega) (by omega) ?_ (fun _=>⟨?_,a0w (by show ¬ (1:Int) = 4;omega),yx (ku ho)⟩)
 · rw [q2,aE2 rfl rfl];rfl
 rw [q1];rfl
theorem aiy (h:Sim n s) (ho:gw o) (hk:o.kind.toNat % 9 = 1):dxE (a9 s) o = doE s o ∧ dxS (a9 s) o = a9 (doS s o) ∧ Sim (n + 1) (doS s o):=by
 have e1:dxE (a9 s) o = ah (bm s) (fl 2 (bf o) (ec o)):=by simp [dxE,hk,a9]
 have e2:dxS (a9 s) o = pfS (a9 s) (fl 2 (bf o) (ec o)):=by simp [dxS,hk]
 rw [e1,e2]
 have hk2:2 ≤ (fl 2 (bf o) (ec o)).kind ∧ (fl 2 (bf o) (ec o)).kind ≤ 4:=by show (2:Int) ≤ 2 ∧ (2:Int) ≤ 4;omega
 by_cases hi:bv (bm s) (bf o) < 0
 · obtain ⟨q1,q2⟩:=a1j (s:=s) (x:=o) (by omega) hi
   exact ye h (by omega) (by omega) (by omega) (by omega) (by omega) (by rw [q2];exact aE4 hk2 hi) (fun h0=>by omega)
 obtain ⟨q1,q2⟩:=a8k (s:=s) hk hi
 refine ye h (by omega) (by omega) (by omega) (by omega) (by omega) ?_ (fun _=>⟨?_,a0w (by show ¬ (2:Int) = 4;omega),oc (lc ho)⟩)
 · rw [q2,aE5 hk2 hi,cE2 rfl];rfl
 rw [q1,a08 hi];rfl
theorem aih (h:Sim n s) (ho:gw o) (hk:o.kind.toNat % 9 = 2):dxE (a9 s) o = doE s o ∧ dxS (a9 s) o = a9 (doS s o) ∧ Sim (n + 1) (doS s o):=by
 have e1:dxE (a9 s) o = dlE (a9 s) (bf o) o.id:=by simp [dxE,hk]
 have e2:dxS (a9 s) o = dlS (a9 s) (bf o) o.id:=by simp [dxS,hk]
 rw [e1,e2]
 have bad:eq s o = 4 → bfE (bm s) (bf o) o.id = 4 → dlE (a9 s) (bf o) o.id = doE s o ∧ dlS (a9 s) (bf o) o.id = a9 (doS s o) ∧ Sim (n + 1) (doS s o):=fun q b=>by
  have hne:¬ eq s o = 0:=by omega
  rw [(doc (by omega) (by omega) (by omega) (by omega) (by omega) hne).1,(doc (by omega) (by omega) (by omega) (by omega) (by omega) hne).2,q]
  exact ⟨by rw [dlE,if_pos (by rw [kc,b];omega),kc,b],by rw [dlS,if_pos (by rw [kc,b];omega)],h.mono (Nat.le_succ n)⟩
 by_cases hi:bv (bm s) (bf o) < 0
 · exact bad (a1j (s:=s) (x:=o) (by omega) hi).2 (bf4 (.inl hi)).1
 by_cases hr:0 ≤ aj (aq (bm s) (bf o)).rows o.id
 · obtain ⟨b1,b2⟩:=bf0 hi hr
   obtain ⟨q1,q2⟩:=a9a (s:=s) hk hi hr
   have hk3:2 ≤ (fl 3 (bf o) (bfR (bm s) (bf o) o.id)).kind ∧ (fl 3 (bf o) (bfR (bm s) (bf o) o.id)).kind ≤ 4:=by show (2:Int) ≤ 3 ∧ (3:Int) ≤ 4;omega
   rw [dlE,if_neg (by rw [kc,b1];omega),dlS,if_neg (by rw [kc,b1];omega),kc]
   refine ye h (by omega) (by omega) (by omega) (by omega) (by omega) ?_ (fun _=>⟨?_,a0w (by show ¬ (3:Int) = 4;omega),oc (xl h.dbV)⟩)
   · rw [q2,aE5 hk3 hi]
     show fe (aq (bm s) (bf o)) (fl 3 (bf o) _) = 0
     rw [b2]
     exact ac4 (h.dbV.at hi) hr
   rw [q1,a08 hi,b2];rfl
 exact bad (a4f (s:=s) (x:=o) (by omega) (by omega) hi hr).2 (bf4 (.inr hr)).1
theorem ahx (h:Sim n s) (ho:gw o) (hk:o.kind.toNat % 9 = 3):dxE (a9 s) o = doE s o ∧ dxS (a9 s) o = a9 (doS s o) ∧ Sim (n + 1) (doS s o):=by
 have e1:dxE (a9 s) o = cgE (a9 s) (bf o) o.id o.attr (ofV o.value):=by simp [dxE,hk]
 have e2:dxS (a9 s) o = cgS (a9 s) (bf o) o.id o.attr (ofV o.value):=by simp [dxS,hk]
 rw [e1,e2]
 have bad:eq s o = 4 → bfE (bm s) (bf o) o.id = 4 → cgE (a9 s) (bf o) o.id o.attr (ofV o.value) = doE s o ∧ cgS (a9 s) (bf o) o.id o.attr (ofV o.value) = a9 (doS s o) ∧ Sim (n + 1) (doS s o):=fun q b=>by
  have hne:¬ eq s o = 0:=by omega
  rw [(doc (by omega) (by omega) (by omega) (by omega) (by omega) hne).1,(doc (by omega) (by omega) (by omega) (by omega) (by omega) hne).2,q]
  exact ⟨by rw [cgE,if_pos (by rw [kc,b];omega),kc,b],by rw [cgS,if_pos (by rw [kc,b];omega)],h.mono (Nat.le_succ n)⟩
 by_cases hi:bv (bm s) (bf o) < 0
 · exact bad (a1j (s:=s) (x:=o) (by omega) hi).2 (bf4 (.inl hi)).1
 by_cases hr:0 ≤ aj (aq (bm s) (bf o)).rows o.id
 · obtain ⟨b1,b2⟩:=bf0 hi hr
   obtain ⟨q1,q2⟩:=a8q (s:=s) (x:=o) (by omega) (by omega) (by omega) hi hr
   have hT:=h.dbV.at hi
   have hwid:=hT.width (il hr)
   rw [← b2] at hwid
   have c1:cgE (a9 s) (bf o) o.id o.attr (ofV o.value) = if ja (bfR (bm s) (bf o) o.id) o.attr (ofV o.value) = true then 0 else ah (bm s) (j2 (bf o) (bfR (bm s) (bf o) o.id) o.attr (ofV o.value)):=if_neg (by rw [kc,b1];omega)
   have c2:cgS (a9 s) (bf o) o.id o.attr (ofV o.value) = if ja (bfR (bm s) (bf o) o.id) o.attr (ofV o.value) = true then a9 s else pfS (a9 s) (j2 (bf o) (bfR (bm s) (bf o) o.id) o.attr (ofV o.value)):=if_neg (by rw [kc,b1];omega)
   rw [c1,c2]
   by_cases hs:ja (bfR (bm s) (bf o) o.id) o.attr (ofV o.value) = true
   · rw [if_pos hs,if_pos hs]
     simp only [ja,Bool.and_eq_true,decide_eq_true_eq] at hs
     obtain ⟨⟨⟨s1,s2⟩,s3⟩,s4⟩:=hs
     have h0:eq s o = 0:=by
      rw [q2]
      unfold cn
      rw [if_neg (by rw [ey.2 hT];simp),if_neg (by simpa using hr),if_neg (by omega),if_neg (by rw [s3];simp)]
     have hsm:m8 (gr s o) = true:=by
      rw [q1,← b2]
      show (decide ((4:Int) = 4) && decide ((bfR (bm s) (bf o) o.id).vals.getD o.attr.toNat default = ofV o.value)) = true
      rw [decide_eq_true s4];rfl
     rw [(acr (by omega) (by omega) (by omega) (by omega) (by omega) h0 hsm).1,(acr (by omega) (by omega) (by omega) (by omega) (by omega) h0 hsm).2]
     exact ⟨rfl,rfl,h.mono (Nat.le_succ n)⟩
   rw [if_neg hs,if_neg hs]
   have hk4:2 ≤ (j2 (bf o) (bfR (bm s) (bf o) o.id) o.attr (ofV o.value)).kind ∧ (j2 (bf o) (bfR (bm s) (bf o) o.id) o.attr (ofV o.value)).kind ≤ 4:=by show (2:Int) ≤ 4 ∧ (4:Int) ≤ 4;omega
   refine ye h (by omega) (by omega) (by omega) (by omega) (by omega) ?_ (fun h0=>⟨?_, ?_,a7w (xl h.dbV) (a24 _)⟩)
   · rw [q2,aE5 hk4 hi]
     show fe (aq (bm s) (bf o)) (j2 (bf o) _ _ _) = _
     rw [b2]
     exact ad6 hT hr
   · rw [q1,a08 hi,b2];rfl
   rw [q2] at h0
   obtain ⟨_,_,g3,g4,g5⟩:=z8 h0
   have:¬ (bfR (bm s) (bf o) o.id).vals.getD o.attr.toNat default = ofV o.value:=fun e=>hs (by
    simp only [ja,Bool.and_eq_true,decide_eq_true_eq]
    exact ⟨⟨⟨g3,by omega⟩,g5⟩,e⟩)
   show (decide ((4:Int) = 4) && decide ((bfR (bm s) (bf o) o.id).vals.getD o.attr.toNat default = ofV o.value)) = false
   rw [decide_eq_false this];rfl
 exact bad (a4f (s:=s) (x:=o) (by omega) (by omega) hi hr).2 (bf4 (.inr hr)).1
theorem aj9 (h:Sim n s) (hk:o.kind.toNat % 9 = 4):dxE (a9 s) o = doE s o ∧ dxS (a9 s) o = a9 (doS s o) ∧ Sim (n + 1) (doS s o):=by
 have e1:dxE (a9 s) o = bgE (a9 s):=by simp [dxE,hk]
 have e2:dxS (a9 s) o = bgS (a9 s):=by simp [dxS,hk]
 rw [e1,e2]
 by_cases hop:s.opn = true
 · rw [(acw hk hop).1,(acw hk hop).2]
   exact ⟨if_pos hop,if_pos hop,h.mono (Nat.le_succ n)⟩
 have hof:s.opn = false:=by simpa using hop
 rw [(do4 hk hof).1,(do4 hk hof).2]
 refine ⟨if_neg hop,if_neg hop,⟨h.ch,h.nw,fun hf=>(by cases hf),h.ok1,h.ok2,h.ok3,by have:=h.n1;exact Nat.le_succ_of_le this,by have:=h.n2;exact Nat.le_succ_of_le this⟩⟩
theorem aet (h:Sim n s) (hop:s.opn = true):cmS (enS (a9 s)) (enL (a9 s)) = a9 (o4 { s with opn:=false,now:=[] } s.now) ∧ Sim (n + 1) (o4 { s with opn:=false,now:=[] } s.now):=by
 have n1:=h.n1
 have n2:=h.n2
 have e1:enS (a9 s) = { a9 s with opn:=false,now:=[] }:=if_pos hop
 have e2:enL (a9 s) = s.now:=if_pos hop
 rw [e1,e2]
 by_cases hz:s.now.length = 0
 · have hz':s.now = []:=List.eq_nil_of_length_eq_zero hz
   rw [cmS,if_pos hz,o4,if_pos hz]
   refine ⟨?_,⟨h.ch,by have:=h.nw;rw [hz'] at this;exact this,fun _=>rfl,h.ok1,h.ok2,fun q hq=>(by cases hq),by show s.done.flatten.length + s.undone.flatten.length + 0 ≤ n + 1;omega,by show s.done.length + s.undone.length ≤ n + 1;omega⟩⟩
   unfold a9 bm jr
   rw [hz']
 have hfl:(s.done ++ [s.now]).flatten = s.done.flatten ++ s.now:=by simp
 rw [cmS,if_neg hz,o4,if_neg hz]
 refine ⟨?_,⟨?_, ?_,fun _=>rfl, ?_,fun q hq=>(by cases hq),fun q hq=>(by cases hq), ?_, ?_⟩⟩
 · unfold a9 bm jr
   simp only [hfl,List.append_nil]
 · show ed [] ((s.done ++ [s.now]).flatten ++ [].reverse.flatten) = 0
   rw [hfl];simpa using h.nw
 · show ed [] ((s.done ++ [s.now]).flatten ++ []) = 0
   rw [hfl];simpa using h.nw
 · intro q hq
   have hq:q ∈ (s.done ++ [s.now]).flatten:=hq
   rw [hfl] at hq
   rcases List.mem_append.1 hq with hq | hq
   · exact h.ok1 q hq
   exact h.ok3 q hq
 · show (s.done ++ [s.now]).flatten.length + 0 + 0 ≤ n + 1
   rw [hfl,List.length_append]
   omega
 show (s.done ++ [s.now]).length + 0 ≤ n + 1
 rw [List.length_append]
 simp only [List.length_singleton]
 omega
theorem ahz (h:Sim n s) (hk:o.kind.toNat % 9 = 5):dxE (a9 s) o = doE s o ∧ dxS (a9 s) o = a9 (doS s o) ∧ Sim (n + 1) (doS s o):=by
 have e1:dxE (a9 s) o = enE (a9 s):=by simp [dxE,hk]
 have e2:dxS (a9 s) o = cmS (enS (a9 s)) (enL (a9 s)):=by simp [dxS,hk]
 rw [e1,e2]
 by_cases hop:s.opn = true
 · rw [(do5 hk hop).1,(do5 hk hop).2]
   exact ⟨if_pos hop,aet h hop⟩
 have hof:s.opn = false:=by simpa using hop
 rw [(ad4 hk hof).1,(ad4 hk hof).2]
 refine ⟨if_neg hop, ?_,h.mono (Nat.le_succ n)⟩
 rw [show enS (a9 s) = a9 s from if_neg hop,show enL (a9 s) = [] from if_neg hop]
 rfl
theorem agj (h:Sim n s) (hop:s.opn = true):rbS (a9 s) = a9 { s with opn:=false,now:=[] } ∧ Sim (n + 1) { s with opn:=false,now:=[] }:=by
 have n1:=h.n1
 have n2:=h.n2
 obtain ⟨w1,w2⟩:=ju.1 h.nw
 have e1:enS (a9 s) = { a9 s with opn:=false,now:=[] }:=if_pos hop
 have e2:enL (a9 s) = s.now:=if_pos hop
 refine ⟨?_,⟨h.ch,by show ed [] (s.done.flatten ++ []) = 0;rw [List.append_nil];exact w1,fun _=>rfl,h.ok1,h.ok2,fun q hq=>(by cases hq),by show s.done.flatten.length + s.undone.flatten.length + 0 ≤ n + 1;omega,by show s.done.length + s.undone.length ≤ n + 1;omega⟩⟩
 rw [rbS,e1,e2]
 have hdb:rvN (bm s) s.now s.now.length = gu [] (s.done.flatten ++ []):=by
  rw [h.db,jd,a7p (n4 my _) w2 h.ok3,List.append_nil,od w1]
 show (⟨rvN (bm s) s.now s.now.length,s.done,s.undone,false,[]⟩:Str) = ⟨gu [] (s.done.flatten ++ []),s.done,s.undone,false,[]⟩
 rw [hdb]
theorem aiw (h:Sim n s) (hk:o.kind.toNat % 9 = 6):dxE (a9 s) o = doE s o ∧ dxS (a9 s) o = a9 (doS s o) ∧ Sim (n + 1) (doS s o):=by
 have e1:dxE (a9 s) o = enE (a9 s):=by simp [dxE,hk]
 have e2:dxS (a9 s) o = rbS (a9 s):=by simp [dxS,hk]
 rw [e1,e2]
 by_cases hop:s.opn = true
 · rw [(do6 hk hop).1,(do6 hk hop).2]
   exact ⟨if_pos hop,agj h hop⟩
 have hof:s.opn = false:=by simpa using hop
 rw [(ac2 hk hof).1,(ac2 hk hof).2]
 refine ⟨if_neg hop, ?_,h.mono (Nat.le_succ n)⟩
 rw [rbS,show enS (a9 s) = a9 s from if_neg hop,show enL (a9 s) = [] from if_neg hop]
 rfl
theorem wo {α:Type} [Inhabited α] {l:List α} (h:l.length ≠ 0):l = l.take (l.length - 1) ++ [l.getD (l.length - 1) default]:=by
 rw [cg _ _ (by omega)]
 have:=List.take_append_drop (l.length - 1) l
 rw [List.drop_eq_getElem_cons (by omega),show l.length - 1 + 1 = l.length by omega,List.drop_length] at this
 exact this.symm
theorem a0g {k:Nat} (h:k ≠ 0):((k:Int) - 1).toNat = k - 1:=by omega
theorem aj2 (h:Sim n s) (hk:o.kind.toNat % 9 = 7):dxE (a9 s) o = doE s o ∧ dxS (a9 s) o = a9 (doS s o) ∧ Sim (n + 1) (doS s o):=by
 have n1:=h.n1
 have n2:=h.n2
 have e1:dxE (a9 s) o = udE (a9 s):=by simp [dxE,hk]
 have e2:dxS (a9 s) o = udS (a9 s):=by simp [dxS,hk]
 rw [e1,e2]
 by_cases hc:s.opn = true ∨ s.done.length = 0
 · rw [(a8f hk hc).1,(a8f hk hc).2]
   exact ⟨if_pos hc,if_pos hc,h.mono (Nat.le_succ n)⟩
 rw [(do7 hk hc).1,(do7 hk hc).2]
 rw [not_or] at hc
 obtain ⟨c1,c2⟩:=hc
 have hnow:s.now = []:=h.no (by simpa using c1)
 have hsp:=wo c2
 generalize hL:s.done.getD (s.done.length - 1) default = L at hsp ⊢
 generalize hI:s.done.take (s.done.length - 1) = I at hsp ⊢
 have hnw:=h.nw
 have hfl:s.done.flatten = I.flatten ++ L:=by rw [hsp];simp
 rw [hnow,List.append_nil,hfl] at hnw
 obtain ⟨w1,w2⟩:=ju.1 hnw
 have hokL:∀ c ∈ L,c.ok:=fun c hcm=>h.ok1 c (by rw [hfl];exact List.mem_append_right _ hcm)
 have hudb:rvN (bm s) L L.length = gu [] (I.flatten ++ []):=by
  rw [h.db,hnow,List.append_nil,hfl,jd,a7p (n4 my _) w2 hokL,List.append_nil,od w1]
 have hopf:s.opn = false:=by simpa using c1
 refine ⟨if_neg (by rw [not_or];exact ⟨c1,c2⟩), ?_,⟨?_, ?_,fun _=>rfl, ?_, ?_,fun q hq=>(by cases hq), ?_, ?_⟩⟩
 · rw [udS,if_neg (by rw [not_or];exact ⟨c1,c2⟩)]
   show (⟨rvN (bm s) (s.done.getD ((s.done.length:Int) - 1).toNat default) (s.done.getD ((s.done.length:Int) - 1).toNat default).length,s.done.take (s.done.length - 1),s.undone ++ [s.done.getD ((s.done.length:Int) - 1).toNat default],s.opn,s.now⟩:Str) = _
   rw [a0g c2,hL,hI,hudb,hopf,hnow]
   rfl
 · show ed [] (I.flatten ++ (s.undone ++ [L]).reverse.flatten) = 0
   have:=h.ch
   rw [hfl] at this
   simpa using this
 · show ed [] (I.flatten ++ []) = 0
   rw [List.append_nil];exact w1
 · intro q hq
   exact h.ok1 q (by rw [hfl];exact List.mem_append_left _ hq)
 · intro q hq
   have hq:q ∈ (s.undone ++ [L]).flatten:=hq
   rw [List.flatten_append] at hq
   rcases List.mem_append.1 hq with hq | hq
   · exact h.ok2 q hq
   exact hokL q (by simpa using hq)
 · show I.flatten.length + (s.undone ++ [L]).flatten.length + 0 ≤ n + 1
   rw [hfl,List.length_append] at n1
   simp only [List.flatten_append,List.length_append,List.flatten_cons,List.flatten_nil,List.append_nil]
   omega
 show I.length + (s.undone ++ [L]).length ≤ n + 1
 have hle:I.length ≤ s.done.length - 1:=by rw [← hI];exact List.length_take_le _ _
 simp only [List.length_append,List.length_singleton]
 omega
theorem ail (h:Sim n s) (hk:o.kind.toNat % 9 = 8):dxE (a9 s) o = doE s o ∧ dxS (a9 s) o = a9 (doS s o) ∧ Sim (n + 1) (doS s o):=by
 have n1:=h.n1
 have n2:=h.n2
 have e1:dxE (a9 s) o = rdE (a9 s):=by simp [dxE,hk]
 have e2:dxS (a9 s) o = rdS (a9 s):=by simp [dxS,hk]
 rw [e1,e2]
 by_cases hc:s.opn = true ∨ s.undone.length = 0
 · rw [(a8i hk hc).1,(a8i hk hc).2]
   exact ⟨if_pos hc,if_pos hc,h.mono (Nat.le_succ n)⟩
 rw [(do8 hk hc).1,(do8 hk hc).2]
 rw [not_or] at hc
 obtain ⟨c1,c2⟩:=hc
 have hnow:s.now = []:=h.no (by simpa using c1)
 have hsp:=wo c2
 generalize hL:s.undone.getD (s.undone.length - 1) default = L at hsp ⊢
 generalize hI:s.undone.take (s.undone.length - 1) = I at hsp ⊢
 have hch:=h.ch
 have hrv:s.undone.reverse.flatten = L ++ I.reverse.flatten:=by rw [hsp];simp
 have hun:s.undone.flatten = I.flatten ++ L:=by rw [hsp];simp
 rw [hrv,← List.append_assoc] at hch
 obtain ⟨w1,w2⟩:=ju.1 hch
 have hfl:(s.done ++ [L]).flatten = s.done.flatten ++ L:=by simp
 have hrdb:gd (bm s) L = gu [] ((s.done ++ [L]).flatten ++ []):=by
  rw [h.db,hnow,List.append_nil,← jd,List.append_nil,hfl,od w1]
 have hopf:s.opn = false:=by simpa using c1
 refine ⟨if_neg (by rw [not_or];exact ⟨c1,c2⟩), ?_,⟨?_, ?_,fun _=>rfl, ?_, ?_,fun q hq=>(by cases hq), ?_, ?_⟩⟩
 · rw [rdS,if_neg (by rw [not_or];exact ⟨c1,c2⟩)]
   show (⟨gd (bm s) (s.undone.getD ((s.undone.length:Int) - 1).toNat default),s.done ++ [s.undone.getD ((s.undone.length:Int) - 1).toNat default],s.undone.take (s.undone.length - 1),s.opn,s.now⟩:Str) = _
   rw [a0g c2,hL,hI,hrdb,hopf,hnow]
   rfl
 · show ed [] ((s.done ++ [L]).flatten ++ I.reverse.flatten) = 0
   rw [hfl];exact hch
 · show ed [] ((s.done ++ [L]).flatten ++ []) = 0
   rw [List.append_nil,hfl];exact w1
 · intro q hq
   have hq:q ∈ (s.done ++ [L]).flatten:=hq
   rw [hfl] at hq
   rcases List.mem_append.1 hq with hq | hq
   · exact h.ok1 q hq
   exact h.ok2 q (by rw [hun];exact List.mem_append_right _ hq)
 · intro q hq
   exact h.ok2 q (by rw [hun];exact List.mem_append_left _ hq)
 · show (s.done ++ [L]).flatten.length + I.flatten.length + 0 ≤ n + 1
   rw [hun,List.length_append] at n1
   rw [hfl,List.length_append]
   omega
 show (s.done ++ [L]).length + I.length ≤ n + 1
 have hle:I.length ≤ s.undone.length - 1:=by rw [← hI];exact List.length_take_le _ _
 simp only [List.length_append,List.length_singleton]
 omega
theorem sim (h:Sim n s) (ho:gw o):dxE (a9 s) o = doE s o ∧ dxS (a9 s) o = a9 (doS s o) ∧ Sim (n + 1) (doS s o):=by
 have hlt:o.kind.toNat % 9 < 9:=Nat.mod_lt _ (by omega)
 match hk:o.kind.toNat % 9,hlt with
 | 0,_=>exact aiz h ho hk
 | 1,_=>exact aiy h ho hk
 | 2,_=>exact aih h ho hk
 | 3,_=>exact ahx h ho hk
 | 4,_=>exact aj9 h hk
 | 5,_=>exact ahz h hk
 | 6,_=>exact aiw h hk
 | 7,_=>exact aj2 h hk
 | 8,_=>exact ail h hk
theorem a9c (h:Sim n s) {i:Nat} (hi:i < s.now.length):ua (rvN (a9 s).db s.now i) (s.now.getD (s.now.length - 1 - i) default):=by
 obtain ⟨w1,w2⟩:=ju.1 h.nw
 show ua (rvN (bm s) s.now i) _
 rw [h.db,jd]
 exact aay (n4 my _) w2 h.ok3 hi
theorem a25 (h:Sim n s) (hc:¬ ((a9 s).opn = true ∨ (a9 s).done.length = 0)) {L:List Chg} (hL:(a9 s).done.getD (((a9 s).done.length:Int) - 1).toNat default = L):L.length ≤ n ∧ ∀ i,i < L.length → ua (rvN (a9 s).db L i) (L.getD (L.length - 1 - i) default):=by
 rw [not_or] at hc
 obtain ⟨c1,c2⟩:=hc
 have c2:s.done.length ≠ 0:=c2
 have c1:¬ s.opn = true:=c1
 have hL:s.done.getD ((s.done.length:Int) - 1).toNat default = L:=hL
 rw [a0g c2] at hL
 have hnow:s.now = []:=h.no (by simpa using c1)
 have hsp:=wo c2
 rw [hL] at hsp
 generalize hI:s.done.take (s.done.length - 1) = I at hsp
 have hfl:s.done.flatten = I.flatten ++ L:=by rw [hsp];simp
 have hnw:=h.nw
 rw [hnow,List.append_nil,hfl] at hnw
 obtain ⟨w1,w2⟩:=ju.1 hnw
 refine ⟨by have:=h.n1;rw [hfl,List.length_append] at this;omega,fun i hi=>?_⟩
 show ua (rvN (bm s) L i) _
 rw [h.db,hnow,List.append_nil,hfl,jd]
 exact aay (n4 my _) w2 (fun c hcm=>h.ok1 c (by rw [hfl];exact List.mem_append_right _ hcm)) hi
theorem abg (h:Sim n s):j8 ((a9 s).undone.getD (((a9 s).undone.length:Int) - 1).toNat default):=by
 show j8 (s.undone.getD ((s.undone.length:Int) - 1).toNat default)
 intro j hj
 by_cases hz:((s.undone.length:Int) - 1).toNat < s.undone.length
 · rw [cg s.undone _ hz] at hj ⊢
   rw [cg _ _ hj]
   exact h.ok2 _ (List.mem_flatten.2 ⟨_,List.getElem_mem hz,List.getElem_mem hj⟩)
 have:s.undone.getD ((s.undone.length:Int) - 1).toNat default = []:=vf (by omega)
 rw [this] at hj
 cases hj
end
end
end Go.Hx
