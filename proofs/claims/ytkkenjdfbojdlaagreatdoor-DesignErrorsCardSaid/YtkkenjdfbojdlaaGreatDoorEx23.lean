/- A part of the proof: B1 Cs20 V18 Cs21 V19 Cs22 Cs23 Hx21. -/
import Derived.ChangeArms
import Derived.OpenShut
import Derived.ProofKit
import Derived.WalkKit
import Derived.WideKeyArgs
import Derived.Test.YtkkenjdfbojdlaaGreatDoorEx14
import Derived.Test.YtkkenjdfbojdlaaGreatDoorEx15
import Derived.Test.YtkkenjdfbojdlaaGreatDoorEx22
set_option linter.all false
section
namespace Go.Hx
open Go.Proofs
set_option maxRecDepth 100000
theorem b7h:goodFn Tryz.prog 91:=⟨Tryz.f91,Tryz.func91,by kernel_rfl,by kernel_rfl⟩
theorem b1h:goodFn Tryz.prog 147:=⟨Tryz.f147,Tryz.func147,by kernel_rfl,by kernel_rfl⟩
theorem c74 (n:Nat) (cl:Bool) (f:Nat → Nat → PV):ae Tryz.prog 91 [.one (.sl n 1 cl f)] (ai [.one (.fn 147 1 fun _=>.vp 1 fun _=>.sl n 1 cl f)]):=by
 refine a8 (nt:=4) a7 Tryz.func91 rfl rfl l9 ?_;refine sx7 ?_;refine m9 0 ?_;refine w_3 ?_;refine cg 1 rfl rfl rfl ?_;refine w_5 ?_;refine ⟨.inr rfl, ?_⟩
 exact ⟨_,_,_,_,rfl,(by (repeat' apply And.intro) <;> trivial),rfl,(by (repeat' apply And.intro) <;> trivial),⟨CoC.one (CoP.fn rfl fun i hi=>by
  obtain rfl:i = 0:=by simpa using hi
  exact CoP.vp rfl fun j hj=>by
   obtain rfl:j = 0:=by simpa using hj
   exact CoP.refl _),trivial⟩⟩
theorem bac (n:Nat) (cl:Bool) (f:Nat → Nat → PV) (hn:n ≤ 68719476736) :
 az8 Tryz.prog 147 [.one (.vp 1 fun _=>.sl n 1 cl f)] n fun i=>[.one (.raw (.int .i64 ((n - 1 - i:Nat):Int))), .one (f (n - 1 - i) 0)]:=by
 intro imm htab us W l J hcaps him hJb hY h0
 haveI:TabC imm:=⟨htab⟩
 refine callsIn_of_wp Tryz.func147 rfl trivial ?_ rfl
 have e0:#[Value.func (.yield l) #[] #[]] ++ us.toArray = (Value.func (.yield l) #[] #[] :: us).toArray:=by simp
 rw [e0]
 have hst:=ay9 (A:=W) (nt:=19) (us:=Value.func (.yield l) #[] #[] :: us) (args:=[.one (.raw (.func (.yield l) #[] #[])), .one (.vp 1 fun _=>.sl n 1 cl f)]) (him 0 W h0) ⟨⟨rfl,rfl⟩,hcaps⟩ l9
 refine wpIn_seq (wpIn_region ?_);refine iq (E:=bm) a7 hst rfl rfl rfl rfl rfl rfl (fun a h1=>?_);refine iq (E:=bm) a7 h1 rfl rfl rfl rfl rfl rfl (fun a h2=>?_)
 refine iq (E:=bm) a7 h2 rfl rfl rfl rfl rfl rfl (fun a h3=>?_);refine iq (E:=bm) a7 h3 rfl rfl rfl rfl rfl rfl (fun a h4=>?_)
 show Code.wpIn _ _ _ _ _ _ _
 refine wpIn_block ?_
 refine a1w (fun m a A=>∃ i,i ≤ n ∧ m = n - i ∧ J i A ∧ It imm 19 [(0,some (be (.raw (.func (.yield l) #[] #[])))),(1,some (be (.vp 1 fun _=>.sl n 1 cl f))),(3,some (be (.raw (.int .i64 ((n:Int) - 1 - i)))))] a A) n ⟨0,Nat.zero_le _,by omega,h0,h4.sub ⟨c9,c9,⟨_,rfl,coi (by omega)⟩,trivial⟩⟩ ?_
 rintro m a A ⟨i,hi,rfl,hJ,h⟩
 refine wpIn_seq ?_;refine wpIn_seq (wpIn_region ?_);refine iq (E:=bm) a7 h rfl rfl rfl rfl rfl rfl (fun a h1=>?_);refine iq (E:=bm) a7 h1 rfl rfl rfl rfl rfl rfl (fun a h2=>?_)
 show Code.wpIn _ _ _ _ _ _ _
 refine wpIn_cond_split (yh (x:=.tmp 8) h2 rfl).1 (fun hb=>?_) (fun hb=>?_)
 · have hb:=of_decide_eq_true hb
   have hin:i < n:=by omega
   refine wpIn_skip ?_
   show Code.wpIn _ _ _ _ _ _ _
   refine wpIn_seq (wpIn_block ?_);refine wpIn_seq (wpIn_region ?_);refine iq (E:=bm) a7 h2 rfl rfl rfl rfl rfl rfl (fun a h3=>?_);refine iq (E:=bm) a7 h3 rfl rfl rfl rfl rfl rfl (fun a h4=>?_)
   refine iq (E:=bm) a7 h4 rfl rfl rfl rfl rfl rfl (fun a h5=>?_);refine iq (E:=bm) a7 h5 rfl rfl rfl rfl rfl rfl (fun a h6=>?_)
   refine iq (E:=bm) a7 h6 rfl rfl rfl rfl rfl rfl (fun a h7=>?_) (hp:=⟨rfl,by omega,by omega⟩);refine iq (E:=bm) a7 h7 rfl rfl rfl rfl rfl rfl (fun a h8=>?_)
   have ei:((n:Int) - 1 - i).toNat = n - 1 - i:=by omega
   have e12:=yh (x:=.tmp 12) h8 rfl
   rw [show be (.raw (.int .i64 ((n:Int) - 1 - i))) = be (.raw (.int .i64 ((n - 1 - i:Nat):Int))) by congr 3;omega] at e12
   have e16:=yh (x:=.tmp 16) h8 rfl
   rw [ei] at e16
   have e16:=gm.of_H (x:=.one (f (n - 1 - i) 0)) e16
   refine iy h8 rfl rfl rfl rfl rfl rfl (R:=J (i + 1)) (hY i A [_,_] hin hJ ⟨e12,e16,trivial⟩) (fun A'=>him (i + 1) A') (fun a A1 hJ1 h9=>?_);refine iq (E:=bm) a7 h9 rfl rfl rfl rfl rfl rfl (fun a h10=>?_)
   show Code.wpIn _ _ _ _ _ _ _
   refine wpIn_cond_false (yh (x:=.tmp 18) h10 rfl).1 (wpIn_skip ?_)
   show Code.wpIn _ _ _ _ _ _ _
   refine wpIn_region ?_;refine iq (E:=bm) a7 h10 rfl rfl rfl rfl rfl rfl (fun a h11=>?_);refine iq (E:=bm) a7 h11 rfl rfl rfl rfl rfl rfl (fun a h12=>?_)
   refine iq (E:=bm) a7 h12 rfl rfl rfl rfl rfl rfl (fun a h13=>?_)
   exact ⟨n - (i + 1),by omega,i + 1,hin,rfl,hJ1,h13.sub ⟨c9,c9,⟨_,rfl,coi (by omega)⟩,trivial⟩⟩
 have hb:=of_decide_eq_false hb
 obtain rfl:i = n:=by omega
 refine wpIn_exit ?_
 exact ⟨h2.defers,_,results_none rfl _ _ _,⟨_,rfl⟩,hJ⟩
end Go.Hx
end
section
namespace Go.Hx
theorem b9i {l:List AS} {k n p j m c d e:Nat} {z:List Value} {cl:Bool} (hk:k < l.length) (hn:n = l.length - 1) (hp:p = k) (hj:j = k + 1) (hm:m = l.length - (k + 1)) (hc:l.length - 1 ≤ c) (he:e = 0) :
 CoR (af0 [.one (.p (.sl n 1 cl fun a b=>li (mvF (lf sC l) p j m) c d z (e + a) b))]) (.v (.one (.p (asl (l.eraseIdx k))))):=by
 subst hp hj hm he
 refine CoP.sl (by rw [List.length_eraseIdx,if_pos hk,hn]) (.inl rfl) (fun h=>by cases h) fun i b hi hb=>CoP.of_eq ?_
 show li (mvF (lf sC l) p (p + 1) (l.length - (p + 1))) c d z (0 + i) b = lf sC (l.eraseIdx p) i b
 unfold li
 rw [if_neg (by omega),Nat.zero_add]
 unfold mvF
 simp only [lf,List.getD]
 rw [List.getElem?_eraseIdx]
 by_cases h:i < p
 · rw [if_neg (by omega),if_pos h]
 rw [if_pos (by omega),if_neg h,show i - p + (p + 1) = i + 1 by omega]
def orL (ps:List AS):AS:=ps.foldl (· ||| ·) 0
theorem a5a {ps:List AS} {i:Nat} (h:i < ps.length):orL (ps.take (i + 1)) = orL (ps.take i) ||| ps.getD i default:=by
 unfold orL
 rw [b6 h,List.foldl_append]
 rfl
def rt (n:Int) (l:List Fd) (ps:List AS):Bool:=decide (orL ps = ar n) && n4 l ps && ps.any (jc n l)
theorem aeg {n:Int} {l:List Fd} {ps:List AS} (h:¬ asI (orL (ps.take ps.length)) = asI (ar n)):rt n l ps = false:=by
 rw [List.take_length] at h
 unfold rt
 rw [decide_eq_false (fun e=>h (congrArg asI e))]
 rfl
theorem adz {n:Int} {l:List Fd} {ps:List AS} (h:n4 l ps = false):rt n l ps = false:=by
 unfold rt
 rw [h]
 simp
theorem a5q {n:Int} {l:List Fd} {ps:List AS}:(bif bif decide (asI (orL (ps.take ps.length)) = asI (ar n)) then n4 l ps else false then ps.any (jc n l) else false) = rt n l ps:=by
 unfold rt
 rw [List.take_length,a6f]
 cases decide (orL ps = ar n) <;> cases n4 l ps <;> rfl
def qz (n:Int) (l:List Fd) (ps:List AS) (s:AS):List AS:=if rt n l (ps.eraseIdx (idx (fun x=>decide (x = s)) ps).toNat) = true then ps.eraseIdx (idx (fun x=>decide (x = s)) ps).toNat else ps
def abe (n:Int) (l:List Fd) (p0:List AS):Nat → List AS
 | 0=>p0
 | i + 1=>qz n l (abe n l p0 i) (p0.getD (p0.length - 1 - i) default)
def a2z (n:Int) (l:List Fd):Bool:=n4 l (gd n l)
def wh (n:Int) (l:List Fd):List AS:=if fh n l 8 = 0 ∧ a2z n l = true then abe n l (gt (gd n l)) (gt (gd n l)).length else []
def rj (n:Int) (l:List Fd):Bool:=decide (fh n l 8 = 0) && a2z n l
theorem b87 {n:Int} {l:List Fd} (h:¬ fh n l 8 = 0):wh n l = [] ∧ rj n l = false:=⟨if_neg fun e=>h e.1,by unfold rj;rw [decide_eq_false h];rfl⟩
theorem b8q {n:Int} {l:List Fd} (h:a2z n l = false):wh n l = [] ∧ rj n l = false:=⟨if_neg (fun e=>(by rw [h] at e;exact absurd e.2 (by simp))),by unfold rj;rw [h];simp⟩
theorem b5w {n:Int} {l:List Fd} (h:fh n l 8 = 0) (h2:a2z n l = true):wh n l = abe n l (gt (gd n l)) (gt (gd n l)).length ∧ rj n l = true:=⟨if_pos ⟨h,h2⟩,by unfold rj;rw [h2,decide_eq_true h];rfl⟩
theorem a6w (l:List AS):(gt l).Nodup:=by
 unfold gt a2u
 exact (aq9 l).sublist List.filter_sublist
theorem avr (l:List AS):(gt l).length ≤ l.length:=by
 unfold gt a2u
 exact Nat.le_trans (List.length_filter_le _ _) (mo l)
theorem a64 {ps:List AS} {s:AS} (h:s ∈ ps):∃ k:Nat,idx (fun x=>decide (x = s)) ps = k ∧ k < ps.length ∧ ps.getD k default = s:=by
 have hne:¬ idx (fun x=>decide (x = s)) ps = -1:=fun e=>by
  have hf:=a5h e
  obtain ⟨j,hj,rfl⟩:=List.getElem_of_mem h
  have:=of_decide_eq_false (hf j hj)
  rw [List.getD_eq_getElem?_getD,List.getElem?_eq_getElem hj] at this
  exact this rfl
 obtain ⟨k,h1,h2,h3,_⟩:=yw hne
 exact ⟨k,h1,h2,of_decide_eq_true h3⟩
def abj (n:Int) (l:List Fd) (p0:List AS) (i:Nat) (ps:List AS):Prop:=ps = abe n l p0 i ∧ ps.length ≤ p0.length ∧ ∀ j,j < p0.length - i → p0.getD j default ∈ ps
theorem anu (n:Int) (l:List Fd) (p0:List AS):abj n l p0 0 p0:=⟨rfl,Nat.le_refl _,fun j hj=>acy (by omega)⟩
theorem aog {p0:List AS} (h:p0.Nodup) {i j:Nat} (hi:i < p0.length) (hj:j < p0.length) (hne:i ≠ j):p0.getD i default ≠ p0.getD j default:=by
 rw [List.getD_eq_getElem?_getD,List.getD_eq_getElem?_getD,List.getElem?_eq_getElem hi,List.getElem?_eq_getElem hj]
 intro e
 rcases Nat.lt_or_gt_of_ne hne with h1 | h1
 · exact List.pairwise_iff_getElem.1 h i j hi hj h1 e
 exact List.pairwise_iff_getElem.1 h j i hj hi h1 e.symm
theorem aai {n:Int} {l:List Fd} {p0 ps:List AS} {i:Nat} (hn:p0.Nodup) (h:abj n l p0 i ps) (hi:i < p0.length):abj n l p0 (i + 1) (qz n l ps (p0.getD (p0.length - 1 - i) default)):=by
 obtain ⟨h1,h2,h3⟩:=h
 obtain ⟨k,k1,k2,k3⟩:=a64 (h3 (p0.length - 1 - i) (by omega))
 refine ⟨by rw [h1];rfl, ?_,fun j hj=>?_⟩
 · unfold qz
   split
   · rw [List.length_eraseIdx];split <;> omega
   exact h2
 have hm:=h3 j (by omega)
 unfold qz
 rw [k1,Int.toNat_natCast]
 split
 · have hne:=aog hn (i:=j) (j:=p0.length - 1 - i) (by omega) (by omega) (by omega)
   obtain ⟨q,hq,he⟩:=List.getElem_of_mem hm
   have hqk:q ≠ k:=fun e=>by
    subst e
    rw [List.getD_eq_getElem?_getD,List.getElem?_eq_getElem hq,Option.getD_some,he] at k3
    exact hne k3
   rw [List.mem_eraseIdx_iff_getElem?]
   exact ⟨q,hqk,by rw [List.getElem?_eq_getElem hq,he]⟩
 exact hm
def b9q (n:Int) (l:List Fd):Option Fd:=(x7 n l).find? fun f=>!wa l (gd n l) f
def bee (n:Int) (l:List Fd):Int:=if fh n l 8 = 0 then (match b9q n l with | some _=>0 | none=>4) else fh n l 8
def beh (n:Int) (l:List Fd):Fd:=if fh n l 8 = 0 then (match b9q n l with | some f=>f | none=>⟨0,0⟩) else ⟨0,0⟩
end Go.Hx
end
section
namespace Go.Hx
open Go.Proofs
set_option maxRecDepth 100000
theorem b5z:goodFn Tryz.prog 93:=⟨Tryz.f93,Tryz.func93,by kernel_rfl,by kernel_rfl⟩
theorem b4h (l:List AS) (k:Nat) (hk:k < l.length):dj Tryz.prog 93 [.one (.ref 900 l.length), .one (.p (.raw (.int .i64 (k:Int)))), .one (.p (.raw (.int .i64 ((k:Int) + 1))))] [(900, .arr true 1 46 l.length (lf sC l))] (.v (.one (.p (asl (l.eraseIdx k))))) [] []:=by
 refine fu (nt:=33) a7 Tryz.func93 rfl rfl l9 rfl ?_;refine ct ?_
 refine a6x 900 rfl fun hlen=>?_
 refine a86 ?_;refine a6 _ rfl (fun r0=>?_) (fun r0=>?_)
 ·
  have h0:=of_decide_eq_true r0
  try simp only [ty] at h0
  exfalso
  omega
 have h0:=of_decide_eq_false r0
 try simp only [ty] at h0
 refine w_8 ?_;refine bp (E:=bm) a7 ax [0,1,2,3,4,5,6,7] ?_;refine w_6 ?_;refine ra 0 true rfl rfl rfl rfl rfl rfl ?_;refine w_2 ?_;refine ⟨by kernel_rfl, ?_⟩;refine w_7 ?_
 refine ra 1 true rfl rfl rfl rfl rfl rfl ?_;refine w_6 ?_;refine aj3 6 rfl rfl rfl ?_;refine gn ?_;refine ⟨.inr rfl, ?_⟩
 exact ⟨_,_,rfl,(by (repeat' apply And.intro) <;> first | trivial | exact Nat.le_of_ble_eq_true rfl),(by show CoR _ _;dsimp only [dq,b4];exact b9i hk (by omega) (by omega) (by omega) (by omega) (by omega) (by omega)),trivial⟩
theorem b1a:goodFn Tryz.prog 149:=⟨Tryz.f149,Tryz.func149,by kernel_rfl,by kernel_rfl⟩
theorem b6y (p:AS) (n:Int) (l:List Fd):ae Tryz.prog 149 [pA p,pP (bx (.raw (.int .i64 n))),pP (bx (fdl l))] (ai [pB (jc n l p)]):=by
 refine a8 (nt:=9) a7 Tryz.func149 rfl rfl l9 ?_;refine w_9 ?_;refine rc rfl rfl rfl rfl rfl rfl a6p (abh n l p) (CoL.refl _) rfl rfl ?_;refine w_2 ?_
 exact hx8 rfl rfl rfl (CoL.refl _)
theorem b94:goodFn Tryz.prog 94:=⟨Tryz.f94,Tryz.func94,by kernel_rfl,by kernel_rfl⟩
theorem bas (n:Int) (l:List Fd) (ps:List AS) (hn0:0 ≤ n) (hn1:n ≤ 16) (hl:l.length ≤ 16777216):ae Tryz.prog 94 [pI n,pP (fdl l),pP (asl ps)] (ai [pB (rt n l ps)]):=by
 refine a8 (nt:=34) a7 Tryz.func94 rfl rfl l9 ?_;refine sx7 ?_;refine m9 0 ?_;refine m9 1 ?_;refine w_8 ?_
 refine dg 2 rfl fun hn=>?_
 refine w_6 ?_;refine cg 3 rfl rfl rfl ?_;refine cg 4 rfl rfl rfl ?_
 refine aj (ι:=Nat) ⟨[(2,some _),(3,some _),(4,some _),(10,some _),(11,some _)],[]⟩ ⟨⟨c9,c9,c9,c9,c9,trivial⟩,trivial⟩ (fun i=>⟨[(7,some (vA (orL (ps.take i)))),(12,some (vI i))],[]⟩) (fun i=>i ≤ ps.length) (fun i=>ps.length - i) (0) (Nat.zero_le _) ⟨⟨zy,zy,trivial⟩,trivial⟩ ?_
 rintro i hi
 refine w_5 ?_;refine a6 _ rfl (fun r0=>?_) (fun r0=>?_)
 ·
  have h0:=of_decide_eq_true r0
  try simp only [ty] at h0
  refine a86 ?_;refine ⟨i + 1, ?_, ?_, ?_⟩
  · show i + 1 ≤ _;omega
  · first | omega | (dsimp only;omega)
  exact ⟨⟨⟨_,rfl,(dv (by rw [bOr,a5a (by omega)];rfl))⟩,zy,c9,c9,c9,c9,c9,trivial⟩,trivial⟩
 have h0:=of_decide_eq_false r0
 try simp only [ty] at h0
 obtain rfl:i = ps.length:=by omega
 refine w_5 ?_;refine rc rfl rfl rfl rfl rfl rfl ac8 (ak5 n hn0 hn1) (CoL.refl _) rfl rfl ?_;refine w_2 ?_;refine bc rfl rfl (fun r1=>?_) (fun r1=>?_)
 ·
  have h1:=of_decide_eq_true r1
  try simp only [ty] at h1
  (iterate 2 refine qy ?_ (hg:=(gtt r1)));refine rc rfl rfl rfl rfl rfl rfl ae2 (aw0 l ps hl) (CoL.refl _) rfl (gtt r1) ?_;refine w_2 ?_;refine bc rfl rfl (fun r2=>?_) (fun r2=>?_)
  ·
   have h2:=r2
   have h2:=dc r1 h2
   (iterate 2 refine qy ?_ (hg:=(gtt r2)))
   refine rc rfl rfl rfl rfl rfl rfl a94 (ajb ps 149 2 (fun i=>[bx (.raw (.int .i64 n)),bx (fdl l)].getD i .any) (jc n l) b1a (fun p=>b6y p n l)) (CoL.refl _) rfl (gtt r2) ?_;refine w_3 ?_
   exact hx8 rfl rfl rfl (⟨ccb (by first | exact a5q | exact (aeg (by assumption)).symm | exact (adz (by assumption)).symm),trivial⟩)
  have h2:=r2
  have h2:=dc r1 h2
  (iterate 3 refine k9 (gft r2) ?_);refine rq rfl rfl rfl rfl rfl ?_ (hp:=r2);refine w_2 ?_
  exact hx8 rfl rfl rfl (⟨ccb (by first | exact a5q | exact (aeg (by assumption)).symm | exact (adz (by assumption)).symm),trivial⟩)
 have h1:=of_decide_eq_false r1
 try simp only [ty] at h1
 (iterate 3 refine k9 (gft r1) ?_);refine rq rfl rfl rfl rfl rfl ?_ (hp:=r1);refine qy ?_;(iterate 3 refine k9 rfl ?_);refine w_3 ?_
 exact hx8 rfl rfl rfl (⟨ccb (by first | exact a5q | exact (aeg (by assumption)).symm | exact (adz (by assumption)).symm),trivial⟩)
end Go.Hx
end
section
namespace Go.Hx
theorem aqg {l:List Fd} {s:AS} (h:gr l s = true):∃ x,a7o l s = some x ∧ sub x s ∧ mt l s x = true:=by
 unfold gr at h
 obtain ⟨x,hx⟩:=Option.isSome_iff_exists.1 h
 refine ⟨x,hx, ?_,List.find?_some hx⟩
 have hm:=List.mem_of_find?_eq_some hx
 unfold bi at hm
 split at hm
 · cases hm
 exact vk.1 hm
theorem a6b {a s:AS} (h:sub a s) (hne:a ≠ s):bsz a < bsz s:=by
 rcases Nat.lt_or_eq_of_le (b4b h) with h1 | h1
 · exact h1
 exfalso
 apply hne
 have hs:(al a).Sublist (al s):=by
  have:al a = (al s).filter fun i=>a.getLsbD i:=by
   unfold al
   rw [List.filter_filter]
   apply List.filter_congr
   intro i hi
   rw [List.mem_range] at hi
   cases ha:a.getLsbD i with
   | false=>rfl
   | true=>rw [cb.1 h i hi ha];rfl
  rw [this]
  exact List.filter_sublist
 rw [w6,w6] at h1
 have he:=hs.eq_of_length h1
 refine gq h (cb.2 fun i hi hb=>?_)
 have:i ∈ al s:=lx.2 ⟨hi,hb⟩
 rw [← he] at this
 exact (lx.1 this).2
def spA (l:List Fd) (s:AS):AS:=(jk l s).lhs ||| (jk l s).rhs
def spB (l:List Fd) (s:AS):AS:=s &&& ~~~(jk l s).rhs
theorem a0r {a b:AS}:sub (a &&& b) b:=cb.2 fun i hi h=>by rw [BitVec.getLsbD_and,Bool.and_eq_true] at h;exact h.2
theorem sb {a b:AS}:sub (a &&& b) a:=cb.2 fun i hi h=>by rw [BitVec.getLsbD_and,Bool.and_eq_true] at h;exact h.1
theorem a1k {a b c:AS} (h:sub a b) (k:sub a c):sub a (b &&& c):=cb.2 fun i hi ha=>by rw [BitVec.getLsbD_and,cb.1 h i hi ha,cb.1 k i hi ha];rfl
theorem awd {l:List Fd} {s:AS} (h:gr l s = true):sub (spA l s) s ∧ spA l s ≠ s ∧ sub (spB l s) s ∧ spB l s ≠ s:=by
 obtain ⟨x,hx,hs,hv⟩:=aqg h
 unfold mt at hv
 rw [Bool.and_eq_true,decide_eq_true_iff,decide_eq_true_iff] at hv
 have e:jk l s = aj8 l s x:=by unfold jk;rw [hx]
 have hxc:sub x (clo l x &&& s):=a1k a6q hs
 have ea:spA l s = clo l x &&& s:=by
  unfold spA
  rw [e]
  apply gq
  · exact xr hxc sb
  refine cb.2 fun i hi hb=>?_
  show (x ||| ((clo l x &&& s) &&& ~~~x)).getLsbD i = true
  rw [BitVec.getLsbD_or,BitVec.getLsbD_and,BitVec.getLsbD_not,hb,decide_eq_true hi]
  cases x.getLsbD i <;> rfl
 refine ⟨ea ▸ a0r,ea ▸ hv.2,sb,fun eb=>hv.1 ?_⟩
 unfold spB at eb
 rw [e] at eb
 refine gq (cb.2 fun i hi hb=>?_) hxc
 have hsi:s.getLsbD i = true:=cb.1 a0r i hi hb
 have h2:=congrArg (fun z:AS=>z.getLsbD i) eb
 have h3:(aj8 l s x).rhs.getLsbD i = !x.getLsbD i:=by
  show ((clo l x &&& s) &&& ~~~x).getLsbD i = _
  rw [BitVec.getLsbD_and,hb,BitVec.getLsbD_not,decide_eq_true hi]
  rfl
 simp only [BitVec.getLsbD_and,BitVec.getLsbD_not,decide_eq_true hi,hsi,h3,Bool.true_and,Bool.not_not] at h2
 exact h2
def a5f (l:List Fd):Nat → List AS → List AS → List AS
 | 0,_,out=>out
 | n + 1,todo,out =>
  if todo.length = 0 then out
  else if gr l (todo.getD (todo.length - 1) default) = true then a5f l n (todo.take (todo.length - 1) ++ [spA l (todo.getD (todo.length - 1) default),spB l (todo.getD (todo.length - 1) default)]) out
  else a5f l n (todo.take (todo.length - 1)) (out ++ [todo.getD (todo.length - 1) default])
def aj7 (n:Int) (l:List Fd):List AS:=a5f l 6562 [ar n] []
def abw (n:Int) (l:List Fd):List AS:=if fh n l 8 = 0 then gt (aj7 n l) else []
theorem b9g {n:Int} {l:List Fd} (h:fh n l 8 = 0):abw n l = gt (aj7 n l):=if_pos h
theorem b5u {n:Int} {l:List Fd} (h:¬ fh n l 8 = 0):abw n l = []:=if_neg h
def mr (todo:List AS):Nat:=(todo.map fun s=>3 ^ bsz s).sum
theorem a57 (a b:List AS):mr (a ++ b) = mr a + mr b:=by unfold mr;rw [List.map_append,List.sum_append]
theorem acs:∀ todo:List AS,todo.length ≤ mr todo
 | []=>Nat.zero_le _
 | s :: t=>by
  have h1:=acs t
  have h2:0 < 3 ^ bsz s:=Nat.pow_pos (by omega)
  have e:mr (s :: t) = 3 ^ bsz s + mr t:=by unfold mr;rw [List.map_cons,List.sum_cons]
  rw [List.length_cons,e]
  omega
theorem aal {todo:List AS} (h:0 < todo.length):todo = todo.take (todo.length - 1) ++ [todo.getD (todo.length - 1) default]:=by
 have:=b6 (l:=todo) (q:=todo.length - 1) (by omega)
 rw [show todo.length - 1 + 1 = todo.length by omega,List.take_length] at this
 exact this
def a1t (n:Int) (l:List Fd) (x:Nat × List AS × List AS):Prop:=a5f l x.1 x.2.1 x.2.2 = aj7 n l ∧ mr x.2.1 < x.1 ∧ x.2.2.length + x.1 ≤ 6562
theorem asu {k:Nat} (h:k ≤ 32):bsz (iu k) ≤ k:=by
 unfold bsz
 have e:(List.range 32).countP (fun i=>(iu k).getLsbD i) = (List.range 32).countP fun i=>decide (i < k):=by
  apply List.countP_congr
  intro i hi
  rw [List.mem_range] at hi
  rw [ou k i hi]
 have h2:∀ m,(List.range m).countP (fun i=>decide (i < k)) ≤ k ∧ (List.range m).countP (fun i=>decide (i < k)) ≤ m:=by
  intro m
  induction m with
  | zero=>simp
  | succ m ih =>
   rw [List.range_succ,List.countP_append]
   simp only [List.countP_cons,List.countP_nil]
   by_cases hm:m < k
   · rw [if_pos (decide_eq_true hm)];omega
   rw [if_neg (by simpa using hm)];omega
 rw [e]
 exact (h2 32).1
theorem awv {n:Int} {m:Nat} (h:n ≤ m) (hm:m ≤ 32):bsz (ar n) ≤ m:=by
 unfold ar
 exact Nat.le_trans (asu (Nat.min_le_right _ _)) (by omega)
theorem avt {n:Int} {l:List Fd} (h:fh n l 8 = 0):a1t n l (6562,[ar n],[]):=by
 refine ⟨rfl, ?_,Nat.le_refl _⟩
 show 3 ^ bsz (ar n) + 0 < 6562
 have h1:=awv (n:=n) (m:=8) (a2x h).2 (by omega)
 have h2:3 ^ bsz (ar n) ≤ 3 ^ 8:=Nat.pow_le_pow_right (by omega) h1
 have h3:3 ^ 8 = 6561:=rfl
 omega
theorem a2b {n:Int} {l:List Fd} {x:Nat × List AS × List AS} (h:a1t n l x):x.2.1.length < 6562 ∧ x.2.2.length ≤ 6562 ∧ 0 < x.1:=by
 have:=acs x.2.1
 obtain ⟨h1,h2,h3⟩:=h
 omega
theorem b3h {n:Int} {l:List Fd} {x:Nat × List AS × List AS} (h:a1t n l x) (h0:x.2.1.length = 0):x.2.2 = aj7 n l:=by
 have hp:=(a2b h).2.2
 obtain ⟨h1,h2,h3⟩:=h
 obtain ⟨m,hm⟩:∃ m,x.1 = m + 1:=⟨x.1 - 1,by omega⟩
 rw [hm] at h1
 unfold a5f at h1
 rw [if_pos h0] at h1
 exact h1
theorem azn {n:Int} {l:List Fd} {x:Nat × List AS × List AS} (h:a1t n l x) (h0:0 < x.2.1.length) (hv:gr l (x.2.1.getD (x.2.1.length - 1) default) = true) :
 a1t n l (x.1 - 1,x.2.1.take (x.2.1.length - 1) ++ [spA l (x.2.1.getD (x.2.1.length - 1) default),spB l (x.2.1.getD (x.2.1.length - 1) default)],x.2.2):=by
 have hp:=(a2b h).2.2
 obtain ⟨h1,h2,h3⟩:=h
 obtain ⟨m,hm⟩:∃ m,x.1 = m + 1:=⟨x.1 - 1,by omega⟩
 rw [hm] at h1
 unfold a5f at h1
 rw [if_neg (by omega),if_pos hv] at h1
 refine ⟨by rw [hm];exact h1, ?_,by dsimp only;omega⟩
 have e:=a57 (x.2.1.take (x.2.1.length - 1)) [x.2.1.getD (x.2.1.length - 1) default]
 rw [← aal h0] at e
 have e1:mr [x.2.1.getD (x.2.1.length - 1) default] = 3 ^ bsz (x.2.1.getD (x.2.1.length - 1) default):=by simp [mr]
 generalize x.2.1.getD (x.2.1.length - 1) default = s at *
 dsimp only
 rw [a57]
 have e2:mr [spA l s,spB l s] = 3 ^ bsz (spA l s) + 3 ^ bsz (spB l s):=by simp [mr]
 obtain ⟨f1,f2,f3,f4⟩:=awd hv
 have g1:=a6b f1 f2
 have g2:=a6b f3 f4
 obtain ⟨b,hb⟩:∃ b,bsz s = b + 1:=⟨bsz s - 1,by omega⟩
 have p1:3 ^ bsz (spA l s) ≤ 3 ^ b:=Nat.pow_le_pow_right (by omega) (by omega)
 have p2:3 ^ bsz (spB l s) ≤ 3 ^ b:=Nat.pow_le_pow_right (by omega) (by omega)
 have p3:3 ^ bsz s = 3 ^ b * 3:=by rw [hb,Nat.pow_succ]
 have p4:0 < 3 ^ b:=Nat.pow_pos (by omega)
 omega
theorem b0a {n:Int} {l:List Fd} {x:Nat × List AS × List AS} (h:a1t n l x) (h0:0 < x.2.1.length) (hv:gr l (x.2.1.getD (x.2.1.length - 1) default) = false) :
 a1t n l (x.1 - 1,x.2.1.take (x.2.1.length - 1),x.2.2 ++ [x.2.1.getD (x.2.1.length - 1) default]):=by
 have hp:=(a2b h).2.2
 obtain ⟨h1,h2,h3⟩:=h
 obtain ⟨m,hm⟩:∃ m,x.1 = m + 1:=⟨x.1 - 1,by omega⟩
 rw [hm] at h1
 unfold a5f at h1
 rw [if_neg (by omega),if_neg (by rw [hv];decide)] at h1
 refine ⟨by rw [hm];exact h1, ?_,by dsimp only;rw [List.length_append,List.length_singleton];omega⟩
 have e:=a57 (x.2.1.take (x.2.1.length - 1)) [x.2.1.getD (x.2.1.length - 1) default]
 rw [← aal h0] at e
 have e1:mr [x.2.1.getD (x.2.1.length - 1) default] = 3 ^ bsz (x.2.1.getD (x.2.1.length - 1) default):=by simp [mr]
 have p4:0 < 3 ^ bsz (x.2.1.getD (x.2.1.length - 1) default):=Nat.pow_pos (by omega)
 dsimp only
 omega
theorem ai0 {α:Type} [Inhabited α] {wr wr':Bool} {n m:Nat} {e:TypeId} {c:α → Nat → PV} {l:List α} {x y:α} {f g:Nat → Nat → PV} (hn:n = l.length) (hf:∀ i,i < l.length → CoP (f i 0) (lf c l i 0)) (h0:CoP (g 0 0) (c x 0)) (h1:CoP (g 1 0) (c y 0)) (hm:m = n + 2) (hw:wr' = true → wr = true:=by exact fun h=>h) :
 CoO (.arr wr 1 e m (i9 n f g)) (.arr wr' 1 e (l ++ [x,y]).length (lf c (l ++ [x,y]))):=by
 subst hn hm
 refine ⟨hw,rfl,rfl,by simp,fun i j hi hj=>?_⟩
 obtain rfl:j = 0:=by omega
 unfold i9
 by_cases h:i < l.length
 · rw [if_pos h]
   have:=hf i h
   simp only [lf,List.getD,List.getElem?_append_left h] at this ⊢
   exact this
 rw [if_neg h]
 rcases (by omega:i = l.length ∨ i = l.length + 1) with rfl | rfl
 · rw [Nat.sub_self]
   simp only [lf,List.getD]
   rw [List.getElem?_append_right (Nat.le_refl _),Nat.sub_self]
   exact h0
 rw [show l.length + 1 - l.length = 1 by omega]
 simp only [lf,List.getD]
 rw [List.getElem?_append_right (by omega),show l.length + 1 - l.length = 1 by omega]
 exact h1
theorem aer {α:Type} [Inhabited α] {wr wr':Bool} {k m:Nat} {e:TypeId} {c:α → Nat → PV} {l:List α} (hk:k ≤ l.length) (hm:m = k) (hw:wr' = true → wr = true:=by exact fun h=>h):CoO (.arr wr 1 e m (lf c l)) (.arr wr' 1 e (l.take k).length (lf c (l.take k))):=by
 subst hm
 refine ⟨hw,rfl,rfl,by rw [List.length_take,Nat.min_eq_left hk],fun i j hi hj=>CoP.of_eq ?_⟩
 simp only [lf,List.getD,List.getElem?_take,if_pos hi]
theorem az6 {l:List Fd} {s:AS}:PV.raw (.int .u32 (bj .or .u32 (asI (jk l s).lhs) (asI (jk l s).rhs))) = sC (spA l s) 0:=congrArg (fun z=>PV.raw (.int .u32 z)) (bOr _ _)
theorem azb {l:List Fd} {t:List AS} {i j:Nat} (h:i = j):PV.raw (.int .u32 (bj .andNot .u32 (asI (t.getD i default)) (asI (jk l (t.getD j default)).rhs))) = sC (spB l (t.getD j default)) 0:=by
 subst h
 exact congrArg (fun z=>PV.raw (.int .u32 z)) (jd _ _)
theorem acr {l:List AS} {k i:Nat} (hi:i < (l.take k).length):lf sC l i 0 = lf sC (l.take k) i 0:=by
 rw [List.length_take] at hi
 simp only [lf,List.getD,List.getElem?_take,if_pos (show i < k by omega)]
theorem aib {n:Int} {l:List Fd} {ps:List AS} {s:AS} {k:Nat} (hk:idx (fun x=>decide (x = s)) ps = k) (h:rt n l (ps.eraseIdx k) = true):qz n l ps s = ps.eraseIdx k:=by
 unfold qz
 rw [hk,Int.toNat_natCast,if_pos h]
theorem aiq {n:Int} {l:List Fd} {ps:List AS} {s:AS} {k:Nat} (hk:idx (fun x=>decide (x = s)) ps = k) (h:rt n l (ps.eraseIdx k) = false):qz n l ps s = ps:=by
 unfold qz
 rw [hk,Int.toNat_natCast,if_neg (by rw [h];decide)]
end Go.Hx
end
section
namespace Go.Hx
open Go.Proofs
set_option maxRecDepth 100000
theorem b6r:goodFn Tryz.prog 33:=⟨Tryz.f33,Tryz.func33,by kernel_rfl,by kernel_rfl⟩
theorem bcn (n:Int) (l:List Fd):ae Tryz.prog 33 [pI n,pP (fdl l)] (ai [pP (asl (abw n l)),pI (fh n l 8)]):=by
 refine a8 (nt:=60) a7 Tryz.func33 rfl rfl l9 ?_;refine d7 ?_;refine rc rfl rfl rfl rfl rfl rfl aoa (b8x n l) (CoL.refl _) rfl rfl ?_;refine w_7 ?_;refine a6 _ rfl (fun r0=>?_) (fun r0=>?_)
 ·
  have h0:=r0
  have h0:=of_decide_eq_false (ap h0)
  try simp only [ty] at h0
  refine w_6 ?_
  exact hx8 rfl rfl rfl (⟨CoC.one (a0k (b5u h0)),CoC.refl _,trivial⟩)
 have h0:=r0
 have h0:=of_decide_eq_true (am h0)
 try simp only [ty] at h0
 refine w_2 ?_
 have hv:=fq (a2x h0).1
 refine w_7 ?_;refine rc rfl rfl rfl rfl rfl rfl ac8 (ak5 n hv.1 hv.2.1) (CoL.refl _) rfl rfl ?_;refine m9 0 ?_;refine w_3 ?_
 refine dy 7 900 true 1 46 (lf sC []) (by decide) rfl (CoP.sl rfl (.inr rfl) (fun h=>h) (fun i j hi _=>absurd hi (Nat.not_lt_zero i))) (.inr rfl) rfl ?_;refine sd 8 901 rfl rfl rfl rfl ?_
 refine aj (ι:=Nat × List AS × List AS) ⟨[(1,some _)],[]⟩ ⟨⟨c9,trivial⟩,trivial⟩ (fun x=>⟨[(7,some (.v (.one (.ref 900 x.2.2.length)))),(8,some (.v (.one (.ref 901 x.2.1.length))))],[(900,some (.arr true 1 46 x.2.2.length (lf sC x.2.2))),(901,some (.arr true 1 46 x.2.1.length (lf sC x.2.1)))]⟩) (fun x=>a1t n l x) (fun x=>x.1) ((6562,[ar n],[])) (avt h0) ⟨⟨zy,zy,trivial⟩,⟨u9,⟨_,rfl,(yl (CoP.refl _))⟩,trivial⟩⟩ ?_
 rintro x hx
 have hlen:=a2b hx
 refine sd 8 902 rfl rfl rfl rfl ?_;refine w_7 ?_;refine a6 _ rfl (fun r1=>?_) (fun r1=>?_)
 ·
  have h1:=of_decide_eq_true r1
  try simp only [ty] at h1
  refine akf ?_;refine aul ⟨[(1,some _),(7,some _),(8,some _),(9,some _)],[(900,some _),(902,some _)]⟩ (by exact ⟨⟨c9,c9,c9,c9,trivial⟩,⟨u9,u9,trivial⟩⟩) ?_
  refine aei 8 901 rfl rfl rfl rfl (by simp only [dq,b4,Int.toNat_natCast];omega) rfl ?_;refine w_4 ?_
  refine rc rfl rfl rfl rfl rfl rfl adb (aj0 l (x.2.1.getD (x.2.1.length - 1) default)) (⟨CoC.refl _,CoC.one (CoP.of_eq (congrArg (fun i=>asC (x.2.1.getD i default)) (by omega))),trivial⟩) rfl rfl ?_;refine w_3 ?_
  refine m9 1 ?_;refine w_7 ?_;refine a6 _ rfl (fun r2=>?_) (fun r2=>?_)
  ·
   have h2:=r2
   refine ez ?_;refine m9 2 ?_;refine ra 3 true rfl rfl rfl rfl rfl rfl ?_;refine w_2 ?_
   first | (refine ⟨(x.1 - 1, (x.2.1.take (x.2.1.length - 1)) ++ [spA l (x.2.1.getD (x.2.1.length - 1) default), spB l (x.2.1.getD (x.2.1.length - 1) default)], x.2.2), ?_, ?_, ?_⟩
            · exact azn hx (by omega) (by assumption)
            · dsimp only
              omega
            exact ⟨⟨zy,⟨_,rfl,(jm (by simp only [dq,b4,List.length_append,List.length_cons,List.length_nil,List.length_take];omega))⟩,c9,trivial⟩,⟨u9,⟨_,rfl,(ai0 (by simp only [dq,b4,List.length_append,List.length_cons,List.length_nil,List.length_take];omega) (fun i hi=>CoP.of_eq (acr hi)) (CoP.of_eq az6) (CoP.of_eq (azb (by omega))) rfl)⟩,trivial⟩⟩)
         | (refine ⟨(x.1 - 1,(x.2.1.take (x.2.1.length - 1)),x.2.2 ++ [(x.2.1.getD (x.2.1.length - 1) default)]), ?_, ?_, ?_⟩
            · exact b0a hx (by omega) (by assumption)
            · dsimp only
              omega
            exact ⟨⟨⟨_,rfl,(d8 rfl)⟩,⟨_,rfl,(jm (by simp only [dq,b4,List.length_append,List.length_cons,List.length_nil,List.length_take];omega))⟩,c9,trivial⟩,⟨⟨_,rfl,(dt rfl (CoP.of_eq (congrArg (fun i=>asC (x.2.1.getD i default)) (by omega))))⟩,⟨_,rfl,(aer (by omega) (by simp only [dq,b4];omega))⟩,trivial⟩⟩)
  have h2:=r2
  refine w_3 ?_;refine m9 4 ?_;refine ra 5 true rfl rfl rfl rfl rfl rfl ?_;refine w_2 ?_
  first | (refine ⟨(x.1 - 1, (x.2.1.take (x.2.1.length - 1)) ++ [spA l (x.2.1.getD (x.2.1.length - 1) default), spB l (x.2.1.getD (x.2.1.length - 1) default)], x.2.2), ?_, ?_, ?_⟩
           · exact azn hx (by omega) (by assumption)
           · dsimp only
             omega
           exact ⟨⟨zy,⟨_,rfl,(jm (by simp only [dq,b4,List.length_append,List.length_cons,List.length_nil,List.length_take];omega))⟩,c9,trivial⟩,⟨u9,⟨_,rfl,(ai0 (by simp only [dq,b4,List.length_append,List.length_cons,List.length_nil,List.length_take];omega) (fun i hi=>CoP.of_eq (acr hi)) (CoP.of_eq az6) (CoP.of_eq (azb (by omega))) rfl)⟩,trivial⟩⟩)
        | (refine ⟨(x.1 - 1,(x.2.1.take (x.2.1.length - 1)),x.2.2 ++ [(x.2.1.getD (x.2.1.length - 1) default)]), ?_, ?_, ?_⟩
           · exact b0a hx (by omega) (by assumption)
           · dsimp only
             omega
           exact ⟨⟨⟨_,rfl,(d8 rfl)⟩,⟨_,rfl,(jm (by simp only [dq,b4,List.length_append,List.length_cons,List.length_nil,List.length_take];omega))⟩,c9,trivial⟩,⟨⟨_,rfl,(dt rfl (CoP.of_eq (congrArg (fun i=>asC (x.2.1.getD i default)) (by omega))))⟩,⟨_,rfl,(aer (by omega) (by simp only [dq,b4];omega))⟩,trivial⟩⟩)
 have h1:=of_decide_eq_false r1
 try simp only [ty] at h1
 refine w_2 ?_;refine bt 7 rfl rfl rfl ?_
 have hx0:x.2.1.length = 0:=by omega
 refine w_2 ?_;refine rc rfl rfl rfl rfl rfl rfl afa (a5x x.2.2 (by omega)) (CoL.refl _) rfl rfl ?_;refine w_3 ?_
 exact hx8 rfl rfl rfl (⟨CoC.one (CoP.of_eq (by rw [b9g h0,b3h hx hx0])),cci h0.symm,trivial⟩)
theorem b9f:goodFn Tryz.prog 42:=⟨Tryz.f42,Tryz.func42,by kernel_rfl,by kernel_rfl⟩
theorem baf (n:Int) (l:List Fd):ae Tryz.prog 42 [pI n,pP (fdl l)] (ai [pP (asl (wh n l)),pB (rj n l),pI (fh n l 8)]):=by
 refine a8 (nt:=49) a7 Tryz.func42 rfl rfl l9 ?_;refine sx7 ?_;refine m9 0 ?_;refine m9 1 ?_;refine w_8 ?_;refine rc rfl rfl rfl rfl rfl rfl b8w (b97 n l) (CoL.refl _) rfl rfl ?_;refine fl ?_
 refine a6 _ rfl (fun r0=>?_) (fun r0=>?_)
 ·
  have h0:=r0
  have h0:=of_decide_eq_false (ap h0)
  try simp only [ty] at h0
  refine w_8 ?_;refine ⟨.inr rfl, ?_⟩
  have he:=b87 h0
  exact f9 rfl rfl (⟨CoC.one (a0k he.1),ccb he.2.symm,CoC.refl _,trivial⟩)
 have h0:=r0
 have h0:=of_decide_eq_true (am h0)
 try simp only [ty] at h0
 refine w_3 ?_
 have hv:=fq (a2x h0).1
 have hsl:=axf n l
 have hml:=avr (gd n l)
 refine w_3 ?_;refine rc rfl rfl rfl rfl rfl rfl ae2 (aw0 l (gd n l) (by omega)) (CoL.refl _) rfl rfl ?_;refine w_2 ?_;refine a6 _ rfl (fun r1=>?_) (fun r1=>?_)
 ·
  have h1:=r1
  have h1:=ap h1
  refine w_7 ?_;refine ⟨.inr rfl, ?_⟩
  have he:=b8q (n:=n) (l:=l) (by assumption)
  exact f9 rfl rfl (⟨CoC.one (a0k he.1),ccb he.2.symm,cci h0.symm,trivial⟩)
 have h1:=r1
 have h1:=am h1
 refine w_4 ?_;refine rc rfl rfl rfl rfl rfl rfl afa (a5x (gd n l) (by omega)) (CoL.refl _) rfl rfl ?_;refine m9 2 ?_;refine w_4 ?_;refine cg 2 rfl rfl rfl ?_;refine cg 3 rfl rfl rfl ?_
 refine w_2 ?_;refine rc rfl rfl rfl rfl rfl rfl a0q (au0 (gt (gd n l)).length false (lf sC (gt (gd n l))) (by omega)) (CoL.refl _) rfl rfl ?_
 refine rc rfl rfl rfl rfl rfl rfl b7h (c74 (gt (gd n l)).length false (lf sC (gt (gd n l)))) (CoL.refl _) rfl rfl ?_;refine w_2 ?_
 refine aui (ι:=List AS) (swp 2 1000) (ahx 2 1000) rfl b1h (bac (gt (gd n l)).length false (lf sC (gt (gd n l))) (by omega)) [(2,some (be (bx (.raw (.int .i64 n))))),(3,some (be (bx (fdl l)))),(9,some (.v (.one (.ptr 2 0))))] (fun ps=>[(2, .box [.p (asl ps)])]) (fun i ps=>abj n l (gt (gd n l)) i ps) ((gt (gd n l))) (anu n l (gt (gd n l))) ⟨⟨c9,c9,c9,trivial⟩,⟨u9,trivial⟩⟩ [2] (fun _ _=>rfl) rfl rfl ?_ ?_
 · rintro lp i ps hi hI
   have hpl:=hI.2.1
   refine w_3 ?_;refine ⟨rfl, ?_⟩;refine w_5 ?_;refine rc rfl rfl rfl rfl rfl rfl b6o (bcz ps ((gt (gd n l)).getD ((gt (gd n l)).length - 1 - i) default)) (CoL.refl _) rfl rfl ?_;refine w_3 ?_
   obtain ⟨k,hk1,hk2,hk3⟩:=a64 (hI.2.2 ((gt (gd n l)).length - 1 - i) (by omega))
   refine w_2 ?_;refine b5 rfl rfl rfl rfl rfl rfl a0q (xc ps.length false (lf sC ps) (by omega)) (cn.refl _) trivial rfl rfl ?_;refine w_3 ?_
   refine b5 rfl rfl rfl rfl rfl rfl b5z ((b4h ps k hk2).swap 900 0) (⟨rfl,CoP.of_eq (by rw [hk1]),CoP.of_eq (by rw [hk1]),trivial⟩) ⟨u9,trivial⟩ rfl rfl ?_;refine w_7 ?_
   refine rc rfl rfl rfl rfl rfl rfl b94 (bas n l (ps.eraseIdx k) hv.1 hv.2.1 (by omega)) (CoL.refl _) rfl rfl ?_;refine b8 ?_;refine a6 _ rfl (fun r2=>?_) (fun r2=>?_)
   ·
    have h2:=r2
    refine w_4 ?_;refine ⟨rfl,qz n l ps ((gt (gd n l)).getD ((gt (gd n l)).length - 1 - i) default), ?_, ?_⟩
    · exact aai (a6w _) hI hi
    exact ⟨⟨_,rfl,(by first | exact ⟨CoP.of_eq (by rw [aib hk1 (by assumption)]),trivial⟩ | exact ⟨CoP.of_eq (by rw [aiq hk1 (by assumption)]),trivial⟩)⟩,trivial⟩
   have h2:=r2
   refine dp ?_;refine ⟨rfl,qz n l ps ((gt (gd n l)).getD ((gt (gd n l)).length - 1 - i) default), ?_, ?_⟩
   · exact aai (a6w _) hI hi
   exact ⟨⟨_,rfl,(by first | exact ⟨CoP.of_eq (by rw [aib hk1 (by assumption)]),trivial⟩ | exact ⟨CoP.of_eq (by rw [aiq hk1 (by assumption)]),trivial⟩)⟩,trivial⟩
 rintro ps hI
 refine w_8 ?_;refine ⟨.inr rfl, ?_⟩
 have he:=b5w h0 (by assumption)
 exact f9 rfl rfl (⟨CoC.one (CoP.of_eq (by rw [he.1,← hI.1])),ccb he.2.symm,cci h0.symm,trivial⟩)
end Go.Hx
end
section
namespace Go.Hx
open Go.Proofs
set_option maxRecDepth 100000
def bdg:List Fd:=[⟨1,2⟩,⟨2,4⟩]
def bdo:List Fd:=[⟨3,4⟩,⟨4,1⟩]
end Go.Hx
end
section
namespace Go.Hx
open Go.Proofs
def w1 (l:List Fd) (p:AS):Int:=if bg 16 l = 0 ∧ (8:Int) < bsz p then 3 else bg 16 l
section
variable {l:List Fd} {p:AS}
end
section
variable {n:Int} {l:List Fd}
end
end Go.Hx
end
section
namespace Go.Hx
open Go.RowKit Go.ChangeShapes Go.WideShapes Go.ChangeAt
def Rd (P:Program) (t:TypeId) (n:Nat) {α:Type} (c:α → Nat → PV):Prop :=
 ∀ (H:Type) (enc:TypeId × Value → H) (w:World) (sp:Nat → Bool) (held:Bool) (fuel:Nat) (cs:List Value) (x:DataW H × List MemPlace),DataW.trod enc P w 0 sp held fuel t cs = some x →
  cs.length = n ∧ ∃ a:α,∀ j,j < n → ∃ v,cs[j]? = some v ∧ au (fj w) (c a j) v
section
variable {P:Program} {t e:TypeId}
def b9p (k:IntKind) (z:Int):Nat → PV:=fun _=>.raw (.int k z)
def be0 (b:Bool):Nat → PV:=fun _=>.raw (.bool b)
def bds (s:ByteArray):Nat → PV:=fun _=>.raw (.string s)
theorem b7v {k:IntKind} (ht:P.underlying t = some (.int k)):Rd P t 1 (b9p k):=by
 intro H enc w sp held fuel cs x h
 obtain ⟨n,rfl,_,_⟩:=DataW.trod_int ht h
 refine ⟨rfl,n,fun j hj=>?_⟩
 obtain rfl:j = 0:=by omega
 exact ⟨_,rfl,rfl,rfl⟩
def u8P (u:UInt8):Nat → PV:=fun _=>.raw (.int .u8 (u.toNat:Int))
theorem Rd.co {n:Nat} {α β:Type} {c:α → Nat → PV} {c':β → Nat → PV} (h:Rd P t n c) (f:α → β) (hc:∀ a j,j < n → CoP (c a j) (c' (f a) j)):Rd P t n c':=by
 intro H enc w sp held fuel cs x hx
 obtain ⟨h1,a,h2⟩:=h _ enc w sp held fuel cs x hx
 refine ⟨h1,f a,fun j hj=>?_⟩
 obtain ⟨v,h3,h4⟩:=h2 j hj
 exact ⟨v,h3,hc a j hj _ _ h4⟩
def b99 {α:Type} [Inhabited α] (s:Nat) (c:α → Nat → PV) (l:List α):Nat → PV:=fun _=>psl s c l
theorem au5 {s:Nat} {α:Type} [Inhabited α] {c:α → Nat → PV} (ht:P.underlying t = some (.slice e)) (hc:P.cellsOf e = s) (hs:0 < s) (h:Rd P e s c):Rd P t 1 (b99 s c):=by
 classical
 intro H enc w sp held fuel cs x hx
 rcases DataW.trod_slice ht hx with ⟨rfl,_⟩ | ⟨a,len,cap,elems,rest,n,rfl,rfl,_,hb,hl,hm,hlen,hel,_,_⟩
 · refine ⟨rfl,[],fun j hj=>?_⟩
   obtain rfl:j = 0:=by omega
   exact ⟨_,rfl,none,0,rfl,Nat.le_refl _,Nat.zero_le _,(fun hh=>by cases hh),fun hh=>absurd hh (Nat.lt_irrefl 0)⟩
 have each:∀ i,i < len → ∃ q:α,∀ j,j < s → ∃ v,w.cell? (a.add (i * s + j)) = some v ∧ au (fj w) (c q j) v:=by
  intro i hi
  have h1:=hel i hi
  rw [hc] at h1
  rw [List.getElem?_eq_getElem (by omega)] at h1
  obtain ⟨cs',h2,h3⟩:=Option.bind_eq_some_iff.1 h1
  obtain ⟨_,h4,h5⟩:=World.cells?_some h2
  obtain ⟨_,q,h6⟩:=h _ enc w sp held n cs' _ h3
  refine ⟨q,fun j hj=>?_⟩
  obtain ⟨v,h7,h8⟩:=h6 j hj
  refine ⟨v, ?_,h8⟩
  have:=h5 j hj
  rw [h7] at this
  rw [← this]
  congr 1
  unfold Addr.add
  by_cases hj0:j = 0
  · subst hj0
    simp
  by_cases hi0:i * s = 0
  · simp [hi0,hj0]
  have:¬ (i * s + j = 0):=by omega
  simp only [hj0,hi0,this,if_false]
  congr 1
  omega
 refine ⟨rfl,(List.range len).map fun i=>if hi:i < len then Classical.choose (each i hi) else default,fun j hj=>?_⟩
 obtain rfl:j = 0:=by omega
 refine ⟨_,rfl,some a,cap,by simp,by simpa using hl,hm,(fun hh=>by cases hh),fun hn=>?_⟩
 have hn:0 < len:=by simpa using hn
 have hspot:a.spot = none:=by
  obtain ⟨q,hq⟩:=each 0 hn
  obtain ⟨v,hv,_⟩:=hq 0 hs
  have:a.add (0 * s + 0) = a:=by simp [Addr.add]
  rw [this] at hv
  unfold World.cell? at hv
  split at hv
  · split at hv
    · cases hv
    rename_i hsp
    simpa using hsp
  cases hv
 refine ⟨a.block,a.off, ?_,fun i j hi hj=>?_⟩
 · obtain ⟨b,o,spo⟩:=a
   simp only at hspot
   subst hspot
   rfl
 have hi:i < len:=by simpa using hi
 have hch:=Classical.choose_spec (each i hi)
 obtain ⟨v,hv,hr⟩:=hch j hj
 refine ⟨v, ?_, ?_⟩
 · unfold World.cell? at hv
   have hblk:(a.add (i * s + j)).block = a.block:=by unfold Addr.add;split <;> rfl
   have hoff:(a.add (i * s + j)).off = a.off + (i * s + j):=by
    unfold Addr.add
    split
    · rename_i h0;rw [h0];rfl
    rfl
   rw [hblk,hoff] at hv
   unfold ij fj
   split at hv
   · rename_i hb'
     rw [hb']
     split at hv
     · cases hv
     exact hv
   cases hv
 have:lf c ((List.range len).map fun i=>if hi:i < len then Classical.choose (each i hi) else default) i j = c (Classical.choose (each i hi)) j:=by
  unfold lf
  simp [List.getD,hi]
 rw [this]
 exact hr
theorem as9 {H:Type} {enc:TypeId × Value → H} {w:World} {sp:Nat → Bool} {held:Bool} {fuel:Nat} {cs:List Value} {x:DataW H × List MemPlace} {fs:Array Field} (ht:P.underlying t = some (.struct fs)) (h:DataW.trod enc P w 0 sp held fuel t cs = some x) :
 cs.length = P.cellsOf t ∧ ∃ n,∀ (i:Nat) (f:Field),fs[i]? = some f → ∃ y,DataW.trod enc P w 0 sp held n f.type ((cs.drop f.offset).take (P.cellsOf f.type)) = some y:=by
 obtain ⟨xs,n,_,_,h1,h2,h3⟩:=DataW.trod_struct ht h
 refine ⟨h1,n,fun i f hf=>?_⟩
 have:=h3 i f hf
 rw [this]
 have hi:i < xs.length:=by rw [h2];exact (Array.getElem?_eq_some_iff.1 hf).1
 exact ⟨_,List.getElem?_eq_getElem hi⟩
theorem af7 {H:Type} {enc:TypeId × Value → H} {w:World} {sp:Nat → Bool} {held:Bool} {n off s:Nat} {ft:TypeId} {cs:List Value} {y:DataW H × List MemPlace} {α:Type} {c:α → Nat → PV} (h:Rd P ft s c) (hy:DataW.trod enc P w 0 sp held n ft ((cs.drop off).take (P.cellsOf ft)) = some y) :
 ∃ a:α,∀ j,j < s → ∃ v,cs[off + j]? = some v ∧ au (fj w) (c a j) v:=by
 obtain ⟨h1,a,h2⟩:=h _ enc w sp held n _ y hy
 refine ⟨a,fun j hj=>?_⟩
 obtain ⟨v,h3,h4⟩:=h2 j hj
 refine ⟨v, ?_,h4⟩
 rw [List.getElem?_take] at h3
 split at h3
 · rwa [List.getElem?_drop] at h3
 cases h3
end
theorem ab7 {W W':World} (hb:Below W.heap.size W W') (may:MemPlace → Prop):W.keptBut W' may:=by
 refine ⟨hb.os,hb.output,fun i hi=>?_⟩
 rw [hb.block i hi]
 cases W.heap[i]? with
 | none=>exact rfl
 | some o=>cases o <;> first | exact ⟨rfl,rfl,rfl,fun _ _=>rfl⟩ | exact .inr ⟨rfl,rfl⟩ | exact rfl
theorem ab9 {W W':World} (hb:Below W.heap.size W W') (p:MemPlace) (hp:p.block < W.heap.size):W.sameAt W' p:=by
 cases p with
 | cell b off=>show W'.cell? _ = W.cell? _;unfold World.cell?;rw [hb.block b hp]
 | map b=>exact hb.block b hp
section
variable {H:Type} {enc:TypeId × Value → H} {P:Program}
theorem a06 (hl:laidOutB P = true) {W W':World} {sp':Nat → Bool}:∀ {ts:List TypeId} {vs:List Value} {ds:List (DataW H)} {ps:List MemPlace},(∀ t ∈ ts,P.readableRec t = true ∧ t < P.types.size) → DataW.TrodAll enc P W 0 (fun _=>true) true ts vs ds ps →
 (∀ p ∈ ps,W.sameAt W' p) → (∀ p ∈ ps,sp' p.block = true) → DataW.TrodAll enc P W' 0 sp' true ts vs ds ps
 | [],[],[],ps,_,h,_,_=>h
 | t :: ts,v :: vs,d :: ds,ps,ht,⟨p,q,h1,h2,e⟩,hs,hsp=>by
  subst e
  refine ⟨p,q,WideElems.Trod_stays hl (ht t (by simp)).1 (ht t (by simp)).2 h1 (fun z hz=>hs z (by simp [hz])) (fun z hz=>hsp z (by simp [hz])), ?_,rfl⟩
  exact a06 hl (fun t ht'=>ht t (by simp [ht'])) h2 (fun z hz=>hs z (by simp [hz])) (fun z hz=>hsp z (by simp [hz]))
 | [],_ :: _,_,_,_,h,_,_=>h.elim
 | [],[],_ :: _,_,_,h,_,_=>h.elim
 | _ :: _,[],_,_,_,h,_,_=>h.elim
 | _ :: _,_ :: _,[],_,_,h,_,_=>h.elim
theorem aww {f:Func} {s:ChangeSpec} {W W':World} {args:Array Value} {ds:List (DataW H)} {before:List MemPlace} {tb:TypeId} (hl:laidOutB P = true) (hpar:∀ t ∈ f.params.toList,P.readableRec t = true ∧ t < P.types.size)
 (hres:f.resultTypes = #[tb]) (htb:P.underlying tb = some .bool) (hv:s.vars = []) (hfn:s.fn H ds = { results:=[.lit (.bool true)],args:=ds })
 (hW:DataW.Whole enc P f.params.toList s.vars false W args.toList ds [] before) (hb:Below W.heap.size W W'):s.post enc P f false true false false W args (.bool true) W':=by
 have hW':=hW
 have hlt:∀ p ∈ before,p.block < W.heap.size:=fun p hp=>hW.lt p hp
 obtain ⟨p,q,hA,hV,rfl,hfz,hnd⟩:=hW
 rw [hv] at hV
 obtain ⟨_,rfl⟩:=trodVars_none hV
 have hfn':s.fn H (ds ++ []) = { results:=[.lit (.bool true)],args:=ds }:=by rw [List.append_nil];exact hfn
 have hargs:∀ sp:Nat → Bool,(∀ z ∈ p ++ [],sp z.block = true) → DataW.TrodAll enc P W' 0 sp true f.params.toList args.toList (s.fn H (ds ++ [])).args p:=fun sp hsp=>by
  rw [hfn']
  exact a06 hl hpar hA (fun z hz=>ab9 hb z (hlt z (by simpa using hz))) (fun z hz=>hsp z (by simpa using hz))
 have hrs:∀ (b:Nat) (sp:Nat → Bool) (hd:Bool),DataW.TrodAll enc P W' b sp hd f.resultTypes.toList ((Value.bool true).resultList f.resultTypes.size) (s.fn H (ds ++ [])).results []:=fun b sp hd=>by
  rw [hfn',hres]
  exact trodAll_cons_mk (shut_bool htb _) trodAll_mk0
 have hok:∀ (j:Nat) (t:TypeId) (r:Value),f.resultTypes[j]? = some t → ((Value.bool true).resultList f.resultTypes.size)[j]? = some r → Value.okWide P W' .any 0 t r:=ok_one hres rfl (okWide_bool_mk htb _)
 have hvars:∀ sp:Nat → Bool,(∀ z ∈ p ++ [],sp z.block = true) → DataW.TrodVars enc P W' sp s.vars (s.fn H (ds ++ [])).vars []:=fun sp _=>by
  rw [hfn',hv];exact rfl
 have hold:∀ z ∈ p ++ [],(fun b=>decide (b < W.heap.size)) z.block = true:=fun z hz=>by simpa using hlt z hz
 refine ⟨ds,[],p ++ [],[],p,[],hW',hrs _ _ _,hargs _ hold,hvars _ hold,World.keptBut_mono (fun z hz=>⟨hz, ?_⟩) (ab7 hb (· ∈ p ++ [])),fun _=>?_⟩
 · exact Or.inr (by simpa using hz)
 refine ⟨hok,_,_,([] ++ p) ++ [],⟨[] ++ p,[],trodAll_append (hargs _ (fun _ _=>rfl)) (hrs _ _ _),hvars _ (fun _ _=>rfl),rfl, ?_, ?_⟩, ?_⟩
 · intro b off hp
   have hp':MemPlace.cell b off ∈ p ++ []:=by simpa using hp
   have:=hfz b off hp'
   unfold World.frozen? at this ⊢
   rw [hb.block b (hlt _ hp')]
   exact this
 · intro ha;cases ha
 intro z hz _
 simpa using hz
end
theorem acn {P:Program} {W:World} {r:Reach} {b:Nat} {t e:TypeId} {v:Value} (ht:P.underlying t = some (.slice e)) (h:Value.okWide P W r b t v):v.cells.toList = [v]:=by
 unfold Value.okWide at h
 rw [ht] at h
 unfold Cell.okWide at h
 rw [ht] at h
 cases v <;> first | rfl | (simp [Cell.ok,ht] at h)
theorem a7g {P:Program} {W:World} {r:Reach} {b:Nat} {t:TypeId} {k:IntKind} {v:Value} (ht:P.underlying t = some (.int k)) (h:Value.okWide P W r b t v):v.cells.toList = [v]:=by
 unfold Value.okWide at h
 rw [ht] at h
 unfold Cell.okWide at h
 rw [ht] at h
 cases v <;> first | rfl | (simp [Cell.ok,ht] at h)
theorem aol {P:Program} {f:FuncId} {args:List PC} {us:List Value} {W:World} {R:Ending → World → Prop} (ht:nv (fj W)) (h:ae P f args (ai [.one (.raw (.bool true))])) (hr:c7 (fj W) args us) (hR:∀ W',Below W.heap.size W W' → R (.returned (.bool true)) W'):Calls P f us.toArray W R:=by
 refine (h W (fj W) us ht (fun _ _ hh=>hh) hr).mono ?_
 rintro e w' ⟨v,imm',rfl,hv,_,_,hb⟩
 obtain ⟨rfl,_⟩:=hv
 exact hR w' hb
end Go.Hx
end
