/- A part of the proof: W5 Oo1 Oo2 Hx31 Ow2. -/
import Derived.Test.YtdcdbghdgjlhhaaGreatOx14
import Derived.Test.YtdcdbghdgjlhhaaGreatOx16
import Derived.Test.YtdcdbghdgjlhhaaGreatOx17
set_option linter.all false
set_option maxRecDepth 100000
set_option maxHeartbeats 1000000
namespace Go.Hx
section
open Go.Proofs
theorem xn:am Tryz.prog 77:=wgx Tryz.func77
theorem a80 (n:Nat) (c:Bool) (f:Nat → Nat → PV) (hn:n ≤ 8796093022208) :
 br Tryz.prog 77 [.one (.p (.sl n 1 c f))] [] (.v (.one (.ref 0 n))) [(0, .arr true 1 9 n f)] []:=by
 refine c8 (nt:=8) a8 Tryz.func77 rfl rfl l9 rfl ?_;refine sx7 ?_;refine dj true rfl rfl rfl rfl rfl trivial ?_;refine ca ?_
 refine yz (ι:=Bool) (fun c=>⟨[(0,some (cf (.sl n 1 c f)))],[]⟩) (fun _=>True) ?_ fun c _=>?_
 · rcases Nat.eq_zero_or_pos n with hz | h0
   · subst hz
     refine hw_exact' 0 rfl fun ad cap hcap=>?_
     refine sx7 ?_;(iterate 2 refine dj true rfl rfl rfl rfl rfl trivial ?_);refine ca ?_;refine a7 ad.isNone rfl (fun hc=>?_) (fun hc=>?_)
     · refine sx7 ?_
       refine dj true rfl rfl rfl rfl rfl trivial ?_;refine ca ?_;refine o9 2 0 true 1 9 f (by decide) rfl (CoP.sl rfl (.inr rfl) (fun h=>h) fun i j hi _=>absurd hi (Nat.not_lt_zero i)) (.inr rfl) rfl ?_
       refine ej ?_;refine ⟨.inr rfl, ?_⟩
       exact ⟨_,_,rfl,trivial,CoR.refl _,⟨u9,trivial⟩⟩
     refine ew ?_
     exact ⟨false,trivial,⟨⟨_,rfl,CoP.raw_sl hcap⟩,trivial⟩,trivial⟩
   refine sx7 ?_;refine dj true rfl rfl rfl rfl rfl trivial ?_;refine dj true rfl rfl rfl rfl rfl h0 ?_;refine ca ?_;refine a7 false rfl (fun hc=>by cases hc) (fun hc=>?_);refine ew ?_
   exact ⟨c,trivial,⟨c9,trivial⟩,trivial⟩
 refine sx7 ?_;refine ur 0 rfl rfl rfl rfl rfl rfl trivial ?_;refine dj true rfl rfl rfl rfl rfl trivial ?_
 refine a1k 0 true rfl rfl rfl rfl rfl rfl ⟨trivial,rfl,rfl,rfl, .inl rfl,by show 0 + n ≤ 9223372036854775807;omega,by show (0 + n) * 16 ≤ 140737488355328;omega,fun _=>.inl rfl⟩ ?_
 refine dj true rfl rfl rfl rfl rfl trivial ?_;refine w_2 ?_;refine ⟨.inr rfl, ?_⟩;refine ⟨_,_,rfl,trivial,CoR.of_eq (by show HR.v (.one (.ref 0 (0 + n))) = _;rw [Nat.zero_add]),⟨⟨_,rfl, ?_⟩,trivial⟩⟩
 exact ⟨fun h=>h,rfl,rfl,(Nat.zero_add n).symm,fun i j _ _=>CoP.of_eq (by simp [eo])⟩
theorem adc (n:Nat) (c:Bool) (f:Nat → Nat → PV) (hn:n ≤ 8796093022208):ay Tryz.prog 77 [.one (.sl n 1 c f)] (.v (.one (.sl n 1 false f))) :=
 br.pure (args:=[.one (.sl n 1 c f)]) (l:=[.one (.ref 0 n)]) (a80 n c f hn) rfl ⟨rfl,trivial⟩
theorem c77 (l:List ByteArray) (h:l.length ≤ 68719476736):ay Tryz.prog 77 [pP (psl 1 lm l)] (bu [pP (psl 1 lm l)]):=adc l.length false (lf lm l) (by omega)
theorem ai7 (l:List ByteArray) (h:l.length ≤ 68719476736):br Tryz.prog 77 [.one (.p (psl 1 lm l))] [] (.v (.one (.ref 0 l.length))) [(0, .arr true 1 9 l.length (lf lm l))] []:=a80 l.length false (lf lm l) (by omega)
theorem xf:am Tryz.prog 78:=wgx Tryz.func78
theorem a82 (n:Nat) (c:Bool) (f:Nat → Nat → PV) (hn:n ≤ 4398046511104) :
 br Tryz.prog 78 [.one (.p (.sl n 3 c f))] [] (.v (.one (.ref 0 n))) [(0, .arr true 3 47 n f)] []:=by
 refine c8 (nt:=8) a8 Tryz.func78 rfl rfl l9 rfl ?_;refine sx7 ?_;refine dj true rfl rfl rfl rfl rfl trivial ?_;refine ca ?_
 refine yz (ι:=Bool) (fun c=>⟨[(0,some (cf (.sl n 3 c f)))],[]⟩) (fun _=>True) ?_ fun c _=>?_
 · rcases Nat.eq_zero_or_pos n with hz | h0
   · subst hz
     refine hw_exact' 0 rfl fun ad cap hcap=>?_
     refine sx7 ?_;(iterate 2 refine dj true rfl rfl rfl rfl rfl trivial ?_);refine ca ?_;refine a7 ad.isNone rfl (fun hc=>?_) (fun hc=>?_)
     · refine sx7 ?_
       refine dj true rfl rfl rfl rfl rfl trivial ?_;refine ca ?_;refine o9 2 0 true 3 47 f (by decide) rfl (CoP.sl rfl (.inr rfl) (fun h=>h) fun i j hi _=>absurd hi (Nat.not_lt_zero i)) (.inr rfl) rfl ?_
       refine ej ?_;refine ⟨.inr rfl, ?_⟩
       exact ⟨_,_,rfl,trivial,CoR.refl _,⟨u9,trivial⟩⟩
     refine ew ?_
     exact ⟨false,trivial,⟨⟨_,rfl,CoP.raw_sl hcap⟩,trivial⟩,trivial⟩
   refine sx7 ?_;refine dj true rfl rfl rfl rfl rfl trivial ?_;refine dj true rfl rfl rfl rfl rfl h0 ?_;refine ca ?_;refine a7 false rfl (fun hc=>by cases hc) (fun hc=>?_);refine ew ?_
   exact ⟨c,trivial,⟨c9,trivial⟩,trivial⟩
 refine sx7 ?_;refine ur 0 rfl rfl rfl rfl rfl rfl trivial ?_;refine dj true rfl rfl rfl rfl rfl trivial ?_
 refine a1k 0 true rfl rfl rfl rfl rfl rfl ⟨trivial,rfl,rfl,rfl, .inl rfl,by show 0 + n ≤ 9223372036854775807;omega,by show (0 + n) * 32 ≤ 140737488355328;omega,fun _=>.inl rfl⟩ ?_
 refine dj true rfl rfl rfl rfl rfl trivial ?_;refine w_2 ?_;refine ⟨.inr rfl, ?_⟩;refine ⟨_,_,rfl,trivial,CoR.of_eq (by show HR.v (.one (.ref 0 (0 + n))) = _;rw [Nat.zero_add]),⟨⟨_,rfl, ?_⟩,trivial⟩⟩
 exact ⟨fun h=>h,rfl,rfl,(Nat.zero_add n).symm,fun i j _ _=>CoP.of_eq (by simp [eo])⟩
theorem adj (n:Nat) (c:Bool) (f:Nat → Nat → PV) (hn:n ≤ 4398046511104):ay Tryz.prog 78 [.one (.sl n 3 c f)] (.v (.one (.sl n 3 false f))) :=
 br.pure (args:=[.one (.sl n 3 c f)]) (l:=[.one (.ref 0 n)]) (a82 n c f hn) rfl ⟨rfl,trivial⟩
theorem c78 (l:List Val) (h:l.length ≤ 68719476736):ay Tryz.prog 78 [pP (psl 3 Val.c l)] (bu [pP (psl 3 Val.c l)]):=adj l.length false (lf Val.c l) (by omega)
theorem ag5 (l:List Val) (h:l.length ≤ 68719476736):br Tryz.prog 78 [.one (.p (psl 3 Val.c l))] [] (.v (.one (.ref 0 l.length))) [(0, .arr true 3 47 l.length (lf Val.c l))] []:=a82 l.length false (lf Val.c l) (by omega)
theorem ow:am Tryz.prog 66:=wgx Tryz.func66
theorem a7a (n:Nat) (c:Bool) (f:Nat → Nat → PV) (hn:n ≤ 2199023255552) :
 br Tryz.prog 66 [.one (.p (.sl n 3 c f))] [] (.v (.one (.ref 0 n))) [(0, .arr true 3 42 n f)] []:=by
 refine c8 (nt:=8) a8 Tryz.func66 rfl rfl l9 rfl ?_;refine sx7 ?_;refine dj true rfl rfl rfl rfl rfl trivial ?_;refine ca ?_
 refine yz (ι:=Bool) (fun c=>⟨[(0,some (cf (.sl n 3 c f)))],[]⟩) (fun _=>True) ?_ fun c _=>?_
 · rcases Nat.eq_zero_or_pos n with hz | h0
   · subst hz
     refine hw_exact' 0 rfl fun ad cap hcap=>?_
     refine sx7 ?_;(iterate 2 refine dj true rfl rfl rfl rfl rfl trivial ?_);refine ca ?_;refine a7 ad.isNone rfl (fun hc=>?_) (fun hc=>?_)
     · refine sx7 ?_
       refine dj true rfl rfl rfl rfl rfl trivial ?_;refine ca ?_;refine o9 2 0 true 3 42 f (by decide) rfl (CoP.sl rfl (.inr rfl) (fun h=>h) fun i j hi _=>absurd hi (Nat.not_lt_zero i)) (.inr rfl) rfl ?_
       refine ej ?_;refine ⟨.inr rfl, ?_⟩
       exact ⟨_,_,rfl,trivial,CoR.refl _,⟨u9,trivial⟩⟩
     refine ew ?_
     exact ⟨false,trivial,⟨⟨_,rfl,CoP.raw_sl hcap⟩,trivial⟩,trivial⟩
   refine sx7 ?_;refine dj true rfl rfl rfl rfl rfl trivial ?_;refine dj true rfl rfl rfl rfl rfl h0 ?_;refine ca ?_;refine a7 false rfl (fun hc=>by cases hc) (fun hc=>?_);refine ew ?_
   exact ⟨c,trivial,⟨c9,trivial⟩,trivial⟩
 refine sx7 ?_;refine ur 0 rfl rfl rfl rfl rfl rfl trivial ?_;refine dj true rfl rfl rfl rfl rfl trivial ?_
 refine a1k 0 true rfl rfl rfl rfl rfl rfl ⟨trivial,rfl,rfl,rfl, .inl rfl,by show 0 + n ≤ 9223372036854775807;omega,by show (0 + n) * 64 ≤ 140737488355328;omega,fun _=>.inl rfl⟩ ?_
 refine dj true rfl rfl rfl rfl rfl trivial ?_;refine w_2 ?_;refine ⟨.inr rfl, ?_⟩;refine ⟨_,_,rfl,trivial,CoR.of_eq (by show HR.v (.one (.ref 0 (0 + n))) = _;rw [Nat.zero_add]),⟨⟨_,rfl, ?_⟩,trivial⟩⟩
 exact ⟨fun h=>h,rfl,rfl,(Nat.zero_add n).symm,fun i j _ _=>CoP.of_eq (by simp [eo])⟩
theorem ad0 (n:Nat) (c:Bool) (f:Nat → Nat → PV) (hn:n ≤ 2199023255552):ay Tryz.prog 66 [.one (.sl n 3 c f)] (.v (.one (.sl n 3 false f))) :=
 br.pure (args:=[.one (.sl n 3 c f)]) (l:=[.one (.ref 0 n)]) (a7a n c f hn) rfl ⟨rfl,trivial⟩
theorem c66 (l:List Tbl) (h:l.length ≤ 68719476736):ay Tryz.prog 66 [pP (psl 3 Tbl.c l)] (bu [pP (psl 3 Tbl.c l)]):=ad0 l.length false (lf Tbl.c l) (by omega)
theorem a0q (l:List Tbl) (h:l.length ≤ 68719476736):br Tryz.prog 66 [.one (.p (psl 3 Tbl.c l))] [] (.v (.one (.ref 0 l.length))) [(0, .arr true 3 42 l.length (lf Tbl.c l))] []:=a7a l.length false (lf Tbl.c l) (by omega)
theorem p8:am Tryz.prog 52:=wgx Tryz.func52
theorem c52 (r:Row) (h:r.vals.length ≤ 68719476736):ay Tryz.prog 52 [r.pc] (bu [r.pc]):=by
 refine av (nt:=9) a8 Tryz.func52 rfl rfl l9 ?_;refine sx7 ?_;refine m9 0 ?_;refine m9 1 ?_;refine w_2 ?_;refine ap (E:=au) a8 ag [0,1,2,3,4,5,6] ?_;refine w_4 ?_
 refine rc rfl rfl rfl rfl rfl rfl xf (c78 _ (by first | assumption | omega)) (CoL.refl _) rfl rfl ?_;refine w_3 ?_;refine ⟨by kernel_rfl, ?_⟩
 exact hx8 rfl rfl rfl (CoL.refl _)
theorem uw:am Tryz.prog 98:=wgx Tryz.func98
theorem c98 (r:Row) (h:r.vals.length ≤ 68719476736):ay Tryz.prog 98 [r.pc] (bu [r.pc]):=by
 refine av (nt:=9) a8 Tryz.func98 rfl rfl l9 ?_;refine sx7 ?_;refine m9 0 ?_;refine m9 1 ?_;refine w_2 ?_;refine ap (E:=au) a8 ag [0,1,2,3,4,5,6] ?_;refine w_4 ?_
 refine rc rfl rfl rfl rfl rfl rfl xf (c78 _ (by first | assumption | omega)) (CoL.refl _) rfl rfl ?_;refine w_3 ?_;refine ⟨by kernel_rfl, ?_⟩
 exact hx8 rfl rfl rfl (CoL.refl _)
theorem uy:am Tryz.prog 85:=wgx Tryz.func85
theorem c85 (r:Row) (h:r.vals.length ≤ 68719476736):ay Tryz.prog 85 [r.pc] (bu [r.pc]):=by
 refine av (nt:=10) a8 Tryz.func85 rfl rfl l9 ?_;refine sx7 ?_;refine m9 0 ?_;refine m9 1 ?_;refine w_2 ?_;refine ap (E:=au) a8 ag [0,1,2,3,4,5,6,7] ?_;refine w_2 ?_;refine m9 2 ?_
 refine w_2 ?_;refine ra 3 true rfl rfl rfl rfl rfl rfl ?_;refine w_3 ?_;refine ⟨by kernel_rfl, ?_⟩
 exact hx8 rfl rfl rfl (⟨CoC.agg ⟨CoP.refl _,yy,trivial⟩,trivial⟩)
theorem rt:am Tryz.prog 51:=wgx Tryz.func51
theorem c51 (t:Tbl) (h:t.ok):ay Tryz.prog 51 [t.pc] (bu [t.pc]):=by
 refine av (nt:=28) a8 Tryz.func51 rfl rfl l9 ?_
 have hrl:=h.2.1
 refine sx7 ?_;refine m9 0 ?_;refine m9 1 ?_;refine w_2 ?_;refine ap (E:=au) a8 ag [0,1,2,3,4,5,6,7] ?_;refine w_4 ?_;refine qcx xn (c77 _ h.1) ?_;refine qy ?_;refine m9 2 ?_;refine w_2 ?_
 refine ⟨by kernel_rfl, ?_⟩;refine w_9 ?_;refine ct 2 2 9 true 2 45 (lf Row.c t.rows) (by decide) rfl rfl (CoP.sl rfl (.inr rfl) (fun h=>h) (fun i j hi _=>absurd hi (Nat.not_lt_zero i))) (.inr rfl) rfl rfl ?_
 refine az (ι:=Nat) ⟨[(2,some _),(3,some _),(13,some _),(14,some _)],[(1,some _)]⟩ ⟨⟨c9,c9,c9,c9,trivial⟩,⟨u9,trivial⟩⟩ (fun i=>⟨[(15,some (vI i))],[(2,some (.box [.p (.raw (.string t.name)), .p (it t.attrs), .ref 9 i])),(9,some (.arr true 2 45 i (lf Row.c t.rows)))]⟩) (fun i=>i ≤ t.rows.length) (fun i=>t.rows.length - i) (0) (Nat.zero_le _) ⟨⟨zy,trivial⟩,⟨u9,u9,trivial⟩⟩ ?_
 rintro i hi
 refine w_5 ?_;refine a7 _ rfl (fun r0=>?_) (fun r0=>?_)
 ·
  have h0:=ae r0
  try simp only [ty] at h0
  refine w_7 ?_;refine m9 3 ?_;refine w_2 ?_;refine ap (E:=au) a8 ag [0,1,2,3,4,5,6,7] ?_;refine w_3 ?_
  refine rc rfl rfl rfl rfl rfl rfl p8 (c52 _ (h.2.2 i (by omega)).1) (CoL.refl _) rfl rfl ?_;refine m9 4 ?_;refine ra 5 true rfl rfl rfl rfl rfl rfl ?_;refine w_3 ?_;refine ⟨by kernel_rfl, ?_⟩;refine w_4 ?_
  refine ⟨i + 1, ?_, ?_, ?_⟩
  · show i + 1 ≤ _
    omega
  · first | omega | (dsimp only;omega)
  exact ⟨⟨zy,c9,c9,c9,c9,trivial⟩,⟨u9,⟨_,rfl,(fc (fun h=>h) (lt2 (CoP.refl _) (CoP.refl _)))⟩,u9,trivial⟩⟩
 have h0:=aa r0
 try simp only [ty] at h0
 obtain rfl:i = t.rows.length:=by omega
 refine w_6 ?_
 exact hx8 rfl rfl rfl (CoL.refl _)
theorem a5j:am Tryz.prog 94:=wgx Tryz.func94
theorem c94 (t:Tbl) (l:List Row) (ha:t.attrs.length ≤ 68719476736) (hl:l.length ≤ 68719476736) (hr:k7 l):ay Tryz.prog 94 [t.pc,pP (rows l)] (bu [(⟨t.name,t.attrs,l⟩:Tbl).pc]):=by
 refine av (nt:=29) a8 Tryz.func94 rfl rfl l9 ?_;refine sx7 ?_;refine m9 0 ?_;refine m9 1 ?_;refine w_2 ?_;refine ap (E:=au) a8 ag [0,1,2,3,4,5,6,7] ?_;refine w_4 ?_
 refine qcx xn (c77 _ ha) ?_;refine qy ?_;refine m9 2 ?_;refine w_2 ?_;refine ⟨by kernel_rfl, ?_⟩;refine w_8 ?_
 refine ct 2 2 9 true 2 45 (lf Row.c l) (by decide) rfl rfl (CoP.sl rfl (.inr rfl) (fun h=>h) (fun i j hi _=>absurd hi (Nat.not_lt_zero i))) (.inr rfl) rfl rfl ?_
 refine az (ι:=Nat) ⟨[(4,some _),(5,some _),(14,some _),(15,some _)],[(1,some _)]⟩ ⟨⟨c9,c9,c9,c9,trivial⟩,⟨u9,trivial⟩⟩ (fun i=>⟨[(16,some (vI i))],[(2,some (.box [.p (.raw (.string t.name)), .p (it t.attrs), .ref 9 i])),(9,some (.arr true 2 45 i (lf Row.c l)))]⟩) (fun i=>i ≤ l.length) (fun i=>l.length - i) (0) (Nat.zero_le _) ⟨⟨zy,trivial⟩,⟨u9,u9,trivial⟩⟩ ?_
 rintro i hi
 refine w_5 ?_;refine a7 _ rfl (fun r0=>?_) (fun r0=>?_)
 ·
  have h0:=ae r0
  try simp only [ty] at h0
  refine w_7 ?_;refine m9 3 ?_;refine w_2 ?_;refine ap (E:=au) a8 ag [0,1,2,3,4,5,6,7] ?_;refine w_3 ?_;refine rc rfl rfl rfl rfl rfl rfl uw (c98 _ (hr i (by omega)).1) (CoL.refl _) rfl rfl ?_
  refine m9 4 ?_;refine ra 5 true rfl rfl rfl rfl rfl rfl ?_;refine w_3 ?_;refine ⟨by kernel_rfl, ?_⟩;refine w_4 ?_;refine ⟨i + 1, ?_, ?_, ?_⟩
  · show i + 1 ≤ _
    omega
  · first | omega | (dsimp only;omega)
  exact ⟨⟨zy,c9,c9,c9,c9,trivial⟩,⟨u9,⟨_,rfl,(fc (fun h=>h) (lt2 (CoP.refl _) (CoP.refl _)))⟩,u9,trivial⟩⟩
 have h0:=aa r0
 try simp only [ty] at h0
 obtain rfl:i = l.length:=by omega
 refine w_6 ?_
 exact hx8 rfl rfl rfl (CoL.refl _)
theorem a6a:am Tryz.prog 84:=wgx Tryz.func84
theorem c84 (t:Tbl) (l:List Row) (ha:t.attrs.length ≤ 68719476736) (hl:l.length ≤ 68719476736) (hr:k7 l):ay Tryz.prog 84 [t.pc,pP (rows l)] (bu [(⟨t.name,t.attrs,l⟩:Tbl).pc]):=by
 refine av (nt:=31) a8 Tryz.func84 rfl rfl l9 ?_;refine sx7 ?_;refine m9 0 ?_;refine m9 1 ?_;refine w_2 ?_;refine ap (E:=au) a8 ag [0,1,2,3,4,5,6,7,8] ?_;refine w_2 ?_;refine m9 2 ?_
 refine w_2 ?_;refine ra 3 true rfl rfl rfl rfl rfl rfl ?_;refine qy ?_;refine m9 4 ?_;refine w_2 ?_;refine ⟨by kernel_rfl, ?_⟩;refine f4 4 1 rfl rfl rfl rfl rfl ?_;refine w_6 ?_
 refine ct 4 2 9 true 2 45 (lf Row.c l) (by decide) rfl rfl (CoP.sl rfl (.inr rfl) (fun h=>h) (fun i j hi _=>absurd hi (Nat.not_lt_zero i))) (.inr rfl) rfl rfl ?_
 refine az (ι:=Nat) ⟨[(1,some _),(4,some _),(5,some _)],[(1,some _)]⟩ ⟨⟨c9,c9,c9,trivial⟩,⟨u9,trivial⟩⟩ (fun i=>⟨[(6,some (vI i))],[(4,some (.box [.p (.raw (.string t.name)), .p (it t.attrs), .ref 9 i])),(9,some (.arr true 2 45 i (lf Row.c l)))]⟩) (fun i=>i ≤ l.length) (fun i=>l.length - i) (0) (Nat.zero_le _) ⟨⟨zy,trivial⟩,⟨⟨_,rfl,⟨CoH.refl _,yy,CoH.refl _,trivial⟩⟩,u9,trivial⟩⟩ ?_
 rintro i hi
 refine w_8 ?_;refine a7 _ rfl (fun r0=>?_) (fun r0=>?_)
 ·
  have h0:=ae r0
  try simp only [ty] at h0
  refine w_3 ?_;refine ap (E:=au) a8 ag [0,1,2,3,4,5,6,7,8,9,10] ?_;refine w_6 ?_;refine rc rfl rfl rfl rfl rfl rfl uy (c85 _ (hr i (by omega)).1) (CoL.refl _) rfl rfl ?_;refine m9 5 ?_
  refine ra 6 true rfl rfl rfl rfl rfl rfl ?_;refine w_3 ?_;refine ⟨by kernel_rfl, ?_⟩;refine w_5 ?_;refine ⟨i + 1, ?_, ?_, ?_⟩
  · show i + 1 ≤ _
    omega
  · first | omega | (dsimp only;omega)
  exact ⟨⟨zy,c9,c9,c9,trivial⟩,⟨u9,⟨_,rfl,(fc (fun h=>h) (lt2 (CoP.refl _) (CoP.refl _)))⟩,u9,trivial⟩⟩
 have h0:=aa r0
 try simp only [ty] at h0
 obtain rfl:i = l.length:=by omega
 refine w_6 ?_
 exact hx8 rfl rfl rfl (CoL.refl _)
theorem agi:am Tryz.prog 69:=wgx Tryz.func69
theorem c69 (a b:List Val):ay Tryz.prog 69 [pP (vals a),pP (vals b)] (bu [pB (decide (a = b))]):=by
 refine av (nt:=26) a8 Tryz.func69 rfl rfl l9 ?_;refine jw 0 rfl (fun hn=>?_);refine sv ?_;refine a7 _ rfl (fun r0=>?_) (fun r0=>?_)
 ·
  have h0:=r0
  have h0:=aa (b7 h0)
  try simp only [ty] at h0
  refine w_4 ?_
  exact hx8 rfl rfl rfl (⟨ccb (decide_eq_false (fun e=>h0 (by rw [e]))).symm,trivial⟩)
 have h0:=r0
 have h0:=ae (b8 h0)
 try simp only [ty] at h0
 refine ew ?_;refine df (ι:=Unit) ⟨[],[]⟩ ⟨trivial,trivial⟩ (fun _i=>⟨[],[]⟩) (fun _i=>a = b) ?_ ?_
 ·
  refine w_7 ?_
  refine az (ι:=Nat) ⟨[(0,some _),(1,some _),(12,some _)],[]⟩ ⟨⟨c9,c9,c9,trivial⟩,trivial⟩ (fun i=>⟨[(13,some (vI i))],[]⟩) (fun i=>i ≤ a.length ∧ ∀ j,j < i → a.getD j default = b.getD j default) (fun i=>a.length - i) (0) (⟨Nat.zero_le _,dy⟩) ⟨⟨zy,trivial⟩,trivial⟩ ?_
  rintro i ⟨hi,hI⟩
  refine w_5 ?_;refine a7 _ rfl (fun r1=>?_) (fun r1=>?_)
  ·
   have h1:=ae r1
   try simp only [ty] at h1
   refine w_9 ?_;refine ap (E:=au) a8 ag [0,1,2,3,4,5,6,7,8] ?_;refine dz ?_;refine ⟨by kernel_rfl, ?_⟩;refine a7 _ rfl (fun r2=>?_) (fun r2=>?_)
   ·
    have h2:=r2
    have hN:¬ a.getD i default = b.getD i default:=fun e=>by rw [Val.eq_iff] at e;simp_all
    refine w_4 ?_
    exact hx8 rfl rfl rfl (⟨ccb (decide_eq_false (fun e=>hN (by subst e;rfl))).symm,trivial⟩)
   have h2:=r2
   have hN:a.getD i default = b.getD i default:=Val.eq_iff.2 (by simpa [and_assoc] using h2)
   refine w_5 ?_;refine ⟨i + 1, ?_, ?_, ?_⟩
   · exact ⟨by omega,dr hI (hN)⟩
   · first | omega | (dsimp only;omega)
   exact ⟨⟨zy,c9,c9,c9,trivial⟩,trivial⟩
  have h1:=aa r1
  try simp only [ty] at h1
  refine cw ?_;refine ⟨(), ?_, ?_⟩
  · exact ut (by omega) fun j hj=>hI j (by omega)
  exact ⟨trivial,trivial⟩
 rintro _ hj
 refine w_4 ?_
 exact hx8 rfl rfl rfl (⟨ccb (decide_eq_true hj).symm,trivial⟩)
theorem nk:am Tryz.prog 49:=wgx Tryz.func49
theorem c49 (c:Int) (hc:0 ≤ c):ay Tryz.prog 49 [pU c] (bu [(ofI (c % 12)).pc]):=by
 refine av (nt:=39) a8 Tryz.func49 rfl rfl l9 ?_;refine sx7 ?_;refine m9 0 ?_;refine sv ?_;refine a7 _ rfl (fun r0=>?_) (fun r0=>?_)
 ·
  have h0:=ae r0
  try simp only [ty] at h0
  refine w_5 ?_
  exact hx8 rfl rfl rfl (⟨CoC.of_eq (by rw [show ofI (c % 12) = ⟨1,0,emp⟩ from by simp [ofI, *]];rfl),trivial⟩)
 have h0:=aa r0
 try simp only [ty] at h0
 refine w_5 ?_;refine a7 _ rfl (fun r1=>?_) (fun r1=>?_)
 ·
  have h1:=ae r1
  try simp only [ty] at h1
  refine w_5 ?_
  exact hx8 rfl rfl rfl (⟨CoC.of_eq (by rw [show ofI (c % 12) = ⟨1,1,emp⟩ from by simp [ofI, *]];rfl),trivial⟩)
 have h1:=aa r1
 try simp only [ty] at h1
 refine w_5 ?_;refine a7 _ rfl (fun r2=>?_) (fun r2=>?_)
 ·
  have h2:=ae r2
  try simp only [ty] at h2
  refine w_5 ?_
  exact hx8 rfl rfl rfl (⟨CoC.of_eq (by rw [show ofI (c % 12) = ⟨1,2,emp⟩ from by simp [ofI, *]];rfl),trivial⟩)
 have h2:=aa r2
 try simp only [ty] at h2
 refine w_5 ?_;refine a7 _ rfl (fun r3=>?_) (fun r3=>?_)
 ·
  have h3:=ae r3
  try simp only [ty] at h3
  refine w_5 ?_
  exact hx8 rfl rfl rfl (⟨CoC.of_eq (by rw [show ofI (c % 12) = ⟨0,0,emp⟩ from by simp [ofI, *]];rfl),trivial⟩)
 have h3:=aa r3
 try simp only [ty] at h3
 refine w_5 ?_;refine a7 _ rfl (fun r4=>?_) (fun r4=>?_)
 ·
  have h4:=ae r4
  try simp only [ty] at h4
  refine w_5 ?_
  exact hx8 rfl rfl rfl (⟨CoC.of_eq (by rw [show ofI (c % 12) = ⟨2,0,⟨#[97]⟩⟩ from by simp [ofI, *]];rfl),trivial⟩)
 have h4:=aa r4
 try simp only [ty] at h4
 refine w_5 ?_;refine a7 _ rfl (fun r5=>?_) (fun r5=>?_)
 ·
  have h5:=ae r5
  try simp only [ty] at h5
  refine w_5 ?_
  exact hx8 rfl rfl rfl (⟨CoC.of_eq (by rw [show ofI (c % 12) = ⟨2,0,⟨#[98]⟩⟩ from by simp [ofI, *]];rfl),trivial⟩)
 have h5:=aa r5
 try simp only [ty] at h5
 refine w_5 ?_;refine a7 _ rfl (fun r6=>?_) (fun r6=>?_)
 ·
  have h6:=ae r6
  try simp only [ty] at h6
  refine w_5 ?_
  exact hx8 rfl rfl rfl (⟨CoC.of_eq (by rw [show ofI (c % 12) = ⟨2,0,emp⟩ from by simp [ofI, *]];rfl),trivial⟩)
 have h6:=aa r6
 try simp only [ty] at h6
 refine w_5 ?_;refine a7 _ rfl (fun r7=>?_) (fun r7=>?_)
 ·
  have h7:=ae r7
  try simp only [ty] at h7
  refine w_5 ?_
  exact hx8 rfl rfl rfl (⟨CoC.of_eq (by rw [show ofI (c % 12) = ⟨3,1,emp⟩ from by simp [ofI, *]];rfl),trivial⟩)
 have h7:=aa r7
 try simp only [ty] at h7
 refine w_5 ?_;refine a7 _ rfl (fun r8=>?_) (fun r8=>?_)
 ·
  have h8:=ae r8
  try simp only [ty] at h8
  refine w_5 ?_
  exact hx8 rfl rfl rfl (⟨CoC.of_eq (by rw [show ofI (c % 12) = ⟨1, -1,emp⟩ from by simp [ofI, *]];rfl),trivial⟩)
 have h8:=aa r8
 try simp only [ty] at h8
 refine w_5 ?_;refine a7 _ rfl (fun r9=>?_) (fun r9=>?_)
 ·
  have h9:=ae r9
  try simp only [ty] at h9
  refine w_5 ?_
  exact hx8 rfl rfl rfl (⟨CoC.of_eq (by rw [show ofI (c % 12) = ⟨2,0,⟨#[97,98]⟩⟩ from by simp [ofI, *]];rfl),trivial⟩)
 have h9:=aa r9
 try simp only [ty] at h9
 refine w_5 ?_;refine a7 _ rfl (fun r10=>?_) (fun r10=>?_)
 ·
  have h10:=ae r10
  try simp only [ty] at h10
  refine w_5 ?_
  exact hx8 rfl rfl rfl (⟨CoC.of_eq (by rw [show ofI (c % 12) = ⟨3,2,emp⟩ from by simp [ofI, *]];rfl),trivial⟩)
 have h10:=aa r10
 try simp only [ty] at h10
 refine w_6 ?_
 exact hx8 rfl rfl rfl (⟨CoC.of_eq (by rw [show ofI (c % 12) = ⟨1,7,emp⟩ from by simp [ofI, *]];rfl),trivial⟩)
theorem nm4 (x:Opn):PC.one (List.getD [PV.raw (.string ⟨#[114]⟩), .raw (.string ⟨#[115]⟩), .raw (.string ⟨#[116]⟩), .raw (.string emp)] (((x.name.toNat:Int) % 4).toNat * 1 + 0) .any) = pS (bf x):=by
 have h:((x.name.toNat:Int) % 4).toNat * 1 + 0 = x.name.toNat % 4:=by omega
 rw [h]
 unfold bf
 have h4:x.name.toNat % 4 < 4:=Nat.mod_lt _ (by decide)
 generalize x.name.toNat % 4 = k at h4
 match k,h4 with
 | 0,_=>rfl
 | 1,_=>rfl
 | 2,_=>rfl
 | 3,_=>rfl
theorem oz:am Tryz.prog 35:=wgx Tryz.func35
theorem c35 (x:Opn):ay Tryz.prog 35 [x.pc] (bu [pS (bf x)]):=by
 refine av (nt:=9) a8 Tryz.func35 rfl rfl l9 ?_;refine sx7 ?_;refine m9 0 ?_;refine w_4 ?_;refine m9 1 ?_;refine w_7 ?_
 exact hx8 rfl rfl rfl (⟨CoC.of_eq (nm4 x),trivial⟩)
theorem xe:am Tryz.prog 33:=wgx Tryz.func33
theorem c33 (x:Opn) (h:x.vals.length ≤ 68719476736):ay Tryz.prog 33 [x.pc] (bu [(ec x).pc]):=by
 refine av (nt:=27) a8 Tryz.func33 rfl rfl l9 ?_;refine sx7 ?_;refine m9 0 ?_;refine m9 1 ?_;refine w_6 ?_;refine m9 2 ?_;refine w_8 ?_
 refine ct 2 1 9 true 3 47 (lf Val.c (x.vals.map ofV)) (by decide) rfl rfl (CoP.sl rfl (.inr rfl) (fun h=>h) (fun i j hi _=>absurd hi (Nat.not_lt_zero i))) (.inr rfl) rfl rfl ?_
 refine az (ι:=Nat) ⟨[(1,some _),(2,some _),(3,some _)],[(0,some _),(1,some _)]⟩ ⟨⟨c9,c9,c9,trivial⟩,⟨u9,u9,trivial⟩⟩ (fun i=>⟨[(4,some (vI i))],[(2,some (.box [.p (.raw (.int .i64 x.id)), .ref 9 i])),(9,some (.arr true 3 47 i (lf Val.c (x.vals.map ofV))))]⟩) (fun i=>i ≤ x.vals.length) (fun i=>x.vals.length - i) (0) (Nat.zero_le _) ⟨⟨zy,trivial⟩,⟨u9,u9,trivial⟩⟩ ?_
 rintro i hi
 refine w_9 ?_;refine a7 _ rfl (fun r0=>?_) (fun r0=>?_)
 ·
  have h0:=ae r0
  try simp only [ty] at h0
  refine w_3 ?_;refine ap (E:=au) a8 ag [0,1,2,3,4,5,6,7,8,9,10,11] ?_;refine w_7 ?_;refine qcx nk (c49 _ (Int.natCast_nonneg _)) ?_;refine m9 3 ?_
  refine ra 4 true rfl rfl rfl rfl rfl rfl ?_;refine w_3 ?_;refine ⟨by kernel_rfl, ?_⟩;refine w_5 ?_;refine ⟨i + 1, ?_, ?_, ?_⟩
  · show i + 1 ≤ _
    omega
  · first | omega | (dsimp only;omega)
  exact ⟨⟨zy,c9,c9,c9,trivial⟩,⟨u9,⟨_,rfl,(fc (fun h=>h) (by intro j hj;rw [show lf Val.c (x.vals.map ofV) i j = Val.c (ofV (x.vals.getD i default)) j from by unfold lf;rw [a10 _ _ _ (by omega)]];revert j;exact lt3 (CoP.refl _) (CoP.refl _) (CoP.refl _)))⟩,u9,u9,trivial⟩⟩
 have h0:=aa r0
 try simp only [ty] at h0
 obtain rfl:i = x.vals.length:=by omega
 refine w_6 ?_
 exact hx8 rfl rfl rfl (⟨CoC.agg ⟨CoP.refl _,CoP.sl (by exact List.length_map _) (.inl rfl) (fun h=>h) (fun _ _ _ _=>CoP.refl _),trivial⟩,trivial⟩)
end
section
def rwP (l:List Row) (hd:Nat → Value):Nat → Nat → PV:=fun q j=>if j = 1 then .raw (hd q) else Row.c (l.getD q default) j
def l6 (ms:Nat → Nat) (gs:Nat → Nat → Nat → PV) (hd:Nat → Value) (qs:List Nat):List (Value × d8):=qs.map fun q=>(hd q,JSl 3 47 (ms q) (gs q))
def kms (l:List Row):Nat → Nat:=fun q=>(l.getD q default).vals.length
def kgs (l:List Row):Nat → Nat → Nat → PV:=fun q=>lf Val.c (l.getD q default).vals
def dh (hd:Nat → Value) (i:Nat) (v:Value):Nat → Value:=fun q=>if q = i then v else hd q
def yu (l:List Row):(Nat → Nat → PV) → List (Value × d8) → Prop:=fun f L=>∃ hd:Nat → Value,(∀ q j,q < l.length → j < 2 → f q j = rwP l hd q j) ∧ L = l6 (kms l) (kgs l) hd (List.range l.length)
def adu (n:Nat):(Nat → Nat → PV) → List (Value × d8) → Prop:=fun f L=>∃ (hd:Nat → Value) (ms:Nat → Nat) (gs:Nat → Nat → Nat → PV),(∀ q,q < n → f q 1 = .raw (hd q)) ∧ L = l6 ms gs hd (List.range n) ∧ ∀ q,q < n → ms q ≤ 68719476736 ∧ ∀ i j,i < ms q → j < 3 → iz (gs q i j) = true
abbrev JK (l:List Row):d8:=JP 2 45 l.length (yu l)
abbrev JU (n:Nat):d8:=JP 2 45 n (adu n)
theorem kq {v:Val} {j:Nat}:iz (Val.c v j) = true:=by
 match j with
 | 0=>rfl
 | 1=>rfl
 | 2=>rfl
 | _ + 3=>rfl
theorem nc {s:ByteArray} {j:Nat}:iz (lm s j) = true:=by
 match j with
 | 0=>rfl
 | _ + 1=>rfl
theorem vz {l:List Row} {hd:Nat → Value} {q j:Nat}:iz (rwP l hd q j) = true:=by
 unfold rwP
 split
 · rfl
 match j with
 | 0=>rfl
 | 1=>contradiction
 | _ + 2=>rfl
theorem yu.toU {l:List Row} {f:Nat → Nat → PV} {L:List (Value × d8)} (hl:∀ q,q < l.length → (l.getD q default).vals.length ≤ 68719476736) (h:yu l f L):adu l.length f L:=by
 obtain ⟨hd,h1,h2⟩:=h
 exact ⟨hd,kms l,kgs l,fun q hq=>(h1 q 1 hq (by omega)).trans (if_pos rfl),h2,fun q hq=>⟨hl q hq,fun i j _ _=>kq⟩⟩
theorem a8c {ms:Nat → Nat} {gs:Nat → Nat → Nat → PV} {hd hd':Nat → Value} {qs:List Nat} (h:∀ q ∈ qs,hd q = hd' q):l6 ms gs hd qs = l6 ms gs hd' qs:=List.map_congr_left fun q hq=>by rw [h q hq]
theorem a3o {ms:Nat → Nat} {gs:Nat → Nat → Nat → PV} {hd:Nat → Value} {i:Nat} {v:Value}:l6 ms gs (dh hd i v) (List.range (i + 1)) = l6 ms gs hd (List.range i) ++ [(v,JSl 3 47 (ms i) (gs i))]:=by
 unfold l6
 rw [List.range_succ,List.map_append]
 congr 1
 · exact List.map_congr_left fun q hq=>by
    have:=List.mem_range.1 hq
    unfold dh
    rw [if_neg (by omega)]
 simp [dh]
theorem aa0 {l:List Row} {v:Value} {bk:Nat → Prop} {h:Nat → Option Obj} {im:Imm} (hj:JK l v bk h) (hi:∀ b x,bk b → h b = some x → im b = some x):bc im (rows l) v:=by
 obtain ⟨f,L,⟨hd,hf,rfl⟩,hsc,bk1,bk2,hb,hdj,hJ,hB⟩:=hj
 have hi1:∀ b x,bk1 b → rst bk1 h b = some x → im b = some x:=fun b x hb1 hx=>hi b x ((hb b).2 (.inl hb1)) (by rwa [uo hb1] at hx)
 rcases hJ with ⟨h0,⟨a,hv⟩,_⟩ | ⟨b,cap,cur,hv,h0,hbk,hh,h3,h4,h5,h6⟩
 · exact ⟨a,0,by rw [hv,h0],by rw [h0];exact Nat.le_refl _,Nat.zero_le _,(fun hx=>by cases hx),fun hx=>absurd hx (by rw [h0];exact Nat.lt_irrefl _)⟩
 refine ⟨some ⟨b,0,none⟩,cap,hv,h3,h4,(fun hx=>by cases hx),fun _=>⟨b,0,rfl,fun i j hi' hj'=>?_⟩⟩
 obtain ⟨x,hx,hr⟩:=h6 i j hi' hj'
 refine ⟨x, ?_, ?_⟩
 · have:=hi1 b _ ((hbk b).2 rfl) hh
   unfold i4
   grind
 rw [hf i j hi' hj'] at hr
 unfold rwP at hr
 by_cases e:j = 1
 · subst e
   rw [if_pos rfl] at hr
   obtain ⟨rfl,_⟩:=hr
   have hm:(hd i,JSl 3 47 (kms l i) (kgs l i)) ∈ l6 (kms l) (kgs l) hd (List.range l.length):=List.mem_map.2 ⟨i,List.mem_range.2 hi',rfl⟩
   obtain ⟨bk3,k1,k2⟩:=Bag.mem hB hm
   rw [qt k1] at k2
   exact k2.rep fun b' x' hb' hx'=>hi b' x' ((hb b').2 (.inr (k1 b' hb'))) (by rwa [uo hb'] at hx')
 rw [if_neg e] at hr
 obtain rfl:j = 0:=by omega
 exact bc.mono (fun b x hb=>by cases hb) hr
theorem afq {c:Ctx} {o:aw} {w:World} {id s n:Nat} {e:TypeId} {R:d8} (h:d9 0 c o w id (.opq s e n R)):R (c.own id) (c.blk id) (onB (c.blk id) w):=h.2.2
theorem a7l {c c1:Ctx} {o o':aw} {w:World} {t:Tbl} {u:Value} {ia ir:Nat} (ha:o ia = some (.arr true 1 9 t.attrs.length (lf lm t.attrs))) (hr:o ir = some (.opq 2 45 t.rows.length (JK t.rows)))
 (ka:d9 0 c o w ia (.arr true 1 9 t.attrs.length (lf lm t.attrs))) (kr:d9 0 c o w ir (.opq 2 45 t.rows.length (JK t.rows))) (hu:dq c o (.agg [.p (t.c 0), .ref ia t.attrs.length, .ref ir t.rows.length]) u)
 (hi:∀ b,c.blk ia b → c1.imm b = w.heap[b]?) (hi2:∀ b,c.blk ir b → c1.imm b = w.heap[b]?):dq c1 o' t.pc.toH u:=by
 obtain ⟨us,e,hl⟩:=hu
 match us,hl with
 | [u0,u1,u2],⟨h0,⟨_,_,h1⟩,⟨_,_,h2⟩,_⟩ =>
  refine ⟨[u0,u1,u2],e,mn (x:=t.c 0) rfl h0, ?_, ?_,trivial⟩
  · obtain ⟨_,q⟩:=h1 _ 1 9 t.attrs.length ha rfl
    rw [q rfl]
    exact a7o ka (fun i j _ _=>nc) hi
  obtain ⟨_,q⟩:=h2 _ 2 45 t.rows.length hr rfl
  rw [q rfl]
  exact aa0 (afq kr) fun b x hb hx=>by rw [rg hb] at hx;rw [hi2 b hb];exact hx
theorem a7k {c c1:Ctx} {o o':aw} {w:World} {r:Row} {u:Value} {ia:Nat} (ha:o ia = some (.arr true 3 47 r.vals.length (lf Val.c r.vals)))
 (ka:d9 0 c o w ia (.arr true 3 47 r.vals.length (lf Val.c r.vals))) (hu:dq c o (.agg [.p (r.c 0), .ref ia r.vals.length]) u) (hi:∀ b,c.blk ia b → c1.imm b = w.heap[b]?):dq c1 o' r.pc.toH u:=by
 obtain ⟨us,e,hl⟩:=hu
 match us,hl with
 | [u0,u1],⟨h0,⟨_,_,h1⟩,_⟩ =>
  refine ⟨[u0,u1],e,mn (x:=r.c 0) rfl h0, ?_,trivial⟩
  obtain ⟨_,q⟩:=h1 _ 3 47 r.vals.length ha rfl
  rw [q rfl]
  exact a7o ka (fun i j _ _=>kq) hi
abbrev pr (t:Tbl) (ia ir:Nat):List (Nat × af):=[(ia, .arr true 1 9 t.attrs.length (lf lm t.attrs)),(ir, .opq 2 45 t.rows.length (JK t.rows))]
abbrev tj (t:Tbl) (ia ir:Nat):HC:=.agg [.p (t.c 0), .ref ia t.attrs.length, .ref ir t.rows.length]
abbrev rp (r:Row) (ia:Nat):List (Nat × af):=[(ia, .arr true 3 47 r.vals.length (lf Val.c r.vals))]
abbrev ws (r:Row) (ia:Nat):HC:=.agg [.p (r.c 0), .ref ia r.vals.length]
theorem ab1 {ia ir:Nat} {A B:af} (hA:pj A) (hB:pj B):∀ id ob,lk [(ia,A),(ir,B)] id = some ob → pj ob:=fun id ob h=>by
 simp only [lk] at h
 cases h1:Nat.beq ia id <;> rw [h1] at h
 · cases h2:Nat.beq ir id <;> rw [h2] at h
   · cases h
   cases h;exact hB
 cases h;exact hA
theorem a9r {ia:Nat} {A:af} (hA:pj A):∀ id ob,lk [(ia,A)] id = some ob → pj ob:=fun id ob h=>by
 simp only [lk] at h
 cases h1:Nat.beq ia id <;> rw [h1] at h
 · cases h
 cases h;exact hA
theorem aix {P:Program} {f:FuncId} {t:Tbl} (h:br P f [t.pc.toH] [] (.v (tj t 905 906)) (pr t 905 906) []):br P f [tj t 1010 1011] (pr t 1010 1011) (.v t.pc.toH) (pr t 1010 1011) [1010,1011] :=
 h.eatFreeze (fun c w us c1 hm hu _ hi=>by
  match us,hu with
  | [u],⟨hu,_⟩=>exact ⟨a7l rfl rfl (hm.objs 1010 _ rfl) (hm.objs 1011 _ rfl) hu (fun b hb=>hi 1010 _ b rfl hb) (fun b hb=>hi 1011 _ b rfl hb),trivial⟩)
  (fun c w v c1 hm hv hi=>a7l rfl rfl (hm.objs 905 _ rfl) (hm.objs 906 _ rfl) hv (fun b hb=>hi 905 _ b rfl hb) (fun b hb=>hi 906 _ b rfl hb))
  (ab1 (fun i j _ _=>nc) trivial)
  (fun id hid=>by simp at hid;rcases hid with rfl | rfl <;> exact ⟨_,rfl⟩)
theorem aja {P:Program} {f:FuncId} {r:Row} (h:br P f [r.pc.toH] [] (.v (ws r 905)) (rp r 905) []):br P f [ws r 1010] (rp r 1010) (.v r.pc.toH) (rp r 1010) [1010] :=
 h.eatFreeze (fun c w us c1 hm hu _ hi=>by
  match us,hu with
  | [u],⟨hu,_⟩=>exact ⟨a7k rfl (hm.objs 1010 _ rfl) hu (fun b hb=>hi 1010 _ b rfl hb),trivial⟩)
  (fun c w v c1 hm hv hi=>a7k rfl (hm.objs 905 _ rfl) hv (fun b hb=>hi 905 _ b rfl hb))
  (a9r (fun i j _ _=>kq))
  (fun id hid=>by simp at hid;subst hid;exact ⟨_,rfl⟩)
end
section
def tx (na:Nat → Nat) (ga:Nat → Nat → Nat → PV) (nr:Nat → Nat) (hA hR:Nat → Value) (qs:List Nat):List (Value × d8):=qs.flatMap fun q=>[(hA q,JSl 1 9 (na q) (ga q)),(hR q,JU (nr q))]
def tbP (d:List Tbl) (hA hR:Nat → Value):Nat → Nat → PV:=fun q j=>if j = 1 then .raw (hA q) else if j = 2 then .raw (hR q) else Tbl.c (d.getD q default) j
def adz (n:Nat):(Nat → Nat → PV) → List (Value × d8) → Prop:=fun f L=>∃ (na:Nat → Nat) (ga:Nat → Nat → Nat → PV) (nr:Nat → Nat) (hA hR:Nat → Value),(∀ q,q < n → f q 1 = .raw (hA q) ∧ f q 2 = .raw (hR q)) ∧ L = tx na ga nr hA hR (List.range n) ∧ ∀ q,q < n → na q ≤ 68719476736 ∧ nr q ≤ 68719476736 ∧ ∀ i j,i < na q → j < 1 → iz (ga q i j) = true
theorem a53 {d:List Tbl} {hA hR:Nat → Value} {q j:Nat}:iz (tbP d hA hR q j) = true:=by
 unfold tbP
 split
 · rfl
 split
 · rfl
 match j with
 | 0=>rfl
 | 1=>contradiction
 | 2=>contradiction
 | _ + 3=>rfl
theorem aba {na:Nat → Nat} {ga:Nat → Nat → Nat → PV} {nr:Nat → Nat} {hA hR:Nat → Value} {i:Nat} {v u:Value}:tx na ga nr (dh hA i v) (dh hR i u) (List.range (i + 1)) = (tx na ga nr hA hR (List.range i) ++ [(v,JSl 1 9 (na i) (ga i))]) ++ [(u,JU (nr i))]:=by
 unfold tx
 rw [List.range_succ,List.flatMap_append,List.append_assoc]
 congr 1
 · rw [List.flatMap_def,List.flatMap_def]
   congr 1
   exact List.map_congr_left fun q hq=>by
    have:=List.mem_range.1 hq
    unfold dh
    rw [if_neg (by omega),if_neg (by omega)]
 simp [dh]
theorem aea {o:aw} {d:List Tbl} {hA hR:Nat → Value} {i ia ir n1 n2 s1 s2:Nat} {e1 e2:TypeId} {v u:Value} {R1 R2:d8} {g:Nat → Nat → HV} (ha:o ia = some (.opq s1 e1 n1 (gz v R1))) (hr:o ir = some (.opq s2 e2 n2 (gz u R2))) (h0:g 0 0 = .p (Tbl.c (d.getD i default) 0)) (h1:g 0 1 = .ref ia n1) (h2:g 0 2 = .ref ir n2) :
 ∀ q j,q < i + 1 → j < 3 → fm o (gm i (fun q j=>.p (tbP d hA hR q j)) g q j) (.p (tbP d (dh hA i v) (dh hR i u) q j)):=fun q j hq hj=>by
 unfold gm
 by_cases e:q < i
 · rw [if_pos e]
   refine .inl ?_
   unfold tbP dh
   rw [if_neg (by omega:¬ q = i),if_neg (by omega:¬ q = i)]
 rw [if_neg e]
 obtain rfl:q = i:=by omega
 rw [Nat.sub_self]
 by_cases e1:j = 1
 · subst e1
   rw [h1]
   unfold tbP dh
   rw [if_pos rfl,if_pos rfl]
   exact fm.to ha
 by_cases e2:j = 2
 · subst e2
   rw [h2]
   unfold tbP dh
   rw [if_neg (by decide),if_pos rfl,if_pos rfl]
   exact fm.to hr
 obtain rfl:j = 0:=by omega
 rw [h0]
 exact .inl rfl
def ru (na:Nat → Nat) (ga:Nat → Nat → Nat → PV) (nr:Nat → Nat) (nv:Nat → Nat) (gv:Nat → Nat → Nat → PV) (hA hR hV:Nat → Value) (qs:List Nat):List (Value × d8):=qs.flatMap fun q=>[(hA q,JSl 1 9 (na q) (ga q)),(hR q,JU (nr q)),(hV q,JSl 3 47 (nv q) (gv q))]
def chP (d:List Chg) (hA hR hV:Nat → Value):Nat → Nat → PV:=fun q j=>if j = 3 then .raw (hA q) else if j = 4 then .raw (hR q) else if j = 6 then .raw (hV q) else Chg.c (d.getD q default) j
def ae1 (n:Nat):(Nat → Nat → PV) → List (Value × d8) → Prop:=fun f L=>∃ (na:Nat → Nat) (ga:Nat → Nat → Nat → PV) (nr nv:Nat → Nat) (gv:Nat → Nat → Nat → PV) (hA hR hV:Nat → Value),(∀ q,q < n → f q 3 = .raw (hA q) ∧ f q 4 = .raw (hR q) ∧ f q 6 = .raw (hV q)) ∧ L = ru na ga nr nv gv hA hR hV (List.range n) ∧
 ∀ q,q < n → na q ≤ 68719476736 ∧ nr q ≤ 68719476736 ∧ nv q ≤ 68719476736 ∧ (∀ i j,i < na q → j < 1 → iz (ga q i j) = true) ∧ ∀ i j,i < nv q → j < 3 → iz (gv q i j) = true
theorem a5d {d:List Chg} {hA hR hV:Nat → Value} {q j:Nat}:iz (chP d hA hR hV q j) = true:=by
 unfold chP
 split
 · rfl
 split
 · rfl
 split
 · rfl
 match j with
 | 0=>rfl
 | 1=>rfl
 | 2=>rfl
 | 3=>contradiction
 | 4=>contradiction
 | 5=>rfl
 | 6=>contradiction
 | 7=>rfl
 | 8=>rfl
 | 9=>rfl
 | 10=>rfl
 | _ + 11=>rfl
theorem abe {na:Nat → Nat} {ga:Nat → Nat → Nat → PV} {nr nv:Nat → Nat} {gv:Nat → Nat → Nat → PV} {hA hR hV:Nat → Value} {i:Nat} {v u x:Value}:ru na ga nr nv gv (dh hA i v) (dh hR i u) (dh hV i x) (List.range (i + 1)) = ((ru na ga nr nv gv hA hR hV (List.range i) ++ [(v,JSl 1 9 (na i) (ga i))]) ++ [(u,JU (nr i))]) ++ [(x,JSl 3 47 (nv i) (gv i))]:=by
 unfold ru
 rw [List.range_succ,List.flatMap_append,List.append_assoc,List.append_assoc]
 congr 1
 · rw [List.flatMap_def,List.flatMap_def]
   congr 1
   exact List.map_congr_left fun q hq=>by
    have:=List.mem_range.1 hq
    unfold dh
    rw [if_neg (by omega),if_neg (by omega),if_neg (by omega)]
 simp [dh]
theorem ael {o:aw} {d:List Chg} {hA hR hV:Nat → Value} {i ia ir iv n1 n2 n3 s1 s2 s3:Nat} {e1 e2 e3:TypeId} {v u x:Value} {R1 R2 R3:d8} {g:Nat → Nat → HV} (ha:o ia = some (.opq s1 e1 n1 (gz v R1))) (hr:o ir = some (.opq s2 e2 n2 (gz u R2))) (hv:o iv = some (.opq s3 e3 n3 (gz x R3)))
 (h0:∀ j,j < 11 → j ≠ 3 → j ≠ 4 → j ≠ 6 → g 0 j = .p (Chg.c (d.getD i default) j)) (h1:g 0 3 = .ref ia n1) (h2:g 0 4 = .ref ir n2) (h3:g 0 6 = .ref iv n3) :
 ∀ q j,q < i + 1 → j < 11 → fm o (gm i (fun q j=>.p (chP d hA hR hV q j)) g q j) (.p (chP d (dh hA i v) (dh hR i u) (dh hV i x) q j)):=fun q j hq hj=>by
 unfold gm
 by_cases e:q < i
 · rw [if_pos e]
   refine .inl ?_
   unfold chP dh
   rw [if_neg (by omega:¬ q = i),if_neg (by omega:¬ q = i),if_neg (by omega:¬ q = i)]
 rw [if_neg e]
 obtain rfl:q = i:=by omega
 rw [Nat.sub_self]
 by_cases e1:j = 3
 · subst e1
   rw [h1]
   unfold chP dh
   rw [if_pos rfl,if_pos rfl]
   exact fm.to ha
 by_cases e2:j = 4
 · subst e2
   rw [h2]
   unfold chP dh
   rw [if_neg (by decide),if_pos rfl,if_pos rfl]
   exact fm.to hr
 by_cases e3:j = 6
 · subst e3
   rw [h3]
   unfold chP dh
   rw [if_neg (by decide),if_neg (by decide),if_pos rfl,if_pos rfl]
   exact fm.to hv
 rw [h0 j hj e1 e2 e3]
 refine .inl ?_
 unfold chP
 rw [if_neg e1,if_neg e2,if_neg e3]
theorem a9g {na:Nat → Nat} {ga:Nat → Nat → Nat → PV} {nr:Nat → Nat} {hA hR:Nat → Value} {i n:Nat} (h:i < n):tx na ga nr hA hR (List.range' i (n - i)) = (hA i,JSl 1 9 (na i) (ga i)) :: (hR i,JU (nr i)) :: tx na ga nr hA hR (List.range' (i + 1) (n - (i + 1))):=by
 unfold tx
 rw [show n - i = (n - (i + 1)) + 1 by omega,List.range'_succ,List.flatMap_cons];rfl
theorem aao {na:Nat → Nat} {ga:Nat → Nat → Nat → PV} {nr nv:Nat → Nat} {gv:Nat → Nat → Nat → PV} {hA hR hV:Nat → Value} {i n:Nat} (h:i < n):ru na ga nr nv gv hA hR hV (List.range' i (n - i)) = (hA i,JSl 1 9 (na i) (ga i)) :: (hR i,JU (nr i)) :: (hV i,JSl 3 47 (nv i) (gv i)) :: ru na ga nr nv gv hA hR hV (List.range' (i + 1) (n - (i + 1))):=by
 unfold ru
 rw [show n - i = (n - (i + 1)) + 1 by omega,List.range'_succ,List.flatMap_cons];rfl
theorem aaz {ms:Nat → Nat} {gs:Nat → Nat → Nat → PV} {hd:Nat → Value} {i n:Nat} (h:i < n):l6 ms gs hd (List.range' i (n - i)) = (hd i,JSl 3 47 (ms i) (gs i)) :: l6 ms gs hd (List.range' (i + 1) (n - (i + 1))):=by
 unfold l6
 rw [show n - i = (n - (i + 1)) + 1 by omega,List.range'_succ];rfl
theorem a2y (n:Nat):List.range n = List.range' 0 (n - 0):=by rw [List.range_eq_range'];rfl
end
section
open Go.RowKit
def ai4 (id n s:Nat) (F:Nat → Nat → PV):List HC → List HC → Prop
 | [],[]=>True
 | x :: xs,y :: ys=>(y = x ∨ (x = .one (.ref id n) ∧ y = .one (.p (.sl n s false F)))) ∧ ai4 id n s F xs ys
 | _,_=>False
def ajf (i0:Nat) (h:HV) (g:Nat → Nat → PV):Nat → Nat → HV:=fun i j=>if i = i0 then h else .p (g i j)
theorem lw {ro:Option Nat} {P:Program} {nt:Nat} {st:HSt} {Q:Exit → HSt → Prop} {co:Code} (x:Nat) (ob':af) {ob:af} (ho:bs st.o x = some ob) (hc:CoO ob ob')
 (h:HW (ro:=ro) P nt co ⟨st.t,(x,some ob') :: st.o⟩ Q):HW (ro:=ro) P nt co st Q:=fun w0 m0 a w hr=>by
 obtain ⟨cc,hold,hrr⟩:=hr
 refine h w0 m0 a w ⟨cc,hold,hrr.relax _ (fun d y hy=>⟨y,hy,CoR.refl _⟩) fun id ob2 ho2=>?_⟩
 simp only [HSt.den,be] at ho2
 by_cases hk:id = x
 · subst hk
   rw [if_pos rfl] at ho2
   simp only [Option.some.injEq] at ho2
   subst ho2
   exact ⟨ob,ho,hc⟩
 rw [if_neg hk] at ho2
 exact ⟨ob2,ho2,CoO.refl _⟩
end
section
open Go.Proofs
theorem fp (x:PV):CoP x .any:=fun _ _ h=>bc.oneCell h
def rwG (hd:Nat → Value):Nat → Nat → PV:=fun q j=>if j = 1 then .raw (hd q) else .any
theorem afw {f:Nat → Nat → PV} {hd:Nat → Value} {n:Nat} (h:∀ q,q < n → f q 1 = .raw (hd q)):∀ q j,q < n → j < 2 → CoP (f q j) (rwG hd q j):=fun q j hq hj=>by
 unfold rwG
 split
 · rename_i e
   subst e
   rw [h q hq]
   exact CoP.refl _
 exact fp _
theorem ae3 {hd:Nat → Value} {k:Nat} {x:PV} (q j:Nat):CoP (gt (rwG hd) k 0 [x] q j) (rwG hd q j):=by
 unfold gt
 split
 · rename_i h
   obtain ⟨_,_,h3⟩:=h
   have:j = 0:=by simp at h3;omega
   subst this
   exact fp _
 exact CoP.refl _
def xj (hd:Nat → Value) (i id m:Nat):Nat → Nat → HV:=fun q j=>if q = i ∧ j = 1 then .ref id m else .p (rwG hd q j)
theorem a7r {hd:Nat → Value} {i id m:Nat}:xj hd i id m i 1 = .ref id m:=if_pos ⟨rfl,rfl⟩
theorem ac6 {hd:Nat → Value} {i id m n s:Nat}:∀ q j k,q < n → j < s → (xj hd i id m q j).men k → k ∈ [id]:=fun q j k _ _ hk=>by
 unfold xj at hk
 split at hk
 · have hk:k = id:=hk
   rw [hk];exact List.mem_singleton.2 rfl
 exact hk.elim
theorem adp {o:aw} {hd:Nat → Value} {i id m n s:Nat} {e:TypeId} {R:d8} (ho:o id = some (.opq s e m (gz (hd i) R))):∀ q j,q < n → j < 2 → fm o (.p (rwG hd q j)) (xj hd i id m q j):=fun q j _ _=>by
 unfold xj
 split
 · rename_i h
   obtain ⟨rfl,rfl⟩:=h
   exact fm.from ho
 exact .inl rfl
theorem acn {o:aw} {hd:Nat → Value} {i id m n s:Nat} {e:TypeId} {v:Value} {R:d8} (ho:o id = some (.opq s e m (gz v R))):∀ q j,q < n → j < 2 → fm o (xj hd i id m q j) (.p (rwG (dh hd i v) q j)):=fun q j _ _=>by
 unfold xj
 split
 · rename_i h
   obtain ⟨rfl,rfl⟩:=h
   unfold rwG dh
   rw [if_pos rfl,if_pos rfl]
   exact fm.to ho
 rename_i h
 refine .inl ?_
 unfold rwG dh
 by_cases e1:j = 1
 · rw [if_pos e1,if_pos e1,if_neg (fun e2=>h ⟨e2,e1⟩)]
 rw [if_neg e1,if_neg e1]
theorem abz {ms:Nat → Nat} {gs:Nat → Nat → Nat → PV} {hd:Nat → Value} {i m:Nat} {v:Value}:l6 ms gs (dh hd i v) (List.range' (i + 1) m) = l6 ms gs hd (List.range' (i + 1) m):=a8c fun q hq=>by
 have:=(List.mem_range'_1.1 hq).1
 unfold dh
 rw [if_neg (by omega)]
theorem a4n:am Tryz.prog 32:=wgx Tryz.func32
theorem ad9 (na nr:Nat) (hna:na ≤ 68719476736) (hnr:nr ≤ 68719476736):br Tryz.prog 32 [.agg [.p .any, .ref 905 na, .ref 906 nr]] [(905, .arr true 1 9 na (fun _ _=>.any)),(906, .opq 2 45 nr (JU nr))] (.tup []) [] []:=by
 refine c8 (nt:=48) a8 Tryz.func32 rfl rfl l9 rfl ?_;refine sx7 ?_;refine m9 0 ?_;refine dz ?_
 refine az (ι:=Nat) ⟨[(1,some _),(7,some _)],[(906,some _),(0,some _)]⟩ ⟨⟨c9,c9,trivial⟩,⟨u9,u9,trivial⟩⟩ (fun i=>⟨[(8,some (vI i))],[(905,some (.arr true 1 9 na (fun _ _=>.any)))]⟩) (fun i=>i ≤ na) (fun i=>na - i) (0) (Nat.zero_le _) ⟨⟨zy,trivial⟩,⟨u9,trivial⟩⟩ ?_
 rintro i hi
 refine w_5 ?_;refine a7 _ rfl (fun r0=>?_) (fun r0=>?_)
 ·
  have h0:=ae r0
  try simp only [ty] at h0
  refine acf ?_;refine ⟨i + 1, ?_, ?_, ?_⟩
  · show i + 1 ≤ _;omega
  · first | omega | (dsimp only;omega)
  exact ⟨⟨zy,c9,c9,trivial⟩,⟨⟨_,rfl,⟨fun h=>h,rfl,rfl,rfl,fun _ _ _ _=>fp _⟩⟩,u9,u9,trivial⟩⟩
 have h0:=aa r0
 try simp only [ty] at h0
 skip
 refine w_2 ?_;refine jc (vv 906 908 rfl (fun f L hP hsc=>?_) rfl rfl)
 obtain ⟨hd0,ms,gs,hf,rfl,hms⟩:=hP
 refine kp 906 rfl (by decide) (Nat.le_trans hnr (by decide)) hsc (ip 906 (.arr true 2 45 nr (rwG hd0)) rfl ⟨fun h=>h,rfl,rfl,rfl,afw hf⟩ (ck ?_));refine w_7 ?_
 refine az (ι:=(Nat × (Nat → Value))) ⟨[(1,some _),(18,some _)],[(905,some _),(0,some _)]⟩ ⟨⟨c9,c9,trivial⟩,⟨u9,u9,trivial⟩⟩ (fun z=>⟨[(19,some (vI z.1))],[(906,some (.arr true 2 45 nr (rwG z.2))),(908,some (.opq 0 0 0 (en (l6 ms gs z.2 (List.range' z.1 (nr - z.1))))))]⟩) (fun z=>z.1 ≤ nr) (fun z=>nr - z.1) ((0,hd0)) (Nat.zero_le _) ⟨⟨zy,trivial⟩,⟨u9,⟨_,rfl,(by rw [a2y];exact CoO.refl _)⟩,trivial⟩⟩ ?_
 rintro ⟨i,hd⟩ hi
 dsimp only at hi ⊢
 refine w_5 ?_;refine a7 _ rfl (fun r1=>?_) (fun r1=>?_)
 ·
  have h1:=ae r1
  try simp only [ty] at h1
  have hlt:i < nr:=by omega
  have hmi:=(hms i hlt).1
  refine a3f ?_;refine lw 906 (.arr true 2 45 nr (rwG hd)) rfl ⟨fun h=>h,rfl,rfl,rfl,fun q j _ _=>ae3 q j⟩ ?_
  refine lw 908 (.opq 0 0 0 (en ((hd i,JSl 3 47 (ms i) (gs i)) :: l6 ms gs hd (List.range' (i + 1) (nr - (i + 1)))))) rfl (by rw [aaz hlt];exact CoO.refl _) ?_
  refine jc (n9 907 908 3 (ms i) 47 rfl (aeu 906 [907] (xj hd i 907 (ms i)) rfl ac6 (adp rfl) (ip 907 (.opq 3 47 (ms i) (JSl 3 47 (ms i) (gs i))) rfl o8 (kp 907 rfl (by decide) (Nat.le_trans hmi (by decide)) (hms i hlt).2 (ip 907 (.arr true 3 47 (ms i) (fun _ _=>.any)) rfl ⟨fun h=>h,rfl,rfl,rfl,fun _ _ _ _=>fp _⟩ (ck ?_))))))
  refine w_7 ?_;refine rq (out:=⟨_, .v (.one (.ref 907 (ms i)))⟩) rfl rfl rfl (congrArg (fun z=>some (Out.mk _ (HR.v (HC.one z)))) a7r) rfl ?_;refine w_4 ?_
  refine az (ι:=Nat) ⟨[(1,some _),(3,some _),(18,some _),(19,some _),(33,some _)],[(906,some _),(908,some _),(905,some _),(0,some _)]⟩ ⟨⟨c9,c9,c9,c9,c9,trivial⟩,⟨u9,u9,u9,u9,trivial⟩⟩ (fun k=>⟨[(34,some (vI k))],[(907,some (.arr true 3 47 (ms i) (fun _ _=>.any)))]⟩) (fun k=>k ≤ ms i) (fun k=>ms i - k) (0) (Nat.zero_le _) ⟨⟨zy,trivial⟩,⟨u9,trivial⟩⟩ ?_
  rintro k hk
  refine w_5 ?_;refine a7 _ rfl (fun r2=>?_) (fun r2=>?_)
  ·
   have h2:=ae r2
   try simp only [ty] at h2
   have hkm:k < ms i:=by omega
   refine qb ?_;refine rq (out:=⟨_, .v (.one (.ref 907 (ms i)))⟩) rfl rfl rfl (congrArg (fun z=>some (Out.mk _ (HR.v (HC.one z)))) a7r) rfl ?_;refine w_9 ?_;refine ⟨k + 1, ?_, ?_, ?_⟩
   · show k + 1 ≤ _;omega
   · first | omega | (dsimp only;omega)
   exact ⟨⟨zy,c9,c9,c9,c9,c9,trivial⟩,⟨⟨_,rfl,⟨fun h=>h,rfl,rfl,rfl,fun _ _ _ _=>fp _⟩⟩,u9,u9,u9,u9,trivial⟩⟩
  have h2:=aa r2
  try simp only [ty] at h2
  refine cw ?_;refine jc (ic 907 rfl (fun _ _ _ _=>rfl) (pq 907 rfl fun v _=>v8 906 (rwG (dh hd i v)) rfl (acn rfl) (ck ?_)));refine w_4 ?_;refine ⟨(i + 1,dh hd i v), ?_, ?_, ?_⟩
  · show i + 1 ≤ _;omega
  · first | omega | (dsimp only;omega)
  exact ⟨⟨zy,c9,c9,trivial⟩,⟨u9,⟨_,rfl,(by rw [abz];exact CoO.refl _)⟩,u9,u9,trivial⟩⟩
 have h1:=aa r1
 try simp only [ty] at h1
 refine cw ?_;refine ⟨.inl rfl, ?_⟩
 exact ⟨_,_,rfl,(by (repeat' apply And.intro) <;> first | trivial | exact Nat.le_of_ble_eq_true rfl),CoR.refl _,trivial⟩
end
end Go.Hx
