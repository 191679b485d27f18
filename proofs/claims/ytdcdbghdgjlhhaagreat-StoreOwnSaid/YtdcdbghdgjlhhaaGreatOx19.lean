/- A part of the proof: Ow1 Sp3 W6 W7 Sp4 W8. -/
import Derived.Test.YtdcdbghdgjlhhaaGreatOx16
import Derived.Test.YtdcdbghdgjlhhaaGreatOx18
set_option linter.all false
set_option maxRecDepth 100000
set_option maxHeartbeats 1000000
namespace Go.Hx
section
open Go.Proofs
theorem a7c {o:aw} {l:List Row} {hd:Nat → Value} {i id m:Nat} {v:Value} {R:d8} {g:Nat → Nat → HV} (ho:o id = some (.opq 3 47 m (gz v R))) (h0:g 0 0 = .p (Row.c (l.getD i default) 0)) (h1:g 0 1 = .ref id m) :
 ∀ q j,q < i + 1 → j < 2 → fm o (gm i (fun q j=>.p (rwP l hd q j)) g q j) (.p (rwP l (dh hd i v) q j)):=fun q j hq hj=>by
 unfold gm
 by_cases e:q < i
 · rw [if_pos e]
   refine .inl ?_
   unfold rwP dh
   rw [if_neg (by omega:¬ q = i)]
 rw [if_neg e]
 obtain rfl:q = i:=by omega
 rw [Nat.sub_self]
 by_cases e2:j = 1
 · subst e2
   rw [h1]
   unfold rwP dh
   rw [if_pos rfl,if_pos rfl]
   exact fm.to ho
 obtain rfl:j = 0:=by omega
 rw [h0]
 exact .inl rfl
theorem acv (r:Row) (h:r.vals.length ≤ 68719476736):br Tryz.prog 52 [r.pc.toH] [] (.v (ws r 905)) (rp r 905) []:=by
 refine c8 (nt:=9) a8 Tryz.func52 rfl rfl l9 rfl ?_;refine sx7 ?_;refine m9 0 ?_;refine m9 1 ?_;refine w_2 ?_;refine ap (E:=au) a8 ag [0,1,2,3,4,5,6] ?_;refine w_4 ?_
 refine al rfl rfl rfl rfl rfl rfl xf ((ag5 r.vals h).swap 0 905) (bg.refl _) trivial rfl rfl ?_;refine w_3 ?_;refine ⟨by kernel_rfl, ?_⟩;refine ej ?_;refine ⟨.inr rfl, ?_⟩
 exact ⟨_,_,rfl,(by (repeat' apply And.intro) <;> first | trivial | exact Nat.le_of_ble_eq_true rfl),CoR.refl _,⟨u9,trivial⟩⟩
theorem ade (t:Tbl) (h:t.ok):br Tryz.prog 51 [t.pc.toH] [] (.v (tj t 905 906)) (pr t 905 906) []:=by
 refine c8 (nt:=28) a8 Tryz.func51 rfl rfl l9 rfl ?_
 have hrl:=h.2.1
 refine sx7 ?_;refine m9 0 ?_;refine m9 1 ?_;refine w_2 ?_;refine ap (E:=au) a8 ag [0,1,2,3,4,5,6,7] ?_;refine w_4 ?_
 refine al rfl rfl rfl rfl rfl rfl xn ((ai7 t.attrs h.1).swap 0 905) (bg.refl _) trivial rfl rfl ?_;refine qy ?_;refine m9 2 ?_;refine w_2 ?_;refine ⟨by kernel_rfl, ?_⟩;refine w_9 ?_
 refine ct 2 2 906 true 2 45 (rwP t.rows fun _=>default) (by decide) rfl rfl (CoP.sl rfl (.inr rfl) (fun h=>h) (fun i j hi _=>absurd hi (Nat.not_lt_zero i))) (.inr rfl) rfl rfl ?_
 refine jc (te 908 (ck ?_))
 refine az (ι:=(Nat × (Nat → Value))) ⟨[(2,some _),(3,some _),(13,some _),(14,some _)],[(905,some _),(1,some _)]⟩ ⟨⟨c9,c9,c9,c9,trivial⟩,⟨u9,u9,trivial⟩⟩ (fun z=>⟨[(15,some (vI z.1))],[(2,some (.box [.p (t.c 0), .ref 905 t.attrs.length, .ref 906 z.1])),(906,some (.arr true 2 45 z.1 (rwP t.rows z.2))),(908,some (.opq 0 0 0 (en (l6 (kms t.rows) (kgs t.rows) z.2 (List.range z.1)))))]⟩) (fun z=>z.1 ≤ t.rows.length) (fun z=>t.rows.length - z.1) ((0,fun _=>default)) (Nat.zero_le _) ⟨⟨zy,trivial⟩,⟨u9,u9,u9,trivial⟩⟩ ?_
 rintro ⟨i,hd⟩ hi
 dsimp only at hi ⊢
 refine w_5 ?_;refine a7 _ rfl (fun r0=>?_) (fun r0=>?_)
 ·
  have h0:=ae r0
  try simp only [ty] at h0
  refine w_7 ?_;refine m9 3 ?_;refine w_2 ?_;refine lw 906 (.arrh 2 45 i [] fun q j=>.p (rwP t.rows hd q j)) rfl ⟨.inl rfl,rfl,rfl,rfl,fun _ _ _ _=>CoH.refl _⟩ ?_
  refine ap (E:=au) a8 ag [0,1,2,3,4,5,6,7] ?_;refine w_3 ?_
  refine al rfl rfl rfl rfl rfl rfl p8 ((acv (t.rows.getD i default) (h.2.2 i (by omega)).1).swap 905 907) (bg.refl _) trivial rfl rfl ?_;refine m9 4 ?_;refine ra 5 true rfl rfl rfl rfl rfl rfl ?_;refine w_3 ?_
  refine ⟨by kernel_rfl, ?_⟩;refine jc (ic 907 rfl (fun _ _ _ _=>kq) (pq 907 rfl fun v _=>v8 906 (rwP t.rows (dh hd i v)) rfl (a7c rfl rfl rfl) (mq 907 908 rfl rfl (ck ?_))))
  refine w_4 ?_;refine ⟨(i + 1,dh hd i v), ?_, ?_, ?_⟩
  · show i + 1 ≤ _;omega
  · first | omega | (dsimp only;omega)
  exact ⟨⟨zy,c9,c9,c9,c9,trivial⟩,⟨u9,u9,⟨_,rfl,(by rw [a3o];exact CoO.refl _)⟩,u9,u9,trivial⟩⟩
 have h0:=aa r0
 try simp only [ty] at h0
 obtain rfl:i = t.rows.length:=by omega
 refine w_2 ?_;refine jc (ic 906 rfl (fun _ _ _ _=>vz) (vr 906 908 (yu t.rows) rfl rfl ⟨hd,fun _ _ _ _=>rfl,rfl⟩ (fun _ _ _ _=>vz) (ck ?_)));refine w_5 ?_;refine ⟨.inr rfl, ?_⟩
 exact ⟨_,_,rfl,(by (repeat' apply And.intro) <;> first | trivial | exact Nat.le_of_ble_eq_true rfl),CoR.refl _,⟨u9,u9,trivial⟩⟩
theorem ahm (t:Tbl) (h:t.ok):br Tryz.prog 51 [tj t 1010 1011] (pr t 1010 1011) (.v t.pc.toH) (pr t 1010 1011) [1010,1011]:=aix (ade t h)
theorem aie (r:Row) (h:r.vals.length ≤ 68719476736):br Tryz.prog 52 [ws r 1010] (rp r 1010) (.v r.pc.toH) (rp r 1010) [1010]:=aja (acv r h)
end
section
abbrev T0:Tbl:=⟨emp,[],[]⟩
def f6 (r:Row):List Row → List Row
 | []=>[r]
 | x :: xs=>if r.id < x.id then r :: x :: xs else x :: f6 r xs
def c5 (t:Tbl) (r:Row):Int :=
 if cz t ≠ 0 then cz t else if r.vals.length ≠ t.attrs.length then 6 else if r.id ≤ 0 ∨ r.vals.all d5 = false then 1
 else if 0 ≤ aj t.rows r.id then 5 else if 1000 ≤ t.rows.length then 3 else 0
def py (t:Tbl) (r:Row):Tbl:=if c5 t r = 0 then { t with rows:=f6 r t.rows } else T0
def d4 (t:Tbl) (id:Int):Int:=if cz t ≠ 0 then cz t else if 0 ≤ aj t.rows id then 0 else 4
def qd (t:Tbl) (id:Int):Tbl:=if d4 t id = 0 then { t with rows:=t.rows.eraseIdx (aj t.rows id).toNat } else T0
def cn (t:Tbl) (id attr:Int) (v:Val):Int :=
 if cz t ≠ 0 then cz t else if ¬ 0 ≤ aj t.rows id then 4 else if attr < 0 ∨ (t.attrs.length:Int) ≤ attr then 6 else if d5 v = false then 1 else 0
def fk (l:List Row) (i k:Nat) (v:Val):List Row:=l.set i { l.getD i default with vals:=(l.getD i default).vals.set k v }
def chT (t:Tbl) (id attr:Int) (v:Val):Tbl:=if cn t id attr v = 0 then { t with rows:=fk t.rows (aj t.rows id).toNat attr.toNat v } else T0
def fe (t:Tbl) (c:Chg):Int :=
 if c.kind = 2 then c5 t c.row
 else if ¬ 0 ≤ aj t.rows c.row.id then 4
 else if ¬ (t.rows.getD (max (aj t.rows c.row.id) 0).toNat default).vals = c.row.vals then 16
 else if c.kind = 3 then d4 t c.row.id
 else cn t c.row.id c.attr c.value
def gc (t:Tbl) (c:Chg):Tbl:=if c.kind = 2 then py t c.row else if c.kind = 3 then qd t c.row.id else chT t c.row.id c.attr c.value
def aq (d:DB) (s:ByteArray):Tbl:=d.getD (bv d s).toNat default
def ah (d:DB) (c:Chg):Int :=
 if c.kind = 1 then (if c.name ≠ c.table.name then 1 else j1 d c.table)
 else if c.kind < 1 ∨ 4 < c.kind then 1
 else if bv d c.name < 0 then 4
 else fe (aq d c.name) c
def f8 (d:DB) (c:Chg):DB :=
 if ah d c ≠ 0 then d
 else if c.kind = 1 then d ++ [c.table]
 else d.set (bv d c.name).toNat (gc (aq d c.name) c)
theorem aE1 {d:DB} {c:Chg} (h:c.kind = 1) (h2:¬ c.name = c.table.name):ah d c = 1:=by rw [ah,if_pos h,if_pos h2]
theorem aE2 {d:DB} {c:Chg} (h:c.kind = 1) (h2:c.name = c.table.name):ah d c = j1 d c.table:=by rw [ah,if_pos h,if_neg (by simp [h2])]
theorem aE3 {d:DB} {c:Chg} (h:c.kind < 1 ∨ 4 < c.kind):ah d c = 1:=by rw [ah,if_neg (by omega),if_pos h]
theorem aE4 {d:DB} {c:Chg} (h:2 ≤ c.kind ∧ c.kind ≤ 4) (h2:bv d c.name < 0):ah d c = 4:=by rw [ah,if_neg (by omega),if_neg (by omega),if_pos h2]
theorem aE5 {d:DB} {c:Chg} (h:2 ≤ c.kind ∧ c.kind ≤ 4) (h2:¬ bv d c.name < 0):ah d c = fe (aq d c.name) c:=by rw [ah,if_neg (by omega),if_neg (by omega),if_neg h2]
theorem cE2 {t:Tbl} {c:Chg} (h:c.kind = 2):fe t c = c5 t c.row:=by rw [fe,if_pos h]
theorem cE4 {t:Tbl} {c:Chg} (h:¬ c.kind = 2) (h2:¬ 0 ≤ aj t.rows c.row.id):fe t c = 4:=by rw [fe,if_neg h,if_pos h2]
theorem a83 {t:Tbl} {c:Chg} (h:¬ c.kind = 2) (h2:0 ≤ aj t.rows c.row.id) (h3:¬ (t.rows.getD (max (aj t.rows c.row.id) 0).toNat default).vals = c.row.vals):fe t c = 16:=by rw [fe,if_neg h,if_neg (by simpa using h2),if_pos h3]
theorem cE3 {t:Tbl} {c:Chg} (h:c.kind = 3) (h2:0 ≤ aj t.rows c.row.id) (h3:(t.rows.getD (max (aj t.rows c.row.id) 0).toNat default).vals = c.row.vals):fe t c = d4 t c.row.id:=by rw [fe,if_neg (by omega),if_neg (by simpa using h2),if_neg (by simpa using h3),if_pos h]
theorem cEc {t:Tbl} {c:Chg} (h:¬ c.kind = 2) (h0:¬ c.kind = 3) (h2:0 ≤ aj t.rows c.row.id) (h3:(t.rows.getD (max (aj t.rows c.row.id) 0).toNat default).vals = c.row.vals):fe t c = cn t c.row.id c.attr c.value:=by rw [fe,if_neg h,if_neg (by simpa using h2),if_neg (by simpa using h3),if_neg h0]
theorem cj {d:DB} {c:Chg} {e:Int} (h:ah d c = e) (he:e ≠ 0):f8 d c = d:=by rw [f8,if_pos (by rw [h];exact he)]
theorem aD1 {d:DB} {c:Chg} (h:ah d c = 0) (h1:c.kind = 1):f8 d c = d ++ [c.table]:=by rw [f8,if_neg (by simp [h]),if_pos h1]
theorem aD2 {d:DB} {c:Chg} {u:Tbl} (h:ah d c = 0) (h1:¬ c.kind = 1) (hu:gc (aq d c.name) c = u):f8 d c = d.set (bv d c.name).toNat u:=by rw [f8,if_neg (by simp [h]),if_neg h1,hu]
theorem cT2 {t:Tbl} {c:Chg} (h:c.kind = 2):gc t c = py t c.row:=by rw [gc,if_pos h]
theorem cT3 {t:Tbl} {c:Chg} (h:c.kind = 3):gc t c = qd t c.row.id:=by rw [gc,if_neg (by omega),if_pos h]
theorem cT4 {t:Tbl} {c:Chg} (h:¬ c.kind = 2) (h2:¬ c.kind = 3):gc t c = chT t c.row.id c.attr c.value:=by rw [gc,if_neg h,if_neg h2]
def dbV (d:DB):Prop:=d.length ≤ 50 ∧ ∀ j,j < d.length → cz (d.getD j default) = 0
def ed (d:DB):List Chg → Int
 | []=>0
 | c :: cs=>if ah d c ≠ 0 then ah d c else ed (f8 d c) cs
def gu (d:DB):List Chg → DB
 | []=>d
 | c :: cs=>if ah d c ≠ 0 then [] else gu (f8 d c) cs
def o4 (s:Stt) (l:List Chg):Stt:=if l.length = 0 then s else ⟨s.done ++ [l],[],false,[]⟩
def tp (s:Stt) (c:Chg):Stt:=if s.opn = true then { s with now:=s.now ++ [c] } else o4 s [c]
def nz (x:Opn):Bool:=decide (x.vals.length ≤ 20) && decide (x.t.rows.length ≤ 6) && x.t.rows.all fun r=>decide (r.length ≤ 20)
def few (l:List Opn) (most:Int):Bool:=l.all nz && decide ((l.length:Int) ≤ most)
theorem a85 {l:List Opn} {most:Int} {i:Nat} (hi:i < l.length) (h:nz (l.getD i default) = false):few l most = false:=by
 have:=a8d (p:=nz) hi h
 simp [few,this]
end
section
open Go.Proofs
theorem nj:am Tryz.prog 73:=wgx Tryz.func73
theorem c73 (d:DB) (k:Nat) (t:Tbl) (hd:d.length ≤ 68719476736):ay Tryz.prog 73 [lq d,pI k,t.pc] (bu [lq (d.set k t)]):=by
 refine av (nt:=36) a8 Tryz.func73 rfl rfl l9 ?_;refine sx7 ?_;refine m9 0 ?_;refine m9 1 ?_;refine m9 2 ?_;refine w_3 ?_;refine m9 3 ?_;refine w_7 ?_
 refine ct 3 0 9 true 3 42 (lf Tbl.c (d.set k t)) (by decide) rfl rfl (CoP.sl rfl (.inr rfl) (fun h=>h) (fun i j hi _=>absurd hi (Nat.not_lt_zero i))) (.inr rfl) rfl rfl ?_
 refine az (ι:=Nat) ⟨[(1,some _),(3,some _),(5,some _),(6,some _),(7,some _)],[(0,some _),(1,some _),(2,some _)]⟩ ⟨⟨c9,c9,c9,c9,c9,trivial⟩,⟨u9,u9,u9,trivial⟩⟩ (fun i=>⟨[(8,some (vI i))],[(3,some (.box [.ref 9 i])),(9,some (.arr true 3 42 i (lf Tbl.c (d.set k t))))]⟩) (fun i=>i ≤ d.length) (fun i=>d.length - i) (0) (Nat.zero_le _) ⟨⟨zy,trivial⟩,⟨u9,u9,trivial⟩⟩ ?_
 rintro i hi
 refine w_9 ?_;refine a7 _ rfl (fun r0=>?_) (fun r0=>?_)
 ·
  have h0:=ae r0
  try simp only [ty] at h0
  refine w_9 ?_;refine a7 _ rfl (fun r1=>?_) (fun r1=>?_)
  ·
   have h1:=ae r1
   try simp only [ty] at h1
   refine w_4 ?_;refine m9 4 ?_;refine ra 5 true rfl rfl rfl rfl rfl rfl ?_;refine w_8 ?_;refine ⟨i + 1, ?_, ?_, ?_⟩
   · show i + 1 ≤ _
     omega
   · first | omega | (dsimp only;omega)
   exact ⟨⟨zy,c9,c9,c9,c9,c9,trivial⟩,⟨u9,⟨_,rfl,(fc (fun h=>h) (by first | (intro j hj;rw [jh (by omega) (by omega)];revert j;exact lt3 (CoP.refl _) (CoP.refl _) (CoP.refl _)) | (intro j hj;rw [jv (by omega)];revert j;exact lt3 (CoP.refl _) (CoP.refl _) (CoP.refl _))))⟩,u9,u9,u9,trivial⟩⟩
  have h1:=aa r1
  try simp only [ty] at h1
  refine ap (E:=au) a8 ag [0,1,2,3,4,5,6,7,8,9,10] ?_;refine w_7 ?_;refine m9 6 ?_;refine ra 7 true rfl rfl rfl rfl rfl rfl ?_;refine w_3 ?_;refine ⟨by kernel_rfl, ?_⟩;refine w_5 ?_
  refine ⟨i + 1, ?_, ?_, ?_⟩
  · show i + 1 ≤ _
    omega
  · first | omega | (dsimp only;omega)
  exact ⟨⟨zy,c9,c9,c9,c9,c9,trivial⟩,⟨u9,⟨_,rfl,(fc (fun h=>h) (by first | (intro j hj;rw [jh (by omega) (by omega)];revert j;exact lt3 (CoP.refl _) (CoP.refl _) (CoP.refl _)) | (intro j hj;rw [jv (by omega)];revert j;exact lt3 (CoP.refl _) (CoP.refl _) (CoP.refl _))))⟩,u9,u9,u9,trivial⟩⟩
 have h0:=aa r0
 try simp only [ty] at h0
 obtain rfl:i = d.length:=by omega
 refine w_6 ?_
 exact hx8 rfl rfl rfl (⟨CoC.agg ⟨CoP.sl (by exact List.length_set) (.inl rfl) (fun h=>h) (fun _ _ _ _=>CoP.refl _),trivial⟩,trivial⟩)
theorem aab:am Tryz.prog 12:=wgx Tryz.func12
theorem afx (s:Stt) (h:s.done.flatten.length ≤ 68719476736):br Tryz.prog 12 [s.pc.toH] [] (.v (.one (.ref 9 s.done.flatten.length))) [(9, .arr true 11 49 s.done.flatten.length (lf Chg.c s.done.flatten))] []:=by
 refine c8 (nt:=20) a8 Tryz.func12 rfl rfl l9 rfl ?_;refine sx7 ?_;refine m9 0 ?_;refine w_8 ?_;refine wv 0 0 rfl rfl (fun hn=>?_);refine w_4 ?_
 refine o9 3 9 true 11 49 (lf Chg.c []) (by decide) rfl (CoP.sl rfl (.inr rfl) (fun h=>h) (fun i j hi _=>absurd hi (Nat.not_lt_zero i))) (.inr rfl) rfl ?_
 refine az (ι:=Nat) ⟨[(1,some _)],[(0,some _)]⟩ ⟨⟨c9,trivial⟩,⟨u9,trivial⟩⟩ (fun i=>⟨[(3,some (.v (.one (.ref 9 (s.done.take i).flatten.length)))),(4,some (vI i))],[(9,some (.arr true 11 49 (s.done.take i).flatten.length (lf Chg.c (s.done.take i).flatten)))]⟩) (fun i=>i ≤ s.done.length) (fun i=>s.done.length - i) (0) (Nat.zero_le _) ⟨⟨zy,zy,trivial⟩,⟨u9,trivial⟩⟩ ?_
 rintro i hi
 refine w_9 ?_;refine a7 _ rfl (fun r0=>?_) (fun r0=>?_)
 ·
  have h0:=ae r0
  try simp only [ty] at h0
  refine w_3 ?_
  have hfl:=ko s.done i (by omega)
  refine w_7 ?_;refine ra 1 true rfl rfl rfl rfl rfl rfl ?_;refine w_7 ?_;refine ⟨i + 1, ?_, ?_, ?_⟩
  · show i + 1 ≤ _
    omega
  · first | omega | (dsimp only;omega)
  exact ⟨⟨⟨_,rfl,(CoR.of_eq (by rw [tsf _ _ (by omega),List.length_append];rfl))⟩,zy,c9,trivial⟩,⟨⟨_,rfl,(by rw [tsf _ _ (by omega)];exact kb _ (fun h=>h) rfl (fun i j hi hj=>CoP.refl _))⟩,u9,trivial⟩⟩
 have h0:=aa r0
 try simp only [ty] at h0
 obtain rfl:i = s.done.length:=by omega
 refine w_7 ?_;refine ⟨.inr rfl, ?_⟩;refine ⟨_,_,rfl,trivial,CoR.of_eq (by rw [List.take_length];rfl),⟨⟨_,rfl,CoO.of_eq (by rw [List.take_length])⟩,trivial⟩⟩
theorem ab7:am Tryz.prog 40:=wgx Tryz.func40
theorem c40 (s:Stt) (l:List Chg) (h:s.done.length ≤ 68719476736):ay Tryz.prog 40 [s.pc,pP (sm l)] (bu [(o4 s l).pc]):=by
 refine av (nt:=17) a8 Tryz.func40 rfl rfl l9 ?_;refine sx7 ?_;refine m9 0 ?_;refine m9 1 ?_;refine w_8 ?_;refine a7 _ rfl (fun r0=>?_) (fun r0=>?_)
 ·
  have h0:=ae r0
  try simp only [ty] at h0
  refine w_5 ?_
  exact hx8 rfl rfl rfl (⟨CoC.of_eq (by rw [o4,if_pos (by omega)]),trivial⟩)
 have h0:=aa r0
 try simp only [ty] at h0
 refine w_3 ?_;refine m9 2 ?_;refine w_2 ?_;refine ra 3 true rfl rfl rfl rfl rfl rfl ?_;refine qy ?_;refine m9 4 ?_;refine ra 5 true rfl rfl rfl rfl rfl rfl ?_;refine w_4 ?_;refine ⟨.inr rfl, ?_⟩
 rw [show o4 s l = ⟨s.done ++ [l],[],false,[]⟩ from by rw [o4,if_neg (by omega)]]
 exact f9 rfl rfl (⟨CoC.agg ⟨qz (Nat.zero_add _) rfl (fun i j hi hj=>CoP.of_eq (by simp [eo])) (jq (lt1 (CoP.refl _))),ar,CoP.refl _,ar,trivial⟩,trivial⟩)
theorem abq:am Tryz.prog 42:=wgx Tryz.func42
theorem c42 (s:Stt) (c:Chg) (h:s.done.length ≤ 68719476736) (h2:s.now.length ≤ 68719476736):ay Tryz.prog 42 [s.pc,c.pc] (bu [(tp s c).pc]):=by
 refine av (nt:=20) a8 Tryz.func42 rfl rfl l9 ?_;refine sx7 ?_;refine m9 0 ?_;refine m9 1 ?_;refine m9 2 ?_;refine w_7 ?_;refine a7 _ rfl (fun r0=>?_) (fun r0=>?_)
 ·
  have h0:=r0
  refine i5 ?_;refine ap (E:=au) a8 ag [0,1,2,3,4,5,6,7,8] ?_;refine m9 3 ?_;refine w_2 ?_;refine ra 4 true rfl rfl rfl rfl rfl rfl ?_;refine qy ?_;refine m9 5 ?_
  refine ra 6 true rfl rfl rfl rfl rfl rfl ?_;refine w_3 ?_;refine ⟨by kernel_rfl, ?_⟩;refine w_6 ?_;refine ⟨.inr rfl, ?_⟩
  rw [show tp s c = { s with now:=s.now ++ [c] } from if_pos (by assumption)]
  exact f9 rfl rfl (⟨CoC.agg ⟨CoP.refl _,CoP.refl _,CoP.refl _,qz (Nat.zero_add _) rfl (fun i j hi hj=>CoP.of_eq (by simp [eo])) (jq (a2o (CoP.refl _) (CoP.refl _) (CoP.refl _) (CoP.refl _) (CoP.refl _) (CoP.refl _) (CoP.refl _) (CoP.refl _) (CoP.refl _) (CoP.refl _) (CoP.refl _))),trivial⟩,trivial⟩)
 have h0:=r0
 refine w_5 ?_;refine m9 7 ?_
 refine al rfl rfl rfl rfl rfl rfl ab7 (ay.eat (hcs:=[s.pc.toH, .one (.ref 7 1)]) (o1:=[(7, .arr true 11 49 1 (lf Chg.c [c]))]) (c40 s [c] h) rfl (by (repeat' apply And.intro) <;> first | trivial | rfl) (CoL.refl _)) (bg.refl _) ⟨⟨_,rfl,⟨fun h=>h,rfl,rfl,rfl,jq (a2o (CoP.refl _) (CoP.refl _) (CoP.refl _) (CoP.refl _) (CoP.refl _) (CoP.refl _) (CoP.refl _) (CoP.refl _) (CoP.refl _) (CoP.refl _) (CoP.refl _))⟩⟩,trivial⟩ rfl rfl ?_
 refine w_3 ?_;refine ⟨.inr rfl, ?_⟩
 rw [show tp s c = o4 s [c] from if_neg (by simp_all)]
 exact f9 rfl rfl (CoL.refl _)
theorem a9l:am Tryz.prog 10:=wgx Tryz.func10
theorem c10 (l:List Opn) (most:Int):ay Tryz.prog 10 [pP (aby l),pI most] (bu [pB (few l most)]):=by
 refine av (nt:=56) a8 Tryz.func10 rfl rfl l9 ?_;refine jw 0 rfl (fun hn=>?_);refine w_4 ?_
 refine df (ι:=Unit) ⟨[(0,some _),(1,some _)],[]⟩ ⟨⟨c9,c9,trivial⟩,trivial⟩ (fun _i=>⟨[],[]⟩) (fun _i=>l.all nz = true) ?_ ?_
 ·
  refine w_5 ?_
  refine az (ι:=Nat) ⟨[(0,some _),(1,some _)],[]⟩ ⟨⟨c9,c9,trivial⟩,trivial⟩ (fun i=>⟨[(5,some (vI i))],[]⟩) (fun i=>i ≤ l.length ∧ ∀ j,j < i → nz (l.getD j default) = true) (fun i=>l.length - i) (0) (⟨Nat.zero_le _,dy⟩) ⟨⟨zy,trivial⟩,trivial⟩ ?_
  rintro i ⟨hi,hI⟩
  refine w_8 ?_;refine a7 _ rfl (fun r0=>?_) (fun r0=>?_)
  ·
   have h0:=ae r0
   try simp only [ty] at h0
   refine qb ?_;refine bo rfl rfl (fun r1=>?_) (fun r1=>?_)
   ·
    have h1:=ae r1
    try simp only [ty] at h1
    (iterate 8 refine k9 (gtf r1) ?_);refine rq rfl rfl rfl rfl rfl ?_ (hp:=r1);refine ca ?_;refine a7 _ rfl (fun _=>?_) (fun e=>by cases e);refine w_4 ?_
    exact hx8 rfl rfl rfl (⟨ccb (a85 (i:=i) (by omega) (by unfold nz;first | (rw [decide_eq_false (by omega)];rfl) | (rw [Bool.and_eq_false_iff];left;rw [Bool.and_eq_false_iff];right;exact decide_eq_false (by omega)))).symm,trivial⟩)
   have h1:=aa r1
   try simp only [ty] at h1
   (iterate 8 refine qy ?_ (hg:=(gff r1)));refine w_2 ?_;refine a7 _ rfl (fun r2=>?_) (fun r2=>?_)
   ·
    have h2:=r2
    have h2:=bw r1 h2
    have h2:=ae h2
    try simp only [ty] at h2
    refine w_4 ?_
    exact hx8 rfl rfl rfl (⟨ccb (a85 (i:=i) (by omega) (by unfold nz;first | (rw [decide_eq_false (by omega)];rfl) | (rw [Bool.and_eq_false_iff];left;rw [Bool.and_eq_false_iff];right;exact decide_eq_false (by omega)))).symm,trivial⟩)
   have h2:=r2
   have h2:=bw r1 h2
   have h2:=aa h2
   try simp only [ty] at h2
   refine w_6 ?_
   refine az (ι:=Nat) ⟨[(0,some _),(1,some _),(5,some _)],[]⟩ ⟨⟨c9,c9,c9,trivial⟩,trivial⟩ (fun k=>⟨[(6,some (vI k))],[]⟩) (fun k=>k ≤ (l.getD i default).t.rows.length ∧ ∀ j,j < k → decide (((l.getD i default).t.rows.getD j default).length ≤ 20) = true) (fun k=>(l.getD i default).t.rows.length - k) (0) (⟨Nat.zero_le _,dy⟩) ⟨⟨zy,trivial⟩,trivial⟩ ?_
   rintro k ⟨hk,hK⟩
   refine sv ?_;refine a7 _ rfl (fun r3=>?_) (fun r3=>?_)
   ·
    have h3:=ae r3
    try simp only [ty] at h3
    refine a3f ?_;refine a7 _ rfl (fun r4=>?_) (fun r4=>?_)
    ·
     have h4:=ae r4
     try simp only [ty] at h4
     refine w_4 ?_
     exact hx8 rfl rfl rfl (⟨ccb (a85 (i:=i) (by omega) (by unfold nz;rw [Bool.and_eq_false_iff];right;exact a8d (i:=k) (by omega) (decide_eq_false (by omega)))).symm,trivial⟩)
    have h4:=aa r4
    try simp only [ty] at h4
    refine w_6 ?_;refine ⟨k + 1, ?_, ?_, ?_⟩
    · exact ⟨by omega,dr hK (decide_eq_true (by omega))⟩
    · first | omega | (dsimp only;omega)
    exact ⟨⟨zy,c9,c9,c9,trivial⟩,trivial⟩
   have h3:=aa r3
   try simp only [ty] at h3
   have hfw:nz (l.getD i default) = true:=by
    unfold nz
    simp only [Bool.and_eq_true,decide_eq_true_eq]
    exact ⟨⟨by omega,by omega⟩,a9b fun j hj=>hK j (by omega)⟩
   refine w_6 ?_;refine ⟨i + 1, ?_, ?_, ?_⟩
   · exact ⟨by omega,dr hI (hfw)⟩
   · first | omega | (dsimp only;omega)
   exact ⟨⟨zy,c9,c9,trivial⟩,trivial⟩
  have h0:=aa r0
  try simp only [ty] at h0
  refine cw ?_;refine ⟨(), ?_, ?_⟩
  · exact a9b fun j hj=>hI j (by omega)
  exact ⟨⟨c9,c9,trivial⟩,trivial⟩
 rintro _ hj
 refine w_8 ?_
 exact hx8 rfl rfl rfl (⟨ccb (by simp [few,hj]),trivial⟩)
end
section
open Go.Proofs
theorem ais (r:Row) (h:r.vals.length ≤ 68719476736):br Tryz.prog 85 [r.pc.toH] [] (.v (.agg [.p (.raw (.int .i64 r.id)), .ref 101 r.vals.length])) [(101, .arr true 3 47 r.vals.length (lf Val.c r.vals))] []:=by
 refine c8 (nt:=10) a8 Tryz.func85 rfl rfl l9 rfl ?_;refine sx7 ?_;refine m9 99 ?_;refine m9 100 ?_;refine w_2 ?_;refine ap (E:=au) a8 ag [0,1,2,3,4,5,6,7] ?_;refine w_2 ?_
 refine m9 101 ?_;refine w_2 ?_;refine ra 102 true rfl rfl rfl rfl rfl rfl ?_;refine w_3 ?_;refine ⟨by kernel_rfl, ?_⟩;refine ej ?_;refine ⟨.inr rfl, ?_⟩
 exact ⟨_,_,rfl,(by (repeat' apply And.intro) <;> first | trivial | exact Nat.le_of_ble_eq_true rfl),⟨CoP.refl _,congrArg (HV.ref 101) (Nat.zero_add _),trivial⟩,⟨⟨_,rfl,⟨fun h=>h,rfl,rfl,(Nat.zero_add _).symm,fun i j _ _=>CoP.of_eq (by simp [eo])⟩⟩,trivial⟩⟩
theorem afg (l:List Val) (h:l.length ≤ 68719476736):br Tryz.prog 78 [.one (.p (vals l))] [] (.v (.one (.ref 101 l.length))) [(101, .arr true 3 47 l.length (lf Val.c l))] []:=(ag5 l h).swap 0 101
theorem aic (r:Row) (h:r.vals.length ≤ 68719476736):br Tryz.prog 98 [r.pc.toH] [] (.v (.agg [.p (.raw (.int .i64 r.id)), .ref 101 r.vals.length])) [(101, .arr true 3 47 r.vals.length (lf Val.c r.vals))] []:=by
 refine c8 (nt:=9) a8 Tryz.func98 rfl rfl l9 rfl ?_;refine sx7 ?_;refine m9 0 ?_;refine m9 1 ?_;refine w_2 ?_;refine ap (E:=au) a8 ag [0,1,2,3,4,5,6] ?_;refine w_4 ?_
 refine al rfl rfl rfl rfl rfl rfl xf (afg r.vals h) (bg.refl _) trivial rfl rfl ?_;refine w_3 ?_;refine ⟨by kernel_rfl, ?_⟩;refine ej ?_;refine ⟨.inr rfl, ?_⟩
 exact ⟨_,_,rfl,(by (repeat' apply And.intro) <;> first | trivial | exact Nat.le_of_ble_eq_true rfl),CoR.refl _,⟨u9,trivial⟩⟩
theorem ai9 (r:Row) (h:r.vals.length ≤ 68719476736):br Tryz.prog 52 [r.pc.toH] [] (.v (.agg [.p (.raw (.int .i64 r.id)), .ref 101 r.vals.length])) [(101, .arr true 3 47 r.vals.length (lf Val.c r.vals))] []:=by
 refine c8 (nt:=9) a8 Tryz.func52 rfl rfl l9 rfl ?_;refine sx7 ?_;refine m9 0 ?_;refine m9 1 ?_;refine w_2 ?_;refine ap (E:=au) a8 ag [0,1,2,3,4,5,6] ?_;refine w_4 ?_
 refine al rfl rfl rfl rfl rfl rfl xf (afg r.vals h) (bg.refl _) trivial rfl rfl ?_;refine w_3 ?_;refine ⟨by kernel_rfl, ?_⟩;refine ej ?_;refine ⟨.inr rfl, ?_⟩
 exact ⟨_,_,rfl,(by (repeat' apply And.intro) <;> first | trivial | exact Nat.le_of_ble_eq_true rfl),CoR.refl _,⟨u9,trivial⟩⟩
theorem ahn (t:Tbl) (l:List Row) (ha:t.attrs.length ≤ 68719476736) (hl:l.length ≤ 68719476736) (hr:k7 l):br Tryz.prog 84 [t.pc.toH, .one (.p (rows l))] [] (.v (.agg [.p (.raw (.string t.name)), .p (it t.attrs), .ref 100 l.length])) [(100, .arr true 2 45 l.length (lf Row.c l))] []:=by
 refine c8 (nt:=31) a8 Tryz.func84 rfl rfl l9 rfl ?_;refine sx7 ?_;refine m9 0 ?_;refine m9 1 ?_;refine w_2 ?_;refine ap (E:=au) a8 ag [0,1,2,3,4,5,6,7,8] ?_;refine w_2 ?_
 refine m9 2 ?_;refine w_2 ?_;refine ra 3 true rfl rfl rfl rfl rfl rfl ?_;refine qy ?_;refine m9 4 ?_;refine w_2 ?_;refine ⟨by kernel_rfl, ?_⟩;refine f4 4 1 rfl rfl rfl rfl rfl ?_;refine w_6 ?_
 refine ct 4 2 100 true 2 45 (lf Row.c l) (by decide) rfl rfl (CoP.sl rfl (.inr rfl) (fun h=>h) (fun i j hi _=>absurd hi (Nat.not_lt_zero i))) (.inr rfl) rfl rfl ?_
 refine az (ι:=Nat) ⟨[(1,some _),(4,some _),(5,some _)],[(1,some _)]⟩ ⟨⟨c9,c9,c9,trivial⟩,⟨u9,trivial⟩⟩ (fun i=>⟨[(6,some (vI i))],[(4,some (.box [.p (.raw (.string t.name)), .p (it t.attrs), .ref 100 i])),(100,some (.arr true 2 45 i (lf Row.c l)))]⟩) (fun i=>i ≤ l.length) (fun i=>l.length - i) (0) (Nat.zero_le _) ⟨⟨zy,trivial⟩,⟨⟨_,rfl,⟨CoH.refl _,yy,CoH.refl _,trivial⟩⟩,u9,trivial⟩⟩ ?_
 rintro i hi
 refine w_8 ?_;refine a7 _ rfl (fun r0=>?_) (fun r0=>?_)
 ·
  have h0:=ae r0
  try simp only [ty] at h0
  refine w_3 ?_;refine ap (E:=au) a8 ag [0,1,2,3,4,5,6,7,8,9,10] ?_;refine w_6 ?_;refine rc rfl rfl rfl rfl rfl rfl uy (c85 _ (hr i (by omega)).1) (CoL.refl _) rfl rfl ?_;refine m9 5 ?_
  refine ra 6 true rfl rfl rfl rfl rfl rfl ?_;refine w_3 ?_;refine ⟨by kernel_rfl, ?_⟩;refine w_5 ?_;refine ⟨i + 1, ?_, ?_, ?_⟩
  · show i + 1 ≤ _
    omega
  · first | omega | (dsimp only;omega)
  exact ⟨⟨zy,c9,c9,c9,trivial⟩,⟨u9,⟨_,rfl,(fc (fun h=>h) (lt2 (CoP.refl _) (CoP.refl _)))⟩,u9,trivial⟩⟩
 have h0:=aa r0
 try simp only [ty] at h0
 obtain rfl:i = l.length:=by omega
 refine w_7 ?_;refine ⟨.inr rfl, ?_⟩
 exact ⟨_,_,rfl,(by (repeat' apply And.intro) <;> first | trivial | exact Nat.le_of_ble_eq_true rfl),CoR.refl _,⟨u9,trivial⟩⟩
theorem ai8 (t:Tbl) (l:List Row) (ha:t.attrs.length ≤ 68719476736) (hl:l.length ≤ 68719476736) (hr:k7 l) (i0:Nat) (hi0:i0 < l.length):br Tryz.prog 84 [t.pc.toH, .one (.p (rows l))] [] (.v (.agg [.p (.raw (.string t.name)), .p (it t.attrs), .ref 100 l.length])) [(100, .arrh 2 45 l.length [101] (me i0 (.ref 101 (l.getD i0 default).vals.length) (lf Row.c l))),(101, .arr true 3 47 (l.getD i0 default).vals.length (lf Val.c (l.getD i0 default).vals))] []:=by
 refine c8 (nt:=31) a8 Tryz.func84 rfl rfl l9 rfl ?_;refine sx7 ?_;refine m9 0 ?_;refine m9 1 ?_;refine w_2 ?_;refine ap (E:=au) a8 ag [0,1,2,3,4,5,6,7,8] ?_;refine w_2 ?_
 refine m9 2 ?_;refine w_2 ?_;refine ra 3 true rfl rfl rfl rfl rfl rfl ?_;refine qy ?_;refine m9 4 ?_;refine w_2 ?_;refine ⟨by kernel_rfl, ?_⟩;refine f4 4 1 rfl rfl rfl rfl rfl ?_;refine w_6 ?_
 refine ct 4 2 100 true 2 45 (lf Row.c l) (by decide) rfl rfl (CoP.sl rfl (.inr rfl) (fun h=>h) (fun i j hi _=>absurd hi (Nat.not_lt_zero i))) (.inr rfl) rfl rfl ?_
 refine az (ι:=(Nat ⊕ Nat)) ⟨[(1,some _),(4,some _),(5,some _)],[(1,some _)]⟩ ⟨⟨c9,c9,c9,trivial⟩,⟨u9,trivial⟩⟩ (fun x=>match x with | .inl i=>⟨[(6,some (vI i))],[(4,some (.box [.p (.raw (.string t.name)), .p (it t.attrs), .ref 100 i])),(100,some (.arr true 2 45 i (lf Row.c l)))]⟩ | .inr i=>⟨[(6,some (vI i))],[(4,some (.box [.p (.raw (.string t.name)), .p (it t.attrs), .ref 100 i])),(100,some (.arrh 2 45 i [101] (me i0 (.ref 101 (l.getD i0 default).vals.length) (lf Row.c l)))),(101,some (.arr true 3 47 (l.getD i0 default).vals.length (lf Val.c (l.getD i0 default).vals)))]⟩) (fun x=>match x with | .inl i=>i ≤ i0 | .inr i=>i0 < i ∧ i ≤ l.length) (fun x=>match x with | .inl i=>l.length - i | .inr i=>l.length - i) (.inl 0) (Nat.zero_le _) ⟨⟨zy,trivial⟩,⟨⟨_,rfl,⟨CoH.refl _,yy,CoH.refl _,trivial⟩⟩,u9,trivial⟩⟩ ?_
 rintro (i | i) hp
 rcases Nat.lt_or_ge i i0 with hlt | hge
 ·
  have hp:i ≤ i0:=hp
  refine w_8 ?_;refine a7 _ rfl (fun r0=>?_) (fun r0=>?_)
  ·
   have h0:=ae r0
   try simp only [ty] at h0
   refine w_3 ?_;refine ap (E:=au) a8 ag [0,1,2,3,4,5,6,7,8,9,10] ?_;refine w_6 ?_;refine rc rfl rfl rfl rfl rfl rfl uy (c85 _ (hr i (by omega)).1) (CoL.refl _) rfl rfl ?_;refine m9 5 ?_
   refine ra 6 true rfl rfl rfl rfl rfl rfl ?_;refine w_3 ?_;refine ⟨by kernel_rfl, ?_⟩;refine w_5 ?_;refine ⟨.inl (i + 1), ?_, ?_, ?_⟩
   · show i + 1 ≤ i0
     omega
   · first | omega | (dsimp only;omega) | (show l.length - (i + 1) < l.length - i;omega)
   exact ⟨⟨zy,c9,c9,c9,trivial⟩,⟨u9,⟨_,rfl,(fc (fun h=>h) (lt2 (CoP.refl _) (CoP.refl _)))⟩,u9,trivial⟩⟩
  have h0:=aa r0
  try simp only [ty] at h0
  exfalso
  omega
 ·
  have hp:i ≤ i0:=hp
  obtain rfl:i = i0:=by omega
  refine adv 100 (.arrh 2 45 i [] fun a b=>.p (lf Row.c l a b)) rfl ⟨.inl rfl,rfl,rfl,rfl,fun _ _ _ _=>CoH.refl _⟩ ?_;refine w_8 ?_;refine a7 _ rfl (fun r1=>?_) (fun r1=>?_)
  ·
   have h1:=ae r1
   try simp only [ty] at h1
   refine w_3 ?_;refine ap (E:=au) a8 ag [0,1,2,3,4,5,6,7,8,9,10] ?_;refine w_6 ?_
   refine al rfl rfl rfl rfl rfl rfl uy (ais (l.getD i default) (hr i (by omega)).1) (bg.refl _) trivial rfl rfl ?_;refine m9 7 ?_;refine ra 8 true rfl rfl rfl rfl rfl rfl ?_;refine w_3 ?_
   refine ⟨by kernel_rfl, ?_⟩;refine w_5 ?_;refine ⟨.inr (i + 1), ?_, ?_, ?_⟩
   · show i < i + 1 ∧ i + 1 ≤ l.length
     omega
   · first | omega | (dsimp only;omega) | (show l.length - (i + 1) < l.length - i;omega)
   exact ⟨⟨zy,c9,c9,c9,trivial⟩,⟨u9,⟨_,rfl,(a18 (CoP.refl _) (CoH.refl _) (fun _ h=>h))⟩,u9,u9,trivial⟩⟩
  have h1:=aa r1
  try simp only [ty] at h1
  exfalso
  omega
 have hp:i0 < i ∧ i ≤ l.length:=hp
 obtain ⟨hp1,hp2⟩:=hp
 refine w_8 ?_;refine a7 _ rfl (fun r2=>?_) (fun r2=>?_)
 ·
  have h2:=ae r2
  try simp only [ty] at h2
  refine w_3 ?_;refine ap (E:=au) a8 ag [0,1,2,3,4,5,6,7,8,9,10] ?_;refine w_6 ?_;refine rc rfl rfl rfl rfl rfl rfl uy (c85 _ (hr i (by omega)).1) (CoL.refl _) rfl rfl ?_;refine m9 9 ?_
  refine ra 10 true rfl rfl rfl rfl rfl rfl ?_;refine w_3 ?_;refine ⟨by kernel_rfl, ?_⟩;refine w_5 ?_;refine ⟨.inr (i + 1), ?_, ?_, ?_⟩
  · show i0 < i + 1 ∧ i + 1 ≤ l.length
    omega
  · first | omega | (dsimp only;omega) | (show l.length - (i + 1) < l.length - i;omega)
  exact ⟨⟨zy,c9,c9,c9,trivial⟩,⟨u9,⟨_,rfl,(a3r hp1 (lt2 (CoP.refl _) (CoP.refl _)) (fun _ h=>h))⟩,u9,u9,trivial⟩⟩
 have h2:=aa r2
 try simp only [ty] at h2
 obtain rfl:i = l.length:=by omega
 refine w_7 ?_;refine ⟨.inr rfl, ?_⟩
 exact ⟨_,_,rfl,(by (repeat' apply And.intro) <;> first | trivial | exact Nat.le_of_ble_eq_true rfl),CoR.refl _,⟨u9,u9,trivial⟩⟩
theorem aib (t:Tbl) (l:List Row) (ha:t.attrs.length ≤ 68719476736) (hl:l.length ≤ 68719476736) (hr:k7 l):br Tryz.prog 94 [t.pc.toH, .one (.p (rows l))] [] (.v (.agg [.p (.raw (.string t.name)), .p (it t.attrs), .ref 100 l.length])) [(100, .arr true 2 45 l.length (lf Row.c l))] []:=by
 refine c8 (nt:=29) a8 Tryz.func94 rfl rfl l9 rfl ?_;refine sx7 ?_;refine m9 0 ?_;refine m9 1 ?_;refine w_2 ?_;refine ap (E:=au) a8 ag [0,1,2,3,4,5,6,7] ?_;refine w_4 ?_
 refine qcx xn (c77 _ ha) ?_;refine qy ?_;refine m9 2 ?_;refine w_2 ?_;refine ⟨by kernel_rfl, ?_⟩;refine w_8 ?_
 refine ct 2 2 100 true 2 45 (lf Row.c l) (by decide) rfl rfl (CoP.sl rfl (.inr rfl) (fun h=>h) (fun i j hi _=>absurd hi (Nat.not_lt_zero i))) (.inr rfl) rfl rfl ?_
 refine az (ι:=Nat) ⟨[(4,some _),(5,some _),(14,some _),(15,some _)],[(1,some _)]⟩ ⟨⟨c9,c9,c9,c9,trivial⟩,⟨u9,trivial⟩⟩ (fun i=>⟨[(16,some (vI i))],[(2,some (.box [.p (.raw (.string t.name)), .p (it t.attrs), .ref 100 i])),(100,some (.arr true 2 45 i (lf Row.c l)))]⟩) (fun i=>i ≤ l.length) (fun i=>l.length - i) (0) (Nat.zero_le _) ⟨⟨zy,trivial⟩,⟨u9,u9,trivial⟩⟩ ?_
 rintro i hi
 refine w_5 ?_;refine a7 _ rfl (fun r0=>?_) (fun r0=>?_)
 ·
  have h0:=ae r0
  try simp only [ty] at h0
  refine w_7 ?_;refine m9 3 ?_;refine w_2 ?_;refine ap (E:=au) a8 ag [0,1,2,3,4,5,6,7] ?_;refine w_3 ?_;refine rc rfl rfl rfl rfl rfl rfl uw (c98 _ (hr i (by omega)).1) (CoL.refl _) rfl rfl ?_
  refine m9 4 ?_;refine ra 5 true rfl rfl rfl rfl rfl rfl ?_;refine w_3 ?_;refine ⟨by kernel_rfl, ?_⟩;refine w_4 ?_;refine ⟨i + 1, ?_, ?_, ?_⟩
  · show i + 1 ≤ _
    omega
  · first | omega | (dsimp only;omega)
  exact ⟨⟨zy,c9,c9,c9,c9,trivial⟩,⟨u9,⟨_,rfl,(fc (fun h=>h) (lt2 (CoP.refl _) (CoP.refl _)))⟩,u9,trivial⟩⟩
 have h0:=aa r0
 try simp only [ty] at h0
 obtain rfl:i = l.length:=by omega
 refine w_7 ?_;refine ⟨.inr rfl, ?_⟩
 exact ⟨_,_,rfl,(by (repeat' apply And.intro) <;> first | trivial | exact Nat.le_of_ble_eq_true rfl),CoR.refl _,⟨u9,trivial⟩⟩
theorem ahu (t:Tbl) (l:List Row) (ha:t.attrs.length ≤ 68719476736) (hl:l.length ≤ 68719476736) (hr:k7 l) (i0:Nat) (hi0:i0 < l.length):br Tryz.prog 94 [t.pc.toH, .one (.p (rows l))] [] (.v (.agg [.p (.raw (.string t.name)), .p (it t.attrs), .ref 100 l.length])) [(100, .arrh 2 45 l.length [101] (me i0 (.ref 101 (l.getD i0 default).vals.length) (lf Row.c l))),(101, .arr true 3 47 (l.getD i0 default).vals.length (lf Val.c (l.getD i0 default).vals))] []:=by
 refine c8 (nt:=29) a8 Tryz.func94 rfl rfl l9 rfl ?_;refine sx7 ?_;refine m9 0 ?_;refine m9 1 ?_;refine w_2 ?_;refine ap (E:=au) a8 ag [0,1,2,3,4,5,6,7] ?_;refine w_4 ?_
 refine qcx xn (c77 _ ha) ?_;refine qy ?_;refine m9 2 ?_;refine w_2 ?_;refine ⟨by kernel_rfl, ?_⟩;refine w_8 ?_
 refine ct 2 2 100 true 2 45 (lf Row.c l) (by decide) rfl rfl (CoP.sl rfl (.inr rfl) (fun h=>h) (fun i j hi _=>absurd hi (Nat.not_lt_zero i))) (.inr rfl) rfl rfl ?_
 refine az (ι:=(Nat ⊕ Nat)) ⟨[(4,some _),(5,some _),(14,some _),(15,some _)],[(1,some _)]⟩ ⟨⟨c9,c9,c9,c9,trivial⟩,⟨u9,trivial⟩⟩ (fun x=>match x with | .inl i=>⟨[(16,some (vI i))],[(2,some (.box [.p (.raw (.string t.name)), .p (it t.attrs), .ref 100 i])),(100,some (.arr true 2 45 i (lf Row.c l)))]⟩ | .inr i=>⟨[(16,some (vI i))],[(2,some (.box [.p (.raw (.string t.name)), .p (it t.attrs), .ref 100 i])),(100,some (.arrh 2 45 i [101] (me i0 (.ref 101 (l.getD i0 default).vals.length) (lf Row.c l)))),(101,some (.arr true 3 47 (l.getD i0 default).vals.length (lf Val.c (l.getD i0 default).vals)))]⟩) (fun x=>match x with | .inl i=>i ≤ i0 | .inr i=>i0 < i ∧ i ≤ l.length) (fun x=>match x with | .inl i=>l.length - i | .inr i=>l.length - i) (.inl 0) (Nat.zero_le _) ⟨⟨zy,trivial⟩,⟨u9,u9,trivial⟩⟩ ?_
 rintro (i | i) hp
 rcases Nat.lt_or_ge i i0 with hlt | hge
 ·
  have hp:i ≤ i0:=hp
  refine w_5 ?_;refine a7 _ rfl (fun r0=>?_) (fun r0=>?_)
  ·
   have h0:=ae r0
   try simp only [ty] at h0
   refine w_7 ?_;refine m9 3 ?_;refine w_2 ?_;refine ap (E:=au) a8 ag [0,1,2,3,4,5,6,7] ?_;refine w_3 ?_
   refine rc rfl rfl rfl rfl rfl rfl uw (c98 _ (hr i (by omega)).1) (CoL.refl _) rfl rfl ?_;refine m9 4 ?_;refine ra 5 true rfl rfl rfl rfl rfl rfl ?_;refine w_3 ?_;refine ⟨by kernel_rfl, ?_⟩;refine w_4 ?_
   refine ⟨.inl (i + 1), ?_, ?_, ?_⟩
   · show i + 1 ≤ i0
     omega
   · first | omega | (dsimp only;omega) | (show l.length - (i + 1) < l.length - i;omega)
   exact ⟨⟨zy,c9,c9,c9,c9,trivial⟩,⟨u9,⟨_,rfl,(fc (fun h=>h) (lt2 (CoP.refl _) (CoP.refl _)))⟩,u9,trivial⟩⟩
  have h0:=aa r0
  try simp only [ty] at h0
  exfalso
  omega
 ·
  have hp:i ≤ i0:=hp
  obtain rfl:i = i0:=by omega
  refine adv 100 (.arrh 2 45 i [] fun a b=>.p (lf Row.c l a b)) rfl ⟨.inl rfl,rfl,rfl,rfl,fun _ _ _ _=>CoH.refl _⟩ ?_;refine w_5 ?_;refine a7 _ rfl (fun r1=>?_) (fun r1=>?_)
  ·
   have h1:=ae r1
   try simp only [ty] at h1
   refine w_7 ?_;refine m9 6 ?_;refine w_2 ?_;refine ap (E:=au) a8 ag [0,1,2,3,4,5,6,7] ?_;refine w_3 ?_
   refine al rfl rfl rfl rfl rfl rfl uw (aic (l.getD i default) (hr i (by omega)).1) (bg.refl _) trivial rfl rfl ?_;refine m9 7 ?_;refine ra 8 true rfl rfl rfl rfl rfl rfl ?_;refine w_3 ?_
   refine ⟨by kernel_rfl, ?_⟩;refine w_4 ?_;refine ⟨.inr (i + 1), ?_, ?_, ?_⟩
   · show i < i + 1 ∧ i + 1 ≤ l.length
     omega
   · first | omega | (dsimp only;omega) | (show l.length - (i + 1) < l.length - i;omega)
   exact ⟨⟨zy,c9,c9,c9,c9,trivial⟩,⟨u9,⟨_,rfl,(a18 (CoP.refl _) (CoH.refl _) (fun _ h=>h))⟩,u9,u9,trivial⟩⟩
  have h1:=aa r1
  try simp only [ty] at h1
  exfalso
  omega
 have hp:i0 < i ∧ i ≤ l.length:=hp
 obtain ⟨hp1,hp2⟩:=hp
 refine w_5 ?_;refine a7 _ rfl (fun r2=>?_) (fun r2=>?_)
 ·
  have h2:=ae r2
  try simp only [ty] at h2
  refine w_7 ?_;refine m9 9 ?_;refine w_2 ?_;refine ap (E:=au) a8 ag [0,1,2,3,4,5,6,7] ?_;refine w_3 ?_;refine rc rfl rfl rfl rfl rfl rfl uw (c98 _ (hr i (by omega)).1) (CoL.refl _) rfl rfl ?_
  refine m9 10 ?_;refine ra 11 true rfl rfl rfl rfl rfl rfl ?_;refine w_3 ?_;refine ⟨by kernel_rfl, ?_⟩;refine w_4 ?_;refine ⟨.inr (i + 1), ?_, ?_, ?_⟩
  · show i0 < i + 1 ∧ i + 1 ≤ l.length
    omega
  · first | omega | (dsimp only;omega) | (show l.length - (i + 1) < l.length - i;omega)
  exact ⟨⟨zy,c9,c9,c9,c9,trivial⟩,⟨u9,⟨_,rfl,(a3r hp1 (lt2 (CoP.refl _) (CoP.refl _)) (fun _ h=>h))⟩,u9,u9,trivial⟩⟩
 have h2:=aa r2
 try simp only [ty] at h2
 obtain rfl:i = l.length:=by omega
 refine w_7 ?_;refine ⟨.inr rfl, ?_⟩
 exact ⟨_,_,rfl,(by (repeat' apply And.intro) <;> first | trivial | exact Nat.le_of_ble_eq_true rfl),CoR.refl _,⟨u9,u9,trivial⟩⟩
end
section
theorem xk {n:Nat} {b:Int} {x:Row} {l:List Row} (h:ek n b (x :: l) = 0):b < x.id ∧ x.vals.length = n ∧ x.vals.all d5 = true ∧ ek n x.id l = 0:=by
 simp only [ek] at h
 split at h
 · omega
 split at h
 · omega
 split at h
 · omega
 rename_i h1 h2 h3
 exact ⟨by omega,by omega,by simpa using h3,h⟩
theorem go {n:Nat}:∀ {l:List Row} {b:Int},ek n b l = 0 → ∀ x ∈ l,b < x.id ∧ x.vals.length = n ∧ x.vals.all d5 = true
 | [],_,_,x,hx=>by cases hx
 | y :: l,b,h,x,hx=>by
  obtain ⟨h1,h2,h3,h4⟩:=xk h
  rcases List.mem_cons.1 hx with rfl | hx
  · exact ⟨h1,h2,h3⟩
  obtain ⟨g1,g2⟩:=go h4 x hx
  exact ⟨by omega,g2⟩
abbrev ff (l:List Row):Prop:=l.Pairwise fun a b=>a.id < b.id
theorem fu {n:Nat}:∀ {l:List Row} {b:Int},ek n b l = 0 → ff l
 | [],_,_=>List.Pairwise.nil
 | y :: l,b,h=>by
  obtain ⟨h1,h2,h3,h4⟩:=xk h
  exact List.Pairwise.cons (fun x hx=>(go h4 x hx).1) (fu h4)
theorem qo {n:Nat}:∀ {l:List Row} {b:Int},(∀ x ∈ l,b < x.id ∧ x.vals.length = n ∧ x.vals.all d5 = true) → ff l → ek n b l = 0
 | [],_,_,_=>rfl
 | y :: l,b,h,hs=>by
  obtain ⟨h1,h2,h3⟩:=h y (by simp)
  unfold ff at hs
  rw [List.pairwise_cons] at hs
  simp only [ek]
  rw [if_neg (by omega),if_neg (by omega),if_neg (by simp [h3])]
  exact qo (fun x hx=>⟨hs.1 x hx,(h x (by simp [hx])).2⟩) hs.2
structure TOk (t:Tbl):Prop where
 nm:ib t.name = true
 na:t.attrs.length ≤ 16
 nr:t.rows.length ≤ 1000
 nms:wd t.attrs = true
 rs:ek t.attrs.length 0 t.rows = 0
theorem ey {t:Tbl}:cz t = 0 ↔ TOk t:=by
 constructor
 · intro h
   unfold cz at h
   split at h
   · omega
   split at h
   · omega
   split at h
   · omega
   rename_i h1 h2 h3
   exact ⟨by simpa using h1,by omega,by omega,by simpa using h3,h⟩
 rintro ⟨h1,h2,h3,h4,h5⟩
 unfold cz
 rw [if_neg (by simp [h1]),if_neg (by omega),if_neg (by simp [h4]),h5]
theorem a91 {v:Val} (h:d5 v = true):v.str.size ≤ 200:=by
 unfold d5 at h
 have e0:emp.size = 0:=rfl
 split at h
 · simp only [Bool.and_eq_true,decide_eq_true_eq] at h;rw [h.2];omega
 split at h
 · simp only [decide_eq_true_eq] at h;rw [h];omega
 split at h
 · simp only [Bool.and_eq_true,decide_eq_true_eq] at h;omega
 simp only [Bool.and_eq_true,decide_eq_true_eq] at h;rw [h.2];omega
theorem aep {l:List Val} (h:l.all d5 = true):po l:=by
 intro j hj
 rw [cg l j hj]
 have:=a91 (List.all_eq_true.1 h _ (List.getElem_mem hj))
 unfold Val.ok
 omega
theorem TOk.ok {t:Tbl} (h:TOk t):t.ok:=by
 refine ⟨by have:=h.na;omega,by have:=h.nr;omega,fun j hj=>?_⟩
 rw [cg _ j hj]
 obtain ⟨_,h2,h3⟩:=go h.rs _ (List.getElem_mem hj)
 exact ⟨by have:=h.na;omega,aep h3⟩
theorem k7.sub {l l':List Row} (h:k7 l) (hs:∀ x ∈ l',x ∈ l):k7 l':=by
 intro j hj
 rw [cg _ j hj]
 obtain ⟨k,hk,e⟩:=List.getElem_of_mem (hs _ (List.getElem_mem hj))
 rw [← e,← cg _ k hk]
 exact h k hk
theorem aa8 {t:Tbl} (h:cz t = 0):t.ok:=(ey.1 h).ok
def dv (l:List Row) (k:Nat) (r:Row):List Row:=l.take k ++ r :: l.drop k
theorem ks {l:List Row} {k:Nat} {r:Row} (h:k ≤ l.length):(dv l k r).length = l.length + 1:=by simp [dv];omega
theorem yt {l:List Row} {k:Nat} {r:Row} (h:k ≤ l.length):(dv l k r).getD k default = r:=by
 simp [dv,List.getD,List.getElem?_append,h]
theorem qg {l:List Row} {k:Nat} {r:Row} (h0:0 < k) (h:k ≤ l.length):(dv l k r).getD (k - 1) default = l.getD (k - 1) default:=by
 simp only [dv,List.getD]
 rw [List.getElem?_append_left (by simp;omega),List.getElem?_take,if_pos (by omega)]
theorem aal {l:List Row} {r:Row}:dv l l.length r = l ++ [r]:=by simp [dv]
theorem yd {l:List Row} {k i:Nat} {r:Row} (h:k ≤ l.length):(dv l k r)[i]? = if i < k then l[i]? else if i = k then some r else l[i - 1]?:=by
 simp only [dv]
 by_cases h1:i < k
 · rw [if_pos h1,List.getElem?_append_left (by simp;omega),List.getElem?_take,if_pos h1]
 rw [if_neg h1,List.getElem?_append_right (by simp;omega),List.length_take,Nat.min_eq_left h]
 by_cases h2:i = k
 · subst h2;simp
 rw [if_neg h2]
 obtain ⟨d,rfl⟩:∃ d,i = k + 1 + d:=⟨i - k - 1,by omega⟩
 rw [show k + 1 + d - k = d + 1 by omega,List.getElem?_cons_succ,List.getElem?_drop]
 congr 1
 omega
theorem a8l {l:List Row} {k:Nat} {r:Row} (h0:0 < k) (h:k ≤ l.length):((dv l k r).set k (l.getD (k - 1) default)).set (k - 1) r = dv l (k - 1) r:=by
 apply List.ext_getElem?
 intro i
 rw [yd (by omega),List.getElem?_set,List.getElem?_set,List.length_set,ks h,yd h]
 by_cases h1:k - 1 = i
 · subst h1
   rw [if_pos rfl,if_pos (by omega),if_neg (by omega),if_pos rfl]
 rw [if_neg h1]
 by_cases h2:k = i
 · subst h2
   rw [if_pos rfl,if_pos (by omega),if_neg (by omega),if_neg (by omega),List.getD,List.getElem?_eq_getElem (by omega)]
   rfl
 rw [if_neg h2]
 by_cases h3:i < k
 · rw [if_pos h3,if_pos (by omega)]
 rw [if_neg h3,if_neg (by omega),if_neg (by omega),if_neg (by omega)]
theorem qe:∀ {l:List Row} {k:Nat} {r:Row},ff l → k ≤ l.length → (∀ j,k ≤ j → j < l.length → r.id < (l.getD j default).id) → (k = 0 ∨ ¬ r.id < (l.getD (k - 1) default).id) → dv l k r = f6 r l
 | [],k,r,_,hk,_,_=>by
  obtain rfl:k = 0:=by simpa using hk
  rfl
 | x :: l,0,r,hs,hk,h1,h2=>by
  have:=h1 0 (Nat.le_refl _) (by simp)
  simp only [List.getD_cons_zero] at this
  simp [dv,f6,this]
 | x :: l,k + 1,r,hs,hk,h1,h2=>by
  have h2:=h2.resolve_left (by omega)
  unfold ff at hs
  rw [List.pairwise_cons] at hs
  have hx:¬ r.id < x.id:=by
   cases k with
   | zero=>simpa using h2
   | succ k =>
    have hk':k < l.length:=by simp at hk;omega
    simp only [Nat.add_sub_cancel,List.getD_cons_succ] at h2
    have:=hs.1 _ (List.getElem_mem hk')
    rw [cg _ _ hk'] at h2
    omega
  have ih:=qe (l:=l) (k:=k) (r:=r) hs.2 (by simpa using hk) (fun j hj hl=>by
   have:=h1 (j + 1) (by omega) (by simpa using hl)
   simpa using this) (by
   cases k with
   | zero=>exact .inl rfl
   | succ k =>
    refine .inr ?_
    simp only [Nat.add_sub_cancel,List.getD_cons_succ] at h2 ⊢
    exact h2)
  simp only [f6,if_neg hx,← ih]
  simp [dv]
theorem a57 {r:Row}:∀ {l:List Row},(f6 r l).length = l.length + 1
 | []=>rfl
 | x :: l=>by
  simp only [f6]
  split
  · simp
  simp [a57 (l:=l)]
theorem i3 {t:Tbl} {r:Row} {e:Int} (h:c5 t r = e) (he:e ≠ 0):py t r = T0:=by rw [py,if_neg (by rw [h];exact he)]
theorem qr {t:Tbl} {r:Row} (h:c5 t r = 0):py t r = ⟨t.name,t.attrs,f6 r t.rows⟩:=by rw [py,if_pos h]
theorem wn {t:Tbl} {i e:Int} (h:d4 t i = e) (he:e ≠ 0):qd t i = T0:=by rw [qd,if_neg (by rw [h];exact he)]
theorem v6 {t:Tbl} {i:Int} (h:d4 t i = 0):qd t i = ⟨t.name,t.attrs,t.rows.eraseIdx (aj t.rows i).toNat⟩:=by rw [qd,if_pos h]
theorem kf {t:Tbl} {i a e:Int} {v:Val} (h:cn t i a v = e) (he:e ≠ 0):chT t i a v = T0:=by rw [chT,if_neg (by rw [h];exact he)]
theorem xr {t:Tbl} {i a:Int} {v:Val} (h:cn t i a v = 0):chT t i a v = ⟨t.name,t.attrs,fk t.rows (aj t.rows i).toNat a.toNat v⟩:=by rw [chT,if_pos h]
theorem a4z {t:Tbl} {r:Row} (h:c5 t r = 0):cz t = 0 ∧ r.vals.length = t.attrs.length ∧ 0 < r.id ∧ r.vals.all d5 = true ∧ aj t.rows r.id < 0 ∧ t.rows.length < 1000:=by
 unfold c5 at h
 split at h
 · omega
 split at h
 · omega
 split at h
 · omega
 split at h
 · omega
 split at h
 · omega
 rename_i h1 h2 h3 h4 h5
 rw [not_or] at h3
 exact ⟨by omega,by omega,by omega,by simpa using h3.2,by omega,by omega⟩
theorem a6l {α:Type} {l:List α} {i:Nat}:l.take i ++ l.drop (i + 1) = l.eraseIdx i:=(List.eraseIdx_eq_take_drop_succ l i).symm
theorem ada {l:List Row} {k k' m':Nat} {r:Row} (h0:0 < k) (hk:k ≤ l.length) (h:((dv l k r).getD k' default).id < ((dv l k r).getD m' default).id) (hk':k' = k) (hm':m' = k - 1):r.id < (l.getD (k - 1) default).id:=by
 subst hk' hm'
 rwa [yt hk,qg h0 hk] at h
theorem aa9 {l:List Row} {k k' m':Nat} {r:Row} (h0:0 < k) (hk:k ≤ l.length) (h:¬ ((dv l k r).getD k' default).id < ((dv l k r).getD m' default).id) (hk':k' = k) (hm':m' = k - 1):¬ r.id < (l.getD (k - 1) default).id:=by
 subst hk' hm'
 rwa [yt hk,qg h0 hk] at h
theorem acl {l:List Row} {k k' m':Nat} {r:Row} (h0:0 < k) (hk:k ≤ l.length) (hk':k' = k) (hm':m' = k - 1) {n:Nat} (hn:n = l.length + 1) {e:TypeId} :
 CoO (.arr true 2 e n (gt (gt (lf Row.c (dv l k r)) k' 0 [lf Row.c (dv l k r) m' 0,lf Row.c (dv l k r) m' 1]) m' 0 [lf Row.c (dv l k r) k' 0,lf Row.c (dv l k r) k' 1])) (.arr true 2 e n (lf Row.c (dv l (k - 1) r))):=by
 subst hk' hm'
 rw [← a8l h0 hk]
 refine aey (fun h=>h) (by rw [ks hk];exact hn) (by rw [ks hk];omega) (by rw [ks hk];omega) rfl rfl (lt2 ?_ ?_) (lt2 ?_ ?_)
 · exact CoP.of_eq (by show Row.c ((dv l k' r).getD (k' - 1) default) 0 = _;rw [qg h0 hk])
 · exact CoP.of_eq (by show Row.c ((dv l k' r).getD (k' - 1) default) 1 = _;rw [qg h0 hk])
 · exact CoP.of_eq (by show Row.c ((dv l k' r).getD k' default) 0 = _;rw [yt hk])
 exact CoP.of_eq (by show Row.c ((dv l k' r).getD k' default) 1 = _;rw [yt hk])
theorem agp {l:List Row} {a b:Nat} (ha:a ≤ l.length) {f0:Nat → Nat → PV} {e:TypeId}:CoO (.arr true 2 e (0 + a + (l.length - b)) (eo (0 + a) (eo 0 f0 (lf Row.c l)) (fun i j=>lf Row.c l (b + i) j))) (.arr true 2 e (l.take a ++ l.drop b).length (lf Row.c (l.take a ++ l.drop b))):=by
 refine ⟨fun h=>h,rfl,rfl,by simp;omega,fun i j hi hj=>CoP.of_eq ?_⟩
 unfold eo
 rw [Nat.zero_add]
 simp only [Nat.not_lt_zero,if_false,Nat.sub_zero,lf,List.getD]
 by_cases h:i < a
 · rw [if_pos h,List.getElem?_append_left (by simp;omega),List.getElem?_take,if_pos h]
 rw [if_neg h,List.getElem?_append_right (by simp;omega),List.getElem?_drop,List.length_take,Nat.min_eq_left ha]
theorem a0y {l:List Row} {i k:Nat} {v:Val}:(fk l i k v).length = l.length:=by simp [fk]
theorem a3n {l:List Row} {i0 k k' m:Nat} {v:Val} {ps:List PV} {id:Nat} (hi0:i0 < l.length) (hm:m = (l.getD i0 default).vals.length) (hk:k < m) (hk':k' = k) (hp:ps.length = 3) (h:∀ j,j < 3 → CoP (ps.getD j .any) (v.c j)) :
 ∀ i j,i < l.length → j < 2 → (∃ n,me i0 (.ref id m) (lf Row.c l) i j = .ref id n ∧ n = m ∧ CoP (.sl m 3 false (gt (lf Val.c (l.getD i0 default).vals) k' 0 ps)) (lf Row.c (fk l i0 k v) i j)) ∨ CoH (me i0 (.ref id m) (lf Row.c l) i j) (.p (lf Row.c (fk l i0 k v) i j)):=by
 intro i j hi hj
 unfold me
 by_cases hii:i = i0
 · subst hii
   rcases j with _ | _ | j
   · rw [if_neg (by omega)]
     refine .inr (CoP.of_eq ?_)
     unfold fk
     rw [jh rfl hi];rfl
   · rw [if_pos ⟨rfl,rfl⟩]
     refine .inl ⟨m,rfl,rfl, ?_⟩
     unfold fk
     rw [jh rfl hi]
     refine CoP.sl (by simp [hm]) (.inl rfl) (fun h=>h) fun a b ha hb=>?_
     unfold gt
     by_cases hak:a = k
     · rw [if_pos ⟨by omega,Nat.zero_le _,by omega⟩,jh hak (by omega),Nat.sub_zero];exact h b hb
     rw [if_neg (by omega),jv hak];exact CoP.refl _
   omega
 rw [if_neg (by omega)]
 refine .inr (CoP.of_eq ?_)
 unfold fk
 rw [jv hii]
theorem il {l:List Row} {id:Int} (h:0 ≤ aj l id):(max (aj l id) 0).toNat < l.length:=by
 have:=a9f (p:=fun r:Row=>decide (r.id = id)) (l:=l)
 unfold aj at *
 omega
theorem TOk.width {t:Tbl} (h:TOk t) {i:Nat} (hi:i < t.rows.length):(t.rows.getD i default).vals.length = t.attrs.length:=by
 rw [cg _ _ hi]
 exact (go h.rs _ (List.getElem_mem hi)).2.1
theorem pg {d:DB} {s:ByteArray} (h:¬ bv d s < 0):(bv d s).toNat < d.length:=by
 have:=a9f (p:=fun t:Tbl=>decide (t.name = s)) (l:=d)
 unfold bv at *
 omega
theorem dbV.at {d:DB} (h:dbV d) {s:ByteArray} (hs:¬ bv d s < 0):TOk (aq d s):=ey.1 (h.2 _ (pg hs))
theorem a66 {l:List Row} {id:Int} (h:0 ≤ aj l id):(l.getD (max (aj l id) 0).toNat default).id = id:=by
 have:=(a5b (p:=fun r:Row=>decide (r.id = id)) (l:=l) h).2
 simp only [decide_eq_true_eq] at this
 unfold aj at *
 rw [show (max (idx (fun r:Row=>decide (r.id = id)) l) 0).toNat = (idx (fun r:Row=>decide (r.id = id)) l).toNat from by omega]
 exact this
theorem mo {l:List Row} {r:Row} (h:0 ≤ aj l r.id):l.getD (max (aj l r.id) 0).toNat default = r ↔ (l.getD (max (aj l r.id) 0).toNat default).vals = r.vals:=by
 rw [Row.eq_iff]
 exact ⟨fun e=>e.2,fun e=>⟨a66 h,e⟩⟩
theorem ae8 {d:DB} {t:Tbl} (h:j1 d t = 0):cz t = 0 ∧ bv d t.name < 0 ∧ d.length < 50:=by
 unfold j1 at h
 split at h
 · omega
 split at h
 · omega
 split at h
 · omega
 exact ⟨by omega,by omega,by omega⟩
theorem af2 {l:List Row} {r:Row} {g:Nat → Nat → PV} {e:TypeId} (hg:∀ j,j < 2 → CoP (g 0 j) (r.c j)):CoO (.arr true 2 e (l.length + 1) (eo l.length (lf Row.c l) g)) (.arr true 2 e (l.length + 1) (lf Row.c (dv l l.length r))):=by
 rw [aal]
 have:=kb (wr:=true) (wr':=true) (s:=2) (e:=e) (c:=Row.c) (l:=l) (g:=g) [r] (fun h=>h) (m:=1) rfl (fun i j hi hj=>by
  obtain rfl:i = 0:=by simpa using hi
  exact hg j hj)
 simpa using this
end
section
open Go.Proofs
theorem a21:am Tryz.prog 61:=wgx Tryz.func61
theorem c61 (t:Tbl) (r:Row):ay Tryz.prog 61 [t.pc,r.pc] (bu [(py t r).pc,pI (c5 t r)]):=by
 refine av (nt:=105) a8 Tryz.func61 rfl rfl l9 ?_;refine sx7 ?_;refine m9 0 ?_;refine m9 1 ?_;refine m9 2 ?_;refine w_6 ?_;refine qcx a1s (c82 _) ?_;refine w_7 ?_
 refine a7 _ rfl (fun r0=>?_) (fun r0=>?_)
 ·
  have h0:=r0
  have h0:=aa (b7 h0)
  try simp only [ty] at h0
  refine w_8 ?_;refine ⟨.inr rfl, ?_⟩
  have he:c5 t r = cz t:=by unfold c5;rw [if_pos (by assumption)]
  rw [i3 he (by first | assumption | omega | decide)]
  exact f9 rfl rfl (⟨CoC.agg ⟨CoP.refl _,ar,ar,trivial⟩,cci he.symm,trivial⟩)
 have h0:=r0
 have h0:=ae (b8 h0)
 try simp only [ty] at h0
 have hT:=ey.1 h0
 have hok:=hT.ok
 refine gk ?_;refine a7 _ rfl (fun r1=>?_) (fun r1=>?_)
 ·
  have h1:=r1
  have h1:=aa (b7 h1)
  try simp only [ty] at h1
  refine w_7 ?_;refine ⟨.inr rfl, ?_⟩
  have he:c5 t r = 6:=by unfold c5;rw [if_neg (by omega),if_pos (by omega)]
  rw [i3 he (by first | assumption | omega | decide)]
  exact f9 rfl rfl (⟨CoC.agg ⟨CoP.refl _,ar,ar,trivial⟩,cci he.symm,trivial⟩)
 have h1:=r1
 have h1:=ae (b8 h1)
 try simp only [ty] at h1
 refine w_8 ?_;refine bo rfl rfl (fun r2=>?_) (fun r2=>?_)
 ·
  have h2:=ae r2
  try simp only [ty] at h2
  (iterate 4 refine k9 (gtf r2) ?_);refine rq rfl rfl rfl rfl rfl ?_ (hp:=r2);refine ca ?_;refine a7 _ rfl (fun _=>?_) (fun e=>by cases e);refine w_7 ?_;refine ⟨.inr rfl, ?_⟩
  have he:c5 t r = 1:=by unfold c5;rw [if_neg (by omega),if_neg (by omega),if_pos (by first | exact .inl (by omega) | exact .inr (by assumption))]
  rw [i3 he (by first | assumption | omega | decide)]
  exact f9 rfl rfl (⟨CoC.agg ⟨CoP.refl _,ar,ar,trivial⟩,cci he.symm,trivial⟩)
 have h2:=aa r2
 try simp only [ty] at h2
 (iterate 2 refine qy ?_ (hg:=(gff r2)));refine qcx a9u (c83 _) ?_ (hg:=(gff r2));refine qy ?_ (hg:=(gff r2));refine w_2 ?_;refine a7 _ rfl (fun r3=>?_) (fun r3=>?_)
 ·
  have h3:=r3
  have h3:=bw r2 h3
  have h3:=b7 h3
  refine w_7 ?_;refine ⟨.inr rfl, ?_⟩
  have he:c5 t r = 1:=by unfold c5;rw [if_neg (by omega),if_neg (by omega),if_pos (by first | exact .inl (by omega) | exact .inr (by assumption))]
  rw [i3 he (by first | assumption | omega | decide)]
  exact f9 rfl rfl (⟨CoC.agg ⟨CoP.refl _,ar,ar,trivial⟩,cci he.symm,trivial⟩)
 have h3:=r3
 have h3:=bw r2 h3
 have h3:=b8 h3
 refine w_7 ?_;refine qcx sb (c62 _ _) ?_;refine dz ?_;refine a7 _ rfl (fun r4=>?_) (fun r4=>?_)
 ·
  have h4:=r4
  have h42:=ae h4
  refine w_7 ?_;refine ⟨.inr rfl, ?_⟩
  have he:c5 t r = 5:=by unfold c5;rw [if_neg (by omega),if_neg (by omega),if_neg (by rintro (h | h) <;> first | omega | simp_all),if_pos (by assumption)]
  rw [i3 he (by first | assumption | omega | decide)]
  exact f9 rfl rfl (⟨CoC.agg ⟨CoP.refl _,ar,ar,trivial⟩,cci he.symm,trivial⟩)
 have h4:=r4
 have h42:=aa h4
 refine w_9 ?_;refine a7 _ rfl (fun r5=>?_) (fun r5=>?_)
 ·
  have h5:=ae r5
  try simp only [ty] at h5
  refine w_7 ?_;refine ⟨.inr rfl, ?_⟩
  have he:c5 t r = 3:=by unfold c5;rw [if_neg (by omega),if_neg (by omega),if_neg (by rintro (h | h) <;> first | omega | simp_all),if_neg (by omega),if_pos (by omega)]
  rw [i3 he (by first | assumption | omega | decide)]
  exact f9 rfl rfl (⟨CoC.agg ⟨CoP.refl _,ar,ar,trivial⟩,cci he.symm,trivial⟩)
 have h5:=aa r5
 try simp only [ty] at h5
 refine w_2 ?_
 have hie:c5 t r = 0:=by unfold c5;rw [if_neg (by omega),if_neg (by omega),if_neg (by rintro (h | h) <;> first | omega | simp_all),if_neg (by omega),if_neg (by omega)]
 refine w_4 ?_;refine al rfl rfl rfl rfl rfl rfl a6a (ahn t t.rows hok.1 hok.2.1 hok.2.2) (bg.refl _) trivial rfl rfl ?_;refine m9 3 ?_;refine w_3 ?_
 refine ap (E:=au) a8 ag [0,1,2,3,4,5,6,7] ?_;refine w_3 ?_;refine qcx uy (c85 r (by have:=hT.na;omega)) ?_;refine m9 4 ?_;refine ra 5 true rfl rfl rfl rfl rfl rfl ?_;refine w_3 ?_
 refine ⟨by kernel_rfl, ?_⟩;refine dz ?_
 refine az (ι:=Nat) ⟨[(4,some _),(9,some _)],[(2,some _)]⟩ ⟨⟨c9,c9,trivial⟩,⟨u9,trivial⟩⟩ (fun k=>⟨[(10,some (vI k))],[(3,some (.box [.p (.raw (.string t.name)), .p (it t.attrs), .ref 100 (t.rows.length + 1)])),(100,some (.arr true 2 45 (t.rows.length + 1) (lf Row.c (dv t.rows k r))))]⟩) (fun k=>k ≤ t.rows.length ∧ ∀ j,k ≤ j → j < t.rows.length → r.id < (t.rows.getD j default).id) (fun k=>k) (t.rows.length) (⟨Nat.le_refl _,fun j h1 h2=>by omega⟩) ⟨⟨zy,trivial⟩,⟨u9,⟨_,rfl,(af2 (lt2 (CoP.refl _) (CoP.refl _)))⟩,trivial⟩⟩ ?_
 rintro k ⟨hk,hK⟩
 refine w_2 ?_;refine ap (E:=au) a8 ag [0,1,2,3,4,5,6,7,8,9,10,11,12,13,14,15,16,17] ?_;refine w_3 ?_;refine bo rfl rfl (fun r6=>?_) (fun r6=>?_)
 ·
  have h6:=ae r6
  try simp only [ty] at h6
  (iterate 14 refine qy ?_ (hg:=(gtt r6)));refine w_2 ?_;refine ⟨by kernel_rfl, ?_⟩;refine a7 _ rfl (fun r7=>?_) (fun r7=>?_)
  ·
   have h7:=r7
   have h7:=dm r6 h7
   have h7:=ae h7
   try simp only [ty] at h7
   have hlt:=ada (by omega) hk h7 (by omega) (by omega)
   refine w_3 ?_;refine ap (E:=au) a8 ag [0,1,2,3,4,5,6,7,8,9,10,11,12,13,14,15,16,17,18,19,20,21] ?_;refine ai1 ?_;refine ⟨by kernel_rfl, ?_⟩;refine w_5 ?_
   refine ⟨k - 1, ?_, ?_, ?_⟩
   · refine ⟨by omega,fun j h1 h2=>?_⟩
     by_cases hj:j = k - 1
     · rw [hj];exact hlt
     exact hK j (by omega) h2
   · show k - 1 < k
     omega
   exact ⟨⟨zy,c9,c9,trivial⟩,⟨u9,⟨_,rfl,(acl (by omega) hk (by omega) (by omega) rfl)⟩,u9,trivial⟩⟩
  have h7:=r7
  have h7:=dm r6 h7
  have h7:=aa h7
  try simp only [ty] at h7
  have hlt:=aa9 (by omega) hk h7 (by omega) (by omega)
  refine w_8 ?_;refine ⟨.inr rfl, ?_⟩
  rw [qr hie,← qe (fu hT.rs) hk hK (by first | exact .inl (by omega) | exact .inr hlt)]
  exact f9 rfl rfl (⟨CoC.agg ⟨CoP.refl _,CoP.refl _,CoP.sl (ks hk) (.inl rfl) (fun h=>h) (fun _ _ _ _=>CoP.refl _),trivial⟩,cci hie.symm,trivial⟩)
 have h6:=aa r6
 try simp only [ty] at h6
 (iterate 14 refine k9 (gft r6) ?_);refine rq rfl rfl rfl rfl rfl ?_ (hp:=r6);refine ca ?_;refine ⟨by kernel_rfl, ?_⟩;refine a7 _ rfl (fun e=>by cases e) (fun _=>?_);refine w_8 ?_;refine ⟨.inr rfl, ?_⟩
 rw [qr hie,← qe (fu hT.rs) hk hK (by first | exact .inl (by omega) | exact .inr hlt)]
 exact f9 rfl rfl (⟨CoC.agg ⟨CoP.refl _,CoP.refl _,CoP.sl (ks hk) (.inl rfl) (fun h=>h) (fun _ _ _ _=>CoP.refl _),trivial⟩,cci hie.symm,trivial⟩)
end
end Go.Hx
