/- A part of the proof: Sp7 Ms3 Ms4 Ms5 Ms6 Hx21 Hx26. -/
import Derived.ChangeArms
import Derived.OpenShut
import Derived.ProofKit
import Derived.Test.YtaegkccfbmekbaaGreatRows
import Derived.WalkKit
import Derived.WideKeyArgs
import Derived.Test.YtaegkccfbmekbaaGreatNq15
import Derived.Test.YtaegkccfbmekbaaGreatNq16
import Derived.Test.YtaegkccfbmekbaaGreatNq22
import Derived.Test.YtaegkccfbmekbaaGreatNq25
set_option linter.all false
section
namespace Go.Hx
theorem ajv {α:Type} [Inhabited α] {s n k':Nat} {k:Int} {cl:Bool} {c:α → Nat → PV} {l:List α} (h:k.toNat = k') (hk:k' ≤ l.length) :
 CoP (.sl (kb (ef n (some k)) none) s cl (qj (lf c l) none)) (psl s c (l.take k')):=by
 subst h;exact a6v hk
def lbd:List Row → Int → Nat
 | [],_=>0
 | r :: l,id=>if r.id < id then lbd l id + 1 else 0
theorem wq {id:Int}:∀ {l:List Row},lbd l id ≤ l.length
 | []=>Nat.le_refl _
 | r :: l=>by
  have:=wq (id:=id) (l:=l)
  unfold lbd
  split <;> simp <;> omega
theorem aj0 {id:Int}:∀ {l:List Row} {i:Nat},i ≤ l.length → (∀ k,k < i → (l.getD k default).id < id) → (i < l.length → ¬ (l.getD i default).id < id) → lbd l id = i
 | [],i,h,_,_=>by simp at h;simp [lbd,h]
 | r :: l,0,_,_,h2=>by
  have:=h2 (by simp)
  simp only [List.getD_cons_zero] at this
  simp [lbd,this]
 | r :: l,i + 1,h,h1,h2=>by
  have h0:=h1 0 (by omega)
  simp only [List.getD_cons_zero] at h0
  have ih:=aj0 (l:=l) (i:=i) (id:=id) (by simpa using h) (fun k hk=>by have:=h1 (k + 1) (by omega);simpa using this) (fun hi=>by have:=h2 (by simpa using hi);simpa using this)
  simp [lbd,h0,ih]
theorem ahr {id:Int}:∀ {l:List Row} {k:Nat},k < lbd l id → (l.getD k default).id < id
 | [],k,h=>by simp [lbd] at h
 | r :: l,k,h=>by
  unfold lbd at h
  split at h
  · rename_i h0
    cases k with
    | zero=>simpa using h0
    | succ k=>simpa using ahr (l:=l) (k:=k) (by omega)
  · omega
theorem ajg {id:Int}:∀ {l:List Row},lbd l id < l.length → ¬ (l.getD (lbd l id) default).id < id
 | [],h=>by simp at h
 | r :: l,h=>by
  unfold lbd at h ⊢
  split at h
  · rename_i h0
    rw [if_pos h0]
    simpa using ajg (l:=l) (by simpa using h)
  · rename_i h0
    rw [if_neg h0]
    simpa using h0
theorem a0p {l:List Row} (hs:gc l) {i j:Nat} (hij:i ≤ j) (hj:j < l.length):(l.getD i default).id ≤ (l.getD j default).id:=by
 rcases Nat.lt_or_eq_of_le hij with h | rfl
 · rw [l4 _ _ hj,l4 _ _ (by omega)]
   have:=List.pairwise_iff_getElem.1 hs i j (by omega) hj h
   omega
 · exact Int.le_refl _
theorem ag2 {l:List Row} {r:Row} (hs:gc l) (hn:∀ x ∈ l,x.id ≠ r.id):dy l (lbd l r.id) r = jt r l:=by
 refine sk hs wq (fun j h1 h2=>?_) ?_
 · have ha:=ajg (l:=l) (id:=r.id) (by omega)
   have hb:=a0p hs h1 h2
   have hc:=hn _ (by rw [l4 _ _ h2];exact List.getElem_mem h2:(l.getD j default) ∈ l)
   omega
 · by_cases h:lbd l r.id = 0
   · exact .inl h
   · have:=ahr (l:=l) (id:=r.id) (k:=lbd l r.id - 1) (by omega)
     exact .inr (by omega)
def bsF (l:List Row) (id:Int):Bool:=decide (lbd l id < l.length) && decide ((l.getD (lbd l id) default).id = id)
def qk (a b:Int):Int:=if a < b then -1 else if b < a then 1 else 0
theorem ar9 (i j:Nat):((i:Int) + j).fdiv (2 ^ (min ((1:Int).toNat) IntKind.u64.bits)) = (((i + j) / 2:Nat):Int):=by
 show ((i:Int) + j).fdiv 2 = _
 rw [Int.fdiv_eq_ediv_of_nonneg _ (by omega)]
 omega
theorem a81 {a b:Int}:qk a b < 0 ↔ a < b:=by unfold qk;split <;> (try split) <;> omega
theorem a16 {a b:Int}:qk a b = 0 ↔ a = b:=by unfold qk;split <;> (try split) <;> omega
theorem amq {l:List Row} {id:Int} {i j:Nat} (hs:gc l) (h:i < j) (h2:j ≤ l.length) (hA:∀ k,k < i → (l.getD k default).id < id) (hB:∀ k,j ≤ k → k < l.length → id ≤ (l.getD k default).id)
 (hc:qk (l.getD (((i + j) / 2:Nat):Int).toNat default).id id < 0):(i + j) / 2 + 1 ≤ j ∧ j ≤ l.length ∧ (∀ k,k < (i + j) / 2 + 1 → (l.getD k default).id < id) ∧ (∀ k,j ≤ k → k < l.length → id ≤ (l.getD k default).id):=by
 rw [a81,Int.toNat_natCast] at hc
 refine ⟨by omega,h2,fun k hk=>?_,hB⟩
 have:=a0p hs (i:=k) (j:=(i + j) / 2) (by omega) (by omega)
 omega
theorem amo {l:List Row} {id:Int} {i j:Nat} (hs:gc l) (h:i < j) (h2:j ≤ l.length) (hA:∀ k,k < i → (l.getD k default).id < id) (hB:∀ k,j ≤ k → k < l.length → id ≤ (l.getD k default).id)
 (hc:¬ qk (l.getD (((i + j) / 2:Nat):Int).toNat default).id id < 0):i ≤ (i + j) / 2 ∧ (i + j) / 2 ≤ l.length ∧ (∀ k,k < i → (l.getD k default).id < id) ∧ (∀ k,(i + j) / 2 ≤ k → k < l.length → id ≤ (l.getD k default).id):=by
 rw [a81,Int.toNat_natCast] at hc
 refine ⟨by omega,by omega,hA,fun k hk hl=>?_⟩
 have:=a0p hs (i:=(i + j) / 2) (j:=k) hk hl
 omega
theorem aps {l:List Row} {k:Nat} {r:Row} (h:k ≤ l.length) (i j:Nat):CoP (vi k (lf Row.c l) (lf Row.c [r]) i j) (lf Row.c (dy l k r) i j):=by
 refine CoP.of_eq ?_
 unfold vi lf
 simp only [List.getD]
 rw [a0i h]
 by_cases h1:i < k
 · simp [h1]
 · by_cases h2:i = k
   · subst h2;simp
   · simp [h1,h2]
end Go.Hx
end
section
namespace Go.Hx
abbrev Lm:Nat:=68719476736
abbrev bg (t:Tbl):List Fd:=a3r (prs t.rows) t.attrs.length
abbrev mst (t:Tbl) (fds add rem:List Fd):MSt:=⟨t,cw t.rows,fds,add,rem⟩
abbrev oo (t:Tbl) (fds:List Fd):MSt:=mst t (bg t) (er (bg t) fds) (er fds (bg t))
theorem TOk.sorted {t:Tbl} (h:TOk t):gc t.rows:=fu h.rs
theorem jd {t:Tbl} (hn:t.attrs.length ≤ 8):(bg t).length ≤ 68719476736:=by
 have h1:=a9r (prs t.rows) t.attrs.length (d6 t.attrs.length).length 0
 have h2:(d6 t.attrs.length).length ≤ 4294967296:=ny _
 have h3:(d6 t.attrs.length).length * t.attrs.length ≤ 4294967296 * 8:=Nat.mul_le_mul h2 hn
 show (jh _ _ _ 0).length ≤ _
 omega
theorem ns (a b:List Fd):(er a b).length ≤ a.length:=List.length_filter_le _ _
theorem a1j {l:List Row} (h:l.length ≤ 1000) (s:AS):-1000000 ≤ cw l s ∧ cw l s ≤ 1000000:=by
 have h1:=amy l s
 have h2:=ano l s
 have h3:l.length * l.length ≤ 1000000:=Nat.mul_le_mul h h
 have h4:(l.length:Int) * l.length ≤ 1000000:=by
  have h5:((l.length * l.length:Nat):Int) ≤ ((1000000:Nat):Int):=Int.ofNat_le.2 h3
  rw [Int.natCast_mul] at h5
  exact h5
 omega
theorem aqy {t:Tbl} {r:Row} (h:c4 t r = 0):∃ i,i < (gj t r).rows.length ∧ (gj t r).rows.getD i default = r ∧ (gj t r).rows.eraseIdx i = t.rows:=by
 obtain ⟨h1,h2,h3,h4,h5,h6⟩:=a2r h
 have hT:=ek.1 h1
 have e:=ag2 (r:=r) hT.sorted (yg h5)
 rw [l6 h]
 have hk:lbd t.rows r.id ≤ t.rows.length:=wq
 refine ⟨lbd t.rows r.id, ?_, ?_, ?_⟩
 · show _ < (jt r t.rows).length;rw [xv];omega
 · show (jt r t.rows).getD _ default = r;rw [← e];exact xa hk
 · show (jt r t.rows).eraseIdx _ = t.rows
   rw [← e]
   unfold dy
   rw [List.eraseIdx_append_of_length_le (by rw [List.length_take];omega),List.length_take,show lbd t.rows r.id - min (lbd t.rows r.id) t.rows.length = 0 by omega]
   exact List.take_append_drop _ _
theorem ap5 {t:Tbl} {r:Row} (h:c4 t r = 0):f5 (gj t r).rows r 1 (cw t.rows) = cw (gj t r).rows:=by
 obtain ⟨i,h1,h2,h3⟩:=aqy h
 have hV:=a4y h
 have:=adr hV.wid hV.sorted h1
 rw [h2,h3] at this
 exact this
theorem a5g {l:List Row} {id:Int} (h:0 ≤ az l id):(max (az l id) 0).toNat = (az l id).toNat ∧ (az l id).toNat < l.length:=by
 refine ⟨by omega,(al8 h).1⟩
theorem an4 {t:Tbl} {id:Int} (h:dq t id = 0):f5 t.rows (t.rows.getD (az t.rows id).toNat default) (-1) (cw t.rows) = cw (ml t id).rows:=by
 obtain ⟨h1,h2⟩:=a38 h
 have hT:=ek.1 h1
 rw [nu h]
 exact ae9 hT.wid hT.sorted (a5g h2).2
theorem ap8 {t:Tbl} {id a:Int} {v:Val} (h:cz t id a v = 0):f5 t.rows (t.rows.getD (az t.rows id).toNat default) (-1) (cw t.rows) = cw (t.rows.eraseIdx (az t.rows id).toNat):=by
 obtain ⟨h1,h2,_⟩:=a1o h
 have hT:=ek.1 h1
 exact ae9 hT.wid hT.sorted (a5g h2).2
theorem ab7 {t:Tbl} {id a:Int} {v:Val} (h:cz t id a v = 0):(chT t id a v).rows.length = t.rows.length:=by
 rw [qt h];exact ye
theorem an0 {t:Tbl} {id a:Int} {v:Val} (h:cz t id a v = 0) :
 f5 (chT t id a v).rows ((chT t id a v).rows.getD (az t.rows id).toNat default) 1 (cw (t.rows.eraseIdx (az t.rows id).toNat)) = cw (chT t id a v).rows:=by
 obtain ⟨h1,h2,_⟩:=a1o h
 have hV:=a90 h
 have hi:(az t.rows id).toNat < (chT t id a v).rows.length:=by rw [ab7 h];exact (a5g h2).2
 have:=adr hV.wid hV.sorted hi
 rw [show (chT t id a v).rows.eraseIdx (az t.rows id).toNat = t.rows.eraseIdx (az t.rows id).toNat by
  rw [qt h]
  show (ll _ _ _ _).eraseIdx _ = _
  unfold ll
  rw [List.eraseIdx_set_eq]] at this
 exact this
def yt (x:MSt) (r:Row):MSt:=if f3 x.t r = 0 then oo (kp x.t r) x.fds else x
def aao (x:MSt) (id:Int):MSt:=if dq x.t id = 0 then oo (ml x.t id) x.fds else x
def mCh (x:MSt) (id a:Int) (v:Val):MSt:=if cz x.t id a v = 0 then oo (chT x.t id a v) x.fds else x
def y5 (x:MSt) (o:MOp):MSt:=if opE x.t o = 0 then oo (opT x.t o) x.fds else x
theorem aqi {x:MSt} {r:Row} {e:Int} (h:c4 x.t r = e) (he:¬ e = 0):yt x r = x ∧ f3 x.t r = e:=by
 have e1:f3 x.t r = e:=by unfold f3;rw [if_pos (by rw [h];exact he),h]
 exact ⟨if_neg (by rw [e1];exact he),e1⟩
theorem atp {x:MSt} {r:Row} (h:c4 x.t r = 0) (h2:200 ≤ x.t.rows.length):yt x r = x ∧ f3 x.t r = 3:=by
 have e1:f3 x.t r = 3:=by unfold f3;rw [if_neg (by simpa using h),if_pos h2]
 exact ⟨if_neg (by rw [e1];decide),e1⟩
theorem asm {x:MSt} {r:Row} (h:c4 x.t r = 0) (h2:¬ 200 ≤ x.t.rows.length):yt x r = oo (gj x.t r) x.fds ∧ f3 x.t r = 0:=by
 have e1:f3 x.t r = 0:=by unfold f3;rw [if_neg (by simpa using h),if_neg h2]
 refine ⟨?_,e1⟩
 unfold yt
 rw [if_pos e1,show kp x.t r = gj x.t r by unfold kp;rw [if_neg (by simpa using h),if_neg h2]]
theorem an8 {t:Tbl} {r:Row} (h:f3 t r = 0):c4 t r = 0 ∧ ¬ 200 ≤ t.rows.length ∧ kp t r = gj t r:=by
 unfold f3 at h
 split at h
 · rename_i h1;exact absurd h h1
 · rename_i h1
   split at h
   · cases h
   · rename_i h2
     refine ⟨by simpa using h1,h2, ?_⟩
     unfold kp;rw [if_neg h1,if_neg h2]
theorem aur {t:Tbl} {o:MOp} (h:opE t o = 0) (h2:t.rows.length ≤ 200):TOk (opT t o) ∧ (opT t o).attrs = t.attrs ∧ (opT t o).name = t.name ∧ (opT t o).rows.length ≤ 200:=by
 by_cases k2:o.kind.toNat % 4 = 2
 · have hh:=op2 (t:=t) (o:=o) k2
   rw [hh.1] at h
   rw [hh.2,if_pos h]
   refine ⟨aaw h,by rw [nu h],by rw [nu h], ?_⟩
   rw [nu h]
   exact Nat.le_trans (List.eraseIdx_sublist _ _).length_le h2
 · by_cases k3:o.kind.toNat % 4 = 3
   · have hh:=op3 (t:=t) (o:=o) k2 k3
     rw [hh.1] at h
     rw [hh.2,if_pos h]
     refine ⟨a90 h,by rw [qt h],by rw [qt h], ?_⟩
     rw [ab7 h];exact h2
   · have hh:=op0 (t:=t) (o:=o) k2 k3
     rw [hh.1] at h
     obtain ⟨g1,g2,g3⟩:=an8 h
     rw [hh.2,g3]
     refine ⟨a4y g1,by rw [l6 g1],by rw [l6 g1], ?_⟩
     rw [l6 g1]
     show (jt _ _).length ≤ 200
     rw [xv];omega
end Go.Hx
end
section
namespace Go.Hx
theorem am5 (K:List AS) (x k:AS):pK (K ++ [k]) x = (pK K x && !decide (sub x k)):=by unfold pK;simp
theorem a8v {B:Bool} {K:List AS} {x k:AS}:(bif (B && pK K x) then !decide (fc .andNot .u32 (asI x) (asI k) = 0) else false) = (B && pK (K ++ [k]) x):=by
 rw [am5,← Bool.and_assoc,show decide (fc .andNot .u32 (asI x) (asI k) = 0) = decide (sub x k) from decide_eq_decide.2 mo]
 cases B && pK K x <;> rfl
theorem a92 {B:Bool} {K:List AS} {x k:AS} (h:(B && pK K x) = false):false = (B && pK (K ++ [k]) x):=by
 rw [am5,← Bool.and_assoc,h];rfl
def je (ps:List AS) (n i:Nat):List AS:=gv (pK ps) ((d6 n).take i)
theorem aae (ps:List AS) (n i:Nat):(je ps n i).length ≤ i:=Nat.le_trans (t8 _ _).length_le (by rw [List.length_take];omega)
theorem a30 {ps:List AS} {n i:Nat} (h:(d6 n).length ≤ i):je ps n i = o8 ps n:=by unfold je o8;rw [List.take_of_length_le h]
theorem qq {ps:List AS} {n i:Nat} (hi:i < (d6 n).length) (h:((!((je ps n i).any fun y=>decide (sub y ((d6 n).getD i default)))) && pK ps ((d6 n).getD i default)) = true):je ps n (i + 1) = je ps n i ++ [(d6 n).getD i default]:=by
 unfold je at *
 rw [c8 hi,lj]
 unfold mc
 rw [if_pos (by rw [Bool.and_comm];exact h)]
theorem rj {ps:List AS} {n i:Nat} (hi:i < (d6 n).length) (h:((!((je ps n i).any fun y=>decide (sub y ((d6 n).getD i default)))) && pK ps ((d6 n).getD i default)) = false):je ps n (i + 1) = je ps n i:=by
 unfold je at *
 rw [c8 hi,lj]
 unfold mc
 rw [if_neg (by rw [Bool.and_comm,h];decide)]
theorem wa {x:MSt} {o:MOp} (h:o.kind.toNat % 4 = 2):aao x (gw o) = y5 x o ∧ dq x.t (gw o) = opE x.t o:=by
 have hh:=op2 (t:=x.t) h
 refine ⟨?_,hh.1.symm⟩
 unfold aao y5
 rw [hh.1,hh.2]
 split
 · rfl
 · rfl
theorem vw {x:MSt} {o:MOp} (h2:¬ o.kind.toNat % 4 = 2) (h:o.kind.toNat % 4 = 3):mCh x (gw o) (om x.t.attrs.length o) (md o) = y5 x o ∧ cz x.t (gw o) (om x.t.attrs.length o) (md o) = opE x.t o:=by
 have hh:=op3 (t:=x.t) h2 h
 refine ⟨?_,hh.1.symm⟩
 unfold mCh y5
 rw [hh.1,hh.2]
 split
 · rfl
 · rfl
theorem wg {x:MSt} {o:MOp} (h2:¬ o.kind.toNat % 4 = 2) (h:¬ o.kind.toNat % 4 = 3):yt x (mb x.t.attrs.length o) = y5 x o ∧ f3 x.t (mb x.t.attrs.length o) = opE x.t o:=by
 have hh:=op0 (t:=x.t) h2 h
 refine ⟨?_,hh.1.symm⟩
 unfold yt y5
 rw [hh.1,hh.2]
theorem api:mpF (cw []) = fun _=>none:=by
 refine (a5x (fun s=>?_) fun m _=>rfl).symm
 rw [if_neg]
 show ¬ ¬ cw [] s = 0
 exact fun h=>h rfl
theorem as0:CoO (.mp (.int .u32) 0 (fun _=>none)) (a6b (cw [])):=by
 show CoO _ (.mp (.int .u32) 4294967296 (mpF (cw [])))
 rw [api]
 exact ⟨rfl,Nat.zero_le _,fun _=>trivial⟩
def as1 (s:ByteArray) (l:List ByteArray):MSt:=mst (gf s l) (bg (gf s l)) [] []
end Go.Hx
end
section
namespace Go.Hx
theorem aop {t:Tbl} (ht:TOk t) (hnr:t.rows.length ≤ 200):qe t = 0:=by
 unfold qe
 rw [if_neg (by rw [ek.2 ht];decide),if_neg (by omega)]
theorem anl {t:Tbl} (ht:TOk t) (hnr:t.rows.length ≤ 200):a59 t = gr t.rows:=if_pos (aop ht hnr)
theorem apa {t:Tbl} (ht:TOk t) (hnr:t.rows.length ≤ 200) (hna:t.attrs.length ≤ 8):n4 t = 0:=by
 unfold n4
 have h:=ek.2 ht
 simp only [h]
 first | (rw [if_neg (by decide),if_neg (by omega)];done) | simp;omega
theorem aqj {t:Tbl} (ht:TOk t) (hnr:t.rows.length ≤ 200) (hna:t.attrs.length ≤ 8):a3i t = bg t:=by
 unfold a3i
 rw [if_pos (apa ht hnr hna)]
 exact (ahf ht.wid hna).symm
theorem an7 {t:Tbl} (ht:TOk t) (hna:t.attrs.length ≤ 8):a6g t.rows t.attrs.length = o8 (prs t.rows) t.attrs.length:=(aij ht.wid hna).symm
end Go.Hx
end
section
namespace Go.Hx
set_option maxRecDepth 100000
structure Scr where
 n:UInt8
 ops:List MOp
instance:Inhabited Scr:=⟨⟨0,[]⟩⟩
def Scr.c (x:Scr):Nat → PV
 | 0=>.raw (.int .u8 (x.n.toNat:Int))
 | 1=>avq x.ops
 | _=>.any
abbrev Scr.pc (x:Scr):PC:=.agg [x.c 0,x.c 1]
abbrev sR:ByteArray:=⟨#[114]⟩
def nmS (x:Scr):List ByteArray:=ni.take (x.n.toNat % 5)
theorem a6y (x:Scr):(nmS x).length ≤ 4:=by
 unfold nmS
 rw [List.length_take]
 omega
theorem as4:∀ k,k < 5 → j7 sR (ni.take k) = 0:=by decide
theorem ai8 (x:Scr):j7 sR (nmS x) = 0:=as4 _ (by omega)
theorem aj7 {b:Bool} {x:Fd} {f:Nat → Nat → PV} (h0:CoP (f 0 0) (x.c 0)) (h1:CoP (f 0 1) (x.c 1)):CoP (.sl 1 2 b f) (fdl [x]) :=
 CoP.sl rfl (.inl rfl) (fun h=>by cases h) fun i j hi hj=>by
  obtain rfl:i = 0:=by omega
  rcases (by omega:j = 0 ∨ j = 1) with rfl | rfl
  · exact h0
  · exact h1
theorem at8 {b:Bool} {x y:Fd} {f:Nat → Nat → PV} (h0:CoP (f 0 0) (x.c 0)) (h1:CoP (f 0 1) (x.c 1)) (h2:CoP (f 1 0) (y.c 0)) (h3:CoP (f 1 1) (y.c 1)):CoP (.sl 2 2 b f) (fdl [x,y]) :=
 CoP.sl rfl (.inl rfl) (fun h=>by cases h) fun i j hi hj=>by
  rcases (by omega:i = 0 ∨ i = 1) with rfl | rfl <;> rcases (by omega:j = 0 ∨ j = 1) with rfl | rfl
  · exact h0
  · exact h1
  · exact h2
  · exact h3
theorem ama {b:Bool} {x:AS} {f:Nat → Nat → PV} (h0:CoP (f 0 0) (asC x)):CoP (.sl 1 1 b f) (asl [x]) :=
 CoP.sl rfl (.inl rfl) (fun h=>by cases h) fun i j hi hj=>by
  obtain rfl:i = 0:=by omega
  obtain rfl:j = 0:=by omega
  exact h0
def tA0:Tbl:=gf sR [⟨#[97]⟩,⟨#[98]⟩]
def rA1:Row:=⟨1,s4 [1,1]⟩
def rA2:Row:=⟨2,s4 [1,2]⟩
def tA1:Tbl:=gj tA0 rA1
def tA2:Tbl:=gj tA1 rA2
theorem avr:j7 sR [⟨#[97]⟩,⟨#[98]⟩] = 0:=by decide
theorem as8:f3 tA0 rA1 = 0:=by decide
theorem asb:f3 tA1 rA2 = 0:=by decide
theorem ar4:TOk tA0:=ek.1 (by decide)
theorem aqo:TOk tA1:=ek.1 (by decide)
theorem au1:yt (mst tA0 (bg tA0) [] []) rA1 = oo tA1 (bg tA0):=if_pos as8
theorem au5:yt (oo tA1 (bg tA0)) rA2 = oo tA2 (bg tA1):=if_pos asb
theorem amh:(bg tA0).length ≤ 68719476736:=jd (by decide)
theorem a96:(bg tA1).length ≤ 68719476736:=jd (by decide)
theorem aex:(bg tA2).length ≤ 68719476736:=jd (by decide)
theorem au0:(er (bg tA1) (bg tA0)).length ≤ 68719476736:=Nat.le_trans (ns _ _) a96
theorem aup:(er (bg tA0) (bg tA1)).length ≤ 68719476736:=Nat.le_trans (ns _ _) amh
theorem amc:(er (bg tA2) (bg tA1)).length ≤ 68719476736:=Nat.le_trans (ns _ _) aex
theorem amp:(er (bg tA1) (bg tA2)).length ≤ 68719476736:=Nat.le_trans (ns _ _) a96
theorem aqc:er (bg tA2) (bg tA1) = []:=by decide
theorem avl:er (bg tA1) (bg tA2) = [⟨0,2⟩]:=by decide
theorem akx:bg tA1 = [⟨0,1⟩,⟨0,2⟩]:=by decide
theorem asr:o8 (prs tA1.rows) tA1.attrs.length = [0]:=by decide
theorem aly:bg tA2 = [⟨0,1⟩]:=by decide
theorem atn:o8 (prs tA2.rows) tA2.attrs.length = [2]:=by decide
end Go.Hx
end
section
namespace Go.Hx
open Go.RowKit Go.ChangeShapes Go.WideShapes Go.ChangeAt
def Rd (P:Program) (t:TypeId) (n:Nat) {α:Type} (c:α → Nat → PV):Prop :=
 ∀ (H:Type) (enc:TypeId × Value → H) (w:World) (sp:Nat → Bool) (held:Bool) (fuel:Nat) (cs:List Value) (x:DataW H × List MemPlace),DataW.trod enc P w 0 sp held fuel t cs = some x →
  cs.length = n ∧ ∃ a:α,∀ j,j < n → ∃ v,cs[j]? = some v ∧ b9 (fp w) (c a j) v
section
variable {P:Program} {t e:TypeId}
def awz (k:IntKind) (z:Int):Nat → PV:=fun _=>.raw (.int k z)
def awf (b:Bool):Nat → PV:=fun _=>.raw (.bool b)
def awo (s:ByteArray):Nat → PV:=fun _=>.raw (.string s)
def u8P (u:UInt8):Nat → PV:=fun _=>.raw (.int .u8 (u.toNat:Int))
theorem au4 (ht:P.underlying t = some (.int .u8)):Rd P t 1 u8P:=by
 intro H enc w sp held fuel cs x h
 obtain ⟨n,rfl,_,hw⟩:=DataW.trod_int ht h
 have hx:0 ≤ n ∧ n ≤ 255:=by simpa [Lit.wf,IntKind.min,IntKind.max,IntKind.signed,IntKind.bits] using hw
 refine ⟨rfl,UInt8.ofNat n.toNat,fun j hj=>?_⟩
 obtain rfl:j = 0:=by omega
 refine ⟨_,rfl, ?_,rfl⟩
 have:(UInt8.ofNat n.toNat).toNat = n.toNat:=by
  rw [UInt8.toNat_ofNat']
  omega
 rw [this]
 congr 1
 omega
theorem Rd.co {n:Nat} {α β:Type} {c:α → Nat → PV} {c':β → Nat → PV} (h:Rd P t n c) (f:α → β) (hc:∀ a j,j < n → CoP (c a j) (c' (f a) j)):Rd P t n c':=by
 intro H enc w sp held fuel cs x hx
 obtain ⟨h1,a,h2⟩:=h _ enc w sp held fuel cs x hx
 refine ⟨h1,f a,fun j hj=>?_⟩
 obtain ⟨v,h3,h4⟩:=h2 j hj
 exact ⟨v,h3,hc a j hj _ _ h4⟩
def aq3 {α:Type} [Inhabited α] (s:Nat) (c:α → Nat → PV) (l:List α):Nat → PV:=fun _=>psl s c l
theorem aaa {s:Nat} {α:Type} [Inhabited α] {c:α → Nat → PV} (ht:P.underlying t = some (.slice e)) (hc:P.cellsOf e = s) (hs:0 < s) (h:Rd P e s c):Rd P t 1 (aq3 s c):=by
 classical
 intro H enc w sp held fuel cs x hx
 rcases DataW.trod_slice ht hx with ⟨rfl,_⟩ | ⟨a,len,cap,elems,rest,n,rfl,rfl,_,hb,hl,hm,hlen,hel,_,_⟩
 · refine ⟨rfl,[],fun j hj=>?_⟩
   obtain rfl:j = 0:=by omega
   exact ⟨_,rfl,none,0,rfl,Nat.le_refl _,Nat.zero_le _,(fun hh=>by cases hh),fun hh=>absurd hh (Nat.lt_irrefl 0)⟩
 · have each:∀ i,i < len → ∃ q:α,∀ j,j < s → ∃ v,w.cell? (a.add (i * s + j)) = some v ∧ b9 (fp w) (c q j) v:=by
    intro i hi
    have h1:=hel i hi
    rw [hc] at h1
    rw [List.getElem?_eq_getElem (by omega)] at h1
    obtain ⟨cs',h2,h3⟩:=Option.bind_eq_some_iff.1 h1
    obtain ⟨_,h4,h5⟩:=World.cells?_some h2
    obtain ⟨_,q,h6⟩:=h _ enc w sp held n cs' _ h3
    refine ⟨q,fun j hj=>?_⟩
    obtain ⟨v,h7,h8⟩:=h6 j hj
    refine ⟨v, ?_,h8⟩
    have:=h5 j hj
    rw [h7] at this
    rw [← this]
    congr 1
    unfold Addr.add
    by_cases hj0:j = 0
    · subst hj0
      simp
    · by_cases hi0:i * s = 0
      · simp [hi0,hj0]
      · have:¬ (i * s + j = 0):=by omega
        simp only [hj0,hi0,this,if_false]
        congr 1
        omega
   refine ⟨rfl,(List.range len).map fun i=>if hi:i < len then Classical.choose (each i hi) else default,fun j hj=>?_⟩
   obtain rfl:j = 0:=by omega
   refine ⟨_,rfl,some a,cap,by simp,by simpa using hl,hm,(fun hh=>by cases hh),fun hn=>?_⟩
   have hn:0 < len:=by simpa using hn
   have hspot:a.spot = none:=by
    obtain ⟨q,hq⟩:=each 0 hn
    obtain ⟨v,hv,_⟩:=hq 0 hs
    have:a.add (0 * s + 0) = a:=by simp [Addr.add]
    rw [this] at hv
    unfold World.cell? at hv
    split at hv
    · split at hv
      · cases hv
      · rename_i hsp
        simpa using hsp
    · cases hv
   refine ⟨a.block,a.off, ?_,fun i j hi hj=>?_⟩
   · obtain ⟨b,o,spo⟩:=a
     simp only at hspot
     subst hspot
     rfl
   · have hi:i < len:=by simpa using hi
     have hch:=Classical.choose_spec (each i hi)
     obtain ⟨v,hv,hr⟩:=hch j hj
     refine ⟨v, ?_, ?_⟩
     · unfold World.cell? at hv
       have hblk:(a.add (i * s + j)).block = a.block:=by unfold Addr.add;split <;> rfl
       have hoff:(a.add (i * s + j)).off = a.off + (i * s + j):=by
        unfold Addr.add
        split
        · rename_i h0;rw [h0];rfl
        · rfl
       rw [hblk,hoff] at hv
       unfold j6 fp
       split at hv
       · rename_i hb'
         rw [hb']
         split at hv
         · cases hv
         · exact hv
       · cases hv
     · have:lf c ((List.range len).map fun i=>if hi:i < len then Classical.choose (each i hi) else default) i j = c (Classical.choose (each i hi)) j:=by
        unfold lf
        simp [List.getD,hi]
       rw [this]
       exact hr
theorem a8i {H:Type} {enc:TypeId × Value → H} {w:World} {sp:Nat → Bool} {held:Bool} {fuel:Nat} {cs:List Value} {x:DataW H × List MemPlace} {fs:Array Field} (ht:P.underlying t = some (.struct fs)) (h:DataW.trod enc P w 0 sp held fuel t cs = some x) :
 cs.length = P.cellsOf t ∧ ∃ n,∀ (i:Nat) (f:Field),fs[i]? = some f → ∃ y,DataW.trod enc P w 0 sp held n f.type ((cs.drop f.offset).take (P.cellsOf f.type)) = some y:=by
 obtain ⟨xs,n,_,_,h1,h2,h3⟩:=DataW.trod_struct ht h
 refine ⟨h1,n,fun i f hf=>?_⟩
 have:=h3 i f hf
 rw [this]
 have hi:i < xs.length:=by rw [h2];exact (Array.getElem?_eq_some_iff.1 hf).1
 exact ⟨_,List.getElem?_eq_getElem hi⟩
theorem pz {H:Type} {enc:TypeId × Value → H} {w:World} {sp:Nat → Bool} {held:Bool} {n off s:Nat} {ft:TypeId} {cs:List Value} {y:DataW H × List MemPlace} {α:Type} {c:α → Nat → PV} (h:Rd P ft s c) (hy:DataW.trod enc P w 0 sp held n ft ((cs.drop off).take (P.cellsOf ft)) = some y) :
 ∃ a:α,∀ j,j < s → ∃ v,cs[off + j]? = some v ∧ b9 (fp w) (c a j) v:=by
 obtain ⟨h1,a,h2⟩:=h _ enc w sp held n _ y hy
 refine ⟨a,fun j hj=>?_⟩
 obtain ⟨v,h3,h4⟩:=h2 j hj
 refine ⟨v, ?_,h4⟩
 rw [List.getElem?_take] at h3
 split at h3
 · rwa [List.getElem?_drop] at h3
 · cases h3
end
theorem a8q {W W':World} (hb:Below W.heap.size W W') (may:MemPlace → Prop):W.keptBut W' may:=by
 refine ⟨hb.os,hb.output,fun i hi=>?_⟩
 rw [hb.block i hi]
 cases W.heap[i]? with
 | none=>exact rfl
 | some o=>cases o <;> first | exact ⟨rfl,rfl,rfl,fun _ _=>rfl⟩ | exact .inr ⟨rfl,rfl⟩ | exact rfl
theorem a8s {W W':World} (hb:Below W.heap.size W W') (p:MemPlace) (hp:p.block < W.heap.size):W.sameAt W' p:=by
 cases p with
 | cell b off=>show W'.cell? _ = W.cell? _;unfold World.cell?;rw [hb.block b hp]
 | map b=>exact hb.block b hp
section
variable {H:Type} {enc:TypeId × Value → H} {P:Program}
theorem zb (hl:laidOutB P = true) {W W':World} {sp':Nat → Bool}:∀ {ts:List TypeId} {vs:List Value} {ds:List (DataW H)} {ps:List MemPlace},(∀ t ∈ ts,P.readableRec t = true ∧ t < P.types.size) → DataW.TrodAll enc P W 0 (fun _=>true) true ts vs ds ps →
 (∀ p ∈ ps,W.sameAt W' p) → (∀ p ∈ ps,sp' p.block = true) → DataW.TrodAll enc P W' 0 sp' true ts vs ds ps
 | [],[],[],ps,_,h,_,_=>h
 | t :: ts,v :: vs,d :: ds,ps,ht,⟨p,q,h1,h2,e⟩,hs,hsp=>by
  subst e
  refine ⟨p,q,WideElems.Trod_stays hl (ht t (by simp)).1 (ht t (by simp)).2 h1 (fun z hz=>hs z (by simp [hz])) (fun z hz=>hsp z (by simp [hz])), ?_,rfl⟩
  exact zb hl (fun t ht'=>ht t (by simp [ht'])) h2 (fun z hz=>hs z (by simp [hz])) (fun z hz=>hsp z (by simp [hz]))
 | [],_ :: _,_,_,_,h,_,_=>h.elim
 | [],[],_ :: _,_,_,h,_,_=>h.elim
 | _ :: _,[],_,_,_,h,_,_=>h.elim
 | _ :: _,_ :: _,[],_,_,h,_,_=>h.elim
theorem ak5 {f:Func} {s:ChangeSpec} {W W':World} {args:Array Value} {ds:List (DataW H)} {before:List MemPlace} {tb:TypeId} (hl:laidOutB P = true) (hpar:∀ t ∈ f.params.toList,P.readableRec t = true ∧ t < P.types.size)
 (hres:f.resultTypes = #[tb]) (htb:P.underlying tb = some .bool) (hv:s.vars = []) (hfn:s.fn H ds = { results:=[.lit (.bool true)],args:=ds })
 (hW:DataW.Whole enc P f.params.toList s.vars false W args.toList ds [] before) (hb:Below W.heap.size W W'):s.post enc P f false true false false W args (.bool true) W':=by
 have hW':=hW
 have hlt:∀ p ∈ before,p.block < W.heap.size:=fun p hp=>hW.lt p hp
 obtain ⟨p,q,hA,hV,rfl,hfz,hnd⟩:=hW
 rw [hv] at hV
 obtain ⟨_,rfl⟩:=trodVars_none hV
 have hfn':s.fn H (ds ++ []) = { results:=[.lit (.bool true)],args:=ds }:=by rw [List.append_nil];exact hfn
 have hargs:∀ sp:Nat → Bool,(∀ z ∈ p ++ [],sp z.block = true) → DataW.TrodAll enc P W' 0 sp true f.params.toList args.toList (s.fn H (ds ++ [])).args p:=fun sp hsp=>by
  rw [hfn']
  exact zb hl hpar hA (fun z hz=>a8s hb z (hlt z (by simpa using hz))) (fun z hz=>hsp z (by simpa using hz))
 have hrs:∀ (b:Nat) (sp:Nat → Bool) (hd:Bool),DataW.TrodAll enc P W' b sp hd f.resultTypes.toList ((Value.bool true).resultList f.resultTypes.size) (s.fn H (ds ++ [])).results []:=fun b sp hd=>by
  rw [hfn',hres]
  exact trodAll_cons_mk (shut_bool htb _) trodAll_mk0
 have hok:∀ (j:Nat) (t:TypeId) (r:Value),f.resultTypes[j]? = some t → ((Value.bool true).resultList f.resultTypes.size)[j]? = some r → Value.okWide P W' .any 0 t r:=ok_one hres rfl (okWide_bool_mk htb _)
 have hvars:∀ sp:Nat → Bool,(∀ z ∈ p ++ [],sp z.block = true) → DataW.TrodVars enc P W' sp s.vars (s.fn H (ds ++ [])).vars []:=fun sp _=>by
  rw [hfn',hv];exact rfl
 have hold:∀ z ∈ p ++ [],(fun b=>decide (b < W.heap.size)) z.block = true:=fun z hz=>by simpa using hlt z hz
 refine ⟨ds,[],p ++ [],[],p,[],hW',hrs _ _ _,hargs _ hold,hvars _ hold,World.keptBut_mono (fun z hz=>⟨hz, ?_⟩) (a8q hb (· ∈ p ++ [])),fun _=>?_⟩
 · exact Or.inr (by simpa using hz)
 · refine ⟨hok,_,_,([] ++ p) ++ [],⟨[] ++ p,[],trodAll_append (hargs _ (fun _ _=>rfl)) (hrs _ _ _),hvars _ (fun _ _=>rfl),rfl, ?_, ?_⟩, ?_⟩
   · intro b off hp
     have hp':MemPlace.cell b off ∈ p ++ []:=by simpa using hp
     have:=hfz b off hp'
     unfold World.frozen? at this ⊢
     rw [hb.block b (hlt _ hp')]
     exact this
   · intro ha;cases ha
   · intro z hz _
     simpa using hz
end
theorem aj4 {P:Program} {f:FuncId} {args:List PC} {us:List Value} {W:World} {R:Ending → World → Prop} (ht:ov (fp W)) (h:ap P f args (b4 [.one (.raw (.bool true))])) (hr:cr (fp W) args us) (hR:∀ W',Below W.heap.size W W' → R (.returned (.bool true)) W'):Calls P f us.toArray W R:=by
 refine (h W (fp W) us ht (fun _ _ hh=>hh) hr).mono ?_
 rintro e w' ⟨v,imm',rfl,hv,_,_,hb⟩
 obtain ⟨rfl,_⟩:=hv
 exact hR w' hb
end Go.Hx
end
section
namespace Go.Hx
open Go.Proofs Go.Proofs.YtaegkccfbmekbaaGreat
open Go.RowKit Go.ChangeShapes Go.WideShapes Go.ChangeAt
section
variable {H:Type}
end
def RdB (P:Program) (t:TypeId) (n:Nat) {α:Type} (c:α → Nat → PV) (B:Nat → α → Prop):Prop :=
 ∀ (H:Type) (enc:TypeId × Value → H) (w:World) (sp:Nat → Bool) (held:Bool) (fuel:Nat) (cs:List Value) (x:DataW H × List MemPlace),DataW.trod enc P w 0 sp held fuel t cs = some x →
  cs.length = n ∧ ∃ a:α,B (Rows.uptoBulk x.1) a ∧ ∀ j,j < n → ∃ v,cs[j]? = some v ∧ b9 (fp w) (c a j) v
section
variable {P:Program} {t e:TypeId}
theorem Rd.toB {n:Nat} {α:Type} {c:α → Nat → PV} (h:Rd P t n c):RdB P t n c fun _ _=>True:=by
 intro H enc w sp held fuel cs x hx
 obtain ⟨h1,a,h2⟩:=h _ enc w sp held fuel cs x hx
 exact ⟨h1,a,trivial,h2⟩
theorem RdB.co {n:Nat} {α β:Type} {c:α → Nat → PV} {c':β → Nat → PV} {B:Nat → α → Prop} {B':Nat → β → Prop} (h:RdB P t n c B) (f:α → β) (hB:∀ b a,B b a → B' b (f a)) (hc:∀ a j,j < n → CoP (c a j) (c' (f a) j)):RdB P t n c' B':=by
 intro H enc w sp held fuel cs x hx
 obtain ⟨h1,a,h0,h2⟩:=h _ enc w sp held fuel cs x hx
 refine ⟨h1,f a,hB _ _ h0,fun j hj=>?_⟩
 obtain ⟨v,h3,h4⟩:=h2 j hj
 exact ⟨v,h3,hc a j hj _ _ h4⟩
end
section
variable {P:Program} {t e:TypeId}
theorem aca {m:Imm} {c:Nat → PV}:∀ {n:Nat} {us:List Value} {k:Nat},us.length = n → (∀ j,j < n → ∃ v,us[j]? = some v ∧ b9 m (c (k + j)) v) → ep m ((List.range' k n).map c) us
 | 0,[],_,_,_=>trivial
 | n + 1,u :: us,k,hl,h=>by
  obtain ⟨v,h1,h2⟩:=h 0 (by omega)
  simp only [List.getElem?_cons_zero,Option.some.injEq] at h1
  subst h1
  refine ⟨h2,aca (n:=n) (k:=k + 1) (by simpa using hl) fun j hj=>?_⟩
  obtain ⟨v,h3,h4⟩:=h (j + 1) (by omega)
  refine ⟨v,by simpa using h3, ?_⟩
  rwa [show k + 1 + j = k + (j + 1) by omega]
 | 0,_ :: _,_,h,_=>by cases h
 | _ + 1,[],_,h,_=>by cases h
theorem ae5 {H:Type} {enc:TypeId × Value → H} {W:World} {cs:Array Value} {d:DataW H} {ps:List MemPlace} {n:Nat} {α:Type} {c:α → Nat → PV} {B:Nat → α → Prop} (h:RdB P t n c B) (hd:DataW.Trod enc P W 0 (fun _=>true) true t (.agg cs) d ps) :
 ∃ a:α,B (Rows.uptoBulk d) a ∧ iw (fp W) (.agg ((List.range' 0 n).map (c a))) (.agg cs):=by
 obtain ⟨fuel,hf⟩:=hd
 obtain ⟨hl,a,h0,ha⟩:=h _ enc W _ _ fuel _ _ hf
 refine ⟨a,h0,cs.toList,by simp,aca hl fun j hj=>?_⟩
 rw [Nat.zero_add]
 exact ha j hj
end
end Go.Hx
end
