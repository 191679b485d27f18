/- A part of the proof: Sp7 Ms3 Ms4 Ms5 Ms6 Hx21 Hx26. -/
import Derived.ChangeArms
import Derived.OpenShut
import Derived.ProofKit
import Derived.Test.YtaegkccfbmekbaaGreatRows
import Derived.WalkKit
import Derived.WideKeyArgs
import Derived.Test.YtaegkccfbmekbaaGreatPx15
import Derived.Test.YtaegkccfbmekbaaGreatPx16
import Derived.Test.YtaegkccfbmekbaaGreatPx23
import Derived.Test.YtaegkccfbmekbaaGreatPx25
set_option linter.all false
section
namespace Go.Hx
theorem alk {α:Type} [Inhabited α] {s n k':Nat} {k:Int} {cl:Bool} {c:α → Nat → PV} {l:List α} (h:k.toNat = k') (hk:k' ≤ l.length) :
 CoP (.sl (j9 (dw n (some k)) none) s cl (qj (lf c l) none)) (psl s c (l.take k')):=by
 subst h;exact a7f hk
def lbd:List Row → Int → Nat
 | [],_=>0
 | r :: l,id=>if r.id < id then lbd l id + 1 else 0
theorem wv {id:Int}:∀ {l:List Row},lbd l id ≤ l.length
 | []=>Nat.le_refl _
 | r :: l=>by
  have:=wv (id:=id) (l:=l)
  unfold lbd
  split <;> simp <;> omega
theorem ag7 {id:Int}:∀ {l:List Row} {i:Nat},i ≤ l.length → (∀ k,k < i → (l.getD k default).id < id) → (i < l.length → ¬ (l.getD i default).id < id) → lbd l id = i
 | [],i,h,_,_=>by simp at h;simp [lbd,h]
 | r :: l,0,_,_,h2=>by
  have:=h2 (by simp)
  simp only [List.getD_cons_zero] at this
  simp [lbd,this]
 | r :: l,i + 1,h,h1,h2=>by
  have h0:=h1 0 (by omega)
  simp only [List.getD_cons_zero] at h0
  have ih:=ag7 (l:=l) (i:=i) (id:=id) (by simpa using h) (fun k hk=>by have:=h1 (k + 1) (by omega);simpa using this) (fun hi=>by have:=h2 (by simpa using hi);simpa using this)
  simp [lbd,h0,ih]
theorem agb {id:Int}:∀ {l:List Row} {k:Nat},k < lbd l id → (l.getD k default).id < id
 | [],k,h=>by simp [lbd] at h
 | r :: l,k,h=>by
  unfold lbd at h
  split at h
  · rename_i h0
    cases k with
    | zero=>simpa using h0
    | succ k=>simpa using agb (l:=l) (k:=k) (by omega)
  · omega
theorem agc {id:Int}:∀ {l:List Row},lbd l id < l.length → ¬ (l.getD (lbd l id) default).id < id
 | [],h=>by simp at h
 | r :: l,h=>by
  unfold lbd at h ⊢
  split at h
  · rename_i h0
    rw [if_pos h0]
    simpa using agc (l:=l) (by simpa using h)
  · rename_i h0
    rw [if_neg h0]
    simpa using h0
theorem zi {l:List Row} (hs:ep l) {i j:Nat} (hij:i ≤ j) (hj:j < l.length):(l.getD i default).id ≤ (l.getD j default).id:=by
 rcases Nat.lt_or_eq_of_le hij with h | rfl
 · rw [k7 _ _ hj,k7 _ _ (by omega)]
   have:=List.pairwise_iff_getElem.1 hs i j (by omega) hj h
   omega
 · exact Int.le_refl _
theorem agl {l:List Row} {r:Row} (hs:ep l) (hn:∀ x ∈ l,x.id ≠ r.id):dx l (lbd l r.id) r = jm r l:=by
 refine sh hs wv (fun j h1 h2=>?_) ?_
 · have ha:=agc (l:=l) (id:=r.id) (by omega)
   have hb:=zi hs h1 h2
   have hc:=hn _ (by rw [k7 _ _ h2];exact List.getElem_mem h2:(l.getD j default) ∈ l)
   omega
 · by_cases h:lbd l r.id = 0
   · exact .inl h
   · have:=agb (l:=l) (id:=r.id) (k:=lbd l r.id - 1) (by omega)
     exact .inr (by omega)
def bsF (l:List Row) (id:Int):Bool:=decide (lbd l id < l.length) && decide ((l.getD (lbd l id) default).id = id)
def qn (a b:Int):Int:=if a < b then -1 else if b < a then 1 else 0
theorem ass (i j:Nat):((i:Int) + j).fdiv (2 ^ (min ((1:Int).toNat) IntKind.u64.bits)) = (((i + j) / 2:Nat):Int):=by
 show ((i:Int) + j).fdiv 2 = _
 rw [Int.fdiv_eq_ediv_of_nonneg _ (by omega)]
 omega
theorem a7k {a b:Int}:qn a b < 0 ↔ a < b:=by unfold qn;split <;> (try split) <;> omega
theorem a1b {a b:Int}:qn a b = 0 ↔ a = b:=by unfold qn;split <;> (try split) <;> omega
theorem amp {l:List Row} {id:Int} {i j:Nat} (hs:ep l) (h:i < j) (h2:j ≤ l.length) (hA:∀ k,k < i → (l.getD k default).id < id) (hB:∀ k,j ≤ k → k < l.length → id ≤ (l.getD k default).id)
 (hc:qn (l.getD (((i + j) / 2:Nat):Int).toNat default).id id < 0):(i + j) / 2 + 1 ≤ j ∧ j ≤ l.length ∧ (∀ k,k < (i + j) / 2 + 1 → (l.getD k default).id < id) ∧ (∀ k,j ≤ k → k < l.length → id ≤ (l.getD k default).id):=by
 rw [a7k,Int.toNat_natCast] at hc
 refine ⟨by omega,h2,fun k hk=>?_,hB⟩
 have:=zi hs (i:=k) (j:=(i + j) / 2) (by omega) (by omega)
 omega
theorem amf {l:List Row} {id:Int} {i j:Nat} (hs:ep l) (h:i < j) (h2:j ≤ l.length) (hA:∀ k,k < i → (l.getD k default).id < id) (hB:∀ k,j ≤ k → k < l.length → id ≤ (l.getD k default).id)
 (hc:¬ qn (l.getD (((i + j) / 2:Nat):Int).toNat default).id id < 0):i ≤ (i + j) / 2 ∧ (i + j) / 2 ≤ l.length ∧ (∀ k,k < i → (l.getD k default).id < id) ∧ (∀ k,(i + j) / 2 ≤ k → k < l.length → id ≤ (l.getD k default).id):=by
 rw [a7k,Int.toNat_natCast] at hc
 refine ⟨by omega,by omega,hA,fun k hk hl=>?_⟩
 have:=zi hs (i:=(i + j) / 2) (j:=k) hk hl
 omega
theorem amy {l:List Row} {k:Nat} {r:Row} (h:k ≤ l.length) (i j:Nat):CoP (vz k (lf Row.c l) (lf Row.c [r]) i j) (lf Row.c (dx l k r) i j):=by
 refine CoP.of_eq ?_
 unfold vz lf
 simp only [List.getD]
 rw [a0a h]
 by_cases h1:i < k
 · simp [h1]
 · by_cases h2:i = k
   · subst h2;simp
   · simp [h1,h2]
end Go.Hx
end
section
namespace Go.Hx
abbrev Lm:Nat:=68719476736
abbrev ap (t:Tbl):List Fd:=a42 (prs t.rows) t.attrs.length
abbrev mst (t:Tbl) (fds add rem:List Fd):MSt:=⟨t,db t.rows,fds,add,rem⟩
abbrev kb (t:Tbl) (fds:List Fd):MSt:=mst t (ap t) (dl (ap t) fds) (dl fds (ap t))
theorem TOk.sorted {t:Tbl} (h:TOk t):ep t.rows:=fz h.rs
theorem du {t:Tbl} (hn:t.attrs.length ≤ 8):(ap t).length ≤ 68719476736:=by
 have h1:=a9h (prs t.rows) t.attrs.length (d5 t.attrs.length).length 0
 have h2:(d5 t.attrs.length).length ≤ 4294967296:=rj _
 have h3:(d5 t.attrs.length).length * t.attrs.length ≤ 4294967296 * 8:=Nat.mul_le_mul h2 hn
 show (jq _ _ _ 0).length ≤ _
 omega
theorem me (a b:List Fd):(dl a b).length ≤ a.length:=List.length_filter_le _ _
theorem a1w {l:List Row} (h:l.length ≤ 1000) (s:AS):-1000000 ≤ db l s ∧ db l s ≤ 1000000:=by
 have h1:=apj l s
 have h2:=an2 l s
 have h3:l.length * l.length ≤ 1000000:=Nat.mul_le_mul h h
 have h4:(l.length:Int) * l.length ≤ 1000000:=by
  have h5:((l.length * l.length:Nat):Int) ≤ ((1000000:Nat):Int):=Int.ofNat_le.2 h3
  rw [Int.natCast_mul] at h5
  exact h5
 omega
theorem agp {t:Tbl} {r:Row} (h:c4 t r = 0):∃ i,i < (ck t r).rows.length ∧ (ck t r).rows.getD i default = r ∧ (ck t r).rows.eraseIdx i = t.rows:=by
 obtain ⟨h1,h2,h3,h4,h5,h6⟩:=a3o h
 have hT:=dj.1 h1
 have e:=agl (r:=r) hT.sorted (yo h5)
 rw [gz h]
 have hk:lbd t.rows r.id ≤ t.rows.length:=wv
 refine ⟨lbd t.rows r.id, ?_, ?_, ?_⟩
 · show _ < (jm r t.rows).length;rw [qa];omega
 · show (jm r t.rows).getD _ default = r;rw [← e];exact wl hk
 · show (jm r t.rows).eraseIdx _ = t.rows
   rw [← e]
   unfold dx
   rw [List.eraseIdx_append_of_length_le (by rw [List.length_take];omega),List.length_take,show lbd t.rows r.id - min (lbd t.rows r.id) t.rows.length = 0 by omega]
   exact List.take_append_drop _ _
theorem ao7 {t:Tbl} {r:Row} (h:c4 t r = 0):f5 (ck t r).rows r 1 (db t.rows) = db (ck t r).rows:=by
 obtain ⟨i,h1,h2,h3⟩:=agp h
 have hV:=um h
 have:=ae4 hV.wid hV.sorted h1
 rw [h2,h3] at this
 exact this
theorem yl {l:List Row} {id:Int} (h:0 ≤ am l id):(max (am l id) 0).toNat = (am l id).toNat ∧ (am l id).toNat < l.length:=by
 refine ⟨by omega,(a3v h).1⟩
theorem apf {t:Tbl} {id:Int} (h:d6 t id = 0):f5 t.rows (t.rows.getD (am t.rows id).toNat default) (-1) (db t.rows) = db (lp t id).rows:=by
 obtain ⟨h1,h2⟩:=a36 h
 have hT:=dj.1 h1
 rw [mj h]
 exact aei hT.wid hT.sorted (yl h2).2
theorem aoc {t:Tbl} {id a:Int} {v:Val} (h:c8 t id a v = 0):f5 t.rows (t.rows.getD (am t.rows id).toNat default) (-1) (db t.rows) = db (t.rows.eraseIdx (am t.rows id).toNat):=by
 obtain ⟨h1,h2,_⟩:=wg h
 have hT:=dj.1 h1
 exact aei hT.wid hT.sorted (yl h2).2
theorem a4z {t:Tbl} {id a:Int} {v:Val} (h:c8 t id a v = 0):(chT t id a v).rows.length = t.rows.length:=by
 rw [jv h];exact xx
theorem ann {t:Tbl} {id a:Int} {v:Val} (h:c8 t id a v = 0) :
 f5 (chT t id a v).rows ((chT t id a v).rows.getD (am t.rows id).toNat default) 1 (db (t.rows.eraseIdx (am t.rows id).toNat)) = db (chT t id a v).rows:=by
 obtain ⟨h1,h2,_⟩:=wg h
 have hV:=a19 h
 have hi:(am t.rows id).toNat < (chT t id a v).rows.length:=by rw [a4z h];exact (yl h2).2
 have:=ae4 hV.wid hV.sorted hi
 rw [show (chT t id a v).rows.eraseIdx (am t.rows id).toNat = t.rows.eraseIdx (am t.rows id).toNat by
  rw [jv h]
  show (j3 _ _ _ _).eraseIdx _ = _
  unfold j3
  rw [List.eraseIdx_set_eq]] at this
 exact this
def qe (x:MSt) (r:Row):MSt:=if dh x.t r = 0 then kb (l3 x.t r) x.fds else x
def a0l (x:MSt) (id:Int):MSt:=if d6 x.t id = 0 then kb (lp x.t id) x.fds else x
def mCh (x:MSt) (id a:Int) (v:Val):MSt:=if c8 x.t id a v = 0 then kb (chT x.t id a v) x.fds else x
def ym (x:MSt) (o:MOp):MSt:=if opE x.t o = 0 then kb (opT x.t o) x.fds else x
theorem atl {x:MSt} {r:Row} {e:Int} (h:c4 x.t r = e) (he:¬ e = 0):qe x r = x ∧ dh x.t r = e:=by
 have e1:dh x.t r = e:=by unfold dh;rw [if_pos (by rw [h];exact he),h]
 exact ⟨if_neg (by rw [e1];exact he),e1⟩
theorem aqz {x:MSt} {r:Row} (h:c4 x.t r = 0) (h2:200 ≤ x.t.rows.length):qe x r = x ∧ dh x.t r = 3:=by
 have e1:dh x.t r = 3:=by unfold dh;rw [if_neg (by simpa using h),if_pos h2]
 exact ⟨if_neg (by rw [e1];decide),e1⟩
theorem aqb {x:MSt} {r:Row} (h:c4 x.t r = 0) (h2:¬ 200 ≤ x.t.rows.length):qe x r = kb (ck x.t r) x.fds ∧ dh x.t r = 0:=by
 have e1:dh x.t r = 0:=by unfold dh;rw [if_neg (by simpa using h),if_neg h2]
 refine ⟨?_,e1⟩
 unfold qe
 rw [if_pos e1,show l3 x.t r = ck x.t r by unfold l3;rw [if_neg (by simpa using h),if_neg h2]]
theorem tf {t:Tbl} {r:Row} (h:dh t r = 0):c4 t r = 0 ∧ ¬ 200 ≤ t.rows.length ∧ l3 t r = ck t r:=by
 unfold dh at h
 split at h
 · rename_i h1;exact absurd h h1
 · rename_i h1
   split at h
   · cases h
   · rename_i h2
     refine ⟨by simpa using h1,h2, ?_⟩
     unfold l3;rw [if_neg h1,if_neg h2]
theorem aus {t:Tbl} {o:MOp} (h:opE t o = 0) (h2:t.rows.length ≤ 200):TOk (opT t o) ∧ (opT t o).attrs = t.attrs ∧ (opT t o).name = t.name ∧ (opT t o).rows.length ≤ 200:=by
 by_cases k2:o.kind.toNat % 4 = 2
 · have hh:=op2 (t:=t) (o:=o) k2
   rw [hh.1] at h
   rw [hh.2,if_pos h]
   refine ⟨aao h,by rw [mj h],by rw [mj h], ?_⟩
   rw [mj h]
   exact Nat.le_trans (List.eraseIdx_sublist _ _).length_le h2
 · by_cases k3:o.kind.toNat % 4 = 3
   · have hh:=op3 (t:=t) (o:=o) k2 k3
     rw [hh.1] at h
     rw [hh.2,if_pos h]
     refine ⟨a19 h,by rw [jv h],by rw [jv h], ?_⟩
     rw [a4z h];exact h2
   · have hh:=op0 (t:=t) (o:=o) k2 k3
     rw [hh.1] at h
     obtain ⟨g1,g2,g3⟩:=tf h
     rw [hh.2,g3]
     refine ⟨um g1,by rw [gz g1],by rw [gz g1], ?_⟩
     rw [gz g1]
     show (jm _ _).length ≤ 200
     rw [qa];omega
end Go.Hx
end
section
namespace Go.Hx
theorem ami (K:List AS) (x k:AS):pK (K ++ [k]) x = (pK K x && !decide (sub x k)):=by unfold pK;simp
theorem amm {B:Bool} {K:List AS} {x k:AS}:(bif (B && pK K x) then !decide (fl .andNot .u32 (asI x) (asI k) = 0) else false) = (B && pK (K ++ [k]) x):=by
 rw [ami,← Bool.and_assoc,show decide (fl .andNot .u32 (asI x) (asI k) = 0) = decide (sub x k) from decide_eq_decide.2 n8]
 cases B && pK K x <;> rfl
theorem aml {B:Bool} {K:List AS} {x k:AS} (h:(B && pK K x) = false):false = (B && pK (K ++ [k]) x):=by
 rw [ami,← Bool.and_assoc,h];rfl
def mt (ps:List AS) (n i:Nat):List AS:=i5 (pK ps) ((d5 n).take i)
theorem al6 (ps:List AS) (n i:Nat):(mt ps n i).length ≤ i:=Nat.le_trans (tq _ _).length_le (by rw [List.length_take];omega)
theorem alv {ps:List AS} {n i:Nat} (h:(d5 n).length ≤ i):mt ps n i = tv ps n:=by unfold mt tv;rw [List.take_of_length_le h]
theorem a5v {ps:List AS} {n i:Nat} (hi:i < (d5 n).length) (h:((!((mt ps n i).any fun y=>decide (sub y ((d5 n).getD i default)))) && pK ps ((d5 n).getD i default)) = true):mt ps n (i + 1) = mt ps n i ++ [(d5 n).getD i default]:=by
 unfold mt at *
 rw [ce hi,lq]
 unfold mr
 rw [if_pos (by rw [Bool.and_comm];exact h)]
theorem a5o {ps:List AS} {n i:Nat} (hi:i < (d5 n).length) (h:((!((mt ps n i).any fun y=>decide (sub y ((d5 n).getD i default)))) && pK ps ((d5 n).getD i default)) = false):mt ps n (i + 1) = mt ps n i:=by
 unfold mt at *
 rw [ce hi,lq]
 unfold mr
 rw [if_neg (by rw [Bool.and_comm,h];decide)]
theorem xd {x:MSt} {o:MOp} (h:o.kind.toNat % 4 = 2):a0l x (dv o) = ym x o ∧ d6 x.t (dv o) = opE x.t o:=by
 have hh:=op2 (t:=x.t) h
 refine ⟨?_,hh.1.symm⟩
 unfold a0l ym
 rw [hh.1,hh.2]
 split
 · rfl
 · rfl
theorem ws {x:MSt} {o:MOp} (h2:¬ o.kind.toNat % 4 = 2) (h:o.kind.toNat % 4 = 3):mCh x (dv o) (ge x.t.attrs.length o) (gj o) = ym x o ∧ c8 x.t (dv o) (ge x.t.attrs.length o) (gj o) = opE x.t o:=by
 have hh:=op3 (t:=x.t) h2 h
 refine ⟨?_,hh.1.symm⟩
 unfold mCh ym
 rw [hh.1,hh.2]
 split
 · rfl
 · rfl
theorem xq {x:MSt} {o:MOp} (h2:¬ o.kind.toNat % 4 = 2) (h:¬ o.kind.toNat % 4 = 3):qe x (ja x.t.attrs.length o) = ym x o ∧ dh x.t (ja x.t.attrs.length o) = opE x.t o:=by
 have hh:=op0 (t:=x.t) h2 h
 refine ⟨?_,hh.1.symm⟩
 unfold qe ym
 rw [hh.1,hh.2]
theorem anh:mpF (db []) = fun _=>none:=by
 refine (a6i (fun s=>?_) fun m _=>rfl).symm
 rw [if_neg]
 show ¬ ¬ db [] s = 0
 exact fun h=>h rfl
theorem aqj:CoO (.mp (.int .u32) 0 (fun _=>none)) (ag2 (db [])):=by
 show CoO _ (.mp (.int .u32) 4294967296 (mpF (db [])))
 rw [anh]
 exact ⟨rfl,Nat.zero_le _,fun _=>trivial⟩
def atx (s:ByteArray) (l:List ByteArray):MSt:=mst (fq s l) (ap (fq s l)) [] []
end Go.Hx
end
section
namespace Go.Hx
theorem apg {t:Tbl} (ht:TOk t) (hnr:t.rows.length ≤ 200):qo t = 0:=by
 unfold qo
 rw [if_neg (by rw [dj.2 ht];decide),if_neg (by omega)]
theorem anc {t:Tbl} (ht:TOk t) (hnr:t.rows.length ≤ 200):a5l t = mi t.rows:=if_pos (apg ht hnr)
theorem aoa {t:Tbl} (ht:TOk t) (hnr:t.rows.length ≤ 200) (hna:t.attrs.length ≤ 8):nc t = 0:=by
 unfold nc
 have h:=dj.2 ht
 simp only [h]
 first | (rw [if_neg (by decide),if_neg (by omega)];done) | simp;omega
theorem aq9 {t:Tbl} (ht:TOk t) (hnr:t.rows.length ≤ 200) (hna:t.attrs.length ≤ 8):a40 t = ap t:=by
 unfold a40
 rw [if_pos (aoa ht hnr hna)]
 exact (aiy ht.wid hna).symm
theorem api {t:Tbl} (ht:TOk t) (hna:t.attrs.length ≤ 8):a60 t.rows t.attrs.length = tv (prs t.rows) t.attrs.length:=(agy ht.wid hna).symm
end Go.Hx
end
section
namespace Go.Hx
set_option maxRecDepth 100000
structure Scr where
 n:UInt8
 ops:List MOp
instance:Inhabited Scr:=⟨⟨0,[]⟩⟩
def Scr.c (x:Scr):Nat → PV
 | 0=>.raw (.int .u8 (x.n.toNat:Int))
 | 1=>avz x.ops
 | _=>.any
abbrev Scr.pc (x:Scr):PC:=.agg [x.c 0,x.c 1]
abbrev sR:ByteArray:=⟨#[114]⟩
def nmS (x:Scr):List ByteArray:=fv.take (x.n.toNat % 5)
theorem a6p (x:Scr):(nmS x).length ≤ 4:=by
 unfold nmS
 rw [List.length_take]
 omega
theorem arm:∀ k,k < 5 → ig sR (fv.take k) = 0:=by decide
theorem ahv (x:Scr):ig sR (nmS x) = 0:=arm _ (by omega)
theorem aj8 {b:Bool} {x:Fd} {f:Nat → Nat → PV} (h0:CoP (f 0 0) (x.c 0)) (h1:CoP (f 0 1) (x.c 1)):CoP (.sl 1 2 b f) (fdl [x]) :=
 CoP.sl rfl (.inl rfl) (fun h=>by cases h) fun i j hi hj=>by
  obtain rfl:i = 0:=by omega
  rcases (by omega:j = 0 ∨ j = 1) with rfl | rfl
  · exact h0
  · exact h1
theorem asd {b:Bool} {x y:Fd} {f:Nat → Nat → PV} (h0:CoP (f 0 0) (x.c 0)) (h1:CoP (f 0 1) (x.c 1)) (h2:CoP (f 1 0) (y.c 0)) (h3:CoP (f 1 1) (y.c 1)):CoP (.sl 2 2 b f) (fdl [x,y]) :=
 CoP.sl rfl (.inl rfl) (fun h=>by cases h) fun i j hi hj=>by
  rcases (by omega:i = 0 ∨ i = 1) with rfl | rfl <;> rcases (by omega:j = 0 ∨ j = 1) with rfl | rfl
  · exact h0
  · exact h1
  · exact h2
  · exact h3
theorem am4 {b:Bool} {x:AS} {f:Nat → Nat → PV} (h0:CoP (f 0 0) (asC x)):CoP (.sl 1 1 b f) (asl [x]) :=
 CoP.sl rfl (.inl rfl) (fun h=>by cases h) fun i j hi hj=>by
  obtain rfl:i = 0:=by omega
  obtain rfl:j = 0:=by omega
  exact h0
def tA0:Tbl:=fq sR [⟨#[97]⟩,⟨#[98]⟩]
def rA1:Row:=⟨1,sm [1,1]⟩
def rA2:Row:=⟨2,sm [1,2]⟩
def tA1:Tbl:=ck tA0 rA1
def tA2:Tbl:=ck tA1 rA2
theorem awa:ig sR [⟨#[97]⟩,⟨#[98]⟩] = 0:=by decide
theorem aqv:dh tA0 rA1 = 0:=by decide
theorem as3:dh tA1 rA2 = 0:=by decide
theorem aqc:TOk tA0:=dj.1 (by decide)
theorem atc:TOk tA1:=dj.1 (by decide)
theorem av5:qe (mst tA0 (ap tA0) [] []) rA1 = kb tA1 (ap tA0):=if_pos aqv
theorem aug:qe (kb tA1 (ap tA0)) rA2 = kb tA2 (ap tA1):=if_pos as3
theorem amn:(ap tA0).length ≤ 68719476736:=du (by decide)
theorem a8z:(ap tA1).length ≤ 68719476736:=du (by decide)
theorem afv:(ap tA2).length ≤ 68719476736:=du (by decide)
theorem auo:(dl (ap tA1) (ap tA0)).length ≤ 68719476736:=Nat.le_trans (me _ _) a8z
theorem av3:(dl (ap tA0) (ap tA1)).length ≤ 68719476736:=Nat.le_trans (me _ _) amn
theorem am9:(dl (ap tA2) (ap tA1)).length ≤ 68719476736:=Nat.le_trans (me _ _) afv
theorem am1:(dl (ap tA1) (ap tA2)).length ≤ 68719476736:=Nat.le_trans (me _ _) a8z
theorem aq3:dl (ap tA2) (ap tA1) = []:=by decide
theorem awl:dl (ap tA1) (ap tA2) = [⟨0,2⟩]:=by decide
theorem akz:ap tA1 = [⟨0,1⟩,⟨0,2⟩]:=by decide
theorem aqn:tv (prs tA1.rows) tA1.attrs.length = [0]:=by decide
theorem akm:ap tA2 = [⟨0,1⟩]:=by decide
theorem atd:tv (prs tA2.rows) tA2.attrs.length = [2]:=by decide
end Go.Hx
end
section
namespace Go.Hx
open Go.RowKit Go.ChangeShapes Go.WideShapes Go.ChangeAt
def Rd (P:Program) (t:TypeId) (n:Nat) {α:Type} (c:α → Nat → PV):Prop :=
 ∀ (H:Type) (enc:TypeId × Value → H) (w:World) (sp:Nat → Bool) (held:Bool) (fuel:Nat) (cs:List Value) (x:DataW H × List MemPlace),DataW.trod enc P w 0 sp held fuel t cs = some x →
  cs.length = n ∧ ∃ a:α,∀ j,j < n → ∃ v,cs[j]? = some v ∧ bf (fm w) (c a j) v
section
variable {P:Program} {t e:TypeId}
def ax9 (k:IntKind) (z:Int):Nat → PV:=fun _=>.raw (.int k z)
def awt (b:Bool):Nat → PV:=fun _=>.raw (.bool b)
def awr (s:ByteArray):Nat → PV:=fun _=>.raw (.string s)
def u8P (u:UInt8):Nat → PV:=fun _=>.raw (.int .u8 (u.toNat:Int))
theorem aur (ht:P.underlying t = some (.int .u8)):Rd P t 1 u8P:=by
 intro H enc w sp held fuel cs x h
 obtain ⟨n,rfl,_,hw⟩:=DataW.trod_int ht h
 have hx:0 ≤ n ∧ n ≤ 255:=by simpa [Lit.wf,IntKind.min,IntKind.max,IntKind.signed,IntKind.bits] using hw
 refine ⟨rfl,UInt8.ofNat n.toNat,fun j hj=>?_⟩
 obtain rfl:j = 0:=by omega
 refine ⟨_,rfl, ?_,rfl⟩
 have:(UInt8.ofNat n.toNat).toNat = n.toNat:=by
  rw [UInt8.toNat_ofNat']
  omega
 rw [this]
 congr 1
 omega
theorem Rd.co {n:Nat} {α β:Type} {c:α → Nat → PV} {c':β → Nat → PV} (h:Rd P t n c) (f:α → β) (hc:∀ a j,j < n → CoP (c a j) (c' (f a) j)):Rd P t n c':=by
 intro H enc w sp held fuel cs x hx
 obtain ⟨h1,a,h2⟩:=h _ enc w sp held fuel cs x hx
 refine ⟨h1,f a,fun j hj=>?_⟩
 obtain ⟨v,h3,h4⟩:=h2 j hj
 exact ⟨v,h3,hc a j hj _ _ h4⟩
def akq {α:Type} [Inhabited α] (s:Nat) (c:α → Nat → PV) (l:List α):Nat → PV:=fun _=>psl s c l
theorem a3h {s:Nat} {α:Type} [Inhabited α] {c:α → Nat → PV} (ht:P.underlying t = some (.slice e)) (hc:P.cellsOf e = s) (hs:0 < s) (h:Rd P e s c):Rd P t 1 (akq s c):=by
 classical
 intro H enc w sp held fuel cs x hx
 rcases DataW.trod_slice ht hx with ⟨rfl,_⟩ | ⟨a,len,cap,elems,rest,n,rfl,rfl,_,hb,hl,hm,hlen,hel,_,_⟩
 · refine ⟨rfl,[],fun j hj=>?_⟩
   obtain rfl:j = 0:=by omega
   exact ⟨_,rfl,none,0,rfl,Nat.le_refl _,Nat.zero_le _,(fun hh=>by cases hh),fun hh=>absurd hh (Nat.lt_irrefl 0)⟩
 · have each:∀ i,i < len → ∃ q:α,∀ j,j < s → ∃ v,w.cell? (a.add (i * s + j)) = some v ∧ bf (fm w) (c q j) v:=by
    intro i hi
    have h1:=hel i hi
    rw [hc] at h1
    rw [List.getElem?_eq_getElem (by omega)] at h1
    obtain ⟨cs',h2,h3⟩:=Option.bind_eq_some_iff.1 h1
    obtain ⟨_,h4,h5⟩:=World.cells?_some h2
    obtain ⟨_,q,h6⟩:=h _ enc w sp held n cs' _ h3
    refine ⟨q,fun j hj=>?_⟩
    obtain ⟨v,h7,h8⟩:=h6 j hj
    refine ⟨v, ?_,h8⟩
    have:=h5 j hj
    rw [h7] at this
    rw [← this]
    congr 1
    unfold Addr.add
    by_cases hj0:j = 0
    · subst hj0
      simp
    · by_cases hi0:i * s = 0
      · simp [hi0,hj0]
      · have:¬ (i * s + j = 0):=by omega
        simp only [hj0,hi0,this,if_false]
        congr 1
        omega
   refine ⟨rfl,(List.range len).map fun i=>if hi:i < len then Classical.choose (each i hi) else default,fun j hj=>?_⟩
   obtain rfl:j = 0:=by omega
   refine ⟨_,rfl,some a,cap,by simp,by simpa using hl,hm,(fun hh=>by cases hh),fun hn=>?_⟩
   have hn:0 < len:=by simpa using hn
   have hspot:a.spot = none:=by
    obtain ⟨q,hq⟩:=each 0 hn
    obtain ⟨v,hv,_⟩:=hq 0 hs
    have:a.add (0 * s + 0) = a:=by simp [Addr.add]
    rw [this] at hv
    unfold World.cell? at hv
    split at hv
    · split at hv
      · cases hv
      · rename_i hsp
        simpa using hsp
    · cases hv
   refine ⟨a.block,a.off, ?_,fun i j hi hj=>?_⟩
   · obtain ⟨b,o,spo⟩:=a
     simp only at hspot
     subst hspot
     rfl
   · have hi:i < len:=by simpa using hi
     have hch:=Classical.choose_spec (each i hi)
     obtain ⟨v,hv,hr⟩:=hch j hj
     refine ⟨v, ?_, ?_⟩
     · unfold World.cell? at hv
       have hblk:(a.add (i * s + j)).block = a.block:=by unfold Addr.add;split <;> rfl
       have hoff:(a.add (i * s + j)).off = a.off + (i * s + j):=by
        unfold Addr.add
        split
        · rename_i h0;rw [h0];rfl
        · rfl
       rw [hblk,hoff] at hv
       unfold jf fm
       split at hv
       · rename_i hb'
         rw [hb']
         split at hv
         · cases hv
         · exact hv
       · cases hv
     · have:lf c ((List.range len).map fun i=>if hi:i < len then Classical.choose (each i hi) else default) i j = c (Classical.choose (each i hi)) j:=by
        unfold lf
        simp [List.getD,hi]
       rw [this]
       exact hr
theorem a0w {H:Type} {enc:TypeId × Value → H} {w:World} {sp:Nat → Bool} {held:Bool} {fuel:Nat} {cs:List Value} {x:DataW H × List MemPlace} {fs:Array Field} (ht:P.underlying t = some (.struct fs)) (h:DataW.trod enc P w 0 sp held fuel t cs = some x) :
 cs.length = P.cellsOf t ∧ ∃ n,∀ (i:Nat) (f:Field),fs[i]? = some f → ∃ y,DataW.trod enc P w 0 sp held n f.type ((cs.drop f.offset).take (P.cellsOf f.type)) = some y:=by
 obtain ⟨xs,n,_,_,h1,h2,h3⟩:=DataW.trod_struct ht h
 refine ⟨h1,n,fun i f hf=>?_⟩
 have:=h3 i f hf
 rw [this]
 have hi:i < xs.length:=by rw [h2];exact (Array.getElem?_eq_some_iff.1 hf).1
 exact ⟨_,List.getElem?_eq_getElem hi⟩
theorem kn {H:Type} {enc:TypeId × Value → H} {w:World} {sp:Nat → Bool} {held:Bool} {n off s:Nat} {ft:TypeId} {cs:List Value} {y:DataW H × List MemPlace} {α:Type} {c:α → Nat → PV} (h:Rd P ft s c) (hy:DataW.trod enc P w 0 sp held n ft ((cs.drop off).take (P.cellsOf ft)) = some y) :
 ∃ a:α,∀ j,j < s → ∃ v,cs[off + j]? = some v ∧ bf (fm w) (c a j) v:=by
 obtain ⟨h1,a,h2⟩:=h _ enc w sp held n _ y hy
 refine ⟨a,fun j hj=>?_⟩
 obtain ⟨v,h3,h4⟩:=h2 j hj
 refine ⟨v, ?_,h4⟩
 rw [List.getElem?_take] at h3
 split at h3
 · rwa [List.getElem?_drop] at h3
 · cases h3
end
theorem a8n {W W':World} (hb:Below W.heap.size W W') (may:MemPlace → Prop):W.keptBut W' may:=by
 refine ⟨hb.os,hb.output,fun i hi=>?_⟩
 rw [hb.block i hi]
 cases W.heap[i]? with
 | none=>exact rfl
 | some o=>cases o <;> first | exact ⟨rfl,rfl,rfl,fun _ _=>rfl⟩ | exact .inr ⟨rfl,rfl⟩ | exact rfl
theorem a8r {W W':World} (hb:Below W.heap.size W W') (p:MemPlace) (hp:p.block < W.heap.size):W.sameAt W' p:=by
 cases p with
 | cell b off=>show W'.cell? _ = W.cell? _;unfold World.cell?;rw [hb.block b hp]
 | map b=>exact hb.block b hp
section
variable {H:Type} {enc:TypeId × Value → H} {P:Program}
theorem za (hl:laidOutB P = true) {W W':World} {sp':Nat → Bool}:∀ {ts:List TypeId} {vs:List Value} {ds:List (DataW H)} {ps:List MemPlace},(∀ t ∈ ts,P.readableRec t = true ∧ t < P.types.size) → DataW.TrodAll enc P W 0 (fun _=>true) true ts vs ds ps →
 (∀ p ∈ ps,W.sameAt W' p) → (∀ p ∈ ps,sp' p.block = true) → DataW.TrodAll enc P W' 0 sp' true ts vs ds ps
 | [],[],[],ps,_,h,_,_=>h
 | t :: ts,v :: vs,d :: ds,ps,ht,⟨p,q,h1,h2,e⟩,hs,hsp=>by
  subst e
  refine ⟨p,q,WideElems.Trod_stays hl (ht t (by simp)).1 (ht t (by simp)).2 h1 (fun z hz=>hs z (by simp [hz])) (fun z hz=>hsp z (by simp [hz])), ?_,rfl⟩
  exact za hl (fun t ht'=>ht t (by simp [ht'])) h2 (fun z hz=>hs z (by simp [hz])) (fun z hz=>hsp z (by simp [hz]))
 | [],_ :: _,_,_,_,h,_,_=>h.elim
 | [],[],_ :: _,_,_,h,_,_=>h.elim
 | _ :: _,[],_,_,_,h,_,_=>h.elim
 | _ :: _,_ :: _,[],_,_,h,_,_=>h.elim
theorem aaf {f:Func} {s:ChangeSpec} {W W':World} {args:Array Value} {ds:List (DataW H)} {before:List MemPlace} {tb:TypeId} (hl:laidOutB P = true) (hpar:∀ t ∈ f.params.toList,P.readableRec t = true ∧ t < P.types.size)
 (hres:f.resultTypes = #[tb]) (htb:P.underlying tb = some .bool) (hv:s.vars = []) (hfn:s.fn H ds = { results:=[.lit (.bool true)],args:=ds })
 (hW:DataW.Whole enc P f.params.toList s.vars false W args.toList ds [] before) (hb:Below W.heap.size W W'):s.post enc P f false true false false W args (.bool true) W':=by
 have hW':=hW
 have hlt:∀ p ∈ before,p.block < W.heap.size:=fun p hp=>hW.lt p hp
 obtain ⟨p,q,hA,hV,rfl,hfz,hnd⟩:=hW
 rw [hv] at hV
 obtain ⟨_,rfl⟩:=trodVars_none hV
 have hfn':s.fn H (ds ++ []) = { results:=[.lit (.bool true)],args:=ds }:=by rw [List.append_nil];exact hfn
 have hargs:∀ sp:Nat → Bool,(∀ z ∈ p ++ [],sp z.block = true) → DataW.TrodAll enc P W' 0 sp true f.params.toList args.toList (s.fn H (ds ++ [])).args p:=fun sp hsp=>by
  rw [hfn']
  exact za hl hpar hA (fun z hz=>a8r hb z (hlt z (by simpa using hz))) (fun z hz=>hsp z (by simpa using hz))
 have hrs:∀ (b:Nat) (sp:Nat → Bool) (hd:Bool),DataW.TrodAll enc P W' b sp hd f.resultTypes.toList ((Value.bool true).resultList f.resultTypes.size) (s.fn H (ds ++ [])).results []:=fun b sp hd=>by
  rw [hfn',hres]
  exact trodAll_cons_mk (shut_bool htb _) trodAll_mk0
 have hok:∀ (j:Nat) (t:TypeId) (r:Value),f.resultTypes[j]? = some t → ((Value.bool true).resultList f.resultTypes.size)[j]? = some r → Value.okWide P W' .any 0 t r:=ok_one hres rfl (okWide_bool_mk htb _)
 have hvars:∀ sp:Nat → Bool,(∀ z ∈ p ++ [],sp z.block = true) → DataW.TrodVars enc P W' sp s.vars (s.fn H (ds ++ [])).vars []:=fun sp _=>by
  rw [hfn',hv];exact rfl
 have hold:∀ z ∈ p ++ [],(fun b=>decide (b < W.heap.size)) z.block = true:=fun z hz=>by simpa using hlt z hz
 refine ⟨ds,[],p ++ [],[],p,[],hW',hrs _ _ _,hargs _ hold,hvars _ hold,World.keptBut_mono (fun z hz=>⟨hz, ?_⟩) (a8n hb (· ∈ p ++ [])),fun _=>?_⟩
 · exact Or.inr (by simpa using hz)
 · refine ⟨hok,_,_,([] ++ p) ++ [],⟨[] ++ p,[],trodAll_append (hargs _ (fun _ _=>rfl)) (hrs _ _ _),hvars _ (fun _ _=>rfl),rfl, ?_, ?_⟩, ?_⟩
   · intro b off hp
     have hp':MemPlace.cell b off ∈ p ++ []:=by simpa using hp
     have:=hfz b off hp'
     unfold World.frozen? at this ⊢
     rw [hb.block b (hlt _ hp')]
     exact this
   · intro ha;cases ha
   · intro z hz _
     simpa using hz
end
theorem acf {P:Program} {W:World} {r:Reach} {b:Nat} {t e:TypeId} {v:Value} (ht:P.underlying t = some (.slice e)) (h:Value.okWide P W r b t v):v.cells.toList = [v]:=by
 unfold Value.okWide at h
 rw [ht] at h
 unfold Cell.okWide at h
 rw [ht] at h
 cases v <;> first | rfl | (simp [Cell.ok,ht] at h)
theorem ara {H:Type} {enc:TypeId × Value → H} {P:Program} {W:World} {t:TypeId} {v:Value} {d:DataW H} {ps:List MemPlace} {α:Type} {c:α → Nat → PV} (h:Rd P t 1 c) (hc:v.cells.toList = [v]) (hd:DataW.Trod enc P W 0 (fun _=>true) true t v d ps):∃ a:α,bf (fm W) (c a 0) v:=by
 obtain ⟨fuel,hf⟩:=hd
 obtain ⟨_,a,ha⟩:=h _ enc W _ _ fuel _ _ hf
 obtain ⟨u,hu,hr⟩:=ha 0 (by omega)
 rw [hc] at hu
 simp only [List.getElem?_cons_zero,Option.some.injEq] at hu
 subst hu
 exact ⟨a,hr⟩
theorem a89 {P:Program} {f:FuncId} {args:List PC} {us:List Value} {W:World} {R:Ending → World → Prop} (ht:oz (fm W)) (h:al P f args (az [.one (.raw (.bool true))])) (hr:cq (fm W) args us) (hR:∀ W',Below W.heap.size W W' → R (.returned (.bool true)) W'):Calls P f us.toArray W R:=by
 refine (h W (fm W) us ht (fun _ _ hh=>hh) hr).mono ?_
 rintro e w' ⟨v,imm',rfl,hv,_,_,hb⟩
 obtain ⟨rfl,_⟩:=hv
 exact hR w' hb
end Go.Hx
end
section
namespace Go.Hx
open Go.Proofs Go.Proofs.YtaegkccfbmekbaaGreat
open Go.RowKit Go.ChangeShapes Go.WideShapes Go.ChangeAt
section
variable {H:Type}
end
def RdB (P:Program) (t:TypeId) (n:Nat) {α:Type} (c:α → Nat → PV) (B:Nat → α → Prop):Prop :=
 ∀ (H:Type) (enc:TypeId × Value → H) (w:World) (sp:Nat → Bool) (held:Bool) (fuel:Nat) (cs:List Value) (x:DataW H × List MemPlace),DataW.trod enc P w 0 sp held fuel t cs = some x →
  cs.length = n ∧ ∃ a:α,B (Rows.uptoBulk x.1) a ∧ ∀ j,j < n → ∃ v,cs[j]? = some v ∧ bf (fm w) (c a j) v
section
variable {P:Program} {t e:TypeId}
theorem Rd.toB {n:Nat} {α:Type} {c:α → Nat → PV} (h:Rd P t n c):RdB P t n c fun _ _=>True:=by
 intro H enc w sp held fuel cs x hx
 obtain ⟨h1,a,h2⟩:=h _ enc w sp held fuel cs x hx
 exact ⟨h1,a,trivial,h2⟩
theorem RdB.co {n:Nat} {α β:Type} {c:α → Nat → PV} {c':β → Nat → PV} {B:Nat → α → Prop} {B':Nat → β → Prop} (h:RdB P t n c B) (f:α → β) (hB:∀ b a,B b a → B' b (f a)) (hc:∀ a j,j < n → CoP (c a j) (c' (f a) j)):RdB P t n c' B':=by
 intro H enc w sp held fuel cs x hx
 obtain ⟨h1,a,h0,h2⟩:=h _ enc w sp held fuel cs x hx
 refine ⟨h1,f a,hB _ _ h0,fun j hj=>?_⟩
 obtain ⟨v,h3,h4⟩:=h2 j hj
 exact ⟨v,h3,hc a j hj _ _ h4⟩
end
section
variable {P:Program} {t e:TypeId}
theorem aca {m:Imm} {c:Nat → PV}:∀ {n:Nat} {us:List Value} {k:Nat},us.length = n → (∀ j,j < n → ∃ v,us[j]? = some v ∧ bf m (c (k + j)) v) → eq m ((List.range' k n).map c) us
 | 0,[],_,_,_=>trivial
 | n + 1,u :: us,k,hl,h=>by
  obtain ⟨v,h1,h2⟩:=h 0 (by omega)
  simp only [List.getElem?_cons_zero,Option.some.injEq] at h1
  subst h1
  refine ⟨h2,aca (n:=n) (k:=k + 1) (by simpa using hl) fun j hj=>?_⟩
  obtain ⟨v,h3,h4⟩:=h (j + 1) (by omega)
  refine ⟨v,by simpa using h3, ?_⟩
  rwa [show k + 1 + j = k + (j + 1) by omega]
 | 0,_ :: _,_,h,_=>by cases h
 | _ + 1,[],_,h,_=>by cases h
theorem a6c {H:Type} {enc:TypeId × Value → H} {W:World} {cs:Array Value} {d:DataW H} {ps:List MemPlace} {n:Nat} {α:Type} {c:α → Nat → PV} {B:Nat → α → Prop} (h:RdB P t n c B) (hd:DataW.Trod enc P W 0 (fun _=>true) true t (.agg cs) d ps) :
 ∃ a:α,B (Rows.uptoBulk d) a ∧ j5 (fm W) (.agg ((List.range' 0 n).map (c a))) (.agg cs):=by
 obtain ⟨fuel,hf⟩:=hd
 obtain ⟨hl,a,h0,ha⟩:=h _ enc W _ _ fuel _ _ hf
 refine ⟨a,h0,cs.toList,by simp,aca hl fun j hj=>?_⟩
 rw [Nat.zero_add]
 exact ha j hj
end
end Go.Hx
end
