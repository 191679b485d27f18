/- A part of the proof: Sp7 Ms3 Ms4 Ms5 Ms6 Hx21 Hx26. -/
import Derived.ChangeArms
import Derived.OpenShut
import Derived.ProofKit
import Derived.Test.YtaegkccfbmekbaaGreatRows
import Derived.WalkKit
import Derived.WideKeyArgs
import Derived.Test.YtaegkccfbmekbaaGreatNx15
import Derived.Test.YtaegkccfbmekbaaGreatNx16
import Derived.Test.YtaegkccfbmekbaaGreatNx23
import Derived.Test.YtaegkccfbmekbaaGreatNx25
set_option linter.all false
section
namespace Go.Hx
theorem aky {α:Type} [Inhabited α] {s n k':Nat} {k:Int} {cl:Bool} {c:α → Nat → PV} {l:List α} (h:k.toNat = k') (hk:k' ≤ l.length) :
 CoP (.sl (ko (dy n (some k)) none) s cl (qj (lf c l) none)) (psl s c (l.take k')):=by
 subst h;exact a6d hk
def lbd:List Row → Int → Nat
 | [],_=>0
 | r :: l,id=>if r.id < id then lbd l id + 1 else 0
theorem wt {id:Int}:∀ {l:List Row},lbd l id ≤ l.length
 | []=>Nat.le_refl _
 | r :: l=>by
  have:=wt (id:=id) (l:=l)
  unfold lbd
  split <;> simp <;> omega
theorem ahj {id:Int}:∀ {l:List Row} {i:Nat},i ≤ l.length → (∀ k,k < i → (l.getD k default).id < id) → (i < l.length → ¬ (l.getD i default).id < id) → lbd l id = i
 | [],i,h,_,_=>by simp at h;simp [lbd,h]
 | r :: l,0,_,_,h2=>by
  have:=h2 (by simp)
  simp only [List.getD_cons_zero] at this
  simp [lbd,this]
 | r :: l,i + 1,h,h1,h2=>by
  have h0:=h1 0 (by omega)
  simp only [List.getD_cons_zero] at h0
  have ih:=ahj (l:=l) (i:=i) (id:=id) (by simpa using h) (fun k hk=>by have:=h1 (k + 1) (by omega);simpa using this) (fun hi=>by have:=h2 (by simpa using hi);simpa using this)
  simp [lbd,h0,ih]
theorem aib {id:Int}:∀ {l:List Row} {k:Nat},k < lbd l id → (l.getD k default).id < id
 | [],k,h=>by simp [lbd] at h
 | r :: l,k,h=>by
  unfold lbd at h
  split at h
  · rename_i h0
    cases k with
    | zero=>simpa using h0
    | succ k=>simpa using aib (l:=l) (k:=k) (by omega)
  · omega
theorem aio {id:Int}:∀ {l:List Row},lbd l id < l.length → ¬ (l.getD (lbd l id) default).id < id
 | [],h=>by simp at h
 | r :: l,h=>by
  unfold lbd at h ⊢
  split at h
  · rename_i h0
    rw [if_pos h0]
    simpa using aio (l:=l) (by simpa using h)
  · rename_i h0
    rw [if_neg h0]
    simpa using h0
theorem zl {l:List Row} (hs:gl l) {i j:Nat} (hij:i ≤ j) (hj:j < l.length):(l.getD i default).id ≤ (l.getD j default).id:=by
 rcases Nat.lt_or_eq_of_le hij with h | rfl
 · rw [l7 _ _ hj,l7 _ _ (by omega)]
   have:=List.pairwise_iff_getElem.1 hs i j (by omega) hj h
   omega
 · exact Int.le_refl _
theorem ahk {l:List Row} {r:Row} (hs:gl l) (hn:∀ x ∈ l,x.id ≠ r.id):dp l (lbd l r.id) r = ju r l:=by
 refine sg hs wt (fun j h1 h2=>?_) ?_
 · have ha:=aio (l:=l) (id:=r.id) (by omega)
   have hb:=zl hs h1 h2
   have hc:=hn _ (by rw [l7 _ _ h2];exact List.getElem_mem h2:(l.getD j default) ∈ l)
   omega
 · by_cases h:lbd l r.id = 0
   · exact .inl h
   · have:=aib (l:=l) (id:=r.id) (k:=lbd l r.id - 1) (by omega)
     exact .inr (by omega)
def bsF (l:List Row) (id:Int):Bool:=decide (lbd l id < l.length) && decide ((l.getD (lbd l id) default).id = id)
def qq (a b:Int):Int:=if a < b then -1 else if b < a then 1 else 0
theorem at8 (i j:Nat):((i:Int) + j).fdiv (2 ^ (min ((1:Int).toNat) IntKind.u64.bits)) = (((i + j) / 2:Nat):Int):=by
 show ((i:Int) + j).fdiv 2 = _
 rw [Int.fdiv_eq_ediv_of_nonneg _ (by omega)]
 omega
theorem a8e {a b:Int}:qq a b < 0 ↔ a < b:=by unfold qq;split <;> (try split) <;> omega
theorem a19 {a b:Int}:qq a b = 0 ↔ a = b:=by unfold qq;split <;> (try split) <;> omega
theorem aml {l:List Row} {id:Int} {i j:Nat} (hs:gl l) (h:i < j) (h2:j ≤ l.length) (hA:∀ k,k < i → (l.getD k default).id < id) (hB:∀ k,j ≤ k → k < l.length → id ≤ (l.getD k default).id)
 (hc:qq (l.getD (((i + j) / 2:Nat):Int).toNat default).id id < 0):(i + j) / 2 + 1 ≤ j ∧ j ≤ l.length ∧ (∀ k,k < (i + j) / 2 + 1 → (l.getD k default).id < id) ∧ (∀ k,j ≤ k → k < l.length → id ≤ (l.getD k default).id):=by
 rw [a8e,Int.toNat_natCast] at hc
 refine ⟨by omega,h2,fun k hk=>?_,hB⟩
 have:=zl hs (i:=k) (j:=(i + j) / 2) (by omega) (by omega)
 omega
theorem ame {l:List Row} {id:Int} {i j:Nat} (hs:gl l) (h:i < j) (h2:j ≤ l.length) (hA:∀ k,k < i → (l.getD k default).id < id) (hB:∀ k,j ≤ k → k < l.length → id ≤ (l.getD k default).id)
 (hc:¬ qq (l.getD (((i + j) / 2:Nat):Int).toNat default).id id < 0):i ≤ (i + j) / 2 ∧ (i + j) / 2 ≤ l.length ∧ (∀ k,k < i → (l.getD k default).id < id) ∧ (∀ k,(i + j) / 2 ≤ k → k < l.length → id ≤ (l.getD k default).id):=by
 rw [a8e,Int.toNat_natCast] at hc
 refine ⟨by omega,by omega,hA,fun k hk hl=>?_⟩
 have:=zl hs (i:=(i + j) / 2) (j:=k) hk hl
 omega
theorem aou {l:List Row} {k:Nat} {r:Row} (h:k ≤ l.length) (i j:Nat):CoP (vv k (lf Row.c l) (lf Row.c [r]) i j) (lf Row.c (dp l k r) i j):=by
 refine CoP.of_eq ?_
 unfold vv lf
 simp only [List.getD]
 rw [a0l h]
 by_cases h1:i < k
 · simp [h1]
 · by_cases h2:i = k
   · subst h2;simp
   · simp [h1,h2]
end Go.Hx
end
section
namespace Go.Hx
abbrev Lm:Nat:=68719476736
abbrev b8 (t:Tbl):List Fd:=a3c (prs t.rows) t.attrs.length
abbrev mst (t:Tbl) (fds add rem:List Fd):MSt:=⟨t,d8 t.rows,fds,add,rem⟩
abbrev oz (t:Tbl) (fds:List Fd):MSt:=mst t (b8 t) (en (b8 t) fds) (en fds (b8 t))
theorem TOk.sorted {t:Tbl} (h:TOk t):gl t.rows:=fw h.rs
theorem eq {t:Tbl} (hn:t.attrs.length ≤ 8):(b8 t).length ≤ 68719476736:=by
 have h1:=acd (prs t.rows) t.attrs.length (cu t.attrs.length).length 0
 have h2:(cu t.attrs.length).length ≤ 4294967296:=ny _
 have h3:(cu t.attrs.length).length * t.attrs.length ≤ 4294967296 * 8:=Nat.mul_le_mul h2 hn
 show (jl _ _ _ 0).length ≤ _
 omega
theorem o5 (a b:List Fd):(en a b).length ≤ a.length:=List.length_filter_le _ _
theorem a18 {l:List Row} (h:l.length ≤ 1000) (s:AS):-1000000 ≤ d8 l s ∧ d8 l s ≤ 1000000:=by
 have h1:=ae2 l s
 have h2:=anf l s
 have h3:l.length * l.length ≤ 1000000:=Nat.mul_le_mul h h
 have h4:(l.length:Int) * l.length ≤ 1000000:=by
  have h5:((l.length * l.length:Nat):Int) ≤ ((1000000:Nat):Int):=Int.ofNat_le.2 h3
  rw [Int.natCast_mul] at h5
  exact h5
 omega
theorem aqj {t:Tbl} {r:Row} (h:bz t r = 0):∃ i,i < (ef t r).rows.length ∧ (ef t r).rows.getD i default = r ∧ (ef t r).rows.eraseIdx i = t.rows:=by
 obtain ⟨h1,h2,h3,h4,h5,h6⟩:=a2k h
 have hT:=dv.1 h1
 have e:=ahk (r:=r) hT.sorted (y6 h5)
 rw [j9 h]
 have hk:lbd t.rows r.id ≤ t.rows.length:=wt
 refine ⟨lbd t.rows r.id, ?_, ?_, ?_⟩
 · show _ < (ju r t.rows).length;rw [yl];omega
 · show (ju r t.rows).getD _ default = r;rw [← e];exact xc hk
 · show (ju r t.rows).eraseIdx _ = t.rows
   rw [← e]
   unfold dp
   rw [List.eraseIdx_append_of_length_le (by rw [List.length_take];omega),List.length_take,show lbd t.rows r.id - min (lbd t.rows r.id) t.rows.length = 0 by omega]
   exact List.take_append_drop _ _
theorem ael {t:Tbl} {r:Row} (h:bz t r = 0):ez (ef t r).rows r 1 (d8 t.rows) = d8 (ef t r).rows:=by
 obtain ⟨i,h1,h2,h3⟩:=aqj h
 have hV:=a52 h
 have:=adn hV.wid hV.sorted h1
 rw [h2,h3] at this
 exact this
theorem a56 {l:List Row} {id:Int} (h:0 ≤ ax l id):(max (ax l id) 0).toNat = (ax l id).toNat ∧ (ax l id).toNat < l.length:=by
 refine ⟨by omega,(al7 h).1⟩
theorem ano {t:Tbl} {id:Int} (h:dm t id = 0):ez t.rows (t.rows.getD (ax t.rows id).toNat default) (-1) (d8 t.rows) = d8 (my t id).rows:=by
 obtain ⟨h1,h2⟩:=a36 h
 have hT:=dv.1 h1
 rw [o0 h]
 exact aem hT.wid hT.sorted (a56 h2).2
theorem ao8 {t:Tbl} {id a:Int} {v:Val} (h:ct t id a v = 0):ez t.rows (t.rows.getD (ax t.rows id).toNat default) (-1) (d8 t.rows) = d8 (t.rows.eraseIdx (ax t.rows id).toNat):=by
 obtain ⟨h1,h2,_⟩:=a0z h
 have hT:=dv.1 h1
 exact aem hT.wid hT.sorted (a56 h2).2
theorem aci {t:Tbl} {id a:Int} {v:Val} (h:ct t id a v = 0):(chT t id a v).rows.length = t.rows.length:=by
 rw [qx h];exact yf
theorem ap2 {t:Tbl} {id a:Int} {v:Val} (h:ct t id a v = 0) :
 ez (chT t id a v).rows ((chT t id a v).rows.getD (ax t.rows id).toNat default) 1 (d8 (t.rows.eraseIdx (ax t.rows id).toNat)) = d8 (chT t id a v).rows:=by
 obtain ⟨h1,h2,_⟩:=a0z h
 have hV:=a90 h
 have hi:(ax t.rows id).toNat < (chT t id a v).rows.length:=by rw [aci h];exact (a56 h2).2
 have:=adn hV.wid hV.sorted hi
 rw [show (chT t id a v).rows.eraseIdx (ax t.rows id).toNat = t.rows.eraseIdx (ax t.rows id).toNat by
  rw [qx h]
  show (mf _ _ _ _).eraseIdx _ = _
  unfold mf
  rw [List.eraseIdx_set_eq]] at this
 exact this
def yi (x:MSt) (r:Row):MSt:=if ew x.t r = 0 then oz (kr x.t r) x.fds else x
def aar (x:MSt) (id:Int):MSt:=if dm x.t id = 0 then oz (my x.t id) x.fds else x
def mCh (x:MSt) (id a:Int) (v:Val):MSt:=if ct x.t id a v = 0 then oz (chT x.t id a v) x.fds else x
def yn (x:MSt) (o:MOp):MSt:=if opE x.t o = 0 then oz (opT x.t o) x.fds else x
theorem arc {x:MSt} {r:Row} {e:Int} (h:bz x.t r = e) (he:¬ e = 0):yi x r = x ∧ ew x.t r = e:=by
 have e1:ew x.t r = e:=by unfold ew;rw [if_pos (by rw [h];exact he),h]
 exact ⟨if_neg (by rw [e1];exact he),e1⟩
theorem asu {x:MSt} {r:Row} (h:bz x.t r = 0) (h2:200 ≤ x.t.rows.length):yi x r = x ∧ ew x.t r = 3:=by
 have e1:ew x.t r = 3:=by unfold ew;rw [if_neg (by simpa using h),if_pos h2]
 exact ⟨if_neg (by rw [e1];decide),e1⟩
theorem aq1 {x:MSt} {r:Row} (h:bz x.t r = 0) (h2:¬ 200 ≤ x.t.rows.length):yi x r = oz (ef x.t r) x.fds ∧ ew x.t r = 0:=by
 have e1:ew x.t r = 0:=by unfold ew;rw [if_neg (by simpa using h),if_neg h2]
 refine ⟨?_,e1⟩
 unfold yi
 rw [if_pos e1,show kr x.t r = ef x.t r by unfold kr;rw [if_neg (by simpa using h),if_neg h2]]
theorem adx {t:Tbl} {r:Row} (h:ew t r = 0):bz t r = 0 ∧ ¬ 200 ≤ t.rows.length ∧ kr t r = ef t r:=by
 unfold ew at h
 split at h
 · rename_i h1;exact absurd h h1
 · rename_i h1
   split at h
   · cases h
   · rename_i h2
     refine ⟨by simpa using h1,h2, ?_⟩
     unfold kr;rw [if_neg h1,if_neg h2]
theorem amp {t:Tbl} {o:MOp} (h:opE t o = 0) (h2:t.rows.length ≤ 200):TOk (opT t o) ∧ (opT t o).attrs = t.attrs ∧ (opT t o).name = t.name ∧ (opT t o).rows.length ≤ 200:=by
 by_cases k2:o.kind.toNat % 4 = 2
 · have hh:=op2 (t:=t) (o:=o) k2
   rw [hh.1] at h
   rw [hh.2,if_pos h]
   refine ⟨aam h,by rw [o0 h],by rw [o0 h], ?_⟩
   rw [o0 h]
   exact Nat.le_trans (List.eraseIdx_sublist _ _).length_le h2
 · by_cases k3:o.kind.toNat % 4 = 3
   · have hh:=op3 (t:=t) (o:=o) k2 k3
     rw [hh.1] at h
     rw [hh.2,if_pos h]
     refine ⟨a90 h,by rw [qx h],by rw [qx h], ?_⟩
     rw [aci h];exact h2
   · have hh:=op0 (t:=t) (o:=o) k2 k3
     rw [hh.1] at h
     obtain ⟨g1,g2,g3⟩:=adx h
     rw [hh.2,g3]
     refine ⟨a52 g1,by rw [j9 g1],by rw [j9 g1], ?_⟩
     rw [j9 g1]
     show (ju _ _).length ≤ 200
     rw [yl];omega
end Go.Hx
end
section
namespace Go.Hx
theorem ams (K:List AS) (x k:AS):pK (K ++ [k]) x = (pK K x && !decide (sub x k)):=by unfold pK;simp
theorem amo {B:Bool} {K:List AS} {x k:AS}:(bif (B && pK K x) then !decide (fl .andNot .u32 (asI x) (asI k) = 0) else false) = (B && pK (K ++ [k]) x):=by
 rw [ams,← Bool.and_assoc,show decide (fl .andNot .u32 (asI x) (asI k) = 0) = decide (sub x k) from decide_eq_decide.2 gd]
 cases B && pK K x <;> rfl
theorem amm {B:Bool} {K:List AS} {x k:AS} (h:(B && pK K x) = false):false = (B && pK (K ++ [k]) x):=by
 rw [ams,← Bool.and_assoc,h];rfl
def mw (ps:List AS) (n i:Nat):List AS:=gi (pK ps) ((cu n).take i)
theorem alt (ps:List AS) (n i:Nat):(mw ps n i).length ≤ i:=Nat.le_trans (mh _ _).length_le (by rw [List.length_take];omega)
theorem alk {ps:List AS} {n i:Nat} (h:(cu n).length ≤ i):mw ps n i = jk ps n:=by unfold mw jk;rw [List.take_of_length_le h]
theorem a48 {ps:List AS} {n i:Nat} (hi:i < (cu n).length) (h:((!((mw ps n i).any fun y=>decide (sub y ((cu n).getD i default)))) && pK ps ((cu n).getD i default)) = true):mw ps n (i + 1) = mw ps n i ++ [(cu n).getD i default]:=by
 unfold mw at *
 rw [c7 hi,md]
 unfold mr
 rw [if_pos (by rw [Bool.and_comm];exact h)]
theorem a49 {ps:List AS} {n i:Nat} (hi:i < (cu n).length) (h:((!((mw ps n i).any fun y=>decide (sub y ((cu n).getD i default)))) && pK ps ((cu n).getD i default)) = false):mw ps n (i + 1) = mw ps n i:=by
 unfold mw at *
 rw [c7 hi,md]
 unfold mr
 rw [if_neg (by rw [Bool.and_comm,h];decide)]
theorem wh {x:MSt} {o:MOp} (h:o.kind.toNat % 4 = 2):aar x (ia o) = yn x o ∧ dm x.t (ia o) = opE x.t o:=by
 have hh:=op2 (t:=x.t) h
 refine ⟨?_,hh.1.symm⟩
 unfold aar yn
 rw [hh.1,hh.2]
 split
 · rfl
 · rfl
theorem xf {x:MSt} {o:MOp} (h2:¬ o.kind.toNat % 4 = 2) (h:o.kind.toNat % 4 = 3):mCh x (ia o) (ot x.t.attrs.length o) (mj o) = yn x o ∧ ct x.t (ia o) (ot x.t.attrs.length o) (mj o) = opE x.t o:=by
 have hh:=op3 (t:=x.t) h2 h
 refine ⟨?_,hh.1.symm⟩
 unfold mCh yn
 rw [hh.1,hh.2]
 split
 · rfl
 · rfl
theorem xi {x:MSt} {o:MOp} (h2:¬ o.kind.toNat % 4 = 2) (h:¬ o.kind.toNat % 4 = 3):yi x (jh x.t.attrs.length o) = yn x o ∧ ew x.t (jh x.t.attrs.length o) = opE x.t o:=by
 have hh:=op0 (t:=x.t) h2 h
 refine ⟨?_,hh.1.symm⟩
 unfold yi yn
 rw [hh.1,hh.2]
theorem apf:mpF (d8 []) = fun _=>none:=by
 refine (a6t (fun s=>?_) fun m _=>rfl).symm
 rw [if_neg]
 show ¬ ¬ d8 [] s = 0
 exact fun h=>h rfl
theorem at6:CoO (.mp (.int .u32) 0 (fun _=>none)) (acj (d8 [])):=by
 show CoO _ (.mp (.int .u32) 4294967296 (mpF (d8 [])))
 rw [apf]
 exact ⟨rfl,Nat.zero_le _,fun _=>trivial⟩
def asr (s:ByteArray) (l:List ByteArray):MSt:=mst (dx s l) (b8 (dx s l)) [] []
end Go.Hx
end
section
namespace Go.Hx
theorem aoq {t:Tbl} (ht:TOk t) (hnr:t.rows.length ≤ 200):qp t = 0:=by
 unfold qp
 rw [if_neg (by rw [dv.2 ht];decide),if_neg (by omega)]
theorem ap9 {t:Tbl} (ht:TOk t) (hnr:t.rows.length ≤ 200):a4k t = mn t.rows:=if_pos (aoq ht hnr)
theorem ap4 {t:Tbl} (ht:TOk t) (hnr:t.rows.length ≤ 200) (hna:t.attrs.length ≤ 8):nj t = 0:=by
 unfold nj
 have h:=dv.2 ht
 simp only [h]
 first | (rw [if_neg (by decide),if_neg (by omega)];done) | simp;omega
theorem ai8 {t:Tbl} (ht:TOk t) (hnr:t.rows.length ≤ 200) (hna:t.attrs.length ≤ 8):a2o t = b8 t:=by
 unfold a2o
 rw [if_pos (ap4 ht hnr hna)]
 exact (ail ht.wid hna).symm
theorem amz {t:Tbl} (ht:TOk t) (hna:t.attrs.length ≤ 8):a7k t.rows t.attrs.length = jk (prs t.rows) t.attrs.length:=(ahs ht.wid hna).symm
end Go.Hx
end
section
namespace Go.Hx
set_option maxRecDepth 100000
structure Scr where
 n:UInt8
 ops:List MOp
instance:Inhabited Scr:=⟨⟨0,[]⟩⟩
def Scr.c (x:Scr):Nat → PV
 | 0=>.raw (.int .u8 (x.n.toNat:Int))
 | 1=>avb x.ops
 | _=>.any
abbrev Scr.pc (x:Scr):PC:=.agg [x.c 0,x.c 1]
abbrev sR:ByteArray:=⟨#[114]⟩
def nmS (x:Scr):List ByteArray:=nq.take (x.n.toNat % 5)
theorem a65 (x:Scr):(nmS x).length ≤ 4:=by
 unfold nmS
 rw [List.length_take]
 omega
theorem arh:∀ k,k < 5 → fe sR (nq.take k) = 0:=by decide
theorem ai7 (x:Scr):fe sR (nmS x) = 0:=arh _ (by omega)
theorem aid {b:Bool} {x:Fd} {f:Nat → Nat → PV} (h0:CoP (f 0 0) (x.c 0)) (h1:CoP (f 0 1) (x.c 1)):CoP (.sl 1 2 b f) (fdl [x]) :=
 CoP.sl rfl (.inl rfl) (fun h=>by cases h) fun i j hi hj=>by
  obtain rfl:i = 0:=by omega
  rcases (by omega:j = 0 ∨ j = 1) with rfl | rfl
  · exact h0
  · exact h1
theorem atc {b:Bool} {x y:Fd} {f:Nat → Nat → PV} (h0:CoP (f 0 0) (x.c 0)) (h1:CoP (f 0 1) (x.c 1)) (h2:CoP (f 1 0) (y.c 0)) (h3:CoP (f 1 1) (y.c 1)):CoP (.sl 2 2 b f) (fdl [x,y]) :=
 CoP.sl rfl (.inl rfl) (fun h=>by cases h) fun i j hi hj=>by
  rcases (by omega:i = 0 ∨ i = 1) with rfl | rfl <;> rcases (by omega:j = 0 ∨ j = 1) with rfl | rfl
  · exact h0
  · exact h1
  · exact h2
  · exact h3
theorem am7 {b:Bool} {x:AS} {f:Nat → Nat → PV} (h0:CoP (f 0 0) (asC x)):CoP (.sl 1 1 b f) (asl [x]) :=
 CoP.sl rfl (.inl rfl) (fun h=>by cases h) fun i j hi hj=>by
  obtain rfl:i = 0:=by omega
  obtain rfl:j = 0:=by omega
  exact h0
def tA0:Tbl:=dx sR [⟨#[97]⟩,⟨#[98]⟩]
def rA1:Row:=⟨1,sk [1,1]⟩
def rA2:Row:=⟨2,sk [1,2]⟩
def tA1:Tbl:=ef tA0 rA1
def tA2:Tbl:=ef tA1 rA2
theorem avo:fe sR [⟨#[97]⟩,⟨#[98]⟩] = 0:=by decide
theorem aqv:ew tA0 rA1 = 0:=by decide
theorem as2:ew tA1 rA2 = 0:=by decide
theorem at3:TOk tA0:=dv.1 (by decide)
theorem aqc:TOk tA1:=dv.1 (by decide)
theorem au3:yi (mst tA0 (b8 tA0) [] []) rA1 = oz tA1 (b8 tA0):=if_pos aqv
theorem auh:yi (oz tA1 (b8 tA0)) rA2 = oz tA2 (b8 tA1):=if_pos as2
theorem amj:(b8 tA0).length ≤ 68719476736:=eq (by decide)
theorem a95:(b8 tA1).length ≤ 68719476736:=eq (by decide)
theorem ag4:(b8 tA2).length ≤ 68719476736:=eq (by decide)
theorem au6:(en (b8 tA1) (b8 tA0)).length ≤ 68719476736:=Nat.le_trans (o5 _ _) a95
theorem au9:(en (b8 tA0) (b8 tA1)).length ≤ 68719476736:=Nat.le_trans (o5 _ _) amj
theorem amc:(en (b8 tA2) (b8 tA1)).length ≤ 68719476736:=Nat.le_trans (o5 _ _) ag4
theorem amn:(en (b8 tA1) (b8 tA2)).length ≤ 68719476736:=Nat.le_trans (o5 _ _) a95
theorem atg:en (b8 tA2) (b8 tA1) = []:=by decide
theorem avv:en (b8 tA1) (b8 tA2) = [⟨0,2⟩]:=by decide
theorem akl:b8 tA1 = [⟨0,1⟩,⟨0,2⟩]:=by decide
theorem ari:jk (prs tA1.rows) tA1.attrs.length = [0]:=by decide
theorem alq:b8 tA2 = [⟨0,1⟩]:=by decide
theorem as6:jk (prs tA2.rows) tA2.attrs.length = [2]:=by decide
end Go.Hx
end
section
namespace Go.Hx
open Go.RowKit Go.ChangeShapes Go.WideShapes Go.ChangeAt
def Rd (P:Program) (t:TypeId) (n:Nat) {α:Type} (c:α → Nat → PV):Prop :=
 ∀ (H:Type) (enc:TypeId × Value → H) (w:World) (sp:Nat → Bool) (held:Bool) (fuel:Nat) (cs:List Value) (x:DataW H × List MemPlace),DataW.trod enc P w 0 sp held fuel t cs = some x →
  cs.length = n ∧ ∃ a:α,∀ j,j < n → ∃ v,cs[j]? = some v ∧ bf (fp w) (c a j) v
section
variable {P:Program} {t e:TypeId}
def awt (k:IntKind) (z:Int):Nat → PV:=fun _=>.raw (.int k z)
def awf (b:Bool):Nat → PV:=fun _=>.raw (.bool b)
def aue (s:ByteArray):Nat → PV:=fun _=>.raw (.string s)
theorem aj8 (ht:P.underlying t = some .string):Rd P t 1 aue:=by
 intro H enc w sp held fuel cs x h
 obtain ⟨n,rfl,_⟩:=DataW.trod_string ht h
 refine ⟨rfl,n,fun j hj=>?_⟩
 obtain rfl:j = 0:=by omega
 exact ⟨_,rfl,rfl,rfl⟩
def u8P (u:UInt8):Nat → PV:=fun _=>.raw (.int .u8 (u.toNat:Int))
theorem atp (ht:P.underlying t = some (.int .u8)):Rd P t 1 u8P:=by
 intro H enc w sp held fuel cs x h
 obtain ⟨n,rfl,_,hw⟩:=DataW.trod_int ht h
 have hx:0 ≤ n ∧ n ≤ 255:=by simpa [Lit.wf,IntKind.min,IntKind.max,IntKind.signed,IntKind.bits] using hw
 refine ⟨rfl,UInt8.ofNat n.toNat,fun j hj=>?_⟩
 obtain rfl:j = 0:=by omega
 refine ⟨_,rfl, ?_,rfl⟩
 have:(UInt8.ofNat n.toNat).toNat = n.toNat:=by
  rw [UInt8.toNat_ofNat']
  omega
 rw [this]
 congr 1
 omega
theorem Rd.co {n:Nat} {α β:Type} {c:α → Nat → PV} {c':β → Nat → PV} (h:Rd P t n c) (f:α → β) (hc:∀ a j,j < n → CoP (c a j) (c' (f a) j)):Rd P t n c':=by
 intro H enc w sp held fuel cs x hx
 obtain ⟨h1,a,h2⟩:=h _ enc w sp held fuel cs x hx
 refine ⟨h1,f a,fun j hj=>?_⟩
 obtain ⟨v,h3,h4⟩:=h2 j hj
 exact ⟨v,h3,hc a j hj _ _ h4⟩
def ale {α:Type} [Inhabited α] (s:Nat) (c:α → Nat → PV) (l:List α):Nat → PV:=fun _=>psl s c l
theorem a2i {s:Nat} {α:Type} [Inhabited α] {c:α → Nat → PV} (ht:P.underlying t = some (.slice e)) (hc:P.cellsOf e = s) (hs:0 < s) (h:Rd P e s c):Rd P t 1 (ale s c):=by
 classical
 intro H enc w sp held fuel cs x hx
 rcases DataW.trod_slice ht hx with ⟨rfl,_⟩ | ⟨a,len,cap,elems,rest,n,rfl,rfl,_,hb,hl,hm,hlen,hel,_,_⟩
 · refine ⟨rfl,[],fun j hj=>?_⟩
   obtain rfl:j = 0:=by omega
   exact ⟨_,rfl,none,0,rfl,Nat.le_refl _,Nat.zero_le _,(fun hh=>by cases hh),fun hh=>absurd hh (Nat.lt_irrefl 0)⟩
 · have each:∀ i,i < len → ∃ q:α,∀ j,j < s → ∃ v,w.cell? (a.add (i * s + j)) = some v ∧ bf (fp w) (c q j) v:=by
    intro i hi
    have h1:=hel i hi
    rw [hc] at h1
    rw [List.getElem?_eq_getElem (by omega)] at h1
    obtain ⟨cs',h2,h3⟩:=Option.bind_eq_some_iff.1 h1
    obtain ⟨_,h4,h5⟩:=World.cells?_some h2
    obtain ⟨_,q,h6⟩:=h _ enc w sp held n cs' _ h3
    refine ⟨q,fun j hj=>?_⟩
    obtain ⟨v,h7,h8⟩:=h6 j hj
    refine ⟨v, ?_,h8⟩
    have:=h5 j hj
    rw [h7] at this
    rw [← this]
    congr 1
    unfold Addr.add
    by_cases hj0:j = 0
    · subst hj0
      simp
    · by_cases hi0:i * s = 0
      · simp [hi0,hj0]
      · have:¬ (i * s + j = 0):=by omega
        simp only [hj0,hi0,this,if_false]
        congr 1
        omega
   refine ⟨rfl,(List.range len).map fun i=>if hi:i < len then Classical.choose (each i hi) else default,fun j hj=>?_⟩
   obtain rfl:j = 0:=by omega
   refine ⟨_,rfl,some a,cap,by simp,by simpa using hl,hm,(fun hh=>by cases hh),fun hn=>?_⟩
   have hn:0 < len:=by simpa using hn
   have hspot:a.spot = none:=by
    obtain ⟨q,hq⟩:=each 0 hn
    obtain ⟨v,hv,_⟩:=hq 0 hs
    have:a.add (0 * s + 0) = a:=by simp [Addr.add]
    rw [this] at hv
    unfold World.cell? at hv
    split at hv
    · split at hv
      · cases hv
      · rename_i hsp
        simpa using hsp
    · cases hv
   refine ⟨a.block,a.off, ?_,fun i j hi hj=>?_⟩
   · obtain ⟨b,o,spo⟩:=a
     simp only at hspot
     subst hspot
     rfl
   · have hi:i < len:=by simpa using hi
     have hch:=Classical.choose_spec (each i hi)
     obtain ⟨v,hv,hr⟩:=hch j hj
     refine ⟨v, ?_, ?_⟩
     · unfold World.cell? at hv
       have hblk:(a.add (i * s + j)).block = a.block:=by unfold Addr.add;split <;> rfl
       have hoff:(a.add (i * s + j)).off = a.off + (i * s + j):=by
        unfold Addr.add
        split
        · rename_i h0;rw [h0];rfl
        · rfl
       rw [hblk,hoff] at hv
       unfold jf fp
       split at hv
       · rename_i hb'
         rw [hb']
         split at hv
         · cases hv
         · exact hv
       · cases hv
     · have:lf c ((List.range len).map fun i=>if hi:i < len then Classical.choose (each i hi) else default) i j = c (Classical.choose (each i hi)) j:=by
        unfold lf
        simp [List.getD,hi]
       rw [this]
       exact hr
theorem a7q {H:Type} {enc:TypeId × Value → H} {w:World} {sp:Nat → Bool} {held:Bool} {fuel:Nat} {cs:List Value} {x:DataW H × List MemPlace} {fs:Array Field} (ht:P.underlying t = some (.struct fs)) (h:DataW.trod enc P w 0 sp held fuel t cs = some x) :
 cs.length = P.cellsOf t ∧ ∃ n,∀ (i:Nat) (f:Field),fs[i]? = some f → ∃ y,DataW.trod enc P w 0 sp held n f.type ((cs.drop f.offset).take (P.cellsOf f.type)) = some y:=by
 obtain ⟨xs,n,_,_,h1,h2,h3⟩:=DataW.trod_struct ht h
 refine ⟨h1,n,fun i f hf=>?_⟩
 have:=h3 i f hf
 rw [this]
 have hi:i < xs.length:=by rw [h2];exact (Array.getElem?_eq_some_iff.1 hf).1
 exact ⟨_,List.getElem?_eq_getElem hi⟩
theorem qc {H:Type} {enc:TypeId × Value → H} {w:World} {sp:Nat → Bool} {held:Bool} {n off s:Nat} {ft:TypeId} {cs:List Value} {y:DataW H × List MemPlace} {α:Type} {c:α → Nat → PV} (h:Rd P ft s c) (hy:DataW.trod enc P w 0 sp held n ft ((cs.drop off).take (P.cellsOf ft)) = some y) :
 ∃ a:α,∀ j,j < s → ∃ v,cs[off + j]? = some v ∧ bf (fp w) (c a j) v:=by
 obtain ⟨h1,a,h2⟩:=h _ enc w sp held n _ y hy
 refine ⟨a,fun j hj=>?_⟩
 obtain ⟨v,h3,h4⟩:=h2 j hj
 refine ⟨v, ?_,h4⟩
 rw [List.getElem?_take] at h3
 split at h3
 · rwa [List.getElem?_drop] at h3
 · cases h3
end
theorem a8p {W W':World} (hb:Below W.heap.size W W') (may:MemPlace → Prop):W.keptBut W' may:=by
 refine ⟨hb.os,hb.output,fun i hi=>?_⟩
 rw [hb.block i hi]
 cases W.heap[i]? with
 | none=>exact rfl
 | some o=>cases o <;> first | exact ⟨rfl,rfl,rfl,fun _ _=>rfl⟩ | exact .inr ⟨rfl,rfl⟩ | exact rfl
theorem a8v {W W':World} (hb:Below W.heap.size W W') (p:MemPlace) (hp:p.block < W.heap.size):W.sameAt W' p:=by
 cases p with
 | cell b off=>show W'.cell? _ = W.cell? _;unfold World.cell?;rw [hb.block b hp]
 | map b=>exact hb.block b hp
section
variable {H:Type} {enc:TypeId × Value → H} {P:Program}
theorem yx (hl:laidOutB P = true) {W W':World} {sp':Nat → Bool}:∀ {ts:List TypeId} {vs:List Value} {ds:List (DataW H)} {ps:List MemPlace},(∀ t ∈ ts,P.readableRec t = true ∧ t < P.types.size) → DataW.TrodAll enc P W 0 (fun _=>true) true ts vs ds ps →
 (∀ p ∈ ps,W.sameAt W' p) → (∀ p ∈ ps,sp' p.block = true) → DataW.TrodAll enc P W' 0 sp' true ts vs ds ps
 | [],[],[],ps,_,h,_,_=>h
 | t :: ts,v :: vs,d :: ds,ps,ht,⟨p,q,h1,h2,e⟩,hs,hsp=>by
  subst e
  refine ⟨p,q,WideElems.Trod_stays hl (ht t (by simp)).1 (ht t (by simp)).2 h1 (fun z hz=>hs z (by simp [hz])) (fun z hz=>hsp z (by simp [hz])), ?_,rfl⟩
  exact yx hl (fun t ht'=>ht t (by simp [ht'])) h2 (fun z hz=>hs z (by simp [hz])) (fun z hz=>hsp z (by simp [hz]))
 | [],_ :: _,_,_,_,h,_,_=>h.elim
 | [],[],_ :: _,_,_,h,_,_=>h.elim
 | _ :: _,[],_,_,_,h,_,_=>h.elim
 | _ :: _,_ :: _,[],_,_,h,_,_=>h.elim
theorem y7 {f:Func} {s:ChangeSpec} {W W':World} {args:Array Value} {ds:List (DataW H)} {before:List MemPlace} {tb:TypeId} (hl:laidOutB P = true) (hpar:∀ t ∈ f.params.toList,P.readableRec t = true ∧ t < P.types.size)
 (hres:f.resultTypes = #[tb]) (htb:P.underlying tb = some .bool) (hv:s.vars = []) (hfn:s.fn H ds = { results:=[.lit (.bool true)],args:=ds })
 (hW:DataW.Whole enc P f.params.toList s.vars false W args.toList ds [] before) (hb:Below W.heap.size W W'):s.post enc P f false true false false W args (.bool true) W':=by
 have hW':=hW
 have hlt:∀ p ∈ before,p.block < W.heap.size:=fun p hp=>hW.lt p hp
 obtain ⟨p,q,hA,hV,rfl,hfz,hnd⟩:=hW
 rw [hv] at hV
 obtain ⟨_,rfl⟩:=trodVars_none hV
 have hfn':s.fn H (ds ++ []) = { results:=[.lit (.bool true)],args:=ds }:=by rw [List.append_nil];exact hfn
 have hargs:∀ sp:Nat → Bool,(∀ z ∈ p ++ [],sp z.block = true) → DataW.TrodAll enc P W' 0 sp true f.params.toList args.toList (s.fn H (ds ++ [])).args p:=fun sp hsp=>by
  rw [hfn']
  exact yx hl hpar hA (fun z hz=>a8v hb z (hlt z (by simpa using hz))) (fun z hz=>hsp z (by simpa using hz))
 have hrs:∀ (b:Nat) (sp:Nat → Bool) (hd:Bool),DataW.TrodAll enc P W' b sp hd f.resultTypes.toList ((Value.bool true).resultList f.resultTypes.size) (s.fn H (ds ++ [])).results []:=fun b sp hd=>by
  rw [hfn',hres]
  exact trodAll_cons_mk (shut_bool htb _) trodAll_mk0
 have hok:∀ (j:Nat) (t:TypeId) (r:Value),f.resultTypes[j]? = some t → ((Value.bool true).resultList f.resultTypes.size)[j]? = some r → Value.okWide P W' .any 0 t r:=ok_one hres rfl (okWide_bool_mk htb _)
 have hvars:∀ sp:Nat → Bool,(∀ z ∈ p ++ [],sp z.block = true) → DataW.TrodVars enc P W' sp s.vars (s.fn H (ds ++ [])).vars []:=fun sp _=>by
  rw [hfn',hv];exact rfl
 have hold:∀ z ∈ p ++ [],(fun b=>decide (b < W.heap.size)) z.block = true:=fun z hz=>by simpa using hlt z hz
 refine ⟨ds,[],p ++ [],[],p,[],hW',hrs _ _ _,hargs _ hold,hvars _ hold,World.keptBut_mono (fun z hz=>⟨hz, ?_⟩) (a8p hb (· ∈ p ++ [])),fun _=>?_⟩
 · exact Or.inr (by simpa using hz)
 · refine ⟨hok,_,_,([] ++ p) ++ [],⟨[] ++ p,[],trodAll_append (hargs _ (fun _ _=>rfl)) (hrs _ _ _),hvars _ (fun _ _=>rfl),rfl, ?_, ?_⟩, ?_⟩
   · intro b off hp
     have hp':MemPlace.cell b off ∈ p ++ []:=by simpa using hp
     have:=hfz b off hp'
     unfold World.frozen? at this ⊢
     rw [hb.block b (hlt _ hp')]
     exact this
   · intro ha;cases ha
   · intro z hz _
     simpa using hz
end
theorem abr {P:Program} {W:World} {r:Reach} {b:Nat} {t e:TypeId} {v:Value} (ht:P.underlying t = some (.slice e)) (h:Value.okWide P W r b t v):v.cells.toList = [v]:=by
 unfold Value.okWide at h
 rw [ht] at h
 unfold Cell.okWide at h
 rw [ht] at h
 cases v <;> first | rfl | (simp [Cell.ok,ht] at h)
theorem aix {H:Type} {enc:TypeId × Value → H} {P:Program} {W:World} {t:TypeId} {v:Value} {d:DataW H} {ps:List MemPlace} {α:Type} {c:α → Nat → PV} (h:Rd P t 1 c) (hc:v.cells.toList = [v]) (hd:DataW.Trod enc P W 0 (fun _=>true) true t v d ps):∃ a:α,bf (fp W) (c a 0) v:=by
 obtain ⟨fuel,hf⟩:=hd
 obtain ⟨_,a,ha⟩:=h _ enc W _ _ fuel _ _ hf
 obtain ⟨u,hu,hr⟩:=ha 0 (by omega)
 rw [hc] at hu
 simp only [List.getElem?_cons_zero,Option.some.injEq] at hu
 subst hu
 exact ⟨a,hr⟩
theorem v2 {P:Program} {f:FuncId} {args:List PC} {us:List Value} {W:World} {R:Ending → World → Prop} (ht:oq (fp W)) (h:ak P f args (av [.one (.raw (.bool true))])) (hr:ck (fp W) args us) (hR:∀ W',Below W.heap.size W W' → R (.returned (.bool true)) W'):Calls P f us.toArray W R:=by
 refine (h W (fp W) us ht (fun _ _ hh=>hh) hr).mono ?_
 rintro e w' ⟨v,imm',rfl,hv,_,_,hb⟩
 obtain ⟨rfl,_⟩:=hv
 exact hR w' hb
end Go.Hx
end
section
namespace Go.Hx
open Go.Proofs Go.Proofs.YtaegkccfbmekbaaGreat
open Go.RowKit Go.ChangeShapes Go.WideShapes Go.ChangeAt
section
variable {H:Type}
end
def RdB (P:Program) (t:TypeId) (n:Nat) {α:Type} (c:α → Nat → PV) (B:Nat → α → Prop):Prop :=
 ∀ (H:Type) (enc:TypeId × Value → H) (w:World) (sp:Nat → Bool) (held:Bool) (fuel:Nat) (cs:List Value) (x:DataW H × List MemPlace),DataW.trod enc P w 0 sp held fuel t cs = some x →
  cs.length = n ∧ ∃ a:α,B (Rows.uptoBulk x.1) a ∧ ∀ j,j < n → ∃ v,cs[j]? = some v ∧ bf (fp w) (c a j) v
section
variable {P:Program} {t e:TypeId}
theorem Rd.toB {n:Nat} {α:Type} {c:α → Nat → PV} (h:Rd P t n c):RdB P t n c fun _ _=>True:=by
 intro H enc w sp held fuel cs x hx
 obtain ⟨h1,a,h2⟩:=h _ enc w sp held fuel cs x hx
 exact ⟨h1,a,trivial,h2⟩
theorem RdB.co {n:Nat} {α β:Type} {c:α → Nat → PV} {c':β → Nat → PV} {B:Nat → α → Prop} {B':Nat → β → Prop} (h:RdB P t n c B) (f:α → β) (hB:∀ b a,B b a → B' b (f a)) (hc:∀ a j,j < n → CoP (c a j) (c' (f a) j)):RdB P t n c' B':=by
 intro H enc w sp held fuel cs x hx
 obtain ⟨h1,a,h0,h2⟩:=h _ enc w sp held fuel cs x hx
 refine ⟨h1,f a,hB _ _ h0,fun j hj=>?_⟩
 obtain ⟨v,h3,h4⟩:=h2 j hj
 exact ⟨v,h3,hc a j hj _ _ h4⟩
end
section
variable {P:Program} {t e:TypeId}
theorem a9b {m:Imm} {c:Nat → PV}:∀ {n:Nat} {us:List Value} {k:Nat},us.length = n → (∀ j,j < n → ∃ v,us[j]? = some v ∧ bf m (c (k + j)) v) → eo m ((List.range' k n).map c) us
 | 0,[],_,_,_=>trivial
 | n + 1,u :: us,k,hl,h=>by
  obtain ⟨v,h1,h2⟩:=h 0 (by omega)
  simp only [List.getElem?_cons_zero,Option.some.injEq] at h1
  subst h1
  refine ⟨h2,a9b (n:=n) (k:=k + 1) (by simpa using hl) fun j hj=>?_⟩
  obtain ⟨v,h3,h4⟩:=h (j + 1) (by omega)
  refine ⟨v,by simpa using h3, ?_⟩
  rwa [show k + 1 + j = k + (j + 1) by omega]
 | 0,_ :: _,_,h,_=>by cases h
 | _ + 1,[],_,h,_=>by cases h
theorem a74 {H:Type} {enc:TypeId × Value → H} {W:World} {cs:Array Value} {d:DataW H} {ps:List MemPlace} {n:Nat} {α:Type} {c:α → Nat → PV} {B:Nat → α → Prop} (h:RdB P t n c B) (hd:DataW.Trod enc P W 0 (fun _=>true) true t (.agg cs) d ps) :
 ∃ a:α,B (Rows.uptoBulk d) a ∧ j5 (fp W) (.agg ((List.range' 0 n).map (c a))) (.agg cs):=by
 obtain ⟨fuel,hf⟩:=hd
 obtain ⟨hl,a,h0,ha⟩:=h _ enc W _ _ fuel _ _ hf
 refine ⟨a,h0,cs.toList,by simp,a9b hl fun j hj=>?_⟩
 rw [Nat.zero_add]
 exact ha j hj
end
end Go.Hx
end
