/- A part of the proof: Hx19. -/
import Derived.Deep.AppendLies
import Derived.Laws.CopyRow
import Derived.Shelf.Spec.SlicesInsertGrow
import Derived.Test.YtdcdbghdgjlhhaaGreatOx12
set_option linter.all false
namespace Go.Hx
section
open Go.Proofs Go.Lib Go.RowKit
theorem a1t (w:World) (o:Obj) {r:Nat} (h:r < w.heap.size):(w.alloc o).heap[r]? = w.heap[r]?:=by
 show (w.heap.push o)[r]? = _
 rw [Array.getElem?_push_lt h,Array.getElem?_eq_getElem h]
theorem mf {P:Program} (w:World) (dT sT ty elem:TypeId) (g o dLen dCap:Nat) (a:Addr) (sLen sCap size:Nat) (cur:Array Value) (t:TypeId) (cs:List Value)
 (hu:P.underlying dT = some (.slice elem)) (hs:(P.info? elem).map (·.size) = some size)
 (hg:w.heap[g]? = some (.cells cur t (0,0))) (hn:cs.length = Nat.min sLen dLen * size)
 (hsrc:∀ j v,cs[j]? = some v → w.cell? (a.add j) = some v) (hfit:o + cs.length ≤ cur.size) (h1:∀ v ∈ cs,v.oneCell' = true) :
 (Builtin.copy_ #[dT,sT] ty #[.slice (some ⟨g,o,none⟩) dLen dCap, .slice (some a) sLen sCap]).run P w =
  .ok (goInt (Nat.min sLen dLen)) (w.setRow g (cur.toList.take o ++ cs ++ cur.toList.drop (o + cs.length)).toArray):=by
 have hl:=run_loadCells_list (P:=P) w a cs hsrc
 have hst:=run_storeCells_at P g o t cs 0 cur w hg (by simpa using hfit) h1
 cases hq:P.info? elem with
 | none=>simp [hq] at hs
 | some i =>
  have hi:i.size = size:=by simpa [hq] using hs
  simp [Builtin.copy_,run_underlying hu,Builtin.lenOf,Builtin.firstCells,sizeOf,typeInfo,hq,hi,← hn,hl,hst]
def i7 (k:Nat) (xs vs:List Value):List Value:=xs.take k ++ vs ++ xs.drop k
theorem acq {k:Nat} {xs vs:List Value} (h:k ≤ xs.length):(i7 k xs vs).length = xs.length + vs.length:=by
 simp [i7];omega
structure aaw (w w':World) (T s:Nat) (own v:Value) (n:Nat) (xs:List Value):Prop where
 row:w'.ownsRow 0 T s v (n + 1) xs
 bl:Below 0 w w'
 out:∀ g,g < w.heap.size → c3 own ≠ some g → w'.heap[g]? = w.heap[g]?
 at_:∀ g,c3 v = some g → w.heap.size ≤ g ∨ c3 own = some g
theorem acm {l vs:List Value} {p q r:Nat} (h:p ≤ q) (hl:q + vs.length ≤ l.length) (hr:r = p + vs.length) {A:List Value} (hA:A = l.take r ++ (l.take q).drop p ++ l.drop (r + ((l.take q).drop p).length)) :
 (A.take p ++ vs ++ A.drop (p + vs.length)).take (q + vs.length) = i7 p (l.take q) vs:=by
 subst hr
 have e1:A.take p = l.take p:=by
  rw [hA,List.append_assoc,List.take_append_of_le_length (by rw [List.length_take];omega),List.take_take]
  congr 1;omega
 have e2:A.drop (p + vs.length) = (l.take q).drop p ++ l.drop (p + vs.length + ((l.take q).drop p).length):=by
  rw [hA,List.append_assoc,List.drop_append_of_le_length (by rw [List.length_take];omega),List.drop_eq_nil_of_le (by rw [List.length_take];omega),List.nil_append]
 rw [e1,e2,← List.append_assoc,List.take_append_of_le_length (by simp;omega),List.take_of_length_le (by simp;omega),i7,List.take_take]
 congr 3;omega
theorem ace {l vs R:List Value} {p q r:Nat} (h:p ≤ q) (hl:q ≤ l.length) (hr:r = p + vs.length) (hR:q + vs.length ≤ R.length) (hRl:R.take p = l.take p) {A:List Value} (hA:A = R.take p ++ vs ++ R.drop (p + vs.length)) :
 (A.take r ++ (l.take q).drop p ++ A.drop (r + ((l.take q).drop p).length)).take (q + vs.length) = i7 p (l.take q) vs:=by
 subst hr
 have e1:A.take (p + vs.length) = R.take p ++ vs:=by
  rw [hA,List.take_append_of_le_length (by simp;omega),List.take_of_length_le (by simp;omega)]
 rw [e1,List.take_append_of_le_length (by simp;omega),List.take_of_length_le (by simp;omega),i7,hRl,List.take_take]
 congr 3;omega
def ud (i:Nat) (F G:Nat → Nat → PV):Nat → Nat → PV:=fun k j=>if k < i then F k j else if k = i then G 0 j else F (k - 1) j
theorem aez {k m:Nat} {xs vs:List Value} (h:k ≤ xs.length) (hm:m < k):(i7 k xs vs)[m]? = xs[m]?:=by
 unfold i7
 rw [List.append_assoc,List.getElem?_append_left (by rw [List.length_take];omega),List.getElem?_take,if_pos hm]
theorem acu {k m:Nat} {xs vs:List Value} (h:k ≤ xs.length) (hm:m < vs.length):(i7 k xs vs)[k + m]? = vs[m]?:=by
 unfold i7
 rw [List.getElem?_append_left (by simp;omega),List.getElem?_append_right (by simp;omega)]
 congr 1;simp;omega
theorem aek {k m:Nat} {xs vs:List Value} (h:k ≤ xs.length) (hm:k ≤ m):(i7 k xs vs)[vs.length + m]? = xs[m]?:=by
 unfold i7
 rw [List.getElem?_append_right (by simp;omega),List.getElem?_drop]
 congr 1;simp;omega
theorem a0o {imm:Imm} {s n i:Nat} {F G:Nat → Nat → PV} {xs vs:List Value} (hx:xs.length = n * s) (hv:vs.length = 1 * s) (hi:i ≤ n)
 (h1:∀ k j,k < n → j < s → ∃ x,xs[k * s + j]? = some x ∧ bc imm (F k j) x) (h2:∀ k j,k < 1 → j < s → ∃ x,vs[k * s + j]? = some x ∧ bc imm (G k j) x) :
 ∀ k j,k < n + 1 → j < s → ∃ x,(i7 (i * s) xs vs)[k * s + j]? = some x ∧ bc imm (ud i F G k j) x:=by
 intro k j hk hj
 have hle:i * s ≤ xs.length:=by rw [hx];exact Nat.mul_le_mul_right _ hi
 rcases Nat.lt_trichotomy k i with h | h | h
 · have hm:k * s + j < i * s:=by
    have:(k + 1) * s ≤ i * s:=Nat.mul_le_mul_right _ h
    rw [Nat.add_mul,Nat.one_mul] at this
    omega
   rw [aez hle hm,ud,if_pos h]
   exact h1 k j (by omega) hj
 · subst h
   rw [acu hle (by omega),ud,if_neg (by omega),if_pos rfl]
   simpa using h2 0 j (by omega) hj
 obtain ⟨q,rfl⟩:∃ q,k = q + 1:=⟨k - 1,by omega⟩
 have hm:i * s ≤ q * s:=Nat.mul_le_mul_right _ (by omega)
 rw [show (q + 1) * s + j = vs.length + (q * s + j) by rw [hv,Nat.add_mul];omega,aek hle (by omega),ud,if_neg (by omega),if_neg (by omega),Nat.add_sub_cancel]
 exact h1 q j (by omega) hj
theorem rh {id q:Nat} {x ob:af} (h:lk [(q,x)] id = some ob):id = q ∧ ob = x:=by
 simp only [lk] at h
 by_cases hk:q = id
 · subst hk
   simp at h
   exact ⟨rfl,h.symm⟩
 have:Nat.beq q id = false:=by
  rw [Bool.eq_false_iff];exact fun hb=>hk (Nat.eq_of_beq_eq_true hb)
 rw [this] at h
 cases h
structure aiv (c:Ctx) (w w':World) (T s a:Nat) (v:Value) (n:Nat) (ys:List Value):Prop where
 row:w'.ownsRow 0 T s v (n + 1) ys
 bl:Below 0 w w'
 out:∀ g,g < w.heap.size → ¬ c.blk a g → w'.heap[g]? = w.heap[g]?
 at_:∀ g,c3 v = some g → w.heap.size ≤ g ∨ c.blk a g
theorem a3v {P:Program} {f:FuncId} {T s n i a b r:Nat} {F G H:Nat → Nat → PV} (hab:Nat.beq a b = false) (hn:n + 1 ≤ maxLen)
 (h:∀ (w:World) (c:Ctx),Mem c (lk [(a, .arr true s T n F),(b, .arr true s T 1 G)]) w →
  Calls P f #[c.own a, .int .i64 i,c.own b] w fun e w'=>∃ v ys,e = .returned v ∧ aiv c w w' T s a v n ys ∧ ∀ k j,k < n + 1 → j < s → ∃ x,ys[k * s + j]? = some x ∧ bc c.imm (H k j) x) :
 br P f [.one (.ref a n), .one (.p (.raw (.int .i64 i))), .one (.ref b 1)] [(a, .arr true s T n F),(b, .arr true s T 1 G)] (.v (.one (.ref r (n + 1)))) [(r, .arr true s T (n + 1) H)] []:=by
 have hne:a ≠ b:=fun h=>by subst h;simp at hab
 intro w c us hM hrep
 obtain ⟨u0,u1,u2,rfl,r0,r1,r2⟩:∃ u0 u1 u2,us = [u0,u1,u2] ∧ bq c (lk [(a, .arr true s T n F),(b, .arr true s T 1 G)]) (.ref a n) u0 ∧ bc c.imm (.raw (.int .i64 i)) u1 ∧ bq c (lk [(a, .arr true s T n F),(b, .arr true s T 1 G)]) (.ref b 1) u2:=by
  match us,hrep with
  | [u0,u1,u2],⟨h0,h1,h2,_⟩=>exact ⟨u0,u1,u2,rfl,h0,h1,h2⟩
 have la:lk [(a,af.arr true s T n F),(b, .arr true s T 1 G)] a = some (.arr true s T n F):=by simp [lk]
 have lb:lk [(a,af.arr true s T n F),(b, .arr true s T 1 G)] b = some (.arr true s T 1 G):=by simp [lk,hab]
 obtain rfl:u0 = c.own a:=(r0.2.2 _ _ _ _ la rfl).2 rfl
 obtain rfl:u2 = c.own b:=(r2.2.2 _ _ _ _ lb rfl).2 rfl
 obtain ⟨rfl,_⟩:=r1
 obtain ⟨hs,_,oa⟩:=hM.objs a _ la
 refine (h w c hM).mono ?_
 rintro e w' ⟨v,ys,rfl,hE,hrep⟩
 have hold:=hE.out
 have hat:=hE.at_
 have lr:∀ id ob,lk [(r,af.arr true s T (n + 1) H)] id = some ob → id = r ∧ ob = .arr true s T (n + 1) H:=by
  intro id ob hl
  simp only [lk] at hl
  by_cases hk:r = id
  · subst hk
    simp at hl
    exact ⟨rfl,hl.symm⟩
  have:Nat.beq r id = false:=by
   rw [Bool.eq_false_iff];exact fun hb=>hk (Nat.eq_of_beq_eq_true hb)
  rw [this] at hl
  cases hl
 have lrr:lk [(r,af.arr true s T (n + 1) H)] r = some (.arr true s T (n + 1) H):=by simp [lk]
 have him:∀ q ob,c.imm q = some ob → q < w.heap.size:=fun q ob hq=>(Array.getElem?_eq_some_iff.1 (hM.imm q ob hq)).1
 have hform:v.oneCell' = true:=by
  rcases hE.row.2 with ⟨hv,_⟩ | ⟨g,cap,cur,hv,_⟩ <;> (subst hv;rfl)
 refine ⟨v,{ c with own:=fun k=>if k = r then v else c.own k,blk:=fun k=>if k = r then er v else c.blk k },rfl,⟨hform,fun l hl=>?_,fun ob s1 e1 n1 ho hd=>?_⟩,⟨fun id ob hl=>?_,fun id id' ob ob' q hl hl' _ _=>?_,fun q ob hq=>?_,fun id ob q hl hq=>?_⟩,hE.bl,fun q hq hno=>⟨hold q hq (hno a _ la),rfl⟩,fun id ob q hl hq=>?_,fun id hid=>absurd hid (by simp)⟩
 · cases (lr _ _ hl).2
 · obtain ⟨_,rfl⟩:=lr _ _ ho
   simp only [af.dim,Option.some.injEq,Prod.mk.injEq] at hd
   obtain ⟨rfl,rfl,rfl⟩:=hd
   exact ⟨Nat.le_refl _,fun _=>by simp⟩
 · obtain ⟨rfl,rfl⟩:=lr _ _ hl
   exact ⟨hs,hn, .inl ⟨by simp,_,by simpa using hE.row,hrep⟩⟩
 · rw [(lr _ _ hl).1,(lr _ _ hl').1]
 · have hq':c.imm q = some ob:=hq
   refine (hold q (him q ob hq') fun hb=>?_).trans (hM.imm q ob hq')
   rw [hM.sep a _ q la hb] at hq'
   cases hq'
 · obtain ⟨rfl,_⟩:=lr _ _ hl
   have hq':c3 v = some q:=by simpa [er] using hq
   show c.imm q = none
   rcases hat q hq' with h1 | h1
   · cases hc:c.imm q with
     | none=>rfl
     | some ob=>have:=him q ob hc;omega
   exact hM.sep a _ q la h1
 obtain ⟨rfl,_⟩:=lr _ _ hl
 have hq':c3 v = some q:=by simpa [er] using hq
 rcases hat q hq' with h1 | h1
 · exact .inl h1
 exact .inr ⟨a,_,la,h1⟩
theorem a2q {imm:Imm} {s m:Nat} {ys:List Value} {H:Nat → Nat → PV} (hs:0 < s) (hl:ys.length = m * s) (hr:∀ k j,k < m → j < s → ∃ x,ys[k * s + j]? = some x ∧ bc imm (H k j) x):∀ x ∈ ys,x.oneCell' = true:=by
 intro x hx
 obtain ⟨q,hq,rfl⟩:=List.getElem_of_mem hx
 have hd:q / s < m:=by rw [Nat.div_lt_iff_lt_mul hs];omega
 obtain ⟨x,hx,hr⟩:=hr (q / s) (q % s) hd (Nat.mod_lt _ hs)
 rw [show q / s * s + q % s = q by rw [Nat.mul_comm];exact Nat.div_add_mod q s,List.getElem?_eq_getElem hq] at hx
 cases hx
 exact hr.oneCell
theorem aa1 {a b:Nat} {x y:af} (hab:Nat.beq a b = false):lk [(a,x),(b,y)] a = some x ∧ lk [(a,x),(b,y)] b = some y:=by simp [lk,hab]
theorem acp {P:Program} {f:FuncId} {T s n i a b r:Nat} {F G:Nat → Nat → PV} (hab:Nat.beq a b = false) (hi:i < n) (hn:n + 1 ≤ maxLen)
 (h:∀ (w:World) (own vb:Value) (xs vs:List Value),w.ownsRow 0 T s own n xs → w.ownsRow 0 T s vb 1 vs → c3 own ≠ c3 vb → (∀ x ∈ xs,x.oneCell' = true) → (∀ x ∈ vs,x.oneCell' = true) →
  Calls P f #[own, .int .i64 i,vb] w fun e w'=>∃ v,e = .returned v ∧ aaw w w' T s own v n (i7 (i * s) xs vs)) :
 br P f [.one (.ref a n), .one (.p (.raw (.int .i64 i))), .one (.ref b 1)] [(a, .arr true s T n F),(b, .arr true s T 1 G)] (.v (.one (.ref r (n + 1)))) [(r, .arr true s T (n + 1) (ud i F G))] []:=by
 have hne:a ≠ b:=fun h=>by subst h;simp at hab
 refine a3v hab hn fun w c hM=>?_
 obtain ⟨la,lb⟩:=aa1 (x:=af.arr true s T n F) (y:=.arr true s T 1 G) hab
 obtain ⟨hs,_,oa⟩:=hM.objs a _ la
 obtain ⟨_,_,ob⟩:=hM.objs b _ lb
 rcases oa with ⟨ba,xs,oxs,rxs⟩ | ⟨h1,_⟩
 case inr=>rcases h1 with h1 | h1 <;> first | (exfalso;omega) | cases h1
 rcases ob with ⟨bb,vs,ovs,rvs⟩ | ⟨h1,_⟩
 case inr=>rcases h1 with h1 | h1 <;> first | (exfalso;omega) | cases h1
 have blka:∃ g,c.blk a g:=by
  rw [ba]
  rcases oxs.2 with ⟨_,h0⟩ | ⟨g,cap,cur,hv,_⟩
  · omega
  exact ⟨g,by rw [hv];rfl⟩
 obtain ⟨g,hg⟩:=blka
 have hnb:c3 (c.own a) ≠ c3 (c.own b):=by
  intro he
  have h1:c3 (c.own a) = some g:=by have:=hg;rw [ba] at this;exact this
  have h2:c.blk b g:=by rw [bb];exact he.symm.trans h1
  exact hne (hM.inj a b _ _ g la lb hg h2)
 refine (h w (c.own a) (c.own b) xs vs oxs ovs hnb (a2q hs oxs.1 rxs) (a2q hs ovs.1 rvs)).mono ?_
 rintro e w' ⟨v,rfl,hE⟩
 exact ⟨v,_,rfl,⟨hE.row,hE.bl,fun q hq hb=>hE.out q hq (fun he=>hb (by rw [ba];exact he)),fun q hq=>by rw [ba];exact hE.at_ q hq⟩,a0o oxs.1 ovs.1 (by omega) rxs rvs⟩
theorem aau {P:Program} {f:FuncId} {S T s bytes n a b r:Nat} {i0:TypeInfo} {z:Value} {F G:Nat → Nat → PV} (ht:P.underlying S = some (.slice T)) (hi:P.info? T = some i0) (hz:i0.zero = some z) (hsz:i0.size = s) (hby:i0.bytes = bytes) (hzs:z.cells.size = s)
 (hab:Nat.beq a b = false) (hbig:(n + 1) * bytes ≤ 140737488355328) (hn:n + 1 ≤ maxLen)
 (h:∀ (w w1:World) (base:Option Addr) (c:Nat) (vb vc:Nat) (v':Value),n ≤ c → c ≤ maxLen → (base = none → n = 0 ∧ c = 0) → ((Builtin.append_ #[S,S] S #[.slice base n c, .slice (some ⟨vb,0,none⟩) 1 vc]).run P w = .ok v' w1) →
  Calls P f #[.slice base n c, .int .i64 n, .slice (some ⟨vb,0,none⟩) 1 vc] w fun e w'=>e = .returned v' ∧ w' = w1) :
 br P f [.one (.ref a n), .one (.p (.raw (.int .i64 n))), .one (.ref b 1)] [(a, .arr true s T n F),(b, .arr true s T 1 G)] (.v (.one (.ref r (n + 1)))) [(r, .arr true s T (n + 1) (ud n F G))] []:=by
 refine a3v hab hn fun w c hM=>?_
 obtain ⟨la,lb⟩:=aa1 (x:=af.arr true s T n F) (y:=.arr true s T 1 G) hab
 obtain ⟨hs,_,oa⟩:=hM.objs a _ la
 obtain ⟨_,_,ob⟩:=hM.objs b _ lb
 rcases ob with ⟨bb,vs,ovs,rvs⟩ | ⟨h1,_⟩
 case inr=>rcases h1 with h1 | h1 <;> first | (exfalso;omega) | cases h1
 have h1v:=a2q hs ovs.1 rvs
 obtain ⟨hvl,⟨_,h0⟩ | ⟨g2,c2,cur2,e2,_,hg2,hnc2,hcm2,hcs2,hvs⟩⟩:=ovs
 · omega
 have hnews:∀ j u,vs[j]? = some u → w.cell? ((⟨g2,0,none⟩:Addr).add j) = some u:=fun j u hj=>by
  rw [Addr.add_lit]
  rw [← hvs,List.getElem?_take] at hj
  split at hj
  · rw [World.cell?,hg2]
    simpa using hj
  cases hj
 rcases oa with ⟨ba,xs,oxs,rxs⟩ | ⟨h1,bn,hsl⟩
 · obtain ⟨v',w1,hrun,hown',hgrow,_,hat⟩:=run_append_own_at (P:=P) w 0 S S T i0 z s bytes ht hi hz hsz hby hzs hs (c.own a) n xs oxs ⟨g2,0,none⟩ 1 c2 vs hvl hnews h1v hn hbig (Nat.zero_le _)
   have hob:∀ v:Value,(∃ ad k cap,v = .slice ad k cap) → v.ownBlock = c3 v:=by
    rintro v ⟨ad,k,cap,rfl⟩
    cases ad <;> rfl
   have hform:∃ base cap,c.own a = .slice base n cap ∧ n ≤ cap ∧ cap ≤ maxLen ∧ (base = none → n = 0 ∧ cap = 0):=by
    rcases oxs.2 with ⟨hv,h0⟩ | ⟨g,cap,cur,hv,_,_,h1,h2,_⟩
    · subst h0;exact ⟨none,0,hv,Nat.le_refl _,Nat.zero_le _,fun _=>⟨rfl,rfl⟩⟩
    exact ⟨_,cap,hv,h1,h2,fun h=>by cases h⟩
   obtain ⟨base,cap,hv,h1,h2,h3⟩:=hform
   have e0:(c.own a).ownBlock = c3 (c.own a):=hob _ ⟨_,_,_,hv⟩
   have e1:v'.ownBlock = c3 v':=hob _ (by
    rcases hown'.2 with ⟨hv,_⟩ | ⟨g,cap,cur,hv,_⟩
    · exact ⟨_,_,_,hv⟩
    exact ⟨_,_,_,hv⟩)
   rw [e0] at hgrow
   rw [e1,e0] at hat
   have hins:i7 (n * s) xs vs = xs ++ vs:=by simp [i7,← oxs.1]
   have hrep:=a0o (imm:=c.imm) oxs.1 hvl (Nat.le_refl n) rxs rvs
   rw [hins] at hrep
   rw [e2] at *
   rw [hv] at hrun ⊢
   refine (h w w1 base cap g2 c2 v' h1 h2 h3 hrun).mono ?_
   rintro e w' ⟨rfl,rfl⟩
   refine ⟨_,_,rfl,⟨hown',⟨hgrow.os,hgrow.tape,hgrow.output,hgrow.size,fun k hk=>absurd hk (Nat.not_lt_zero k),mw _ hrun⟩,fun q hq hb=>hgrow.block q hq (fun h=>hb (by rw [ba];exact h.symm)),fun q hq=>?_⟩,hrep⟩
   rcases hat with h4 | h4
   · exact .inr (by rw [ba];exact h4.symm.trans hq)
   rw [hq] at h4
   simp only [Option.some.injEq] at h4
   exact .inl (by omega)
 obtain rfl:n = 0:=by rcases h1 with h1 | h1 <;> first | exact h1 | cases h1
 obtain ⟨ad,cap,hv,_,_,hcl,_⟩:=hsl
 obtain rfl:cap = 0:=hcl rfl
 have hrep:=a0o (imm:=c.imm) (xs:=[]) (F:=F) (n:=0) (s:=s) (by simp) hvl (Nat.le_refl 0) (fun k j hk=>by omega) rvs
 have hins:i7 (0 * s) [] vs = vs:=by simp [i7]
 rw [hins] at hrep
 rw [e2,hv]
 cases ad with
 | none =>
  obtain ⟨v',w1,hrun,hown',hgrow,_,hat⟩:=run_append_own_at (P:=P) w 0 S S T i0 z s bytes ht hi hz hsz hby hzs hs (.slice none 0 0) 0 [] (World.ownsRow_nil w _ _ _) ⟨g2,0,none⟩ 1 c2 vs hvl hnews h1v hn hbig (Nat.zero_le _)
  have e1:v'.ownBlock = c3 v':=by
   rcases hown'.2 with ⟨hv,_⟩ | ⟨g,cap,cur,hv,_⟩ <;> (subst hv;rfl)
  refine (h w w1 none 0 g2 c2 v' (Nat.le_refl _) (Nat.zero_le _) (fun _=>⟨rfl,rfl⟩) hrun).mono ?_
  rintro e w' ⟨rfl,rfl⟩
  refine ⟨_,_,rfl,⟨hown',⟨hgrow.os,hgrow.tape,hgrow.output,hgrow.size,fun k hk=>absurd hk (Nat.not_lt_zero k),mw _ hrun⟩,fun q hq hb=>hgrow.block q hq (fun h=>by cases h),fun q hq=>?_⟩,hrep⟩
  rw [e1,hq] at hat
  rcases hat with h4 | h4
  · cases h4
  simp only [Option.some.injEq] at h4
  exact .inl (by omega)
 | some ba =>
  have hr:=run_append_grow (P:=P) w S S T i0 z ht hi hz ba 0 0 [] (by simp) (fun k u hk=>by simp at hk) ⟨g2,0,none⟩ 1 c2 vs (by rw [hsz];exact hvl) hnews (by omega) (by unfold maxLen at hn;omega) (growslice_fits (by omega) (by rw [hby];exact hbig))
  have hge:=grownCap_ge w (0 + 1) 0 T
  have hcm:grownCap w (0 + 1) 0 T ≤ maxLen:=grownCap_le_maxLen w (0 + 1) 0 T hn
  refine (h w _ (some ba) 0 g2 c2 _ (Nat.le_refl _) (Nat.zero_le _) (fun h=>by cases h) hr).mono ?_
  rintro e w' ⟨rfl,rfl⟩
  refine ⟨_,vs,rfl,⟨⟨by rw [hvl,Nat.zero_add], .inr ⟨w.heap.size,_,_,rfl,Nat.zero_le _,heap_alloc_new w.drew _,hge,hcm, ?_, ?_⟩⟩,⟨rfl,rfl,rfl, ?_,fun k hk=>absurd hk (Nat.not_lt_zero k),Nat.le_succ _⟩,fun q hq hb=>heap_alloc_old w.drew _ hq,fun q hq=>?_⟩,hrep⟩
  · simp only [Array.size_append,List.size_toArray,size_zeroCells,hzs,hvl,List.length_nil]
    rw [Nat.zero_add,← Nat.add_mul]
    congr 1
    omega
  · simp only [Array.toList_append,List.nil_append,Nat.zero_add]
    rw [← hvl]
    exact List.take_left
  · show _ ≤ (w.heap.push _).size
    rw [Array.size_push];omega
  have:w.heap.size = q:=by simpa [c3] using hq
  exact .inl (by omega)
theorem abx {P:Program} {f:FuncId} {T s a:Nat} {y:Value} {F:Nat → Nat → PV} (hs:0 < s)
 (h:∀ (w:World) (ad:Option Addr),Calls P f #[.slice ad 0 0,y] w fun e w'=>∃ v,e = .returned v ∧ Below w.heap.size w w' ∧ (v = .slice ad 0 0 ∨ w'.ownsRow 0 T s v 0 [] ∧ ∀ g,c3 v = some g → w.heap.size ≤ g)) :
 br P f [.one (.p (js (.slice none 0 0))), .one (.p (.raw y))] [] (.v (.one (.ref a 0))) [(a, .arr true s T 0 F)] []:=by
 intro w c us hM hrep
 obtain ⟨ad,rfl⟩:∃ ad,us = [.slice ad 0 0,y]:=by
  match us,hrep with
  | [u0,u1],⟨h0,h1,_⟩ =>
   obtain ⟨ad,cap,hv,_,_,hc,_⟩:=h0
   obtain rfl:cap = 0:=hc rfl
   exact ⟨ad,by rw [hv,show u1 = y from h1.1]⟩
 refine (h w ad).mono ?_
 rintro e w' ⟨v,rfl,hb,hor⟩
 have la:lk [(a,af.arr true s T 0 F)] a = some (.arr true s T 0 F):=by simp [lk]
 have him:∀ q ob,c.imm q = some ob → q < w.heap.size:=fun q ob hq=>(Array.getElem?_eq_some_iff.1 (hM.imm q ob hq)).1
 have hform:v.oneCell' = true:=by
  rcases hor with rfl | ⟨hrow,_⟩
  · rfl
  rcases hrow.2 with ⟨hv,_⟩ | ⟨g,cap,cur,hv,_⟩ <;> (subst hv;rfl)
 have hbk:∃ bk:Nat → Prop,(∀ g,bk g → w.heap.size ≤ g) ∧ (bk = er v ∧ w'.ownsRow 0 T s v 0 [] ∨ bk = noB ∧ bc c.imm (.sl 0 s true F) v):=by
  rcases hor with rfl | ⟨hrow,hat⟩
  · exact ⟨noB,fun g hg=>hg.elim, .inr ⟨rfl,ad,0,rfl,Nat.le_refl _,Nat.zero_le _,fun _=>rfl,fun h=>absurd h (Nat.lt_irrefl 0)⟩⟩
  exact ⟨er v,hat, .inl ⟨rfl,hrow⟩⟩
 obtain ⟨bk,hat,hok⟩:=hbk
 refine ⟨v,{ c with own:=fun q=>if q = a then v else c.own q,blk:=fun q=>if q = a then bk else c.blk q },rfl,⟨hform,fun l hl=>(by cases (rh hl).2),fun ob s1 e1 n1 ho1 hd=>?_⟩,⟨fun id ob hl=>?_,fun id id' ob ob' q hl hl' _ _=>by rw [(rh hl).1,(rh hl').1],fun q ob hq=>(hb.block q (him q ob hq)).trans (hM.imm q ob hq),fun id ob q hl hq=>?_⟩,⟨hb.os,hb.tape,hb.output,hb.size,fun k hk=>absurd hk (Nat.not_lt_zero k),hb.drawn⟩,fun q hq _=>⟨hb.block q hq,rfl⟩,fun id ob q hl hq=>?_,fun id hid=>absurd hid (by simp)⟩
 · obtain ⟨_,rfl⟩:=rh ho1
   simp only [af.dim,Option.some.injEq,Prod.mk.injEq] at hd
   obtain ⟨rfl,rfl,rfl⟩:=hd
   exact ⟨Nat.le_refl _,fun _=>by simp⟩
 · obtain ⟨rfl,rfl⟩:=rh hl
   rcases hok with ⟨h1,h2⟩ | ⟨h1,h2⟩
   · exact ⟨hs,Nat.zero_le _, .inl ⟨by simpa using h1,[],by simpa using h2,fun i j hi=>by omega⟩⟩
   exact ⟨hs,Nat.zero_le _, .inr ⟨.inr rfl,by simpa using h1,by simpa using h2⟩⟩
 · obtain ⟨rfl,_⟩:=rh hl
   have hq':bk q:=by simpa using hq
   show c.imm q = none
   cases hc:c.imm q with
   | none=>rfl
   | some ob=>have:=him q ob hc;have:=hat q hq';omega
 obtain ⟨rfl,_⟩:=rh hl
 have hq':bk q:=by simpa using hq
 exact .inl (hat q hq')
def HE (nt:Nat) (st:HSt) (Q:HSt → Prop):Prop:=∀ w0 m0 a w,Rel w0 m0 nt st.den a w → ∃ st':HSt,Q st' ∧ Rel w0 m0 nt st'.den a w
theorem ck {nt:Nat} {st:HSt} {Q:HSt → Prop} (h:Q st):HE nt st Q:=fun _ _ _ _ hr=>⟨st,h,hr⟩
theorem rn {nt:Nat} {st:HSt} {Q:HSt → Prop} (K:HSt) (hK:Sub K st) (h:HE nt K Q):HE nt st Q:=fun w0 m0 a w hr=>h w0 m0 a w (hr.sub hK)
theorem pb {ro:Option Nat} {P:Program} {nt:Nat} {c:Code} {st:HSt} {Q:Exit → HSt → Prop} (h:HW (ro:=ro) P nt c st fun e s1=>HE nt s1 (Q e)):HW (ro:=ro) P nt c st Q:=fun w0 m0 a w hr=>by
 refine wpIn_mono (h w0 m0 a w hr) ?_
 rintro e a' w' ⟨s1,h1,h2⟩
 exact h1 w0 m0 a' w' h2
theorem a2t {nt:Nat} {st:HSt} {w0:World} {m0:Old} {a:Act} {w:World} (bx off id:Nat) (wr:Bool) {n s':Nat} {f':Nat → Nat → PV} {l:List HV} (s:Nat) (e:TypeId) (f:Nat → Nat → PV) (hs:0 < s) (hb:bs st.o bx = some (.box l)) (hl:l[off]? = some (.p (.sl n s' true f'))) (hco:CoP (.sl n s' true f') (.sl n s true f)) (hwr:wr = false ∨ n = 0) (hn:nq id st = true) (hne:Nat.beq bx id = false)
 (hr:Rel w0 m0 nt st.den a w):Rel w0 m0 nt (HSt.den ⟨st.t,(bx,some (.box (bp l off [.ref id n]))) :: (id,some (.arr wr s e n f)) :: st.o⟩) a w:=by
 obtain ⟨hnm,hno⟩:=jb hn
 obtain ⟨cc,hold,hrr⟩:=hr
 have hbi:bx ≠ id:=by rintro rfl;simp at hne
 obtain ⟨b0,C0,e0,p1,p2,p3,p4,p5⟩:=hrr.objs bx _ hb
 obtain ⟨u,hu,hur⟩:=p5.get off _ hl
 have hx:bc cc.imm (.sl n s true f) u:=hco _ _ hur
 have hnm':n ≤ maxLen:=by obtain ⟨ad,cap,_,q1,q2,_⟩:=hx;omega
 have hfresh:=hrr.fresh id hnm hno (.arr wr s e n f) w u noB (Grw.refl w none) (fun b hb=>hb.elim) ⟨hs,hnm', .inr ⟨hwr,by simp,by simpa using hx⟩⟩
 rw [← yw] at hfresh
 have hb':(HSt.den ⟨st.t,(id,some (.arr wr s e n f)) :: st.o⟩).o bx = some (.box l):=by
  simp only [HSt.den,be,hbi,if_false];exact hb
 have hevo:∀ (c1:Ctx),c1.own = (fun k=>if k = id then u else cc.own k) → Evo { old:=cc.old,imm:=cc.imm,tab:=cc.tab,own:=fun k=>if k = id then u else cc.own k,blk:=fun k=>if k = id then noB else cc.blk k,rows:=cc.rows } (HSt.den ⟨st.t,(id,some (.arr wr s e n f)) :: st.o⟩).o c1 ((HSt.den ⟨st.t,(id,some (.arr wr s e n f)) :: st.o⟩).setO bx (some (.box (bp l off [.ref id n])))).o bx:=fun c1 h1 =>
  .inr (.inl ⟨l,bp l off [.ref id n],hb',by simp [S.setO],by rw [h1]⟩)
 have hown:(fun k=>if k = bx then (fun k=>if k = id then u else cc.own k) bx else (fun k=>if k = id then u else cc.own k) k) = fun k=>if k = id then u else cc.own k:=by
  funext k
  by_cases hk:k = bx
  · subst hk;simp
  simp [hk]
 have hw:=hfresh.write bx (.box l) hb' (.box (bp l off [.ref id n])) w ((fun k=>if k = id then u else cc.own k) bx) ((fun k=>if k = id then noB else cc.blk k) bx) none (Grw.refl w _) (fun _ e=>by cases e) (hevo _ (by exact hown)) (fun b hb=>.inl hb) (by
  refine ⟨b0,C0,e0,by simpa [hbi] using p1,by simpa [hbi] using p2,p3,p4, ?_⟩
  have hoff:off < l.length:=(List.getElem?_eq_some_iff.1 hl).1
  have hcl:=p5.length
  refine bh.of_get ?_ fun k x u' hx' hu'=>?_
  · simp only [bp,List.length_append,List.length_take,List.length_drop,List.length_singleton];omega
  have hx2:=hx'
  unfold bp at hx2
  rw [cu l [HV.ref id n] off k (by simp;omega)] at hx2
  by_cases hk:k = off
  · subst hk
    simp at hx2
    subst hx2
    rw [hu] at hu'
    simp only [Option.some.injEq] at hu'
    subst hu'
    refine ⟨bc.oneCell hx,fun l2=>by simp [S.setO,HSt.den,be,Ne.symm hbi],fun ob1 s1 e1 n1 ho hd1=>?_⟩
    simp only [S.setO,HSt.den,be,Ne.symm hbi,if_false,if_true,Option.some.injEq] at ho
    subst ho
    simp only [af.dim,Option.some.injEq,Prod.mk.injEq] at hd1
    obtain ⟨rfl,rfl,rfl⟩:=hd1
    exact ⟨Nat.le_refl _,fun _=>by simp [Ne.symm hbi]⟩
  rw [if_neg (by simp;omega)] at hx2
  obtain ⟨u2,hu2,hr2⟩:=p5.get k x hx2
  rw [hu'] at hu2
  simp only [Option.some.injEq] at hu2
  subst hu2
  refine bq.evo (c:=cc) (o:=st.den.o) (Imm.le.refl cc.imm) (fun j hj=>?_) hr2
  have hji:j ≠ id:=by
   rintro rfl
   exact hnm.2.1 bx _ hb ⟨x,List.mem_of_getElem? hx2,hj⟩
  by_cases hjb:j = bx
  · subst hjb;exact .inr (.inl ⟨l,bp l off [.ref id n],hb,by simp [S.setO],by simp [hji]⟩)
  exact Evo.of_same (by simp [S.setO,hjb,HSt.den,be,hji]) (by simp [hjb,hji]))
 have e:HSt.den ⟨st.t,(bx,some (.box (bp l off [.ref id n]))) :: (id,some (.arr wr s e n f)) :: st.o⟩ = (HSt.den ⟨st.t,(id,some (.arr wr s e n f)) :: st.o⟩).setO bx (some (.box (bp l off [.ref id n]))):=by
  unfold HSt.den S.setO
  simp only [S.mk.injEq,true_and]
  funext k
  simp only [be]
 rw [e]
 exact ⟨_,(by exact hold),hw⟩
theorem ez {nt:Nat} {st:HSt} {Q:HSt → Prop} (bx off id:Nat) (wr:Bool) {n s':Nat} {f':Nat → Nat → PV} {l:List HV} (s:Nat) (e:TypeId) (f:Nat → Nat → PV) (hs:0 < s) (hb:bs st.o bx = some (.box l)) (hl:l[off]? = some (.p (.sl n s' true f'))) (hco:CoP (.sl n s' true f') (.sl n s true f)) (hwr:wr = false ∨ n = 0) (hn:nq id st = true) (hne:Nat.beq bx id = false)
 (h:HE nt ⟨st.t,(bx,some (.box (bp l off [.ref id n]))) :: (id,some (.arr wr s e n f)) :: st.o⟩ Q):HE nt st Q:=fun w0 m0 a w hr=>h w0 m0 a w (a2t bx off id wr s e f hs hb hl hco hwr hn hne hr)
end
end Go.Hx
