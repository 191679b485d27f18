/- A part of the proof: Hx8. -/
import Derived.Test.YtdcdbghdgjlhhaaGreatOx05
set_option linter.all false
namespace Go.Hx
section
open Go.RowKit
structure Upd where
 pre:Prop
 id:Nat
 ob:af
def gt (f:Nat → Nat → PV) (r j:Nat) (ps:List PV):Nat → Nat → PV:=fun a b=>if a = r ∧ j ≤ b ∧ b < j + ps.length then ps.getD (b - j) .any else f a b
def sk (f:Nat → Nat → HV) (r j:Nat) (l:List HV):Nat → Nat → HV:=fun a b=>if a = r ∧ j ≤ b ∧ b < j + l.length then l.getD (b - j) (.p .any) else f a b
def ol (g:Nat → Nat → Nat → PV) (i r j:Nat) (ps:List PV):Nat → Nat → Nat → PV:=fun a=>if a = i then gt (g a) r j ps else g a
def j4 (E:Env) (o:aw) (e:Ev) (t:TypeId) (addr v:Operand):Option Upd :=
 match E t,e v,e addr with
 | some i,some (.v cc),some (.v (.one (.ptr id off))) =>
  match o id with
  | some (.box l)=>match decide (cc.cells.length = i.size) with | true=>some ⟨off + i.size ≤ l.length,id, .box (bp l off cc.cells)⟩ | false=>none
  | _=>none
 | some i,some (.v cc),some (.v (.one (.eptr id n r j))) =>
  match o id,j7 cc.cells with
  | some (.arr true s el n' f),some ps=>match decide (cc.cells.length = i.size) with | true=>some ⟨n' = n ∧ r < n ∧ j + i.size ≤ s,id, .arr true s el n' (gt f r j ps)⟩ | false=>none
  | some (.arrh s el n' ms f),_=>match decide (cc.cells.length = i.size) with | true=>some ⟨n' = n ∧ r < n ∧ j + i.size ≤ s,id, .arrh s el n' (gl cc.cells ++ ms) (sk f r j cc.cells)⟩ | false=>none
  | _,_=>none
 | some i,some (.v cc),some (.v (.one (.rptr id ri k r j))) =>
  match o id,j7 cc.cells with
  | some (.nest el et es n m g pd),some ps=>match decide (cc.cells.length = i.size) with | true=>some ⟨ri < n ∧ m ri = k ∧ r < k ∧ j + i.size ≤ es,id, .nest el et es n m (ol g ri r j ps) pd⟩ | false=>none
  | _,_=>none
 | _,_,_=>none
def um (f:MK → Option PV) (m:MK) (y:PV):MK → Option PV:=fun k=>bif k.same m then some y else f k
def xz (o:aw) (kk:KK) (m:MK) (y:PV):HV → Option Upd
 | .ref id _ =>
  match o id with
  | some (.mp kk' n f)=>some ⟨kk'.base = kk ∧ MK.ok kk m ∧ n < maxLen,id, .mp kk' (n + 1) (um f m y)⟩
  | _=>none
 | _=>none
def jg (E:Env) (o:aw) (e:Ev) (t:TypeId) (x ix v:Operand):Option Upd :=
 match E t with
 | some i =>
  match i.k with
  | .map kt _ =>
   match E kt with
   | some ki =>
    match e x with
    | some (.v (.one h)) =>
     match a11 ki.k,e ix,e v with
     | some kk,some (.v (.one (.p (.raw kv)))),some (.v (.one (.p y))) =>
      match a8z kv with
      | some m=>xz o kk m y h
      | none=>none
     | _,_,_=>none
    | _=>none
   | none=>none
  | _=>none
 | none=>none
def hs (E:Env) (o:aw) (e:Ev):Op → Option Upd
 | .store t addr v=>j4 E o e t addr v
 | .mapUpdate t x ix v=>jg E o e t x ix v
 | .insert t x ix v=>jg E o e t x ix v
 | _=>none
theorem jo (w:World) (g:Nat) (cs:Array Value):Grw w (w.setRow g cs) (some g) :=
 ⟨⟨rfl,rfl,rfl,by simp,fun k _ hk=>setRow_other w g k cs (fun e=>hk (by rw [e]))⟩,Nat.le_refl _⟩
section
variable {P:Program} {E:Env} {w0:World} {nt:Nat} {c:Ctx} {s:S} {a:Act} {w:World}
theorem yk {α:Type} (l new:List α) (off:Nat) (h:off + new.length ≤ l.length):(l.take off ++ new ++ l.drop (off + new.length)).length = l.length:=by
 grind
theorem cu {α:Type} (l new:List α) (off k:Nat) (h:off + new.length ≤ l.length) :
 (l.take off ++ new ++ l.drop (off + new.length))[k]? = if off ≤ k ∧ k < off + new.length then new[k - off]? else l[k]?:=by
 rw [List.append_assoc,List.getElem?_append,List.length_take,Nat.min_eq_left (by omega)]
 grind
theorem a03 (hE:cr P E) (h:ak w0 nt c s a w) {t:TypeId} {x ix v:Operand} {u:Upd} (hq':jg E s.o (ev s) t x ix v = some u) (hp:u.pre) :
 ∃ w' c',(Instr.mapUpdate t (a.eval x) (a.eval ix) (a.eval v)).run P w = .ok () w' ∧ c'.old = c.old ∧ ak w0 nt c' (s.setO u.id (some u.ob)) a w':=by
 unfold jg at hq'
 split at hq' <;> try (cases hq';done)
 rename_i i hi
 split at hq' <;> try (cases hq';done)
 rename_i kt et hmk
 split at hq' <;> try (cases hq';done)
 rename_i ki hki
 split at hq' <;> try (cases hq';done)
 rename_i hv hx
 split at hq' <;> try (cases hq';done)
 rename_i kk kv y hkk hix hvv
 split at hq' <;> try (cases hq';done)
 rename_i m hm
 unfold xz at hq'
 split at hq' <;> try (cases hq';done)
 rename_i id k0
 split at hq' <;> try (cases hq';done)
 rename_i kk' n f hob
 simp only [Option.some.injEq] at hq'
 subst hq'
 obtain ⟨rfl,hok,hn⟩:=hp
 obtain ⟨ii,d,h1,h2,h3,_⟩:=bd (hE t i hi)
 have ht:P.underlying t = some (.map kt et):=by
  rw [h2]
  have h4:=h3.symm.trans hmk
  cases d <;> simp [fy] at h4
  grind
 obtain ⟨K,hkey⟩:=a5l hE hki hkk
 obtain ⟨b,es,clock,q1,q2,q3,q4,q5,q6,q7,q8,q9⟩:=h.objs id _ hob
 obtain ⟨_,_,g3⟩:=ai h hx
 obtain ⟨g4,g5⟩:=g3 _ _ _ _ hob rfl
 have hu:a.eval x = .map (some b):=by rw [g5 (by omega),q1]
 obtain ⟨hu2,_⟩:=ai h hix
 have hu3:bc c.imm y (a.eval v):=ai h hvv
 obtain ⟨l,hl⟩:=hkey m hok
 have hmv:=a4m hm
 rw [hmv] at hl
 obtain ⟨es',clock',hrun,hst,hsz,hall,hnew,hold⟩:=a9y (val:=a.eval v) K ht q4 (by omega) q5 (fun x hx=>by
  obtain ⟨key,y,r1,r2,_⟩:=q8 x hx
  rw [r1]
  exact hkey key (MK.ok_base.2 (q9 key y r2).1)) hl
 rw [hu,hu2]
 have hblk:=Go.ChangeMaps.heap_setBlock_same q4 (.map es' clock')
 refine ⟨_,_,hrun,(by rfl),h.write id _ hob (.mp kk' (n + 1) (um f m y)) (Go.ChangeMaps.setBlock w b (.map es' clock')) (c.own id) (c.blk id) (some b) (by
  exact ⟨⟨rfl,rfl,rfl,by simp [Go.ChangeMaps.setBlock],fun i _ hi=>Go.ChangeMaps.heap_setBlock_other q4 _ (fun e=>hi (by rw [e]))⟩,Nat.le_refl _⟩) (fun b' hb'=>by cases hb';rw [q2];rfl)
  (.inr (.inr ⟨_, .mp kk' (n + 1) (um f m y),0,0,0,0,hob,rfl,by simp [S.setO],rfl,Nat.le_refl _,fun _=>by simp,fun _ _ _ _ _ _ _ hb=>by cases hb⟩)) (fun b hb=>.inl hb)
  ⟨b,es',clock',by simpa using q1,by simpa using q2,q3,hblk,hst,by omega,by omega,fun x' hx'=>?_,fun key y' hy'=>?_⟩⟩
 · rcases hall x' hx' with ⟨r1,r2⟩ | ⟨r1,r2⟩
   · obtain ⟨key,y0,t1,t2,t3⟩:=q8 x' r1
     refine ⟨key,y0,t1, ?_,t3⟩
     have hne:key.same m = false:=by
      rw [Bool.eq_false_iff]
      intro hs
      rw [MK.same_iff.1 hs] at t1
      grind
     unfold um
     grind
   refine ⟨m,y,r1.trans hmv.symm, ?_,by rw [r2];exact hu3⟩
   unfold um
   rw [MK.same_iff.2 rfl]
   rfl
 unfold um at hy'
 cases hs:key.same m with
 | true =>
  rw [MK.same_iff.1 hs]
  obtain ⟨x0,hx0,hk0⟩:=hnew
  exact ⟨MK.ok_base.1 hok,x0,hx0,hk0.trans hmv.symm⟩
 | false =>
  grind
theorem a02 {w:World} {base el sz:Nat} {v:Value} {n g cap r j:Nat} {xs news:List Value} {cur:Array Value} (hxl:xs.length = n * sz) (hown:v = .slice (some ⟨g,0,none⟩) n cap) (hbase:base ≤ g) (hheap:w.heap[g]? = some (.cells cur el (0,0))) (hnc:n ≤ cap) (hcm:cap ≤ maxLen) (hcs:cur.size = cap * sz) (htake:cur.toList.take (n * sz) = xs)
 (hr:r < n) (hj:j + news.length ≤ sz):(w.setRow g (cur.toList.take (r * sz + j) ++ news ++ cur.toList.drop (r * sz + j + news.length)).toArray).ownsRow base el sz v n (xs.take (r * sz + j) ++ news ++ xs.drop (r * sz + j + news.length)) ∧
 ∀ (ps:List PV) (f:Nat → Nat → PV) (imm:Imm),eb imm ps news → (∀ i j,i < n → j < sz → ∃ x,xs[i * sz + j]? = some x ∧ bc imm (f i j) x) → ∀ p q,p < n → q < sz → ∃ x,(xs.take (r * sz + j) ++ news ++ xs.drop (r * sz + j + news.length))[p * sz + q]? = some x ∧ bc imm (gt f r j ps p q) x:=by
 have hlt:(r + 1) * sz ≤ n * sz:=Nat.mul_le_mul_right _ (by omega)
 have hlt2:n * sz ≤ cap * sz:=Nat.mul_le_mul_right _ hnc
 rw [Nat.add_mul] at hlt
 refine ⟨⟨?_, .inr ⟨g,cap,_,hown,hbase,setRow_heap w g cur _ el _ hheap,hnc,hcm, ?_, ?_⟩⟩,fun ps f imm hP h4 p q hp hq=>?_⟩
 · rw [yk _ _ _ (by omega)];exact hxl
 · grind
 · apply List.ext_getElem?
   intro k
   have hcl':cur.toList.length = cap * sz:=by simpa using hcs
   rw [List.getElem?_take,List.toList_toArray]
   have e1:=cu cur.toList news (r * sz + j) k (by rw [hcl'];omega)
   have e2:=cu xs news (r * sz + j) k (by rw [hxl];omega)
   rw [e1,e2]
   by_cases hk:k < n * sz
   · rw [if_pos hk]
     grind
   rw [if_neg hk,if_neg (by omega)]
   grind
 have e2:=cu xs news (r * sz + j) (p * sz + q) (by rw [hxl];omega)
 rw [e2]
 have hpl:=hP.length
 have hpq:(r * sz + j ≤ p * sz + q ∧ p * sz + q < r * sz + j + news.length) ↔ (p = r ∧ j ≤ q ∧ q < j + ps.length):=by
  rw [hpl]
  constructor
  · rintro ⟨g1,g2⟩
    have:p = r:=by
     rcases Nat.lt_trichotomy p r with hlt | heq | hgt
     · have:(p + 1) * sz ≤ r * sz:=Nat.mul_le_mul_right _ (by omega)
       grind
     · exact heq
     have:(r + 1) * sz ≤ p * sz:=Nat.mul_le_mul_right _ (by omega)
     grind
    grind
  grind
 unfold gt
 by_cases hc:p = r ∧ j ≤ q ∧ q < j + ps.length
 · rw [if_pos (hpq.2 hc),if_pos hc]
   obtain ⟨rfl,g1,g2⟩:=hc
   obtain ⟨u,hu',hru⟩:=hP.get (q - j) ps[q - j] (List.getElem?_eq_getElem (by omega))
   refine ⟨u, ?_,by simpa [List.getD,List.getElem?_eq_getElem (show q - j < ps.length by omega)] using hru⟩
   rw [show p * sz + q - (p * sz + j) = q - j by omega]
   exact hu'
 rw [if_neg (fun hh=>hc (hpq.1 hh)),if_neg hc]
 simp_all
theorem ad8 (hE:cr P E) (h:ak w0 nt c s a w) {o:Oper} {u:Upd} (hq':hs E s.o (ev s) o.op = some u) (hp:u.pre) :
 ∃ w' c',(execOp a.eval o).run P w = .ok .skip w' ∧ c'.old = c.old ∧ ak w0 nt c' (s.setO u.id (some u.ob)) a w':=by
 cases ho:o.op <;> rw [ho] at hq' <;> simp only [hs] at hq' <;> try (cases hq';done)
 case mapUpdate t x ix v =>
  obtain ⟨w',c',h1,h2,h3⟩:=a03 hE h hq' hp
  exact ⟨w',c',by simp [execOp,ho,h1],h2,h3⟩
 case insert t x ix v =>
  obtain ⟨w',c',h1,h2,h3⟩:=a03 hE h hq' hp
  exact ⟨w',c',by simp [execOp,ho,h1],h2,h3⟩
 case store t addr v =>
  have hexec:∀ w',(Instr.storeAt t (a.eval addr) (a.eval v)).run P w = .ok () w' → (execOp a.eval o).run P w = .ok .skip w':=by
   intro w' hw
   unfold execOp
   simp [ho,hw]
  unfold j4 at hq'
  split at hq' <;> try (cases hq';done)
  · rename_i i cc id off hi hv had
    split at hq' <;> try (cases hq';done)
    rename_i l hl
    split at hq' <;> try (cases hq';done)
    rename_i hdec
    have hlen:=of_decide_eq_true hdec
    simp only [Option.some.injEq] at hq'
    subst hq'
    have hp':off + i.size ≤ l.length:=hp
    obtain ⟨hcl,hsz⟩:=ji (x:=cc) (ai h hv)
    obtain ⟨_,_,h3⟩:=ai h had
    obtain ⟨b,hb,hu⟩:=h3 l hl
    obtain ⟨b',C,e,h1,h1',h2,h4,h5⟩:=h.objs id _ hl
    rw [hb] at h1
    simp only [Value.pointer.injEq,Option.some.injEq,Addr.mk.injEq,and_true] at h1
    subst h1
    have hCl:=h5.length
    have hst:=run_storeCells_at P b off e (a.eval v).cells.toList 0 C w h4 (by simp at hCl ⊢;omega) (hcl.oneCell)
    simp only [Nat.add_zero,Array.length_toList] at hst
    refine ⟨_,_,hexec _ ?_,(by rfl),h.write id _ hl (.box (bp l off cc.cells)) (w.setRow b (C.toList.take off ++ (a.eval v).cells.toList ++ C.toList.drop (off + (a.eval v).cells.size)).toArray) (c.own id) (c.blk id) (some b) (jo _ _ _) (fun b' hb'=>by cases hb';rw [h1'];rfl) (.inr (.inl ⟨l,bp l off cc.cells,hl,by simp [S.setO],by simp⟩)) (fun b hb=>.inl hb)
     ⟨b,_,e,by simpa using hb,by simpa using h1',h2,setRow_heap w b C _ e _ h4, ?_⟩⟩
    · have hs':(sizeOf t).run P w = .ok i.size w:=dw (hE t i hi) w
      have hne:¬ ((a.eval v).cells.size ≠ i.size):=by omega
      simp only [Instr.storeAt,hu,Instr.sureAddr,Sem.run_bind,Sem.run_pure,Result.andThen_ok,storeVar,hs',Sem.run_ite,if_neg hne]
      exact hst
    have:=(((h5.take off).append hcl).append (h5.drop (off + cc.cells.length)))
    rw [hsz] at this
    have h6:bh c s.o (bp l off cc.cells) (C.toList.take off ++ (a.eval v).cells.toList ++ C.toList.drop (off + (a.eval v).cells.size)):=by
     unfold bp
     rw [hsz]
     exact this
    have h7:bh c s.o (bp l off cc.cells) ((C.toList.take off ++ (a.eval v).cells.toList ++ C.toList.drop (off + (a.eval v).cells.size)).toArray).toList:=h6
    refine bh.evo (c:=c) (o:=s.o) ?_ (fun k _=>?_) h7
    · exact Imm.le.refl c.imm
    by_cases hk:k = id
    · subst hk
      exact .inr (.inl ⟨l,bp l off cc.cells,hl,by simp [S.setO],by simp⟩)
    exact Evo.of_same (by simp [S.setO,hk]) (by simp [hk])
  · rename_i i cc id n r j hi hv had
    split at hq' <;> try (cases hq';done)
    rotate_left
    · rename_i _ sz el n' ms f hob
      split at hq' <;> try (cases hq';done)
      rename_i hdec
      have hlen:=of_decide_eq_true hdec
      simp only [Option.some.injEq] at hq'
      subst hq'
      obtain ⟨rfl,hr,hj⟩:=hp
      obtain ⟨hcl,hsz⟩:=ji (x:=cc) (ai h hv)
      obtain ⟨_,_,h3⟩:=ai h had
      obtain ⟨b,off,cap,hb,hu⟩:=(h3 _ _ _ _ hob rfl).2 rfl hr
      have hobj:=h.objs id _ hob
      obtain ⟨h0,h1,h1m,h5⟩:=hobj
      obtain ⟨h6,xs,h2,h4⟩:c.blk id = er (c.own id) ∧ ∃ xs,w.ownsRow 0 el sz (c.own id) n' xs ∧ ∀ i j,i < n' → j < sz → ∃ x,xs[i * sz + j]? = some x ∧ bq c s.o (f i j) x:=by
       rcases h5 with h5 | ⟨h6,_⟩
       · exact h5
       omega
      obtain ⟨hxl,hrow⟩:=h2
      rcases hrow with ⟨hv0,_⟩ | ⟨g,cap',cur,hown,hbase,hheap,hnc,hcm,hcs,htake⟩
      · rw [hv0] at hb;cases hb
      rw [hown] at hb
      simp only [Value.slice.injEq,Option.some.injEq,Addr.mk.injEq,and_true,true_and] at hb
      obtain ⟨⟨rfl,rfl⟩,rfl⟩:=hb
      rw [Nat.zero_add] at hu
      have hpl:cc.cells.length = i.size:=hlen
      have hlt:(r + 1) * sz ≤ n' * sz:=Nat.mul_le_mul_right _ (by omega)
      have hlt2:n' * sz ≤ cap' * sz:=Nat.mul_le_mul_right _ hnc
      rw [Nat.add_mul] at hlt
      have hsize:(a.eval v).cells.size = i.size:=by omega
      have hst:=run_storeCells_at P g (r * sz + j) el (a.eval v).cells.toList 0 cur w hheap (by simp [hcs,hsize];omega) (hcl.oneCell)
      simp only [Nat.add_zero,Array.length_toList] at hst
      have hblk:c.blk id g:=by rw [h6,hown];rfl
      have hnl:(a.eval v).cells.toList.length = i.size:=by simp [hsize]
      obtain ⟨hw1,_⟩:=a02 (news:=(a.eval v).cells.toList) (r:=r) (j:=j) hxl hown hbase hheap hnc hcm hcs htake hr (by rw [hnl];exact hj)
      rw [Array.length_toList] at hw1
      have hev:Evo c s.o { old:=c.old,imm:=c.imm,tab:=c.tab,own:=fun k=>if k = id then c.own id else c.own k,blk:=fun k=>if k = id then c.blk id else c.blk k,rows:=c.rows } (s.setO id (some (.arrh sz el n' (gl cc.cells ++ ms) (sk f r j cc.cells)))).o id :=
       .inr (.inr ⟨_, .arrh sz el n' (gl cc.cells ++ ms) (sk f r j cc.cells),sz,el,n',n',hob,rfl,by simp [S.setO],rfl,Nat.le_refl _,fun _=>by simp,fun _ _ _ _ _ _ _ hb=>by cases hb⟩)
      have hevo:∀ k,Evo c s.o { old:=c.old,imm:=c.imm,tab:=c.tab,own:=fun k=>if k = id then c.own id else c.own k,blk:=fun k=>if k = id then c.blk id else c.blk k,rows:=c.rows } (s.setO id (some (.arrh sz el n' (gl cc.cells ++ ms) (sk f r j cc.cells)))).o k:=fun k=>by
       by_cases hk:k = id
       · subst hk;exact hev
       exact Evo.of_same (by simp [S.setO,hk]) (by simp [hk])
      refine ⟨_,_,hexec _ ?_,(by rfl),h.write id _ hob (.arrh sz el n' (gl cc.cells ++ ms) (sk f r j cc.cells)) (w.setRow g (cur.toList.take (r * sz + j) ++ (a.eval v).cells.toList ++ cur.toList.drop (r * sz + j + (a.eval v).cells.size)).toArray) (c.own id) (c.blk id) (some g) (jo _ _ _) (fun b' hb'=>by cases hb';exact hblk) hev (fun b hb=>.inl hb)
       ⟨h0,h1,fun p q k hp hq hk=>?_, .inl ⟨by simpa using h6,xs.take (r * sz + j) ++ (a.eval v).cells.toList ++ xs.drop (r * sz + j + (a.eval v).cells.toList.length),by simpa using hw1,fun p q hp hq=>?_⟩⟩⟩
      · have hs':(sizeOf t).run P w = .ok i.size w:=dw (hE t i hi) w
        have hne:¬ ((a.eval v).cells.size ≠ i.size):=by omega
        simp only [Instr.storeAt,hu,Instr.sureAddr,Sem.run_bind,Sem.run_pure,Result.andThen_ok,storeVar,hs',Sem.run_ite,if_neg hne]
        exact hst
      · unfold sk at hk
        split at hk
        · rename_i hc
          refine List.mem_append_left _ (jx ⟨_, ?_,hk⟩)
          have:q - j < cc.cells.length:=by omega
          rw [List.getD_eq_getElem?_getD,List.getElem?_eq_getElem this]
          exact List.getElem_mem this
        exact List.mem_append_right _ (h1m p q k hp hq hk)
      have e2:=cu xs (a.eval v).cells.toList (r * sz + j) (p * sz + q) (by rw [hnl,hxl];omega)
      rw [e2]
      have hpq:(r * sz + j ≤ p * sz + q ∧ p * sz + q < r * sz + j + (a.eval v).cells.toList.length) ↔ (p = r ∧ j ≤ q ∧ q < j + cc.cells.length):=by
       rw [hnl,hpl]
       constructor
       · rintro ⟨g1,g2⟩
         have:p = r:=by
          rcases Nat.lt_trichotomy p r with hlt | heq | hgt
          · have:(p + 1) * sz ≤ r * sz:=Nat.mul_le_mul_right _ (by omega)
            rw [Nat.add_mul] at this
            omega
          · exact heq
          have:(r + 1) * sz ≤ p * sz:=Nat.mul_le_mul_right _ (by omega)
          rw [Nat.add_mul] at this
          omega
         subst this
         omega
       rintro ⟨rfl,g1,g2⟩
       omega
      unfold sk
      by_cases hc:p = r ∧ j ≤ q ∧ q < j + cc.cells.length
      · rw [if_pos (hpq.2 hc),if_pos hc]
        obtain ⟨rfl,g1,g2⟩:=hc
        obtain ⟨u,hu',hru⟩:=hcl.get (q - j) cc.cells[q - j] (List.getElem?_eq_getElem (by omega))
        refine ⟨u, ?_,bq.evo (c:=c) (o:=s.o) (Imm.le.refl c.imm) (fun k _=>hevo k) (by simpa [List.getD,List.getElem?_eq_getElem (show q - j < cc.cells.length by omega)] using hru)⟩
        rw [show p * sz + q - (p * sz + j) = q - j by omega]
        exact hu'
      rw [if_neg (fun hh=>hc (hpq.1 hh)),if_neg hc]
      obtain ⟨u,hu',hru⟩:=h4 p q hp hq
      exact ⟨u,hu',bq.evo (c:=c) (o:=s.o) (Imm.le.refl c.imm) (fun k _=>hevo k) hru⟩
    rename_i sz el n' f ps hob hps
    split at hq' <;> try (cases hq';done)
    rename_i hdec
    have hlen:=of_decide_eq_true hdec
    simp only [Option.some.injEq] at hq'
    subst hq'
    obtain ⟨rfl,hr,hj⟩:=hp
    obtain ⟨hcl,hsz⟩:=ji (x:=cc) (ai h hv)
    have hP:=m7 hcl hps
    obtain ⟨_,_,h3⟩:=ai h had
    obtain ⟨b,off,cap,hb,hu⟩:=(h3 _ _ _ _ hob rfl).2 rfl hr
    have hobj:=h.objs id _ hob
    obtain ⟨h0,h1,h5⟩:=hobj
    obtain ⟨h6,xs,h2,h4⟩:c.blk id = er (c.own id) ∧ ∃ xs,w.ownsRow 0 el sz (c.own id) n' xs ∧ ∀ i j,i < n' → j < sz → ∃ x,xs[i * sz + j]? = some x ∧ bc c.imm (f i j) x:=by
     rcases h5 with h5 | ⟨h6 | h6,_⟩
     · exact h5
     · cases h6
     omega
    have h2':=h2
    obtain ⟨hxl,hrow⟩:=h2
    rcases hrow with ⟨hv0,_⟩ | ⟨g,cap',cur,hown,hbase,hheap,hnc,hcm,hcs,htake⟩
    · rw [hv0] at hb;cases hb
    rw [hown] at hb
    simp only [Value.slice.injEq,Option.some.injEq,Addr.mk.injEq,and_true,true_and] at hb
    obtain ⟨⟨rfl,rfl⟩,rfl⟩:=hb
    rw [Nat.zero_add] at hu
    have hpl:ps.length = i.size:=by rw [← hP.length,Array.length_toList,← hsz,hlen]
    have hlt:(r + 1) * sz ≤ n' * sz:=Nat.mul_le_mul_right _ (by omega)
    have hlt2:n' * sz ≤ cap' * sz:=Nat.mul_le_mul_right _ hnc
    rw [Nat.add_mul] at hlt
    have hsize:(a.eval v).cells.size = i.size:=by omega
    have hst:=run_storeCells_at P g (r * sz + j) el (a.eval v).cells.toList 0 cur w hheap (by simp [hcs,hsize];omega) (hcl.oneCell)
    simp only [Nat.add_zero,Array.length_toList] at hst
    have hblk:c.blk id g:=by rw [h6,hown];rfl
    have hnl:(a.eval v).cells.toList.length = i.size:=by simp [hsize]
    refine ⟨_,_,hexec _ ?_,(by rfl),h.write id _ hob (.arr true sz el n' (gt f r j ps)) (w.setRow g (cur.toList.take (r * sz + j) ++ (a.eval v).cells.toList ++ cur.toList.drop (r * sz + j + (a.eval v).cells.size)).toArray) (c.own id) (c.blk id) (some g) (jo _ _ _) (fun b' hb'=>by cases hb';exact hblk) (.inr (.inr ⟨_, .arr true sz el n' (gt f r j ps),sz,el,n',n',hob,rfl,by simp [S.setO],rfl,Nat.le_refl _,fun _=>by simp,fun _ _ _ _ _ _ _ hb=>by cases hb⟩)) (fun b hb=>.inl hb)
     ⟨h0,h1, .inl ⟨by simpa using h6,xs.take (r * sz + j) ++ (a.eval v).cells.toList ++ xs.drop (r * sz + j + (a.eval v).cells.toList.length), ?_,fun p q hp hq=>?_⟩⟩⟩
    · have hs':(sizeOf t).run P w = .ok i.size w:=dw (hE t i hi) w
      have hne:¬ ((a.eval v).cells.size ≠ i.size):=by omega
      simp only [Instr.storeAt,hu,Instr.sureAddr,Sem.run_bind,Sem.run_pure,Result.andThen_ok,storeVar,hs',Sem.run_ite,if_neg hne]
      exact hst
    · refine ⟨?_, .inr ⟨g,cap',_,by simpa using hown,hbase,setRow_heap w g cur _ el _ hheap,hnc,hcm, ?_, ?_⟩⟩
      · rw [yk _ _ _ (by rw [hnl];omega)];exact hxl
      · simp only [List.size_toArray,List.length_append,List.length_take,List.length_drop,Array.length_toList]
        omega
      apply List.ext_getElem?
      intro k
      have hcl':cur.toList.length = cap' * sz:=by simpa using hcs
      rw [List.getElem?_take,List.toList_toArray]
      have e1:=cu cur.toList (a.eval v).cells.toList (r * sz + j) k (by rw [hnl,hcl'];omega)
      have e2:=cu xs (a.eval v).cells.toList (r * sz + j) k (by rw [hnl,hxl];omega)
      rw [hnl] at e1 e2
      rw [hsize,hnl,e1,e2]
      by_cases hk:k < n' * sz
      · rw [if_pos hk]
        split
        · rfl
        rw [← htake,List.getElem?_take,if_pos hk]
      rw [if_neg hk,if_neg (by omega)]
      exact (List.getElem?_eq_none (by omega)).symm
    have e2:=cu xs (a.eval v).cells.toList (r * sz + j) (p * sz + q) (by rw [hnl,hxl];omega)
    rw [e2]
    have hpq:(r * sz + j ≤ p * sz + q ∧ p * sz + q < r * sz + j + (a.eval v).cells.toList.length) ↔ (p = r ∧ j ≤ q ∧ q < j + ps.length):=by
     rw [hnl,hpl]
     constructor
     · rintro ⟨g1,g2⟩
       have:p = r:=by
        rcases Nat.lt_trichotomy p r with hlt | heq | hgt
        · have:(p + 1) * sz ≤ r * sz:=Nat.mul_le_mul_right _ (by omega)
          rw [Nat.add_mul] at this
          omega
        · exact heq
        have:(r + 1) * sz ≤ p * sz:=Nat.mul_le_mul_right _ (by omega)
        rw [Nat.add_mul] at this
        omega
       subst this
       omega
     rintro ⟨rfl,g1,g2⟩
     omega
    unfold gt
    by_cases hc:p = r ∧ j ≤ q ∧ q < j + ps.length
    · rw [if_pos (hpq.2 hc),if_pos hc]
      obtain ⟨rfl,g1,g2⟩:=hc
      obtain ⟨u,hu',hru⟩:=hP.get (q - j) ps[q - j] (List.getElem?_eq_getElem (by omega))
      refine ⟨u, ?_,by simpa [List.getD,List.getElem?_eq_getElem (show q - j < ps.length by omega)] using hru⟩
      rw [show p * sz + q - (p * sz + j) = q - j by omega]
      exact hu'
    rw [if_neg (fun hh=>hc (hpq.1 hh)),if_neg hc]
    exact h4 p q hp hq
  rename_i i cc id ri k r j hi hv had
  split at hq' <;> try (cases hq';done)
  rename_i el et es n m g0 pd ps hob hps
  split at hq' <;> try (cases hq';done)
  rename_i hdec
  have hlen:=of_decide_eq_true hdec
  simp only [Option.some.injEq] at hq'
  subst hq'
  obtain ⟨hri,rfl,hr,hj⟩:=hp
  obtain ⟨hcl,hsz⟩:=ji (x:=cc) (ai h hv)
  have hP:=m7 hcl hps
  obtain ⟨_,h3⟩:=ai h had
  obtain ⟨_,_,h4⟩:=h3 _ _ _ _ _ _ _ hob
  obtain ⟨b,off,cap,hb,hu⟩:=h4 rfl hr
  have hnk:jl 0 c s.o w id el et es n m g0 pd:=h.objs id _ hob
  obtain ⟨ys,hrow,hys⟩:∃ ys,w.ownsRow 0 et es (c.rows id ri) (m ri) ys ∧ ∀ r j,r < m ri → j < es → ∃ x,ys[r * es + j]? = some x ∧ bc c.imm (g0 ri r j) x:=by
   rcases hnk.row ri hri with ⟨h0,_⟩ | h1
   · omega
   exact h1
  have hcb:ci (c.rows id ri) = some b:=by
   rcases fb hrow with ⟨h0,_⟩ | ⟨b',cap',rv,rb⟩
   · omega
   rw [rb]
   rw [rv] at hb
   simp only [Value.slice.injEq,Option.some.injEq,Addr.mk.injEq] at hb
   rw [hb.1.1]
  obtain ⟨hyl,hform⟩:=hrow
  rcases hform with ⟨hv0,_⟩ | ⟨g,cap',cur,hown,hbase,hheap,hnc,hcm,hcs,htake⟩
  · rw [hv0] at hb;cases hb
  rw [hown] at hb
  simp only [Value.slice.injEq,Option.some.injEq,Addr.mk.injEq,and_true,true_and] at hb
  obtain ⟨⟨rfl,rfl⟩,rfl⟩:=hb
  rw [Nat.zero_add] at hu
  have hsize:(a.eval v).cells.size = i.size:=by omega
  have hnl:(a.eval v).cells.toList.length = i.size:=by simp [hsize]
  have hlt:(r + 1) * es ≤ m ri * es:=Nat.mul_le_mul_right _ (by omega)
  have hlt2:m ri * es ≤ cap' * es:=Nat.mul_le_mul_right _ hnc
  rw [Nat.add_mul] at hlt
  have hst:=run_storeCells_at P g (r * es + j) et (a.eval v).cells.toList 0 cur w hheap (by simp [hcs,hsize];omega) (hcl.oneCell)
  simp only [Nat.add_zero,Array.length_toList] at hst
  have hblk:c.blk id g:=(hnk.blks g).2 (.inr ⟨ri,hri,hcb⟩)
  obtain ⟨hw1,hw2⟩:=a02 (news:=(a.eval v).cells.toList) (r:=r) (j:=j) hyl hown hbase hheap hnc hcm hcs htake hr (by rw [hnl];exact hj)
  rw [Array.length_toList] at hw1
  have hother:∀ b':Nat,b' ≠ g → (w.setRow g (cur.toList.take (r * es + j) ++ (a.eval v).cells.toList ++ cur.toList.drop (r * es + j + (a.eval v).cells.size)).toArray).heap[b']? = w.heap[b']?:=fun b' hne=>setRow_other w g b' _ hne
  have hevo:∀ k,Evo c s.o { old:=c.old,imm:=c.imm,tab:=c.tab,own:=fun k=>if k = id then c.own id else c.own k,blk:=fun k=>if k = id then c.blk id else c.blk k,rows:=c.rows } (s.setO id (some (.nest el et es n m (ol g0 ri r j ps) pd))).o k:=fun k=>by
   by_cases hk:k = id
   · subst hk
     exact .inr (.inr ⟨_,_,1,el,n + li pd,n + li pd,hob,vh,(by show (if k = k then _ else _) = _;rw [if_pos rfl]),vh,Nat.le_refl _,fun _=>by simp,fun e2 et2 es2 n2 m2 g2 pd2 hb2=>by
      cases hb2
      exact ⟨_,_,_,_,_,_,rfl,Nat.le_refl _,fun i _=>⟨Nat.le_refl _,fun _=>rfl⟩⟩⟩)
   exact Evo.of_same (by simp [S.setO,hk]) (by simp [hk])
  refine ⟨_,_,hexec _ ?_,(by rfl),h.write id _ hob (.nest el et es n m (ol g0 ri r j ps) pd) (w.setRow g (cur.toList.take (r * es + j) ++ (a.eval v).cells.toList ++ cur.toList.drop (r * es + j + (a.eval v).cells.size)).toArray) (c.own id) (c.blk id) (some g) (jo _ _ _) (fun b' hb'=>by cases hb';exact hblk) (hevo id) (fun b hb=>.inl hb) ?_⟩
  · have hs':(sizeOf t).run P w = .ok i.size w:=dw (hE t i hi) w
    have hne:¬ ((a.eval v).cells.size ≠ i.size):=by omega
    simp only [Instr.storeAt,hu,Instr.sureAddr,Sem.run_bind,Sem.run_pure,Result.andThen_ok,storeVar,hs',Sem.run_ite,if_neg hne]
    exact hst
  refine ⟨hnk.pos,hnk.len,hnk.lens,by simpa using hnk.blks,by simpa using hnk.apart,fun a hai=>?_, ?_⟩
  · by_cases har:a = ri
    · subst har
      refine .inr ⟨_,hw1,fun p q hp hq=>?_⟩
      rw [Array.length_toList] at hw2
      obtain ⟨x,hx,hxr⟩:=hw2 ps (g0 a) c.imm hP hys p q hp hq
      refine ⟨x,hx, ?_⟩
      show bc c.imm (ol g0 a r j ps a p q) x
      unfold ol
      rw [if_pos rfl]
      exact hxr
    rcases hnk.row a hai with r0 | ⟨zs,r1,r2⟩
    · exact .inl r0
    rcases fb r1 with r0 | ⟨b',cap2,rv,rb⟩
    · exact .inl r0
    refine .inr ⟨zs,j0 r1 fun b2 hb2=>hother b2 fun e2=>?_,fun p q hp hq=>?_⟩
    · rw [rv] at hb2
      simp only [c3,Option.some.injEq] at hb2
      subst hb2
      subst e2
      exact har ((hnk.apart ri b' hri hcb).2 a hai rb)
    obtain ⟨x,hx,hxr⟩:=r2 p q hp hq
    refine ⟨x,hx, ?_⟩
    show bc c.imm (ol g0 ri r j ps a p q) x
    unfold ol
    rw [if_neg har]
    exact hxr
  simp only [if_true]
  rcases hnk.top with r0 | ⟨xs,t1,t2,t3⟩
  · exact .inl r0
  rcases fb t1 with r0 | ⟨b',cap2,rv,rb⟩
  · exact .inl r0
  refine .inr ⟨xs,j0 t1 fun b2 hb2=>hother b2 fun e2=>?_,t2,fun p hp=>?_⟩
  · rw [rv] at hb2
    simp only [c3,Option.some.injEq] at hb2
    subst hb2
    subst e2
    exact (hnk.apart ri b' hri hcb).1 rb
  obtain ⟨x,hx,hxr⟩:=t3 p hp
  exact ⟨x,hx,bq.evo (c:=c) (o:=s.o) (Imm.le.refl c.imm) (fun k _=>hevo k) hxr⟩
end
end
end Go.Hx
