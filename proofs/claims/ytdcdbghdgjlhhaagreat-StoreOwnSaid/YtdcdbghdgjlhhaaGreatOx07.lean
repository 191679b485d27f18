/- A part of the proof: Hx9. -/
import Derived.Test.YtdcdbghdgjlhhaaGreatOx06
set_option linter.all false
namespace Go.Hx
section
open Go.RowKit
section
variable {P:Program} {E:Env} {w0:World} {nt:Nat} {c:Ctx} {s:S} {a:Act} {w:World}
def eo (n:Nat) (f g:Nat → Nat → PV):Nat → Nat → PV:=fun i j=>if i < n then f i j else g (i - n) j
def ql (o:aw) (id:Nat):HV → Option (Prop × Nat × Nat × (Nat → Nat → PV))
 | .p (.sl m sz _ g)=>some (True,m,sz,g)
 | .p (.raw (.slice _ 0 _))=>some (True,0,1,fun _ _=>.any)
 | .ref id' m =>
  match Nat.beq id id',o id' with
  | false,some (.arr _ sz _ m' g)=>some (m' = m,m,sz,g)
  | _,_=>none
 | _=>none
def mj (E:Env) (o:aw) (id:Nat) (n:Nat) (wb:Bool) (el:TypeId) (y:HV):Option Upd :=
 match E el,o id,ql o id y with
 | some ei,some (.arr wr sz el' n' f),some (p,m,sz',g) =>
  match ei.zero with
  | some z =>
   match decide (z.length = ei.size) with
   | true=>some ⟨p ∧ n' = n ∧ el' = el ∧ ei.size = sz ∧ (sz' = sz ∨ m = 0) ∧ n + m ≤ 9223372036854775807 ∧ (n + m) * ei.bytes ≤ 140737488355328 ∧ (wb = true → wr = true ∨ 0 < m),id, .arr wb sz el (n + m) (eo n f g)⟩
   | false=>none
  | none=>none
 | _,_,_=>none
def gm (n:Nat) (f g:Nat → Nat → HV):Nat → Nat → HV:=fun i j=>if i < n then f i j else g (i - n) j
def x7 (o:aw) (id:Nat) (y:HV):Option (Prop × Nat × Nat × List Nat × (Nat → Nat → HV)) :=
 match ql o id y with
 | some (p,m,sz,g)=>some (p,m,sz,[],fun i j=>.p (g i j))
 | none =>
  match y with
  | .ref id' m =>
   match Nat.beq id id',o id' with
   | false,some (.arrh sz _ m' ms g)=>some (m' = m,m,sz,ms,g)
   | _,_=>none
  | _=>none
def su (E:Env) (o:aw) (id:Nat) (n:Nat) (el:TypeId) (y:HV):Option Upd :=
 match E el,o id,x7 o id y with
 | some ei,some (.arrh sz el' n' ms f),some (p,m,sz',ms',g) =>
  match ei.zero with
  | some z =>
   match decide (z.length = ei.size) with
   | true=>some ⟨p ∧ n' = n ∧ el' = el ∧ ei.size = sz ∧ (sz' = sz ∨ m = 0) ∧ n + m ≤ 9223372036854775807 ∧ (n + m) * ei.bytes ≤ 140737488355328,id, .arrh sz el (n + m) (ms' ++ ms) (gm n f g)⟩
   | false=>none
  | none=>none
 | _,_,_=>none
def a0h (E:Env) (o:aw) (id:Nat) (n:Nat) (el:TypeId) (y:HV):Option Upd :=
 match E el,o id,x7 o id y with
 | some ei,some (.nest e et es n' m g none),some (p,1,sz',ms',gg) =>
  match gg 0 0 with
  | .ref id' k =>
   match ei.zero with
   | some z =>
    match decide (z.length = ei.size) with
    | true=>some ⟨p ∧ n' = n ∧ e = el ∧ ei.size = 1 ∧ sz' = 1 ∧ n + 1 ≤ 9223372036854775807 ∧ (n + 1) * ei.bytes ≤ 140737488355328,id, .nest e et es n' m g (some (id',k))⟩
    | false=>none
   | none=>none
  | _=>none
 | _,_,_=>none
structure App where
 pre:Prop
 val:HR
 id:Nat
 ob:af
 new:Bool
def mvF (f:Nat → Nat → PV) (p j m:Nat):Nat → Nat → PV:=fun a b=>if p ≤ a ∧ a < p + m then f (a - p + j) b else f a b
def a2k (f:Nat → Nat → PV) (i m:Nat) (z:List Value):Nat → Nat → PV:=fun a b=>if i ≤ a ∧ a < i + m then js (z.getD b (.bool false)) else f a b
def vt (E:Env) (o:aw) (el:TypeId) (id n i k:Nat):HV → Option App
 | .win id2 n2 j m =>
  match Nat.beq id2 id,E el,o id with
  | true,some ei,some (.arr true sz el' n' f)=>some ⟨n' = n ∧ n2 = n ∧ ei.size = sz ∧ i + k + m ≤ n, .v (.one (.win id n i (k + m))),id, .arr true sz el' n' (mvF f (i + k) j m),false⟩
  | _,_,_=>none
 | _=>none
def a2n (o:aw) (z:List Value) (size:Nat):HV → Option App
 | .win id n i m =>
  match o id with
  | some (.arr true sz el n' f)=>some ⟨n' = n ∧ size = sz, .tup [],id, .arr true sz el n' (a2k f i m z),false⟩
  | _=>none
 | _=>none
def se (E:Env) (o:aw) (e:Ev):List Operand → List TypeId → Option App
 | [x],[t] =>
  match E t with
  | some ti =>
   match ti.k with
   | .slice el =>
    match E el with
    | some ei =>
     match ei.zero with
     | some z =>
      match kz z,decide (z.length = ei.size) with
      | true,true =>
       match e x with
       | some (.v (.one h))=>a2n o z ei.size h
       | _=>none
      | _,_=>none
     | none=>none
    | none=>none
   | _=>none
  | none=>none
 | _,_=>none
def qf (E:Env) (o:aw) (id:Nat) (wb:Bool) (el:TypeId) (hy:HV):HV → Option App
 | .win id1 n i k=>vt E o el id1 n i k hy
 | .pin id1 n ad cap =>
  match mj E o id1 n wb el hy with
  | some u =>
   match u.ob with
   | .arr _ _ _ k _=>some ⟨u.pre ∧ k ≤ cap, .v (.one (.pin id1 k ad cap)),id1,u.ob,false⟩
   | _=>none
  | none=>none
 | .ref id1 n =>
  match mj E o id1 n wb el hy with
  | some u =>
   match u.ob with
   | .arr _ _ _ k _=>some ⟨u.pre, .v (.one (.ref id1 k)),id1,u.ob,false⟩
   | _=>none
  | none =>
   match su E o id1 n el hy with
   | some u =>
    match u.ob with
    | .arrh _ _ k _ _=>some ⟨u.pre, .v (.one (.ref id1 k)),id1,u.ob,false⟩
    | _=>none
   | none =>
    match a0h E o id1 n el hy with
    | some u=>some ⟨u.pre, .v (.one (.ref id1 (n + 1))),id1,u.ob,false⟩
    | none=>none
 | .p (.sl n sz true f) =>
  match E el with
  | some ei =>
   match mj E (fun k=>if k = id then some (.arr false ei.size el n f) else o k) id n wb el hy with
   | some u =>
    match u.ob with
    | .arr _ _ _ k _=>some ⟨u.pre ∧ (n = 0 ∨ sz = ei.size) ∧ 0 < ei.size ∧ n ≤ 9223372036854775807, .v (.one (.ref id k)),id,u.ob,true⟩
    | _=>none
   | none=>none
  | none=>none
 | _=>none
def yp (E:Env) (o:aw) (id:Nat) (wb:Bool) (t:TypeId) (x y:Option HR):Option App :=
 match E t with
 | some i =>
  match i.k with
  | .slice el =>
   match x with
   | some (.v (.one hx)) =>
    match y with
    | some (.v (.one hy))=>qf E o id wb el hy hx
    | _=>none
   | _=>none
  | _=>none
 | none=>none
def z1 (E:Env) (o:aw) (e:Ev) (id:Nat) (wb:Bool):List Operand → List TypeId → Option App
 | [x,y],[t,t']=>match Nat.beq t t' with | true=>yp E o id wb t (e x) (e y) | false=>none
 | _,_=>none
def hap (E:Env) (o:aw) (e:Ev) (id:Nat) (wb:Bool):Op → Option App
 | .call c =>
  match c.callee with
  | .builtin .append=>z1 E o e id wb c.args.toList c.argTypes.toList
  | .builtin .clear=>se E o e c.args.toList c.argTypes.toList
  | _=>none
 | _=>none
theorem kj (w:World) (t ty e:TypeId) (i:TypeInfo) (ht:P.underlying t = some (.slice e)) (hi:P.info? e = some i) (ad A:Option Addr) (n cap c:Nat) (h:n ≤ cap) :
 (Builtin.append_ #[t,t] ty #[.slice ad n cap, .slice A 0 c]).run P w = .ok (.slice ad n cap) w:=by
 have hf:(Builtin.firstCells i.size 0 (.slice A 0 c)).run P w = .ok #[] w:=by
  cases A with
  | none=>simp [Builtin.firstCells]
  | some b=>simp [Builtin.firstCells,loadCells,loadCellsFrom]
 cases ad <;> simp [Builtin.append_,run_underlying ht,sizeOf,typeInfo,hi,Builtin.lenOf,h,hf,storeCells]
theorem a7g {i j n sz:Nat} (hi:i < n) (hj:j < sz):i * sz + j < n * sz:=by
 have:(i + 1) * sz ≤ n * sz:=Nat.mul_le_mul_right _ (by omega)
 grind
theorem x5 {m sz:Nat} {g:Nat → Nat → PV} {F:Nat → Option Value} (hsz:0 < sz) (hF:∀ i j,i < m → j < sz → ∃ x,F (i * sz + j) = some x ∧ bc c.imm (g i j) x) :
 ∃ news:List Value,news.length = m * sz ∧ (∀ (k:Nat) u,news[k]? = some u → F k = some u) ∧ (∀ i j,i < m → j < sz → ∃ x,news[i * sz + j]? = some x ∧ bc c.imm (g i j) x) ∧ ∀ u ∈ news,u.oneCell' = true:=by
 have hk:∀ k,k < m * sz → ∃ x,F k = some x ∧ bc c.imm (g (k / sz) (k % sz)) x:=fun k hk=>by
  have:=hF (k / sz) (k % sz) (by rw [Nat.div_lt_iff_lt_mul hsz];exact hk) (Nat.mod_lt _ hsz)
  rwa [Nat.div_add_mod'] at this
 refine ⟨(List.range (m * sz)).map fun k=>(F k).getD undef,by simp,fun k u hu=>?_,fun i j hi hj=>?_,fun u hu=>?_⟩
 · grind
 · obtain ⟨x,hx,hr⟩:=hF i j hi hj
   refine ⟨x, ?_,hr⟩
   rw [List.getElem?_map,List.getElem?_range (a7g hi hj)]
   simp [hx]
 obtain ⟨k,hkm,rfl⟩:=List.mem_map.1 hu
 obtain ⟨x,hx,hr⟩:=hk k (List.mem_range.1 hkm)
 simp only [hx,Option.getD_some]
 exact bc.oneCell hr
theorem a4w (h:ak w0 nt c s a w) {n sz cap:Nat} {cl:Bool} {f:Nat → Nat → PV} {ad:Option Addr} (hsz:0 < sz) (hr:bc c.imm (.sl n sz cl f) (.slice ad n cap)) :
 ∃ news:List Value,news.length = n * sz ∧ (∀ u ∈ news,u.oneCell' = true) ∧ (∀ i j,i < n → j < sz → ∃ x,news[i * sz + j]? = some x ∧ bc c.imm (f i j) x) ∧
  ((n = 0 ∧ news = []) ∨ ∃ b,ad = some b ∧ ∀ (k:Nat) u,news[k]? = some u → w.cell? (b.add k) = some u):=by
 obtain ⟨ad',cap',e,_,_,_,hc⟩:=hr
 simp only [Value.slice.injEq,true_and] at e
 obtain ⟨rfl,rfl⟩:=e
 rcases Nat.eq_zero_or_pos n with h0 | h0
 · simp_all
 obtain ⟨b,off,rfl,hcell⟩:=hc h0
 obtain ⟨news,h1,h2,h3,h4⟩:=x5 (c:=c) (F:=fun k=>w.cell? ((⟨b,off,none⟩:Addr).add k)) hsz (fun i j hi hj=>by
  obtain ⟨x,hx,hr⟩:=hcell i j hi hj
  exact ⟨x,by rw [add_lit];exact om h hx,hr⟩)
 grind
theorem ym (h:ak w0 nt c s a w) {id:Nat} {wr:Bool} {sz:Nat} {e:TypeId} {n:Nat} {f:Nat → Nat → PV} (ho:s.o id = some (.arr wr sz e n f)) :
 ∃ ad cap,c.own id = .slice ad n cap ∧ n ≤ cap ∧ ∃ news:List Value,news.length = n * sz ∧ (∀ u ∈ news,u.oneCell' = true) ∧ (∀ i j,i < n → j < sz → ∃ x,news[i * sz + j]? = some x ∧ bc c.imm (f i j) x) ∧
  ((n = 0 ∧ news = []) ∨ ∃ b,ad = some b ∧ ∀ (k:Nat) u,news[k]? = some u → w.cell? (b.add k) = some u):=by
 obtain ⟨h0,h1,h5⟩:=h.objs id _ ho
 rcases h5 with ⟨h6,xs,h2,h4⟩ | ⟨h6,h7,h8⟩
 · rcases h2.2 with ⟨hv,hz⟩ | ⟨g,cap,cur,hv,_,hheap,hcap,_,hcs,htake⟩
   · simp_all
   refine ⟨_,cap,hv,hcap,xs,h2.1,fun u hu=>?_,h4, .inr ⟨_,rfl,h2.cells (g:=g) (by rw [hv];rfl)⟩⟩
   obtain ⟨k,hk,hku⟩:=List.getElem_of_mem hu
   have hk':k < n * sz:=by rw [← h2.1];exact hk
   obtain ⟨x,hx,hr⟩:=h4 (k / sz) (k % sz) (by rw [Nat.div_lt_iff_lt_mul h0];exact hk') (Nat.mod_lt _ h0)
   rw [Nat.div_add_mod',List.getElem?_eq_getElem hk] at hx
   simp only [Option.some.injEq] at hx
   rw [← hku,hx]
   exact bc.oneCell hr
 have h8':=h8
 obtain ⟨ad,cap,hv,hc1,_⟩:=h8
 rw [hv] at h8'
 obtain ⟨news,g1,g2,g3,g4⟩:=a4w h h0 h8'
 exact ⟨ad,cap,hv,hc1,news,g1,g2,g3,g4⟩
theorem ue (h:ak w0 nt c s a w) {id:Nat} {y:HV} {u:Value} (hu:bq c s.o y u) {p:Prop} {m sz:Nat} {g:Nat → Nat → PV} (hs:ql s.o id y = some (p,m,sz,g)) (hp:p) (hsz:0 < sz) :
 ∃ ad cap,u = .slice ad m cap ∧ ∃ news:List Value,news.length = m * sz ∧ (∀ u ∈ news,u.oneCell' = true) ∧ (∀ i j,i < m → j < sz → ∃ x,news[i * sz + j]? = some x ∧ bc c.imm (g i j) x) ∧
  ((m = 0 ∧ news = []) ∨ ∃ b,ad = some b ∧ ∀ (k:Nat) u,news[k]? = some u → w.cell? (b.add k) = some u):=by
 unfold ql at hs
 split at hs
 · rename_i m' sz' cl g'
   simp only [Option.some.injEq,Prod.mk.injEq] at hs
   obtain ⟨_,rfl,rfl,rfl⟩:=hs
   have hu':bc c.imm (.sl m' sz' cl g') u:=hu
   obtain ⟨ad,cap,hv,_⟩:=hu
   rw [hv] at hu'
   obtain ⟨news,g1,g2,g3,g4⟩:=a4w h hsz hu'
   grind
 · rename_i ad cap
   simp only [Option.some.injEq,Prod.mk.injEq] at hs
   obtain ⟨_,rfl,rfl,rfl⟩:=hs
   obtain ⟨rfl,_⟩:=hu
   simp_all
 · rename_i id' m'
   split at hs <;> try (cases hs;done)
   rename_i wr sz' el m2 g' hid ho
   simp only [Option.some.injEq,Prod.mk.injEq] at hs
   obtain ⟨rfl,rfl,rfl,rfl⟩:=hs
   obtain rfl:m2 = m':=hp
   obtain ⟨_,_,h3⟩:=hu
   obtain ⟨ad,cap,hv,hc,news,g1,g2,g3,g4⟩:=ym h ho
   have:=(h3 _ _ _ _ ho rfl).2 rfl
   grind
 cases hs
theorem yl (h:ak w0 nt c s a w) {id:Nat} {y:HV} {u:Value} (hu:bq c s.o y u) {p:Prop} {m sz:Nat} {g:Nat → Nat → PV} (hs:ql s.o id y = some (p,m,sz,g)) (hp:p):∃ ad cap,u = .slice ad m cap:=by
 unfold ql at hs
 split at hs
 · simp only [Option.some.injEq,Prod.mk.injEq] at hs
   obtain ⟨_,rfl,rfl,rfl⟩:=hs
   obtain ⟨ad,cap,hv,_⟩:=hu
   grind
 · rename_i ad cap
   simp only [Option.some.injEq,Prod.mk.injEq] at hs
   obtain ⟨_,rfl,rfl,rfl⟩:=hs
   obtain ⟨rfl,_⟩:=hu
   grind
 · split at hs <;> try (cases hs;done)
   rename_i wr sz' el m2 g' hid ho
   simp only [Option.some.injEq,Prod.mk.injEq] at hs
   obtain ⟨rfl,rfl,rfl,rfl⟩:=hs
   obtain rfl:m2 = _:=hp
   obtain ⟨_,_,h3⟩:=hu
   obtain ⟨ad,cap,hv,hc,_⟩:=ym h ho
   exact ⟨ad,cap,((h3 _ _ _ _ ho rfl).2 rfl).trans hv⟩
 cases hs
theorem a5g {n m sz:Nat} {f g:Nat → Nat → PV} {xs news:List Value} (hxl:xs.length = n * sz) (hx:∀ i j,i < n → j < sz → ∃ x,xs[i * sz + j]? = some x ∧ bc c.imm (f i j) x)
 (hg:∀ i j,i < m → j < sz → ∃ x,news[i * sz + j]? = some x ∧ bc c.imm (g i j) x):∀ i j,i < n + m → j < sz → ∃ x,(xs ++ news)[i * sz + j]? = some x ∧ bc c.imm (eo n f g i j) x:=by
 intro i j hi hj
 unfold eo
 by_cases h:i < n
 · grind
 have hle:n * sz ≤ i * sz:=Nat.mul_le_mul_right _ (by omega)
 rw [if_neg h,List.getElem?_append_right (by rw [hxl];omega),hxl]
 have e:i * sz + j - n * sz = (i - n) * sz + j:=by rw [Nat.sub_mul];omega
 rw [e]
 exact hg (i - n) j (by omega) hj
theorem tz (hE:cr P E) (h:ak w0 nt c s a w) {t el:TypeId} {ty:TypeId} {id n:Nat} {wb:Bool} {y:HV} {u:Upd} {vy:Value} (hy:bq c s.o y vy) (ht:P.underlying t = some (.slice el)) (hq':mj E s.o id n wb el y = some u) (hp:u.pre) :
 ∃ v w' c' k sz f',(Builtin.append_ #[t,t] ty #[c.own id,vy]).run P w = .ok v w' ∧ u.id = id ∧ u.ob = .arr wb sz el k f' ∧ (c'.old = c.old ∧ ak w0 nt c' (s.setO u.id (some u.ob)) a w') ∧ ax c' (s.setO u.id (some u.ob)).o (.v (.one (.ref id k))) v:=by
 unfold mj at hq'
 split at hq' <;> try (cases hq';done)
 rename_i ei wr sz el' n' f p m sz' g hei hob hsrc
 split at hq' <;> try (cases hq';done)
 rename_i z hz
 split at hq' <;> try (cases hq';done)
 rename_i hzl
 have hzl:=of_decide_eq_true hzl
 simp only [Option.some.injEq] at hq'
 subst hq'
 obtain ⟨p1,rfl,rfl,hsz,hsz',hmax,hbytes,hwb⟩:=hp
 obtain ⟨ie,de,e1,e2,e3,e4,e5,e6,_⟩:=bd (hE el' ei hei)
 rw [hz] at e6
 have h0:=(h.objs id _ hob).1
 cases hiz:ie.zero with
 | none=>rw [hiz] at e6;cases e6
 | some zv =>
  rw [hiz] at e6
  simp only [Option.map_some,Option.some.injEq] at e6
  have hzs:zv.cells.size = sz:=by rw [← Array.length_toList,← e6,hzl,hsz]
  obtain ⟨ad,cap,hown,hcap,xs,hxl,hx1,hxr,hxc⟩:=ym h hob
  have hmaxn:n' + m ≤ maxLen:=by simp only [maxLen];omega
  have fin:∀ (v:Value) (w':World) (bk:Nat → Prop) (row:Option Nat),Grw w w' row → (∀ b,row = some b → c.blk id b) → (m = 0 → v = c.own id) → (∀ b,bk b → c.blk id b ∨ w.heap.size ≤ b) → (∃ ad' cap',v = .slice ad' (n' + m) cap') →
   d9 0 { old:=c.old,imm:=c.imm,tab:=c.tab,own:=fun k=>if k = id then v else c.own k,blk:=fun k=>if k = id then bk else c.blk k,rows:=c.rows } (s.setO id (some (.arr wb sz el' (n' + m) (eo n' f g)))).o w' id (.arr wb sz el' (n' + m) (eo n' f g)) →
   ∃ c',(c'.old = c.old ∧ ak w0 nt c' (s.setO id (some (.arr wb sz el' (n' + m) (eo n' f g)))) a w') ∧ ax c' (s.setO id (some (.arr wb sz el' (n' + m) (eo n' f g)))).o (.v (.one (.ref id (n' + m)))) v:=by
   intro v w' bk row hg hrow hm hbk hv hok
   refine ⟨_,⟨(by rfl),h.write id _ hob _ w' v bk row hg hrow (.inr (.inr ⟨_, .arr wb sz el' (n' + m) (eo n' f g),sz,el',n',n' + m,hob,rfl,by simp [S.setO],rfl,by omega,fun e=>by simp [hm (by omega)],fun _ _ _ _ _ _ _ hb=>by cases hb⟩)) hbk hok⟩, ?_,fun l=>by simp [S.setO],fun ob2 s2 e2 n2 ho2 hd2=>?_⟩
   · obtain ⟨_,_,rfl⟩:=hv;rfl
   simp only [S.setO,if_true,Option.some.injEq] at ho2
   subst ho2
   simp only [af.dim,Option.some.injEq,Prod.mk.injEq] at hd2
   grind
  rcases Nat.eq_zero_or_pos m with hm0 | hm0
  · subst hm0
    obtain ⟨A,cA,rfl⟩:=yl h hy hsrc p1
    have hrun:=kj (P:=P) w t ty el' ie ht e1 ad A n' cap cA hcap
    rw [← hown] at hrun
    obtain ⟨c',hc',hv'⟩:=fin (c.own id) w (c.blk id) none (Grw.refl w _) (fun _ e=>by cases e) (fun _=>rfl) (fun b hb=>.inl hb) ⟨ad,cap,hown⟩ (by
     obtain ⟨g0,g1,g5⟩:=h.objs id _ hob
     refine ⟨g0,g1, ?_⟩
     have happ:∀ i j,i < n' → eo n' f g i j = f i j:=fun i j hi=>by simp [eo,hi]
     rcases g5 with ⟨g6,ys,g2,g4⟩ | ⟨g6,g7,ad2,cap2,g8,g9,g10,g11,g12⟩
     · grind
     refine .inr ⟨?_,by simpa using g7,ad2,cap2,by simpa using g8,g9,g10,g11,fun hn=>?_⟩
     · grind
     obtain ⟨b,off,hbo,hcell⟩:=g12 hn
     exact ⟨b,off,hbo,fun i j hi hj=>by
      have hi':i < n':=hi
      rw [happ i j hi']
      exact hcell i j hi' hj⟩)
    grind
  have hsz'':sz' = sz:=by omega
  subst hsz''
  obtain ⟨A,cA,rfl,news,hnl,hn1,hnr,hnc⟩:=ue h hy hsrc p1 h0
  obtain ⟨b,rfl,hncell⟩:∃ b,A = some b ∧ ∀ (k:Nat) u,news[k]? = some u → w.cell? (b.add k) = some u:=by
   grind
  have hxx:=a5g hxl hxr hnr
  have owned:∀ base:Nat,base ≤ w.heap.size → 0 ≤ base → ∀ (v0:Value) (xs:List Value),v0 = c.own id → w.ownsRow base el' sz' v0 n' xs → (∀ i j,i < n' → j < sz' → ∃ x,xs[i * sz' + j]? = some x ∧ bc c.imm (f i j) x) → c.blk id = er v0 →
   ∃ v w' c' k sz f',(Builtin.append_ #[t,t] ty #[c.own id, .slice (some b) m cA]).run P w = .ok v w' ∧ id = id ∧ af.arr wb sz' el' (n' + m) (eo n' f g) = .arr wb sz el' k f' ∧
    (c'.old = c.old ∧ ak w0 nt c' (s.setO id (some (.arr wb sz' el' (n' + m) (eo n' f g)))) a w') ∧ ax c' (s.setO id (some (.arr wb sz' el' (n' + m) (eo n' f g)))).o (.v (.one (.ref id k))) v:=by
   intro base hbase hb0 v0 xs hv0 hrow hxr hblk
   obtain ⟨v',w',hrun,hown',hgrow0,_,hat⟩:=run_append_own_at (P:=P) w base t ty el' ie zv sz' ie.bytes ht e1 hiz (by rw [← e4];exact hsz) rfl hzs h0 v0 n' xs hrow b m cA news hnl hncell hn1 hmaxn (by rw [← e5];exact hbytes) hbase
   have hgrow:=Grw.mk hgrow0 (mw _ hrun)
   rw [hv0] at hrun
   have hob':∀ v:Value,(∃ ad k cap,v = .slice ad k cap) → v.ownBlock = c3 v:=by
    rintro v ⟨ad,k,cap,rfl⟩
    cases ad <;> rfl
   have hform:∃ ad' cap',v' = .slice ad' (n' + m) cap':=by
    rcases hown'.2 with ⟨hv,hz⟩ | ⟨g,cap,cur,hv,_⟩
    · omega
    grind
   have e0:v0.ownBlock = c3 v0:=hob' v0 ⟨ad,n',cap,by rw [hv0,hown]⟩
   have e1':v'.ownBlock = c3 v':=hob' v' ⟨_,_,_,hform.choose_spec.choose_spec⟩
   obtain ⟨c',hc',hv'⟩:=fin v' w' (er v') v0.ownBlock hgrow (fun b hb=>by rw [hblk];exact e0.symm.trans hb) (fun h=>by omega) (fun bb hbb=>by
    have hbb:c3 v' = some bb:=hbb
    rw [← e1'] at hbb
    rcases hat with h1 | h1
    · left;rw [hblk];exact e0.symm.trans (h1.symm.trans hbb)
    · right;rw [h1] at hbb;simp only [Option.some.injEq] at hbb;omega) hform
    ⟨h0,hmaxn, .inl ⟨by simp,xs ++ news,by
     simp only [if_true]
     refine ⟨hown'.1, ?_⟩
     rcases hown'.2 with hv | ⟨g,cap,cur,hv,hg,r⟩
     · exact .inl hv
     exact .inr ⟨g,cap,cur,hv,by omega,r⟩,a5g hrow.1 hxr hnr⟩⟩
   grind
  obtain ⟨g0,g1,g5⟩:=h.objs id _ hob
  rcases g5 with ⟨g6,ys,g2,g4⟩ | ⟨g6,g7,g8⟩
  · exact owned 0 (Nat.zero_le _) (Nat.le_refl _) (c.own id) ys rfl g2 g4 g6
  obtain ⟨ad2,cap2,g8',g9,g10,g11,g12⟩:=g8
  have hc2:cap2 = n':=g11 rfl
  rw [hown] at g8'
  simp only [Value.slice.injEq,true_and] at g8'
  obtain ⟨rfl,rfl⟩:=g8'
  subst hc2
  rcases ad with _ | ba
  ·
   have hn0:cap = 0:=by
    grind
   subst hn0
   refine owned 0 (Nat.zero_le _) (Nat.le_refl _) (c.own id) [] rfl ?_ (fun i j hi=>by omega) (by rw [g7,hown];exact (a3s rfl).symm)
   rw [hown]
   exact World.ownsRow_nil w _ _ _
  have hxcell:∀ (k:Nat) u,xs[k]? = some u → w.cell? (ba.add k) = some u:=by
   grind
  have hr:=run_append_grow (P:=P) w t ty el' ie zv ht e1 hiz ba cap cap xs (by rw [← e4,hsz];exact hxl) hxcell b m cA news (by rw [← e4,hsz];exact hnl) hncell (by omega) (by simp only [maxLen] at hmaxn;omega) (growslice_fits (by omega) (by rw [← e5];exact hbytes))
  rw [← hown] at hr
  have hge:=grownCap_ge w (cap + m) cap el'
  have hcm:grownCap w (cap + m) cap el' ≤ maxLen:=grownCap_le_maxLen w (cap + m) cap el' hmaxn
  have hlen:(xs ++ news).length = (cap + m) * sz':=by rw [List.length_append,hxl,hnl,Nat.add_mul]
  obtain ⟨c',hc',hv'⟩:=fin (.slice (some ⟨w.heap.size,0,none⟩) (cap + m) (grownCap w (cap + m) cap el')) (w.drew.alloc (.cells (xs.toArray ++ news.toArray ++ Builtin.zeroCells zv.cells (grownCap w (cap + m) cap el' - (cap + m))) el')) (er (.slice (some ⟨w.heap.size,0,none⟩) (cap + m) (grownCap w (cap + m) cap el'))) none ⟨⟨rfl,rfl,rfl,by simp,fun k hk _=>heap_alloc_old w.drew _ k hk⟩,Nat.le_succ _⟩ (fun _ e=>by cases e) (fun h=>by omega)
   (fun bb hbb=>.inr (by simp only [er,c3,Option.some.injEq] at hbb;omega)) ⟨_,_,rfl⟩
   ⟨h0,hmaxn, .inl ⟨by simp,xs ++ news,by
    simp only [if_true]
    refine ⟨hlen, .inr ⟨w.heap.size,_,_,rfl,Nat.zero_le _,heap_alloc_new w.drew _,hge,hcm, ?_, ?_⟩⟩
    · simp only [Array.size_append,List.size_toArray,size_zeroCells,hzs,hxl,hnl,← Nat.add_mul]
      congr 1
      omega
    simp only [Array.toList_append,List.append_assoc]
    rw [← List.append_assoc,← hlen]
    exact List.take_left,hxx⟩⟩
  grind
theorem acj (hE:cr P E) (h:ak w0 nt c s a w) {t el:TypeId} {ty:TypeId} {id n:Nat} {wb:Bool} {y:HV} {u:Upd} {vy:Value} (hy:bq c s.o y vy) (ht:P.underlying t = some (.slice el)) (hq':mj E s.o id n wb el y = some u) (hp:u.pre)
 {ad:Option Addr} {cap k sz:Nat} {f':Nat → Nat → PV} (hown:c.own id = .slice ad n cap) (hob':u.ob = .arr wb sz el k f') (hk:k ≤ cap) {v:Value} {w':World} (hrun:(Builtin.append_ #[t,t] ty #[c.own id,vy]).run P w = .ok v w'):v = .slice ad k cap:=by
 unfold mj at hq'
 split at hq' <;> try (cases hq';done)
 rename_i ei wr sz2 el' n' f p m sz' g hei hob hsrc
 split at hq' <;> try (cases hq';done)
 rename_i z hz
 split at hq' <;> try (cases hq';done)
 simp only [Option.some.injEq] at hq'
 subst hq'
 obtain ⟨p1,rfl,rfl,hsz,hsz',hmax,hbytes,hwb⟩:=hp
 simp only [af.arr.injEq] at hob'
 obtain ⟨_,rfl,_,rfl,_⟩:=hob'
 obtain ⟨ie,de,e1,e2,e3,e4,e5,e6,_⟩:=bd (hE el' ei hei)
 obtain ⟨h0,h1,h5⟩:=h.objs id _ hob
 rcases Nat.eq_zero_or_pos m with hm0 | hm0
 · subst hm0
   obtain ⟨A,cA,rfl⟩:=yl h hy hsrc p1
   have hcap:n' ≤ cap:=by omega
   have:=kj (P:=P) w t ty el' ie ht e1 ad A n' cap cA hcap
   rw [hown,this] at hrun
   simp only [Result.ok.injEq] at hrun
   exact hrun.1.symm
 have hsz'':sz' = sz2:=by omega
 subst hsz''
 obtain ⟨A,cA,rfl,news,hnl,hn1,hnr,hnc⟩:=ue h hy hsrc p1 h0
 obtain ⟨b,rfl,hncell⟩:∃ b,A = some b ∧ ∀ (k:Nat) u,news[k]? = some u → w.cell? (b.add k) = some u:=by
  rcases hnc with ⟨h1,_⟩ | h1
  · omega
  exact h1
 rcases h5 with ⟨h6,xs,h2,h4⟩ | ⟨h6,h7,h8⟩
 · obtain ⟨hxl,hrow⟩:=h2
   rcases hrow with ⟨hv0,hz0⟩ | ⟨gb,cap',cur,hown',hbase,hheap,hnc',hcm,hcs,htake⟩
   · rw [hown] at hv0
     simp only [Value.slice.injEq] at hv0
     omega
   rw [hown] at hown'
   simp only [Value.slice.injEq,true_and] at hown'
   obtain ⟨rfl,rfl⟩:=hown'
   have hmul:n' * sz' + m * sz' ≤ cap * sz':=by rw [← Nat.add_mul];exact Nat.mul_le_mul_right _ hk
   have hst:=run_storeCells_at P gb (n' * sz') el' news 0 cur w hheap (by rw [hnl,hcs];omega) hn1
   simp only [Nat.add_zero] at hst
   have hfc:=run_firstCells_some (P:=P) (w:=w) ei.size m b m cA news (by rw [hnl,hsz]) hncell
   rw [← hsz] at hst
   rw [hown] at hrun
   simp [Builtin.append_,run_underlying ht,sizeOf,typeInfo,e1,← e4,Builtin.lenOf,hk,hfc,add_lit,hst] at hrun
   exact hrun.1.symm
 obtain ⟨ad2,cap2,r1,r2,r3,r4,r5⟩:=h8
 rw [hown] at r1
 simp only [Value.slice.injEq,true_and] at r1
 obtain ⟨rfl,rfl⟩:=r1
 have:=r4 rfl
 omega
theorem wu (h:ak w0 nt c s a w) {id:Nat} {sz:Nat} {e:TypeId} {n:Nat} {ms:List Nat} {f:Nat → Nat → HV} (ho:s.o id = some (.arrh sz e n ms f)) :
 ∃ ad cap,c.own id = .slice ad n cap ∧ n ≤ cap ∧ ∃ news:List Value,news.length = n * sz ∧ (∀ u ∈ news,u.oneCell' = true) ∧ (∀ i j,i < n → j < sz → ∃ x,news[i * sz + j]? = some x ∧ bq c s.o (f i j) x) ∧
  ((n = 0 ∧ news = []) ∨ ∃ b,ad = some b ∧ ∀ (k:Nat) u,news[k]? = some u → w.cell? (b.add k) = some u):=by
 obtain ⟨h0,h1,h7,h5⟩:=h.objs id _ ho
 rcases h5 with ⟨h6,xs,h2,h4⟩ | ⟨rfl,h6,ad,cap,hv,hc1,_⟩
 · rcases h2.2 with ⟨hv,hz⟩ | ⟨g,cap,cur,hv,_,hheap,hcap,_,hcs,htake⟩
   · simp_all
   refine ⟨_,cap,hv,hcap,xs,h2.1,fun u hu=>?_,h4, .inr ⟨_,rfl,h2.cells (g:=g) (by rw [hv];rfl)⟩⟩
   obtain ⟨k,hk,hku⟩:=List.getElem_of_mem hu
   have hk':k < n * sz:=by rw [← h2.1];exact hk
   obtain ⟨x,hx,hr⟩:=h4 (k / sz) (k % sz) (by rw [Nat.div_lt_iff_lt_mul h0];exact hk') (Nat.mod_lt _ h0)
   rw [Nat.div_add_mod',List.getElem?_eq_getElem hk] at hx
   simp only [Option.some.injEq] at hx
   rw [← hku,hx]
   exact bq.oneCell hr
 simp_all
theorem a1h (h:ak w0 nt c s a w) {id:Nat} {y:HV} {u:Value} (hu:bq c s.o y u) {p:Prop} {m sz:Nat} {ms:List Nat} {g:Nat → Nat → HV} (hs:x7 s.o id y = some (p,m,sz,ms,g)) (hp:p) (hsz:0 < sz) :
 (∀ i j k,i < m → j < sz → (g i j).men k → k ∈ ms) ∧ ∃ ad cap,u = .slice ad m cap ∧ ∃ news:List Value,news.length = m * sz ∧ (∀ u ∈ news,u.oneCell' = true) ∧ (∀ i j,i < m → j < sz → ∃ x,news[i * sz + j]? = some x ∧ bq c s.o (g i j) x) ∧
  ((m = 0 ∧ news = []) ∨ ∃ b,ad = some b ∧ ∀ (k:Nat) u,news[k]? = some u → w.cell? (b.add k) = some u):=by
 unfold x7 at hs
 split at hs
 · rename_i p' m' sz' g' hs'
   simp only [Option.some.injEq,Prod.mk.injEq] at hs
   obtain ⟨rfl,rfl,rfl,rfl,rfl⟩:=hs
   exact ⟨fun i j k _ _ hk=>hk.elim,ue h hu hs' hp hsz⟩
 split at hs <;> try (cases hs;done)
 rename_i id' m' _
 split at hs <;> try (cases hs;done)
 rename_i sz' el m2 ms' g' hid ho
 simp only [Option.some.injEq,Prod.mk.injEq] at hs
 obtain ⟨rfl,rfl,rfl,rfl,rfl⟩:=hs
 obtain rfl:m2 = m':=hp
 obtain ⟨_,_,h3⟩:=hu
 obtain ⟨ad,cap,hv,hc,news,g1,g2,g3,g4⟩:=wu h ho
 have:=(h3 _ _ _ _ ho rfl).2 rfl
 exact ⟨(h.objs id' _ ho).2.2.1,ad,cap,this.trans hv,news,g1,g2,g3,g4⟩
theorem a51 {o:aw} {n m sz:Nat} {f g:Nat → Nat → HV} {xs news:List Value} (hxl:xs.length = n * sz) (hx:∀ i j,i < n → j < sz → ∃ x,xs[i * sz + j]? = some x ∧ bq c o (f i j) x)
 (hg:∀ i j,i < m → j < sz → ∃ x,news[i * sz + j]? = some x ∧ bq c o (g i j) x):∀ i j,i < n + m → j < sz → ∃ x,(xs ++ news)[i * sz + j]? = some x ∧ bq c o (gm n f g i j) x:=by
 intro i j hi hj
 unfold gm
 by_cases h:i < n
 · grind
 have hle:n * sz ≤ i * sz:=Nat.mul_le_mul_right _ (by omega)
 rw [if_neg h,List.getElem?_append_right (by rw [hxl];omega),hxl]
 have e:i * sz + j - n * sz = (i - n) * sz + j:=by rw [Nat.sub_mul];omega
 rw [e]
 exact hg (i - n) j (by omega) hj
theorem aci {n m sz:Nat} {f g:Nat → Nat → HV} {ms ms':List Nat} (hf:∀ i j k,i < n → j < sz → (f i j).men k → k ∈ ms) (hg:∀ i j k,i < m → j < sz → (g i j).men k → k ∈ ms') :
 ∀ i j k,i < n + m → j < sz → (gm n f g i j).men k → k ∈ ms' ++ ms:=by
 intro i j k hi hj hk
 unfold gm at hk
 grind
theorem a5y (hE:cr P E) (h:ak w0 nt c s a w) {t el:TypeId} {ty:TypeId} {id n:Nat} {y:HV} {u:Upd} {vy:Value} (hy:bq c s.o y vy) (ht:P.underlying t = some (.slice el)) (hq':su E s.o id n el y = some u) (hp:u.pre) :
 ∃ v w' c' k sz ms f',(Builtin.append_ #[t,t] ty #[c.own id,vy]).run P w = .ok v w' ∧ u.id = id ∧ u.ob = .arrh sz el k ms f' ∧ (c'.old = c.old ∧ ak w0 nt c' (s.setO u.id (some u.ob)) a w') ∧ ax c' (s.setO u.id (some u.ob)).o (.v (.one (.ref id k))) v:=by
 unfold su at hq'
 split at hq' <;> try (cases hq';done)
 rename_i ei sz el' n' ms f p m sz' ms' g hei hob hsrc
 split at hq' <;> try (cases hq';done)
 rename_i z hz
 split at hq' <;> try (cases hq';done)
 rename_i hzl
 have hzl:=of_decide_eq_true hzl
 simp only [Option.some.injEq] at hq'
 subst hq'
 obtain ⟨p1,rfl,rfl,hsz,hsz',hmax,hbytes⟩:=hp
 obtain ⟨ie,de,e1,e2,e3,e4,e5,e6,_⟩:=bd (hE el' ei hei)
 rw [hz] at e6
 obtain ⟨h0,hnmax,hms,hrows⟩:=h.objs id _ hob
 cases hiz:ie.zero with
 | none=>rw [hiz] at e6;cases e6
 | some zv =>
  rw [hiz] at e6
  simp only [Option.map_some,Option.some.injEq] at e6
  have hzs:zv.cells.size = sz:=by rw [← Array.length_toList,← e6,hzl,hsz]
  obtain ⟨ad,cap,hown,hcap,xs,hxl,hx1,hxr,hxc⟩:=wu h hob
  have hmaxn:n' + m ≤ maxLen:=by simp only [maxLen];omega
  have fin:∀ (v:Value) (w':World) (bk:Nat → Prop) (row:Option Nat),Grw w w' row → (∀ b,row = some b → c.blk id b) → (m = 0 → v = c.own id) → (∀ b,bk b → c.blk id b ∨ w.heap.size ≤ b) → (∃ ad' cap',v = .slice ad' (n' + m) cap') →
   (∀ c':Ctx,c'.imm = c.imm → c'.own = (fun k=>if k = id then v else c.own k) → c'.blk = (fun k=>if k = id then bk else c.blk k) → (∀ (x:HV) (u:Value),bq c s.o x u → bq c' (s.setO id (some (.arrh sz el' (n' + m) (ms' ++ ms) (gm n' f g)))).o x u) →
    d9 0 c' (s.setO id (some (.arrh sz el' (n' + m) (ms' ++ ms) (gm n' f g)))).o w' id (.arrh sz el' (n' + m) (ms' ++ ms) (gm n' f g))) →
   ∃ c',(c'.old = c.old ∧ ak w0 nt c' (s.setO id (some (.arrh sz el' (n' + m) (ms' ++ ms) (gm n' f g)))) a w') ∧ ax c' (s.setO id (some (.arrh sz el' (n' + m) (ms' ++ ms) (gm n' f g)))).o (.v (.one (.ref id (n' + m)))) v:=by
   intro v w' bk row hg hrow hm hbk hv hok
   have hevo:Evo c s.o { old:=c.old,imm:=c.imm,tab:=c.tab,own:=fun k=>if k = id then v else c.own k,blk:=fun k=>if k = id then bk else c.blk k,rows:=c.rows } (s.setO id (some (.arrh sz el' (n' + m) (ms' ++ ms) (gm n' f g)))).o id :=
    .inr (.inr ⟨_, .arrh sz el' (n' + m) (ms' ++ ms) (gm n' f g),sz,el',n',n' + m,hob,rfl,by simp [S.setO],rfl,by omega,fun e=>by simp [hm (by omega)],fun _ _ _ _ _ _ _ hb=>by cases hb⟩)
   refine ⟨{ old:=c.old,imm:=c.imm,tab:=c.tab,own:=fun k=>if k = id then v else c.own k,blk:=fun k=>if k = id then bk else c.blk k,rows:=c.rows },⟨(by rfl),h.write id _ hob _ w' v bk row hg hrow hevo hbk (hok _ rfl rfl rfl fun x u hxu=>?_)⟩, ?_,fun l=>by simp [S.setO],fun ob2 s2 e2 n2 ho2 hd2=>?_⟩
   · refine bq.evo (c:=c) (o:=s.o) (Imm.le.refl c.imm) (fun k _=>?_) hxu
     by_cases hk:k = id
     · subst hk;exact hevo
     exact Evo.of_same (by simp [S.setO,hk]) (by simp [hk])
   · obtain ⟨_,_,rfl⟩:=hv;rfl
   simp only [S.setO,if_true,Option.some.injEq] at ho2
   subst ho2
   simp only [af.dim,Option.some.injEq,Prod.mk.injEq] at hd2
   obtain ⟨rfl,rfl,rfl⟩:=hd2
   exact ⟨Nat.le_refl _,fun _=>by simp⟩
  rcases Nat.eq_zero_or_pos m with hm0 | hm0
  · subst hm0
    obtain ⟨A,cA,rfl⟩:∃ ad cap,vy = .slice ad 0 cap:=by
     unfold x7 at hsrc
     split at hsrc
     · rename_i q1 q2 q3 q4 hs'
       simp only [Option.some.injEq,Prod.mk.injEq] at hsrc
       obtain ⟨rfl,rfl,_⟩:=hsrc
       exact yl h hy hs' p1
     split at hsrc <;> try (cases hsrc;done)
     rename_i id' m' _
     split at hsrc <;> try (cases hsrc;done)
     rename_i q1 q2 q3 q4 q5 q6 ho
     simp only [Option.some.injEq,Prod.mk.injEq] at hsrc
     obtain ⟨rfl,rfl,_⟩:=hsrc
     obtain rfl:q3 = 0:=p1
     obtain ⟨_,_,h3⟩:=hy
     obtain ⟨ad,cap,hv,_⟩:=wu h ho
     exact ⟨ad,cap,((h3 _ _ _ _ ho rfl).2 rfl).trans hv⟩
    have hrun:=kj (P:=P) w t ty el' ie ht e1 ad A n' cap cA hcap
    rw [← hown] at hrun
    obtain ⟨c',hc',hv'⟩:=fin (c.own id) w (c.blk id) none (Grw.refl w _) (fun _ e=>by cases e) (fun _=>rfl) (fun b hb=>.inl hb) ⟨ad,cap,hown⟩ (fun c' hi ho hb hrep=>by
     refine ⟨h0,hnmax,fun i j k hi hj hk=>?_, ?_⟩
     · have hi':i < n':=hi
       unfold gm at hk
       rw [if_pos hi'] at hk
       exact List.mem_append_right _ (hms i j k hi' hj hk)
     rcases hrows with ⟨g6,ys,g2,g4⟩ | ⟨g6,g7,g8⟩
     · exact .inl ⟨by simp [hb,ho,g6],ys,by simpa [ho] using g2,fun i j hi hj=>by
        have hi':i < n':=hi
        obtain ⟨x,hx,hr⟩:=g4 i j hi' hj
        unfold gm
        rw [if_pos hi']
        exact ⟨x,hx,hrep _ _ hr⟩⟩
     exact .inr ⟨by show n' + 0 = 0;omega,by simp [hb,g7],by rw [hi];simpa [ho] using g8⟩)
    exact ⟨_,w,c',n' + 0,sz,_,_,hrun,rfl,rfl,hc',hv'⟩
  have hsz'':sz' = sz:=by omega
  subst hsz''
  obtain ⟨hgm,A,cA,rfl,news,hnl,hn1,hnr,hnc⟩:=a1h h hy hsrc p1 h0
  obtain ⟨b,rfl,hncell⟩:∃ b,A = some b ∧ ∀ (k:Nat) u,news[k]? = some u → w.cell? (b.add k) = some u:=by
   rcases hnc with ⟨h1,_⟩ | h1
   · omega
   exact h1
  have hmen:=aci (sz:=sz') hms hgm
  have owned:∀ (v0:Value) (xs:List Value),v0 = c.own id → w.ownsRow 0 el' sz' v0 n' xs → (∀ i j,i < n' → j < sz' → ∃ x,xs[i * sz' + j]? = some x ∧ bq c s.o (f i j) x) → c.blk id = er v0 →
   ∃ v w' c' k sz ms2 f',(Builtin.append_ #[t,t] ty #[c.own id, .slice (some b) m cA]).run P w = .ok v w' ∧ id = id ∧ af.arrh sz' el' (n' + m) (ms' ++ ms) (gm n' f g) = .arrh sz el' k ms2 f' ∧
    (c'.old = c.old ∧ ak w0 nt c' (s.setO id (some (.arrh sz' el' (n' + m) (ms' ++ ms) (gm n' f g)))) a w') ∧ ax c' (s.setO id (some (.arrh sz' el' (n' + m) (ms' ++ ms) (gm n' f g)))).o (.v (.one (.ref id k))) v:=by
   intro v0 xs hv0 hrow hxr hblk
   obtain ⟨v',w',hrun,hown',hgrow0,_,hat⟩:=run_append_own_at (P:=P) w 0 t ty el' ie zv sz' ie.bytes ht e1 hiz (by rw [← e4];exact hsz) rfl hzs h0 v0 n' xs hrow b m cA news hnl hncell hn1 hmaxn (by rw [← e5];exact hbytes) (Nat.zero_le _)
   have hgrow:=Grw.mk hgrow0 (mw _ hrun)
   rw [hv0] at hrun
   have hob':∀ v:Value,(∃ ad k cap,v = .slice ad k cap) → v.ownBlock = c3 v:=by
    rintro v ⟨ad,k,cap,rfl⟩
    cases ad <;> rfl
   have hform:∃ ad' cap',v' = .slice ad' (n' + m) cap':=by
    rcases hown'.2 with ⟨hv,hz⟩ | ⟨g,cap,cur,hv,_⟩
    · omega
    exact ⟨_,_,hv⟩
   have e0:v0.ownBlock = c3 v0:=hob' v0 ⟨ad,n',cap,by rw [hv0,hown]⟩
   have e1':v'.ownBlock = c3 v':=hob' v' ⟨_,_,_,hform.choose_spec.choose_spec⟩
   obtain ⟨c',hc',hv'⟩:=fin v' w' (er v') v0.ownBlock hgrow (fun b hb=>by rw [hblk];exact e0.symm.trans hb) (fun h=>by omega) (fun bb hbb=>by
    have hbb:c3 v' = some bb:=hbb
    rw [← e1'] at hbb
    rcases hat with h1 | h1
    · left;rw [hblk];exact e0.symm.trans (h1.symm.trans hbb)
    · right;rw [h1] at hbb;simp only [Option.some.injEq] at hbb;omega) hform (fun c' hi ho hb hrep =>
    ⟨h0,hmaxn,hmen, .inl ⟨by simp [hb,ho],xs ++ news,by
     simp only [ho,if_true]
     exact hown',fun i j hi hj=>by
      obtain ⟨x,hx,hr⟩:=a51 hrow.1 hxr hnr i j hi hj
      exact ⟨x,hx,hrep _ _ hr⟩⟩⟩)
   exact ⟨v',w',c',n' + m,sz',_,_,hrun,rfl,rfl,hc',hv'⟩
  rcases hrows with ⟨g6,ys,g2,g4⟩ | ⟨rfl,g7,g8⟩
  · exact owned (c.own id) ys rfl g2 g4 g6
  obtain ⟨ad2,cap2,g8',g9,g10,g11,g12⟩:=g8
  have hc2:cap2 = 0:=g11 rfl
  rw [hown] at g8'
  simp only [Value.slice.injEq,true_and] at g8'
  obtain ⟨rfl,rfl⟩:=g8'
  subst hc2
  have hxs0:xs = []:=List.eq_nil_of_length_eq_zero (by omega)
  subst hxs0
  rcases ad with _ | ba
  · refine owned (c.own id) [] rfl ?_ (fun i j hi=>by omega) (by rw [g7,hown];exact (a3s rfl).symm)
    rw [hown]
    exact World.ownsRow_nil w _ _ _
  have hr:=run_append_grow (P:=P) w t ty el' ie zv ht e1 hiz ba 0 0 [] (by simp) (fun k u hk=>by simp at hk) b m cA news (by rw [← e4,hsz];exact hnl) hncell (by omega) (by simp only [maxLen] at hmaxn;omega) (growslice_fits (by omega) (by rw [← e5];exact hbytes))
  rw [← hown] at hr
  have hge:=grownCap_ge w (0 + m) 0 el'
  have hcm:grownCap w (0 + m) 0 el' ≤ maxLen:=grownCap_le_maxLen w (0 + m) 0 el' hmaxn
  have hlen:([] ++ news:List Value).length = (0 + m) * sz':=by rw [List.length_append,hnl];simp
  obtain ⟨c',hc',hv'⟩:=fin (.slice (some ⟨w.heap.size,0,none⟩) (0 + m) (grownCap w (0 + m) 0 el')) (w.drew.alloc (.cells (([]:List Value).toArray ++ news.toArray ++ Builtin.zeroCells zv.cells (grownCap w (0 + m) 0 el' - (0 + m))) el')) (er (.slice (some ⟨w.heap.size,0,none⟩) (0 + m) (grownCap w (0 + m) 0 el'))) none ⟨⟨rfl,rfl,rfl,by simp,fun k hk _=>heap_alloc_old w.drew _ k hk⟩,Nat.le_succ _⟩ (fun _ e=>by cases e) (fun h=>by omega)
   (fun bb hbb=>.inr (by simp only [er,c3,Option.some.injEq] at hbb;omega)) ⟨_,_,rfl⟩ (fun c' hi ho hb hrep =>
   ⟨h0,hmaxn,hmen, .inl ⟨by simp [hb,ho],[] ++ news,by
    simp only [ho,if_true]
    refine ⟨hlen, .inr ⟨w.heap.size,_,_,rfl,Nat.zero_le _,heap_alloc_new w.drew _,hge,hcm, ?_, ?_⟩⟩
    · simp only [Array.size_append,List.size_toArray,size_zeroCells,hzs,hnl,List.length_nil]
      rw [Nat.zero_add,← Nat.add_mul]
      congr 1
      omega
    simp only [Array.toList_append,List.append_assoc]
    rw [← List.append_assoc,← hlen]
    exact List.take_left,fun i j hi hj=>by
    obtain ⟨x,hx,hr⟩:=a51 (xs:=[]) (by simp) hxr hnr i j hi hj
    exact ⟨x,hx,hrep _ _ hr⟩⟩⟩)
  exact ⟨_,_,c',0 + m,sz',_,_,hr,rfl,rfl,hc',hv'⟩
theorem a36 {id n i m:Nat} {u:Value} (hu:bq c s.o (.win id n i m) u) {ob:af} {sz:Nat} {e:TypeId} (ho:s.o id = some ob) (hd:ob.dim = some (sz,e,n)) :
 ∃ ad ad' cap,c.own id = .slice ad n cap ∧ u = .slice ad' m (cap - i) ∧ i + m ≤ n ∧ n ≤ cap ∧ cap ≤ maxLen ∧ (i < cap → ad' = ad.map (·.add (i * sz))):=(hu.2.2 _ _ _ _ ho hd).2 rfl
theorem a3h {id:Nat} {ob:af} (ho:s.o id = some ob):s.setO id (some ob) = s:=by
 unfold S.setO
 cases s with
 | mk t o =>
  simp only [S.mk.injEq,true_and]
  grind
theorem zm (h:ak w0 nt c s a w) {id sz n:Nat} {el:TypeId} {f:Nat → Nat → PV} (hob:s.o id = some (.arr true sz el n f)) (hn:0 < n) :
 ∃ g cap,c.own id = .slice (some ⟨g,0,none⟩) n cap ∧ 0 < sz ∧ (∀ i j,i < n → j < sz → ∃ x,w.cell? ⟨g,i * sz + j,none⟩ = some x ∧ bc c.imm (f i j) x) ∧
  ∀ (p:Nat) (news:List Value) (f':Nat → Nat → PV),p + news.length ≤ n * sz → (∀ v ∈ news,v.oneCell' = true) →
   (∀ i j,i < n → j < sz → (p ≤ i * sz + j ∧ i * sz + j < p + news.length → ∃ x,news[i * sz + j - p]? = some x ∧ bc c.imm (f' i j) x) ∧ (¬ (p ≤ i * sz + j ∧ i * sz + j < p + news.length) → f' i j = f i j)) →
   ∃ w' c',(storeCells ⟨g,p,none⟩ news).run P w = .ok () w' ∧ c'.old = c.old ∧ c'.own id = c.own id ∧ ak w0 nt c' (s.setO id (some (.arr true sz el n f'))) a w':=by
 obtain ⟨h0,h1,h5⟩:=h.objs id _ hob
 obtain ⟨h6,xs,h2,h4⟩:c.blk id = er (c.own id) ∧ ∃ xs,w.ownsRow 0 el sz (c.own id) n xs ∧ ∀ i j,i < n → j < sz → ∃ x,xs[i * sz + j]? = some x ∧ bc c.imm (f i j) x:=by
  grind
 have hcells:=fun g hg=>h2.cells (g:=g) hg
 obtain ⟨hxl,hrow⟩:=h2
 rcases hrow with ⟨_,hz⟩ | ⟨g,cap,cur,hown,hbase,hheap,hnc,hcm,hcs,htake⟩
 · omega
 have hlt2:n * sz ≤ cap * sz:=Nat.mul_le_mul_right _ hnc
 have hblk:c.blk id g:=by rw [h6,hown];rfl
 refine ⟨g,cap,hown,h0,fun i j hi hj=>?_,fun p news f' hlen hone hf=>?_⟩
 · obtain ⟨x,hx,hr⟩:=h4 i j hi hj
   refine ⟨x, ?_,hr⟩
   have:=hcells g (by rw [hown];rfl) _ x hx
   rwa [add_lit,Nat.zero_add] at this
 have hst:=run_storeCells_at P g p el news 0 cur w hheap (by simp [hcs];omega) hone
 simp only [Nat.add_zero] at hst
 refine ⟨_,_,hst,(by rfl), ?own,h.write id _ hob (.arr true sz el n f') (w.setRow g (cur.toList.take p ++ news ++ cur.toList.drop (p + news.length)).toArray) (c.own id) (c.blk id) (some g) (jo _ _ _) (fun b' hb'=>by cases hb';exact hblk) (.inr (.inr ⟨_, .arr true sz el n f',sz,el,n,n,hob,rfl,by simp [S.setO],rfl,Nat.le_refl _,fun _=>by simp,fun _ _ _ _ _ _ _ hb=>by cases hb⟩)) (fun b hb=>.inl hb)
  ⟨h0,h1, .inl ⟨by simpa using h6,xs.take p ++ news ++ xs.drop (p + news.length), ?_,fun q r hq hr=>?_⟩⟩⟩
 case own=>simp
 · refine ⟨?_, .inr ⟨g,cap,_,by simpa using hown,hbase,setRow_heap w g cur _ el _ hheap,hnc,hcm, ?_, ?_⟩⟩
   · grind
   · grind
   apply List.ext_getElem?
   intro k
   have hcl':cur.toList.length = cap * sz:=by simpa using hcs
   rw [List.getElem?_take,List.toList_toArray]
   have e1:=cu cur.toList news p k (by omega)
   have e2:=cu xs news p k (by omega)
   grind
 have hq:q < n:=hq
 have hr:r < sz:=hr
 have e2:=cu xs news p (q * sz + r) (by omega)
 rw [e2]
 grind
theorem a3z {i m sz a b:Nat} (hb:b < sz):(i * sz ≤ a * sz + b ∧ a * sz + b < i * sz + m * sz) ↔ (i ≤ a ∧ a < i + m):=by
 constructor
 · rintro ⟨h1,h2⟩
   constructor
   · apply Classical.byContradiction
     intro h
     have:(a + 1) * sz ≤ i * sz:=Nat.mul_le_mul_right _ (by omega)
     grind
   apply Classical.byContradiction
   intro h
   have:(i + m) * sz ≤ a * sz:=Nat.mul_le_mul_right _ (by omega)
   grind
 rintro ⟨h1,h2⟩
 have e1:i * sz ≤ a * sz:=Nat.mul_le_mul_right _ h1
 have e2:(a + 1) * sz ≤ (i + m) * sz:=Nat.mul_le_mul_right _ h2
 grind
theorem a2m (hE:cr P E) (h:ak w0 nt c s a w) {args:List Operand} {tys:List TypeId} {u:App} {ty:TypeId} (hq':se E s.o (ev s) args tys = some u) (hp:u.pre) :
 ∃ w' c',(Builtin.clear_ tys.toArray ty (args.map a.eval).toArray).run P w = .ok (.tuple #[]) w' ∧ (c'.old = c.old ∧ ak w0 nt c' (s.setO u.id (some u.ob)) a w') ∧ u.val = .tup []:=by
 unfold se at hq'
 split at hq' <;> try (cases hq';done)
 rename_i x t
 split at hq' <;> try (cases hq';done)
 rename_i ti hti
 split at hq' <;> try (cases hq';done)
 rename_i el hk
 split at hq' <;> try (cases hq';done)
 rename_i ei hei
 split at hq' <;> try (cases hq';done)
 rename_i z hz
 split at hq' <;> try (cases hq';done)
 rename_i hone hdec
 have hzl:=of_decide_eq_true hdec
 split at hq' <;> try (cases hq';done)
 rename_i hv hx
 unfold a2n at hq'
 split at hq' <;> try (cases hq';done)
 rename_i id n i m
 split at hq' <;> try (cases hq';done)
 rename_i sz el' n' f hob
 simp only [Option.some.injEq] at hq'
 subst hq'
 obtain ⟨rfl,hs⟩:=hp
 subst hs
 obtain ⟨ii,d,h1,h2,h3,_⟩:=bd (hE t ti hti)
 obtain rfl:=du (h3.symm.trans hk)
 obtain ⟨ie,de,e1,e2,e3,e4,e5,e6,_⟩:=bd (hE el ei hei)
 rw [hz] at e6
 obtain ⟨ad,ad',cap,q1,q2,q3,q4,q5,q6⟩:=a36 (ai h hx) hob rfl
 cases hiz:ie.zero with
 | none=>rw [hiz] at e6;cases e6
 | some zv =>
  rw [hiz] at e6
  simp only [Option.map_some,Option.some.injEq] at e6
  have hzz:zv.cells = z.toArray:=by rw [e6]
  have hzv:∀ w,(zeroValue el).run P w = .ok zv w:=fun w=>by simp [zeroValue,typeInfo,e1,hiz]
  rcases Nat.eq_zero_or_pos m with hm | hm
  · subst hm
    refine ⟨w,c, ?_,⟨rfl, ?_⟩,rfl⟩
    · cases ad' <;> simp [Builtin.clear_,q2,run_underlying h2]
    have hset:a2k f i 0 z = f:=by
     funext a b
     unfold a2k
     grind
    show ak w0 nt c (s.setO id (some (.arr true ei.size el' n' (a2k f i 0 z)))) a w
    rw [hset,a3h hob]
    exact h
  obtain ⟨g,cap',hown,hsz,hcell,hwr⟩:=zm (P:=P) h hob (by omega)
  rw [hown] at q1
  simp only [Value.slice.injEq,true_and] at q1
  obtain ⟨rfl,rfl⟩:=q1
  obtain rfl:=q6 (by omega)
  simp only [Option.map_some,add_lit,Nat.zero_add] at q2
  have hzlen:((Builtin.zeroCells zv.cells m).toList).length = m * ei.size:=by simp [Builtin.zeroCells,hzz,hzl]
  have hzat:∀ k,k < m * ei.size → (Builtin.zeroCells zv.cells m).toList[k]? = some (z.getD (k % ei.size) (.bool false)):=by
   intro k hk'
   have hmod:=Nat.mod_lt k hsz
   simp only [Builtin.zeroCells,hzz,List.size_toArray,hzl,Array.toList_map,Array.toList_range,List.getElem?_map,List.getElem?_range hk',Option.map_some]
   grind
  obtain ⟨w',c',hst,hold,_,hr⟩:=hwr (i * ei.size) (Builtin.zeroCells zv.cells m).toList (a2k f i m z) (by rw [hzlen,← Nat.add_mul];exact Nat.mul_le_mul_right _ q3) (by
   intro v hv
   obtain ⟨k,hk',hvk⟩:=List.getElem_of_mem hv
   have hk2:k < m * ei.size:=by rw [← hzlen];exact hk'
   have:=hzat k hk2
   rw [List.getElem?_eq_getElem hk',hvk] at this
   simp only [Option.some.injEq] at this
   have hmod:=Nat.mod_lt k hsz
   rw [this,List.getD_eq_getElem?_getD,List.getElem?_eq_getElem (by omega)]
   exact gn hone _ (List.getElem_mem _)) (fun a b ha hb=>by
   rw [hzlen,a3z hb]
   unfold a2k
   refine ⟨fun hc=>?_,fun hc=>by rw [if_neg hc]⟩
   rw [if_pos hc]
   obtain ⟨d,rfl⟩:∃ d,a = i + d:=⟨a - i,by omega⟩
   have e:(i + d) * ei.size + b - i * ei.size = d * ei.size + b:=by rw [Nat.add_mul];omega
   rw [e,hzat _ (a7g (by omega) hb),(a7q hb).2]
   refine ⟨_,rfl, ?_⟩
   rw [List.getD_eq_getElem?_getD,List.getElem?_eq_getElem (by omega)]
   exact jz _ _ (gn hone _ (List.getElem_mem _)))
  refine ⟨w',c', ?_,⟨hold,hr⟩,rfl⟩
  obtain ⟨m',rfl⟩:∃ m',m = m' + 1:=⟨m - 1,by omega⟩
  simp [Builtin.clear_,q2,run_underlying h2,hzv,hst]
theorem a74 (hE:cr P E) (h:ak w0 nt c s a w) {t el ty:TypeId} (ht:P.underlying t = some (.slice el)) {id n i k:Nat} {hy:HV} {vx vy:Value} {u:App} (hx:bq c s.o (.win id n i k) vx) (hyr:bq c s.o hy vy) (hq':vt E s.o el id n i k hy = some u) (hp:u.pre) :
 ∃ v w' c',(Builtin.append_ #[t,t] ty #[vx,vy]).run P w = .ok v w' ∧ (c'.old = c.old ∧ ak w0 nt c' (s.setO u.id (some u.ob)) a w') ∧ ax c' (s.setO u.id (some u.ob)).o u.val v:=by
 unfold vt at hq'
 split at hq' <;> try (cases hq';done)
 rename_i id2 n2 j m
 split at hq' <;> try (cases hq';done)
 rename_i ei sz el' n' f hbeq hei hob
 have hid:=Nat.eq_of_beq_eq_true hbeq
 subst hid
 simp only [Option.some.injEq] at hq'
 subst hq'
 obtain ⟨rfl,rfl,hs,hle⟩:=hp
 subst hs
 obtain ⟨ie,de,e1,e2,e3,e4,e5,e6,_⟩:=bd (hE el ei hei)
 obtain ⟨ad,ad',cap,q1,q2,q3,q4,q5,q6⟩:=a36 hx hob rfl
 obtain ⟨ad2,ad2',cap2,r1,r2,r3,r4,r5,r6⟩:=a36 hyr hob rfl
 rw [q1] at r1
 simp only [Value.slice.injEq,true_and] at r1
 obtain ⟨rfl,rfl⟩:=r1
 have hres:∀ (c':Ctx) (f':Nat → Nat → PV),c'.own id2 = c.own id2 → ax c' (s.setO id2 (some (.arr true ei.size el' n2 f'))).o (.v (.one (.win id2 n2 i (k + m)))) (.slice ad' (k + m) (cap - i)):=by
  intro c' f' ho'
  refine ⟨rfl,fun l=>by simp [S.setO],fun ob2 s2 e2 n2 ho2 hd2=>?_⟩
  simp only [S.setO,if_true,Option.some.injEq] at ho2
  subst ho2
  simp only [af.dim,Option.some.injEq,Prod.mk.injEq] at hd2
  obtain ⟨rfl,rfl,rfl⟩:=hd2
  exact ⟨Nat.le_refl _,fun _=>⟨ad,ad',cap,ho'.trans q1,rfl,by omega,q4,q5,q6⟩⟩
 rcases Nat.eq_zero_or_pos m with hm | hm
 · subst hm
   rw [q2,r2]
   refine ⟨_,w,c,kj (P:=P) w t ty el ie ht e1 ad' ad2' k (cap - i) (cap - j) (by omega),⟨rfl, ?_⟩, ?_⟩
   · have hset:mvF f (i + k) j 0 = f:=by
      funext a b
      unfold mvF
      rw [if_neg (by omega)]
     show ak w0 nt c (s.setO id2 (some (.arr true ei.size el' n2 (mvF f (i + k) j 0)))) a w
     rw [hset,a3h hob]
     exact h
   exact hres c _ rfl
 obtain ⟨g,cap',hown,hsz,hcell,hwr⟩:=zm (P:=P) h hob (by omega)
 rw [hown] at q1
 simp only [Value.slice.injEq,true_and] at q1
 obtain ⟨rfl,rfl⟩:=q1
 obtain rfl:=q6 (by omega)
 obtain rfl:=r6 (by omega)
 simp only [Option.map_some,add_lit,Nat.zero_add] at q2 r2 hres
 obtain ⟨news,hnl,hn1,hnr,hnc⟩:=x5 (c:=c) (m:=m) (sz:=ei.size) (g:=fun a b=>f (j + a) b) (F:=fun x=>w.cell? ⟨g,j * ei.size + x,none⟩) hsz (fun a b ha hb=>by
  obtain ⟨x,hx,hr⟩:=hcell (j + a) b (by omega) hb
  refine ⟨x, ?_,hr⟩
  rw [Nat.add_mul,Nat.add_assoc] at hx
  exact hx)
 obtain ⟨w',c',hst,hold,hown',hr⟩:=hwr ((i + k) * ei.size) news (mvF f (i + k) j m) (by rw [hnl,← Nat.add_mul];exact Nat.mul_le_mul_right _ hle) hnc (fun a b ha hb=>by
  rw [hnl,a3z hb]
  unfold mvF
  refine ⟨fun hc=>?_,fun hc=>by rw [if_neg hc]⟩
  rw [if_pos hc]
  obtain ⟨d,rfl⟩:∃ d,a = i + k + d:=⟨a - (i + k),by omega⟩
  have e:(i + k + d) * ei.size + b - (i + k) * ei.size = d * ei.size + b:=by rw [Nat.add_mul (i + k) d];omega
  rw [e]
  obtain ⟨x,hx,hr⟩:=hnr d b (by omega) hb
  exact ⟨x,hx,by rw [show i + k + d - (i + k) + j = j + d by omega];exact hr⟩)
 rw [q2,r2]
 have hfc:=run_firstCells_some (P:=P) (w:=w) ei.size m ⟨g,j * ei.size,none⟩ m (cap' - j) news hnl (fun k v hk=>by rw [add_lit];exact hn1 k v hk)
 refine ⟨.slice (some ⟨g,i * ei.size,none⟩) (k + m) (cap' - i),w',c', ?_,⟨hold,hr⟩,hres c' _ (hown'.trans rfl)⟩
 have hrm:k + m ≤ cap' - i:=by omega
 have hst':(storeCells ⟨g,i * ei.size + k * ei.size,none⟩ news).run P w = .ok () w':=by rw [← Nat.add_mul];exact hst
 simp [Builtin.append_,run_underlying ht,sizeOf,typeInfo,e1,← e4,Builtin.lenOf,hrm,hfc,add_lit,hst']
theorem a93 (hE:cr P E) (h:ak w0 nt c s a w) {t el:TypeId} {ty:TypeId} {id n:Nat} {y:HV} {u:Upd} {vy:Value} (hy:bq c s.o y vy) (ht:P.underlying t = some (.slice el)) (hq':a0h E s.o id n el y = some u) (hp:u.pre) :
 ∃ v w' c',(Builtin.append_ #[t,t] ty #[c.own id,vy]).run P w = .ok v w' ∧ (c'.old = c.old ∧ ak w0 nt c' (s.setO id (some u.ob)) a w') ∧ ax c' (s.setO id (some u.ob)).o (.v (.one (.ref id (n + 1)))) v:=by
 unfold a0h at hq'
 split at hq' <;> try (cases hq';done)
 rename_i ei e et es n' m g p sz' ms' gg hei hob hsrc
 split at hq' <;> try (cases hq';done)
 rename_i id' k hgg
 split at hq' <;> try (cases hq';done)
 rename_i z hz
 split at hq' <;> try (cases hq';done)
 rename_i hdec
 have hzl:=of_decide_eq_true hdec
 simp only [Option.some.injEq] at hq'
 subst hq'
 obtain ⟨p1,rfl,rfl,hsz,rfl,hmax,hbytes⟩:=hp
 obtain ⟨ie,de,e1,e2,e3,e4,e5,e6,_⟩:=bd (hE e ei hei)
 rw [hz] at e6
 cases hiz:ie.zero with
 | none=>rw [hiz] at e6;cases e6
 | some zv =>
  rw [hiz] at e6
  simp only [Option.map_some,Option.some.injEq] at e6
  have hzs:zv.cells.size = 1:=by rw [← Array.length_toList,← e6,hzl,hsz]
  have hmaxn:n' + 1 ≤ maxLen:=by simp only [maxLen];omega
  have hnk:jl 0 c s.o w id e et es n' m g none:=h.objs id _ hob
  obtain ⟨hgm,A,cA,rfl,news,hnl,hn1,hnr,hnc⟩:=a1h h hy hsrc p1 (Nat.one_pos)
  obtain ⟨b,rfl,hncell⟩:∃ b,A = some b ∧ ∀ (k:Nat) u,news[k]? = some u → w.cell? (b.add k) = some u:=by
   grind
  obtain ⟨v',w',row,xs,hrun,hgrow,hrow,hown',hat,hxl,t2⟩:∃ v' w' row xs,(Builtin.append_ #[t,t] ty #[c.own id, .slice (some b) 1 cA]).run P w = .ok v' w' ∧ Grw w w' row ∧ (∀ b,row = some b → ci (c.own id) = some b) ∧ w'.ownsRow 0 e 1 v' (n' + 1) (xs ++ news) ∧
   (∀ b,c3 v' = some b → ci (c.own id) = some b ∨ w.heap.size ≤ b) ∧ xs.length = n' ∧ ∀ i,i < n' → xs[i]? = some (c.rows id i):=by
   have hnil:n' = 0 ∧ (∃ a,c.own id = .slice a 0 0) → ∃ v' w' row xs,(Builtin.append_ #[t,t] ty #[c.own id, .slice (some b) 1 cA]).run P w = .ok v' w' ∧ Grw w w' row ∧ (∀ b,row = some b → ci (c.own id) = some b) ∧ w'.ownsRow 0 e 1 v' (n' + 1) (xs ++ news) ∧
    (∀ b,c3 v' = some b → ci (c.own id) = some b ∨ w.heap.size ≤ b) ∧ xs.length = n' ∧ ∀ i,i < n' → xs[i]? = some (c.rows id i):=by
    rintro ⟨rfl,a0,ha⟩
    cases a0 with
    | none =>
     obtain ⟨v',w',hrun,hown',hgrow0,_,hat⟩:=run_append_own_at (P:=P) w 0 t ty e ie zv 1 ie.bytes ht e1 hiz (by rw [← e4];exact hsz) rfl hzs Nat.one_pos (c.own id) 0 [] (by rw [ha];exact World.ownsRow_nil w _ _ _) b 1 cA news hnl hncell hn1 hmaxn (by rw [← e5];exact hbytes) (Nat.zero_le _)
     refine ⟨v',w',none,[],hrun,⟨?_,mw _ hrun⟩,(fun b e=>by cases e),hown',fun b' hb'=>?_,rfl,fun i hi=>by omega⟩
     · rw [ha] at hgrow0
       exact hgrow0
     have e1':v'.ownBlock = c3 v':=by
      rcases hown'.2 with ⟨hv,hz⟩ | ⟨g,cap,cur,hv,_⟩
      · omega
      rw [hv];rfl
     rw [← e1'] at hb'
     rcases hat with h1 | h1
     · rw [h1,ha] at hb';cases hb'
     grind
    | some ba =>
     have hr:=run_append_grow (P:=P) w t ty e ie zv ht e1 hiz ba 0 0 [] (by simp) (fun k u hk=>by simp at hk) b 1 cA news (by rw [← e4,hsz];exact hnl) hncell (by omega) (by omega) (growslice_fits (by omega) (by rw [← e5];exact hbytes))
     rw [← ha] at hr
     have hge:=grownCap_ge w (0 + 1) 0 e
     have hcm:grownCap w (0 + 1) 0 e ≤ maxLen:=grownCap_le_maxLen w (0 + 1) 0 e hmaxn
     refine ⟨_,_,none,[],hr,⟨⟨rfl,rfl,rfl,by simp,fun k hk _=>heap_alloc_old w.drew _ k hk⟩,Nat.le_succ _⟩,(fun b e=>by cases e),⟨by rw [List.nil_append];exact hnl, .inr ⟨w.heap.size,_,_,rfl,Nat.zero_le _,heap_alloc_new w.drew _,hge,hcm, ?_, ?_⟩⟩,fun b' hb'=>.inr ?_,rfl,fun i hi=>by omega⟩
     · simp only [Array.size_append,List.size_toArray,size_zeroCells,hzs,hnl,List.length_nil]
       omega
     · grind
     simp only [c3,Option.some.injEq] at hb'
     omega
   rcases hnk.top with r0 | ⟨xs,t1,t2,_⟩
   · exact hnil r0
   have t1:w.ownsRow 0 e 1 (c.own id) n' xs:=t1
   rcases fb t1 with r0 | ⟨b0,cap0,rv,rb⟩
   · exact hnil r0
   obtain ⟨v',w',hrun,hown',hgrow0,_,hat⟩:=run_append_own_at (P:=P) w 0 t ty e ie zv 1 ie.bytes ht e1 hiz (by rw [← e4];exact hsz) rfl hzs Nat.one_pos (c.own id) n' xs t1 b 1 cA news hnl hncell hn1 hmaxn (by rw [← e5];exact hbytes) (Nat.zero_le _)
   have e0:(c.own id).ownBlock = some b0:=by rw [rv];rfl
   refine ⟨v',w',(c.own id).ownBlock,xs,hrun,⟨hgrow0,mw _ hrun⟩,fun b' hb'=>by rw [e0] at hb';rw [rb];exact hb',hown',fun b' hb'=>?_,by rw [t1.1];omega,t2⟩
   have e1':v'.ownBlock = c3 v':=by
    rcases hown'.2 with ⟨hv,hz⟩ | ⟨g,cap,cur,hv,_⟩
    · omega
    rw [hv];rfl
   grind
  have hform:∃ ad' cap',v' = .slice ad' (n' + 1) cap':=by
   rcases hown'.2 with ⟨hv,hz⟩ | ⟨g,cap,cur,hv,_⟩
   · omega
   grind
  have hcv:ci v' = c3 v':=by
   rcases fb hown' with ⟨hz,_⟩ | ⟨b',cap',rv,rb⟩
   · omega
   rw [rb,rv];rfl
  have hinner:∀ i b',i < n' → ci (c.rows id i) = some b' → b' < w.heap.size:=fun i b' hi hb'=>((h.objs id _ hob).blk ((hnk.blks b').2 (.inr ⟨i,hi,hb'⟩))).2
  have hnew:∀ i b',i < n' → ci (c.rows id i) = some b' → ci v' ≠ some b':=fun i b' hi hb' he=>by
   rw [hcv] at he
   rcases hat b' he with h1 | h1
   · exact (hnk.apart i b' hi hb').1 h1
   grind
  have hold:∀ i b',i < n' → ci (c.rows id i) = some b' → w'.heap[b']? = w.heap[b']?:=fun i b' hi hb'=>hgrow.base.block b' (hinner i b' hi hb') fun he=>(hnk.apart i b' hi hb').1 (hrow b' he.symm)
  have hevo:∀ k2,Evo c s.o { old:=c.old,imm:=c.imm,tab:=c.tab,own:=fun k2=>if k2 = id then v' else c.own k2,blk:=fun k2=>if k2 = id then (fun b=>ci v' = some b ∨ ∃ i,i < n' ∧ ci (c.rows id i) = some b) else c.blk k2,rows:=c.rows } (s.setO id (some (.nest e et es n' m g (some (id',k))))).o k2:=fun k2=>by
   by_cases hk:k2 = id
   · subst hk
     exact .inr (.inr ⟨_,_,1,e,n',n' + 1,hob,rfl,(by show (if k2 = k2 then _ else _) = _;rw [if_pos rfl]),rfl,Nat.le_succ _,fun hh=>by omega,fun e2 et2 es2 n2 m2 g2 pd2 hb2=>by
      cases hb2
      exact ⟨_,_,_,_,_,_,rfl,Nat.le_refl _,fun i _=>⟨Nat.le_refl _,fun _=>rfl⟩⟩⟩)
   exact Evo.of_same (by simp [S.setO,hk]) (by simp [hk])
  refine ⟨v',w',_,hrun,⟨(by rfl),h.write id _ hob (.nest e et es n' m g (some (id',k))) w' v' (fun b=>ci v' = some b ∨ ∃ i,i < n' ∧ ci (c.rows id i) = some b) row hgrow (fun b' hb'=>(hnk.blks b').2 (.inl (hrow b' hb'))) (hevo id) (fun b' hb'=>?_) ?_⟩, ?_,fun l=>by simp [S.setO],fun ob2 s2 e2 n2 ho2 hd2=>?_⟩
  · rcases hb' with hb' | hb'
    · rw [hcv] at hb'
      rcases hat b' hb' with h1 | h1
      · exact .inl ((hnk.blks b').2 (.inl h1))
      grind
    exact .inl ((hnk.blks b').2 (.inr hb'))
  · refine ⟨hnk.pos,hmaxn,hnk.lens,fun b'=>by simp,fun i b' hi hb'=>⟨by simpa using hnew i b' hi hb',(hnk.apart i b' hi hb').2⟩,fun i hi=>?_, .inr ⟨xs ++ news, ?_,fun i hi=>?_,fun p hp=>?_⟩⟩
    · rcases hnk.row i hi with r0 | ⟨zs,r1,r2⟩
      · exact .inl r0
      rcases fb r1 with r0 | ⟨b',cap2,rv,rb⟩
      · exact .inl r0
      refine .inr ⟨zs,j0 r1 fun b2 hb2=>?_,r2⟩
      rw [rv] at hb2
      simp only [c3,Option.some.injEq] at hb2
      grind
    · simp only [if_true]
      exact hown'
    · grind
    cases hp
    obtain ⟨x,hx,hxr⟩:=hnr 0 0 (by omega) (by omega)
    rw [hgg] at hxr
    refine ⟨x, ?_,bq.evo (c:=c) (o:=s.o) (Imm.le.refl c.imm) (fun k _=>hevo k) hxr⟩
    grind
  · obtain ⟨_,_,rfl⟩:=hform;rfl
  simp only [S.setO,if_true,Option.some.injEq] at ho2
  subst ho2
  simp only [af.dim,Option.some.injEq,Prod.mk.injEq] at hd2
  grind
theorem abp (hE:cr P E) (h:ak w0 nt c s a w) {o:Oper} {id:Nat} {wb:Bool} {u:App} (hq':hap E s.o (ev s) id wb o.op = some u) (hp:u.pre) (hn:u.new = true → NM s id ∧ s.o id = none) :
 ∃ v w' c',(execOp a.eval o).run P w = .ok (.value v) w' ∧ (c'.old = c.old ∧ ak w0 nt c' (s.setO u.id (some u.ob)) a w') ∧ ax c' (s.setO u.id (some u.ob)).o u.val v:=by
 cases ho:o.op <;> rw [ho] at hq' <;> simp only [hap] at hq' <;> try (cases hq';done)
 case call cl =>
  split at hq' <;> try (cases hq';done)
  case h_2 hcal =>
   obtain ⟨w',c',h1,h2,h3⟩:=a2m (ty:=o.type) hE h hq' hp
   refine ⟨.tuple #[],w',c', ?_,h2,by rw [h3];exact ⟨[],rfl,trivial⟩⟩
   unfold execOp
   rw [← Array.toList_map,Array.toArray_toList,Array.toArray_toList] at h1
   simp only [ho,resolve,hcal,Sem.run_bind,Sem.run_pure,Result.andThen_ok,invoke,builtin,h1]
  rename_i hcal
  unfold z1 at hq'
  split at hq' <;> try (cases hq';done)
  rename_i x y t t' hargs htys
  split at hq' <;> try (cases hq';done)
  rename_i htt
  have htt:=Nat.eq_of_beq_eq_true htt
  subst htt
  unfold yp at hq'
  split at hq' <;> try (cases hq';done)
  rename_i i hti
  split at hq' <;> try (cases hq';done)
  rename_i el hk
  split at hq' <;> try (cases hq';done)
  rename_i hxv hx
  split at hq' <;> try (cases hq';done)
  rename_i hy hyy
  unfold qf at hq'
  have hA:cl.args = #[x,y]:=Array.ext' (by simpa using hargs)
  have hT:cl.argTypes = #[t,t]:=Array.ext' (by simpa using htys)
  obtain ⟨ii,d,h1,h2,h3,_⟩:=bd (hE t i hti)
  have hrun:∀ v w',(Builtin.append_ #[t,t] o.type #[a.eval x,a.eval y]).run P w = .ok v w' → (execOp a.eval o).run P w = .ok (.value v) w':=by
   intro v w' hv
   unfold execOp
   simp only [ho,resolve,hcal,hA,hT,Sem.run_bind,Sem.run_pure,Result.andThen_ok,invoke,builtin,List.map_toArray,List.map_cons,List.map_nil,hv]
  split at hq' <;> try (cases hq';done)
  · rename_i id1 n i1 k1
    obtain rfl:=du (h3.symm.trans hk)
    obtain ⟨v,w',c',g1,g2,g3⟩:=a74 (ty:=o.type) hE h h2 (ai h hx) (ai h hyy) hq' hp
    exact ⟨v,w',c',hrun v w' g1,g2,g3⟩
  · rename_i id1 n ad cap
    obtain rfl:=du (h3.symm.trans hk)
    split at hq' <;> try (cases hq';done)
    rename_i uu huu
    split at hq' <;> try (cases hq';done)
    rename_i wr sz el2 k f hob
    simp only [Option.some.injEq] at hq'
    subst hq'
    obtain ⟨hp,hkc⟩:=hp
    have hny:=ai h hyy
    obtain ⟨v,w',c',k',sz',f',g1,g2,g3,g4,g5⟩:=tz (ty:=o.type) hE h hny h2 huu hp
    have hown:a.eval x = c.own id1 ∧ a.eval x = .slice ad n cap:=by
     have huu2:=huu
     unfold mj at huu2
     split at huu2 <;> try (cases huu2;done)
     rename_i ei wr' sz2 el3 n' f2 p m sz3 g hei hob2 hsrc
     split at huu2 <;> try (cases huu2;done)
     split at huu2 <;> try (cases huu2;done)
     simp only [Option.some.injEq] at huu2
     subst huu2
     obtain ⟨_,rfl,_⟩:=hp
     obtain ⟨g0,_,g⟩:=ai h hx
     exact ⟨(g _ _ _ _ hob2 rfl).2 rfl,g0⟩
    rw [g3] at hob
    simp only [af.arr.injEq] at hob
    obtain ⟨_,_,_,rfl,_⟩:=hob
    have hv:=acj (ty:=o.type) hE h hny h2 huu hp (hown.1.symm.trans hown.2) g3 hkc g1
    rw [← hown.1] at g1
    refine ⟨v,w',c',hrun v w' g1, ?_, ?_⟩
    · rw [← g2];exact g4
    rw [← g2]
    rw [← g2] at g5
    obtain ⟨_,q2,q3⟩:=g5
    exact ⟨hv,q2,q3⟩
  · rename_i id1 n
    obtain rfl:=du (h3.symm.trans hk)
    split at hq'
    · rename_i uu huu
      split at hq' <;> try (cases hq';done)
      rename_i wr sz el2 k f hob
      simp only [Option.some.injEq] at hq'
      subst hq'
      have hny:=ai h hyy
      obtain ⟨v,w',c',k',sz',f',g1,g2,g3,g4,g5⟩:=tz (ty:=o.type) hE h hny h2 huu hp
      have hown:a.eval x = c.own id1:=by
       unfold mj at huu
       split at huu <;> try (cases huu;done)
       rename_i ei wr' sz2 el3 n' f2 p m sz3 g hei hob2 hsrc
       split at huu <;> try (cases huu;done)
       split at huu <;> try (cases huu;done)
       simp only [Option.some.injEq] at huu
       subst huu
       obtain ⟨_,rfl,_⟩:=hp
       obtain ⟨_,_,g⟩:=ai h hx
       exact (g _ _ _ _ hob2 rfl).2 rfl
      rw [g3] at hob
      simp only [af.arr.injEq] at hob
      obtain ⟨_,_,_,rfl,_⟩:=hob
      rw [← hown] at g1
      refine ⟨v,w',c',hrun v w' g1, ?_, ?_⟩
      · rw [← g2];exact g4
      rw [← g2];rw [← g2] at g5;exact g5
    split at hq'
    case h_2 =>
     split at hq' <;> try (cases hq';done)
     rename_i uu huu
     simp only [Option.some.injEq] at hq'
     subst hq'
     obtain ⟨v,w',c',g1,g4,g5⟩:=a93 (ty:=o.type) hE h (ai h hyy) h2 huu hp
     have hown:a.eval x = c.own id1:=by
      unfold a0h at huu
      split at huu <;> try (cases huu;done)
      rename_i ei e et es n' m g p sz' ms' gg hei hob2 hsrc
      split at huu <;> try (cases huu;done)
      split at huu <;> try (cases huu;done)
      split at huu <;> try (cases huu;done)
      simp only [Option.some.injEq] at huu
      subst huu
      obtain ⟨_,rfl,_⟩:=hp
      obtain ⟨_,_,g⟩:=ai h hx
      exact (g _ _ _ _ hob2 rfl).2 rfl
     rw [← hown] at g1
     exact ⟨v,w',c',hrun v w' g1,g4,g5⟩
    rename_i uu huu
    split at hq' <;> try (cases hq';done)
    rename_i sz el2 k ms f hob
    simp only [Option.some.injEq] at hq'
    subst hq'
    have hny:=ai h hyy
    obtain ⟨v,w',c',k',sz',ms',f',g1,g2,g3,g4,g5⟩:=a5y (ty:=o.type) hE h hny h2 huu hp
    have hown:a.eval x = c.own id1:=by
     unfold su at huu
     split at huu <;> try (cases huu;done)
     rename_i ei sz2 el3 n' ms2 f2 p m sz3 ms3 g hei hob2 hsrc
     split at huu <;> try (cases huu;done)
     split at huu <;> try (cases huu;done)
     simp only [Option.some.injEq] at huu
     subst huu
     obtain ⟨_,rfl,_⟩:=hp
     obtain ⟨_,_,g⟩:=ai h hx
     exact (g _ _ _ _ hob2 rfl).2 rfl
    rw [g3] at hob
    simp only [af.arrh.injEq] at hob
    obtain ⟨_,_,rfl,_⟩:=hob
    rw [← hown] at g1
    refine ⟨v,w',c',hrun v w' g1, ?_, ?_⟩
    · rw [← g2];exact g4
    rw [← g2];rw [← g2] at g5;exact g5
  rename_i n sz f
  obtain rfl:=du (h3.symm.trans hk)
  split at hq' <;> try (cases hq';done)
  rename_i ei hei
  split at hq' <;> try (cases hq';done)
  rename_i uu huu
  split at hq' <;> try (cases hq';done)
  rename_i wr sz2 el2 k f2 hob
  simp only [Option.some.injEq] at hq'
  subst hq'
  obtain ⟨hp1,hp2,hp3,hp4⟩:=hp
  obtain ⟨hnm,hno⟩:=hn rfl
  have hxr:=ai h hx
  have hxr':bc c.imm (.sl n ei.size true f) (a.eval x):=by
   rcases hp2 with h0 | h0
   · subst h0
     obtain ⟨ad,cap,q1,q2,q3,q4,q5⟩:=hxr
     exact ⟨ad,cap,q1,q2,q3,q4,fun hh=>by omega⟩
   rw [← h0];exact hxr
  have h':=h.fresh id hnm hno (.arr false ei.size el n f) w (a.eval x) noB (Grw.refl w _) (fun b hb=>hb.elim)
   ⟨hp3,by simp only [maxLen];omega, .inr ⟨.inl rfl,by simp,by simpa using hxr'⟩⟩
  have hny:bq { old:=c.old,imm:=c.imm,tab:=c.tab,own:=fun k=>if k = id then a.eval x else c.own k,blk:=fun k=>if k = id then noB else c.blk k,rows:=c.rows } (s.setO id (some (.arr false ei.size el n f))).o hy (a.eval y):=by
   have hm:=a0e hnm hyy
   refine bq.evo (c:=c) (o:=s.o) (c':={ old:=c.old,imm:=c.imm,tab:=c.tab,own:=fun k=>if k = id then a.eval x else c.own k,blk:=fun k=>if k = id then noB else c.blk k,rows:=c.rows }) (Imm.le.refl c.imm) (fun k hkm=>?_) (ai h hyy)
   have hne:k ≠ id:=by rintro rfl;exact hm hkm
   exact Evo.of_same (by simp [S.setO,hne]) (by simp [hne])
  obtain ⟨v,w',c',k',sz',f',g1,g2,g3,g4,g5⟩:=tz (ty:=o.type) hE h' hny h2 huu hp1
  rw [g3] at hob
  simp only [af.arr.injEq] at hob
  obtain ⟨_,_,_,rfl,_⟩:=hob
  simp only [if_true] at g1
  refine ⟨v,w',c',hrun v w' g1, ?_, ?_⟩
  · rw [g2] at g4
    have e:((s.setO id (some (.arr false ei.size el n f))).setO id (some uu.ob)) = s.setO id (some uu.ob):=by
     simp only [S.setO,S.mk.injEq,true_and]
     funext k
     by_cases hk:k = id <;> simp [hk]
    rw [e] at g4
    exact g4
  rw [g2] at g5
  have e:((s.setO id (some (.arr false ei.size el n f))).setO id (some uu.ob)) = s.setO id (some uu.ob):=by
   simp only [S.setO,S.mk.injEq,true_and]
   funext k
   by_cases hk:k = id <;> simp [hk]
  rw [e] at g5
  exact g5
end
end
end Go.Hx
