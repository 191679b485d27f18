/- A part of the proof: Hx7. -/
import Derived.Maps.AppendAt
import Derived.WideMake
import Derived.Test.YtaegkccfbmekbaaGreatNq05
set_option linter.all false
section
namespace Go.Hx
open Go.RowKit
def a1n (e:Ev) (sz n:Nat):List (Nat × Operand) → List HV → Option (List HV):=fun parts cells=>fy e ((List.range n).map fun i=>(i * sz,sz)) cells parts
def jb:List HV → Option (List PV)
 | []=>some []
 | .p x :: r=>match jb r with | some l=>some (x :: l) | none=>none
 | _ :: _=>none
theorem mt {c:Ctx} {o:b8}:∀ {l:List HV} {us:List Value} {ps:List PV},bq c o l us → jb l = some ps → ep c.imm ps us
 | [],[],ps,_,h=>by simp [jb] at h;subst h;trivial
 | .p x :: r,u :: us,ps,hr,h=>by
  simp only [jb] at h
  split at h <;> try (cases h;done)
  rename_i l hl
  simp only [Option.some.injEq] at h
  subst h
  exact ⟨hr.1,mt hr.2 hl⟩
 | .ref _ _ :: _,_,_,_,h=>by simp [jb] at h
 | .ptr _ _ :: _,_,_,_,h=>by simp [jb] at h
 | .eptr _ _ _ _ :: _,_,_,_,h=>by simp [jb] at h
 | .win _ _ _ _ :: _,_,_,_,h=>by simp [jb] at h
 | .clo _ _ _ :: _,_,_,_,h=>by simp [jb] at h
 | .row _ _ _ :: _,_,_,_,h=>by simp [jb] at h
 | .rptr _ _ _ _ _ :: _,_,_,_,h=>by simp [jb] at h
 | .pin _ _ _ _ :: _,_,_,_,h=>by simp [jb] at h
 | [],_ :: _,_,hr,_=>hr.elim
 | .p _ :: _,[],_,hr,_=>hr.elim
def ab0 (f:Nat → List Nat):Nat → List Nat
 | 0=>[]
 | n + 1=>ab0 f n ++ f n
theorem abg {f:Nat → List Nat} {k:Nat}:∀ {n:Nat},k ∈ ab0 f n ↔ ∃ i,i < n ∧ k ∈ f i
 | 0=>by simp [ab0]
 | n + 1=>by
  simp only [ab0,List.mem_append,abg (n:=n)]
  constructor
  · rintro (⟨i,h1,h2⟩ | h)
    · exact ⟨i,by omega,h2⟩
    · exact ⟨n,by omega,h⟩
  · rintro ⟨i,h1,h2⟩
    by_cases h:i = n
    · subst h;exact .inr h2
    · exact .inl ⟨i,by omega,h2⟩
def HV.ids:HV → List Nat
 | .p _=>[]
 | .ref id _=>[id]
 | .ptr id _=>[id]
 | .eptr id _ _ _=>[id]
 | .win id _ _ _=>[id]
 | .clo _ k caps=>ab0 (fun i=>(caps i).ids) k
 | .row id _ _=>[id]
 | .rptr id _ _ _ _=>[id]
 | .pin id _ _ _=>[id]
def gi:List HV → List Nat
 | []=>[]
 | h :: r=>h.ids ++ gi r
theorem HV.men_ids' {h:HV} {k:Nat}:h.men k ↔ k ∈ h.ids:=by
 induction h with
 | clo g n caps ih =>
  simp only [HV.men,HV.ids,abg]
  exact exists_congr fun i=>and_congr Iff.rfl (ih i)
 | _=>simp [HV.men,HV.ids]
theorem HV.men_ids {h:HV} {k:Nat}:h.men k → k ∈ h.ids:=HV.men_ids'.1
theorem kg:∀ {l:List HV} {k:Nat},(∃ h ∈ l,h.men k) → k ∈ gi l
 | h :: r,k,⟨x,hx,hm⟩=>by
  rcases List.mem_cons.1 hx with rfl | hx
  · exact List.mem_append_left _ (HV.men_ids hm)
  · exact List.mem_append_right _ (kg ⟨x,hx,hm⟩)
theorem idsL_mem':∀ {l:List HV} {k:Nat},k ∈ gi l → ∃ h ∈ l,h.men k
 | h :: r,k,hk=>by
  rcases List.mem_append.1 hk with hk | hk
  · exact ⟨h,by simp,HV.men_ids'.2 hk⟩
  · obtain ⟨x,hx,hm⟩:=idsL_mem' hk
    exact ⟨x,by simp [hx],hm⟩
structure New where
 pre:Prop
 val:HR
 ob:ag
def aen (t:TypeId) (z:List Value):Option TypeId :=
 match anm with
 | some (T,e) =>
  match Nat.beq t T,z with
  | true,[.pointer none, .slice none 0 0]=>some e
  | _,_=>none
 | none=>none
theorem afy {t e:TypeId} {z:List Value} (h:aen t z = some e):z = [.pointer none, .slice none 0 0]:=by
 unfold aen at h
 split at h
 · split at h
   · rfl
   · cases h
 · cases h
def ha (E:Env) (e:Ev) (id:Nat):Op → Option New
 | .alloc t =>
  match E t with
  | some i =>
   match i.zero with
   | some z =>
    match aen t z with
    | some e=>some ⟨True, .v (.one (.ref id 0)), .bld true t e []⟩
    | none=>match mq z with | true=>some ⟨True, .v (.one (.ptr id 0)), .box (z.map fun c=>.p (jx c))⟩ | false=>none
   | none=>none
  | none=>none
 | .box _ x =>
  match e x with
  | some (.v c)=>some ⟨True, .v (.one (.ptr id 0)), .box c.cells⟩
  | _=>none
 | .buildSlice t n parts =>
  match E t with
  | some i =>
   match i.k with
   | .slice el =>
    match E el with
    | some ei =>
     match ei.zero with
     | some z =>
      match mq z,decide (z.length = ei.size ∧ 0 < ei.size ∧ n * ei.size ≤ 16777216),a1n e ei.size n parts.toList ((List.range (n * ei.size)).map fun k=>.p (jx (z.getD (k % ei.size) (.bool false)))) with
      | true,true,some l =>
       match jb l with
       | some ps=>some ⟨True, .v (.one (.ref id n)), .arr true ei.size el n fun i j=>ps.getD (i * ei.size + j) .any⟩
       | none=>some ⟨True, .v (.one (.ref id n)), .arrh ei.size el n (gi l) fun i j=>l.getD (i * ei.size + j) (.p .any)⟩
      | _,_,_=>none
     | none=>none
    | none=>none
   | _=>none
  | none=>none
 | .makeMap t r =>
  match E t,r with
  | some i,none =>
   match i.k with
   | .map kt _ =>
    match E kt with
    | some ki=>match a0e ki.k with | some kk=>some ⟨True, .v (.one (.ref id 0)), .mp kk 0 fun _=>none⟩ | none=>none
    | none=>none
   | _=>none
  | _,_=>none
 | .makeSlice t l cp =>
  match E t,e l,e cp with
  | some i,some (.v (.one (.p (.raw (.int _ n))))),some (.v (.one (.p (.raw (.int _ m))))) =>
   match i.k with
   | .slice el =>
    match E el with
    | some ei =>
     match ei.zero with
     | some z =>
      match mq z,decide (z.length = ei.size ∧ 0 < ei.size) with
      | true,true=>some ⟨0 ≤ n ∧ n ≤ m ∧ m ≤ 9223372036854775807 ∧ (ei.bytes:Int) * m ≤ 281474976710656, .v (.one (.ref id n.toNat)), .arr true ei.size el n.toNat fun _ j=>jx (z.getD j (.bool false))⟩
      | _,_=>none
     | none=>none
    | none=>none
   | _=>none
  | _,_,_=>none
 | _=>none
section
variable {P:Program} {E:Env} {w0:World} {nt:Nat} {c:Ctx} {s:S} {a:Act} {w:World}
theorem a2t {id:Nat} (hm:NM s id) {x:Operand} {r:HR} (hx:ev s x = some r):¬ r.men id:=by
 cases x with
 | tmp d=>exact hm.1 d r hx
 | const v =>
  simp only [ev,a3v] at hx
  split at hx
  · split at hx <;> try (cases hx;done)
    simp only [Option.some.injEq] at hx
    subst hx
    rintro ⟨h,hh,hmn⟩
    obtain ⟨u,_,rfl⟩:=List.mem_map.1 hh
    exact hmn
  · cases hx
  · simp only [Option.some.injEq] at hx
    subst hx
    exact fun hf=>hf
 | global g =>
  simp only [ev] at hx
  split at hx
  · simp only [Option.some.injEq] at hx
    subst hx
    exact fun hf=>hf
  · cases hx
 | func f =>
  simp only [ev,Option.some.injEq] at hx
  subst hx
  exact fun hf=>hf
theorem ah9 (h:al w0 nt c s a w) (id:Nat) (hm:NM s id) (hn:s.o id = none) (l:List HV) (C:Array Value) (t:TypeId) (hl:∀ k,(∃ x ∈ l,x.men k) → k ≠ id) (hr:bq c s.o l C.toList) :
 ∃ c',c'.old = c.old ∧ al w0 nt c' (s.setO id (some (.box l))) a (w.alloc (.cells C t)) ∧ b7 c' (s.setO id (some (.box l))).o (.v (.one (.ptr id 0))) (.pointer (some ⟨w.heap.size,0,none⟩)):=by
 refine ⟨_,(by rfl),h.fresh id hm hn (.box l) (w.alloc (.cells C t)) (.pointer (some ⟨w.heap.size,0,none⟩)) (tl w.heap.size) (Grw.alloc w _ none) (fun b hb=>Nat.le_of_eq (Eq.symm hb)) ⟨w.heap.size,C,t,by simp,by simp,Nat.zero_le _,heap_alloc_new w _, ?_⟩,rfl,fun ob d hob=>by simp [S.setO] at hob;subst hob;simp [ag.dim],fun l' _=>⟨w.heap.size,by simp,rfl⟩⟩
 exact bq.evo (c:=c) (o:=s.o) (c':={ old:=c.old,imm:=c.imm,tab:=c.tab,own:=fun k=>if k = id then Value.pointer (some ⟨w.heap.size,0,none⟩) else c.own k,blk:=fun k=>if k = id then tl w.heap.size else c.blk k,rows:=c.rows })
  (o':=(s.setO id (some (ag.box l))).o) (Imm.le.refl c.imm) (fun k hk=>by
   have hne:=hl k hk
   exact Evo.of_same (by simp [S.setO,hne]) (by simp [hne])) hr
theorem ae6 {i j sz:Nat} (hj:j < sz):(i * sz + j) / sz = i ∧ (i * sz + j) % sz = j:=by
 constructor
 · rw [Nat.add_comm,Nat.add_mul_div_right _ _ (by omega),Nat.div_eq_of_lt hj,Nat.zero_add]
 · rw [Nat.add_comm,Nat.add_mul_mod_self_right,Nat.mod_eq_of_lt hj]
theorem ajc (h:al w0 nt c s a w) (id:Nat) (hm:NM s id) (hn:s.o id = none) (sz:Nat) (el:TypeId) (n cap:Nat) (f:Nat → Nat → PV) (C:Array Value) (hsz:0 < sz) (hcap:n ≤ cap) (hmax:cap ≤ maxLen) (hC:C.size = cap * sz)
 (hr:∀ i j,i < n → j < sz → ∃ x,C.toList[i * sz + j]? = some x ∧ b9 c.imm (f i j) x) :
 ∃ c',c'.old = c.old ∧ al w0 nt c' (s.setO id (some (.arr true sz el n f))) a (w.alloc (.cells C el)) ∧ b7 c' (s.setO id (some (.arr true sz el n f))).o (.v (.one (.ref id n))) (.slice (some ⟨w.heap.size,0,none⟩) n cap):=by
 refine ⟨_,(by rfl),h.fresh id hm hn (.arr true sz el n f) (w.alloc (.cells C el)) (.slice (some ⟨w.heap.size,0,none⟩) n cap) (dv (.slice (some ⟨w.heap.size,0,none⟩) n cap)) (Grw.alloc w _ none) (fun b hb=>by simp [dv,br] at hb;omega) ⟨hsz,by omega, .inl ⟨by simp,C.toList.take (n * sz), ?_,fun i j hi hj=>?_⟩⟩,rfl,fun l=>by simp [S.setO],fun ob2 s2 e2 n2 ho2 hd2=>?_⟩
 · refine ⟨?_, .inr ⟨w.heap.size,cap,C,by simp,Nat.zero_le _,heap_alloc_new w _,hcap,hmax,hC,rfl⟩⟩
   have:n * sz ≤ cap * sz:=Nat.mul_le_mul_right _ hcap
   rw [List.length_take,Array.length_toList,hC,Nat.min_eq_left this]
 · obtain ⟨x,hx,hxr⟩:=hr i j hi hj
   refine ⟨x, ?_,hxr⟩
   have:i * sz + j < n * sz:=by
    have:(i + 1) * sz ≤ n * sz:=Nat.mul_le_mul_right _ (by omega)
    rw [Nat.add_mul] at this;omega
   rw [List.getElem?_take,if_pos this]
   exact hx
 · simp only [S.setO,if_true,Option.some.injEq] at ho2
   subst ho2
   simp only [ag.dim,Option.some.injEq,Prod.mk.injEq] at hd2
   obtain ⟨rfl,rfl,rfl⟩:=hd2
   exact ⟨Nat.le_refl _,fun _=>by simp⟩
theorem aoi (h:al w0 nt c s a w) (id:Nat) (hm:NM s id) (hn:s.o id = none) (sz:Nat) (el:TypeId) (n cap:Nat) (ms:List Nat) (f:Nat → Nat → HV) (C:Array Value) (hsz:0 < sz) (hcap:n ≤ cap) (hmax:cap ≤ maxLen) (hC:C.size = cap * sz)
 (hms:∀ i j k,i < n → j < sz → (f i j).men k → k ∈ ms) (hid:id ∉ ms) (hr:∀ i j,i < n → j < sz → ∃ x,C.toList[i * sz + j]? = some x ∧ bp c s.o (f i j) x) :
 ∃ c',c'.old = c.old ∧ al w0 nt c' (s.setO id (some (.arrh sz el n ms f))) a (w.alloc (.cells C el)) ∧ b7 c' (s.setO id (some (.arrh sz el n ms f))).o (.v (.one (.ref id n))) (.slice (some ⟨w.heap.size,0,none⟩) n cap):=by
 refine ⟨_,(by rfl),h.fresh id hm hn (.arrh sz el n ms f) (w.alloc (.cells C el)) (.slice (some ⟨w.heap.size,0,none⟩) n cap) (dv (.slice (some ⟨w.heap.size,0,none⟩) n cap)) (Grw.alloc w _ none) (fun b hb=>by simp [dv,br] at hb;omega) ⟨hsz,by omega,hms, .inl ⟨by simp,C.toList.take (n * sz), ?_,fun i j hi hj=>?_⟩⟩,rfl,fun l=>by simp [S.setO],fun ob2 s2 e2 n2 ho2 hd2=>?_⟩
 · refine ⟨?_, .inr ⟨w.heap.size,cap,C,by simp,Nat.zero_le _,heap_alloc_new w _,hcap,hmax,hC,rfl⟩⟩
   have:n * sz ≤ cap * sz:=Nat.mul_le_mul_right _ hcap
   rw [List.length_take,Array.length_toList,hC,Nat.min_eq_left this]
 · obtain ⟨x,hx,hxr⟩:=hr i j hi hj
   refine ⟨x, ?_, ?_⟩
   · have:i * sz + j < n * sz:=by
      have:(i + 1) * sz ≤ n * sz:=Nat.mul_le_mul_right _ (by omega)
      rw [Nat.add_mul] at this;omega
     rw [List.getElem?_take,if_pos this]
     exact hx
   · refine bp.evo (c:=c) (o:=s.o) (Imm.le.refl c.imm) (fun k hk=>?_) hxr
     have hne:k ≠ id:=by rintro rfl;exact hid (hms i j k hi hj hk)
     exact Evo.of_same (by simp [S.setO,hne]) (by simp [hne])
 · simp only [S.setO,if_true,Option.some.injEq] at ho2
   subst ho2
   simp only [ag.dim,Option.some.injEq,Prod.mk.injEq] at hd2
   obtain ⟨rfl,rfl,rfl⟩:=hd2
   exact ⟨Nat.le_refl _,fun _=>by simp⟩
theorem aip {e:Ev} {id:Nat} (he:∀ x r,e x = some r → ¬ r.men id) (places:List (Nat × Nat)):∀ (parts:List (Nat × Operand)) (cells l:List HV),fy e places cells parts = some l → (∀ x ∈ cells,¬ x.men id) → ∀ x ∈ l,¬ x.men id:=by
 intro parts
 induction parts with
 | nil=>intro cells l h hc;simp [fy] at h;rw [← h];exact hc
 | cons p r ih =>
  intro cells l h hc
  obtain ⟨i,x⟩:=p
  simp only [fy] at h
  split at h <;> try (cases h;done)
  rename_i off size cc hpl hx
  split at h <;> try (cases h;done)
  refine ih _ _ h fun y hy=>?_
  simp only [bu,List.append_assoc,List.mem_append] at hy
  rcases hy with hy | hy | hy
  · exact hc y (List.mem_of_mem_take hy)
  · have:=he x _ hx
    intro hm
    apply this
    cases cc with
    | one hh=>simp only [HC.cells,List.mem_singleton] at hy;subst hy;exact hm
    | agg l=>exact ⟨y,hy,hm⟩
  · exact hc y (List.mem_of_mem_drop hy)
theorem fillH_sound' (h:al w0 nt c s a w) (places:List (Nat × Nat)) (place:Nat → Option (Nat × Nat)) (hpl:∀ i p,places[i]? = some p → place i = some p):∀ (parts:List (Nat × Operand)) (cells:List HV) (us:List Value) (l:List HV),bq c s.o cells us → fy (ev s) places cells parts = some l →
 ∃ vs:List Value,Instr.fill place us.toArray (parts.map fun p=>(p.1,a.eval p.2)) = some vs.toArray ∧ bq c s.o l vs:=by
 intro parts
 induction parts with
 | nil =>
  intro cells us l hc hf
  simp only [fy,Option.some.injEq] at hf
  subst hf
  exact ⟨us,by simp [Instr.fill],hc⟩
 | cons p r ih =>
  intro cells us l hc hf
  obtain ⟨i,x⟩:=p
  have hf0:=hf
  simp only [fy] at hf
  split at hf <;> try (cases hf;done)
  rename_i off size cc hplc hx
  split at hf <;> try (cases hf;done)
  rename_i h1 h2
  have h1:=of_decide_eq_true h1
  have h2:=of_decide_eq_true h2
  have hu:fb c s.o cc (a.eval x):=ai h hx
  obtain ⟨hcl,hsz⟩:=jg hu
  have hset:bq c s.o (bu cells off cc.cells) (us.take off ++ (a.eval x).cells.toList ++ us.drop (off + cc.cells.length)):=((hc.take off).append hcl).append (hc.drop _)
  obtain ⟨vs,hv,hr⟩:=ih _ _ l hset hf
  obtain ⟨vs1,hv1,_⟩:=vj h places [(i,x)] cells us (bu cells off cc.cells) hc (by simp only [fy,hplc,hx];simp [h1,h2])
  refine ⟨vs, ?_,hr⟩
  simp only [List.map_cons,List.map_nil,Instr.fill,hplc] at hv1
  simp only [List.map_cons,Instr.fill,hpl i _ hplc]
  have hlen:=hc.length
  have hb:¬ (decide ((a.eval x).cells.size ≠ size) || decide (off + (a.eval x).cells.size > us.toArray.size)) = true:=by
   simp only [Bool.or_eq_true,decide_eq_true_eq,List.size_toArray,not_or]
   omega
  rw [if_neg hb] at hv1 ⊢
  have hfold:=zj off (a.eval x).cells.toList 0 us (by simp;omega)
  simp only [Nat.add_zero,Array.length_toList] at hfold
  have hz:(a.eval x).cells.zipIdx.foldl (fun cs (p:Value × Nat)=>cs.setIfInBounds (off + p.2) p.1) us.toArray = ((a.eval x).cells.toList.zipIdx 0).foldl (fun (cs:Array Value) (p:Value × Nat)=>cs.setIfInBounds (off + p.2) p.1) us.toArray:=by
   rw [← Array.foldl_toList]
   simp
  rw [hz,hfold]
  rw [hsz] at hv
  exact hv
theorem al6 (hE:cq P E) (h:al w0 nt c s a w) {o:Oper} {id:Nat} {nw:New} (hq':ha E (ev s) id o.op = some nw) (hp:nw.pre) (hm:NM s id) (hn:s.o id = none) :
 ∃ v w' c',(execOp a.eval o).run P w = .ok (.value v) w' ∧ c'.old = c.old ∧ al w0 nt c' (s.setO id (some nw.ob)) a w' ∧ b7 c' (s.setO id (some nw.ob)).o nw.val v:=by
 cases ho:o.op <;> rw [ho] at hq' <;> simp only [ha] at hq' <;> try (cases hq';done)
 case alloc t =>
  split at hq' <;> try (cases hq';done)
  rename_i i hi
  split at hq' <;> try (cases hq';done)
  rename_i z hz
  split at hq'
  · rename_i e8 hb8
    simp only [Option.some.injEq] at hq'
    subst hq'
    have hz2:=afy hb8
    subst hz2
    obtain ⟨ii,d,h1,h2,h3,h4,h5,h6,_⟩:=bc (hE t i hi)
    rw [hz] at h6
    cases hiz:ii.zero with
    | none=>rw [hiz] at h6;cases h6
    | some zv =>
     rw [hiz] at h6
     simp only [Option.map_some,Option.some.injEq] at h6
     have hzc:zv.cells = #[.pointer none, .slice none 0 0]:=Array.ext' h6.symm
     have hr:=h.fresh id hm hn (.bld true t e8 []) (w.alloc (.cells zv.cells t)) (.pointer (some ⟨w.heap.size,0,none⟩)) (tl w.heap.size) (Grw.alloc w _ none) (fun b hb=>Nat.le_of_eq (Eq.symm hb))
      ⟨w.heap.size, .pointer none, .slice none 0 0,by simp,Nat.zero_le _,by rw [hzc];exact heap_alloc_new w _, .inl rfl,World.ownsRow_nil _ _ _ _,by simp [br],(fun k=>by simp [br,tl]),fun _=>⟨rfl,rfl⟩⟩
     refine ⟨.pointer (some ⟨w.heap.size,0,none⟩),_,_, ?_,(by rfl),hr,rfl,fun l=>by simp [S.setO],fun ob2 s2 e2 n2 ho2 hd2=>?_⟩
     · simp [execOp,ho,Instr.alloc,zeroValue,typeInfo,h1,hiz,newVar,newRow]
     · simp only [S.setO,if_true,Option.some.injEq] at ho2
       subst ho2
       simp only [ag.dim,Option.some.injEq,Prod.mk.injEq] at hd2
       obtain ⟨rfl,rfl,rfl⟩:=hd2
       exact ⟨Nat.le_refl _,fun _=>by simp⟩
  split at hq' <;> try (cases hq';done)
  rename_i hone
  simp only [Option.some.injEq] at hq'
  subst hq'
  obtain ⟨ii,d,h1,h2,h3,h4,h5,h6,_⟩:=bc (hE t i hi)
  rw [hz] at h6
  cases hiz:ii.zero with
  | none=>rw [hiz] at h6;cases h6
  | some zv =>
   rw [hiz] at h6
   simp only [Option.map_some,Option.some.injEq] at h6
   obtain ⟨c',hold,hr,hv⟩:=ah9 h id hm hn (z.map fun c=>.p (jx c)) zv.cells t (fun k ⟨x,hx,hmn⟩=>by
    obtain ⟨u,_,rfl⟩:=List.mem_map.1 hx
    exact hmn.elim) (by rw [← h6];exact sg c s.o z (ig hone))
   refine ⟨_,_,c', ?_,hold,hr,hv⟩
   simp [execOp,ho,Instr.alloc,zeroValue,typeInfo,h1,hiz,newVar,newRow]
 case box t x =>
  split at hq' <;> try (cases hq';done)
  rename_i cc hx
  simp only [Option.some.injEq] at hq'
  subst hq'
  have hu:=ai h hx
  obtain ⟨hcl,_⟩:=jg (x:=cc) hu
  have hnm:=a2t hm hx
  obtain ⟨c',hold,hr,hv⟩:=ah9 h id hm hn cc.cells (a.eval x).cells t (fun k ⟨y,hy,hmn⟩ e=>by
   subst e
   apply hnm
   cases cc with
   | one hh=>simp only [HC.cells,List.mem_singleton] at hy;subst hy;exact hmn
   | agg l=>exact ⟨y,hy,hmn⟩) hcl
  refine ⟨_,_,c', ?_,hold,hr,hv⟩
  simp [execOp,ho,Instr.box,newVar,newRow]
 case buildSlice t n parts =>
  split at hq' <;> try (cases hq';done)
  rename_i i hi
  split at hq' <;> try (cases hq';done)
  rename_i el hel
  split at hq' <;> try (cases hq';done)
  rename_i ei hei
  split at hq' <;> try (cases hq';done)
  rename_i z hz
  split at hq' <;> try (cases hq';done)
  rename_i l hone hdec hfl
  obtain ⟨hzl,hsz,hbig⟩:=of_decide_eq_true hdec
  obtain ⟨ii,d,h1,h2,h3,_⟩:=bc (hE t i hi)
  obtain rfl:=dz (h3.symm.trans hel)
  obtain ⟨ie,de,e1,e2,e3,e4,e5,e6,_⟩:=bc (hE el ei hei)
  rw [hz] at e6
  cases hiz:ie.zero with
  | none=>rw [hiz] at e6;cases e6
  | some zv =>
   rw [hiz] at e6
   simp only [Option.map_some,Option.some.injEq] at e6
   have hzz:zv.cells = z.toArray:=by rw [e6]
   have hinit:bq c s.o ((List.range (n * ei.size)).map fun k=>HV.p (jx (z.getD (k % ei.size) (.bool false)))) ((List.range (n * ei.size)).map fun k=>z.getD (k % ei.size) (.bool false)):=by
    refine bq.of_get (by simp) fun k x u hx hu=>?_
    simp only [List.getElem?_map] at hx hu
    cases hk:(List.range (n * ei.size))[k]? with
    | none=>rw [hk] at hx;cases hx
    | some kk =>
     rw [hk] at hx hu
     simp only [Option.map_some,Option.some.injEq] at hx hu
     subst hx hu
     refine ko _ _ (ig hone _ ?_)
     have:kk % ei.size < z.length:=by rw [hzl];exact Nat.mod_lt _ hsz
     rw [List.getD_eq_getElem?_getD,List.getElem?_eq_getElem this]
     exact List.getElem_mem this
   obtain ⟨vs,hv,hr⟩:=fillH_sound' h _ (fun i=>some (i * ei.size,ei.size)) (fun i p hp=>by
    simp only [List.getElem?_map] at hp
    cases hk:(List.range n)[i]? with
    | none=>rw [hk] at hp;cases hp
    | some k =>
     rw [hk] at hp
     have:=List.getElem?_eq_some_iff.1 hk
     obtain ⟨hlt,hke⟩:=this
     simp at hke
     subst hke
     simpa using hp) parts.toList _ _ l hinit hfl
   have hlen:vs.length = n * ei.size:=by
    have h1:=hr.length
    have h2:l.length = n * ei.size:=by
     have key:∀ (parts:List (Nat × Operand)) (cells l:List HV),fy (ev s) ((List.range n).map fun i=>(i * ei.size,ei.size)) cells parts = some l → l.length = cells.length:=by
      intro parts
      induction parts with
      | nil=>intro cells l h;simp [fy] at h;rw [h]
      | cons p r ih =>
       intro cells l h
       obtain ⟨i,x⟩:=p
       simp only [fy] at h
       split at h <;> try (cases h;done)
       split at h <;> try (cases h;done)
       rename_i g1 g2
       have g1:=of_decide_eq_true g1
       have g2:=of_decide_eq_true g2
       rw [ih _ _ h]
       simp only [bu,List.length_append,List.length_take,List.length_drop]
       omega
     rw [key _ _ _ hfl]
     simp
    omega
   have hmaxn:n ≤ maxLen:=by
    have:n * 1 ≤ n * ei.size:=Nat.mul_le_mul_left _ hsz
    simp only [maxLen];omega
   have hll:l.length = n * ei.size:=by rw [← hr.length,hlen]
   have hs':(sizeOf el).run P w = .ok ei.size w:=eb (hE el ei hei) w
   have hzv:(zeroValue el).run P w = .ok zv w:=by simp [zeroValue,typeInfo,e1,hiz]
   have hparts:(Array.map (fun (x:Nat × Operand)=>match x with | (i,x)=>(i,a.eval x)) parts).toList = parts.toList.map fun p=>(p.1,a.eval p.2):=by simp
   have hfin:∀ A:Array Value,A = ((List.range (n * ei.size)).map fun k=>z.getD (k % ei.size) (.bool false)).toArray →
    Instr.fill (fun i=>some (i * ei.size,ei.size)) A (Array.map (fun (x:Nat × Operand)=>match x with | (i,x)=>(i,a.eval x)) parts).toList = some vs.toArray:=by
    intro A hA
    rw [hA,hparts]
    exact hv
   have hexec:(execOp a.eval o).run P w = .ok (.value (.slice (some ⟨w.heap.size,0,none⟩) n n)) (w.alloc (.cells vs.toArray el)):=by
    unfold execOp
    simp only [ho,Instr.buildSlice,Sem.run_bind,run_underlying h2 w,Result.andThen_ok,hs',Sem.run_ite]
    rw [if_neg (by omega)]
    by_cases hne:n * ei.size = 0
    · simp only [if_pos hne,Sem.run_pure,Result.andThen_ok]
      rw [hfin _ (by rw [hne];simp)]
      simp [newRow]
    · simp only [if_neg hne,hzv,Result.andThen_ok,Sem.run_pure]
      rw [hfin _ (by
       apply Array.ext'
       simp only [Array.toList_map,Array.toList_range]
       apply List.map_congr_left
       intro k hk
       have:k % ei.size < z.length:=by rw [hzl];exact Nat.mod_lt _ hsz
       simp only [hzz,List.size_toArray,hzl]
       simp [this])]
      simp [newRow]
   split at hq'
   · rename_i ps hps
     simp only [Option.some.injEq] at hq'
     subst hq'
     have hP:=mt hr hps
     obtain ⟨c',hold,hr',hv'⟩:=ajc h id hm hn ei.size el n n (fun i j=>ps.getD (i * ei.size + j) .any) vs.toArray hsz (Nat.le_refl _) hmaxn (by simp [hlen]) (fun i j hi hj=>by
      have hlt:i * ei.size + j < n * ei.size:=by
       have:(i + 1) * ei.size ≤ n * ei.size:=Nat.mul_le_mul_right _ (by omega)
       rw [Nat.add_mul] at this;omega
      have hplen:ps.length = n * ei.size:=by rw [← hP.length,hlen]
      obtain ⟨u,hu,hru⟩:=hP.get (i * ei.size + j) ps[i * ei.size + j] (List.getElem?_eq_getElem (by omega))
      exact ⟨u,by simpa using hu,by simpa [List.getD,List.getElem?_eq_getElem (show i * ei.size + j < ps.length by omega)] using hru⟩)
     exact ⟨_,_,c',hexec,hold,hr',hv'⟩
   · simp only [Option.some.injEq] at hq'
     subst hq'
     have hmem:∀ i j,i < n → j < ei.size → ∃ hlt:i * ei.size + j < l.length,l.getD (i * ei.size + j) (.p .any) = l[i * ei.size + j]:=fun i j hi hj=>by
      have hlt:i * ei.size + j < l.length:=by
       have:(i + 1) * ei.size ≤ n * ei.size:=Nat.mul_le_mul_right _ (by omega)
       rw [Nat.add_mul] at this;omega
      exact ⟨hlt,by simp [List.getD,List.getElem?_eq_getElem hlt]⟩
     obtain ⟨c',hold,hr',hv'⟩:=aoi h id hm hn ei.size el n n (gi l) (fun i j=>l.getD (i * ei.size + j) (.p .any)) vs.toArray hsz (Nat.le_refl _) hmaxn (by simp [hlen]) (fun i j k hi hj hk=>by
      obtain ⟨hlt,he⟩:=hmem i j hi hj
      rw [he] at hk
      exact kg ⟨_,List.getElem_mem hlt,hk⟩) (fun hk=>by
      obtain ⟨x,hx,hmx⟩:=idsL_mem' hk
      refine aip (e:=ev s) (id:=id) (fun x r hx=>a2t hm hx) _ _ _ _ hfl (fun y hy=>?_) x hx hmx
      obtain ⟨u,_,rfl⟩:=List.mem_map.1 hy
      exact fun hf=>hf) (fun i j hi hj=>by
      obtain ⟨hlt,he⟩:=hmem i j hi hj
      rw [he]
      obtain ⟨u,hu,hru⟩:=hr.get (i * ei.size + j) l[i * ei.size + j] (List.getElem?_eq_getElem hlt)
      exact ⟨u,by simpa using hu,hru⟩)
     exact ⟨_,_,c',hexec,hold,hr',hv'⟩
 case makeMap t r =>
  split at hq' <;> try (cases hq';done)
  rename_i i hi
  split at hq' <;> try (cases hq';done)
  split at hq' <;> try (cases hq';done)
  split at hq' <;> try (cases hq';done)
  rename_i kk hkk
  simp only [Option.some.injEq] at hq'
  subst hq'
  have hr:=h.fresh id hm hn (.mp kk 0 fun _=>none) (w.alloc (.map #[] 0)) (.map (some w.heap.size)) (tl w.heap.size) (Grw.alloc w _ none) (fun b hb=>Nat.le_of_eq (Eq.symm hb))
   ⟨w.heap.size,#[],0,by simp,by simp,⟨Nat.zero_le _,akv hkk _⟩,heap_alloc_new w _,Go.MapKept.stamped_empty 0,by simp,by simp,(fun x hx=>by simp at hx),(fun key y hy=>by cases hy)⟩
  refine ⟨.map (some w.heap.size),_,_, ?_,(by rfl),hr,rfl,fun l=>by simp [S.setO],fun ob2 s2 e2 n2 ho2 hd2=>?_⟩
  · simp [execOp,ho,Go.run_makeMap_plain]
  · simp only [S.setO,if_true,Option.some.injEq] at ho2
    subst ho2
    simp only [ag.dim,Option.some.injEq,Prod.mk.injEq] at hd2
    obtain ⟨rfl,rfl,rfl⟩:=hd2
    exact ⟨Nat.le_refl _,fun _=>by simp⟩
 case makeSlice t l cp =>
  split at hq' <;> try (cases hq';done)
  rename_i i k n k2 m hi hl hc
  split at hq' <;> try (cases hq';done)
  rename_i el hel
  split at hq' <;> try (cases hq';done)
  rename_i ei hei
  split at hq' <;> try (cases hq';done)
  rename_i z hz
  split at hq' <;> try (cases hq';done)
  rename_i hone hdec
  obtain ⟨hzl,hsz⟩:=of_decide_eq_true hdec
  simp only [Option.some.injEq] at hq'
  subst hq'
  obtain ⟨p1,p2,p3,p4⟩:=hp
  obtain ⟨u1,_⟩:=ai h hl
  obtain ⟨u2,_⟩:=ai h hc
  obtain ⟨ii,d,h1,h2,h3,_⟩:=bc (hE t i hi)
  obtain rfl:=dz (h3.symm.trans hel)
  obtain ⟨ie,de,e1,e2,e3,e4,e5,e6,_⟩:=bc (hE el ei hei)
  rw [hz] at e6
  cases hiz:ie.zero with
  | none=>rw [hiz] at e6;cases e6
  | some zv =>
   rw [hiz] at e6
   simp only [Option.map_some,Option.some.injEq] at e6
   have hzz:zv.cells = z.toArray:=by rw [e6]
   have hrun:=run_make (P:=P) w t el ie zv h2 e1 hiz k k2 n m p1 p2 (by rw [← e5];exact p4) p3
   obtain ⟨c',hold,hr',hv'⟩:=ajc h id hm hn ei.size el n.toNat m.toNat (fun _ j=>jx (z.getD j (.bool false))) (madeCells zv.cells (m.toNat * ie.size)) hsz (by omega) (by simp only [maxLen];omega) (by rw [size_madeCells,e4]) (fun i j hi hj=>by
    have hlt:i * ei.size + j < m.toNat * ei.size:=by
     have:(i + 1) * ei.size ≤ m.toNat * ei.size:=Nat.mul_le_mul_right _ (by omega)
     rw [Nat.add_mul] at this;omega
    have hjz:j < z.length:=by omega
    refine ⟨z[j], ?_, ?_⟩
    · simp only [madeCells,hzz,← e4,Array.toList_map,Array.toList_range,List.getElem?_map,List.getElem?_range hlt,Option.map_some,List.size_toArray,hzl,(ae6 hj).2]
      simp [hjz]
    · rw [List.getD_eq_getElem?_getD,List.getElem?_eq_getElem hjz]
      exact ko _ _ (ig hone _ (List.getElem_mem hjz)))
   refine ⟨_,_,c', ?_,hold,hr',hv'⟩
   simp [execOp,ho,u1,u2,hrun]
end
end Go.Hx
end
