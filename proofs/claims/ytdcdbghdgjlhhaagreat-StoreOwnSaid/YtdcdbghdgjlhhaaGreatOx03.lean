/- A part of the proof: Hx3 Hx4. -/
import Derived.IntWalk
import Derived.Laws.Cover1
import Derived.Laws.StructEq
import Derived.Test.YtdcdbghdgjlhhaaGreatOx02
set_option linter.all false
namespace Go.Hx
section
open Go.RowKit
inductive TK where
 | int (k:IntKind)
 | bool
 | string
 | slice (e:TypeId)
 | struct (fs:List (Nat × TypeId × Bool))
 | pointer (e:TypeId)
 | map (k e:TypeId)
 | array (n:Nat) (e:TypeId)
 | func
 | other
structure TI where
 k:TK
 size:Nat
 bytes:Nat
 zero:Option (List Value)
 stood:Bool
 eqg:Bool
 zone:Bool
def fy:TypeDesc → TK
 | .int k=>.int k
 | .bool=>.bool
 | .string=>.string
 | .slice e=>.slice e
 | .struct fs => .struct (fs.toList.map fun f => (f.offset, f.type, f.name == "_"))
 | .pointer e=>.pointer e
 | .map k e=>.map k e
 | .array n e=>.array n e
 | .func ..=>.func
 | _=>.other
def sg (P:Program) (t:TypeId):Option TI :=
 match P.info? t,P.underlying t with
 | some i,some d=>some ⟨fy d,i.size,i.bytes,i.zero.map (·.cells.toList),P.stoodInHeld t,P.eqGuardType P.depth t,match i.zero with | some z=>z.oneCell' | none=>false⟩
 | _,_=>none
abbrev Env:=Nat → Option TI
def cr (P:Program) (E:Env):Prop:=∀ t i,E t = some i → sg P t = some i
def TK.isAgg:TK → Bool
 | .struct _ | .array _ _=>true
 | _=>false
section
variable {P:Program} {E:Env} {t:TypeId} {i:TI}
theorem bd (h:sg P t = some i):∃ ii d,P.info? t = some ii ∧ P.underlying t = some d ∧ i.k = fy d ∧ i.size = ii.size ∧ i.bytes = ii.bytes ∧ i.zero = ii.zero.map (·.cells.toList) ∧
 i.stood = P.stoodInHeld t ∧ i.eqg = P.eqGuardType P.depth t:=by
 unfold sg at h
 grind
theorem aaj (h:sg P t = some i) (hz:i.zone = true) {z:Value} (hl:i.zero = some [z]) (w:World):(zeroValue t).run P w = .ok z w ∧ z.oneCell' = true:=by
 unfold sg at h
 split at h
 · rename_i ii d h1 h2
   simp only [Option.some.injEq] at h
   subst h
   dsimp only at hz hl
   cases hiz:ii.zero with
   | none=>rw [hiz] at hl;cases hl
   | some zv =>
    rw [hiz] at hz hl
    dsimp only at hz
    simp only [Option.map_some,Option.some.injEq] at hl
    have e:zv.cells = #[zv]:=by cases zv <;> simp_all [Value.cells,Value.oneCell']
    rw [e] at hl
    simp only [List.cons.injEq,and_true] at hl
    subst hl
    exact ⟨by simp [zeroValue,typeInfo,h1,hiz],hz⟩
 cases h
theorem dw (h:sg P t = some i) (w:World):(sizeOf t).run P w = .ok i.size w:=by
 obtain ⟨ii,d,h1,h2,h3,h4,_⟩:=bd h
 simp [sizeOf,typeInfo,h1,h4]
theorem sw (h:sg P t = some i) (w:World):(isAgg t).run P w = .ok i.k.isAgg w:=by
 obtain ⟨ii,d,h1,h2,h3,h4,_⟩:=bd h
 unfold isAgg
 rw [Sem.run_bind,run_underlying h2 w,h3]
 cases d <;> simp [fy,TK.isAgg]
theorem uh (h:sg P t = some i) (w:World) (a:Addr) (us:List Value) (hl:us.length = i.size) (hc:∀ (j:Nat) v,us[j]? = some v → w.cell? (a.add j) = some v)
 (h1:i.k.isAgg = false → i.size = 1) :
 (loadVar t a).run P w = .ok (if i.k.isAgg then .agg us.toArray else us.getD 0 undef) w:=by
 unfold loadVar
 simp only [Sem.run_bind,sw h w,Result.andThen_ok]
 cases hb:i.k.isAgg with
 | true =>
  have:=run_loadCells_list (P:=P) w a us hc
  rw [hl] at this
  simp [dw h w,this]
 | false =>
  have hs:=h1 hb
  match us,hl.trans hs with
  | [u],_ =>
   have:=hc 0 u rfl
   simp only [Addr.add,if_true] at this
   simp_all
end
def js:Value → PV
 | .slice none 0 0=>.sl 0 0 true fun _ _=>.any
 | v=>.raw v
theorem jz (m:Imm) (v:Value) (h:v.oneCell' = true):bc m (js v) v:=by
 unfold js
 split
 · exact ⟨none,0,rfl,Nat.le_refl _,by simp [maxLen],fun _=>rfl,fun h=>by omega⟩
 exact ⟨rfl,h⟩
def kz:List Value → Bool
 | []=>true
 | .agg _ :: _=>false
 | .tuple _ :: _=>false
 | _ :: r=>kz r
theorem gn:∀ {l:List Value},kz l = true → ∀ v ∈ l,v.oneCell' = true
 | [],_,v,hv=>by cases hv
 | u :: r,h,v,hv=>by
  have h2:u.oneCell' = true ∧ kz r = true:=by cases u <;> simp_all [kz,Value.oneCell']
  rcases List.mem_cons.1 hv with rfl | hv
  · exact h2.1
  exact gn h2.2 v hv
def a29:Value → Option HR
 | .agg cs=>if kz cs.toList then some (.v (.agg (cs.toList.map fun c=>.p (js c)))) else none
 | .tuple _=>none
 | v=>some (.v (.one (.p (js v))))
theorem nx (c:Ctx) (o:aw):∀ (l:List Value),(∀ v ∈ l,v.oneCell' = true) → bh c o (l.map fun c=>.p (js c)) l
 | [],_=>trivial
 | v :: l,h=>⟨jz _ v (h v (by simp)),nx c o l fun u hu=>h u (by simp [hu])⟩
theorem a5v (c:Ctx) (o:aw) {v:Value} {r:HR} (h:a29 v = some r):ax c o r v:=by
 unfold a29 at h
 split at h
 · rename_i cs
   split at h
   · rename_i ha
     simp only [Option.some.injEq] at h
     subst h
     exact ⟨cs.toList,rfl,nx c o _ (gn ha)⟩
   cases h
 · cases h
 rename_i h1 h2
 simp only [Option.some.injEq] at h
 subst h
 refine jz _ v ?_
 cases v <;> simp_all [Value.oneCell']
def ev (s:S):Operand → Option HR
 | .tmp d=>s.t d
 | .const v=>a29 v
 | .func f=>some (.v (.one (.p (.fn f 0 fun _=>.any))))
 | .global g=>if (uq g).all Value.oneCell' = true then some (.v (.one (.p (.vp (uq g).length fun j=>.raw ((uq g).getD j undef))))) else none
section
variable {w0:World} {nt:Nat} {c:Ctx} {s:S} {a:Act} {w:World}
theorem ai (h:ak w0 nt c s a w) {x:Operand} {r:HR} (hx:ev s x = some r):ax c s.o r (a.eval x):=by
 cases x with
 | tmp d=>exact h.tmps d r hx
 | const v=>exact a5v c s.o hx
 | global g =>
  simp only [ev] at hx
  split at hx
  · rename_i hall
    simp only [Option.some.injEq] at hx
    subst hx
    refine ⟨g,0,rfl,fun j hj=>?_⟩
    have e:a2z g j = some ((uq g).getD j undef):=by
     unfold a2z
     grind
    refine ⟨_,by rw [Nat.zero_add];exact c.tab g j _ e,rfl, ?_⟩
    grind
  cases hx
 | func f =>
  simp only [ev,Option.some.injEq] at hx
  subst hx
  exact ⟨[],rfl,rfl,fun i hi=>by omega⟩
end
structure Out where
 pre:Prop
 val:HR
abbrev Ev:=Operand → Option HR
def one (h:HV):HR:=.v (.one h)
def cf (x:PV):HR:=.v (.one (.p x))
def jm (f:Nat → HV):Nat → Nat → List HV
 | 0,_=>[]
 | n + 1,i=>f i :: jm f n (i + 1)
theorem uv (f:Nat → HV):∀ n i,(jm f n i).length = n
 | 0,_=>rfl
 | n + 1,i=>by simp [jm,uv f n]
theorem zi (f:Nat → HV):∀ n i j,j < n → (jm f n i)[j]? = some (f (i + j))
 | n + 1,i,0,_=>by simp [jm]
 | n + 1,i,j + 1,h=>by
  have:=zi f n (i + 1) j (by omega)
  simp [jm,this,Nat.add_assoc,Nat.add_comm 1 j]
def tgt (o:aw):HV → Option (Prop × Nat × (Nat → HV))
 | .p (.vp m f)=>some (True,m,fun j=>.p (f j))
 | .ptr id off =>
  match o id with
  | some (.box l)=>some (True,l.length - off,fun j=>l.getD (off + j) (.p .any))
  | _=>none
 | .eptr id n i j =>
  match o id with
  | some (.arr _ s _ n' f)=>some (n' = n ∧ i < n,s - j,fun k=>.p (f i (j + k)))
  | some (.arrh s _ n' _ f)=>some (n' = n ∧ i < n,s - j,fun k=>f i (j + k))
  | some (.nest _ _ _ n' m _ none)=>some (n' = n ∧ i < n,1 - j,fun _=>.row id i (m i))
  | _=>none
 | .rptr id i k r j =>
  match o id with
  | some (.nest _ _ es n m g _)=>some (i < n ∧ m i = k ∧ r < k,es - j,fun q=>.p (g i r (j + q)))
  | _=>none
 | _=>none
section
variable {P:Program} {E:Env} {w0:World} {nt:Nat} {c:Ctx} {s:S} {a:Act} {w:World}
theorem add_lit (b off n:Nat):(⟨b,off,none⟩:Addr).add n = ⟨b,off + n,none⟩:=by unfold Addr.add;split <;> simp_all
theorem om (h:ak w0 nt c s a w) {b off:Nat} {x:Value} (hc:i4 c.imm b off = some x):w.cell? ⟨b,off,none⟩ = some x:=by
 unfold i4 at hc
 cases hb:c.imm b with
 | none=>rw [hb] at hc;cases hc
 | some ob =>
  rw [hb] at hc
  have:=h.imm b ob hb
  cases ob <;> simp at hc
  simp [World.cell?,this,hc]
theorem a68 {base:Nat} {c:Ctx} {o:aw} {w:World} {id:Nat} {e et:TypeId} {es n:Nat} {m:Nat → Nat} {g:Nat → Nat → Nat → PV} {pd:Option (Nat × Nat)} (h:d9 base c o w id (.nest e et es n m g pd)) {i:Nat} (hi:i < n) (hm:0 < m i) :
 ∃ b cap ys,c.rows id i = .slice (some ⟨b,0,none⟩) (m i) cap ∧ ci (c.rows id i) = some b ∧ w.ownsRow base et es (c.rows id i) (m i) ys ∧ ∀ r j,r < m i → j < es → ∃ x,ys[r * es + j]? = some x ∧ w.cell? ⟨b,r * es + j,none⟩ = some x ∧ bc c.imm (g i r j) x:=by
 rcases jl.row h i hi with ⟨h0,_⟩ | ⟨ys,h1,h2⟩
 · omega
 rcases fb h1 with ⟨h0,_⟩ | ⟨b,cap,rv,rb⟩
 · omega
 refine ⟨b,cap,ys,rv,rb,h1,fun r j hr hj=>?_⟩
 obtain ⟨x,hx,hxr⟩:=h2 r j hr hj
 refine ⟨x,hx, ?_,hxr⟩
 have:=h1.cells (g:=b) (by rw [rv];rfl) _ _ hx
 rwa [add_lit,Nat.zero_add] at this
theorem a0r {base:Nat} {c:Ctx} {o:aw} {w:World} {id:Nat} {e et:TypeId} {es n:Nat} {m:Nat → Nat} {g:Nat → Nat → Nat → PV} {pd:Option (Nat × Nat)} (h:d9 base c o w id (.nest e et es n m g pd)) :
 ∃ ad cap,c.own id = .slice ad (n + li pd) cap ∧ n + li pd ≤ cap ∧ cap ≤ maxLen ∧ (0 < n + li pd → ∃ b,ad = some ⟨b,0,none⟩ ∧ ∀ i,i < n → w.cell? ⟨b,i,none⟩ = some (c.rows id i)):=by
 rcases jl.top h with ⟨h0,a,hv⟩ | ⟨xs,h1,h2,_⟩
 · grind
 rcases h1.2 with ⟨hv,hz⟩ | ⟨b,cap,cur,hv,_,_,hcap,hmax,_⟩
 · grind
 refine ⟨_,cap,hv,hcap,hmax,fun hp=>⟨b,rfl,fun i hi=>?_⟩⟩
 have:=h1.cells (g:=b) (by rw [hv];rfl) _ _ (h2 i hi)
 rwa [add_lit,Nat.zero_add] at this
theorem a9m {base:Nat} {c:Ctx} {o:aw} {w:World} {id:Nat} {e et:TypeId} {es n:Nat} {m:Nat → Nat} {g:Nat → Nat → Nat → PV} {pd:Option (Nat × Nat)} (h:d9 base c o w id (.nest e et es n m g pd)) {i:Nat} (hi:i < n):∃ ad cap,c.rows id i = .slice ad (m i) cap ∧ m i ≤ cap ∧ cap ≤ maxLen:=by
 rcases jl.row h i hi with ⟨h0,a,h2⟩ | ⟨ys,h1,_⟩
 · grind
 rcases h1.2 with ⟨hv,h0⟩ | ⟨b,cap,cur,hv,_,_,hc,hm,_⟩
 · grind
 grind
theorem aav {base:Nat} {c:Ctx} {o:aw} {w:World} {id:Nat} {e et:TypeId} {es n:Nat} {m:Nat → Nat} {g:Nat → Nat → Nat → PV} {pd:Option (Nat × Nat)} (ho:o id = some (.nest e et es n m g pd)) (h:d9 base c o w id (.nest e et es n m g pd)) {i:Nat} (hi:i < n):bq c o (.row id i (m i)) (c.rows id i):=by
 refine ⟨?_,fun e2 et2 es2 n2 m2 g2 pd2 ho2=>?_⟩
 · rcases jl.row h i hi with ⟨_,a,h2⟩ | ⟨ys,h1,_⟩
   · rw [h2];rfl
   rcases h1.2 with ⟨hv,_⟩ | ⟨b,cap,cur,hv,_⟩ <;> (rw [hv];rfl)
 grind
theorem pk (h:ak w0 nt c s a w) {x:HV} {u:Value} (hu:bq c s.o x u) {pre:Prop} {m:Nat} {g:Nat → HV} (ht:tgt s.o x = some (pre,m,g)) (hp:pre) :
 ∃ ad:Addr,u = .pointer (some ad) ∧ ∀ j,j < m → ∃ v,w.cell? (ad.add j) = some v ∧ bq c s.o (g j) v:=by
 unfold tgt at ht
 split at ht
 · rename_i m' f
   simp only [Option.some.injEq,Prod.mk.injEq] at ht
   obtain ⟨rfl,rfl,rfl⟩:=ht
   obtain ⟨b,off,rfl,hc⟩:=hu
   exact ⟨⟨b,off,none⟩,rfl,fun j hj=>by
    obtain ⟨v,hv,hr⟩:=hc j hj
    exact ⟨v,by rw [add_lit];exact om h hv,hr⟩⟩
 · rename_i id off
   split at ht
   · rename_i l hl
     simp only [Option.some.injEq,Prod.mk.injEq] at ht
     obtain ⟨rfl,rfl,rfl⟩:=ht
     obtain ⟨_,_,h3⟩:=hu
     obtain ⟨b,hb,rfl⟩:=h3 l hl
     obtain ⟨b',C,e,h1,_,h2,h4,h5⟩:=h.objs id _ hl
     rw [hb] at h1
     simp only [Value.pointer.injEq,Option.some.injEq,Addr.mk.injEq,and_true] at h1
     subst h1
     exact ⟨⟨b,off,none⟩,rfl,fun j hj=>by
      have hlt:off + j < l.length:=by omega
      obtain ⟨v,hv,hr⟩:=h5.get (off + j) l[off + j] (List.getElem?_eq_getElem hlt)
      refine ⟨v, ?_,by simpa [List.getD,List.getElem?_eq_getElem hlt] using hr⟩
      rw [add_lit,cell_of_row w b (off + j) C e (0,0) h4]
      simpa using hv⟩
   cases ht
 · rename_i id n i j
   split at ht
   · rename_i wr s' e n' f ho
     simp only [Option.some.injEq,Prod.mk.injEq] at ht
     obtain ⟨rfl,rfl,rfl⟩:=ht
     obtain ⟨rfl,hi⟩:=hp
     obtain ⟨_,_,h3⟩:=hu
     obtain ⟨b,off,cap,hb,rfl⟩:=(h3 _ _ _ _ ho rfl).2 rfl hi
     obtain ⟨h0,h1,h5⟩:=h.objs id _ ho
     refine ⟨⟨b,off + (i * s' + j),none⟩,rfl,fun k hk=>?_⟩
     rcases h5 with ⟨h6,xs,h2,h4⟩ | ⟨h6,h7,ad,cap',hv,hc1,hc2,hc3,hcell⟩
     · have hcells:=h2.cells (g:=b) (by rw [hb];rfl)
       have hz:off = 0:=by
        rcases h2.2 with ⟨hv,_⟩ | ⟨g,cap,cur,hv,_⟩
        · grind
        grind
       subst hz
       obtain ⟨v,hv,hr⟩:=h4 i (j + k) hi (by omega)
       refine ⟨v, ?_,hr⟩
       have:=hcells _ v hv
       rw [add_lit] at this ⊢
       grind
     rw [hv] at hb
     simp only [Value.slice.injEq,true_and] at hb
     obtain ⟨rfl,rfl⟩:=hb
     obtain ⟨b',off',he,hcc⟩:=hcell (by omega)
     simp only [Option.some.injEq,Addr.mk.injEq,and_true] at he
     obtain ⟨rfl,rfl⟩:=he
     obtain ⟨v,hv',hr⟩:=hcc i (j + k) hi (by omega)
     refine ⟨v, ?_,hr⟩
     rw [add_lit,Nat.add_assoc off,Nat.add_assoc (i * s')]
     exact om h hv'
   · rename_i s' e n' ms f ho
     simp only [Option.some.injEq,Prod.mk.injEq] at ht
     obtain ⟨rfl,rfl,rfl⟩:=ht
     obtain ⟨rfl,hi⟩:=hp
     obtain ⟨_,_,h3⟩:=hu
     obtain ⟨b,off,cap,hb,rfl⟩:=(h3 _ _ _ _ ho rfl).2 rfl hi
     obtain ⟨h0,h1,h7,⟨h6,xs,h2,h4⟩ | ⟨h6,_,_⟩⟩:=h.objs id _ ho
     case inr=>omega
     refine ⟨⟨b,off + (i * s' + j),none⟩,rfl,fun k hk=>?_⟩
     have hcells:=h2.cells (g:=b) (by rw [hb];rfl)
     have hz:off = 0:=by
      rcases h2.2 with ⟨hv,_⟩ | ⟨g,cap,cur,hv,_⟩
      · grind
      grind
     subst hz
     obtain ⟨v,hv,hr⟩:=h4 i (j + k) hi (by omega)
     refine ⟨v, ?_,hr⟩
     have:=hcells _ v hv
     rw [add_lit] at this ⊢
     grind
   · rename_i e et es n' m g0 ho
     simp only [Option.some.injEq,Prod.mk.injEq] at ht
     obtain ⟨rfl,rfl,rfl⟩:=ht
     obtain ⟨rfl,hi⟩:=hp
     obtain ⟨_,_,h3⟩:=hu
     obtain ⟨b,off,cap,hb,rfl⟩:=(h3 _ _ _ _ ho rfl).2 rfl hi
     have hob:=h.objs id _ ho
     obtain ⟨ad,cap',hv,_,_,hc⟩:=a0r hob
     obtain ⟨b',rfl,hc2⟩:=hc (by show 0 < n' + 0;omega)
     rw [hb] at hv
     simp only [Value.slice.injEq,Option.some.injEq,Addr.mk.injEq,and_true] at hv
     obtain ⟨⟨rfl,rfl⟩,_⟩:=hv
     refine ⟨⟨b,0 + (i * 1 + j),none⟩,rfl,fun k hk=>?_⟩
     obtain rfl:j = 0:=by omega
     obtain rfl:k = 0:=by omega
     refine ⟨c.rows id i, ?_,aav ho hob hi⟩
     rw [add_lit]
     grind
   cases ht
 · rename_i id i k r j
   split at ht
   · rename_i e et es n m g0 pd ho
     simp only [Option.some.injEq,Prod.mk.injEq] at ht
     obtain ⟨rfl,rfl,rfl⟩:=ht
     obtain ⟨hi,rfl,hr⟩:=hp
     obtain ⟨_,h3⟩:=hu
     obtain ⟨_,_,h4⟩:=h3 _ _ _ _ _ _ _ ho
     obtain ⟨b,off,cap,hb,rfl⟩:=h4 rfl hr
     obtain ⟨b',cap',ys,q1,_,_,q2⟩:=a68 (h.objs id _ ho) hi (by omega)
     rw [hb] at q1
     simp only [Value.slice.injEq,Option.some.injEq,Addr.mk.injEq,and_true,true_and] at q1
     obtain ⟨⟨rfl,rfl⟩,rfl⟩:=q1
     refine ⟨_,rfl,fun q hq=>?_⟩
     obtain ⟨x,_,hx,hxr⟩:=q2 r (j + q) hr (by omega)
     refine ⟨x, ?_,hxr⟩
     rw [add_lit,Nat.zero_add,Nat.add_assoc]
     exact hx
   cases ht
 cases ht
def jn (E:Env) (o:aw) (e:Ev) (t:TypeId) (x:Operand):Option Out :=
 match E t with
 | none=>none
 | some i =>
  match e x with
  | some (.v (.one h)) =>
   match tgt o h with
   | some (pre,m,g) =>
    match i.k.isAgg with
    | true=>some ⟨pre ∧ i.size ≤ m, .v (.agg (jm g i.size 0))⟩
    | false=>if i.size = 1 then some ⟨pre ∧ 1 ≤ m, .v (.one (g 0))⟩ else none
   | none=>none
  | _=>none
theorem a88 {m:Nat} {g:Nat → HV} {ad:Addr} (hc:∀ j,j < m → ∃ v,w.cell? (ad.add j) = some v ∧ bq c s.o (g j) v) (n:Nat) (hn:n ≤ m) :
 ∃ us:List Value,us.length = n ∧ (∀ (j:Nat) v,us[j]? = some v → w.cell? (ad.add j) = some v) ∧ bh c s.o (jm g n 0) us:=by
 let F:Nat → Value:=fun j=>(w.cell? (ad.add j)).getD undef
 refine ⟨(List.range n).map F,by simp,fun j v hv=>?_, ?_⟩
 · have hj:j < n:=by
    grind
   rw [List.getElem?_map,List.getElem?_range hj] at hv
   simp only [Option.map_some,Option.some.injEq] at hv
   obtain ⟨u,hu,_⟩:=hc j (by omega)
   grind
 refine bh.of_get (by simp [uv]) fun j x u hx hu=>?_
 have hj:j < n:=by
  grind
 rw [zi g n 0 j hj] at hx
 rw [List.getElem?_map,List.getElem?_range hj] at hu
 simp only [Option.map_some,Option.some.injEq,Nat.zero_add] at hu hx
 obtain ⟨v,hv,hr⟩:=hc j (by omega)
 grind
theorem yh (hE:cr P E) (h:ak w0 nt c s a w) {t:TypeId} {x:Operand} {out:Out} (hq:jn E s.o (ev s) t x = some out) (hp:out.pre) :
 ∃ v,(Instr.loadAt t (a.eval x)).run P w = .ok v w ∧ ax c s.o out.val v:=by
 unfold jn at hq
 split at hq
 · cases hq
 rename_i i hi
 have hti:=hE t i hi
 split at hq
 · rename_i hv he
   have hu:=ai h he
   split at hq
   · rename_i pre m g ht
     split at hq
     · rename_i hagg
       simp only [Option.some.injEq] at hq
       subst hq
       obtain ⟨ad,ha,hc⟩:=pk h hu ht hp.1
       obtain ⟨us,hl,hcs,hr⟩:=a88 (c:=c) (s:=s) (w:=w) hc i.size hp.2
       refine ⟨.agg us.toArray, ?_,us,rfl,hr⟩
       have:=uh hti w ad us hl hcs (fun h0=>by rw [hagg] at h0;cases h0)
       rw [hagg] at this
       simp [Instr.loadAt,ha,Instr.sureAddr,this]
     rename_i hagg
     split at hq
     · rename_i hs
       simp only [Option.some.injEq] at hq
       subst hq
       obtain ⟨ad,ha,hc⟩:=pk h hu ht hp.1
       obtain ⟨v,hv,hr⟩:=hc 0 hp.2
       refine ⟨v, ?_,hr⟩
       have:=uh hti w ad [v] (by simp [hs]) (fun j u hju=>by
        cases j with
        | zero=>simp at hju;subst hju;exact hv
        | succ j=>simp at hju) (fun _=>hs)
       rw [hagg] at this
       simp [Instr.loadAt,ha,Instr.sureAddr,this]
     cases hq
   cases hq
 cases hq
def shift (n:Nat):HV → Option (Prop × HV)
 | .p (.vp m f)=>some (n ≤ m, .p (.vp (m - n) fun j=>f (n + j)))
 | .ptr id off=>some (True, .ptr id (off + n))
 | .eptr id k i j=>some (True, .eptr id k i (j + n))
 | _=>none
def f3 (E:Env) (o:aw) (e:Ev) (t:TypeId) (x:Operand) (k:Nat):Option Out :=
 match E t with
 | some i =>
  match i.k with
  | .struct fs =>
   match fs[k]? with
   | some (off,ft,_) =>
    match E ft with
    | some fi =>
     match e x with
     | some (.v (.one h)) =>
      match tgt o h,shift off h with
      | some (p0,_,_),some (p1,y)=>if fi.size = 0 then none else some ⟨p0 ∧ p1, .v (.one y)⟩
      | _,_=>none
     | _=>none
    | none=>none
   | none=>none
  | _=>none
 | none=>none
theorem zn {x:HV} {u:Value} (hu:bq c s.o x u) {n:Nat} {pre:Prop} {y:HV} (hs:shift n x = some (pre,y)) (hp:pre) (hok:∃ ad:Addr,u = .pointer (some ad)) :
 ∃ ad:Addr,u = .pointer (some ad) ∧ bq c s.o y (.pointer (some (ad.add n))):=by
 unfold shift at hs
 split at hs
 · rename_i m f
   simp only [Option.some.injEq,Prod.mk.injEq] at hs
   obtain ⟨rfl,rfl⟩:=hs
   obtain ⟨b,off,rfl,hc⟩:=hu
   refine ⟨_,rfl,b,off + n,by rw [add_lit],fun j hj=>?_⟩
   obtain ⟨v,hv,hr⟩:=hc (n + j) (by omega)
   grind
 · rename_i id off
   simp only [Option.some.injEq,Prod.mk.injEq] at hs
   obtain ⟨rfl,rfl⟩:=hs
   obtain ⟨ad,rfl⟩:=hok
   obtain ⟨h1,h2,h3⟩:=hu
   refine ⟨ad,rfl,rfl,h2,fun l hl=>?_⟩
   obtain ⟨b,hb,he⟩:=h3 l hl
   simp only [Value.pointer.injEq,Option.some.injEq] at he
   subst he
   exact ⟨b,hb,by rw [add_lit]⟩
 · rename_i id k i j
   simp only [Option.some.injEq,Prod.mk.injEq] at hs
   obtain ⟨rfl,rfl⟩:=hs
   obtain ⟨ad,rfl⟩:=hok
   obtain ⟨h1,h2,h3⟩:=hu
   refine ⟨ad,rfl,rfl,h2,fun ob s' e n' ho hdm=>?_⟩
   obtain ⟨hk,hu⟩:=h3 ob s' e n' ho hdm
   refine ⟨hk,fun hkn hi=>?_⟩
   obtain ⟨b,off,cap,hb,he⟩:=hu hkn hi
   simp only [Value.pointer.injEq,Option.some.injEq] at he
   subst he
   exact ⟨b,off,cap,hb,by rw [add_lit,Nat.add_assoc,Nat.add_assoc]⟩
 cases hs
theorem ot {d : TypeDesc} {fs : List (Nat × TypeId × Bool)} (h : fy d = .struct fs) : ∃ fa : Array Field, d = .struct fa ∧ fs = fa.toList.map fun f => (f.offset, f.type, f.name == "_") := by
 cases d <;> simp [fy] at h
 grind
theorem du {d:TypeDesc} {e:TypeId} (h:fy d = .slice e):d = .slice e:=by
 cases d <;> simp [fy] at h
 rw [h]
theorem ze (hE:cr P E) (h:ak w0 nt c s a w) {t:TypeId} {x:Operand} {k:Nat} {out:Out} (hq:f3 E s.o (ev s) t x k = some out) (hp:out.pre) :
 ∃ v,(Instr.fieldAt t (a.eval x) k).run P w = .ok v w ∧ ax c s.o out.val v:=by
 unfold f3 at hq
 split at hq <;> try (cases hq;done)
 rename_i i hi
 split at hq <;> try (cases hq;done)
 rename_i fs hfs
 split at hq <;> try (cases hq;done)
 rename_i off ft bl hf
 split at hq <;> try (cases hq;done)
 rename_i fi hfi
 split at hq <;> try (cases hq;done)
 rename_i hv he
 split at hq <;> try (cases hq;done)
 rename_i p0 m g p1 y htg hsh
 split at hq
 · cases hq
 rename_i hsz
 simp only [Option.some.injEq] at hq
 subst hq
 have hu:=ai h he
 obtain ⟨ad,ha,_⟩:=pk h hu htg hp.1
 obtain ⟨ad',ha',hy⟩:=zn hu hsh hp.2 ⟨ad,ha⟩
 obtain ⟨ii,d,h1,h2,h3,_⟩:=bd (hE t i hi)
 obtain ⟨fa,rfl,hfa⟩:=ot (h3.symm.trans hfs)
 rw [hfa,List.getElem?_map] at hf
 cases hff:fa.toList[k]? with
 | none=>rw [hff] at hf;cases hf
 | some f =>
  rw [hff] at hf
  simp only [Option.map_some,Option.some.injEq,Prod.mk.injEq] at hf
  obtain ⟨hoff,hft,_⟩:=hf
  have hfk:fa[k]? = some f:=by simpa using hff
  refine ⟨_, ?_,hy⟩
  have hsz':(sizeOf f.type).run P w = .ok fi.size w:=by rw [hft];exact dw (hE ft fi hfi) w
  simp [Instr.fieldAt,run_underlying h2 w,hfk,ha',Instr.sureAddr,fieldPlace,hsz',hsz,hoff]
def qx (E:Env) (e:Ev) (t:TypeId) (x:Operand) (k:Nat):Option Out :=
 match E t with
 | some i =>
  match i.k with
  | .struct fs =>
   match fs[k]? with
   | some (off,ft,_) =>
    match E ft with
    | some fi =>
     match e x with
     | some (.v (.agg l)) =>
      match fi.k.isAgg with
      | true=>some ⟨True, .v (.agg ((l.drop off).take fi.size))⟩
      | false =>
       match l[off]? with
       | some h=>some ⟨True, .v (.one h)⟩
       | none=>none
     | _=>none
    | none=>none
   | none=>none
  | _=>none
 | none=>none
theorem u5 {t:TypeId} {i:TI} (h:sg P t = some i) (us:List Value) (off:Nat) (w:World) :
 ∃ r,(part t us.toArray off).run P w = (if i.k.isAgg then .ok (.agg ((us.drop off).take i.size).toArray) w else match us[off]? with | some v=>.ok v w | none=>r):=by
 refine ⟨(part t us.toArray off).run P w, ?_⟩
 cases hk:i.k.isAgg with
 | true =>
  rw [if_pos rfl]
  unfold part
  simp only [Sem.run_bind,sw h w,Result.andThen_ok,hk]
  simp [dw h w]
 | false =>
  rw [if_neg (by decide)]
  cases hu:us[off]? with
  | none=>rfl
  | some v =>
   unfold part
   simp only [Sem.run_bind,sw h w,Result.andThen_ok,hk]
   simp [hu]
theorem a49 (hE:cr P E) (h:ak w0 nt c s a w) {t:TypeId} {x:Operand} {k:Nat} {out:Out} (hq:qx E (ev s) t x k = some out) :
 ∃ v,(Instr.field t (a.eval x) k).run P w = .ok v w ∧ ax c s.o out.val v:=by
 unfold qx at hq
 split at hq <;> try (cases hq;done)
 rename_i i hi
 split at hq <;> try (cases hq;done)
 rename_i fs hfs
 split at hq <;> try (cases hq;done)
 rename_i off ft bl hf
 split at hq <;> try (cases hq;done)
 rename_i fi hfi
 split at hq <;> try (cases hq;done)
 rename_i l he
 obtain ⟨us,hus,hl⟩:=ai h he
 obtain ⟨ii,d,h1,h2,h3,_⟩:=bd (hE t i hi)
 obtain ⟨fa,rfl,hfa⟩:=ot (h3.symm.trans hfs)
 rw [hfa,List.getElem?_map] at hf
 cases hff:fa.toList[k]? with
 | none=>rw [hff] at hf;cases hf
 | some f =>
  rw [hff] at hf
  simp only [Option.map_some,Option.some.injEq,Prod.mk.injEq] at hf
  obtain ⟨hoff,hft,_⟩:=hf
  have hfk:fa[k]? = some f:=by simpa using hff
  obtain ⟨pm,hpart⟩:=u5 (P:=P) (hE ft fi hfi) us off w
  rw [← hoff,← hft] at hpart
  split at hq
  · rename_i hagg
    simp only [Option.some.injEq] at hq
    subst hq
    rw [hagg] at hpart
    refine ⟨_, ?_,_,rfl,(hl.drop off).take fi.size⟩
    subst hoff
    simp only [Instr.field,Sem.run_bind,run_underlying h2 w,Result.andThen_ok,hfk,hus,asAgg,Sem.run_pure,hpart,if_true]
  rename_i hagg
  rw [hagg] at hpart
  split at hq <;> try (cases hq;done)
  rename_i hh hlo
  simp only [Option.some.injEq] at hq
  subst hq
  obtain ⟨v,hv,hr⟩:=hl.get off hh hlo
  rw [← hoff] at hv
  refine ⟨v, ?_,hr⟩
  simp only [Instr.field,Sem.run_bind,run_underlying h2 w,Result.andThen_ok,hfk,hus,asAgg,Sem.run_pure,hpart,hv]
  rfl
theorem a5t {base:Nat} {c:Ctx} {o:aw} {w:World} {id:Nat} {wr:Bool} {sz:Nat} {e:TypeId} {n:Nat} {f:Nat → Nat → PV} (h:d9 base c o w id (.arr wr sz e n f)) (hn:0 < n) :
 ∃ g off cap,c.own id = .slice (some ⟨g,off,none⟩) n cap ∧ n ≤ cap:=by
 obtain ⟨_,_,h5⟩:=h
 rcases h5 with ⟨h6,xs,h2,h4⟩ | ⟨h6,h7,ad,cap',hv,hc1,hc2,hc3,hcell⟩
 · rcases h2.2 with ⟨hv,hz⟩ | ⟨g,cap,cur,hv,_,_,hcap,_⟩
   · omega
   grind
 grind
theorem a2g {base:Nat} {c:Ctx} {o:aw} {w:World} {id:Nat} {wr:Bool} {sz:Nat} {e:TypeId} {n:Nat} {f:Nat → Nat → PV} (h:d9 base c o w id (.arr wr sz e n f)) :
 ∃ ad cap,c.own id = .slice ad n cap ∧ n ≤ cap ∧ cap ≤ maxLen:=by
 obtain ⟨_,_,h5⟩:=h
 rcases h5 with ⟨h6,xs,h2,h4⟩ | ⟨h6,h7,ad,cap',hv,hc1,hc2,hc3,hcell⟩
 · rcases h2.2 with ⟨hv,hz⟩ | ⟨g,cap,cur,hv,_,_,hcap,hm,_⟩
   · grind
   grind
 grind
theorem a3q {base:Nat} {c:Ctx} {o:aw} {w:World} {id:Nat} {ms:List Nat} {sz:Nat} {e:TypeId} {n:Nat} {f:Nat → Nat → HV} (h:d9 base c o w id (.arrh sz e n ms f)) (hn:0 < n) :
 ∃ g off cap,c.own id = .slice (some ⟨g,off,none⟩) n cap ∧ n ≤ cap:=by
 obtain ⟨_,_,h7,⟨h6,xs,h2,h4⟩ | ⟨h6,_,_⟩⟩:=h
 case inr=>omega
 rcases h2.2 with ⟨hv,hz⟩ | ⟨g,cap,cur,hv,_,_,hcap,_⟩
 · omega
 grind
theorem a0m {base:Nat} {c:Ctx} {o:aw} {w:World} {id:Nat} {ms:List Nat} {sz:Nat} {e:TypeId} {n:Nat} {f:Nat → Nat → HV} (h:d9 base c o w id (.arrh sz e n ms f)) :
 ∃ ad cap,c.own id = .slice ad n cap ∧ n ≤ cap ∧ cap ≤ maxLen:=by
 obtain ⟨_,_,h7,⟨h6,xs,h2,h4⟩ | ⟨rfl,_,ad,cap,hv,hc1,hc2,_⟩⟩:=h
 · rcases h2.2 with ⟨hv,hz⟩ | ⟨g,cap,cur,hv,_,_,hcap,hm,_⟩
   · grind
   grind
 grind
def a0l (o:aw) (size:Nat) (iv:Int):HV → Option Out
 | .p (.sl n sz _ f)=>some ⟨size = sz ∧ 0 ≤ iv ∧ iv < n,cf (.vp sz (f iv.toNat))⟩
 | .ref id n =>
  match o id with
  | some (.arr _ sz _ n' _)=>some ⟨n' = n ∧ size = sz ∧ 0 ≤ iv ∧ iv < n, .v (.one (.eptr id n iv.toNat 0))⟩
  | some (.arrh sz _ n' _ _)=>some ⟨n' = n ∧ size = sz ∧ 0 ≤ iv ∧ iv < n, .v (.one (.eptr id n iv.toNat 0))⟩
  | some (.nest _ _ _ n' _ _ none)=>some ⟨n' = n ∧ size = 1 ∧ 0 ≤ iv ∧ iv < n, .v (.one (.eptr id n iv.toNat 0))⟩
  | _=>none
 | .row id i k =>
  match o id with
  | some (.nest _ _ es n m _ _)=>some ⟨(i < n ∧ m i = k) ∧ size = es ∧ 0 ≤ iv ∧ iv < k, .v (.one (.rptr id i k iv.toNat 0))⟩
  | _=>none
 | .win id n i m =>
  match o id with
  | some (.arr _ sz _ n' _)=>some ⟨n' = n ∧ size = sz ∧ 0 ≤ iv ∧ iv < m, .v (.one (.eptr id n (i + iv.toNat) 0))⟩
  | some (.arrh sz _ n' _ _)=>some ⟨n' = n ∧ size = sz ∧ 0 ≤ iv ∧ iv < m, .v (.one (.eptr id n (i + iv.toNat) 0))⟩
  | _=>none
 | _=>none
def jy (E:Env) (o:aw) (e:Ev) (len:Nat) (el:TypeId) (x ix:Operand):Option Out :=
 match E el with
 | some ei =>
  match e x with
  | some (.v (.one h)) =>
   match e ix with
   | some (.v (.one (.p (.raw (.int _ iv))))) =>
    match tgt o h,shift (iv.toNat * ei.size) h with
    | some (p0,_,_),some (p1,y)=>some ⟨p0 ∧ p1 ∧ 0 ≤ iv ∧ iv < len, .v (.one y)⟩
    | _,_=>none
   | _=>none
  | _=>none
 | none=>none
theorem a1b {d:TypeDesc} {n:Nat} {e:TypeId} (h:fy d = .array n e):d = .array n e:=by
 cases d <;> simp [fy] at h
 rw [h.1,h.2]
theorem a0a (hE:cr P E) (h:ak w0 nt c s a w) {t:TypeId} {len:Nat} {el:TypeId} (hd:P.underlying t = some (.array len el)) {x ix:Operand} {out:Out} (hq:jy E s.o (ev s) len el x ix = some out) (hp:out.pre) :
 ∃ v,(Instr.indexAt t (a.eval x) (a.eval ix)).run P w = .ok v w ∧ ax c s.o out.val v:=by
 unfold jy at hq
 split at hq <;> try (cases hq;done)
 rename_i ei hei
 have hsz:=dw (hE el ei hei) w
 split at hq <;> try (cases hq;done)
 rename_i hv0 hx
 split at hq <;> try (cases hq;done)
 rename_i kk iv hix
 split at hq <;> try (cases hq;done)
 rename_i p0 m g p1 y htg hsh
 simp only [Option.some.injEq] at hq
 subst hq
 obtain ⟨hp0,hp1,h0,hn⟩:=hp
 have hu:=ai h hx
 obtain ⟨ad,ha,_⟩:=pk h hu htg hp0
 obtain ⟨ad',ha',hy⟩:=zn hu hsh hp1 ⟨ad,ha⟩
 obtain ⟨hu2,_⟩:=ai h hix
 refine ⟨_, ?_,hy⟩
 simp [Instr.indexAt,Instr.sureAddr,ha',hu2,asIntOf,run_underlying hd w,h0,hn,hsz]
def fh (E:Env) (o:aw) (e:Ev) (t:TypeId) (x ix:Operand):Option Out :=
 match E t with
 | some i =>
  match i.k with
  | .array len el=>jy E o e len el x ix
  | .slice el =>
   match E el with
   | some ei =>
    match e x with
    | some (.v (.one h)) =>
     match e ix with
     | some (.v (.one (.p (.raw (.int _ iv)))))=>a0l o ei.size iv h
     | _=>none
    | _=>none
   | none=>none
  | _=>none
 | none=>none
theorem zc (hE:cr P E) (h:ak w0 nt c s a w) {t:TypeId} {x ix:Operand} {out:Out} (hq:fh E s.o (ev s) t x ix = some out) (hp:out.pre) :
 ∃ v,(Instr.indexAt t (a.eval x) (a.eval ix)).run P w = .ok v w ∧ ax c s.o out.val v:=by
 unfold fh at hq
 split at hq <;> try (cases hq;done)
 rename_i i hi
 split at hq <;> try (cases hq;done)
 · rename_i len el hel
   obtain ⟨ii,d,h1,h2,h3,_⟩:=bd (hE t i hi)
   obtain rfl:=a1b (h3.symm.trans hel)
   exact a0a hE h h2 hq hp
 rename_i el hel
 split at hq <;> try (cases hq;done)
 rename_i ei hei
 obtain ⟨ii,d,h1,h2,h3,_⟩:=bd (hE t i hi)
 obtain rfl:=du (h3.symm.trans hel)
 have hsz:=dw (hE el ei hei) w
 split at hq <;> try (cases hq;done)
 rename_i hv0 hx
 split at hq <;> try (cases hq;done)
 rename_i kk iv hix
 unfold a0l at hq
 split at hq <;> try (cases hq;done)
 · rename_i n sz cl f
   simp only [Option.some.injEq] at hq
   subst hq
   obtain ⟨hs,h0,hn⟩:=hp
   obtain ⟨ad,cap,hu,_,_,_,hc⟩:=ai h hx
   obtain ⟨hu2,_⟩:=ai h hix
   obtain ⟨b,off,rfl,hcell⟩:=hc (by omega)
   refine ⟨.pointer (some ⟨b,off + iv.toNat * sz,none⟩), ?_,b,off + iv.toNat * sz,rfl,fun j hj=>?_⟩
   · simp [Instr.indexAt,hu,hu2,asIntOf,run_underlying h2 w,h0,hn,hsz,hs,add_lit]
   obtain ⟨v,hv,hr⟩:=hcell iv.toNat j (by omega) hj
   exact ⟨v,by rw [Nat.add_assoc];exact hv,hr⟩
 · rename_i id n
   have key:∀ (ob:af) (sz:Nat) (e:TypeId) (n':Nat),s.o id = some ob → ob.dim = some (sz,e,n') → (0 < n' → ∃ g off cap,c.own id = .slice (some ⟨g,off,none⟩) n' cap ∧ n' ≤ cap) →
    n' = n ∧ ei.size = sz ∧ 0 ≤ iv ∧ iv < n → ∃ v,(Instr.indexAt t (a.eval x) (a.eval ix)).run P w = .ok v w ∧ ax c s.o (.v (.one (.eptr id n iv.toNat 0))) v:=by
    rintro ob sz e n' ho hdm hform ⟨rfl,hs,h0,hn⟩
    obtain ⟨h1',h2',h3'⟩:=ai h hx
    obtain ⟨hu2,_⟩:=ai h hix
    obtain ⟨_,hown⟩:=h3' _ _ _ _ ho hdm
    have hu:=hown rfl
    obtain ⟨g,off,cap,hv,_⟩:=hform (by omega)
    rw [hv] at hu
    have hlt:iv.toNat < n':=by omega
    refine ⟨.pointer (some ⟨g,off + iv.toNat * sz,none⟩), ?_,rfl,h2',fun ob2 sz2 e2 n2 ho2 hd2=>?_⟩
    · simp [Instr.indexAt,hu,hu2,asIntOf,run_underlying h2 w,h0,hn,hsz,hs,add_lit]
    rw [ho] at ho2
    simp only [Option.some.injEq] at ho2
    subst ho2
    rw [hdm] at hd2
    simp only [Option.some.injEq,Prod.mk.injEq] at hd2
    obtain ⟨rfl,rfl,rfl⟩:=hd2
    exact ⟨Nat.le_refl _,fun _ _=>⟨g,off,cap,hv,by simp⟩⟩
   split at hq <;> try (cases hq;done)
   · rename_i wr sz e n' f ho
     simp only [Option.some.injEq] at hq
     subst hq
     exact key _ _ _ _ ho rfl (fun hn=>a5t (h.objs id _ ho) hn) hp
   · rename_i sz e n' ms f ho
     simp only [Option.some.injEq] at hq
     subst hq
     exact key _ _ _ _ ho rfl (fun hn=>a3q (h.objs id _ ho) hn) hp
   rename_i e et es n' m g0 ho
   simp only [Option.some.injEq] at hq
   subst hq
   refine key _ _ _ _ ho rfl (fun hn=>?_) hp
   obtain ⟨ad,cap',hv,hcap,_,hc⟩:=a0r (h.objs id _ ho)
   obtain ⟨b',rfl,_⟩:=hc hn
   exact ⟨b',0,cap',hv,hcap⟩
 · rename_i id ri k
   split at hq <;> try (cases hq;done)
   rename_i e et es n m g0 pd ho
   simp only [Option.some.injEq] at hq
   subst hq
   obtain ⟨⟨hri,rfl⟩,hs,h0,hn⟩:=hp
   obtain ⟨_,h3'⟩:=ai h hx
   obtain ⟨hu2,_⟩:=ai h hix
   obtain ⟨_,_,hrow⟩:=h3' _ _ _ _ _ _ _ ho
   have hu:=hrow rfl
   obtain ⟨b,cap,ys,q1,_⟩:=a68 (h.objs id _ ho) hri (by omega)
   rw [q1] at hu
   refine ⟨.pointer (some ⟨b,0 + iv.toNat * es,none⟩), ?_,rfl,fun e2 et2 es2 n2 m2 g2 pd2 ho2=>?_⟩
   · simp [Instr.indexAt,hu,hu2,asIntOf,run_underlying h2 w,h0,hn,hsz,hs,add_lit]
   rw [ho] at ho2
   simp only [Option.some.injEq,af.nest.injEq] at ho2
   obtain ⟨rfl,rfl,rfl,rfl,rfl,rfl,rfl⟩:=ho2
   exact ⟨hri,Nat.le_refl _,fun _ _=>⟨b,0,cap,q1,by simp⟩⟩
 rename_i id n wi wm
 have key:∀ (ob:af) (sz:Nat) (e:TypeId) (n':Nat),s.o id = some ob → ob.dim = some (sz,e,n') → (0 < n' → ∃ g off cap,c.own id = .slice (some ⟨g,off,none⟩) n' cap ∧ n' ≤ cap) →
  n' = n ∧ ei.size = sz ∧ 0 ≤ iv ∧ iv < wm → ∃ v,(Instr.indexAt t (a.eval x) (a.eval ix)).run P w = .ok v w ∧ ax c s.o (.v (.one (.eptr id n (wi + iv.toNat) 0))) v:=by
  rintro ob sz e n' ho hdm hform ⟨rfl,hs,h0,hn⟩
  obtain ⟨h1',h2',h3'⟩:=ai h hx
  obtain ⟨hu2,_⟩:=ai h hix
  obtain ⟨_,hown⟩:=h3' _ _ _ _ ho hdm
  obtain ⟨ad,ad',cap0,hv0,hu,h5,h6,_,h7⟩:=hown rfl
  obtain ⟨g,off,cap,hv,_⟩:=hform (by omega)
  rw [hv] at hv0
  simp only [Value.slice.injEq] at hv0
  obtain ⟨rfl,_,rfl⟩:=hv0
  obtain rfl:=h7 (by omega)
  simp only [Option.map_some,add_lit] at hu
  refine ⟨.pointer (some ⟨g,off + (wi + iv.toNat) * sz,none⟩), ?_,rfl,h2',fun ob2 sz2 e2 n2 ho2 hd2=>?_⟩
  · simp [Instr.indexAt,hu,hu2,asIntOf,run_underlying h2 w,h0,hn,hsz,hs,add_lit,Nat.add_mul,Nat.add_assoc]
  rw [ho] at ho2
  simp only [Option.some.injEq] at ho2
  subst ho2
  rw [hdm] at hd2
  simp only [Option.some.injEq,Prod.mk.injEq] at hd2
  obtain ⟨rfl,rfl,rfl⟩:=hd2
  exact ⟨Nat.le_refl _,fun _ _=>⟨g,off,cap,hv,by simp⟩⟩
 split at hq <;> try (cases hq;done)
 · rename_i wr sz e n' f ho
   simp only [Option.some.injEq] at hq
   subst hq
   exact key _ _ _ _ ho rfl (fun hn=>a5t (h.objs id _ ho) hn) hp
 rename_i sz e n' ms f ho
 simp only [Option.some.injEq] at hq
 subst hq
 exact key _ _ _ _ ho rfl (fun hn=>a3q (h.objs id _ ho) hn) hp
end
end
section
open Go.RowKit
def xy:IntKind → Int
 | .i8=>-128 | .i16=>-32768 | .i32=>-2147483648 | .i64=>-9223372036854775808 | _=>0
def a31:IntKind → Int
 | .i8=>127 | .i16=>32767 | .i32=>2147483647 | .i64=>9223372036854775807
 | .u8=>255 | .u16=>65535 | .u32=>4294967295 | .u64=>18446744073709551615
def inR (k:IntKind) (n:Int):Prop:=xy k ≤ n ∧ n ≤ a31 k
theorem a0i {k:IntKind} {n:Int} (h:inR k n):k.wrap n = n:=by
 cases k <;> simp only [inR,xy,a31] at h
 · exact IntWalk.i8_in n h
 · exact IntWalk.i16_in n h
 · exact IntWalk.i32_in n h
 · exact IntWalk.i64_in n h
 · exact IntWalk.u8_in n h
 · exact IntWalk.u16_in n h
 · exact IntWalk.u32_in n h
 exact IntWalk.u64_in n h
def a0u (op:BinOp) (k:IntKind) (x y:Int):Int :=
 match op with
 | .and=>k.wrap (BitVec.ofInt k.bits x &&& BitVec.ofInt k.bits y).toNat
 | .or=>k.wrap (BitVec.ofInt k.bits x ||| BitVec.ofInt k.bits y).toNat
 | .xor=>k.wrap (BitVec.ofInt k.bits x ^^^ BitVec.ofInt k.bits y).toNat
 | _=>k.wrap (BitVec.ofInt k.bits x &&& ~~~BitVec.ofInt k.bits y).toNat
def jf (ex:Bool) (k:IntKind) (n:Int):Prop × Value :=
 match ex with
 | true=>(inR k n, .int k n)
 | false=>(True, .int k (k.wrap n))
def a5o (ex:Bool) (op:BinOp) (k:IntKind) (a b:Int):Option (Prop × Value) :=
 match op with
 | .add=>some (jf ex k (a + b))
 | .sub=>some (jf ex k (a - b))
 | .mul=>some (jf ex k (a * b))
 | .quo =>
  match ex with
  | true=>some (0 ≤ a ∧ 0 < b ∧ inR k a, .int k (a / b))
  | false=>some (b ≠ 0, .int k (k.wrap (a.tdiv b)))
 | .rem =>
  match ex with
  | true=>some (0 ≤ a ∧ 0 < b, .int k (a % b))
  | false=>some (b ≠ 0, .int k (a.tmod b))
 | .and=>some (True, .int k (a0u .and k a b))
 | .or=>some (True, .int k (a0u .or k a b))
 | .xor=>some (True, .int k (a0u .xor k a b))
 | .andNot=>some (True, .int k (a0u .andNot k a b))
 | .eql=>some (True, .bool (decide (a = b)))
 | .neq=>some (True, .bool (!decide (a = b)))
 | .lss=>some (True, .bool (decide (a < b)))
 | .leq=>some (True, .bool (decide (a ≤ b)))
 | .gtr=>some (True, .bool (decide (b < a)))
 | .geq=>some (True, .bool (decide (b ≤ a)))
 | _=>none
def agy (op:BinOp) (a b:ByteArray):Option (Prop × Value) :=
 match op with
 | .add=>some (a.size + b.size ≤ 9223372036854775807, .string (a ++ b))
 | .eql=>some (True, .bool (decide (a = b)))
 | .neq=>some (True, .bool (!decide (a = b)))
 | .lss=>some (True, .bool (Op.bytesLess a.toList b.toList))
 | .leq=>some (True, .bool (Op.bytesLess a.toList b.toList || decide (a = b)))
 | .gtr=>some (True, .bool (!(Op.bytesLess a.toList b.toList || decide (a = b))))
 | .geq=>some (True, .bool (!Op.bytesLess a.toList b.toList))
 | _=>none
def act (E:Env) (ex:Bool) (op:BinOp) (t:TypeId) (u v:Value):Option (Prop × Value) :=
 match u,v with
 | .int k a, .int k' b =>
  match op with
  | .shl=>some (0 ≤ b, .int k (k.wrap (a * 2 ^ (min b.toNat k.bits))))
  | .shr=>some (0 ≤ b, .int k (a.fdiv (2 ^ (min b.toNat k.bits))))
  | op=>match decide (k = k') with | true=>a5o ex op k a b | false=>none
 | .string a, .string b=>agy op a b
 | .bool a, .bool b =>
  match E t with
  | some i =>
   match i.k,op with
   | .bool, .eql=>some (True, .bool (a == b))
   | .bool, .neq=>some (True, .bool (!(a == b)))
   | _,_=>none
  | none=>none
 | _,_=>none
theorem rl (a b:ByteArray):(a.toList == b.toList) = decide (a = b):=by
 rw [Bool.eq_iff_iff,ByteArray.toList_eq,ByteArray.toList_eq]
 simp only [beq_iff_eq,decide_eq_true_eq]
 exact ⟨fun h=>ByteArray.ext (Array.ext' h),fun h=>by rw [h]⟩
theorem a8o {P:Program} {ex:Bool} {op:BinOp} {k:IntKind} {a b:Int} {t:TypeId} {pre:Prop} {v:Value} (h:a5o ex op k a b = some (pre,v)) (hp:pre) (w:World) :
 (binOp op t (.int k a) (.int k b)).run P w = .ok v w:=by
 cases op <;> simp only [a5o] at h <;> try (cases h;done)
 case add | sub | mul =>
  cases ex <;> simp only [jf,Option.some.injEq,Prod.mk.injEq] at h <;> obtain ⟨rfl,rfl⟩:=h <;> simp [binOp,Op.intArith,a0i,hp]
 case quo =>
  cases ex
  · simp only [Option.some.injEq,Prod.mk.injEq] at h
    obtain ⟨rfl,rfl⟩:=h
    simp [binOp,Op.intDiv,hp]
  simp only [Option.some.injEq,Prod.mk.injEq] at h
  obtain ⟨rfl,rfl⟩:=h
  obtain ⟨h0,h1,h2⟩:=hp
  have hne:b ≠ 0:=by omega
  have hd:a.tdiv b = a / b:=Int.tdiv_eq_ediv_of_nonneg h0
  have hw:k.wrap (a / b) = a / b:=a0i (by
   have e1:0 ≤ a / b:=Int.ediv_nonneg h0 (by omega)
   have e2:a / b ≤ a:=Int.ediv_le_self b h0
   have e3:xy k ≤ 0:=by cases k <;> simp [xy]
   exact ⟨by omega,by have:=h2.2;omega⟩)
  simp [binOp,Op.intDiv,hne,hd,hw]
 case rem =>
  cases ex
  · simp only [Option.some.injEq,Prod.mk.injEq] at h
    obtain ⟨rfl,rfl⟩:=h
    simp [binOp,Op.intDiv,hp]
  simp only [Option.some.injEq,Prod.mk.injEq] at h
  obtain ⟨rfl,rfl⟩:=h
  obtain ⟨h0,h1⟩:=hp
  have hne:b ≠ 0:=by omega
  have hd:a.tmod b = a % b:=Int.tmod_eq_emod_of_nonneg h0
  simp [binOp,Op.intDiv,hne,hd]
 case and | or | xor | andNot =>
  simp only [Option.some.injEq,Prod.mk.injEq] at h
  obtain ⟨rfl,rfl⟩:=h
  simp [binOp,Op.intBits,a0u]
 all_goals
  simp only [Option.some.injEq,Prod.mk.injEq] at h
  obtain ⟨rfl,rfl⟩:=h
  simp [binOp,Op.intCmp]
  try first | rfl | (by_cases e:a = b <;> simp [e])
theorem abw {ex:Bool} {op:BinOp} {k:IntKind} {a b:Int} {pre:Prop} {v:Value} (h:a5o ex op k a b = some (pre,v)):v.oneCell' = true:=by
 cases op <;> cases ex <;> simp only [a5o,jf] at h <;> first | (cases h;done) | (simp only [Option.some.injEq,Prod.mk.injEq] at h;rw [← h.2];rfl)
theorem a8t {P:Program} {E:Env} (hE:cr P E) {ex:Bool} {op:BinOp} {t:TypeId} {x y:Operand} {u u':Value} {pre:Prop} {v:Value} (h:act E ex op t u u' = some (pre,v)) (hp:pre) (w:World) :
 (do eqGuard op t x y u u';binOp op t u u':Sem Value).run P w = .ok v w ∧ v.oneCell' = true:=by
 unfold act at h
 split at h <;> try (cases h;done)
 · rename_i k a k' b
   have hg:(eqGuard op t x y (.int k a) (.int k' b)).run P w = .ok () w:=by cases op <;> simp [eqGuard]
   have h1:v.oneCell' = true:=by
    split at h
    · simp only [Option.some.injEq,Prod.mk.injEq] at h;rw [← h.2];rfl
    · simp only [Option.some.injEq,Prod.mk.injEq] at h;rw [← h.2];rfl
    split at h
    · exact abw h
    cases h
   refine ⟨?_,h1⟩
   rw [Sem.run_bind,hg,Result.andThen_ok]
   split at h
   · simp only [Option.some.injEq,Prod.mk.injEq] at h
     obtain ⟨rfl,rfl⟩:=h
     have:¬ b < 0:=by omega
     simp [binOp,Op.shift,this]
   · simp only [Option.some.injEq,Prod.mk.injEq] at h
     obtain ⟨rfl,rfl⟩:=h
     have:¬ b < 0:=by omega
     simp [binOp,Op.shift,this]
   split at h
   · rename_i hk
     have hk:=of_decide_eq_true hk
     subst hk
     exact a8o h hp w
   cases h
 · rename_i a b
   have hg:(eqGuard op t x y (.string a) (.string b)).run P w = .ok () w:=by cases op <;> simp [eqGuard]
   rw [Sem.run_bind,hg,Result.andThen_ok]
   cases op <;> simp only [agy] at h <;> try (cases h;done)
   case add =>
    simp only [Option.some.injEq,Prod.mk.injEq] at h
    obtain ⟨rfl,rfl⟩:=h
    refine ⟨?_,rfl⟩
    have hm:IntKind.i64.max = 9223372036854775807:=by decide
    simp only [binOp,Op.stringOp,hm,Sem.run_ite,Sem.run_pure]
    rw [if_neg (by omega)]
   all_goals
    simp only [Option.some.injEq,Prod.mk.injEq] at h
    obtain ⟨rfl,rfl⟩:=h
    refine ⟨?_,rfl⟩
    simp only [binOp,Op.stringOp,rl,Sem.run_pure]
 rename_i a b
 split at h <;> try (cases h;done)
 rename_i i hi
 obtain ⟨ii,d,h1,h2,h3,_⟩:=bd (hE t i hi)
 have hg:(eqGuard op t x y (.bool a) (.bool b)).run P w = .ok () w:=by cases op <;> simp [eqGuard]
 rw [Sem.run_bind,hg,Result.andThen_ok]
 split at h <;> try (cases h;done)
 · rename_i hb
   have hd:d = .bool:=by cases d <;> simp_all [fy]
   subst hd
   simp only [Option.some.injEq,Prod.mk.injEq] at h
   obtain ⟨rfl,rfl⟩:=h
   exact ⟨run_eql_bool w t a b h2,rfl⟩
 rename_i hb
 have hd:d = .bool:=by cases d <;> simp_all [fy]
 subst hd
 simp only [Option.some.injEq,Prod.mk.injEq] at h
 obtain ⟨rfl,rfl⟩:=h
 exact ⟨run_neq_bool w t a b h2,rfl⟩
end
end Go.Hx
