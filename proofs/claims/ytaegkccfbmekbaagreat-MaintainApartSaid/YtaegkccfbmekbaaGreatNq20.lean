/- A part of the proof: SrW Ty1 Cs10 V8 Cs15 V13 Cs16. -/
import Derived.Shelf.SlSortCmp.NoneTotal
import Derived.Test.YtaegkccfbmekbaaGreatNq15
import Derived.Test.YtaegkccfbmekbaaGreatNq16
import Derived.Test.YtaegkccfbmekbaaGreatNq18
import Derived.Test.YtaegkccfbmekbaaGreatNq19
set_option linter.all false
section
namespace Go.Hx
open Go.Proofs Go.RowKit Go.Sort
set_option maxRecDepth 100000
theorem a5i {w w':World} (h:Below w.heap.size w w'):∃ q os,w' = grow (w.drewN q) os:=by
 refine ⟨w'.drawn - w.drawn,w'.heap.extract w.heap.size w'.heap.size, ?_⟩
 have hd:=h.drawn
 obtain ⟨h1,h2,h3,h4,h5,_⟩:=h
 cases w with
 | mk hp tp dr os out =>
 cases w' with
 | mk hp' tp' dr' os' out' =>
 dsimp only at *
 subst h1 h2 h3
 unfold grow World.drewN
 simp only [World.mk.injEq,true_and,and_true]
 refine ⟨?_,by omega⟩
 apply Array.ext_getElem?
 intro k
 rw [Array.getElem?_append]
 by_cases hk:k < hp.size
 · rw [if_pos hk,h5 k hk]
 · rw [if_neg hk,Array.getElem?_extract]
   by_cases hk2:k < hp'.size
   · rw [if_pos (by omega)]
     congr 1
     omega
   · rw [if_neg (by omega),Array.getElem?_eq_none (by omega)]
theorem a5u {α:Type} [Inhabited α] {enc:α → Value} {w:World} {g m:Nat} {d:Array α} {os:Array Obj} {cur:Array Value} {e:TypeId} {fr:Nat × Nat} (h:w.heap[g]? = some (.cells cur e fr)) :
 (sortWorld enc w g 0 m d os).heap[g]? = some (.cells (putCells enc 0 d cur) e fr):=by
 have hlt:=(Array.getElem?_eq_some_iff.1 h).1
 unfold sortWorld
 rw [heap_grow_old _ _ (by simpa using hlt)]
 unfold putRow mapBlock
 simp only [heap_ahead,Array.getElem?_modify,if_true,h]
 rfl
theorem mg {α:Type} [Inhabited α] {enc:α → Value} {w:World} {g m:Nat} {d:Array α} {os:Array Obj} {b:Nat} (hb:b < w.heap.size) (hne:b ≠ g):(sortWorld enc w g 0 m d os).heap[b]? = w.heap[b]?:=by
 unfold sortWorld
 rw [heap_grow_old _ _ (by simpa using hb)]
 unfold putRow mapBlock
 simp only [heap_ahead,Array.getElem?_modify,if_neg (Ne.symm hne)]
theorem a4x {α:Type} [Inhabited α] {enc:α → Value} {w:World} {g m:Nat} {d:Array α} {os:Array Obj}:Below 0 w (sortWorld enc w g 0 m d os) :=
 ⟨rfl,rfl,rfl,by unfold sortWorld;simp,fun k hk=>absurd hk (Nat.not_lt_zero k),by unfold sortWorld grow;simp⟩
theorem ac5 {α:Type} [Inhabited α] {enc:α → Value} {d:Array α} {cur:Array Value} (h:d.size ≤ cur.size):(putCells enc 0 d cur).toList.take d.size = d.toList.map enc:=by
 apply List.ext_getElem?
 intro k
 rw [List.getElem?_take,List.getElem?_map,Array.getElem?_toList,Array.getElem?_toList]
 by_cases hk:k < d.size
 · rw [if_pos hk]
   unfold putCells
   rw [Array.getElem?_mapIdx,Array.getElem?_eq_getElem (by omega),Array.getElem?_eq_getElem hk]
   simp only [Option.map_some,Nat.zero_add,Nat.sub_zero]
   rw [if_pos ⟨Nat.zero_le _,hk⟩,getElem!_pos d k hk]
 · rw [if_neg hk,Array.getElem?_eq_none (by omega)]
   rfl
theorem aje {P:Program} {ρ:Go.Shelf.Ren} {α:Type} [Inhabited α] (L:SlLaysF.n6 P ρ) (enc:α → Value) (h1:∀ x,(enc x).oneCell' = true) (cf:α → α → Int) (hO:SWO (ltOf cf)) (hT:∀ x y,(ltOf cf) x y = false → (ltOf cf) y x = false → x = y)
 (g:Nat) (caps:Nat → PV) (hg:∀ args w,(callFunc g args).run P w = .ok (.enter g args) w) (hc:∀ x y,ap P g [.one (.raw (enc x)), .one (.raw (enc y))] (b4 [.one (.raw (.int .i64 (cf x y)))])) (id:Nat) (e:TypeId) (l:List α) (hsz:l.length ≤ 8589934592) :
 ce P (ρ.f 6) [.one (.ref id l.length), .one (.p (.fn g 0 caps))] [(id, .arr true 1 e l.length (lf (fun x _=>.raw (enc x)) l))] (.tup [])
  [(id, .arr true 1 e l.length (lf (fun x _=>.raw (enc x)) (l.mergeSort fun x y=>!(ltOf cf) y x)))] [id]:=by
 intro w c us hM hus
 match us,hus with
 | [u,v],⟨hu,hv,_⟩ =>
  obtain ⟨cs,rfl,hcl,_⟩:=hv
  have hcs:cs = []:=List.eq_nil_of_length_eq_zero hcl
  subst hcs
  have hl1:lk [(id,ag.arr true 1 e l.length (lf (fun x _=>.raw (enc x)) l))] id = some (.arr true 1 e l.length (lf (fun x _=>.raw (enc x)) l)):=by simp [lk]
  have hu2:=(hu.2.2 _ _ _ _ hl1 rfl).2 rfl
  subst hu2
  have hob:=hM.objs id _ hl1
  obtain ⟨h0,hmax,h5⟩:=hob
  have hlen:(l.mergeSort fun x y=>!(ltOf cf) y x).length = l.length:=List.length_mergeSort _
  have hev:∀ f':Nat → Nat → PV,Evo c (lk [(id,ag.arr true 1 e l.length (lf (fun x _=>.raw (enc x)) l))]) c (lk [(id,ag.arr true 1 e l.length f')]) id:=fun f' =>
   .inr (.inr ⟨_, .arr true 1 e l.length f',1,e,l.length,l.length,hl1,rfl,by simp [lk],rfl,Nat.le_refl _,fun _=>rfl,fun _ _ _ _ _ _ _ h=>by cases h⟩)
  rcases Nat.eq_zero_or_pos l.length with hz | hpos
  ·
   have hl:l = []:=List.eq_nil_of_length_eq_zero hz
   subst hl
   have hform:∃ ad cap,c.own id = .slice ad 0 cap:=by
    rcases h5 with ⟨_,xs,h2,_⟩ | ⟨_,_,ad,cap,hv,_⟩
    · rcases h2.2 with ⟨hv,_⟩ | ⟨g,cap,cur,hv,_⟩
      · exact ⟨none,0,hv⟩
      · exact ⟨_,cap,hv⟩
    · exact ⟨ad,cap,hv⟩
   obtain ⟨ad,cap,hown⟩:=hform
   have hms:([]:List α).mergeSort (fun x y=>!(ltOf cf) y x) = []:=by simp
   rw [hown,hms]
   refine (AnyF.slices_SortFunc_none { L with } ad cap (.func (.func g) #[] #[]) w).mono ?_
   rintro e' w' ⟨rfl,rfl⟩
   exact ⟨_,c,rfl,⟨[],rfl,trivial⟩,hM,Below.refl _ _,fun _ _ _=>⟨rfl,rfl⟩,fun id0 ob b ho hb=>.inr ⟨id0,ob,ho,hb⟩,fun id0 hid=>by
    rw [List.mem_singleton.1 hid]
    exact Evo.refl _ _ _⟩
  · obtain ⟨h6,xs,h2,h4⟩:c.blk id = dv (c.own id) ∧ ∃ xs,w.ownsRow 0 e 1 (c.own id) l.length xs ∧ ∀ i j,i < l.length → j < 1 → ∃ x,xs[i * 1 + j]? = some x ∧ b9 c.imm (lf (fun x _=>.raw (enc x)) l i j) x:=by
     rcases h5 with h5 | ⟨h6 | h6,_⟩
     · exact h5
     · cases h6
     · omega
    obtain ⟨hxl,hrow⟩:=h2
    rcases hrow with ⟨_,hz⟩ | ⟨b,cap,cur,hown,hbase,hheap,hnc,hcm,hcs,htake⟩
    · omega
    have hblk:c.blk id b:=by rw [h6,hown];rfl
    have hlt:b < w.heap.size:=(Array.getElem?_eq_some_iff.1 hheap).1
    have hcell:∀ j,(hj:j < l.length) → cur[j]? = some (enc l[j]):=fun j hj=>by
     obtain ⟨x,hx,hr⟩:=h4 j 0 hj (by omega)
     rw [Nat.mul_one,Nat.add_zero,← htake,List.getElem?_take,if_pos (by omega),Array.getElem?_toList] at hx
     rw [hx]
     have hr:x = enc (l.getD j default) ∧ _:=hr
     rw [hr.1,List.getD_eq_getElem?_getD,List.getElem?_eq_getElem hj]
     rfl
    have hH:Holds enc w b 0 l.toArray:=fun j hj=>by
     have hj:j < l.length:=by simpa using hj
     rw [Nat.zero_add]
     refine ⟨?_,by simp [World.frozen?,hheap]⟩
     have:l.toArray[j]! = l[j]:=by rw [getElem!_pos l.toArray j (by simpa using hj)];simp
     rw [this]
     simp [World.cell?,hheap,hcell j hj]
    have hcmp:CmpLays1 P g #[] enc cf b 0 l.toArray.size w:=by
     intro m os dk hdk x y
     have hcimm:∀ b' ob,c.imm b' = some ob → (sortWorld enc w b 0 m dk os).heap[b']? = some ob:=fun b' ob hb'=>by
      have hne:b' ≠ b:=fun he=>by
       have:=hM.sep id _ b hl1 hblk
       rw [← he,hb'] at this
       cases this
      have hw:=hM.imm b' ob hb'
      rw [mg (Array.getElem?_eq_some_iff.1 hw).1 hne]
      exact hw
     have h:=hc x y (sortWorld enc w b 0 m dk os) c.imm [enc x,enc y] c.tab hcimm ⟨⟨rfl,h1 x⟩,⟨rfl,h1 y⟩,trivial⟩
     refine h.mono ?_
     rintro e' w' ⟨v,imm',rfl,hr,_,_,hb⟩
     obtain ⟨q,os',hq⟩:=a5i hb
     exact ⟨by rw [hr.1],q,os',hq⟩
    have hS:=Any.slices_SortFunc_total L enc h1 cf hO g #[] b 0 cap l.toArray w hg hcmp hH hlt (by rw [List.size_toArray];omega) hT
    rw [hown]
    refine Calls.mono hS ?_
    rintro e' w' ⟨rfl,m,os,rfl⟩
    generalize hSd:(l.mergeSort fun x y=>!(ltOf cf) y x) = S at *
    refine ⟨_,c,rfl,⟨[],rfl,trivial⟩,⟨fun id0 ob ho=>?_,fun id0 id1 ob0 ob1 b' ho0 ho1 _ _=>(gq ho0).1.trans (gq ho1).1.symm,fun b' ob hb'=>?_,fun id0 ob b' ho hb'=>?_⟩,a4x,
     fun b' hb' hno=>⟨mg hb' (fun he=>hno id _ hl1 (by rw [he];exact hblk)),rfl⟩,fun id0 ob b' ho hb'=>.inr ⟨id,_,hl1,by rw [← (gq ho).1];exact hb'⟩,fun id0 hid=>by
      rw [List.mem_singleton.1 hid]
      exact hev _⟩
    · obtain ⟨rfl,rfl⟩:=gq ho
      refine ⟨h0,hmax, .inl ⟨h6,S.map enc,⟨by simp [hlen], .inr ⟨b,cap,putCells enc 0 S.toArray cur,hown,hbase,a5u hheap,hnc,hcm,by simpa [putCells] using hcs, ?_⟩⟩,fun i j hi hj=>?_⟩⟩
      · have:=ac5 (enc:=enc) (d:=S.toArray) (cur:=cur) (by rw [List.size_toArray,hlen,hcs];omega)
        rw [List.size_toArray,hlen] at this
        rw [Nat.mul_one]
        exact this
      · obtain rfl:j = 0:=by omega
        have hi':i < S.length:=by rw [hlen];exact hi
        refine ⟨enc S[i], ?_, ?_⟩
        · rw [Nat.mul_one,Nat.add_zero,List.getElem?_map,List.getElem?_eq_getElem hi']
          rfl
        · show b9 c.imm (.raw (enc (S.getD i default))) _
          rw [List.getD_eq_getElem?_getD,List.getElem?_eq_getElem hi']
          exact ⟨rfl,h1 _⟩
    · have hne:b' ≠ b:=fun he=>by
       have:=hM.sep id _ b hl1 hblk
       rw [← he,hb'] at this
       cases this
      have hw:=hM.imm b' ob hb'
      rw [mg (Array.getElem?_eq_some_iff.1 hw).1 hne]
      exact hw
    · have:=(gq ho).1
      subst this
      exact hM.sep id0 _ b' hl1 hb'
 | [],h=>exact h.elim
 | [_],⟨_,h⟩=>exact h.elim
 | _ :: _ :: _ :: _,⟨_,_,h⟩=>exact h.elim
theorem pl {a b:AS}:ltOf p9 a b = bef a b:=alx
theorem aby:SWO (ltOf p9) where
 irrefl x:=by rw [pl];exact kx x
 trans x y z h k:=by rw [pl] at *;exact lm h k
 ntrans x y z h k:=by
  rw [pl] at *
  rw [Bool.eq_false_iff,ne_eq,gk] at *
  omega
def srt (l:List AS):List AS:=l.mergeSort fun x y=>!bef y x
theorem aoq:aj Tryz.prog 132:=⟨Tryz.f132,Tryz.func132,by kernel_rfl,by kernel_rfl⟩
theorem auq (id:Nat) (caps:Nat → PV) (l:List AS) (hsz:l.length ≤ 8589934592):ce Tryz.prog 132 [.one (.ref id l.length), .one (.p (.fn 133 0 caps))] [(id, .arr true 1 69 l.length (lf sC l))] (.tup [])
 [(id, .arr true 1 69 l.length (lf sC (srt l)))] [id]:=by
 have h:=aje Tryz.laysSort (fun s:AS=>.int .u32 (asI s)) (fun _=>rfl) p9 aby (fun x y h k=>by
  rw [pl] at h k
  apply Classical.byContradiction
  intro hne
  rcases py hne with h2 | h2
  · rw [h] at h2;cases h2
  · rw [k] at h2;cases h2) 133 caps (enters_of Tryz.func133 (by kernel_rfl) rfl) (fun x y=>akj x y) id 69 l hsz
 have e:(fun x y:AS=>!(ltOf p9) y x) = fun x y=>!bef y x:=by
  funext x y
  rw [pl]
 rw [e] at h
 exact h
theorem adx {l:List AS} {x:AS}:x ∈ srt l ↔ x ∈ l:=by unfold srt;exact List.mem_mergeSort
theorem sv (l:List AS):(srt l).length = l.length:=List.length_mergeSort _
theorem a0o:∀ {l:List AS} {p:Option AS},l.Pairwise (fun a b=>bef b a = false) → (∀ x,p = some x → ∀ y ∈ l,bef y x = false) → (l8 p l).Pairwise (fun a b=>bef a b = true) ∧ ∀ x,p = some x → ∀ y ∈ l8 p l,bef x y = true
 | [],p,_,_=>⟨by simp [l8],fun x _ y hy=>by simp [l8] at hy⟩
 | z :: l,p,h,hp=>by
  obtain ⟨h1,h2⟩:=List.pairwise_cons.1 h
  simp only [l8]
  split
  · rename_i e
    subst e
    exact a0o h2 fun x hx y hy=>hp x hx y (List.mem_cons_of_mem _ hy)
  · rename_i hne
    obtain ⟨q1,q2⟩:=a0o (p:=some z) h2 fun x hx y hy=>by
     simp only [Option.some.injEq] at hx
     subst hx
     exact h1 y hy
    refine ⟨List.pairwise_cons.2 ⟨fun y hy=>q2 z rfl y hy,q1⟩,fun x hx y hy=>?_⟩
    have hxz:bef x z = true:=by
     have h3:=hp x hx z List.mem_cons_self
     rcases py (a:=x) (b:=z) (fun e=>hne (by rw [hx,e])) with h4 | h4
     · exact h4
     · rw [h3] at h4;cases h4
    rcases List.mem_cons.1 hy with rfl | hy
    · exact hxz
    · exact lm hxz (q2 z rfl y hy)
theorem alt (l:List AS):rt (srt l) = ord l:=by
 refine ahp (a0o ?_ fun x hx=>by cases hx).1 fun z=>by rw [alq,adx]
 have h:=List.pairwise_mergeSort (le:=fun x y:AS=>!bef y x) (fun a b c h k=>by
  simp only [Bool.not_eq_true'] at *
  rw [Bool.eq_false_iff,ne_eq,gk] at *
  omega) (fun a b=>by
  simp only [Bool.or_eq_true,Bool.not_eq_true']
  rw [Bool.eq_false_iff,Bool.eq_false_iff,ne_eq,ne_eq,gk,gk]
  omega) l
 refine h.imp fun {a b} hab=>?_
 simpa using hab
end Go.Hx
end
section
namespace Go.Hx
abbrev pU8 (a:Int):PC:=.one (.raw (.int .u8 a))
abbrev pS (s:ByteArray):PC:=.one (.raw (.string s))
abbrev vU8 (a:Int):HR:=c5 (.raw (.int .u8 a))
abbrev vB (b:Bool):HR:=c5 (.raw (.bool b))
abbrev vS (s:ByteArray):HR:=c5 (.raw (.string s))
abbrev vP (x:PV):HR:=c5 x
abbrev Lim:Nat:=68719476736
structure Val where
 kind:Int
 num:Int
 str:ByteArray
instance:Inhabited Val:=⟨⟨0,0,⟨#[]⟩⟩⟩
theorem Val.eq_iff {a b:Val}:a = b ↔ a.kind = b.kind ∧ a.num = b.num ∧ a.str = b.str:=by cases a;cases b;simp
instance:DecidableEq Val:=fun a b=>decidable_of_iff _ (Val.eq_iff (a:=a) (b:=b)).symm
def Val.c (v:Val):Nat → PV
 | 0=>.raw (.int .i64 v.kind)
 | 1=>.raw (.int .i64 v.num)
 | 2=>.raw (.string v.str)
 | _=>.any
abbrev vals (l:List Val):PV:=psl 3 Val.c l
abbrev Val.pc (v:Val):PC:=.agg [v.c 0,v.c 1,v.c 2]
structure Row where
 id:Int
 vals:List Val
instance:Inhabited Row:=⟨⟨0,[]⟩⟩
theorem Row.eq_iff {a b:Row}:a = b ↔ a.id = b.id ∧ a.vals = b.vals:=by cases a;cases b;simp
instance:DecidableEq Row:=fun a b=>decidable_of_iff _ (Row.eq_iff (a:=a) (b:=b)).symm
def Row.c (r:Row):Nat → PV
 | 0=>.raw (.int .i64 r.id)
 | 1=>Hx.vals r.vals
 | _=>.any
abbrev rows (l:List Row):PV:=psl 2 Row.c l
abbrev Row.pc (r:Row):PC:=.agg [r.c 0,r.c 1]
def a0v (s:ByteArray):Nat → PV
 | 0=>.raw (.string s)
 | _=>.any
instance:Inhabited ByteArray:=⟨⟨#[]⟩⟩
abbrev i7 (l:List ByteArray):PV:=psl 1 a0v l
def u8C (s:UInt8):Nat → PV
 | 0=>.raw (.int .u8 (s.toNat:Int))
 | _=>.any
abbrev u8s (l:List UInt8):PV:=psl 1 u8C l
def ar1 (l:List UInt8):Nat → PV
 | 0=>u8s l
 | _=>.any
abbrev aw5 (l:List (List UInt8)):PV:=psl 1 ar1 l
structure Tbl where
 name:ByteArray
 attrs:List ByteArray
 rows:List Row
instance:Inhabited Tbl:=⟨⟨⟨#[]⟩,[],[]⟩⟩
theorem Tbl.eq_iff {a b:Tbl}:a = b ↔ a.name = b.name ∧ a.attrs = b.attrs ∧ a.rows = b.rows:=by cases a;cases b;simp
instance:DecidableEq Tbl:=fun a b=>decidable_of_iff _ (Tbl.eq_iff (a:=a) (b:=b)).symm
def Tbl.c (t:Tbl):Nat → PV
 | 0=>.raw (.string t.name)
 | 1=>i7 t.attrs
 | 2=>Hx.rows t.rows
 | _=>.any
abbrev aw8 (l:List Tbl):PV:=psl 3 Tbl.c l
abbrev Tbl.pc (t:Tbl):PC:=.agg [t.c 0,t.c 1,t.c 2]
abbrev DB:=List Tbl
abbrev awy (d:DB):PC:=.agg [aw8 d]
structure Chg where
 kind:Int
 name:ByteArray
 table:Tbl
 row:Row
 attr:Int
 value:Val
instance:Inhabited Chg:=⟨⟨0,⟨#[]⟩,default,default,0,default⟩⟩
theorem Chg.eq_iff {a b:Chg}:a = b ↔ a.kind = b.kind ∧ a.name = b.name ∧ a.table = b.table ∧ a.row = b.row ∧ a.attr = b.attr ∧ a.value = b.value:=by cases a;cases b;simp
instance:DecidableEq Chg:=fun a b=>decidable_of_iff _ (Chg.eq_iff (a:=a) (b:=b)).symm
def Chg.c (x:Chg):Nat → PV
 | 0=>.raw (.int .i64 x.kind)
 | 1=>.raw (.string x.name)
 | 2=>x.table.c 0
 | 3=>x.table.c 1
 | 4=>x.table.c 2
 | 5=>x.row.c 0
 | 6=>x.row.c 1
 | 7=>.raw (.int .i64 x.attr)
 | 8=>x.value.c 0
 | 9=>x.value.c 1
 | 10=>x.value.c 2
 | _=>.any
abbrev aro (l:List Chg):PV:=psl 11 Chg.c l
abbrev Chg.pc (x:Chg):PC:=.agg [x.c 0,x.c 1,x.c 2,x.c 3,x.c 4,x.c 5,x.c 6,x.c 7,x.c 8,x.c 9,x.c 10]
def txC (l:List Chg):Nat → PV
 | 0=>aro l
 | _=>.any
abbrev txs (l:List (List Chg)):PV:=psl 1 txC l
structure Rcp where
 attrs:UInt8
 gap:UInt8
 rows:List (List UInt8)
instance:Inhabited Rcp:=⟨⟨0,0,[]⟩⟩
def Rcp.c (x:Rcp):Nat → PV
 | 0=>.raw (.int .u8 (x.attrs.toNat:Int))
 | 1=>.raw (.int .u8 (x.gap.toNat:Int))
 | 2=>aw5 x.rows
 | _=>.any
abbrev Rcp.pc (x:Rcp):PC:=.agg [x.c 0,x.c 1,x.c 2]
structure Opn where
 kind:UInt8
 name:UInt8
 t:Rcp
 id:Int
 vals:List UInt8
 attr:Int
 value:UInt8
instance:Inhabited Opn:=⟨⟨0,0,default,0,[],0,0⟩⟩
def Opn.c (x:Opn):Nat → PV
 | 0=>.raw (.int .u8 (x.kind.toNat:Int))
 | 1=>.raw (.int .u8 (x.name.toNat:Int))
 | 2=>x.t.c 0
 | 3=>x.t.c 1
 | 4=>x.t.c 2
 | 5=>.raw (.int .i64 x.id)
 | 6=>u8s x.vals
 | 7=>.raw (.int .i64 x.attr)
 | 8=>.raw (.int .u8 (x.value.toNat:Int))
 | _=>.any
abbrev Opn.pc (x:Opn):PC:=.agg [x.c 0,x.c 1,x.c 2,x.c 3,x.c 4,x.c 5,x.c 6,x.c 7,x.c 8]
abbrev aww (l:List Opn):PV:=psl 9 Opn.c l
structure Stt where
 done:List (List Chg)
 undone:List (List Chg)
 opn:Bool
 now:List Chg
instance:Inhabited Stt:=⟨⟨[],[],false,[]⟩⟩
def Stt.c (x:Stt):Nat → PV
 | 0=>txs x.done
 | 1=>txs x.undone
 | 2=>.raw (.bool x.opn)
 | 3=>aro x.now
 | _=>.any
abbrev Stt.pc (x:Stt):PC:=.agg [x.c 0,x.c 1,x.c 2,x.c 3]
theorem l4 {α:Type} [Inhabited α] (l:List α) (i:Nat) (h:i < l.length):l.getD i default = l[i]:=by simp [List.getD,List.getElem?_eq_getElem h]
end Go.Hx
end
section
namespace Go.Hx
abbrev bx (a:PV):PV:=.vp 1 fun j=>[a].getD j .any
def xj (W:AS → AS → Bool) (l:List AS) (x:AS):Bool:=l.any fun b=>decide (x ≠ b) && W x b
def a94 (W:AS → AS → Bool) (l:List AS):List AS:=(ord l).filter fun x=>!xj W (ord l) x
def tg (a b:AS):Bool:=decide (sub a b)
def ax2 (l:List AS):List AS:=a94 tg l
theorem a7n (l:List AS):(ord l).Nodup:=(f7 l).imp fun {a b} h e=>by
 subst e
 rw [kx] at h
 cases h
def okT (l:List AS) (i k:Nat):Bool:=(List.range k).all fun j=>decide (j = i) || !tg (l.getD i default) (l.getD j default)
def awp (l:List AS) (i:Nat):List AS:=((ord l).take i).filter fun x=>!xj tg (ord l) x
end Go.Hx
end
section
namespace Go.Hx
open Go.Proofs
set_option maxRecDepth 100000
theorem ap2:aj Tryz.prog 102:=⟨Tryz.f102,Tryz.func102,by kernel_rfl,by kernel_rfl⟩
theorem aqp (l:List AS) (hl:l.length ≤ 8589934592):ap Tryz.prog 102 [pP (asl l)] (b4 [pP (asl (ord l))]):=by
 refine ah (nt:=10) ae Tryz.func102 rfl rfl l9 ?_;refine sx7 ?_;refine qy ?_;refine a6 ?_;refine sx7 ?_;refine qy ?_
 refine ay rfl rfl rfl rfl rfl rfl anc (anw l.length false (lf sC l) (by omega)) (bs.refl _) trivial rfl rfl ?_;refine qy ?_;refine a6 ?_;refine sx7 ?_;refine qy ?_
 refine ay rfl rfl rfl rfl rfl rfl aoq (auq 0 _ l hl) (bs.refl _) ⟨u9,trivial⟩ rfl rfl ?_;refine a6 ?_;refine sx7 ?_;refine qy ?_
 refine ay rfl rfl rfl rfl rfl rfl aod ((am2 (srt l)).swap 900 0) (⟨congrArg (HV.ref 0) (sv l).symm,trivial⟩) ⟨⟨_,rfl,o4 rfl (sv l).symm⟩,trivial⟩ rfl rfl ?_;refine qy ?_;refine a6 ?_
 exact hx8 rfl rfl rfl (⟨CoC.one (CoP.of_eq (by rw [alt])),trivial⟩)
end Go.Hx
end
section
namespace Go.Hx
theorem ase {s:Nat} {cl:Bool} {f:Nat → Nat → PV} {L:List AS} (h:L = []):CoP (.sl 0 s cl f) (asl L):=by subst h;exact bd
theorem yw (a b:Nat):a &&& b = 2 * (a / 2 &&& b / 2) + (a % 2 &&& b % 2):=by
 have h1:=Nat.div_add_mod (a &&& b) 2
 have h2:(a &&& b) % 2 = a % 2 &&& b % 2:=by
  have:=Nat.and_mod_two_pow (a:=a) (b:=b) (n:=1)
  simpa using this
 rw [Nat.and_div_two,h2] at h1
 exact h1.symm
theorem a60 (a b:Nat):(a % 2 &&& b % 2) = if a % 2 = 1 ∧ b % 2 = 1 then 1 else 0:=by
 rcases Nat.mod_two_eq_zero_or_one a with h | h <;> rcases Nat.mod_two_eq_zero_or_one b with k | k <;> rw [h,k] <;> rfl
theorem a0b {x s:Nat} (h:x &&& s = x):(x / 2 &&& s / 2 = x / 2) ∧ (x % 2 = 1 → s % 2 = 1):=by
 have h1:=yw x s
 rw [h,a60] at h1
 split at h1 <;> rename_i hc
 · exact ⟨by omega,fun _=>hc.2⟩
 · exact ⟨by omega,fun hx=>by omega⟩
theorem aa8:∀ (x s z:Nat),x &&& s = x → z &&& s = z → z < x → z ≤ ((x - 1) &&& s):=by
 intro x
 induction x using Nat.strongRecOn with
 | _ x ih =>
  intro s z hx hz hlt
  obtain ⟨x1,x2⟩:=a0b hx
  obtain ⟨z1,z2⟩:=a0b hz
  rw [yw (x - 1) s,a60]
  rcases Nat.mod_two_eq_zero_or_one x with hb | hb
  · have e1:(x - 1) / 2 = x / 2 - 1:=by omega
    have e2:(x - 1) % 2 = 1:=by omega
    have:=ih (x / 2) (by omega) (s / 2) (z / 2) x1 z1 (by omega)
    rw [e1,e2]
    by_cases hs:s % 2 = 1
    · rw [if_pos ⟨rfl,hs⟩];omega
    · rw [if_neg (fun h=>hs h.2)]
      have:z % 2 = 0:=by omega
      omega
  · have e1:(x - 1) / 2 = x / 2:=by omega
    have e2:(x - 1) % 2 = 0:=by omega
    rw [e1,e2,x1,if_neg (by omega)]
    omega
theorem adn:∀ (w y s:Nat),y &&& s = y → s < 2 ^ w → ((2 ^ w - 1 - y) &&& s) = s - y:=by
 intro w
 induction w with
 | zero=>intro y s h hs;obtain rfl:s = 0:=(by simpa using hs);simp
 | succ w ih =>
  intro y s h hs
  obtain ⟨y1,y2⟩:=a0b h
  have hle:y ≤ s:=by rw [← h];exact Nat.and_le_right
  rw [Nat.pow_succ] at hs ⊢
  have hp:=Nat.two_pow_pos w
  have:=ih (y / 2) (s / 2) y1 (by omega)
  have hle2:y / 2 ≤ s / 2:=by omega
  rw [yw,a60,show (2 ^ w * 2 - 1 - y) / 2 = 2 ^ w - 1 - y / 2 by omega,this]
  split <;> omega
theorem ahl {y s:Nat} (h:y &&& s = y):(s - y) &&& s = s - y:=by
 rw [← adn s y s h Nat.lt_two_pow_self,Nat.and_assoc,Nat.and_self]
theorem aos {w x s:Nat} (hx:x &&& s = x) (hs:s < 2 ^ w) (hne:x < s):((2 ^ w + x - s) &&& s) = s - ((s - x - 1) &&& s):=by
 have h1:((s - x - 1) &&& s) &&& s = (s - x - 1) &&& s:=by rw [Nat.and_assoc,Nat.and_self]
 rw [← adn w _ s h1 hs]
 have hp:=Nat.two_pow_pos w
 apply Nat.eq_of_testBit_eq
 intro i
 have hlt:s - x - 1 < 2 ^ w:=by omega
 have hlt2:((s - x - 1) &&& s) < 2 ^ w:=Nat.lt_of_le_of_lt Nat.and_le_left hlt
 rw [Nat.testBit_and,Nat.testBit_and,show 2 ^ w + x - s = 2 ^ w - (s - x - 1 + 1) by omega,Nat.testBit_two_pow_sub_succ hlt,show 2 ^ w - 1 - ((s - x - 1) &&& s) = 2 ^ w - (((s - x - 1) &&& s) + 1) by omega,Nat.testBit_two_pow_sub_succ hlt2,Nat.testBit_and]
 cases s.testBit i <;> simp
theorem ab5 {w x s z:Nat} (hx:x &&& s = x) (hs:s < 2 ^ w) (hz:z &&& s = z) (hlt:x < z):((2 ^ w + x - s) &&& s) ≤ z ∧ x < ((2 ^ w + x - s) &&& s):=by
 have hzs:z ≤ s:=by rw [← hz];exact Nat.and_le_right
 rw [aos hx hs (by omega)]
 have h1:=aa8 (s - x) s (s - z) (ahl hx) (ahl hz) (by omega)
 have h2:((s - x - 1) &&& s) ≤ s - x - 1:=Nat.and_le_left
 omega
theorem zo {z s:AS}:sub z s ↔ z.toNat &&& s.toNat = z.toNat:=by
 rw [← BitVec.toNat_and,BitVec.toNat_inj,ew]
 constructor
 · intro h
   apply BitVec.eq_of_getLsbD_eq
   intro k hk
   rw [BitVec.getLsbD_and]
   cases hz:z.getLsbD k with
   | false=>rfl
   | true=>rw [h k hk hz];rfl
 · intro h i _ hi
   rw [← h,BitVec.getLsbD_and] at hi
   simp at hi
   exact hi.2
theorem a6j {z s:AS} (h:sub z s):bsz z ≤ bsz s:=by
 unfold bsz
 apply List.countP_mono_left
 intro i hi hb
 exact ew.1 h i (List.mem_range.1 hi) hb
def yq (s:AS):Nat → AS → List AS
 | 0,_=>[]
 | n + 1,x=>x :: if x = 0 then [] else yq s n ((x - 1) &&& s)
theorem a9g {x:AS} (h:x ≠ 0):(x - 1).toNat = x.toNat - 1:=by
 have h0:x.toNat ≠ 0:=fun e=>h (BitVec.eq_of_toNat_eq e)
 have:=x.isLt
 rw [BitVec.toNat_sub]
 show (2 ^ 32 - 1 + x.toNat) % 2 ^ 32 = _
 omega
theorem a3n {x s:AS}:sub ((x - 1) &&& s) s:=by
 rw [zo,BitVec.toNat_and,Nat.and_assoc,Nat.and_self]
theorem xd {x s:AS} (h:x ≠ 0):((x - 1) &&& s).toNat < x.toNat:=by
 have h0:x.toNat ≠ 0:=fun e=>h (BitVec.eq_of_toNat_eq e)
 rw [BitVec.toNat_and,a9g h]
 have:((x.toNat - 1) &&& s.toNat) ≤ x.toNat - 1:=Nat.and_le_left
 omega
theorem ab2 {x s z:AS} (hx:sub x s) (hz:sub z s) (h:z.toNat < x.toNat):z.toNat ≤ ((x - 1) &&& s).toNat:=by
 have h0:x ≠ 0:=fun e=>by subst e;exact absurd h (Nat.not_lt_zero _)
 rw [BitVec.toNat_and,a9g h0]
 exact aa8 _ _ _ (zo.1 hx) (zo.1 hz) h
theorem abe {s:AS}:∀ (n:Nat) (x:AS),sub x s → x.toNat < n → ∀ z,z ∈ yq s n x ↔ sub z s ∧ z.toNat ≤ x.toNat
 | 0,x,_,h,z=>absurd h (Nat.not_lt_zero _)
 | n + 1,x,hx,h,z=>by
  unfold yq
  by_cases h0:x = 0
  · rw [if_pos h0,List.mem_singleton]
    subst h0
    constructor
    · rintro rfl;exact ⟨hx,Nat.le_refl _⟩
    · rintro ⟨_,h⟩
      exact BitVec.eq_of_toNat_eq (Nat.le_antisymm h (Nat.zero_le _))
  · rw [if_neg h0,List.mem_cons,abe n _ a3n (by have:=xd (s:=s) h0;omega)]
    constructor
    · rintro (rfl | ⟨h1,h2⟩)
      · exact ⟨hx,Nat.le_refl _⟩
      · have:=xd (s:=s) h0
        exact ⟨h1,by omega⟩
    · rintro ⟨h1,h2⟩
      by_cases he:z = x
      · exact .inl he
      · have hne:z.toNat ≠ x.toNat:=fun e=>he (BitVec.eq_of_toNat_eq e)
        exact .inr ⟨h1,ab2 hx h1 (by omega)⟩
def ou (s:AS):List AS:=ord (yq s (s.toNat + 1) s)
theorem sub_self (s:AS):sub s s:=by rw [zo,Nat.and_self]
theorem aez {z s:AS} (h:sub z s):z.toNat ≤ s.toNat:=by rw [← zo.1 h];exact Nat.and_le_right
theorem lx {s z:AS}:z ∈ ou s ↔ sub z s:=by
 unfold ou
 rw [t7,abe _ _ (sub_self s) (Nat.lt_succ_self _)]
 exact ⟨fun h=>h.1,fun h=>⟨h,aez h⟩⟩
theorem ab8 {l:List AS} {s:AS} (ho:ir l) (h:∀ z,z ∈ l ↔ sub z s):l = ou s:=ku ho (f7 _) fun z=>by rw [h z];exact lx.symm
def ck (s:AS):List AS:=if 12 < bsz s then [] else ou s
theorem ae2 {s:AS} (h:(12:Int) < bsz s):ck s = []:=if_pos (by omega)
theorem a1d {s:AS} (h:¬ (12:Int) < bsz s):ck s = ou s:=if_neg (by omega)
def a4r (s:AS) (y:List AS × AS):Prop:=sub y.2 s ∧ y.1.length + y.2.toNat ≤ s.toNat + 1 ∧ ∀ z,z ∈ y.1 ↔ sub z s ∧ y.2.toNat ≤ z.toNat
theorem aif (s:AS):a4r s ([s],s):=⟨sub_self s,by simp only [List.length_singleton];omega,fun z=>by
 rw [List.mem_singleton]
 constructor
 · rintro rfl;exact ⟨sub_self _,Nat.le_refl _⟩
 · rintro ⟨h1,h2⟩;exact BitVec.eq_of_toNat_eq (Nat.le_antisymm (aez h1) h2)⟩
theorem aiq {s:AS} {y:List AS × AS} (h:a4r s y) (h0:y.2 ≠ 0):a4r s (y.1 ++ [(y.2 - 1) &&& s],(y.2 - 1) &&& s):=by
 obtain ⟨h1,h2,h3⟩:=h
 have hl:=xd (s:=s) h0
 refine ⟨a3n,by simp only [List.length_append,List.length_singleton];omega,fun z=>?_⟩
 rw [List.mem_append,List.mem_singleton,h3]
 constructor
 · rintro (⟨k1,k2⟩ | rfl)
   · exact ⟨k1,by dsimp only;omega⟩
   · exact ⟨a3n,Nat.le_refl _⟩
 · rintro ⟨k1,k2⟩
   dsimp only at k2
   by_cases hz:y.2.toNat ≤ z.toNat
   · exact .inl ⟨k1,hz⟩
   · have:=ab2 h1 k1 (by omega)
     exact .inr (BitVec.eq_of_toNat_eq (by omega))
theorem akc {s:AS} {y:List AS × AS} (h:a4r s y) (h0:y.2 = 0):ord y.1 = ou s:=ab8 (f7 _) fun z=>by
 rw [t7,h.2.2,h0]
 exact ⟨fun h=>h.1,fun h=>⟨h,Nat.zero_le _⟩⟩
def nxt (x s:Nat):Nat:=if x = s then s + 1 else ((2 ^ 64 + x - s) &&& s)
def UpI (s:AS) (k:Nat) (y:List AS × Nat):Prop :=
 (y.2 = s.toNat + 1 ∨ y.2 &&& s.toNat = y.2) ∧ y.1.length ≤ k * 4294967296 + y.2 ∧ ir y.1 ∧ ∀ z,z ∈ y.1 ↔ sub z s ∧ (bsz z < k ∨ bsz z = k ∧ z.toNat < y.2)
theorem p8 {x s:Nat} (hs:s < 2 ^ 32) (hx:x &&& s = x):x < nxt x s ∧ (nxt x s = s + 1 ∨ nxt x s &&& s = nxt x s) ∧ ∀ z,z &&& s = z → x < z → nxt x s ≤ z:=by
 have hle:x ≤ s:=by rw [← hx];exact Nat.and_le_right
 have hs':s < 2 ^ 64:=Nat.lt_trans hs (by decide)
 unfold nxt
 by_cases he:x = s
 · rw [if_pos he]
   refine ⟨by omega, .inl rfl,fun z hz hlt=>?_⟩
   have:z ≤ s:=by rw [← hz];exact Nat.and_le_right
   omega
 · rw [if_neg he]
   refine ⟨(ab5 hx hs' (Nat.and_self s) (by omega)).2, .inr (by rw [Nat.and_assoc,Nat.and_self]),fun z hz hlt=>(ab5 hx hs' hz hlt).1⟩
theorem yd {s:AS} {k:Nat} {y:List AS × Nat} (h:UpI s k y) (hy:y.2 ≤ s.toNat):y.2 &&& s.toNat = y.2:=by
 rcases h.1 with h | h
 · omega
 · exact h
theorem ami {s:AS} {k:Nat} {y:List AS × Nat} (h:UpI s k y):y.2 ≤ s.toNat + 1:=by
 rcases h.1 with h | h
 · omega
 · have:y.2 ≤ s.toNat:=by rw [← h];exact Nat.and_le_right
   omega
theorem ag3 {s:AS} {k:Nat} {y:List AS × Nat} (h:UpI s k y) (hy:y.2 ≤ s.toNat):(BitVec.ofNat 32 y.2).toNat = y.2:=by
 have:=s.isLt
 rw [BitVec.toNat_ofNat,Nat.mod_eq_of_lt (by omega)]
theorem aqv {s:AS} {k:Nat} {y:List AS × Nat} (h:UpI s k y) (hy:y.2 ≤ s.toNat) (hk:bsz (BitVec.ofNat 32 y.2) = k):UpI s k (y.1 ++ [BitVec.ofNat 32 y.2],nxt y.2 s.toNat):=by
 have hn:=ag3 h hy
 obtain ⟨s1,s2,s3⟩:=p8 s.isLt (yd h hy)
 have hsub:sub (BitVec.ofNat 32 y.2) s:=zo.2 (by rw [hn];exact yd h hy)
 obtain ⟨h1,h2,h3,h4⟩:=h
 refine ⟨s2,by simp only [List.length_append,List.length_singleton];omega, ?_,fun z=>?_⟩
 · refine List.pairwise_append.2 ⟨h3,List.pairwise_singleton _ _,fun a ha b hb=>?_⟩
   rw [List.mem_singleton] at hb
   subst hb
   rw [gk]
   have:=((h4 a).1 ha).2
   omega
 · rw [List.mem_append,List.mem_singleton,h4]
   dsimp only
   constructor
   · rintro (⟨k1,k2⟩ | rfl)
     · exact ⟨k1,by omega⟩
     · exact ⟨hsub, .inr ⟨hk,by omega⟩⟩
   · rintro ⟨k1,k2 | ⟨k2,k3⟩⟩
     · exact .inl ⟨k1, .inl k2⟩
     · by_cases hz:z.toNat < y.2
       · exact .inl ⟨k1, .inr ⟨k2,hz⟩⟩
       · by_cases hz2:y.2 < z.toNat
         · have:=s3 z.toNat (zo.1 k1) hz2
           omega
         · exact .inr (BitVec.eq_of_toNat_eq (by omega))
theorem asd {s:AS} {k:Nat} {y:List AS × Nat} (h:UpI s k y) (hy:y.2 ≤ s.toNat) (hk:bsz (BitVec.ofNat 32 y.2) ≠ k):UpI s k (y.1,nxt y.2 s.toNat):=by
 have hn:=ag3 h hy
 obtain ⟨s1,s2,s3⟩:=p8 s.isLt (yd h hy)
 obtain ⟨h1,h2,h3,h4⟩:=h
 refine ⟨s2,by dsimp only;omega,h3,fun z=>?_⟩
 rw [h4]
 dsimp only
 constructor
 · rintro ⟨k1,k2⟩
   exact ⟨k1,by omega⟩
 · rintro ⟨k1,k2 | ⟨k2,k3⟩⟩
   · exact ⟨k1, .inl k2⟩
   · by_cases hz:z.toNat < y.2
     · exact ⟨k1, .inr ⟨k2,hz⟩⟩
     · by_cases hz2:y.2 < z.toNat
       · have:=s3 z.toNat (zo.1 k1) hz2
         omega
       · have e:z = BitVec.ofNat 32 y.2:=BitVec.eq_of_toNat_eq (by omega)
         exact absurd (e ▸ k2) hk
def UpK (s:AS) (k:Nat) (l:List AS):Prop:=l.length ≤ k * 4294967296 ∧ ir l ∧ ∀ z,z ∈ l ↔ sub z s ∧ bsz z < k
theorem akb (s:AS):UpK s 0 []:=by
 refine ⟨?_,List.Pairwise.nil,fun z=>?_⟩
 · show 0 ≤ _
   exact Nat.zero_le _
 · constructor
   · intro h;cases h
   · rintro ⟨_,h⟩;omega
theorem arl {s:AS} {k:Nat} {l:List AS} (h:UpK s k l):UpI s k (l,0):=by
 obtain ⟨h1,h2,h3⟩:=h
 unfold UpI
 dsimp only
 refine ⟨.inr (Nat.zero_and _),Nat.le_trans h1 (Nat.le_add_right _ _),h2,fun z=>?_⟩
 rw [h3]
 constructor
 · rintro ⟨a,b⟩
   exact ⟨a, .inl b⟩
 · rintro ⟨a,b | ⟨_,b⟩⟩
   · exact ⟨a,b⟩
   · exact absurd b (Nat.not_lt_zero _)
theorem apf {s:AS} {k:Nat} {y:List AS × Nat} (h:UpI s k y) (hy:¬ y.2 ≤ s.toNat):UpK s (k + 1) y.1:=by
 have h0:=ami h
 have:=s.isLt
 obtain ⟨h1,h2,h3,h4⟩:=h
 refine ⟨by rw [Nat.add_mul];omega,h3,fun z=>?_⟩
 rw [h4]
 constructor
 · rintro ⟨k1,k2⟩
   exact ⟨k1,by omega⟩
 · rintro ⟨k1,k2⟩
   have:=aez k1
   exact ⟨k1,by omega⟩
theorem aoz {s:AS} {k:Nat} {l:List AS} (h:UpK s k l) (hk:bsz s < k):l = ou s:=ab8 h.2.1 fun z=>by
 rw [h.2.2]
 exact ⟨fun h=>h.1,fun h=>⟨h,by have:=a6j h;omega⟩⟩
abbrev pU (n:Nat):PC:=.one (.raw (.int .u64 (n:Int)))
abbrev vU (n:Nat):HR:=c5 (.raw (.int .u64 (n:Int)))
theorem abs (n:Int):IntKind.wrap .u64 n = n % 18446744073709551616:=by
 simp [IntKind.wrap,IntKind.signed,IntKind.bits]
theorem asg {x s:Nat} (hs:s < 4294967296) (hx:x ≤ s) (h:¬ (x:Int) = s) {a:Int} (ha:a = IntKind.wrap .u64 ((x:Int) - s) ∨ a = (x:Int) - s):fc .and .u64 a s = (nxt x s:Nat):=by
 unfold nxt
 rw [if_neg (by omega)]
 show IntKind.wrap .u64 ((BitVec.ofInt 64 a &&& BitVec.ofInt 64 s).toNat:Int) = _
 have e1:(BitVec.ofInt 64 a).toNat = 2 ^ 64 + x - s:=by
  rw [BitVec.toNat_ofInt]
  rcases ha with rfl | rfl
  · rw [abs]
    omega
  · omega
 have e2:(BitVec.ofInt 64 (s:Int)).toNat = s:=by
  rw [BitVec.toNat_ofInt]
  omega
 have h2:((2 ^ 64 + x - s) &&& s) ≤ s:=Nat.and_le_right
 rw [BitVec.toNat_and,e1,e2,abs]
 omega
theorem arp {x s:Nat} (hs:s < 4294967296) (h:(x:Int) = s):(s:Int) + 1 = (nxt x s:Nat):=by
 unfold nxt
 rw [if_pos (by omega)]
 omega
theorem a9b {x s:AS} (h:x ≠ 0):fc .and .u32 (asI x - 1) (asI s) = asI ((x - 1) &&& s):=by rw [agz h,a0k]
theorem akm {α:Type} [Inhabited α] {wr wr':Bool} {e:TypeId} {c:α → Nat → PV} {x:α} {f:Nat → Nat → PV} (h:CoP (f 0 0) (c x 0)) (hw:wr' = true → wr = true:=by exact fun h=>h):CoO (.arr wr 1 e 1 f) (.arr wr' 1 e [x].length (lf c [x])) :=
 ⟨hw,rfl,rfl,rfl,fun i j hi hj=>by
  have hi:i < 1:=hi
  have hj:j < 1:=hj
  obtain rfl:j = 0:=by omega
  obtain rfl:i = 0:=by omega
  exact h⟩
theorem wl {n:Nat} (h:n < 4294967296):(n:Int) = asI (BitVec.ofNat 32 n):=by
 unfold asI
 rw [BitVec.toNat_ofNat]
 omega
end Go.Hx
end
section
namespace Go.Hx
open Go.Proofs
set_option maxRecDepth 100000
theorem aee:aj Tryz.prog 155:=⟨Tryz.f155,Tryz.func155,by kernel_rfl,by kernel_rfl⟩
theorem am7 (x s:Nat) (hs:s < 4294967296) (hx:x ≤ s):ap Tryz.prog 155 [pU x,pU s] (b4 [pU (nxt x s)]):=by
 refine ah (nt:=15) ae Tryz.func155 rfl rfl l9 ?_;refine sx7 ?_;refine qy ?_;refine a6 ?_;refine a7 ?_;refine sx7 ?_;(iterate 3 refine qy ?_);refine a6 ?_
 refine a8 _ rfl (fun r0=>?_) (fun r0=>?_)
 ·
  have h0:=of_decide_eq_true r0
  try simp only [ty] at h0
  refine sx7 ?_;(iterate 3 refine qy ?_);refine a6 ?_
  exact hx8 rfl rfl rfl (⟨cci (arp hs h0),trivial⟩)
 ·
  have h0:=of_decide_eq_false r0
  try simp only [ty] at h0
  refine aa ?_;refine sx7 ?_;(iterate 2 refine qy ?_);refine rqw rfl rfl rfl rfl rfl ?_;(iterate 3 refine qy ?_);refine a6 ?_
  exact hx8 rfl rfl rfl (⟨cci (asg hs hx h0 (by first | exact .inl rfl | exact .inr rfl)),trivial⟩)
theorem aat:aj Tryz.prog 58:=⟨Tryz.f58,Tryz.func58,by kernel_rfl,by kernel_rfl⟩
theorem aes (s:AS):ap Tryz.prog 58 [pA s] (b4 [pP (asl (ck s))]):=by
 refine ah (nt:=23) ae Tryz.func58 rfl rfl l9 ?_;refine sx7 ?_;refine qy ?_;refine a6 ?_;refine a7 ?_;refine sx7 ?_;refine qy ?_;refine rc rfl rfl rfl rfl rfl rfl a07 (a4j s) (CoL.refl _) rfl rfl ?_
 refine qy ?_;refine a6 ?_;refine a8 _ rfl (fun r0=>?_) (fun r0=>?_)
 ·
  have h0:=of_decide_eq_true r0
  try simp only [ty] at h0
  refine sx7 ?_;refine qy ?_;refine a6 ?_
  exact hx8 rfl rfl rfl (⟨CoC.one (ase (ae2 h0)),trivial⟩)
 ·
  have h0:=of_decide_eq_false r0
  try simp only [ty] at h0
  refine aa ?_;refine sx7 ?_;refine qy ?_;refine m9 0 ?_;refine qy ?_;refine a6 ?_;refine a7 ?_;refine sx7 ?_;(iterate 2 refine qy ?_);refine a6 ?_;refine af ?_
  refine av (ι:=List AS × AS) ⟨[(0,some _)],[]⟩ ⟨⟨c9,trivial⟩,trivial⟩ (fun y=>⟨[(3,some (.v (.one (.ref 0 y.1.length)))),(4,some (vA y.2))],[(0,some (.arr true 1 69 y.1.length (lf sC y.1)))]⟩) (fun y=>a4r s y) (fun y=>y.2.toNat) (([s],s)) (aif s) ⟨⟨zy,zy,trivial⟩,⟨⟨_,rfl,(akm (CoP.refl _))⟩,trivial⟩⟩ ?_
  rintro y hy
  have hlen:=hy.2.1
  have hsl:=s.isLt
  refine a7 ?_;refine sx7 ?_;(iterate 2 refine qy ?_);refine a6 ?_;refine a8 _ rfl (fun r1=>?_) (fun r1=>?_)
  ·
   have h1:=r1
   have h1:=of_decide_eq_false (be h1)
   try simp only [ty] at h1
   have hne:y.2 ≠ 0:=fun e=>h1 (by rw [e];rfl)
   refine aa ?_;refine af ?_;refine sx7 ?_;refine qy ?_;refine rq rfl rfl rfl rfl rfl ?_ (hp:=(akn hne));(iterate 3 refine qy ?_);refine a6 ?_;refine gy ?_;(iterate 2 refine qy ?_);refine m9 1 ?_
   refine ra 2 true rfl rfl rfl rfl rfl rfl ?_;refine qy ?_;refine a6 ?_;refine ⟨(y.1 ++ [(y.2 - 1) &&& s],(y.2 - 1) &&& s), ?_, ?_, ?_⟩
   · exact aiq hy hne
   · exact xd hne
   · exact ⟨⟨⟨_,rfl,(df rfl)⟩,⟨_,rfl,(i6 (a9b hne))⟩,c9,trivial⟩,⟨⟨_,rfl,(dx rfl (CoP.of_eq (by rw [a9b hne];rfl)))⟩,trivial⟩⟩
  ·
   have h1:=r1
   have h1:=of_decide_eq_true (bf h1)
   try simp only [ty] at h1
   have hz:y.2 = 0:=im.1 h1
   refine au ?_;refine a7 ?_;refine dn 3 rfl rfl rfl ?_;refine gy ?_;refine qy ?_;refine rc rfl rfl rfl rfl rfl rfl ap2 (aqp y.1 (by omega)) (CoL.refl _) rfl rfl ?_;refine qy ?_;refine a6 ?_
   exact hx8 rfl rfl rfl (⟨CoC.one (CoP.of_eq (by rw [a1d h0,akc hy hz])),trivial⟩)
theorem ao1:aj Tryz.prog 128:=⟨Tryz.f128,Tryz.func128,by kernel_rfl,by kernel_rfl⟩
theorem asq (s:AS):ap Tryz.prog 128 [pA s] (b4 [pP (asl (ck s))]):=by
 refine ah (nt:=34) ae Tryz.func128 rfl rfl l9 ?_;refine sx7 ?_;refine qy ?_;refine a6 ?_;refine a7 ?_;refine sx7 ?_;refine qy ?_
 refine rc rfl rfl rfl rfl rfl rfl pa (ui _) (⟨cci (by first | rfl | exact wl (by omega)),trivial⟩) rfl rfl ?_;refine qy ?_;refine a6 ?_;refine a8 _ rfl (fun r0=>?_) (fun r0=>?_)
 ·
  have h0:=of_decide_eq_true r0
  try simp only [ty] at h0
  refine sx7 ?_;refine qy ?_;refine a6 ?_
  exact hx8 rfl rfl rfl (⟨CoC.one (ase (ae2 h0)),trivial⟩)
 ·
  have h0:=of_decide_eq_false r0
  try simp only [ty] at h0
  refine aa ?_;refine sx7 ?_;refine qy ?_;refine a6 ?_;refine a7 ?_;refine sx7 ?_;refine qy ?_;refine a6 ?_;refine af ?_
  refine dw 3 900 true 1 69 (lf sC []) (by decide) rfl (CoP.sl rfl (.inr rfl) (fun h=>h) (fun i j hi _=>absurd hi (Nat.not_lt_zero i))) (.inr rfl) rfl ?_
  refine av (ι:=List AS × Nat) ⟨[(0,some _)],[]⟩ ⟨⟨c9,trivial⟩,trivial⟩ (fun x=>⟨[(3,some (.v (.one (.ref 900 x.1.length)))),(4,some (vI x.2))],[(900,some (.arr true 1 69 x.1.length (lf sC x.1)))]⟩) (fun x=>UpK s x.2 x.1 ∧ x.2 ≤ bsz s + 1) (fun x=>bsz s + 1 - x.2) (([],0)) (⟨akb s,Nat.zero_le _⟩) ⟨⟨zy,zy,trivial⟩,⟨u9,trivial⟩⟩ ?_
  rintro x ⟨hx,hxb⟩
  have hlen:=hx.1
  have hsl:=s.isLt
  have hbz:=arm s
  refine a7 ?_;refine sx7 ?_;(iterate 2 refine qy ?_);refine rc rfl rfl rfl rfl rfl rfl pa (ui _) (⟨cci (by first | rfl | exact wl (by omega)),trivial⟩) rfl rfl ?_;refine qy ?_;refine a6 ?_
  refine a8 _ rfl (fun r1=>?_) (fun r1=>?_)
  ·
   have h1:=of_decide_eq_true r1
   try simp only [ty] at h1
   refine aa ?_;refine a7 ?_;refine af ?_;refine sx7 ?_;refine qy ?_;refine a6 ?_;refine af ?_
   refine av (ι:=List AS × Nat) ⟨[(0,some _),(4,some _)],[]⟩ ⟨⟨c9,c9,trivial⟩,trivial⟩ (fun y=>⟨[(3,some (.v (.one (.ref 900 y.1.length)))),(5,some (vU y.2))],[(900,some (.arr true 1 69 y.1.length (lf sC y.1)))]⟩) (fun y=>UpI s x.2 y) (fun y=>s.toNat + 1 - y.2) ((x.1,0)) (arl hx) ⟨⟨zy,zy,trivial⟩,⟨u9,trivial⟩⟩ ?_
   rintro y hy
   have hlen2:=hy.2.1
   have hyl:=ami hy
   have hsa:asI s = (s.toNat:Int):=rfl
   refine a7 ?_;refine sx7 ?_;(iterate 2 refine qy ?_);refine rq rfl rfl rfl rfl rfl ?_ (hp:=(by simp only [fv,inR,jq,lg];omega));refine qy ?_;refine a6 ?_
   refine a8 _ rfl (fun r2=>?_) (fun r2=>?_)
   ·
    have h2:=of_decide_eq_true r2
    try simp only [ty] at h2
    refine aa ?_;refine a7 ?_;refine af ?_;refine sx7 ?_;refine qy ?_;refine rq rfl rfl rfl rfl rfl ?_ (hp:=(by simp only [fv,inR,jq,lg];omega))
    refine rc rfl rfl rfl rfl rfl rfl pa (ui _) (⟨cci (by first | rfl | exact wl (by omega)),trivial⟩) rfl rfl ?_;(iterate 2 refine qy ?_);refine a6 ?_;refine a8 _ rfl (fun r3=>?_) (fun r3=>?_)
    ·
     have h3:=of_decide_eq_true r3
     try simp only [ty] at h3
     refine gy ?_;(iterate 2 refine qy ?_);refine rq rfl rfl rfl rfl rfl ?_ (hp:=(by simp only [fv,inR,jq,lg];omega));refine m9 0 ?_;refine ra 1 true rfl rfl rfl rfl rfl rfl ?_;refine qy ?_;refine a6 ?_
     refine gy ?_;(iterate 2 refine qy ?_);refine rq rfl rfl rfl rfl rfl ?_ (hp:=(by simp only [fv,inR,jq,lg];omega))
     refine rc rfl rfl rfl rfl rfl rfl aee (am7 y.2 s.toNat s.isLt (by omega)) (⟨CoC.refl _,cci rfl,trivial⟩) rfl rfl ?_;refine qy ?_;refine a6 ?_
     first | (refine ⟨(y.1 ++ [BitVec.ofNat 32 y.2], nxt y.2 s.toNat), ?_, ?_, ?_⟩
              · exact aqv hy (by omega) (by omega)
              · have:=(p8 s.isLt (yd hy (by omega))).1
                dsimp only
                omega
              · exact ⟨⟨⟨_,rfl,(df rfl)⟩,zy,c9,c9,trivial⟩,⟨⟨_,rfl,(dx rfl (CoP.of_eq (congrArg (fun z=>PV.raw (.int .u32 z)) (wl (by omega)))))⟩,trivial⟩⟩)
           | (refine ⟨(y.1,nxt y.2 s.toNat), ?_, ?_, ?_⟩
              · exact asd hy (by omega) (by omega)
              · have:=(p8 s.isLt (yd hy (by omega))).1
                dsimp only
                omega
              · exact ⟨⟨zy,zy,c9,c9,trivial⟩,⟨u9,trivial⟩⟩)
    ·
     have h3:=of_decide_eq_false r3
     try simp only [ty] at h3
     refine aa ?_;refine gy ?_;(iterate 2 refine qy ?_);refine rq rfl rfl rfl rfl rfl ?_ (hp:=(by simp only [fv,inR,jq,lg];omega))
     refine rc rfl rfl rfl rfl rfl rfl aee (am7 y.2 s.toNat s.isLt (by omega)) (⟨CoC.refl _,cci rfl,trivial⟩) rfl rfl ?_;refine qy ?_;refine a6 ?_
     first | (refine ⟨(y.1 ++ [BitVec.ofNat 32 y.2], nxt y.2 s.toNat), ?_, ?_, ?_⟩
              · exact aqv hy (by omega) (by omega)
              · have:=(p8 s.isLt (yd hy (by omega))).1
                dsimp only
                omega
              · exact ⟨⟨⟨_,rfl,(df rfl)⟩,zy,c9,c9,trivial⟩,⟨⟨_,rfl,(dx rfl (CoP.of_eq (congrArg (fun z=>PV.raw (.int .u32 z)) (wl (by omega)))))⟩,trivial⟩⟩)
           | (refine ⟨(y.1,nxt y.2 s.toNat), ?_, ?_, ?_⟩
              · exact asd hy (by omega) (by omega)
              · have:=(p8 s.isLt (yd hy (by omega))).1
                dsimp only
                omega
              · exact ⟨⟨zy,zy,c9,c9,trivial⟩,⟨u9,trivial⟩⟩)
   ·
    have h2:=of_decide_eq_false r2
    try simp only [ty] at h2
    refine au ?_;refine gy ?_;(iterate 3 refine qy ?_);refine a6 ?_;refine ⟨(y.1,x.2 + 1), ?_, ?_, ?_⟩
    · show UpK s (x.2 + 1) y.1 ∧ x.2 + 1 ≤ _
      exact ⟨apf (y:=y) hy (by omega),by omega⟩
    · dsimp only
      omega
    · exact ⟨⟨zy,zy,c9,trivial⟩,⟨u9,trivial⟩⟩
  ·
   have h1:=of_decide_eq_false r1
   try simp only [ty] at h1
   refine au ?_;refine sx7 ?_;(iterate 2 refine qy ?_);refine a6 ?_;refine dn 2 rfl rfl rfl ?_
   exact hx8 rfl rfl rfl (⟨CoC.one (CoP.of_eq (by rw [a1d h0,aoz hx (by omega)];rfl)),trivial⟩)
end Go.Hx
end
section
namespace Go.Hx
def avk (l:List Fd) (p x:AS):Bool:=decide (clo l x &&& p ≠ x) && decide (clo l x &&& p ≠ p)
def amu (l:List Fd) (p:AS):Option AS:=(ck p).find? (avk l p)
def avj (l:List Fd) (p x:AS):Fd:=⟨x,(clo l x &&& p) &&& ~~~x⟩
def awl (l:List Fd) (p:AS):Fd:=match amu l p with
 | some x=>avj l p x
 | none=>⟨0,0⟩
def awn (l:List Fd) (p:AS):Bool:=(amu l p).isSome
theorem a8c {s:AS}:∀ (n:Nat) (x:AS),(yq s n x).length ≤ x.toNat + 1
 | 0,x=>Nat.zero_le _
 | n + 1,x=>by
  unfold yq
  by_cases h0:x = 0
  · rw [if_pos h0];simp
  · rw [if_neg h0,List.length_cons]
    have h1:=a8c (s:=s) n ((x - 1) &&& s)
    have h2:=xd (s:=s) h0
    omega
theorem ny (s:AS):(ck s).length ≤ 4294967296:=by
 unfold ck ou
 have h1:=a8c (s:=s) (s.toNat + 1) s
 have h2:=t6 (yq s (s.toNat + 1) s)
 have h3:=s.isLt
 split
 · simp
 · omega
end Go.Hx
end
