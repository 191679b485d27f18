/- A part of the proof: Jw2 Jn3 Jn5 Rb21 Jo2 Jr1 Jp1 RbJ21 Rbz Jp2 Jb1 Jp3 Fr1 Hx28. -/
import Derived.Laws.IdiomRangeMap
import Derived.Shelf.SlLaysF0
import Derived.Shelf.SlSortCmp.NoneTotal
import Derived.Test.YtodligmokcbbkaaGreatDoorProg
import Derived.Test.YtodligmokcbbkaaGreatDoorRx15
import Derived.Test.YtodligmokcbbkaaGreatDoorRx17
import Derived.Test.YtodligmokcbbkaaGreatDoorRx19
import Derived.Test.YtodligmokcbbkaaGreatDoorRx21
import Derived.Test.YtodligmokcbbkaaGreatDoorRx22
import Derived.Test.YtodligmokcbbkaaGreatDoorRx23
import Derived.Test.YtodligmokcbbkaaGreatDoorRx26
import Derived.Test.YtodligmokcbbkaaGreatDoorRx27
import Derived.Test.YtodligmokcbbkaaGreatDoorRx29
import Derived.Test.YtodligmokcbbkaaGreatDoorRx30
set_option linter.all false
section
namespace Go.Hx
open Go.Proofs
set_option maxRecDepth 100000
theorem ao8 {α:Type} [Inhabited α] {cl:Bool} {c:α → Nat → PV} {x y z:α} {f:Nat → Nat → PV} (h0:CoP (f 0 0) (c x 0)) (h1:CoP (f 1 0) (c y 0)) (h2:CoP (f 2 0) (c z 0)):CoP (.sl 3 1 cl f) (psl 1 c [x,y,z]) :=
 CoP.sl rfl (.inl rfl) (fun h=>by cases h) fun i j hi hj=>by
  obtain rfl:j = 0:=by omega
  match i,hi with
  | 0,_=>exact h0
  | 1,_=>exact h1
  | 2,_=>exact h2
theorem amz (a b:Val):orF [fm a.kind b.kind,fm a.num b.num,jh a.str b.str] = io a b:=by
 have e:∀ x y:Int,sgn x y = fm x y:=fun _ _=>rfl
 unfold io orF
 rw [e,e]
 by_cases h1:fm a.kind b.kind = 0
 · by_cases h2:fm a.num b.num = 0
   · by_cases h3:jh a.str b.str = 0
     · simp [h1,h2,h3]
     · simp [h1,h2,h3]
   · simp [h1,h2]
 · simp [h1]
theorem aft:ak Tryz.prog 81:=⟨Tryz.f81,Tryz.func81,by kernel_rfl,by kernel_rfl⟩
theorem agb (a:Int):aj Tryz.prog 81 [pI a] (ao [pB false]):=by
 refine ai (nt:=6) ae Tryz.func81 rfl rfl l9 ?_;refine sx7 ?_;refine qy ?_;refine a6 ?_;refine sx7 ?_;(iterate 4 refine qy ?_);refine a6 ?_
 exact hx8 rfl rfl rfl (⟨ccb (by simp),trivial⟩)
theorem ary:ak Tryz.prog 58:=⟨Tryz.f58,Tryz.func58,by kernel_rfl,by kernel_rfl⟩
theorem asn (a b:Int):aj Tryz.prog 58 [pI a,pI b] (ao [pI (fm a b)]):=by
 refine ai (nt:=20) ae Tryz.func58 rfl rfl l9 ?_;refine sx7 ?_;refine qy ?_;refine a6 ?_;refine sx7 ?_;refine qy ?_;refine rc rfl rfl rfl rfl rfl rfl aft (agb _) (CoL.refl _) rfl rfl ?_;refine qy ?_
 refine a6 ?_;refine sx7 ?_;refine qy ?_;refine rc rfl rfl rfl rfl rfl rfl aft (agb _) (CoL.refl _) rfl rfl ?_;refine qy ?_;refine a6 ?_;refine a7 ?_;refine sx7 ?_;refine qy ?_;refine a6 ?_
 refine a8 _ rfl (fun e=>by cases e) (fun _=>?_);refine aa ?_;refine a7 ?_;refine sx7 ?_;refine qy ?_;refine a6 ?_;refine a8 _ rfl (fun e=>by cases e) (fun _=>?_);refine aa ?_
 refine a7 ?_;refine sx7 ?_;(iterate 3 refine qy ?_);refine a6 ?_;refine a8 _ rfl (fun r0=>?_) (fun r0=>?_)
 ·
  have h0:=of_decide_eq_true r0
  try simp only [ty] at h0
  refine sx7 ?_;refine qy ?_;refine a6 ?_
  exact hx8 rfl rfl rfl (⟨cci (by unfold fm;first | (rw [if_pos (by omega)]) | (rw [if_neg (by omega),if_pos (by omega)]) | (rw [if_neg (by omega),if_neg (by omega)])),trivial⟩)
 ·
  have h0:=of_decide_eq_false r0
  try simp only [ty] at h0
  refine aa ?_;refine a7 ?_;refine sx7 ?_;(iterate 3 refine qy ?_);refine a6 ?_;refine a8 _ rfl (fun r1=>?_) (fun r1=>?_)
  ·
   have h1:=of_decide_eq_true r1
   try simp only [ty] at h1
   refine sx7 ?_;refine qy ?_;refine a6 ?_
   exact hx8 rfl rfl rfl (⟨cci (by unfold fm;first | (rw [if_pos (by omega)]) | (rw [if_neg (by omega),if_pos (by omega)]) | (rw [if_neg (by omega),if_neg (by omega)])),trivial⟩)
  ·
   have h1:=of_decide_eq_false r1
   try simp only [ty] at h1
   refine aa ?_;refine sx7 ?_;refine qy ?_;refine a6 ?_
   exact hx8 rfl rfl rfl (⟨cci (by unfold fm;first | (rw [if_pos (by omega)]) | (rw [if_neg (by omega),if_pos (by omega)]) | (rw [if_neg (by omega),if_neg (by omega)])),trivial⟩)
theorem aqt:ak Tryz.prog 59:=⟨Tryz.f59,Tryz.func59,by kernel_rfl,by kernel_rfl⟩
theorem ao4 (a b:ByteArray):aj Tryz.prog 59 [pS a,pS b] (ao [pI (jh a b)]):=by
 refine ai (nt:=8) ae Tryz.func59 rfl rfl l9 ?_;refine sx7 ?_;refine qy ?_;refine a6 ?_;refine sx7 ?_;(iterate 2 refine qy ?_);refine rc rfl rfl rfl rfl rfl rfl as0 (amq _ _) (CoL.refl _) rfl rfl ?_
 refine qy ?_;refine a6 ?_
 exact hx8 rfl rfl rfl (CoL.refl _)
theorem ar3:ak Tryz.prog 33:=⟨Tryz.f33,Tryz.func33,by kernel_rfl,by kernel_rfl⟩
theorem ano (a b:Val):aj Tryz.prog 33 [a.pc,b.pc] (ao [pI (io a b)]):=by
 refine ai (nt:=22) ae Tryz.func33 rfl rfl l9 ?_;refine sx7 ?_;refine m9 0 ?_;refine m9 1 ?_;refine qy ?_;refine a6 ?_;refine a7 ?_
 refine dp (E:=ci) ae ct [0,1,2,3,4,5,6,7,8,9,10,11,12,13,14,15,16,17] ?_;(iterate 4 refine qy ?_);refine rc rfl rfl rfl rfl rfl rfl aie (am9 _ _) (CoL.refl _) rfl rfl ?_
 (iterate 4 refine qy ?_);refine rc rfl rfl rfl rfl rfl rfl ary (asn _ _) (CoL.refl _) rfl rfl ?_;(iterate 4 refine qy ?_);refine rc rfl rfl rfl rfl rfl rfl aqt (ao4 _ _) (CoL.refl _) rfl rfl ?_;refine m9 2 ?_
 refine rc rfl rfl rfl rfl rfl rfl afn (cOr [fm a.kind b.kind,fm a.num b.num,jh a.str b.str]) (⟨CoC.one (ao8 (CoP.refl _) (CoP.refl _) (CoP.refl _)),trivial⟩) rfl rfl ?_;refine qy ?_;refine a6 ?_
 refine ⟨by kernel_rfl, ?_⟩
 exact hx8 rfl rfl rfl (⟨cci (amz a b),trivial⟩)
abbrev aye (v:Val):List Value:=[.int .i64 v.kind, .int .i64 v.num, .string v.str]
end Go.Hx
end
section
namespace Go.Hx
abbrev atk:PV:=.sl 0 3 true (lf Val.c [])
def ayy (R:List Row) (a:Nat):Nat → Nat → PV:=fun i _=>if i < a then vals (aki R i) else atk
end Go.Hx
end
section
namespace Go.Hx
abbrev RSt:=Bool × Int × Int × Int
abbrev RSt.c (s:RSt):Nat → PV:=fun j=>[.raw (.bool s.1), .raw (.int .i64 s.2.1), .raw (.int .i64 s.2.2.1), .raw (.int .i64 s.2.2.2)].getD j .any
abbrev RSt.pc (s:RSt):PC:=.agg [.raw (.bool s.1), .raw (.int .i64 s.2.1), .raw (.int .i64 s.2.2.1), .raw (.int .i64 s.2.2.2)]
abbrev axw (l:List RSt):PV:=psl 4 RSt.c l
def St.r (s:St):RSt:=(s.1,(s.2.1:Int),(s.2.2.1:Int),(s.2.2.2:Int))
abbrev a5p (a:Int) (l:List Rw) (p m:List Fd) (s:RSt):Int × List Rw × Int:=asm a l p m s.1 s.2.1 s.2.2.1 s.2.2.2
def zf (n:Int) (p m:List Fd):Int → List Rw → List RSt → Bool
 | _,l,[]=>aep n l
 | a,l,s :: r=>if (a5p a l p m s).2.2 = 0 then zf n p m (a5p a l p m s).1 (a5p a l p m s).2.1 r else false
def axu (n:Int) (ps:List AS) (p m:List Fd) (sts:List RSt):Bool:=decide (lvE n ps = 0) && (decide (fp n p m = 0) && zf n p m n (db (jl n ps)) sts)
structure a2u (n:Int) (ps:List AS) (p m:List Fd) (sts:List RSt) (x:Nat × Int × List Rw × Int):Prop where
 le:x.1 ≤ sts.length
 ok:x.2.2.2 = 0 → zf n p m n (db (jl n ps)) sts = zf n p m x.2.1 x.2.2.1 (sts.drop x.1)
 no:¬ x.2.2.2 = 0 → zf n p m n (db (jl n ps)) sts = false
section
variable {n:Int} {ps:List AS} {p m:List Fd} {sts:List RSt}
theorem a2u.start:a2u n ps p m sts (0,n,db (jl n ps),0):=⟨Nat.zero_le _,fun _=>rfl,fun h=>absurd rfl h⟩
theorem a2u.step {x:Nat × Int × List Rw × Int} (h:a2u n ps p m sts x) (hi:x.1 < sts.length) (h0:x.2.2.2 = 0):a2u n ps p m sts (x.1 + 1,(a5p x.2.1 x.2.2.1 p m (sts.getD x.1 default)).1,(a5p x.2.1 x.2.2.1 p m (sts.getD x.1 default)).2.1,(a5p x.2.1 x.2.2.1 p m (sts.getD x.1 default)).2.2):=by
 have e:sts.drop x.1 = sts.getD x.1 default :: sts.drop (x.1 + 1):=by
  rw [List.drop_eq_getElem_cons hi,List.getD_eq_getElem?_getD,List.getElem?_eq_getElem hi];rfl
 have h1:=h.ok h0
 rw [e,zf] at h1
 refine ⟨hi,fun h2=>?_,fun h2=>?_⟩
 · rw [h1,if_pos h2]
 · rw [h1,if_neg h2]
theorem a2u.fin {x:Nat × Int × List Rw × Int} (h:a2u n ps p m sts x) (hi:¬ x.1 < sts.length) (h0:x.2.2.2 = 0):zf n p m n (db (jl n ps)) sts = aep n x.2.2.1:=by
 rw [h.ok h0,List.drop_of_length_le (by omega),zf]
end
def av9 (r:Rw):List Val:=r.map fun z=>⟨1,z,emp⟩
def awk (l:List Rw):List Row:=(List.range l.length).map fun (i:Nat)=>⟨(i:Int) + 1,av9 (l.getD i default)⟩
def av0 (n:Int) (ps:List AS) (p m:List Fd):Int:=if lsC n ps p m ≠ 0 then lsC n ps p m else if aep n (lsT n ps p m).2.1.2 = true then 10 else 0
def ay8 (n:Int) (ps:List AS) (p m:List Fd):Tbl:=if av0 n ps p m = 0 then ⟨⟨#[116]⟩,a28.take n.toNat,awk (lsT n ps p m).2.1.2⟩ else T0
section
variable {n:Int} {ps:List AS} {p m:List Fd}
end
def ay3 (n:Int) (a b:AS) (l:List Fd):Bool:=decide (dy n l = 0) && (decide (a ||| b = am n) && (decide (sub a (clo l (a &&& b))) || decide (sub b (clo l (a &&& b)))))
end Go.Hx
end
section
namespace Go.Hx
open Go.Proofs Go.Proofs.YtodligmokcbbkaaGreatDoor
open Go.RowKit Go.ChangeShapes Go.WideShapes Go.ChangeAt
abbrev Rcp.c (d:Rcp):Nat → PV:=fun j=>[.raw (.int .u8 (d.n.toNat:Int)),dpl d.f,dpl d.m,psl 1 u8C d.p].getD j .any
abbrev C3:=BitVec 8 × BitVec 8 × BitVec 8
abbrev C3.c (x:C3):Nat → PV:=fun j=>[.raw (.int .u8 (x.1.toNat:Int)), .raw (.int .u8 (x.2.1.toNat:Int)), .raw (.int .u8 (x.2.2.toNat:Int))].getD j .any
end Go.Hx
end
section
namespace Go.Hx
section
variable {α:Type} [DecidableEq α] {c:α → α → Int}
def ash (c:α → α → Int) (x:α):List α → List α
 | []=>[x]
 | y :: l=>if c x y < 0 then x :: y :: l else if c x y = 0 then y :: l else y :: ash c x l
def ayl (c:α → α → Int) (l:List α):List α:=l.foldr (ash c) []
end
def awR:List Row:=[⟨1,[⟨1,0,emp⟩,⟨1,1,emp⟩,⟨1,5,emp⟩]⟩,⟨2,[⟨1,6,emp⟩,⟨1,1,emp⟩,⟨1,2,emp⟩]⟩]
def awT:Tbl:=⟨⟨#[116]⟩,a28.take 3,awR⟩
end Go.Hx
end
section
namespace Go.Hx
def atf (l:List Row) (v:List Val):Bool:=l.any fun r=>decide (r.vals = v)
def fy (s:AS):Nat → List Val → List Val
 | _,[]=>[]
 | a,v :: l=>if dl s (a:Int) = true then v :: fy s (a + 1) l else fy s (a + 1) l
def sel (l:List Val) (s:AS):List Val:=fy s 0 l
theorem zg {s:AS}:∀ {l:List Val} {a:Nat} {v:Val},fy s a (l ++ [v]) = if dl s ((a + l.length:Nat):Int) = true then fy s a l ++ [v] else fy s a l
 | [],a,v=>by
  simp only [List.nil_append,fy,List.length_nil,Nat.add_zero]
 | x :: l,a,v=>by
  have ih:fy s (a + 1) (l ++ [v]) = if dl s ((a + 1 + l.length:Nat):Int) = true then fy s (a + 1) l ++ [v] else fy s (a + 1) l:=zg
  simp only [List.cons_append,fy,List.length_cons]
  rw [ih,show a + 1 + l.length = a + (l.length + 1) by omega]
  split <;> split <;> simp
theorem a86 {l:List Val} {s:AS} {i:Nat} (hi:i < l.length) (h:dl s (i:Int) = true):sel (l.take (i + 1)) s = sel (l.take i) s ++ [l.getD i default]:=by
 unfold sel
 rw [bh hi,zg,List.length_take,Nat.min_eq_left (by omega),Nat.zero_add,if_pos h]
theorem a87 {l:List Val} {s:AS} {i:Nat} (hi:i < l.length) (h:dl s (i:Int) = false):sel (l.take (i + 1)) s = sel (l.take i) s:=by
 unfold sel
 rw [bh hi,zg,List.length_take,Nat.min_eq_left (by omega),Nat.zero_add,if_neg (by simp [h])]
theorem a2j {s:AS}:∀ {l:List Val} {a:Nat} {v:Val},v ∈ fy s a l → v ∈ l
 | x :: l,a,v,h=>by
  unfold fy at h
  split at h
  · rcases List.mem_cons.1 h with rfl | h
    · simp
    · exact List.mem_cons_of_mem _ (a2j h)
  · exact List.mem_cons_of_mem _ (a2j h)
theorem abb {s:AS}:∀ {l:List Val} {a:Nat},(fy s a l).length ≤ l.length
 | [],_=>Nat.le_refl _
 | x :: l,a=>by
  have:(fy s (a + 1) l).length ≤ l.length:=abb
  unfold fy
  split <;> simp only [List.length_cons] <;> omega
theorem aod {l:List Val} {s:AS}:(sel l s).length ≤ l.length:=abb
theorem a4i {l:List Val}:nu l ↔ ∀ v ∈ l,v.ok:=by
 constructor
 · intro h v hv
   obtain ⟨i,hi,e⟩:=List.getElem_of_mem hv
   have:=h i hi
   rw [eq _ _ hi,e] at this
   exact this
 · intro h i hi
   rw [eq _ _ hi]
   exact h _ (List.getElem_mem hi)
theorem aia {l:List Val} {s:AS} (h:nu l):nu (sel l s):=a4i.2 fun v hv=>a4i.1 h v (a2j hv)
def ic (a b:Row) (s:AS):Bool:=decide (sel a.vals s = sel b.vals s)
def awq (t:Tbl) (q:AS) (r:Row) (n:Int):Bool:=t.rows.any fun x=>ic x r (q &&& am n)
def aoq (a b:List Row):Bool:=a.all fun r=>atf b r.vals
def ax2 (a b:Tbl):Bool:=decide (a.attrs = b.attrs) && (aoq a.rows b.rows && aoq b.rows a.rows)
def atq (a b:Tbl) (r s:Row) (i:Nat):Bool:=decide (zx a.attrs (b.attrs.getD i default) < 0) || decide (io (r.vals.getD (zx a.attrs (b.attrs.getD i default)).toNat default) (s.vals.getD i default) = 0)
def avz (a b:Tbl) (r s:Row):Bool:=(List.range b.attrs.length).all (atq a b r s)
def ax4 (a b:Tbl):Bool:=b.rows.all fun s=>a.rows.any fun r=>avz a b r s
def avp (t:Tbl) (d:Fd) (i k:Nat):Bool:=!ic (t.rows.getD i default) (t.rows.getD k default) d.lhs || ic (t.rows.getD i default) (t.rows.getD k default) d.rhs
def fdB (t:Tbl) (d:Fd):Bool:=(List.range t.rows.length).all fun i=>(List.range i).all fun k=>avp t d i k
def a4a (t:Tbl) (a b:Row) (left:AS):Bool:=t.rows.any fun x=>ic x a left && ic x b (am t.attrs.length &&& ~~~left)
def s6 (t:Tbl) (d:Fd) (i k:Nat):Bool:=!ic (t.rows.getD i default) (t.rows.getD k default) d.lhs || a4a t (t.rows.getD i default) (t.rows.getD k default) (d.lhs ||| d.rhs)
def mvB (t:Tbl) (d:Fd):Bool:=(List.range t.rows.length).all fun i=>(List.range t.rows.length).all fun k=>s6 t d i k
end Go.Hx
end
section
namespace Go.Hx
theorem w64 (n:Int):IntKind.wrap .u64 n = n % 18446744073709551616:=by simp [IntKind.wrap,IntKind.bits,IntKind.signed]
theorem w8 (n:Int):IntKind.wrap .u8 n = n % 256:=by simp [IntKind.wrap,IntKind.bits,IntKind.signed]
def su (n:Int):Prop:=-9223372036854775808 ≤ n ∧ n ≤ 9223372036854775807
theorem afg (n:Int):uN n = ((BitVec.ofInt 64 (n % 18446744073709551616) ^^^ BitVec.ofInt 64 9223372036854775808).toNat:Int):=by
 unfold uN d8
 rw [w64,w64]
 show ((BitVec.ofInt 64 (n % 18446744073709551616) ^^^ BitVec.ofInt 64 9223372036854775808).toNat:Int) % 18446744073709551616 = _
 have:=(BitVec.ofInt 64 (n % 18446744073709551616) ^^^ BitVec.ofInt 64 9223372036854775808).isLt
 omega
theorem am3 (n:Int):0 ≤ uN n ∧ uN n < 18446744073709551616:=by
 rw [afg]
 have:=(BitVec.ofInt 64 (n % 18446744073709551616) ^^^ BitVec.ofInt 64 9223372036854775808).isLt
 omega
theorem asq {n m:Int} (hn:su n) (hm:su m) (h:uN n = uN m):n = m:=by
 rw [afg,afg] at h
 have h1:=BitVec.eq_of_toNat_eq (Int.ofNat.inj h)
 have h2:BitVec.ofInt 64 (n % 18446744073709551616) = BitVec.ofInt 64 (m % 18446744073709551616):=by
  have:=congrArg (· ^^^ BitVec.ofInt 64 9223372036854775808) h1
  simpa [BitVec.xor_assoc] using this
 have h3:=congrArg BitVec.toNat h2
 rw [BitVec.toNat_ofInt,BitVec.toNat_ofInt] at h3
 obtain ⟨a1,a2⟩:=hn
 obtain ⟨b1,b2⟩:=hm
 have e1:(n % 18446744073709551616) % ((2 ^ 64:Nat):Int) = n % 18446744073709551616:=by omega
 have e2:(m % 18446744073709551616) % ((2 ^ 64:Nat):Int) = m % 18446744073709551616:=by omega
 rw [e1,e2] at h3
 omega
theorem afm (u:Int) (s:Nat) (hs:s ≤ 64):byK u s = u / (2 ^ s) % 256:=by
 unfold byK
 rw [w8,Nat.min_eq_left hs]
 congr 1
 rw [Int.fdiv_eq_ediv_of_nonneg _ (Int.pow_nonneg (by decide))]
theorem a91 {n m:Int} (hn:su n) (hm:su m) (h:qc n = qc m):n = m:=by
 refine asq hn hm ?_
 have hu:=am3 n
 have hv:=am3 m
 unfold qc at h
 generalize uN n = u at *
 generalize uN m = v at *
 have hb:∀ i,i < 8 → u / 2 ^ (56 - 8 * i) % 256 = v / 2 ^ (56 - 8 * i) % 256:=fun i hi=>by
  have h1:=congrArg (fun l=>l.getD i 0) h
  simp only [List.getD,List.getElem?_map,List.getElem?_range hi,Option.map_some,Option.getD_some] at h1
  rw [afm _ _ (by omega),afm _ _ (by omega)] at h1
  exact h1
 have h0:=hb 0 (by omega)
 have h1:=hb 1 (by omega)
 have h2:=hb 2 (by omega)
 have h3:=hb 3 (by omega)
 have h4:=hb 4 (by omega)
 have h5:=hb 5 (by omega)
 have h6:=hb 6 (by omega)
 have h7:=hb 7 (by omega)
 simp only [Nat.mul_zero,Nat.sub_zero,Nat.mul_one,Nat.reduceMul,Nat.reduceSub,Int.reducePow,Int.pow_zero,Int.ediv_one] at h0 h1 h2 h3 h4 h5 h6 h7
 clear hb h hn hm
 have e0:u / 72057594037927936 = v / 72057594037927936:=by omega
 have e1:u / 281474976710656 = v / 281474976710656:=by omega
 have e2:u / 1099511627776 = v / 1099511627776:=by omega
 have e3:u / 4294967296 = v / 4294967296:=by omega
 have e4:u / 16777216 = v / 16777216:=by omega
 have e5:u / 65536 = v / 65536:=by omega
 have e6:u / 256 = v / 256:=by omega
 omega
def b8 (l:List Int):List UInt8:=l.map fun n=>UInt8.ofNat n.toNat
theorem a9z:∀ {a b:List UInt8} {X Y:List Int},kr a ++ (0 :: 1 :: X) = kr b ++ (0 :: 1 :: Y) → a = b ∧ X = Y
 | [],[],X,Y,h=>by
  simp [kr] at h
  exact ⟨rfl,h⟩
 | [],y :: b,X,Y,h=>by
  exfalso
  simp only [kr,List.flatMap_nil,List.flatMap_cons,List.nil_append] at h
  unfold ud at h
  split at h
  · simp at h
  · rename_i hy
    simp at h
    have:y.toNat = 0:=by omega
    exact hy (UInt8.toNat_inj.1 this)
 | x :: a,[],X,Y,h=>by
  exfalso
  simp only [kr,List.flatMap_nil,List.flatMap_cons,List.nil_append] at h
  unfold ud at h
  split at h
  · simp at h
  · rename_i hy
    simp at h
    have:x.toNat = 0:=by omega
    exact hy (UInt8.toNat_inj.1 this)
 | x :: a,y :: b,X,Y,h=>by
  have e1:∀ (z:UInt8) (l:List UInt8) (W:List Int),kr (z :: l) ++ W = ud z ++ (kr l ++ W):=fun z l W=>by simp [kr]
  rw [e1,e1] at h
  have key:x = y ∧ kr a ++ (0 :: 1 :: X) = kr b ++ (0 :: 1 :: Y):=by
   unfold ud at h
   split at h <;> split at h
   · rename_i h1 h2
     refine ⟨h1.trans h2.symm, ?_⟩
     simpa using h
   · rename_i h1 h2
     exfalso
     simp at h
     exact h2 (UInt8.toNat_inj.1 (by have:=h.1;show y.toNat = 0;omega))
   · rename_i h1 h2
     exfalso
     simp at h
     exact h1 (UInt8.toNat_inj.1 (by have:=h.1;show x.toNat = 0;omega))
   · rename_i h1 h2
     simp at h
     exact ⟨UInt8.toNat_inj.1 (by omega),by simpa using h.2⟩
  obtain ⟨rfl,h2⟩:=key
  obtain ⟨rfl,h3⟩:=a9z h2
  exact ⟨rfl,h3⟩
def ku (v:Val):Prop:=c6 v = true ∧ su v.num
theorem a43 {v:Val} (h:c6 v = true):v.kind = 0 ∨ v.kind = 1 ∨ v.kind = 2 ∨ v.kind = 3:=by
 unfold c6 at h
 split at h
 · exact .inl (by assumption)
 · split at h
   · exact .inr (.inl (by assumption))
   · split at h
     · exact .inr (.inr (.inl (by assumption)))
     · simp only [Bool.and_eq_true,decide_eq_true_eq] at h
       exact .inr (.inr (.inr h.1.1))
theorem a3e {a b:Val} (h1:a.kind = b.kind) (h2:a.num = b.num) (h3:a.str = b.str):a = b:=by
 obtain ⟨a1,a2,a3⟩:=a
 obtain ⟨b1,b2,b3⟩:=b
 simp only at h1 h2 h3
 subst h1 h2 h3
 rfl
theorem adl {a b:ByteArray} (h:bl a = bl b):a = b:=by
 obtain ⟨⟨a⟩⟩:=a
 obtain ⟨⟨b⟩⟩:=b
 have h:a = b:=h
 subst h
 rfl
theorem a8u {v w:Val} (hv:ku v) (hw:ku w) {X Y:List Int} (h:jo v ++ X = jo w ++ Y):v = w ∧ X = Y:=by
 obtain ⟨hv,nv⟩:=hv
 obtain ⟨hw,nw⟩:=hw
 have kv:=a43 hv
 have kw:=a43 hw
 unfold jo at h
 rw [List.cons_append,List.cons_append,List.cons.injEq] at h
 obtain ⟨h1,h2⟩:=h
 rw [w8,w8] at h1
 have hk:v.kind = w.kind:=by omega
 clear h1
 unfold c6 at hv hw
 rw [← hk] at h2 hw kw
 rcases kv with e | e | e | e <;> rw [e] at h2 hv hw <;> simp only [Int.reduceEq,if_true,if_false,or_true,true_or,or_false,false_or,or_self,List.nil_append,Bool.and_eq_true,decide_eq_true_eq,if_pos,true_and,decide_true,ite_true,ite_false] at h2 hv hw
 · exact ⟨a3e hk (hv.1.trans hw.1.symm) (hv.2.trans hw.2.symm),h2⟩
 · obtain ⟨h3,h4⟩:=List.append_inj h2 (by rw [sg,sg])
   exact ⟨a3e hk (a91 nv nw h3) (hv.trans hw.symm),h4⟩
 · rw [List.append_assoc,List.append_assoc] at h2
   obtain ⟨h3,h4⟩:=a9z h2
   exact ⟨a3e hk (hv.1.trans hw.1.symm) (adl h3),h4⟩
 · obtain ⟨h3,h4⟩:=List.append_inj h2 (by rw [sg,sg])
   exact ⟨a3e hk (a91 nv nw h3) (hv.2.trans hw.2.symm),h4⟩
def byR (l:List Int):Prop:=∀ x ∈ l,0 ≤ x ∧ x < 256
theorem aay:∀ {a b:List Int},byR a → byR b → b8 a = b8 b → a = b
 | [],[],_,_,_=>rfl
 | [],_ :: _,_,_,h=>by simp [b8] at h
 | _ :: _,[],_,_,h=>by simp [b8] at h
 | x :: a,y :: b,ha,hb,h=>by
  simp only [b8,List.map_cons,List.cons.injEq] at h
  have h1:=ha x (by simp)
  have h2:=hb y (by simp)
  have h3:=congrArg UInt8.toNat h.1
  simp only [UInt8.toNat_ofNat'] at h3
  have e:x = y:=by omega
  rw [e,aay (fun z hz=>ha z (List.mem_cons_of_mem _ hz)) (fun z hz=>hb z (List.mem_cons_of_mem _ hz)) h.2]
theorem a5k {a b:List Int} (ha:byR a) (hb:byR b):byR (a ++ b):=fun x hx=>by
 rcases List.mem_append.1 hx with h | h
 · exact ha x h
 · exact hb x h
theorem an8 (v:Val):byR (jo v):=by
 have h8:∀ n:Int,0 ≤ IntKind.wrap .u8 n ∧ IntKind.wrap .u8 n < 256:=fun n=>by rw [w8];omega
 unfold jo
 intro x hx
 rcases List.mem_cons.1 hx with rfl | hx
 · exact h8 _
 · split at hx
   · unfold qc at hx
     obtain ⟨i,_,rfl⟩:=List.mem_map.1 hx
     exact h8 _
   · split at hx
     · rcases List.mem_append.1 hx with h | h
       · unfold kr at h
         obtain ⟨z,_,h⟩:=List.mem_flatMap.1 h
         unfold ud at h
         split at h
         · simp at h;omega
         · simp at h
           have:=z.toNat_lt
           omega
       · simp at h;omega
     · cases hx
def la (s:AS):Nat → List Val → List Int
 | _,[]=>[]
 | a,v :: vs=>if s.getLsbD a = true then jo v ++ la s (a + 1) vs else la s (a + 1) vs
theorem oq {s:AS}:∀ {l:List Val} {a:Nat},byR (la s a l)
 | [],_=>fun x hx=>by cases hx
 | v :: l,a=>by
  have h:byR (la s (a + 1) l):=oq
  unfold la
  split
  · exact a5k (an8 v) h
  · exact h
theorem jj {s:AS}:∀ {l:List Val} {a:Nat},(∀ v ∈ l,c6 v = true) → bl (gk s a l) = b8 (la s a l)
 | [],_,_=>rfl
 | v :: l,a,h=>by
  have ih:bl (gk s (a + 1) l) = b8 (la s (a + 1) l):=jj fun x hx=>h x (List.mem_cons_of_mem _ hx)
  unfold gk la
  split
  · rw [acm (h v (by simp))]
    show (strOfNums (jo v) ++ gk s (a + 1) l).data.toList = _
    rw [ByteArray.data_append,Array.toList_append]
    show b8 (jo v) ++ bl (gk s (a + 1) l) = _
    rw [ih]
    unfold b8
    rw [List.map_append]
  · exact ih
theorem a1x {s:AS}:∀ {l m:List Val} {a:Nat},l.length = m.length → a + l.length ≤ 32 → (∀ v ∈ l,ku v) → (∀ v ∈ m,ku v) → la s a l = la s a m → fy s a l = fy s a m
 | [],[],_,_,_,_,_,_=>rfl
 | [],_ :: _,_,h,_,_,_,_=>by simp at h
 | _ :: _,[],_,h,_,_,_,_=>by simp at h
 | v :: l,w :: m,a,hl,ha,h1,h2,h=>by
  have hl2:l.length = m.length:=by simpa using hl
  have ha2:a + (l.length + 1) ≤ 32:=ha
  unfold la at h
  unfold fy
  rw [eo (by omega)]
  split at h
  · rename_i hs
    rw [if_pos hs,if_pos hs]
    obtain ⟨rfl,h3⟩:=a8u (h1 v (by simp)) (h2 w (by simp)) h
    have h4:fy s (a + 1) l = fy s (a + 1) m:=a1x hl2 (by omega) (fun x hx=>h1 x (List.mem_cons_of_mem _ hx)) (fun x hx=>h2 x (List.mem_cons_of_mem _ hx)) h3
    rw [h4]
  · rename_i hs
    rw [if_neg hs,if_neg hs]
    exact a1x hl2 (by omega) (fun x hx=>h1 x (List.mem_cons_of_mem _ hx)) (fun x hx=>h2 x (List.mem_cons_of_mem _ hx)) h
theorem uh {s:AS}:∀ {l m:List Val} {a:Nat},l.length = m.length → a + l.length ≤ 32 → fy s a l = fy s a m → gk s a l = gk s a m
 | [],[],_,_,_,_=>rfl
 | [],_ :: _,_,h,_,_=>by simp at h
 | _ :: _,[],_,h,_,_=>by simp at h
 | v :: l,w :: m,a,hl,ha,h=>by
  have hl:l.length = m.length:=by simpa using hl
  have ha:a + (l.length + 1) ≤ 32:=ha
  unfold gk
  unfold fy at h
  rw [eo (by omega)] at h
  split at h
  · rename_i hs
    rw [List.cons.injEq] at h
    rw [if_pos hs,if_pos hs,h.1,uh hl (by omega) h.2]
  · rename_i hs
    rw [if_neg hs,if_neg hs]
    exact uh hl (by omega) h
theorem akd {s:AS} {l m:List Val} (hl:l.length = m.length) (h32:l.length ≤ 32) (h1:∀ v ∈ l,ku v) (h2:∀ v ∈ m,ku v):b9 l s = b9 m s ↔ sel l s = sel m s:=by
 constructor
 · intro h
   refine a1x hl (by omega) h1 h2 (aay oq oq ?_)
   rw [← jj fun v hv=>(h1 v hv).1,← jj fun v hv=>(h2 v hv).1]
   exact congrArg bl h
 · exact uh hl (by omega)
end Go.Hx
end
section
namespace Go.Hx
open Go.Proofs Go.Proofs.YtodligmokcbbkaaGreatDoor
open Go.RowKit Go.ChangeShapes Go.WideShapes Go.ChangeAt
theorem ato {P:Program} {t:TypeId} (ht:P.underlying t = some (.int .i64)):RdB P t 1 (ap9 .i64) fun _ z=>su z:=by
 intro H enc w sp held fuel cs x h
 obtain ⟨n,rfl,_,hw⟩:=DataW.trod_int ht h
 have hx:-9223372036854775808 ≤ n ∧ n ≤ 9223372036854775807:=by simpa [Lit.wf,IntKind.min,IntKind.max,IntKind.signed,IntKind.bits] using hw
 refine ⟨rfl,n,hx,fun j hj=>?_⟩
 obtain rfl:j = 0:=by omega
 exact ⟨_,rfl,rfl,rfl⟩
def ajb (_:Nat) (v:Val):Prop:=su v.num
def ako (b:Nat) (r:Row):Prop:=∀ i,i < r.vals.length → ajb b (r.vals.getD i default)
def ap1 (b:Nat) (t:Tbl):Prop:=∀ i,i < t.rows.length → ako b (t.rows.getD i default)
theorem atw:RdB Tryz.prog 78 3 Val.c ajb:=by
 intro H enc w sp held fuel cs x h
 obtain ⟨hl,n,hf⟩:=xm Tryz.underlying78 h
 obtain ⟨y0,e0⟩:=hf 0 _ rfl
 obtain ⟨y1,e1⟩:=hf 1 _ rfl
 obtain ⟨y2,e2⟩:=hf 2 _ rfl
 obtain ⟨a0,_,h0⟩:=jp (fun _ _ _ _ _=>trivial) (ahr Tryz.underlying3).toB e0
 obtain ⟨a1,b1,h1⟩:=jp (B:=fun _ z=>su z) (fun _ _ _ _ h=>h) (ato Tryz.underlying2) e1
 obtain ⟨a2,_,h2⟩:=jp (fun _ _ _ _ _=>trivial) (z8 Tryz.underlying9).toB e2
 refine ⟨hl.trans (by kernel_rfl),(⟨a0,a1,a2⟩:Val),b1,fun j hj=>?_⟩
 match j,hj with
 | 0,_=>exact h0 0 (by omega)
 | 1,_=>exact h1 0 (by omega)
 | 2,_=>exact h2 0 (by omega)
theorem auv:RdB Tryz.prog 49 1 (aaf 3 Val.c) fun b l=>l.length ≤ b ∧ ∀ i,i < l.length → ajb b (l.getD i default):=a6r (fun _ _ _ _ h=>h) Tryz.underlying49 (by kernel_rfl) (by omega) atw
theorem at4:RdB Tryz.prog 51 2 Row.c ako:=by
 intro H enc w sp held fuel cs x h
 obtain ⟨hl,n,hf⟩:=xm Tryz.underlying51 h
 obtain ⟨y0,e0⟩:=hf 0 _ rfl
 obtain ⟨y1,e1⟩:=hf 1 _ rfl
 obtain ⟨a0,_,h0⟩:=jp (fun _ _ _ _ _=>trivial) (ahr Tryz.underlying2).toB e0
 obtain ⟨a1,b1,h1⟩:=jp (fun b b' x h hx=>⟨Nat.le_trans hx.1 h,hx.2⟩) auv e1
 refine ⟨hl.trans (by kernel_rfl),(⟨a0,a1⟩:Row),b1.2,fun j hj=>?_⟩
 match j,hj with
 | 0,_=>exact h0 0 (by omega)
 | 1,_=>exact h1 0 (by omega)
theorem av1:Rd Tryz.prog 9 1 akj:=(z8 Tryz.underlying9).co id fun a j hj=>by obtain rfl:j = 0:=(by omega);exact CoP.refl _
theorem auh:Rd Tryz.prog 22 1 (aaf 1 akj):=aj7 Tryz.underlying22 (by kernel_rfl) (by omega) av1
theorem avg:RdB Tryz.prog 23 1 (aaf 2 Row.c) fun b l=>l.length ≤ b ∧ ∀ i,i < l.length → ako b (l.getD i default):=a6r (fun _ _ _ _ h=>h) Tryz.underlying23 (by kernel_rfl) (by omega) at4
theorem avm:RdB Tryz.prog 25 3 Tbl.c ap1:=by
 intro H enc w sp held fuel cs x h
 obtain ⟨hl,n,hf⟩:=xm Tryz.underlying25 h
 obtain ⟨y0,e0⟩:=hf 0 _ rfl
 obtain ⟨y1,e1⟩:=hf 1 _ rfl
 obtain ⟨y2,e2⟩:=hf 2 _ rfl
 obtain ⟨a0,_,h0⟩:=jp (fun _ _ _ _ _=>trivial) (z8 Tryz.underlying9).toB e0
 obtain ⟨a1,_,h1⟩:=jp (fun _ _ _ _ _=>trivial) auh.toB e1
 obtain ⟨a2,b2,h2⟩:=jp (fun b b' x h hx=>⟨Nat.le_trans hx.1 h,hx.2⟩) avg e2
 refine ⟨hl.trans (by kernel_rfl),(⟨a0,a1,a2⟩:Tbl),b2.2,fun j hj=>?_⟩
 match j,hj with
 | 0,_=>exact h0 0 (by omega)
 | 1,_=>exact h1 0 (by omega)
 | 2,_=>exact h2 0 (by omega)
theorem aq3 {b:Nat} {t:Tbl} (h:ap1 b t):∀ r ∈ t.rows,∀ v ∈ r.vals,su v.num:=fun r hr v hv=>by
 obtain ⟨i,hi,e⟩:=List.getElem_of_mem hr
 obtain ⟨j,hj,e2⟩:=List.getElem_of_mem hv
 have h1:=h i hi
 rw [eq _ _ hi,e] at h1
 have h2:=h1 j hj
 rw [eq _ _ hj,e2] at h2
 exact h2
theorem au0:Tryz.prog.readableRec 25 = true ∧ 25 < Tryz.prog.types.size:=⟨by kernel_rfl,of_decide_eq_true (by kernel_rfl)⟩
end Go.Hx
end
section
namespace Go.Hx
open Go.Proofs Go.Proofs.YtodligmokcbbkaaGreatDoor
open Go.RowKit Go.ChangeShapes Go.WideShapes Go.ChangeAt
theorem at2:Rd Tryz.prog 29 2 Fd.c:=by
 intro H enc w sp held fuel cs x h
 obtain ⟨hl,n,hf⟩:=ag2 Tryz.underlying29 h
 obtain ⟨y0,e0⟩:=hf 0 _ rfl
 obtain ⟨y1,e1⟩:=hf 1 _ rfl
 obtain ⟨a0,h0⟩:=a8q aps e0
 obtain ⟨a1,h1⟩:=a8q aps e1
 refine ⟨hl.trans (by kernel_rfl),(⟨a0,a1⟩:Fd),fun j hj=>?_⟩
 match j,hj with
 | 0,_=>exact h0 0 (by omega)
 | 1,_=>exact h1 0 (by omega)
theorem ap0:Tryz.prog.readableRec 29 = true ∧ 29 < Tryz.prog.types.size:=⟨by kernel_rfl,of_decide_eq_true (by kernel_rfl)⟩
end Go.Hx
end
section
namespace Go.Hx
section
variable {R:List Row} {ps:List AS} {cols:List (List Val)} {s:AS} {n:Nat}
theorem a9m:∀ {l m:List Val} {a:Nat},l.length = m.length → (fy s a l = fy s a m ↔ ∀ i,i < l.length → dl s ((a + i:Nat):Int) = true → l.getD i default = m.getD i default)
 | [],[],a,_=>⟨fun _ i hi _=>absurd hi (Nat.not_lt_zero i),fun _=>rfl⟩
 | [],_ :: _,_,h=>by simp at h
 | _ :: _,[],_,h=>by simp at h
 | v :: l,w :: m,a,hl=>by
  have hl2:l.length = m.length:=by simpa using hl
  have ih:=a9m (l:=l) (m:=m) (a:=a + 1) hl2
  unfold fy
  by_cases hs:dl s (a:Int) = true
  · rw [if_pos hs,if_pos hs,List.cons.injEq,ih]
    constructor
    · rintro ⟨h1,h2⟩ i hi hh
      cases i with
      | zero=>exact h1
      | succ i=>exact h2 i (by simpa using hi) (by rw [show a + 1 + i = a + (i + 1) by omega];exact hh)
    · intro h
      refine ⟨h 0 (by simp) hs,fun i hi hh=>?_⟩
      exact h (i + 1) (by simpa using hi) (by rw [show a + (i + 1) = a + 1 + i by omega];exact hh)
  · rw [if_neg hs,if_neg hs,ih]
    constructor
    · intro h i hi hh
      cases i with
      | zero=>exact absurd hh hs
      | succ i=>exact h i (by simpa using hi) (by rw [show a + 1 + i = a + (i + 1) by omega];exact hh)
    · intro h i hi hh
      exact h (i + 1) (by simpa using hi) (by rw [show a + (i + 1) = a + 1 + i by omega];exact hh)
theorem ad6 {l m:List Val} (hl:l.length = m.length):sel l s = sel m s ↔ ∀ i:Nat,i < l.length → dl s (i:Int) = true → l.getD i default = m.getD i default:=by
 unfold sel
 rw [a9m hl]
 constructor <;> intro h i hi hh
 · exact h i hi (by rw [Nat.zero_add];exact hh)
 · exact h i hi (by rw [Nat.zero_add] at hh;exact hh)
def okJ (R:List Row) (ps:List AS) (vs:List Val):Bool:=ps.all fun s=>adx R s vs.length (b9 vs s)
def aqz (R:List Row) (ps:List AS) (cols:List (List Val)):Nat → List Val → List (List Val)
 | 0,vs=>if okJ R ps vs = true then [vs] else []
 | d + 1,vs=>if okJ R ps vs = true then (cols.getD vs.length default).flatMap fun v=>aqz R ps cols d (vs ++ [v]) else []
def ay0 (R:List Row) (ps:List AS) (n:Nat):List (List Val):=aqz R ps (ali R n) n []
end
end Go.Hx
end
section
namespace Go.Hx
section
variable {n:Int} {ps:List AS} {p m:List Fd}
end
def sgB (n:Int) (c:AS) (z:Int):Int:=if dl c (z % n) = true then z % n else z
section
variable {n:Int} {P Q:AS} {p:List Fd}
end
end Go.Hx
end
section
namespace Go.Hx
section
variable {t:Tbl} {d:Fd}
theorem a13 {R:List Row} {a:Row} (h:a ∈ R):∃ i,i < R.length ∧ R.getD i default = a:=by
 obtain ⟨i,hi,e⟩:=List.getElem_of_mem h
 exact ⟨i,hi,by rw [eq _ _ hi,e]⟩
theorem aph (h:mvB t d = true) {a b:Row} (ha:a ∈ t.rows) (hb:b ∈ t.rows) (e:sel a.vals d.lhs = sel b.vals d.lhs):∃ x ∈ t.rows,sel x.vals (d.lhs ||| d.rhs) = sel a.vals (d.lhs ||| d.rhs) ∧ sel x.vals (am t.attrs.length &&& ~~~(d.lhs ||| d.rhs)) = sel b.vals (am t.attrs.length &&& ~~~(d.lhs ||| d.rhs)):=by
 obtain ⟨i,hi,rfl⟩:=a13 ha
 obtain ⟨k,hk,rfl⟩:=a13 hb
 unfold mvB at h
 have h1:=List.all_eq_true.1 (List.all_eq_true.1 h i (List.mem_range.2 hi)) k (List.mem_range.2 hk)
 unfold s6 ic at h1
 rw [decide_eq_true e] at h1
 have h1:a4a t (t.rows.getD i default) (t.rows.getD k default) (d.lhs ||| d.rhs) = true:=by simpa using h1
 unfold a4a at h1
 obtain ⟨x,hx,h2⟩:=List.any_eq_true.1 h1
 rw [Bool.and_eq_true] at h2
 unfold ic at h2
 exact ⟨x,hx,of_decide_eq_true h2.1,of_decide_eq_true h2.2⟩
end
section
variable {n:Int} {ps:List AS} {p m:List Fd}
end
def sgT (n:Nat) (w:List Val) (f:Nat → Row) (z:Int):Val:=if z < (n:Int) then w.getD z.toNat default else (f (z / n - 1).toNat).vals.getD (z % n).toNat default
end Go.Hx
end
section
namespace Go.Hx
def ndp:List ByteArray → List ByteArray
 | []=>[]
 | x :: l=>if (ndp l).any (fun y=>decide (y = x)) = true then ndp l else x :: ndp l
theorem a0c {x:ByteArray} {l:List ByteArray}:l.any (fun y=>decide (y = x)) = true ↔ x ∈ l:=by
 rw [List.any_eq_true]
 constructor
 · rintro ⟨y,hy,e⟩
   rw [← of_decide_eq_true e];exact hy
 · exact fun h=>⟨x,h,decide_eq_true rfl⟩
theorem ow {x:ByteArray}:∀ {l:List ByteArray},x ∈ ndp l ↔ x ∈ l
 | []=>Iff.rfl
 | y :: l=>by
  have ih:=ow (x:=x) (l:=l)
  rw [ndp]
  split
  · rename_i h
    have h:=a0c.1 h
    rw [ih,List.mem_cons]
    constructor
    · exact .inr
    · rintro (rfl | h2)
      · exact ow.1 h
      · exact h2
  · rw [List.mem_cons,List.mem_cons,ih]
theorem ni:∀ {l:List ByteArray},(ndp l).Nodup
 | []=>List.nodup_nil
 | y :: l=>by
  rw [ndp]
  split
  · exact ni
  · rename_i h
    exact List.nodup_cons.2 ⟨fun hm=>h (a0c.2 hm),ni⟩
def kc (l:List ByteArray):Nat:=(ndp l).length
theorem au7 {l es:List ByteArray} (hn:es.Nodup) (h:∀ x,x ∈ es ↔ x ∈ l):es.length = kc l:=by
 have h1:=hn.length_le_of_subset (l₂:=ndp l) fun x hx=>ow.2 ((h x).1 hx)
 have h2:=(ni (l:=l)).length_le_of_subset (l₂:=es) fun x hx=>(h x).2 (ow.1 hx)
 unfold kc
 omega
theorem akx {X Y:List ByteArray}:(X.flatMap fun x=>Y.map fun y=>x ++ y).length = X.length * Y.length:=by
 induction X with
 | nil=>simp
 | cons x X ih=>rw [List.flatMap_cons,List.length_append,ih,List.length_map,List.length_cons,Nat.add_mul,Nat.one_mul,Nat.add_comm]
section
variable {G:List Row} {fa fb:Row → ByteArray}
theorem adi (hinj:∀ r ∈ G,∀ s ∈ G,∀ r' ∈ G,∀ s' ∈ G,fa r ++ fb s = fa r' ++ fb s' → fa r = fa r' ∧ fb s = fb s') :
 kc (G.map fa) * kc (G.map fb) = kc (G.map fun r=>fa r ++ fb r) ↔ ∀ r ∈ G,∀ s ∈ G,∃ q ∈ G,fa q = fa r ∧ fb q = fb s:=by
 let X:=ndp (G.map fa)
 let Y:=ndp (G.map fb)
 let Z:=ndp (G.map fun r=>fa r ++ fb r)
 let W:=X.flatMap fun x=>Y.map fun y=>x ++ y
 have hX:∀ x,x ∈ X ↔ ∃ r ∈ G,fa r = x:=fun x=>ow.trans List.mem_map
 have hY:∀ x,x ∈ Y ↔ ∃ r ∈ G,fb r = x:=fun x=>ow.trans List.mem_map
 have hZ:∀ x,x ∈ Z ↔ ∃ r ∈ G,fa r ++ fb r = x:=fun x=>ow.trans List.mem_map
 have hW:∀ x,x ∈ W ↔ ∃ r ∈ G,∃ s ∈ G,fa r ++ fb s = x:=fun x=>by
  show x ∈ X.flatMap _ ↔ _
  rw [List.mem_flatMap]
  constructor
  · rintro ⟨y,hy,hx⟩
    obtain ⟨z,hz,rfl⟩:=List.mem_map.1 hx
    obtain ⟨r,hr,rfl⟩:=(hX y).1 hy
    obtain ⟨s,hs,rfl⟩:=(hY z).1 hz
    exact ⟨r,hr,s,hs,rfl⟩
  · rintro ⟨r,hr,s,hs,rfl⟩
    exact ⟨fa r,(hX _).2 ⟨r,hr,rfl⟩,List.mem_map.2 ⟨fb s,(hY _).2 ⟨s,hs,rfl⟩,rfl⟩⟩
 have nX:X.Nodup:=ni
 have nY:Y.Nodup:=ni
 have nZ:Z.Nodup:=ni
 have nW:W.Nodup:=by
  refine List.pairwise_flatMap.2 ⟨fun x hx=>List.pairwise_map.2 (nY.imp_of_mem fun {a b} ha hb hab e=>?_),nX.imp_of_mem fun {a b} ha hb hab u hu v hv e=>?_⟩
  · obtain ⟨r,hr,rfl⟩:=(hX x).1 hx
    obtain ⟨s,hs,rfl⟩:=(hY a).1 ha
    obtain ⟨s',hs',rfl⟩:=(hY b).1 hb
    exact hab (hinj r hr s hs r hr s' hs' e).2
  · obtain ⟨y,hy,rfl⟩:=List.mem_map.1 hu
    obtain ⟨z,hz,rfl⟩:=List.mem_map.1 hv
    obtain ⟨r,hr,rfl⟩:=(hX a).1 ha
    obtain ⟨r',hr',rfl⟩:=(hX b).1 hb
    obtain ⟨s,hs,rfl⟩:=(hY y).1 hy
    obtain ⟨s',hs',rfl⟩:=(hY z).1 hz
    exact hab (hinj r hr s hs r' hr' s' hs' e).1
 have hZW:Z ⊆ W:=fun x hx=>by
  obtain ⟨r,hr,rfl⟩:=(hZ x).1 hx
  exact (hW _).2 ⟨r,hr,r,hr,rfl⟩
 have lW:W.length = X.length * Y.length:=akx
 have lZ:=nZ.length_le_of_subset hZW
 show X.length * Y.length = Z.length ↔ _
 constructor
 · intro he r hr s hs
   have hm:fa r ++ fb s ∈ Z:=by
    apply Classical.byContradiction
    intro hno
    have h2:=(List.nodup_cons.2 ⟨hno,nZ⟩).length_le_of_subset (l₂:=W) fun x hx=>by
     rcases List.mem_cons.1 hx with rfl | hx
     · exact (hW _).2 ⟨r,hr,s,hs,rfl⟩
     · exact hZW hx
    rw [List.length_cons] at h2
    omega
   obtain ⟨q,hq,e⟩:=(hZ _).1 hm
   obtain ⟨e1,e2⟩:=hinj q hq q hq r hr s hs e
   exact ⟨q,hq,e1,e2⟩
 · intro h
   have h2:=nW.length_le_of_subset (l₂:=Z) fun x hx=>by
    obtain ⟨r,hr,s,hs,rfl⟩:=(hW x).1 hx
    obtain ⟨q,hq,e1,e2⟩:=h r hr s hs
    exact (hZ _).2 ⟨q,hq,by rw [e1,e2]⟩
   omega
end
theorem a2v {s:AS}:∀ {l m:List Val} {a:Nat} {X Y:List Int},l.length = m.length → a + l.length ≤ 32 → (∀ v ∈ l,ku v) → (∀ v ∈ m,ku v) → la s a l ++ X = la s a m ++ Y → la s a l = la s a m ∧ X = Y
 | [],[],_,X,Y,_,_,_,_,h=>⟨rfl,by simpa [la] using h⟩
 | [],_ :: _,_,_,_,h,_,_,_,_=>by simp at h
 | _ :: _,[],_,_,_,h,_,_,_,_=>by simp at h
 | v :: l,w :: m,a,X,Y,hl,ha,h1,h2,h=>by
  have hl2:l.length = m.length:=by simpa using hl
  have ha2:a + (l.length + 1) ≤ 32:=ha
  unfold la at h ⊢
  split at h
  · rename_i hs
    rw [if_pos hs,if_pos hs]
    rw [List.append_assoc,List.append_assoc] at h
    obtain ⟨rfl,h3⟩:=a8u (h1 v (by simp)) (h2 w (by simp)) h
    obtain ⟨h4,h5⟩:=a2v hl2 (by omega) (fun x hx=>h1 x (List.mem_cons_of_mem _ hx)) (fun x hx=>h2 x (List.mem_cons_of_mem _ hx)) h3
    exact ⟨by rw [h4],h5⟩
  · rename_i hs
    rw [if_neg hs,if_neg hs]
    exact a2v hl2 (by omega) (fun x hx=>h1 x (List.mem_cons_of_mem _ hx)) (fun x hx=>h2 x (List.mem_cons_of_mem _ hx)) h
theorem ai6 (a b:List Int):b8 (a ++ b) = b8 a ++ b8 b:=List.map_append ..
theorem ag6 (a b:ByteArray):bl (a ++ b) = bl a ++ bl b:=by
 show (a ++ b).data.toList = _
 rw [ByteArray.data_append,Array.toList_append]
theorem ajn {s t:AS} {l m k p:List Val} {n:Nat} (hn:n ≤ 32) (hl:l.length = n) (hm:m.length = n) (hk:k.length = n) (hp:p.length = n) (h1:∀ v ∈ l,ku v) (h2:∀ v ∈ m,ku v) (h3:∀ v ∈ k,ku v) (h4:∀ v ∈ p,ku v)
 (h:b9 l s ++ b9 m t = b9 k s ++ b9 p t):b9 l s = b9 k s ∧ b9 m t = b9 p t:=by
 have e:=congrArg bl h
 rw [ag6,ag6] at e
 unfold b9 at e ⊢
 rw [jj fun v hv=>(h1 v hv).1,jj fun v hv=>(h2 v hv).1,jj fun v hv=>(h3 v hv).1,jj fun v hv=>(h4 v hv).1,← ai6,← ai6] at e
 have e:=aay (a5k oq oq) (a5k oq oq) e
 obtain ⟨e1,e2⟩:=a2v (hl.trans hk.symm) (by omega) h1 h3 e
 have b1:gk s 0 l = gk s 0 k:=adl (by rw [jj fun v hv=>(h1 v hv).1,jj fun v hv=>(h3 v hv).1,e1])
 have b2:gk t 0 m = gk t 0 p:=adl (by rw [jj fun v hv=>(h2 v hv).1,jj fun v hv=>(h4 v hv).1,e2])
 exact ⟨b1,b2⟩
def ig (d:Fd):AS:=d.rhs &&& ~~~d.lhs
def jw (n:Nat) (d:Fd):AS:=am (n:Int) &&& ~~~(d.lhs ||| d.rhs)
def jk (R:List Row) (d:Fd) (k:ByteArray):List Row:=R.filter fun r=>decide (b9 r.vals d.lhs = k)
def o4 (n:Nat) (R:List Row) (d:Fd) (k:ByteArray):Bool:=decide (kc ((jk R d k).map fun r=>b9 r.vals (ig d)) * kc ((jk R d k).map fun r=>b9 r.vals (jw n d)) = kc ((jk R d k).map fun r=>b9 r.vals (ig d) ++ b9 r.vals (jw n d)))
def ab2 (t:Tbl) (d:Fd):Bool:=t.rows.all fun r=>o4 t.attrs.length t.rows d (b9 r.vals d.lhs)
theorem aoh {t:Tbl} {d:Fd}:mvB t d = true ↔ ∀ a ∈ t.rows,∀ b ∈ t.rows,sel a.vals d.lhs = sel b.vals d.lhs → ∃ x ∈ t.rows,sel x.vals (d.lhs ||| d.rhs) = sel a.vals (d.lhs ||| d.rhs) ∧ sel x.vals (am t.attrs.length &&& ~~~(d.lhs ||| d.rhs)) = sel b.vals (am t.attrs.length &&& ~~~(d.lhs ||| d.rhs)):=by
 constructor
 · exact fun h a ha b hb e=>aph h ha hb e
 · intro h
   unfold mvB
   refine List.all_eq_true.2 fun i hi=>List.all_eq_true.2 fun k hk=>?_
   have hi:=List.mem_range.1 hi
   have hk:=List.mem_range.1 hk
   unfold s6
   rw [Bool.or_eq_true,Bool.not_eq_true']
   cases hag:ic (t.rows.getD i default) (t.rows.getD k default) d.lhs with
   | false=>exact .inl rfl
   | true =>
    right
    unfold ic at hag
    obtain ⟨x,hx,e1,e2⟩:=h _ (by rw [eq _ _ hi];exact List.getElem_mem hi) _ (by rw [eq _ _ hk];exact List.getElem_mem hk) (of_decide_eq_true hag)
    unfold a4a
    refine List.any_eq_true.2 ⟨x,hx, ?_⟩
    unfold ic
    rw [Bool.and_eq_true,decide_eq_true_iff,decide_eq_true_iff]
    exact ⟨e1,e2⟩
theorem a8r {d:Fd} {i:Nat} (hi:i < 32):dl (ig d) (i:Int) = (dl d.rhs (i:Int) && !dl d.lhs (i:Int)):=by
 unfold ig
 rw [eo hi,eo hi,eo hi,j5 hi]
theorem amw {t:Tbl} {d:Fd} (hT:TOk t) (he:∀ r ∈ t.rows,∀ v ∈ r.vals,ku v):ab2 t d = mvB t d:=by
 have hn:=hT.na
 have hw:∀ r ∈ t.rows,r.vals.length = t.attrs.length:=fun r hr=>by
  obtain ⟨i,hi,rfl⟩:=a13 hr
  exact hT.width hi
 have es:∀ (s:AS),∀ a ∈ t.rows,∀ b ∈ t.rows,(b9 a.vals s = b9 b.vals s ↔ sel a.vals s = sel b.vals s):=fun s a ha b hb=>akd ((hw a ha).trans (hw b hb).symm) (by rw [hw a ha];omega) (he a ha) (he b hb)
 have si:∀ (s:AS),∀ a ∈ t.rows,∀ b ∈ t.rows,(sel a.vals s = sel b.vals s ↔ ∀ i:Nat,i < t.attrs.length → dl s (i:Int) = true → a.vals.getD i default = b.vals.getD i default):=fun s a ha b hb=>by
  rw [ad6 ((hw a ha).trans (hw b hb).symm),hw a ha]
 have mg:∀ k r,r ∈ jk t.rows d k ↔ r ∈ t.rows ∧ b9 r.vals d.lhs = k:=fun k r=>by unfold jk;rw [List.mem_filter,decide_eq_true_iff]
 have hu:∀ a ∈ t.rows,∀ b ∈ t.rows,(sel a.vals (d.lhs ||| d.rhs) = sel b.vals (d.lhs ||| d.rhs) ↔ sel a.vals d.lhs = sel b.vals d.lhs ∧ sel a.vals (ig d) = sel b.vals (ig d)):=fun a ha b hb=>by
  rw [si _ a ha b hb,si _ a ha b hb,si _ a ha b hb]
  constructor
  · intro h
    refine ⟨fun i hi hh=>h i hi (by rw [a5s,hh];rfl),fun i hi hh=>h i hi ?_⟩
    rw [a8r (by omega),Bool.and_eq_true] at hh
    rw [a5s,hh.1,Bool.or_true]
  · rintro ⟨h1,h2⟩ i hi hh
    cases hl:dl d.lhs (i:Int) with
    | true=>exact h1 i hi hl
    | false =>
     rw [a5s,hl,Bool.false_or] at hh
     exact h2 i hi (by rw [a8r (by omega),hh,hl];rfl)
 rw [Bool.eq_iff_iff,aoh]
 unfold ab2
 rw [List.all_eq_true]
 have hG:∀ k,(o4 t.attrs.length t.rows d k = true ↔ ∀ r ∈ jk t.rows d k,∀ s ∈ jk t.rows d k,∃ q ∈ jk t.rows d k,b9 q.vals (ig d) = b9 r.vals (ig d) ∧ b9 q.vals (jw t.attrs.length d) = b9 s.vals (jw t.attrs.length d)):=fun k=>by
  unfold o4
  rw [decide_eq_true_iff]
  refine adi (fa:=fun r=>b9 r.vals (ig d)) (fb:=fun r=>b9 r.vals (jw t.attrs.length d)) fun r hr s hs r' hr' s' hs' e=>?_
  have m:=fun x hx=>((mg k x).1 hx).1
  exact ajn (by omega:t.attrs.length ≤ 32) (hw r (m r hr)) (hw s (m s hs)) (hw r' (m r' hr')) (hw s' (m s' hs')) (he r (m r hr)) (he s (m s hs)) (he r' (m r' hr')) (he s' (m s' hs')) e
 constructor
 · intro h a ha b hb e
   have h1:=(hG _).1 (h a ha) a ((mg _ a).2 ⟨ha,rfl⟩) b ((mg _ b).2 ⟨hb,((es _ a ha b hb).2 e).symm⟩)
   obtain ⟨q,hq,e1,e2⟩:=h1
   obtain ⟨hq,e3⟩:=(mg _ q).1 hq
   exact ⟨q,hq,(hu q hq a ha).2 ⟨(es _ q hq a ha).1 e3,(es _ q hq a ha).1 e1⟩,(es _ q hq b hb).1 e2⟩
 · intro h r0 _
   refine (hG _).2 fun r hr s hs=>?_
   obtain ⟨hr,er⟩:=(mg _ r).1 hr
   obtain ⟨hs,es'⟩:=(mg _ s).1 hs
   obtain ⟨x,hx,e1,e2⟩:=h r hr s hs ((es _ r hr s hs).1 (er.trans es'.symm))
   obtain ⟨e3,e4⟩:=(hu x hx r hr).1 e1
   exact ⟨x,(mg _ x).2 ⟨hx,((es _ x hx r hr).2 e3).trans er⟩,(es _ x hx r hr).2 e4,(es _ x hx s hs).2 e2⟩
end Go.Hx
end
section
namespace Go.Hx
open Go.RowKit
structure ExF (kk:KK) (n:Nat) (f:MK → Option PV) (es:Array MapEntry) (clock:Nat):Prop where
 st:Go.MapKept.Stamped es clock
 le:es.size ≤ n
 mx:es.size ≤ maxLen
 to:∀ x ∈ es.toList,∃ key v,x.key = key.val ∧ f key = some (.raw v) ∧ x.val = v ∧ v.oneCell' = true
 of:∀ key y,f key = some y → MK.ok kk key ∧ ∃ x ∈ es.toList,x.key = key.val
structure Vis (es:Array MapEntry) (seen:Array Nat) (vs:List MK):Prop where
 nod:vs.Nodup
 inn:∀ k ∈ vs,∃ x ∈ es.toList,x.key = k.val ∧ seen.contains x.born = true
 all:∀ x ∈ es.toList,seen.contains x.born = true → ∃ k ∈ vs,x.key = k.val
section
variable {kk:KK} {n:Nat} {f:MK → Option PV} {es:Array MapEntry} {clock:Nat} {seen:Array Nat} {vs:List MK} {e:MapEntry} {key:MK}
end
section
variable {nt:Nat} {st:HSt}
end
theorem abk {P:Program} (w:World) (ty:TypeId) (bi b clock:Nat) (seen:Array Nat) (es:Array MapEntry) (hit:w.heap[bi]? = some (.mapIter (some b) clock seen clock)) (hb:w.heap[b]? = some (.map es clock)) (hold:∀ x ∈ es.toList,x.born < clock) :
 ((leftOf es seen).size = 0 ∧ (Instr.next (.pointer (some ⟨bi,0,none⟩)) false ty).run P w = .ok (.tuple #[.bool false]) w) ∨
 ∃ e ∈ (leftOf es seen).toList,∃ w1:World,(w1 = w ∨ w1 = w.drew) ∧ (Instr.next (.pointer (some ⟨bi,0,none⟩)) false ty).run P w = .ok (.tuple #[.bool true,e.key,e.val]) { w1 with heap:=w.heap.setIfInBounds bi (.mapIter (some b) clock (seen.push e.born) clock) }:=by
 have hbi:bi < w.heap.size:=(Array.getElem?_eq_some_iff.1 hit).1
 simp only [Instr.next,getObj,Sem.run_bind,Sem.run,hit,hb,Result.andThen,next_test_false seen es clock clock hold (Nat.le_refl _),Bool.false_eq_true,if_false]
 unfold leftOf
 have hmem:∀ x ∈ (Array.filter (fun e=>!seen.contains e.born) es).toList,x.born < clock:=fun x hx=>hold x (by simp at hx ⊢;exact hx.1)
 generalize Array.filter (fun e=>!seen.contains e.born) es = L at hmem ⊢
 have e1:L.filter (fun x=>decide (x.born < clock)) = L:=Array.filter_eq_self.2 (fun x hx=>by simpa using hmem x (by simpa using hx))
 have e2:L.filter (fun x=>decide (x.born ≥ clock)) = #[]:=by
  rw [Array.filter_eq_empty_iff]
  intro x hx
  have:=hmem x (by simpa using hx)
  simp
  omega
 simp only [e1,e2,Array.append_empty]
 by_cases h0:L.size = 0
 · left
   have:L = #[]:=Array.eq_empty_of_size_eq_zero h0
   subst this
   refine ⟨rfl, ?_⟩
   simp [choose,Sem.run,Question.forced]
 · right
   have hne:L.isEmpty = false:=by
    rw [Bool.eq_false_iff]
    intro h
    exact h0 (by simpa [Array.isEmpty] using h)
   have hsz:(Array.map some L).size = L.size:=by simp
   simp only [hne,Bool.false_eq_true,if_false,Array.empty_append,hsz]
   by_cases h1:L.size ≤ 1
   · have hp:0 < L.size:=by omega
     refine ⟨L[0],by simp,w, .inl rfl, ?_⟩
     have hq:(Question.mapNext L.size).forced = true:=by simpa [Question.forced] using h1
     have hg:(Array.map some L)[0]? = some (some L[0]):=by simp [hp]
     simp [choose,Sem.run,hq,hg,setObj,hit,Result.andThen]
   · have hq:(Question.mapNext L.size).forced = false:=by simpa [Question.forced] using h1
     have hlt:(Question.mapNext L.size).cut (w.tape w.drawn (.mapNext L.size)) < L.size:=Nat.mod_lt _ (by omega)
     generalize hk:(Question.mapNext L.size).cut (w.tape w.drawn (.mapNext L.size)) = k at hlt
     refine ⟨L[k],by simp,w.drew, .inr rfl, ?_⟩
     have hg:(Array.map some L)[k]? = some (some L[k]):=by simp [hlt]
     simp only [choose,Sem.run,hq,hk,hg,setObj,Sem.run_bind,hit,Result.andThen,Bool.false_eq_true,if_false]
     rfl
theorem ak0 (w w1:World) (h:w1 = w ∨ w1 = w.drew) (bi:Nat) (o:Obj):Grw w { w1 with heap:=w.heap.setIfInBounds bi o } (some bi):=by
 have hb:∀ k,some k ≠ some bi → (w.heap.setIfInBounds bi o)[k]? = w.heap[k]?:=fun k hk=>Array.getElem?_setIfInBounds_ne (fun e=>hk (by rw [e]))
 rcases h with rfl | rfl
 · exact ⟨⟨rfl,rfl,rfl,by simp,fun k _ hk=>hb k hk⟩,Nat.le_refl _⟩
 · exact ⟨⟨rfl,rfl,rfl,by simp,fun k _ hk=>hb k hk⟩,Nat.le_succ _⟩
theorem aa1 {P:Program} (w:World) (bi bm clock:Nat) (seen:Array Nat) (es:Array MapEntry) (e:MapEntry) (hit:w.heap[bi]? = some (.mapIter (some bm) clock (seen.push e.born) clock)) (hb:w.heap[bm]? = some (.map es clock)) (he:e ∈ es.toList) (hn:(es.toList.map (·.born)).Nodup) :
 (Instr.entry (.pointer (some ⟨bi,0,none⟩))).run P w = .ok (.tuple #[e.key,e.val]) w:=by
 have hf:es.find? (·.born == e.born) = some e:=by rw [← Array.find?_toList];exact find_born e es.toList hn he
 simp only [Instr.entry,getObj,Sem.run_bind,Sem.run,hit,hb,Result.andThen,Array.back?_push,bne_self_eq_false,Bool.false_eq_true,if_false,hf]
 rfl
abbrev itO (bi b clock:Nat) (seen:Array Nat):ah:=.ex 2 (.pointer (some ⟨bi,0,none⟩)) bi (.mapIter (some b) clock seen clock)
abbrev mpO (b:Nat) (es:Array MapEntry) (clock:Nat):ah:=.ex 0 (.map (some b)) b (.map es clock)
section
variable {P:Program} {nt:Nat} {ops:Array Oper} {st:HSt}
theorem anb (st:HSt) (d:Nat) (x:HR):HSt.den ⟨(d,some x) :: st.t,st.o⟩ = st.den.putD (some d) (some x):=by
 unfold HSt.den S.putD S.put
 simp [bq]
theorem sw {k d:Nat} {o:Oper} {L:List Nat} {Q:HSt → Prop} (hi:ops[k]? = some o) (hg:o.guard = none) (hd:o.dst = some d) (hdn:c4 nt (some d) = true) (hnd:∀ c,o.op ≠ .defer c)
 (h:∀ w0 a w c,al w0 nt c st.den a w → ∃ v w' o' x c',c'.old = c.old ∧ (execOp a.eval o).run P w = .ok (.value v) w' ∧ al w0 nt c' (HSt.den ⟨st.t,o'⟩) a w' ∧ aq c' (HSt.den ⟨st.t,o'⟩).o x v ∧ RN P nt ops L ⟨(d,some x) :: st.t,o'⟩ Q):RN P nt ops (k :: L) st Q:=fun ro n w0 m0 a w QQ ⟨c,hold,hr⟩ hQ=>by
 obtain ⟨v,w',o',x,c',h1,h2,h3,h4,h5⟩:=h w0 a w c hr
 rw [wpOpsIn_cons]
 unfold wpOpIn
 simp only [hi]
 have hw:Region.wanted o (yielded ops a.tmps) = true:=by unfold Region.wanted;rw [hg]
 rw [if_pos hw]
 refine ul hnd ?_
 unfold Oper.wp
 rw [h2]
 refine h5 ro n w0 m0 _ w' QQ ⟨c',h1.trans hold, ?_⟩ hQ
 rw [hd,anb ⟨st.t,o'⟩ d x]
 exact h3.putD (some d) (fun k hk=>by cases hk;exact of_decide_eq_true hdn) (some x) v fun y hy=>by cases hy;exact h4
variable {k:Nat} {o:Oper} {L:List Nat} {Q:HSt → Prop} {x:Operand} {mid j b clock d bi id n:Nat} {es:Array MapEntry} {seen:Array Nat} {kk:KK} {f:MK → Option PV}
theorem nq {w0:World} {c:Ctx} {s:S} {a:Act} {w:World} (h:al w0 nt c s a w) {v:Value} {y:Obj} {dd:Nat} (hx:ev s x = some (.v (.one (.ref mid j)))) (hm:s.o mid = some (.ex dd v b y)):a.eval x = v ∧ w.heap[b]? = some y:=by
 obtain ⟨h1,h2,h3,h4,h5⟩:=h.objs mid _ hm
 have hu:b5 c s.o (.ref mid j) (a.eval x):=ab h hx
 obtain ⟨_,_,hu⟩:=hu
 have h6:=hu _ _ _ _ hm rfl
 exact ⟨(h6.2 (by omega)).trans h1,h4⟩
theorem ak9 (id:Nat) {t kt et:TypeId} (hi:ops[k]? = some o) (ht:P.underlying t = some (.map kt et)) (h:∀ bi,RN P nt ops L ⟨(d,some (.v (.one (.ref id 0)))) :: st.t,(id,some (itO bi b clock #[])) :: st.o⟩ Q)
 (hg:o.guard = none:=by exact rfl) (ho:o.op = .range t x:=by exact rfl) (hd:o.dst = some d:=by exact rfl) (hdn:c4 nt (some d) = true:=by exact rfl)
 (hx:ev st.den x = some (.v (.one (.ref mid j))):=by exact rfl) (hm:st.den.o mid = some (mpO b es clock):=by exact rfl) (hn:o6 id st = true:=by exact rfl):RN P nt ops (k :: L) st Q :=
 sw hi hg hd hdn (fun c hc=>by rw [hc] at ho;cases ho) fun w0 a w c hrr=>by
  obtain ⟨e1,e2⟩:=nq hrr hx hm
  obtain ⟨hnm,hno⟩:=gt hn
  have hf:=hrr.fresh id hnm hno (itO w.heap.size b clock #[]) (w.alloc (.mapIter (some b) clock #[] clock)) (.pointer (some ⟨w.heap.size,0,none⟩)) (my w.heap.size) (Grw.alloc w _ none) (fun b hb=>Nat.le_of_eq (Eq.symm hb))
   ⟨by simp,by simp,Nat.zero_le _,Go.heap_alloc_new w _,rfl⟩
  rw [← gw] at hf
  refine ⟨.pointer (some ⟨w.heap.size,0,none⟩),_,_, .v (.one (.ref id 0)),_,(by exact rfl), ?_,hf,⟨rfl,fun l=>by simp [gw,S.setO],fun ob2 s2 e2 n2 ho2 hd2=>?_⟩,h w.heap.size⟩
  · simp [execOp,ho,e1,run_range_map w t kt et b es clock ht e2]
  · rw [gw] at ho2
    simp only [S.setO,if_true,Option.some.injEq] at ho2
    subst ho2
    simp only [ah.dim,Option.some.injEq,Prod.mk.injEq] at hd2
    obtain ⟨rfl,rfl,rfl⟩:=hd2
    exact ⟨Nat.le_refl _,fun _=>by simp⟩
end
end Go.Hx
end
