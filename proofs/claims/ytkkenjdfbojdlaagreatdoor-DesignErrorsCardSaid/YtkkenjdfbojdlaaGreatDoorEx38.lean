/- A part of the proof: LyB Bd3 Dw2 Dw3 Dw4 Ds6. -/
import Derived.Shelf.Strings.Builder1
import Derived.Test.YtkkenjdfbojdlaaGreatDoorProg
import Derived.Test.YtkkenjdfbojdlaaGreatDoorEx16
import Derived.Test.YtkkenjdfbojdlaaGreatDoorEx22
import Derived.Test.YtkkenjdfbojdlaaGreatDoorEx25
import Derived.Test.YtkkenjdfbojdlaaGreatDoorEx31
import Derived.Test.YtkkenjdfbojdlaaGreatDoorEx33
import Derived.Test.YtkkenjdfbojdlaaGreatDoorEx34
import Derived.Test.YtkkenjdfbojdlaaGreatDoorEx35
import Derived.Test.YtkkenjdfbojdlaaGreatDoorEx37
set_option linter.all false
section
namespace Go.Proofs
open Go.Shelf
def Tryz.lays169_ren:Go.Shelf.Ren:=⟨fun | 169=>60 | n=>n,fun | 70=>92 | 9=>9 | 0=>0 | 72=>94 | 37=>23 | 127=>153 | 3=>3 | 5=>5 | n=>n,fun | n=>n⟩
theorem Tryz.lays169:Go.Proofs.Lays.n169 Tryz.prog Tryz.lays169_ren:={
 mixed:=by kernel_rfl
 f169:=Tryz.func60.trans (congrArg some (by kernel_rfl))
 t0:=Tryz.underlying0
 a0:=Tryz.isAgg0
 z0:=Tryz.sizeOf0
 v0:=Tryz.zeroValue0
 t3:=Tryz.underlying3
 a3:=Tryz.isAgg3
 z3:=Tryz.sizeOf3
 v3:=Tryz.zeroValue3
 t9:=Tryz.underlying9
 a9:=Tryz.isAgg9
 z9:=Tryz.sizeOf9
 v9:=Tryz.zeroValue9
 t37:=Tryz.underlying23
 a37:=Tryz.isAgg23
 z37:=Tryz.sizeOf23
 v37:=Tryz.zeroValue23
 t70:=Tryz.underlying92
 a70:=Tryz.isAgg92
 z70:=Tryz.sizeOf92
 v70:=Tryz.zeroValue92
 t72:=Tryz.underlying94
 a72:=Tryz.isAgg94
 z72:=Tryz.sizeOf94
 v72:=Tryz.zeroValue94
 t127:=Tryz.underlying153
 a127:=Tryz.isAgg153
 z127:=Tryz.sizeOf153
 v127:=Tryz.zeroValue153 }
theorem Tryz.Builder_Extra_169:Builder.Extra Tryz.prog Tryz.lays169_ren:={
 sizeBuilder:=by kernel_rfl
 liesBuilder:=by kernel_rfl
 t5:=Tryz.underlying5
 a5:=Tryz.isAgg5
 z5:=Tryz.sizeOf5
 v5:=Tryz.zeroValue5
 infoByte:=by kernel_rfl
 cellsByte:=by kernel_rfl
 sizeByte:=by kernel_rfl
 neB5:=by decide }
def Tryz.lays156_ren:Go.Shelf.Ren:=⟨fun | 156=>56 | 165=>115 | 166=>57 | 169=>60 | 240=>116 | 241=>165 | 276=>166 | 277=>212 | n=>n,fun | 31=>57 | 9=>9 | 3=>3 | 4=>4 | 0=>0 | 20=>20 | 72=>94 | 76=>97 | 70=>92 | 37=>23 | 75=>96 | 127=>153 | 164=>178 | 5=>5 | 80=>100 | n=>n,fun | n=>n⟩
theorem Tryz.lays156:Go.Proofs.Lays.n156 Tryz.prog Tryz.lays156_ren:={
 mixed:=by kernel_rfl
 f156:=Tryz.func56.trans (congrArg some (by kernel_rfl))
 f165:=Tryz.func115.trans (congrArg some (by kernel_rfl))
 f166:=Tryz.func57.trans (congrArg some (by kernel_rfl))
 f169:=Tryz.func60.trans (congrArg some (by kernel_rfl))
 f240:=Tryz.func116.trans (congrArg some (by kernel_rfl))
 f241:=Tryz.func165.trans (congrArg some (by kernel_rfl))
 f276:=Tryz.func166.trans (congrArg some (by kernel_rfl))
 f277:=Tryz.func212.trans (congrArg some (by kernel_rfl))
 t0:=Tryz.underlying0
 a0:=Tryz.isAgg0
 z0:=Tryz.sizeOf0
 v0:=Tryz.zeroValue0
 t3:=Tryz.underlying3
 a3:=Tryz.isAgg3
 z3:=Tryz.sizeOf3
 v3:=Tryz.zeroValue3
 t4:=Tryz.underlying4
 a4:=Tryz.isAgg4
 z4:=Tryz.sizeOf4
 v4:=Tryz.zeroValue4
 t9:=Tryz.underlying9
 a9:=Tryz.isAgg9
 z9:=Tryz.sizeOf9
 v9:=Tryz.zeroValue9
 t20:=Tryz.underlying20
 a20:=Tryz.isAgg20
 z20:=Tryz.sizeOf20
 v20:=Tryz.zeroValue20
 t31:=Tryz.underlying57
 a31:=Tryz.isAgg57
 z31:=Tryz.sizeOf57
 v31:=Tryz.zeroValue57
 t37:=Tryz.underlying23
 a37:=Tryz.isAgg23
 z37:=Tryz.sizeOf23
 v37:=Tryz.zeroValue23
 t70:=Tryz.underlying92
 a70:=Tryz.isAgg92
 z70:=Tryz.sizeOf92
 v70:=Tryz.zeroValue92
 t72:=Tryz.underlying94
 a72:=Tryz.isAgg94
 z72:=Tryz.sizeOf94
 v72:=Tryz.zeroValue94
 t75:=Tryz.underlying96
 a75:=Tryz.isAgg96
 z75:=Tryz.sizeOf96
 v75:=Tryz.zeroValue96
 t76:=Tryz.underlying97
 a76:=Tryz.isAgg97
 z76:=Tryz.sizeOf97
 v76:=Tryz.zeroValue97
 t127:=Tryz.underlying153
 a127:=Tryz.isAgg153
 z127:=Tryz.sizeOf153
 v127:=Tryz.zeroValue153
 t164:=Tryz.underlying178
 a164:=Tryz.isAgg178
 z164:=Tryz.sizeOf178
 v164:=Tryz.zeroValue178 }
theorem Tryz.Builder_Extra_156:Builder.Extra Tryz.prog Tryz.lays156_ren:={
 sizeBuilder:=by kernel_rfl
 liesBuilder:=by kernel_rfl
 t5:=Tryz.underlying5
 a5:=Tryz.isAgg5
 z5:=Tryz.sizeOf5
 v5:=Tryz.zeroValue5
 infoByte:=by kernel_rfl
 cellsByte:=by kernel_rfl
 sizeByte:=by kernel_rfl
 neB5:=by decide }
end Go.Proofs
end
section
namespace Go.Hx
open Go.Shelf Go.RowKit Go.Proofs
set_option maxRecDepth 100000
abbrev tB:TypeId:=94
abbrev tC:TypeId:=5
abbrev bd (fr:Bool) (l:List UInt8):af:=.bld fr tB tC (Lib.byteCells l)
theorem nb:goodFn Tryz.prog 57:=⟨Tryz.f57,Tryz.func57,by kernel_rfl,by kernel_rfl⟩
theorem amu:goodFn Tryz.prog 60:=⟨Tryz.f60,Tryz.func60,by kernel_rfl,by kernel_rfl⟩
theorem b4y:goodFn Tryz.prog 115:=⟨Tryz.f115,Tryz.func115,by kernel_rfl,by kernel_rfl⟩
theorem aas {v:Value} (h:∃ a m c,v = .slice a m c):v.ownBlock = ce v:=by
 obtain ⟨a,m,c,rfl⟩:=h
 cases a <;> rfl
theorem ab4 (l:List UInt8) (s:ByteArray):Lib.byteCells l ++ Lib.strCells s = Lib.byteCells (l ++ s.data.toList):=by
 simp [Lib.byteCells,Lib.strCells]
theorem ad5 {c:Ctx} {w:World} {id:Nat} {fr:Bool} {T e:TypeId} {l:List Value} (h:b0e 0 c w id fr T e l) :
 ∃ b p v,c.own id = .pointer (some ⟨b,0,none⟩) ∧ BAt T e b p v l w ∧ (p = .pointer none ∨ p = .pointer (some ⟨b,0,none⟩)) ∧ (∀ k,c.blk id k ↔ k = b ∨ v.ownBlock = some k) ∧ (fr = true → p = .pointer none ∧ v = .slice none 0 0):=by
 obtain ⟨b,p,v,h1,_,h3,h4,h5,h6,h7,h8⟩:=h
 have e:=aas (a8h h5).1
 exact ⟨b,p,v,h1,⟨h3,h5,by rw [e];exact h6⟩,h4,fun k=>by rw [e];exact h7 k,h8⟩
theorem abu {c:Ctx} {w w':World} {id b:Nat} {fr:Bool} {T e:TypeId} {v v':Value} {l l':List Value} {r:Value} {res:HR} (hM:Mem c (lk [(id, .bld fr T e l)]) w) (hown:c.own id = .pointer (some ⟨b,0,none⟩)) (hblk:∀ k,c.blk id k ↔ k = b ∨ v.ownBlock = some k)
 (hB':BAt T e b (.pointer (some ⟨b,0,none⟩)) v' l' w') (hbel:Below 0 w w') (hfr:∀ k,k < w.heap.size → k ≠ b → v.ownBlock ≠ some k → w'.heap[k]? = w.heap[k]?) (hv':∀ k,v'.ownBlock = some k → v.ownBlock = some k ∨ w.heap.size ≤ k)
 (hres:∀ c' o',aq c' o' res r) :
 ∃ v2 c',Ending.returned r = .returned v2 ∧ aq c' (lk [(id, .bld false T e l')]) res v2 ∧ Mem c' (lk [(id, .bld false T e l')]) w' ∧ Below 0 w w' ∧
  (∀ b,b < w.heap.size → (∀ id' ob,lk [(id, .bld fr T e l)] id' = some ob → ¬ c.blk id' b) → w'.heap[b]? = w.heap[b]? ∧ c'.imm b = c.imm b) ∧
  (∀ id' ob b,lk [(id, .bld false T e l')] id' = some ob → c'.blk id' b → w.heap.size ≤ b ∨ ∃ id0 ob0,lk [(id, .bld fr T e l)] id0 = some ob0 ∧ c.blk id0 b) ∧
  (∀ id' ∈ [id],Evo c (lk [(id, .bld fr T e l)]) c' (lk [(id, .bld false T e l')]) id'):=by
 have hl1:lk [(id,af.bld fr T e l)] id = some (.bld fr T e l):=by simp [lk]
 have hl2:lk [(id,af.bld false T e l')] id = some (.bld false T e l'):=by simp [lk]
 have one:∀ {x:af} {id':Nat} {ob:af},lk [(id,x)] id' = some ob → id' = id ∧ ob = x:=fun {x id' ob} h=>⟨(gk h).1,(gk h).2⟩
 have sep:∀ k,k = b ∨ v.ownBlock = some k → c.imm k = none:=fun k hk=>hM.sep id _ k hl1 ((hblk k).2 hk)
 have lt:∀ k ob,c.imm k = some ob → k < w.heap.size:=fun k ob hk=>(Array.getElem?_eq_some_iff.1 (hM.imm k ob hk)).1
 have e':=aas (a8h hB'.own).1
 refine ⟨r,{ c with blk:=fun k=>if k = id then (fun x=>x = b ∨ v'.ownBlock = some x) else c.blk k },rfl,hres _ _,⟨fun id' ob h=>?_,fun i i' ob ob' k h h' _ _=>?_,fun k ob hk=>?_,fun id' ob k h hk=>?_⟩,hbel,fun k hk hn=>?_,fun id' ob k h hk=>?_,fun id' hid=>?_⟩
 · obtain ⟨rfl,rfl⟩:=one h
   exact ⟨b,_,v',hown,Nat.zero_le _,hB'.heap, .inr rfl,hB'.own,by rw [← e'];exact hB'.ne,fun k=>by simp [e'],fun h=>by cases h⟩
 · rw [(one h).1,(one h').1]
 · have hk':=lt k ob hk
   refine (hfr k hk' (fun e=>?_) fun e=>?_).trans (hM.imm k ob hk)
   · have:=sep k (.inl e);have hk2:c.imm k = some ob:=hk;rw [hk2] at this;cases this
   have:=sep k (.inr e);have hk2:c.imm k = some ob:=hk;rw [hk2] at this;cases this
 · obtain ⟨rfl,rfl⟩:=one h
   simp only [if_true] at hk
   rcases hk with rfl | hk
   · exact sep _ (.inl rfl)
   rcases hv' k hk with h1 | h1
   · exact sep k (.inr h1)
   show c.imm k = none
   cases hi:c.imm k with
   | none=>rfl
   | some ob=>have:=lt k ob hi;omega
 · have hn':=fun h=>hn id _ hl1 ((hblk k).2 h)
   exact ⟨hfr k hk (fun e=>hn' (.inl e)) fun e=>hn' (.inr e),rfl⟩
 · obtain ⟨rfl,rfl⟩:=one h
   simp only [if_true] at hk
   rcases hk with rfl | hk
   · exact .inr ⟨_,_,hl1,(hblk _).2 (.inl rfl)⟩
   rcases hv' k hk with h1 | h1
   · exact .inr ⟨_,_,hl1,(hblk k).2 (.inr h1)⟩
   exact .inl h1
 rw [List.mem_singleton.1 hid]
 exact .inr (.inr ⟨_,_,0,1,0,0,hl1,rfl,hl2,rfl,Nat.le_refl _,fun _=>rfl,fun _ _ _ _ _ _ _ h=>by cases h⟩)
theorem nj (id:Nat) (fr:Bool) (l:List UInt8) (s:ByteArray) (hlen:l.length + s.size ≤ 140737488355328):dj Tryz.prog 57 [.one (.ref id 0), .one (.p (.raw (.string s)))] [(id,bd fr l)] (.tup [.one (.p (.raw (.int .i64 (s.size:Int)))), .one (.p (.raw .nilIface))]) [(id,bd false (l ++ s.data.toList))] [id]:=by
 intro w c us hM hus
 match us,hus with
 | [u,v],⟨hu,hv,_⟩ =>
  obtain ⟨rfl,_⟩:=hv
  have hl1:lk [(id,bd fr l)] id = some (bd fr l):=by simp [lk]
  have hu2:u = c.own id:=(hu.2.2 _ _ _ _ hl1 rfl).2 rfl
  subst hu2
  obtain ⟨b,p,v0,hown,hB,hp,hblk,_⟩:=ad5 (hM.objs id _ hl1)
  rw [hown]
  refine (ab5 (P:=Tryz.prog) (ρ:=Tryz.lays156_ren) { Tryz.lays156 with } Tryz.Builder_Extra_156 b p v0 _ s w hp hB (by rw [Lib.byteCells_length];exact hlen)).mono ?_
  rintro e w' ⟨rfl,hbel,v',hB',hfr,hv'⟩
  rw [ab4] at hB'
  exact abu hM hown hblk hB' hbel hfr hv' fun c' o'=>⟨_,rfl,⟨rfl,rfl⟩,⟨rfl,rfl⟩,trivial⟩
theorem bbj (id:Nat) (n:Nat) (hn:n ≤ 281474976710656):dj Tryz.prog 115 [.one (.ref id 0), .one (.p (.raw (.int .i64 (n:Int))))] [(id,bd true [])] (.tup []) [(id,bd false [])] [id]:=by
 intro w c us hM hus
 match us,hus with
 | [u,v],⟨hu,hv,_⟩ =>
  obtain ⟨rfl,_⟩:=hv
  have hl1:lk [(id,bd true [])] id = some (bd true []):=by simp [lk]
  have hu2:u = c.own id:=(hu.2.2 _ _ _ _ hl1 rfl).2 rfl
  subst hu2
  obtain ⟨b,p,v0,hown,hB,hp,hblk,hf⟩:=ad5 (hM.objs id _ hl1)
  obtain ⟨rfl,rfl⟩:=hf rfl
  rw [hown]
  refine (b5v (P:=Tryz.prog) (ρ:=Tryz.lays156_ren) { Tryz.lays156 with } Tryz.Builder_Extra_156 b n w hB.heap hn).mono ?_
  rintro e w' ⟨rfl,hbel,⟨v',hB',hv'⟩,hfr⟩
  exact abu hM hown hblk hB' hbel (fun k hk hkb _=>hfr k hk hkb) (fun k hk=>.inr (hv' k hk)) fun c' o'=>⟨[],rfl,trivial⟩
theorem aza (id:Nat) (fr:Bool) (l:List UInt8) (h0:l ≠ []):dj Tryz.prog 60 [.one (.ref id 0)] [(id,bd fr l)] (.v (.one (.p (.raw (.string ⟨l.toArray⟩))))) [] []:=by
 intro w c us hM hus
 match us,hus with
 | [u],⟨hu,_⟩ =>
  have hl1:lk [(id,bd fr l)] id = some (bd fr l):=by simp [lk]
  have hu2:u = c.own id:=(hu.2.2 _ _ _ _ hl1 rfl).2 rfl
  subst hu2
  obtain ⟨b,p,v0,hown,hB,hp,hblk,_⟩:=ad5 (hM.objs id _ hl1)
  rw [hown]
  refine (av9 (P:=Tryz.prog) (ρ:=Tryz.lays169_ren) Tryz.lays169 Tryz.Builder_Extra_169 b p v0 l w hB h0).mono ?_
  rintro e w' ⟨rfl,hbel,hfr⟩
  refine ⟨_,c,rfl,⟨rfl,rfl⟩,⟨(fun id' ob h=>by cases h),(fun i i' ob ob' k h=>by cases h),fun k ob hk=>?_,(fun id' ob k h=>by cases h)⟩,hbel,fun k hk hn=>⟨hfr k fun e=>hn id _ hl1 ((hblk k).2 (.inr e)),rfl⟩,(fun id' ob k h=>by cases h),(fun id' hid=>by cases hid)⟩
  refine (hfr k fun e=>?_).trans (hM.imm k ob hk)
  have:=hM.sep id _ k hl1 ((hblk k).2 (.inr e))
  rw [hk] at this
  cases this
end Go.Hx
end
section
namespace Go.Hx
open Go.Proofs
set_option maxRecDepth 100000
theorem an5:goodFn Tryz.prog 56:=⟨Tryz.f56,Tryz.func56,by kernel_rfl,by kernel_rfl⟩
theorem az3 (l:List Bs) (sep:Bs) (hs1:sep.size = 1) (hl:l.length ≤ 1000) (hsz:szB l ≤ 1000000000):ae Tryz.prog 56 [pP (bsl l),pS sep] (ai [pS (a34 l sep)]):=by
 refine a8 (nt:=75) a7 Tryz.func56 rfl rfl l9 ?_;refine w_6 ?_
 refine dg 0 rfl fun hn=>?_
 have hA:∀ i,(oc l sep i).length ≤ 1000001000:=fun i=>by have:=b1s l sep i;rw [hs1] at this;omega
 refine d7 ?_;refine a6 _ rfl (fun r0=>?_) (fun r0=>?_)
 ·
  have h0:=of_decide_eq_true r0
  try simp only [ty] at h0
  have hl0:=bcb h0
  subst hl0
  refine w_4 ?_
  exact hx8 rfl rfl rfl (CoL.refl _)
 have h0:=of_decide_eq_false r0
 try simp only [ty] at h0
 refine w_5 ?_;refine a6 _ rfl (fun r1=>?_) (fun r1=>?_)
 ·
  have h1:=of_decide_eq_true r1
  try simp only [ty] at h1
  refine w_7 ?_
  exact hx8 rfl rfl rfl (⟨CoC.one (CoP.of_eq (by rw [anr sep (by omega)];rfl)),trivial⟩)
 have h1:=of_decide_eq_false r1
 try simp only [ty] at h1
 refine fl ?_;refine a6 _ rfl (fun r2=>?_) (fun r2=>?_)
 ·
  have h2:=of_decide_eq_true r2
  try simp only [ty] at h2
  refine w_8 ?_;refine rq rfl rfl rfl rfl rfl ?_ (hp:=⟨by decide,by omega,by constructor <;> decide⟩);refine w_2 ?_;refine a6 _ rfl (fun r3=>?_) (fun r3=>?_)
  ·
   have h3:=of_decide_eq_true r3
   try simp only [ty] at h3
   exfalso
   have:=b3l (n:=(l.length:Int) - 1) (by omega) (by omega)
   omega
  have h3:=of_decide_eq_false r3
  try simp only [ty] at h3
  have hmul:(sep.size:Int) * ((l.length:Int) - 1) = (l.length:Int) - 1:=by rw [hs1];simp
  refine aya ?_
  refine aj (ι:=Nat) ⟨[(0,some _),(1,some _),(39,some _),(40,some _)],[]⟩ ⟨⟨c9,c9,c9,c9,trivial⟩,trivial⟩ (fun i=>⟨[(5,some (vI ((l.length:Int) - 1 + szB (l.take i)))),(41,some (vI i))],[]⟩) (fun i=>i ≤ l.length) (fun i=>l.length - i) (0) (Nat.zero_le _) ⟨⟨⟨_,rfl,(coi (by simp [szB];omega))⟩,zy,trivial⟩,trivial⟩ ?_
  rintro i hi
  refine w_5 ?_;refine a6 _ rfl (fun r4=>?_) (fun r4=>?_)
  ·
   have h4:=of_decide_eq_true r4
   try simp only [ty] at h4
   have hil:i < l.length:=by omega
   have hst:=ads hil
   have hst2:=xa l (i + 1)
   have hst3:(l.getD (i:Int).toNat default).size = (l.getD i default).size:=rfl
   refine ava ?_;refine a6 _ rfl (fun r5=>?_) (fun r5=>?_)
   ·
    have h5:=of_decide_eq_true r5
    try simp only [ty] at h5
    exfalso
    omega
   have h5:=of_decide_eq_false r5
   try simp only [ty] at h5
   refine fl ?_;refine ⟨i + 1, ?_, ?_, ?_⟩
   · show i + 1 ≤ _;omega
   · first | omega | (dsimp only;omega)
   exact ⟨⟨⟨_,rfl,(coi (by rw [hst];omega))⟩,zy,c9,c9,c9,c9,trivial⟩,trivial⟩
  have h4:=of_decide_eq_false r4
  try simp only [ty] at h4
  obtain rfl:i = l.length:=by omega
  rw [List.take_length] at *
  refine w_3 ?_;refine m9 0 ?_;refine w_4 ?_;refine b5 rfl rfl rfl rfl rfl rfl b4y (bbj 0 (l.length - 1 + szB l) (by omega)) (⟨zg.refl _,CoP.of_eq (by congr 2;omega),trivial⟩) ⟨u9,trivial⟩ rfl rfl ?_
  refine w_6 ?_
  refine b5 rfl rfl rfl rfl rfl rfl nb (nj 0 false [] (l.getD 0 default) (by have:=a60 (l:=l) (i:=0) (by omega);show 0 + (l.getD 0 default).size ≤ _;omega)) (cn.refl _) ⟨u9,trivial⟩ rfl rfl ?_
  refine d7 ?_
  refine aj (ι:=Nat) ⟨[(1,some _),(8,some _),(63,some _),(64,some _)],[]⟩ ⟨⟨c9,c9,c9,c9,trivial⟩,trivial⟩ (fun k=>⟨[(65,some (vI k))],[(0,some (bd false (oc l sep k)))]⟩) (fun k=>k ≤ l.length - 1) (fun k=>l.length - k) (0) (Nat.zero_le _) ⟨⟨zy,trivial⟩,⟨⟨_,rfl,(CoO.of_eq (by rw [b8o]))⟩,trivial⟩⟩ ?_
  rintro k hk0
  refine w_5 ?_;refine a6 _ rfl (fun r6=>?_) (fun r6=>?_)
  ·
   have h6:=of_decide_eq_true r6
   try simp only [ty] at h6
   have hk:1 + k < l.length:=by simp only [dq,b4] at *;omega
   refine fl ?_;refine b5 rfl rfl rfl rfl rfl rfl nb (nj 0 false (oc l sep k) sep (by have:=hA k;omega)) (cn.refl _) ⟨u9,trivial⟩ rfl rfl ?_;refine w_3 ?_
   refine b5 rfl rfl rfl rfl rfl rfl nb (nj 0 false ((oc l sep k) ++ bL sep) (l.getD (1 + k) default) (by have:=hA k;have:=a60 hk;rw [List.length_append,a7j];omega)) (cn.refl _) ⟨u9,trivial⟩ rfl rfl ?_
   refine w_5 ?_;refine ⟨k + 1, ?_, ?_, ?_⟩
   · show k + 1 ≤ _;omega
   · first | omega | (dsimp only;omega)
   exact ⟨⟨zy,c9,c9,c9,c9,trivial⟩,⟨⟨_,rfl,(CoO.of_eq (by rw [aab hk]))⟩,trivial⟩⟩
  have h6:=of_decide_eq_false r6
  try simp only [ty] at h6
  obtain rfl:k = l.length - 1:=by simp only [dq,b4] at *;omega
  refine w_3 ?_
  have hne:oc l sep (l.length - 1) ≠ []:=by
   obtain ⟨q,hq⟩:∃ q,l.length - 1 = q + 1:=⟨l.length - 2,by omega⟩
   rw [hq,aab (by omega)]
   intro e
   have:=congrArg List.length e
   simp only [List.length_append,a7j,List.length_nil] at this
   omega
  refine b5 rfl rfl rfl rfl rfl rfl amu (aza 0 false (oc l sep (l.length - 1)) hne) (cn.refl _) ⟨u9,trivial⟩ rfl rfl ?_;refine w_2 ?_
  exact hx8 rfl rfl rfl (⟨CoC.one (CoP.of_eq (by rw [← avu sep (by intro e;subst e;simp at *)])),trivial⟩)
 have h2:=of_decide_eq_false r2
 try simp only [ty] at h2
 exfalso
 omega
end Go.Hx
end
section
namespace Go.Hx
open Go.Proofs
set_option maxRecDepth 100000
theorem bat:ae Tryz.prog 55 [pA 0] (ai [pP (il [])]):=by
 have h:=a9y 0
 rw [a7e] at h
 exact h
theorem aez {ns:List Bs} {q:List Nat} {i:Nat} (h:i < q.length):(q.take (i + 1)).map (fun k=>ns.getD k default) = (q.take i).map (fun k=>ns.getD k default) ++ [ns.getD (q.getD i default) default]:=by
 rw [List.take_succ,List.getElem?_eq_getElem h,List.map_append,List.getD_eq_getElem?_getD (l:=q),List.getElem?_eq_getElem h]
 rfl
theorem b68:goodFn Tryz.prog 51:=⟨Tryz.f51,Tryz.func51,by kernel_rfl,by kernel_rfl⟩
theorem b2g (ns:List Bs) (hl:∀ b ∈ ns,b.size ≤ maxLen):ae Tryz.prog 51 [pA 0,pP (bsl ns)] (ai [pS ⟨#[]⟩,pI (jw ns)]):=by
 refine a8 (nt:=36) a7 Tryz.func51 rfl rfl l9 ?_;refine w_9 ?_;refine rc rfl rfl rfl rfl rfl rfl b4r (bcd ns hl) (CoL.refl _) rfl rfl ?_;refine w_7 ?_;refine a6 _ rfl (fun r0=>?_) (fun r0=>?_)
 ·
  have h0:=r0
  have h0:=of_decide_eq_false (ap h0)
  try simp only [ty] at h0
  refine w_6 ?_
  exact hx8 rfl rfl rfl (CoL.refl _)
 have h0:=r0
 have h0:=of_decide_eq_true (am h0)
 try simp only [ty] at h0
 refine w_9 ?_;refine rc rfl rfl rfl rfl rfl rfl xk (bat) (CoL.refl _) rfl rfl ?_;refine w_4 ?_
 refine aj (ι:=Unit) ⟨[(1,some _),(16,some _),(17,some _)],[]⟩ ⟨⟨c9,c9,c9,trivial⟩,trivial⟩ (fun x=>⟨[(7,some (.v (.one (.p (.sl 0 0 true fun _ _=>.any))))),(18,some (vI 0))],[]⟩) (fun x=>True) (fun x=>0) (()) (trivial) ⟨⟨zy,zy,trivial⟩,trivial⟩ ?_
 rintro _ _
 refine w_5 ?_;refine a6 _ rfl (fun r1=>?_) (fun r1=>?_)
 ·
  have h1:=of_decide_eq_true r1
  try simp only [ty] at h1
  exfalso
  exact absurd h1 (by simp)
 have h1:=of_decide_eq_false r1
 try simp only [ty] at h1
 refine w_4 ?_;refine rc rfl rfl rfl rfl rfl rfl an5 (az3 [] ⟨#[32]⟩ rfl (by decide) (by decide)) (⟨CoC.one coN,CoC.refl _,trivial⟩) rfl rfl ?_;refine w_3 ?_
 exact hx8 rfl rfl rfl (⟨CoC.refl _,cci (by omega),trivial⟩)
theorem a6a:goodFn Tryz.prog 54:=⟨Tryz.f54,Tryz.func54,by kernel_rfl,by kernel_rfl⟩
theorem abf (s:AS) (ns:List Bs) (hm:∀ i ∈ al s,i < ns.length) (hsz:∀ b ∈ ns,b.size ≤ 1000):ae Tryz.prog 54 [pA s,pP (bx (bsl ns))] (ai [pS (txT ns s)]):=by
 refine a8 (nt:=27) a7 Tryz.func54 rfl rfl l9 ?_;refine d7 ?_
 have h32:=ko s
 refine w_2 ?_;refine rc rfl rfl rfl rfl rfl rfl xk (a9y s) (CoL.refl _) rfl rfl ?_;refine w_4 ?_
 refine dy 4 900 true 1 9 (lf bsC []) (by decide) rfl (CoP.sl rfl (.inr rfl) (fun h=>h) (fun i j hi _=>absurd hi (Nat.not_lt_zero i))) (.inr rfl) rfl ?_
 refine aj (ι:=Nat) ⟨[(1,some _),(8,some _),(9,some _)],[]⟩ ⟨⟨c9,c9,c9,trivial⟩,trivial⟩ (fun i=>⟨[(4,some (.v (.one (.ref 900 (((al s).take i).map fun k=>ns.getD k default).length)))),(10,some (vI i))],[(900,some (.arr true 1 9 (((al s).take i).map fun k=>ns.getD k default).length (lf bsC (((al s).take i).map fun k=>ns.getD k default))))]⟩) (fun i=>i ≤ (al s).length) (fun i=>(al s).length - i) (0) (Nat.zero_le _) ⟨⟨zy,zy,trivial⟩,⟨u9,trivial⟩⟩ ?_
 rintro i hi
 have hlen:(((al s).take i).map fun k=>ns.getD k default).length ≤ 32:=by rw [List.length_map,List.length_take];omega
 refine w_5 ?_;refine a6 _ rfl (fun r0=>?_) (fun r0=>?_)
 ·
  have h0:=of_decide_eq_true r0
  try simp only [ty] at h0
  have hil:i < (al s).length:=by omega
  have hk:(al s).getD i default < ns.length:=hm _ (da hil)
  refine ld ?_;refine rq rfl rfl rfl rfl rfl ?_ (hp:=⟨rfl,Int.natCast_nonneg _,Int.ofNat_lt.2 hk⟩);refine qy ?_;refine m9 0 ?_;refine ra 1 true rfl rfl rfl rfl rfl rfl ?_;refine w_6 ?_;refine ⟨i + 1, ?_, ?_, ?_⟩
  · show i + 1 ≤ _;omega
  · first | omega | (dsimp only;omega)
  exact ⟨⟨⟨_,rfl,(d8 (aez hil))⟩,zy,c9,c9,c9,trivial⟩,⟨⟨_,rfl,(dt (aez hil) (CoP.refl _))⟩,trivial⟩⟩
 have h0:=of_decide_eq_false r0
 try simp only [ty] at h0
 obtain rfl:i = (al s).length:=by omega
 rw [List.take_length] at hlen ⊢
 refine w_8 ?_;refine a6 _ rfl (fun r1=>?_) (fun r1=>?_)
 ·
  have h1:=of_decide_eq_true r1
  try simp only [ty] at h1
  refine w_4 ?_
  exact hx8 rfl rfl rfl (⟨CoC.one (CoP.of_eq (by rw [show txT ns s = ⟨#[45]⟩ from if_pos (by unfold qw;omega)];rfl)),trivial⟩)
 have h1:=of_decide_eq_false r1
 try simp only [ty] at h1
 refine w_4 ?_;refine rc rfl rfl rfl rfl rfl rfl an5 (az3 (qw ns s) ⟨#[44]⟩ rfl (by unfold qw;rw [List.length_map];omega) (by have:=acg (s:=s) hsz;omega)) (CoL.refl _) rfl rfl ?_;refine w_2 ?_
 exact hx8 rfl rfl rfl (⟨CoC.one (CoP.of_eq (by rw [show txT ns s = a34 (qw ns s) ⟨#[44]⟩ from if_neg (by unfold qw;omega)])),trivial⟩)
theorem b1g:goodFn Tryz.prog 119:=⟨Tryz.f119,Tryz.func119,by kernel_rfl,by kernel_rfl⟩
theorem bd5 (s p:AS) (l:List Fd):ae Tryz.prog 119 [pA s,pP (bx (asC p)),pP (bx (fdl l))] (ai [pB (pkV l p s)]):=by
 refine a8 (nt:=11) a7 Tryz.func119 rfl rfl l9 ?_;refine w_5 ?_;refine bp (E:=bm) a7 ax [0,1,2,3,4,5,6] ?_;refine w_3 ?_
 refine rc rfl rfl rfl rfl rfl rfl od (sc l s) (CoL.refl _) rfl rfl ?_;refine w_4 ?_;refine ⟨by kernel_rfl, ?_⟩
 exact hx8 rfl rfl rfl (⟨ccb (by unfold pkV;exact congrArg (!·) (decide_eq_decide.2 (by rw [jd,show (0:Int) = asI 0 from rfl,c6]))),trivial⟩)
theorem b1o:goodFn Tryz.prog 170:=⟨Tryz.f170,Tryz.func170,by kernel_rfl,by kernel_rfl⟩
theorem baj (a b:AS):ae Tryz.prog 170 [pA a,pA b] (ai [pB (ae5 a b)]):=by
 refine a8 (nt:=9) a7 Tryz.func170 rfl rfl l9 ?_;refine fl ?_
 exact hx8 rfl rfl rfl (⟨ccb (decide_eq_decide.2 l7),trivial⟩)
theorem b2v:goodFn Tryz.prog 121:=⟨Tryz.f121,Tryz.func121,by kernel_rfl,by kernel_rfl⟩
theorem aoh (l:List AS) (hl:l.length ≤ 8589934592):ae Tryz.prog 121 [pP (asl l)] (ai [pP (asl (acm l))]):=by
 refine a8 (nt:=5) a7 Tryz.func121 rfl rfl l9 ?_;refine w_7 ?_;refine rc rfl rfl rfl rfl rfl rfl ai5 (azx l hl 170 0 _ ae5 b1o (fun a b=>baj a b)) (CoL.refl _) rfl rfl ?_;refine w_2 ?_
 exact hx8 rfl rfl rfl (CoL.refl _)
theorem b6a:goodFn Tryz.prog 58:=⟨Tryz.f58,Tryz.func58,by kernel_rfl,by kernel_rfl⟩
theorem cPk (l:List Fd) (p:AS):ae Tryz.prog 58 [pP (fdl l),pA p] (ai [pP (asl (pkL l p))]):=by
 refine a8 (nt:=12) a7 Tryz.func58 rfl rfl l9 ?_;refine sx7 ?_;refine m9 0 ?_;refine m9 1 ?_;refine w_3 ?_;refine cg 3 rfl rfl rfl ?_;refine cg 2 rfl rfl rfl ?_;refine w_2 ?_
 refine b5 rfl rfl rfl rfl rfl rfl a2o (amt p) (cn.refl _) trivial rfl rfl ?_;refine qy ?_
 refine b5 rfl rfl rfl rfl rfl rfl a9q ((ajh (bi p) 119 2 (fun i=>[bx (asC p),bx (fdl l)].getD i .any) (pkV l p) b1g (fun x=>bd5 x p l)).swap 900 901) (cn.refl _) ⟨u9,trivial⟩ rfl rfl ?_;refine w_5 ?_
 refine rc rfl rfl rfl rfl rfl rfl b2v (aoh ((bi p).filter fun s=>!pkV l p s) (Nat.le_trans (List.length_filter_le _ _) (Nat.le_trans (w8 p) (by decide)))) (CoL.refl _) rfl rfl ?_;refine w_2 ?_
 exact hx8 rfl rfl rfl (CoL.refl _)
end Go.Hx
end
section
namespace Go.Hx
open Go.Proofs
set_option maxRecDepth 100000
set_option maxHeartbeats 1000000
theorem b6b:goodFn Tryz.prog 23:=⟨Tryz.f23,Tryz.func23,by kernel_rfl,by kernel_rfl⟩
theorem b5o (ns:List Bs) (l m:List Fd) (ps:List AS) (c:Int) (sts:PV) (hsz:∀ b ∈ ns,b.size ≤ 1000):ae Tryz.prog 23 [pP (bsl ns),pP (fdl l),pP (fdl m), .agg [asl ps, .raw (.int .i64 c),sts]] (ai [pS (a8s ns l m ps c),pI (oz ns l m ps)]):=by
 refine a8 (nt:=128) a7 Tryz.func23 rfl rfl l9 ?_;refine sx7 ?_;refine m9 0 ?_;refine m9 1 ?_;refine w_7 ?_
 refine rc rfl rfl rfl rfl rfl rfl b68 (b2g ns (fun b hb=>Nat.le_trans (hsz b hb) (by decide))) (CoL.refl _) rfl rfl ?_;refine ez ?_;refine a6 _ rfl (fun r0=>?_) (fun r0=>?_)
 ·
  have h0:=r0
  have h0:=of_decide_eq_false (ap h0)
  try simp only [ty] at h0
  refine w_7 ?_;refine ⟨.inr rfl, ?_⟩
  have hr:=b7e (l:=l) (m:=m) (ps:=ps) (c:=c) h0
  exact f9 rfl rfl (⟨CoC.one (CoP.of_eq (by rw [hr.2];rfl)),cci hr.1.symm,trivial⟩)
 have h0:=r0
 have h0:=of_decide_eq_true (am h0)
 try simp only [ty] at h0
 refine ld ?_;refine rc rfl rfl rfl rfl rfl rfl apz (aik ns.length ps) (CoL.refl _) rfl rfl ?_;refine w_7 ?_;refine a6 _ rfl (fun r1=>?_) (fun r1=>?_)
 ·
  have h1:=r1
  have h1:=of_decide_eq_false (ap h1)
  try simp only [ty] at h1
  refine w_7 ?_;refine ⟨.inr rfl, ?_⟩
  have hr:=b7m (l:=l) (m:=m) (c:=c) h0 h1
  exact f9 rfl rfl (⟨CoC.one (CoP.of_eq (by rw [hr.2];rfl)),cci hr.1.symm,trivial⟩)
 have h1:=r1
 have h1:=of_decide_eq_true (am h1)
 try simp only [ty] at h1
 refine w_7 ?_;refine rc rfl rfl rfl rfl rfl rfl y4 (uc ns.length l m) (CoL.refl _) rfl rfl ?_;refine w_7 ?_;refine a6 _ rfl (fun r2=>?_) (fun r2=>?_)
 ·
  have h2:=r2
  have h2:=of_decide_eq_false (ap h2)
  try simp only [ty] at h2
  refine w_7 ?_;refine ⟨.inr rfl, ?_⟩
  have hr:=b6g (c:=c) h0 h1 h2
  exact f9 rfl rfl (⟨CoC.one (CoP.of_eq (by rw [hr.2];rfl)),cci hr.1.symm,trivial⟩)
 have h2:=r2
 have h2:=of_decide_eq_true (am h2)
 try simp only [ty] at h2
 refine w_2 ?_;refine cg 4 rfl rfl rfl ?_;refine cg 7 rfl rfl rfl ?_
 have he:jw ns = 0:=h0
 have hv:lvE ns.length ps = 0:=h1
 have hb:bw ns.length l m = 0:=h2
 obtain ⟨hn0,hn8,h64,_,_⟩:=kw hv
 obtain ⟨_,_,hl64,hall,_,_⟩:=mi hb
 have hx:=ban hsz
 have hP:∀ i,(fb ns l ps i).length ≤ 134400000000:=fun i=>ajf hsz (fun p hp=>abg hv hp) h64
 have hin:∀ f ∈ l,sub f.lhs (ar ns.length) ∧ sub f.rhs (ar ns.length):=fun f hf=>by
  have:=(b5l hn0 (by omega)).1 (List.all_eq_true.1 hall f hf)
  exact ⟨ji un this,ji zz this⟩
 have hmem:∀ s,sub s (ar ns.length) → ∀ i ∈ al s,i < ns.length:=fun s hs i hi=>b59 (by omega) hs hi
 refine w_6 ?_;refine m9 2 ?_;refine d7 ?_
 refine aj (ι:=Nat) ⟨[(1,some _),(7,some _),(15,some _),(16,some _),(51,some _),(52,some _)],[]⟩ ⟨⟨c9,c9,c9,c9,c9,c9,trivial⟩,trivial⟩ (fun i=>⟨[(53,some (vI i))],[(2,some (bd false (fb ns l ps i)))]⟩) (fun i=>i ≤ ps.length) (fun i=>ps.length - i) (0) (Nat.zero_le _) ⟨⟨zy,trivial⟩,⟨⟨_,rfl,⟨fun h=>(by cases h),rfl,rfl,rfl⟩⟩,trivial⟩⟩ ?_
 rintro i hi
 refine w_5 ?_;refine a6 _ rfl (fun r3=>?_) (fun r3=>?_)
 ·
  have h3:=of_decide_eq_true r3
  try simp only [ty] at h3
  have hil:i < ps.length:=by omega
  have hmp:(ps.getD i default) ∈ ps:=da hil
  have hps:sub (ps.getD i default) (ar ns.length):=aca hv hmp
  refine ld ?_;refine rc rfl rfl rfl rfl rfl rfl a6a (abf (ps.getD i default) ns (hmem _ hps) hsz) (CoL.refl _) rfl rfl ?_
  refine rq rfl rfl rfl rfl rfl ?_ (hp:=(by have h2:=hx (ps.getD i default);show 5 + _ ≤ _;omega));refine rq rfl rfl rfl rfl rfl ?_ (hp:=(by have h2:=hx (ps.getD i default);rw [szA];show 5 + _ + 5 ≤ _;omega))
  refine b5 rfl rfl rfl rfl rfl rfl nb (nj 2 false (fb ns l ps i) ((⟨#[112,97,114,116,32]⟩ ++ txT ns (ps.getD i default)) ++ ⟨#[32,107,101,121,115]⟩) (by have h1:=hP i;have h2:=hx (ps.getD i default);rw [szA,szA];show _ + (5 + _ + 5) ≤ _;omega)) (cn.refl _) ⟨u9,trivial⟩ rfl rfl ?_
  refine w_6 ?_;refine rc rfl rfl rfl rfl rfl rfl b6a (cPk l (ps.getD i default)) (CoL.refl _) rfl rfl ?_;refine w_4 ?_
  refine aj (ι:=Nat) ⟨[(1,some _),(7,some _),(15,some _),(16,some _),(51,some _),(52,some _),(53,some _),(65,some _),(66,some _)],[]⟩ ⟨⟨c9,c9,c9,c9,c9,c9,c9,c9,c9,trivial⟩,trivial⟩ (fun k=>⟨[(67,some (vI k))],[(2,some (bd false (((fb ns l ps i) ++ pg ns (ps.getD i default)) ++ kx ns (pkL l (ps.getD i default)) k)))]⟩) (fun k=>k ≤ (pkL l (ps.getD i default)).length) (fun k=>(pkL l (ps.getD i default)).length - k) (0) (Nat.zero_le _) ⟨⟨zy,trivial⟩,⟨⟨_,rfl,(CoO.of_eq (by rw [b51]))⟩,trivial⟩⟩ ?_
  rintro k hk
  refine w_5 ?_;refine a6 _ rfl (fun r4=>?_) (fun r4=>?_)
  ·
   have h4:=of_decide_eq_true r4
   try simp only [ty] at h4
   have hkk:k < (pkL l (ps.getD i default)).length:=by omega
   have hkey:sub ((pkL l (ps.getD i default)).getD k default) (ar ns.length):=ji (b5s (da hkk)) hps
   have hpl:=a7s (l:=l) (abg hv hmp)
   refine fl ?_;refine rc rfl rfl rfl rfl rfl rfl a6a (abf ((pkL l (ps.getD i default)).getD k default) ns (hmem _ hkey) hsz) (CoL.refl _) rfl rfl ?_
   refine rq rfl rfl rfl rfl rfl ?_ (hp:=(by have h2:=hx ((pkL l (ps.getD i default)).getD k default);show 1 + _ ≤ _;omega))
   refine b5 rfl rfl rfl rfl rfl rfl nb (nj 2 false (((fb ns l ps i) ++ pg ns (ps.getD i default)) ++ kx ns (pkL l (ps.getD i default)) k) (⟨#[32]⟩ ++ txT ns ((pkL l (ps.getD i default)).getD k default)) (by have h1:=hP i;have h2:=hx ((pkL l (ps.getD i default)).getD k default);have h3:=a1f hsz (ps.getD i default);have h4:=a18 (i:=k) (ks:=(pkL l (ps.getD i default))) hsz;have h5:=a7s (l:=l) (abg hv hmp);rw [szA,List.length_append,List.length_append];show _ + (1 + _) ≤ _;omega)) (cn.refl _) ⟨u9,trivial⟩ rfl rfl ?_
   refine w_5 ?_;refine ⟨k + 1, ?_, ?_, ?_⟩
   · show k + 1 ≤ _;omega
   · first | omega | (dsimp only;omega)
   exact ⟨⟨zy,c9,c9,c9,c9,c9,c9,c9,c9,c9,trivial⟩,⟨⟨_,rfl,(CoO.of_eq (by rw [b8v hkk]))⟩,trivial⟩⟩
  have h4:=of_decide_eq_false r4
  try simp only [ty] at h4
  obtain rfl:k = (pkL l (ps.getD i default)).length:=by omega
  refine w_2 ?_
  refine b5 rfl rfl rfl rfl rfl rfl nb (nj 2 false (((fb ns l ps i) ++ pg ns (ps.getD i default)) ++ kx ns (pkL l (ps.getD i default)) (pkL l (ps.getD i default)).length) ⟨#[10]⟩ (by have h1:=hP i;have h3:=a1f hsz (ps.getD i default);have h4:=a18 (i:=(pkL l (ps.getD i default)).length) (ks:=(pkL l (ps.getD i default))) hsz;have h5:=a7s (l:=l) (abg hv hmp);rw [List.length_append,List.length_append];show _ + 1 ≤ _;omega)) (cn.refl _) ⟨u9,trivial⟩ rfl rfl ?_
  refine w_5 ?_;refine ⟨i + 1, ?_, ?_, ?_⟩
  · show i + 1 ≤ _;omega
  · first | omega | (dsimp only;omega)
  exact ⟨⟨zy,c9,c9,c9,c9,c9,c9,trivial⟩,⟨⟨_,rfl,(CoO.of_eq (by rw [b12 hil]))⟩,trivial⟩⟩
 have h3:=of_decide_eq_false r3
 try simp only [ty] at h3
 obtain rfl:i = ps.length:=by omega
 refine w_7 ?_;refine rc rfl rfl rfl rfl rfl rfl alh (azg l ps (by omega)) (CoL.refl _) rfl rfl ?_;refine w_4 ?_
 have hL:∀ j,(i7 ns l (bv l ps l.length) j).length ≤ 4102400:=fun j=>ak7 hsz (Nat.le_trans af1 hl64)
 refine aj (ι:=Nat) ⟨[(1,some _),(7,some _),(15,some _),(16,some _),(82,some _),(83,some _)],[]⟩ ⟨⟨c9,c9,c9,c9,c9,c9,trivial⟩,trivial⟩ (fun j=>⟨[(84,some (vI j))],[(2,some (bd false ((fb ns l ps ps.length) ++ i7 ns l (bv l ps l.length) j)))]⟩) (fun j=>j ≤ (bv l ps l.length).length) (fun j=>(bv l ps l.length).length - j) (0) (Nat.zero_le _) ⟨⟨zy,trivial⟩,⟨⟨_,rfl,(CoO.of_eq (by rw [show i7 ns l (bv l ps l.length) 0 = [] from rfl,List.append_nil]))⟩,trivial⟩⟩ ?_
 rintro j hj
 refine w_5 ?_;refine a6 _ rfl (fun r5=>?_) (fun r5=>?_)
 ·
  have h5:=of_decide_eq_true r5
  try simp only [ty] at h5
  have hjl:j < (bv l ps l.length).length:=by omega
  have hj2:=b0f hjl
  have hls:=Nat.le_trans (af1 (l:=l) (ps:=ps)) hl64
  have hf:=hin (l.getD ((bv l ps l.length).getD j default) default) (da hj2)
  refine w_9 ?_;refine bp (E:=bm) a7 ax [0,1,2,3,4,5,6,7,8,9,10,11,12,13,14,15,16,17,18] ?_;refine w_3 ?_
  refine rq rfl rfl rfl rfl rfl ?_ (hp:=⟨rfl,Int.natCast_nonneg _,Int.ofNat_lt.2 hj2⟩);refine w_2 ?_
  refine rc rfl rfl rfl rfl rfl rfl a6a (abf (l.getD ((bv l ps l.length).getD j default) default).lhs ns (hmem _ hf.1) hsz) (CoL.refl _) rfl rfl ?_
  refine rq rfl rfl rfl rfl rfl ?_ (hp:=(by have h2:=hx (l.getD ((bv l ps l.length).getD j default) default).lhs;show 5 + _ ≤ _;omega))
  refine rq rfl rfl rfl rfl rfl ?_ (hp:=(by have h2:=hx (l.getD ((bv l ps l.length).getD j default) default).lhs;rw [szA];show 5 + _ + 4 ≤ _;omega));refine w_3 ?_
  refine rq rfl rfl rfl rfl rfl ?_ (hp:=⟨rfl,Int.natCast_nonneg _,Int.ofNat_lt.2 hj2⟩);refine w_2 ?_
  refine rc rfl rfl rfl rfl rfl rfl a6a (abf (l.getD ((bv l ps l.length).getD j default) default).rhs ns (hmem _ hf.2) hsz) (CoL.refl _) rfl rfl ?_
  refine rq rfl rfl rfl rfl rfl ?_ (hp:=(by have h2:=hx (l.getD ((bv l ps l.length).getD j default) default).lhs;have h3:=hx (l.getD ((bv l ps l.length).getD j default) default).rhs;rw [szA,szA];show 5 + _ + 4 + _ ≤ _;omega))
  refine rq rfl rfl rfl rfl rfl ?_ (hp:=(by have h2:=hx (l.getD ((bv l ps l.length).getD j default) default).lhs;have h3:=hx (l.getD ((bv l ps l.length).getD j default) default).rhs;rw [szA,szA,szA];show 5 + _ + 4 + _ + 1 ≤ _;omega))
  refine b5 rfl rfl rfl rfl rfl rfl nb (nj 2 false ((fb ns l ps ps.length) ++ i7 ns l (bv l ps l.length) j) ((((⟨#[108,111,115,116,32]⟩ ++ txT ns (l.getD ((bv l ps l.length).getD j default) default).lhs) ++ ⟨#[32,45,62,32]⟩) ++ txT ns (l.getD ((bv l ps l.length).getD j default) default).rhs) ++ ⟨#[10]⟩) (by have h1:=hP ps.length;have h2:=hx (l.getD ((bv l ps l.length).getD j default) default).lhs;have h3:=hx (l.getD ((bv l ps l.length).getD j default) default).rhs;have h4:=hL j;rw [szA,szA,szA,szA,List.length_append];show _ + (5 + _ + 4 + _ + 1) ≤ _;omega)) (cn.refl _) ⟨u9,trivial⟩ rfl rfl ?_
  refine b8 ?_;refine ⟨by kernel_rfl, ?_⟩;refine w_4 ?_;refine ⟨j + 1, ?_, ?_, ?_⟩
  · show j + 1 ≤ _;omega
  · first | omega | (dsimp only;omega)
  exact ⟨⟨zy,c9,c9,c9,c9,c9,c9,trivial⟩,⟨⟨_,rfl,(CoO.of_eq (by rw [b27 hjl _ rfl]))⟩,trivial⟩⟩
 have h5:=of_decide_eq_false r5
 try simp only [ty] at h5
 obtain rfl:j = (bv l ps l.length).length:=by omega
 refine w_3 ?_
 refine b5 rfl rfl rfl rfl rfl rfl nb (nj 2 false ((fb ns l ps ps.length) ++ i7 ns l (bv l ps l.length) (bv l ps l.length).length) ⟨#[99,108,97,105,109,115]⟩ (by have h1:=hP ps.length;have h4:=hL (bv l ps l.length).length;rw [List.length_append];show _ + 6 ≤ _;omega)) (cn.refl _) ⟨u9,trivial⟩ rfl rfl ?_
 refine w_4 ?_;refine m9 3 ?_;refine w_4 ?_;refine bt 109 rfl rfl rfl ?_
 refine aj (ι:=Nat) ⟨[(7,some _),(16,some _),(110,some _)],[]⟩ ⟨⟨c9,c9,c9,trivial⟩,trivial⟩ (fun i=>⟨[(109,some (.v (.one (.p (bsl im))))),(111,some (vI i))],[(2,some (bd false ((((fb ns l ps ps.length) ++ i7 ns l (bv l ps l.length) (bv l ps l.length).length) ++ [99,108,97,105,109,115]) ++ gl c i)))]⟩) (fun i=>i ≤ 5) (fun i=>5 - i) (0) (by omega) ⟨⟨⟨_,rfl,(show CoP _ _ from CoP.sl rfl (.inl rfl) (fun h=>by cases h) fun i j hi hj=>by have hj:j < 1:=hj;obtain rfl:j = 0:=(by omega);exact CoP.of_eq (awp (f:=fun a b=>(im.map fun b=>j3 (.string b)).getD (a * 1 + b) .any) hi rfl rfl rfl rfl rfl))⟩,zy,trivial⟩,⟨⟨_,rfl,(CoO.of_eq (by rw [show gl c 0 = [] from rfl,List.append_nil]))⟩,trivial⟩⟩ ?_
 rintro i hi
 refine w_5 ?_;refine a6 _ rfl (fun r6=>?_) (fun r6=>?_)
 ·
  have h6:=of_decide_eq_true r6
  try simp only [ty] at h6
  have hi5:i < 5:=by have:(i:Int) < 5:=h6;omega
  refine aya ?_;refine a6 _ rfl (fun r7=>?_) (fun r7=>?_)
  ·
   have h7:=of_decide_eq_true r7
   try simp only [ty] at h7
   have hbit:a74 c i = true:=decide_eq_true h7
   refine w_2 ?_;refine rq rfl rfl rfl rfl rfl ?_ (hp:=(by have h6:=ado hi5;show 1 + (im.getD i default).size ≤ _;omega))
   refine b5 rfl rfl rfl rfl rfl rfl nb (nj 2 false ((((fb ns l ps ps.length) ++ i7 ns l (bv l ps l.length) (bv l ps l.length).length) ++ [99,108,97,105,109,115]) ++ gl c i) (⟨#[32]⟩ ++ im.getD i default) (by have h1:=hP ps.length;have h4:=hL (bv l ps l.length).length;have h5:=a49 (c:=c) (i:=i) (by omega);have h6:=ado hi5;rw [szA,List.length_append,List.length_append,List.length_append];show _ + 6 + _ + (1 + _) ≤ _;omega)) (cn.refl _) ⟨u9,trivial⟩ rfl rfl ?_
   refine w_5 ?_
   first | (refine ⟨i + 1, ?_, ?_, ?_⟩
            · show i + 1 ≤ _;omega
            · first | omega | (dsimp only;omega)
            exact ⟨⟨c9,zy,c9,c9,c9,trivial⟩,⟨⟨_,rfl,(CoO.of_eq (by rw [aq7 hbit]))⟩,trivial⟩⟩)
         | (refine ⟨i + 1, ?_, ?_, ?_⟩
            · show i + 1 ≤ _;omega
            · first | omega | (dsimp only;omega)
            exact ⟨⟨c9,zy,c9,c9,c9,trivial⟩,⟨⟨_,rfl,(CoO.of_eq (by rw [← am4 hbit]))⟩,trivial⟩⟩)
  have h7:=of_decide_eq_false r7
  try simp only [ty] at h7
  have hbit:a74 c i = false:=decide_eq_false h7
  refine w_5 ?_
  first | (refine ⟨i + 1, ?_, ?_, ?_⟩
           · show i + 1 ≤ _;omega
           · first | omega | (dsimp only;omega)
           exact ⟨⟨c9,zy,c9,c9,c9,trivial⟩,⟨⟨_,rfl,(CoO.of_eq (by rw [aq7 hbit]))⟩,trivial⟩⟩)
        | (refine ⟨i + 1, ?_, ?_, ?_⟩
           · show i + 1 ≤ _;omega
           · first | omega | (dsimp only;omega)
           exact ⟨⟨c9,zy,c9,c9,c9,trivial⟩,⟨⟨_,rfl,(CoO.of_eq (by rw [← am4 hbit]))⟩,trivial⟩⟩)
 have h6:=of_decide_eq_false r6
 try simp only [ty] at h6
 obtain rfl:i = 5:=by have:¬ (i:Int) < 5:=h6;omega
 refine w_3 ?_
 refine b5 rfl rfl rfl rfl rfl rfl nb (nj 2 false ((((fb ns l ps ps.length) ++ i7 ns l (bv l ps l.length) (bv l ps l.length).length) ++ [99,108,97,105,109,115]) ++ gl c 5) ⟨#[10]⟩ (by have h1:=hP ps.length;have h4:=hL (bv l ps l.length).length;have h5:=a49 (c:=c) (i:=5) (by omega);rw [List.length_append,List.length_append,List.length_append];show _ + 6 + _ + 1 ≤ _;omega)) (cn.refl _) ⟨u9,trivial⟩ rfl rfl ?_
 refine w_3 ?_;refine b5 rfl rfl rfl rfl rfl rfl amu (aza 2 false (adk ns l ps c) (by unfold adk;exact List.append_ne_nil_of_right_ne_nil _ (by simp))) (cn.refl _) ⟨u9,trivial⟩ rfl rfl ?_;refine w_4 ?_
 refine ⟨.inr rfl, ?_⟩
 have hr:=b8k (c:=c) he hv hb
 exact f9 rfl rfl (⟨CoC.one (CoP.of_eq (by rw [hr.2];rfl)),cci hr.1.symm,trivial⟩)
end Go.Hx
end
section
namespace Go.Hx
set_option maxRecDepth 100000
section
variable {n:Int} {l m:List Fd} {q:List Fd} {i:Nat}
def evT (q:List Fd) (i:Nat):List Fd:=((List.range i).filter fun k=>decide (((k:Nat):Int) % 2 = 0)).map fun k=>q.getD k default
def odT (q:List Fd) (i:Nat):List Fd:=((List.range i).filter fun k=>!decide (((k:Nat):Int) % 2 = 0)).map fun k=>q.getD k default
theorem b9l:(evT q i).length ≤ i:=by
 unfold evT
 rw [List.length_map]
 exact Nat.le_trans (List.length_filter_le _ _) (by rw [List.length_range];exact Nat.le_refl _)
theorem b7k:(odT q i).length ≤ i:=by
 unfold odT
 rw [List.length_map]
 exact Nat.le_trans (List.length_filter_le _ _) (by rw [List.length_range];exact Nat.le_refl _)
theorem bco (h:(i:Int) % 2 = 0):evT q (i + 1) = evT q i ++ [q.getD i default] ∧ odT q (i + 1) = odT q i:=by
 unfold evT odT
 rw [List.range_succ,List.filter_append,List.filter_append,List.map_append,List.map_append]
 simp [h]
theorem bch (h:¬ (i:Int) % 2 = 0):evT q (i + 1) = evT q i ∧ odT q (i + 1) = odT q i ++ [q.getD i default]:=by
 unfold evT odT
 rw [List.range_succ,List.filter_append,List.filter_append,List.map_append,List.map_append]
 simp [h]
theorem b83 (h:¬ jq n l m = 0):¬ lsC n [1] l m = 0:=fun h2=>by
 obtain ⟨hv,hb⟩:=xh h2
 obtain ⟨h0,h8,_⟩:=kw hv
 exact h ((abm (by omega)).trans hb)
end
abbrev exC:List Fd:=[⟨1,2⟩,⟨2,4⟩]
abbrev exA:List Fd:=[⟨3,4⟩,⟨4,1⟩]
abbrev exN:List Bs:=[⟨#[97]⟩,⟨#[98]⟩,⟨#[99]⟩]
theorem bbg:(goD 3 exC [] (ju 3 exC [] 3)).1 = [3,6] ∧ (goD 3 exC [] (ju 3 exC [] 3)).2.1 = 31 ∧ goE 3 exC [] (ju 3 exC [] 3) = 0:=by decide +kernel
theorem baq:(goD 3 exA [] (ju 3 exA [] 4)).1 = [5,6] ∧ (goD 3 exA [] (ju 3 exA [] 4)).2.1 = 29 ∧ goE 3 exA [] (ju 3 exA [] 4) = 0:=by decide +kernel
theorem bb9:(goD 3 exA [] (m7 3 exA)).1 = [7] ∧ (goD 3 exA [] (m7 3 exA)).2.1 = 7 ∧ goE 3 exA [] (m7 3 exA) = 0:=by decide +kernel
abbrev avl:List UInt8:=[112,97,114,116,32,97,44,98,32,107,101,121,115,32,97,10,112,97,114,116,32,98,44,99,32,107,101,121,115,32,98,10,99,108,97,105,109,115,32]
abbrev ay8:List UInt8:=[108,111,115,115,108,101,115,115,32,112,114,101,115,101,114,118,105,110,103,32,116,104,105,114,100,32,98,111,121,99,101,32,102,111,117,114,116,104,10]
theorem b9y:oz exN exC [] [3,6] = 0 ∧ adk exN exC [3,6] 31 = List.append avl ay8:=by
 constructor <;> decide +kernel
end Go.Hx
end
