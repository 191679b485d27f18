/- A part of the proof: LyB Bd3 Dw2 Bz1 Bz2 Bz3 Hx27. -/
import Derived.Shelf.Strings.Builder1
import Derived.Test.YtkkenjdfbojdlaaGreatDoorProg
import Derived.Test.YtkkenjdfbojdlaaGreatDoorFx14
import Derived.Test.YtkkenjdfbojdlaaGreatDoorFx16
import Derived.Test.YtkkenjdfbojdlaaGreatDoorFx20
import Derived.Test.YtkkenjdfbojdlaaGreatDoorFx31
import Derived.Test.YtkkenjdfbojdlaaGreatDoorFx33
import Derived.Test.YtkkenjdfbojdlaaGreatDoorFx35
set_option linter.all false
set_option maxRecDepth 100000
section
namespace Go.Proofs
open Go.Shelf
def Tryz.lays169_ren:Go.Shelf.Ren:=⟨fun | 169=>60 | n=>n,fun | 70=>92 | 9=>9 | 0=>0 | 72=>94 | 37=>23 | 127=>153 | 3=>3 | 5=>5 | n=>n,fun | n=>n⟩
theorem Tryz.lays169:Go.Proofs.Lays.n169 Tryz.prog Tryz.lays169_ren:={
 mixed:=by kernel_rfl
 f169:=Tryz.func60.trans (congrArg some (by kernel_rfl))
 t0:=Tryz.underlying0
 a0:=Tryz.isAgg0
 z0:=Tryz.sizeOf0
 v0:=Tryz.zeroValue0
 t3:=Tryz.underlying3
 a3:=Tryz.isAgg3
 z3:=Tryz.sizeOf3
 v3:=Tryz.zeroValue3
 t9:=Tryz.underlying9
 a9:=Tryz.isAgg9
 z9:=Tryz.sizeOf9
 v9:=Tryz.zeroValue9
 t37:=Tryz.underlying23
 a37:=Tryz.isAgg23
 z37:=Tryz.sizeOf23
 v37:=Tryz.zeroValue23
 t70:=Tryz.underlying92
 a70:=Tryz.isAgg92
 z70:=Tryz.sizeOf92
 v70:=Tryz.zeroValue92
 t72:=Tryz.underlying94
 a72:=Tryz.isAgg94
 z72:=Tryz.sizeOf94
 v72:=Tryz.zeroValue94
 t127:=Tryz.underlying153
 a127:=Tryz.isAgg153
 z127:=Tryz.sizeOf153
 v127:=Tryz.zeroValue153 }
theorem Tryz.Builder_Extra_169:Builder.Extra Tryz.prog Tryz.lays169_ren:={
 sizeBuilder:=by kernel_rfl
 liesBuilder:=by kernel_rfl
 t5:=Tryz.underlying5
 a5:=Tryz.isAgg5
 z5:=Tryz.sizeOf5
 v5:=Tryz.zeroValue5
 infoByte:=by kernel_rfl
 cellsByte:=by kernel_rfl
 sizeByte:=by kernel_rfl
 neB5:=by decide }
def Tryz.lays156_ren:Go.Shelf.Ren:=⟨fun | 156=>56 | 165=>115 | 166=>57 | 169=>60 | 240=>116 | 241=>165 | 276=>166 | 277=>212 | n=>n,fun | 31=>57 | 9=>9 | 3=>3 | 4=>4 | 0=>0 | 20=>20 | 72=>94 | 76=>97 | 70=>92 | 37=>23 | 75=>96 | 127=>153 | 164=>178 | 5=>5 | 80=>100 | n=>n,fun | n=>n⟩
theorem Tryz.lays156:Go.Proofs.Lays.n156 Tryz.prog Tryz.lays156_ren:={
 mixed:=by kernel_rfl
 f156:=Tryz.func56.trans (congrArg some (by kernel_rfl))
 f165:=Tryz.func115.trans (congrArg some (by kernel_rfl))
 f166:=Tryz.func57.trans (congrArg some (by kernel_rfl))
 f169:=Tryz.func60.trans (congrArg some (by kernel_rfl))
 f240:=Tryz.func116.trans (congrArg some (by kernel_rfl))
 f241:=Tryz.func165.trans (congrArg some (by kernel_rfl))
 f276:=Tryz.func166.trans (congrArg some (by kernel_rfl))
 f277:=Tryz.func212.trans (congrArg some (by kernel_rfl))
 t0:=Tryz.underlying0
 a0:=Tryz.isAgg0
 z0:=Tryz.sizeOf0
 v0:=Tryz.zeroValue0
 t3:=Tryz.underlying3
 a3:=Tryz.isAgg3
 z3:=Tryz.sizeOf3
 v3:=Tryz.zeroValue3
 t4:=Tryz.underlying4
 a4:=Tryz.isAgg4
 z4:=Tryz.sizeOf4
 v4:=Tryz.zeroValue4
 t9:=Tryz.underlying9
 a9:=Tryz.isAgg9
 z9:=Tryz.sizeOf9
 v9:=Tryz.zeroValue9
 t20:=Tryz.underlying20
 a20:=Tryz.isAgg20
 z20:=Tryz.sizeOf20
 v20:=Tryz.zeroValue20
 t31:=Tryz.underlying57
 a31:=Tryz.isAgg57
 z31:=Tryz.sizeOf57
 v31:=Tryz.zeroValue57
 t37:=Tryz.underlying23
 a37:=Tryz.isAgg23
 z37:=Tryz.sizeOf23
 v37:=Tryz.zeroValue23
 t70:=Tryz.underlying92
 a70:=Tryz.isAgg92
 z70:=Tryz.sizeOf92
 v70:=Tryz.zeroValue92
 t72:=Tryz.underlying94
 a72:=Tryz.isAgg94
 z72:=Tryz.sizeOf94
 v72:=Tryz.zeroValue94
 t75:=Tryz.underlying96
 a75:=Tryz.isAgg96
 z75:=Tryz.sizeOf96
 v75:=Tryz.zeroValue96
 t76:=Tryz.underlying97
 a76:=Tryz.isAgg97
 z76:=Tryz.sizeOf97
 v76:=Tryz.zeroValue97
 t127:=Tryz.underlying153
 a127:=Tryz.isAgg153
 z127:=Tryz.sizeOf153
 v127:=Tryz.zeroValue153
 t164:=Tryz.underlying178
 a164:=Tryz.isAgg178
 z164:=Tryz.sizeOf178
 v164:=Tryz.zeroValue178 }
theorem Tryz.Builder_Extra_156:Builder.Extra Tryz.prog Tryz.lays156_ren:={
 sizeBuilder:=by kernel_rfl
 liesBuilder:=by kernel_rfl
 t5:=Tryz.underlying5
 a5:=Tryz.isAgg5
 z5:=Tryz.sizeOf5
 v5:=Tryz.zeroValue5
 infoByte:=by kernel_rfl
 cellsByte:=by kernel_rfl
 sizeByte:=by kernel_rfl
 neB5:=by decide }
end Go.Proofs
end
namespace Go.Hx
section
open Go.Shelf Go.RowKit Go.Proofs
abbrev tB:TypeId:=94
abbrev tC:TypeId:=5
abbrev bd (fr:Bool) (l:List UInt8):ai:=.bld fr tB tC (Lib.byteCells l)
theorem o9:goodFn Tryz.prog 57:=⟨Tryz.f57,Tryz.func57,by kernel_rfl,by kernel_rfl⟩
theorem apk:goodFn Tryz.prog 60:=⟨Tryz.f60,Tryz.func60,by kernel_rfl,by kernel_rfl⟩
theorem azl:goodFn Tryz.prog 115:=⟨Tryz.f115,Tryz.func115,by kernel_rfl,by kernel_rfl⟩
theorem ad6 {v:Value} (h:∃ a m c,v = .slice a m c):v.ownBlock = cw v:=by
 obtain ⟨a,m,c,rfl⟩:=h
 cases a <;> rfl
theorem ade (l:List UInt8) (s:ByteArray):Lib.byteCells l ++ Lib.strCells s = Lib.byteCells (l ++ s.data.toList):=by
 simp [Lib.byteCells,Lib.strCells]
theorem afd {c:Ctx} {w:World} {id:Nat} {fr:Bool} {T e:TypeId} {l:List Value} (h:ay0 0 c w id fr T e l) :
 ∃ b p v,c.own id = .pointer (some ⟨b,0,none⟩) ∧ BAt T e b p v l w ∧ (p = .pointer none ∨ p = .pointer (some ⟨b,0,none⟩)) ∧ (∀ k,c.blk id k ↔ k = b ∨ v.ownBlock = some k) ∧ (fr = true → p = .pointer none ∧ v = .slice none 0 0):=by
 obtain ⟨b,p,v,h1,_,h3,h4,h5,h6,h7,h8⟩:=h
 have e:=ad6 (aam h5).1
 exact ⟨b,p,v,h1,⟨h3,h5,by rw [e];exact h6⟩,h4,fun k=>by rw [e];exact h7 k,h8⟩
theorem afw {c:Ctx} {w w':World} {id b:Nat} {fr:Bool} {T e:TypeId} {v v':Value} {l l':List Value} {r:Value} {res:HR} (hM:Mem c (lk [(id, .bld fr T e l)]) w) (hown:c.own id = .pointer (some ⟨b,0,none⟩)) (hblk:∀ k,c.blk id k ↔ k = b ∨ v.ownBlock = some k)
 (hB':BAt T e b (.pointer (some ⟨b,0,none⟩)) v' l' w') (hbel:Below 0 w w') (hfr:∀ k,k < w.heap.size → k ≠ b → v.ownBlock ≠ some k → w'.heap[k]? = w.heap[k]?) (hv':∀ k,v'.ownBlock = some k → v.ownBlock = some k ∨ w.heap.size ≤ k)
 (hres:∀ c' o',av c' o' res r) :
 ∃ v2 c',Ending.returned r = .returned v2 ∧ av c' (lk [(id, .bld false T e l')]) res v2 ∧ Mem c' (lk [(id, .bld false T e l')]) w' ∧ Below 0 w w' ∧
  (∀ b,b < w.heap.size → (∀ id' ob,lk [(id, .bld fr T e l)] id' = some ob → ¬ c.blk id' b) → w'.heap[b]? = w.heap[b]? ∧ c'.imm b = c.imm b) ∧
  (∀ id' ob b,lk [(id, .bld false T e l')] id' = some ob → c'.blk id' b → w.heap.size ≤ b ∨ ∃ id0 ob0,lk [(id, .bld fr T e l)] id0 = some ob0 ∧ c.blk id0 b) ∧
  (∀ id' ∈ [id],Evo c (lk [(id, .bld fr T e l)]) c' (lk [(id, .bld false T e l')]) id'):=by
 have hl1:lk [(id,ai.bld fr T e l)] id = some (.bld fr T e l):=by simp [lk]
 have hl2:lk [(id,ai.bld false T e l')] id = some (.bld false T e l'):=by simp [lk]
 have one:∀ {x:ai} {id':Nat} {ob:ai},lk [(id,x)] id' = some ob → id' = id ∧ ob = x:=fun {x id' ob} h=>⟨(ip h).1,(ip h).2⟩
 have sep:∀ k,k = b ∨ v.ownBlock = some k → c.imm k = none:=fun k hk=>hM.sep id _ k hl1 ((hblk k).2 hk)
 have lt:∀ k ob,c.imm k = some ob → k < w.heap.size:=fun k ob hk=>(Array.getElem?_eq_some_iff.1 (hM.imm k ob hk)).1
 have e':=ad6 (aam hB'.own).1
 refine ⟨r,{ c with blk:=fun k=>if k = id then (fun x=>x = b ∨ v'.ownBlock = some x) else c.blk k },rfl,hres _ _,⟨fun id' ob h=>?_,fun i i' ob ob' k h h' _ _=>?_,fun k ob hk=>?_,fun id' ob k h hk=>?_⟩,hbel,fun k hk hn=>?_,fun id' ob k h hk=>?_,fun id' hid=>?_⟩
 · obtain ⟨rfl,rfl⟩:=one h
   exact ⟨b,_,v',hown,Nat.zero_le _,hB'.heap, .inr rfl,hB'.own,by rw [← e'];exact hB'.ne,fun k=>by simp [e'],fun h=>by cases h⟩
 · rw [(one h).1,(one h').1]
 · have hk':=lt k ob hk
   refine (hfr k hk' (fun e=>?_) fun e=>?_).trans (hM.imm k ob hk)
   · have:=sep k (.inl e);have hk2:c.imm k = some ob:=hk;rw [hk2] at this;cases this
   have:=sep k (.inr e);have hk2:c.imm k = some ob:=hk;rw [hk2] at this;cases this
 · obtain ⟨rfl,rfl⟩:=one h
   simp only [if_true] at hk
   rcases hk with rfl | hk
   · exact sep _ (.inl rfl)
   rcases hv' k hk with h1 | h1
   · exact sep k (.inr h1)
   show c.imm k = none
   cases hi:c.imm k with
   | none=>rfl
   | some ob=>have:=lt k ob hi;omega
 · have hn':=fun h=>hn id _ hl1 ((hblk k).2 h)
   exact ⟨hfr k hk (fun e=>hn' (.inl e)) fun e=>hn' (.inr e),rfl⟩
 · obtain ⟨rfl,rfl⟩:=one h
   simp only [if_true] at hk
   rcases hk with rfl | hk
   · exact .inr ⟨_,_,hl1,(hblk _).2 (.inl rfl)⟩
   rcases hv' k hk with h1 | h1
   · exact .inr ⟨_,_,hl1,(hblk k).2 (.inr h1)⟩
   exact .inl h1
 rw [List.mem_singleton.1 hid]
 exact .inr (.inr ⟨_,_,0,1,0,0,hl1,rfl,hl2,rfl,Nat.le_refl _,fun _=>rfl,fun _ _ _ _ _ _ _ h=>by cases h⟩)
theorem od (id:Nat) (fr:Bool) (l:List UInt8) (s:ByteArray) (hlen:l.length + s.size ≤ 140737488355328):dw Tryz.prog 57 [.one (.ref id 0), .one (.p (.raw (.string s)))] [(id,bd fr l)] (.tup [.one (.p (.raw (.int .i64 (s.size:Int)))), .one (.p (.raw .nilIface))]) [(id,bd false (l ++ s.data.toList))] [id]:=by
 intro w c us hM hus
 match us,hus with
 | [u,v],⟨hu,hv,_⟩ =>
  obtain ⟨rfl,_⟩:=hv
  have hl1:lk [(id,bd fr l)] id = some (bd fr l):=by simp [lk]
  have hu2:u = c.own id:=(hu.2.2 _ _ _ _ hl1 rfl).2 rfl
  subst hu2
  obtain ⟨b,p,v0,hown,hB,hp,hblk,_⟩:=afd (hM.objs id _ hl1)
  rw [hown]
  refine (adf (P:=Tryz.prog) (ρ:=Tryz.lays156_ren) { Tryz.lays156 with } Tryz.Builder_Extra_156 b p v0 _ s w hp hB (by rw [Lib.byteCells_length];exact hlen)).mono ?_
  rintro e w' ⟨rfl,hbel,v',hB',hfr,hv'⟩
  rw [ade] at hB'
  exact afw hM hown hblk hB' hbel hfr hv' fun c' o'=>⟨_,rfl,⟨rfl,rfl⟩,⟨rfl,rfl⟩,trivial⟩
theorem bae (id:Nat) (n:Nat) (hn:n ≤ 281474976710656):dw Tryz.prog 115 [.one (.ref id 0), .one (.p (.raw (.int .i64 (n:Int))))] [(id,bd true [])] (.tup []) [(id,bd false [])] [id]:=by
 intro w c us hM hus
 match us,hus with
 | [u,v],⟨hu,hv,_⟩ =>
  obtain ⟨rfl,_⟩:=hv
  have hl1:lk [(id,bd true [])] id = some (bd true []):=by simp [lk]
  have hu2:u = c.own id:=(hu.2.2 _ _ _ _ hl1 rfl).2 rfl
  subst hu2
  obtain ⟨b,p,v0,hown,hB,hp,hblk,hf⟩:=afd (hM.objs id _ hl1)
  obtain ⟨rfl,rfl⟩:=hf rfl
  rw [hown]
  refine (b82 (P:=Tryz.prog) (ρ:=Tryz.lays156_ren) { Tryz.lays156 with } Tryz.Builder_Extra_156 b n w hB.heap hn).mono ?_
  rintro e w' ⟨rfl,hbel,⟨v',hB',hv'⟩,hfr⟩
  exact afw hM hown hblk hB' hbel (fun k hk hkb _=>hfr k hk hkb) (fun k hk=>.inr (hv' k hk)) fun c' o'=>⟨[],rfl,trivial⟩
theorem ax7 (id:Nat) (fr:Bool) (l:List UInt8) (h0:l ≠ []):dw Tryz.prog 60 [.one (.ref id 0)] [(id,bd fr l)] (.v (.one (.p (.raw (.string ⟨l.toArray⟩))))) [] []:=by
 intro w c us hM hus
 match us,hus with
 | [u],⟨hu,_⟩ =>
  have hl1:lk [(id,bd fr l)] id = some (bd fr l):=by simp [lk]
  have hu2:u = c.own id:=(hu.2.2 _ _ _ _ hl1 rfl).2 rfl
  subst hu2
  obtain ⟨b,p,v0,hown,hB,hp,hblk,_⟩:=afd (hM.objs id _ hl1)
  rw [hown]
  refine (atl (P:=Tryz.prog) (ρ:=Tryz.lays169_ren) Tryz.lays169 Tryz.Builder_Extra_169 b p v0 l w hB h0).mono ?_
  rintro e w' ⟨rfl,hbel,hfr⟩
  refine ⟨_,c,rfl,⟨rfl,rfl⟩,⟨(fun id' ob h=>by cases h),(fun i i' ob ob' k h=>by cases h),fun k ob hk=>?_,(fun id' ob k h=>by cases h)⟩,hbel,fun k hk hn=>⟨hfr k fun e=>hn id _ hl1 ((hblk k).2 (.inr e)),rfl⟩,(fun id' ob k h=>by cases h),(fun id' hid=>by cases hid)⟩
  refine (hfr k fun e=>?_).trans (hM.imm k ob hk)
  have:=hM.sep id _ k hl1 ((hblk k).2 (.inr e))
  rw [hk] at this
  cases this
end
section
open Go.Proofs
theorem apa:goodFn Tryz.prog 56:=wgx Tryz.func56
theorem axb (l:List Bs) (sep:Bs) (hs1:sep.size = 1) (hl:l.length ≤ 1000) (hsz:szB l ≤ 1000000000):af Tryz.prog 56 [pP (bsl l),pS sep] (aj [pS (lq l sep)]):=by
 refine a8 (nt:=75) a7 Tryz.func56 rfl rfl l9 ?_;refine w_6 ?_
 refine dg 0 rfl fun hn=>?_
 have hA:∀ i,(pf l sep i).length ≤ 1000001000:=fun i=>by have:=b08 l sep i;rw [hs1] at this;omega
 refine dl ?_;refine a6 _ rfl (fun r0=>?_) (fun r0=>?_)
 ·
  have h0:=ae r0
  try simp only [ty] at h0
  have hl0:=bbj h0
  subst hl0
  refine w_4 ?_
  exact hx8 rfl rfl rfl (CoL.refl _)
 have h0:=aa r0
 try simp only [ty] at h0
 refine w_5 ?_;refine a6 _ rfl (fun r1=>?_) (fun r1=>?_)
 ·
  have h1:=ae r1
  try simp only [ty] at h1
  refine w_7 ?_
  exact hx8 rfl rfl rfl (⟨CoC.one (CoP.of_eq (by rw [ac3 sep (by omega)];rfl)),trivial⟩)
 have h1:=aa r1
 try simp only [ty] at h1
 refine fc ?_;refine a6 _ rfl (fun r2=>?_) (fun r2=>?_)
 ·
  have h2:=ae r2
  try simp only [ty] at h2
  refine w_8 ?_;refine rq rfl rfl rfl rfl rfl ?_ (hp:=⟨by decide,by omega,by constructor <;> decide⟩);refine w_2 ?_;refine a6 _ rfl (fun r3=>?_) (fun r3=>?_)
  ·
   have h3:=ae r3
   try simp only [ty] at h3
   exfalso
   have:=b31 (n:=(l.length:Int) - 1) (by omega) (by omega)
   omega
  have h3:=aa r3
  try simp only [ty] at h3
  have hmul:(sep.size:Int) * ((l.length:Int) - 1) = (l.length:Int) - 1:=by rw [hs1];simp
  refine aay ?_
  refine ah (ι:=Nat) ⟨[(0,some _),(1,some _),(39,some _),(40,some _)],[]⟩ ⟨⟨c9,c9,c9,c9,trivial⟩,trivial⟩ (fun i=>⟨[(5,some (vI ((l.length:Int) - 1 + szB (l.take i)))),(41,some (vI i))],[]⟩) (fun i=>i ≤ l.length) (fun i=>l.length - i) (0) (Nat.zero_le _) ⟨⟨⟨_,rfl,(coi (by simp [szB];omega))⟩,zy,trivial⟩,trivial⟩ ?_
  rintro i hi
  refine w_5 ?_;refine a6 _ rfl (fun r4=>?_) (fun r4=>?_)
  ·
   have h4:=ae r4
   try simp only [ty] at h4
   have hil:i < l.length:=by omega
   have hst:=a7p hil
   have hst2:=tg l (i + 1)
   have hst3:(l.getD (i:Int).toNat default).size = (l.getD i default).size:=rfl
   refine amv ?_;refine a6 _ rfl (fun r5=>?_) (fun r5=>?_)
   ·
    have h5:=ae r5
    try simp only [ty] at h5
    exfalso
    omega
   have h5:=aa r5
   try simp only [ty] at h5
   refine fc ?_;refine ⟨i + 1, ?_, ?_, ?_⟩
   · show i + 1 ≤ _;omega
   · first | omega | (dsimp only;omega)
   exact ⟨⟨⟨_,rfl,(coi (by rw [hst];omega))⟩,zy,c9,c9,c9,c9,trivial⟩,trivial⟩
  have h4:=aa r4
  try simp only [ty] at h4
  obtain rfl:i = l.length:=by omega
  rw [List.take_length] at *
  refine w_3 ?_;refine m9 0 ?_;refine w_4 ?_;refine bf rfl rfl rfl rfl rfl rfl azl (bae 0 (l.length - 1 + szB l) (by omega)) (⟨a1q.refl _,CoP.of_eq (by congr 2;omega),trivial⟩) ⟨u9,trivial⟩ rfl rfl ?_
  refine w_6 ?_
  refine bf rfl rfl rfl rfl rfl rfl o9 (od 0 false [] (l.getD 0 default) (by have:=a13 (l:=l) (i:=0) (by omega);show 0 + (l.getD 0 default).size ≤ _;omega)) (da.refl _) ⟨u9,trivial⟩ rfl rfl ?_
  refine dl ?_
  refine ah (ι:=Nat) ⟨[(1,some _),(8,some _),(63,some _),(64,some _)],[]⟩ ⟨⟨c9,c9,c9,c9,trivial⟩,trivial⟩ (fun k=>⟨[(65,some (vI k))],[(0,some (bd false (pf l sep k)))]⟩) (fun k=>k ≤ l.length - 1) (fun k=>l.length - k) (0) (Nat.zero_le _) ⟨⟨zy,trivial⟩,⟨⟨_,rfl,(CoO.of_eq (by rw [b7a]))⟩,trivial⟩⟩ ?_
  rintro k hk0
  refine w_5 ?_;refine a6 _ rfl (fun r6=>?_) (fun r6=>?_)
  ·
   have h6:=ae r6
   try simp only [ty] at h6
   have hk:1 + k < l.length:=by simp only [ej,bc] at *;omega
   refine fc ?_;refine bf rfl rfl rfl rfl rfl rfl o9 (od 0 false (pf l sep k) sep (by have:=hA k;omega)) (da.refl _) ⟨u9,trivial⟩ rfl rfl ?_;refine w_3 ?_
   refine bf rfl rfl rfl rfl rfl rfl o9 (od 0 false ((pf l sep k) ++ bL sep) (l.getD (1 + k) default) (by have:=hA k;have:=a13 hk;rw [List.length_append,aa0];omega)) (da.refl _) ⟨u9,trivial⟩ rfl rfl ?_
   refine w_5 ?_;refine ⟨k + 1, ?_, ?_, ?_⟩
   · show k + 1 ≤ _;omega
   · first | omega | (dsimp only;omega)
   exact ⟨⟨zy,c9,c9,c9,c9,trivial⟩,⟨⟨_,rfl,(CoO.of_eq (by rw [ac7 hk]))⟩,trivial⟩⟩
  have h6:=aa r6
  try simp only [ty] at h6
  obtain rfl:k = l.length - 1:=by simp only [ej,bc] at *;omega
  refine w_3 ?_
  have hne:pf l sep (l.length - 1) ≠ []:=by
   obtain ⟨q,hq⟩:∃ q,l.length - 1 = q + 1:=⟨l.length - 2,by omega⟩
   rw [hq,ac7 (by omega)]
   intro e
   have:=congrArg List.length e
   simp only [List.length_append,aa0,List.length_nil] at this
   omega
  refine bf rfl rfl rfl rfl rfl rfl apk (ax7 0 false (pf l sep (l.length - 1)) hne) (da.refl _) ⟨u9,trivial⟩ rfl rfl ?_;refine w_2 ?_
  exact hx8 rfl rfl rfl (⟨CoC.one (CoP.of_eq (by rw [← aws sep (by intro e;subst e;simp at *)])),trivial⟩)
 have h2:=aa r2
 try simp only [ty] at h2
 exfalso
 omega
end
section
theorem a0a {a b:AS} (h:∀ i,i < 32 → a.getLsbD i = b.getLsbD i):a = b:=BitVec.eq_of_getLsbD_eq h
theorem b9f {s t:AS}:s &&& t = 0 ↔ ∀ i,i < 32 → s.getLsbD i = true → t.getLsbD i = false:=by
 constructor
 · intro h i hi hs
   have:=congrArg (fun x:AS=>x.getLsbD i) h
   simp only [BitVec.getLsbD_and,hs,Bool.true_and] at this
   simpa using this
 intro h
 apply a0a
 intro i hi
 have:=h i hi
 rw [BitVec.getLsbD_and]
 cases hs:s.getLsbD i <;> simp_all
theorem b5t {s:AS} (h:s ≠ 0):∃ i,i < 32 ∧ s.getLsbD i = true:=by
 apply Classical.byContradiction
 intro hn
 refine h (a0a fun i hi=>?_)
 cases hs:s.getLsbD i with
 | false=>simp
 | true=>exact absurd ⟨i,hi,hs⟩ hn
theorem aq3 {s:AS} {i:Nat} (h:s.getLsbD i = true):i < 32:=BitVec.lt_of_getLsbD h
theorem ll {s t:AS} {i:Nat} (hi:i < 32):(s &&& ~~~t).getLsbD i = (s.getLsbD i && !t.getLsbD i):=by simp [hi]
def alo (a:Nat):AS:=1#32 <<< a
def en (m:Fd) (b:AS):Bool:=decide (b &&& m.lhs = 0) && (decide (b &&& m.rhs ≠ 0) && decide (b &&& ~~~m.rhs ≠ 0))
def hdB (m:Fd) (b:AS):AS:=if en m b = true then b &&& m.rhs else b
def tlB (m:Fd) (b:AS):List AS:=if en m b = true then [b &&& ~~~m.rhs] else []
def stB (m:Fd) (l:List AS) (i:Nat):List AS:=(l.take i).map (hdB m) ++ l.drop i ++ (l.take i).flatMap (tlB m)
def rdB (m:Fd) (l:List AS):List AS:=l.map (hdB m) ++ l.flatMap (tlB m)
def ck (ms:List Fd) (l:List AS):List AS:=ms.foldl (fun l m=>rdB m l) l
def mc:List Fd → List AS → Bool
 | [],_=>false
 | m :: ms,l=>l.any (en m) || mc ms (rdB m l)
def a1a (ms:List Fd):Nat → List AS → List AS
 | 0,l=>l
 | f + 1,l=>if mc ms l = true then a1a ms f (ck ms l) else ck ms l
def muB:List AS → Nat
 | []=>0
 | b :: l=>b.toNat * b.toNat + muB l
theorem abu:∀ (l k:List AS),muB (l ++ k) = muB l + muB k
 | [],k=>by simp [muB]
 | b :: l,k=>by simp [muB,abu l k];omega
theorem a5s (b r:AS):(b &&& r).toNat + (b &&& ~~~r).toNat = b.toNat:=by
 have h:(b &&& r) &&& (b &&& ~~~r) = 0#32:=b9f.2 fun i hi hs=>by
  rw [ll hi]
  rw [BitVec.getLsbD_and,Bool.and_eq_true] at hs
  simp [hs.1,hs.2]
 have e:(b &&& r) + (b &&& ~~~r) = b:=by
  rw [BitVec.add_eq_or_of_and_eq_zero _ _ h]
  apply a0a
  intro i hi
  rw [BitVec.getLsbD_or,ll hi,BitVec.getLsbD_and]
  cases b.getLsbD i <;> cases r.getLsbD i <;> rfl
 rw [← BitVec.toNat_add_of_and_eq_zero h,e]
theorem a18 {m:Fd} {b:AS}:en m b = true ↔ b &&& m.lhs = 0 ∧ b &&& m.rhs ≠ 0 ∧ b &&& ~~~m.rhs ≠ 0:=by simp [en]
theorem awh {x y z:Nat} (h:x + y = z) (hx:0 < x) (hy:0 < y):x * x + y * y < z * z:=by
 subst h
 rw [Nat.add_mul,Nat.mul_add,Nat.mul_add]
 have:0 < x * y:=Nat.mul_pos hx hy
 have:0 < y * x:=Nat.mul_pos hy hx
 omega
theorem a32 {b:AS} (h:b ≠ 0):0 < b.toNat:=Nat.pos_of_ne_zero fun e=>h (BitVec.eq_of_toNat_eq e)
theorem ard (m:Fd):∀ (l:List AS),muB (l.map (hdB m)) + muB (l.flatMap (tlB m)) + (if l.any (en m) = true then 1 else 0) ≤ muB l
 | []=>by simp [muB]
 | b :: l=>by
  have ih:=ard m l
  rw [List.map_cons,List.flatMap_cons,abu,List.any_cons]
  simp only [muB]
  by_cases h:en m b = true
  · obtain ⟨_,h2,h3⟩:=a18.1 h
    have:=awh (a5s b m.rhs) (a32 h2) (a32 h3)
    simp only [hdB,tlB,h,if_true,muB,Bool.true_or]
    omega
  rw [Bool.not_eq_true] at h
  simp only [hdB,tlB,h,muB,Bool.false_or,Bool.false_eq_true,if_false]
  omega
theorem ayo (m:Fd) (l:List AS):muB (rdB m l) + (if l.any (en m) = true then 1 else 0) ≤ muB l:=by
 unfold rdB
 rw [abu]
 exact ard m l
theorem aj8:∀ (ms:List Fd) (l:List AS),muB (ck ms l) + (if mc ms l = true then 1 else 0) ≤ muB l
 | [],l=>by simp [ck,mc]
 | m :: ms,l=>by
  have h1:=ayo m l
  have h2:=aj8 ms (rdB m l)
  show muB (ck ms (rdB m l)) + _ ≤ _
  simp only [mc]
  by_cases h3:l.any (en m) = true <;> by_cases h4:mc ms (rdB m l) = true <;> simp only [h3,h4,Bool.true_or,Bool.or_true,Bool.or_false,if_true,Bool.false_eq_true,if_false] at h1 h2 ⊢ <;> omega
structure Blk (ms:List Fd) (rest:AS) (bs:List AS):Prop where
 nz:∀ b ∈ bs,b ≠ 0
 cnt:∀ a,a < 32 → bs.countP (fun b=>b.getLsbD a) = if rest.getLsbD a = true then 1 else 0
 ind:∀ G:AS → Prop,G rest → (∀ m ∈ ms,∀ b,G b → en m b = true → G (b &&& m.rhs) ∧ G (b &&& ~~~m.rhs)) → ∀ b ∈ bs,G b
theorem Blk.rd {ms:List Fd} {rest:AS} {bs:List AS} (h:Blk ms rest bs) {m:Fd} (hm:m ∈ ms):Blk ms rest (rdB m bs):=by
 have hmem:∀ {b:AS},b ∈ rdB m bs → ∃ b0 ∈ bs,(en m b0 = false ∧ b = b0) ∨ (en m b0 = true ∧ (b = b0 &&& m.rhs ∨ b = b0 &&& ~~~m.rhs)):=by
  intro b hb
  unfold rdB at hb
  rcases List.mem_append.1 hb with hb | hb
  · obtain ⟨b0,h0,rfl⟩:=List.mem_map.1 hb
    refine ⟨b0,h0, ?_⟩
    cases hs:en m b0 <;> simp [hdB,hs]
  obtain ⟨b0,h0,hb⟩:=List.mem_flatMap.1 hb
  refine ⟨b0,h0, ?_⟩
  cases hs:en m b0
  · simp [tlB,hs] at hb
  simp [tlB,hs] at hb
  exact .inr ⟨rfl, .inr hb⟩
 refine ⟨fun b hb=>?_,fun a ha=>?_,fun G h0 hG b hb=>?_⟩
 · obtain ⟨b0,h0,⟨_,rfl⟩ | ⟨hs,hb⟩⟩:=hmem hb
   · exact h.nz _ h0
   obtain ⟨_,h2,h3⟩:=a18.1 hs
   rcases hb with rfl | rfl
   · exact h2
   exact h3
 · rw [← h.cnt a ha]
   have:∀ l:List AS,(l.map (hdB m)).countP (fun b=>b.getLsbD a) + (l.flatMap (tlB m)).countP (fun b=>b.getLsbD a) = l.countP (fun b=>b.getLsbD a):=by
    intro l
    induction l with
    | nil=>rfl
    | cons b l ih =>
     rw [List.map_cons,List.flatMap_cons,List.countP_append,List.countP_cons,List.countP_cons,← ih]
     cases hs:en m b
     · simp [hdB,tlB,hs];omega
     simp only [hdB,tlB,hs,if_true,List.countP_cons,List.countP_nil,ll ha,BitVec.getLsbD_and]
     cases b.getLsbD a <;> cases m.rhs.getLsbD a <;> simp <;> omega
   unfold rdB
   rw [List.countP_append]
   exact this bs
 obtain ⟨b0,h1,⟨_,rfl⟩ | ⟨hs,hb⟩⟩:=hmem hb
 · exact h.ind G h0 hG _ h1
 obtain ⟨g1,g2⟩:=hG m hm b0 (h.ind G h0 hG _ h1) hs
 rcases hb with rfl | rfl
 · exact g1
 exact g2
def ja (rest:AS):List AS:=if rest = 0 then [] else [rest]
theorem Blk.start (ms:List Fd) (rest:AS):Blk ms rest (ja rest):=by
 unfold ja
 by_cases h:rest = 0
 · subst h
   simp only [if_true]
   exact ⟨fun _ h=>by (cases h),fun a ha=>by simp,fun _ _ _ _ h=>by cases h⟩
 rw [if_neg h]
 exact ⟨fun b hb=>by (simp at hb;subst hb;exact h),fun a ha=>by simp [List.countP_cons],fun G h0 _ b hb=>by (simp at hb;subst hb;exact h0)⟩
theorem asn (rest:AS):muB (ja rest) < 18446744073709551616:=by
 unfold ja
 split
 · simp [muB]
 simp only [muB]
 have h:=rest.isLt
 have:=Nat.mul_le_mul (Nat.le_of_lt_succ (show rest.toNat < 4294967295 + 1 from h)) (Nat.le_of_lt_succ (show rest.toNat < 4294967295 + 1 from h))
 omega
def blks (ms:List Fd) (rest:AS):List AS:=a1a ms 18446744073709551616 (ja rest)
theorem an8 {p:AS → Bool} {l:List AS} (h:l.countP p ≤ 1) {a b:AS} (ha:a ∈ l) (hb:b ∈ l) (pa:p a = true) (pb:p b = true):a = b:=by
 rw [List.countP_eq_length_filter] at h
 have h1:a ∈ l.filter p:=List.mem_filter.2 ⟨ha,pa⟩
 have h2:b ∈ l.filter p:=List.mem_filter.2 ⟨hb,pb⟩
 cases hl:l.filter p with
 | nil=>rw [hl] at h1;cases h1
 | cons x r =>
  rw [hl] at h h1 h2
  cases r with
  | nil=>simp at h1 h2;rw [h1,h2]
  | cons=>simp at h
theorem Blk.one {ms:List Fd} {rest:AS} {bs:List AS} (h:Blk ms rest bs) {b b':AS} (hb:b ∈ bs) (hb':b' ∈ bs) {a:Nat} (h1:b.getLsbD a = true) (h2:b'.getLsbD a = true):b = b':=by
 refine an8 (p:=fun b=>b.getLsbD a) ?_ hb hb' h1 h2
 rw [h.cnt a (aq3 h1)]
 split <;> omega
theorem Blk.sub {ms:List Fd} {rest:AS} {bs:List AS} (h:Blk ms rest bs) {b:AS} (hb:b ∈ bs):Go.Hx.sub b rest:=ct.2 fun a ha hba=>by
 have h1:=h.cnt a ha
 have h2:0 < bs.countP (fun b=>b.getLsbD a):=List.countP_pos_iff.2 ⟨b,hb,hba⟩
 cases hr:rest.getLsbD a with
 | true=>rfl
 | false=>rw [hr] at h1;simp only [Bool.false_eq_true,if_false] at h1;omega
end
section
def sgl (f:Fd):List Fd:=(ap f.rhs).map fun a=>⟨f.lhs,alo a⟩
def a5h (fs ms:List Fd):List Fd:=ms ++ fs.flatMap sgl
def nv (T:List AS) (r:AS):List AS:=if r ∈ T then T else T ++ [r]
theorem a6f {T:List AS} {r z:AS}:z ∈ nv T r ↔ z ∈ T ∨ z = r:=by
 unfold nv
 split
 · rename_i h
   constructor
   · exact .inl
   rintro (h2 | rfl)
   · exact h2
   exact h
 simp
theorem uz {T:List AS} {r:AS} (h:T.Nodup):(nv T r).Nodup:=by
 unfold nv
 split
 · exact h
 rename_i hr
 rw [List.nodup_append]
 exact ⟨h,by simp,fun a ha b hb=>by simp at hb;subst hb;rintro rfl;exact hr ha⟩
def a8z (s:AS) (o:List AS) (T:List AS):List AS:=T.foldl (fun o r=>nv o (r &&& ~~~s)) o
def oz (T:List AS) (s:AS):List AS:=a8z s [] T
theorem a7s {s:AS}:∀ {T o:List AS},(o.Nodup → (a8z s o T).Nodup) ∧ ∀ z,z ∈ a8z s o T ↔ z ∈ o ∨ ∃ r ∈ T,z = r &&& ~~~s
 | [],o=>⟨fun h=>h,fun z=>by simp [a8z]⟩
 | r :: T,o=>by
  obtain ⟨h1,h2⟩:=a7s (s:=s) (T:=T) (o:=nv o (r &&& ~~~s))
  refine ⟨fun h=>h1 (uz h),fun z=>?_⟩
  show z ∈ a8z s (nv o (r &&& ~~~s)) T ↔ _
  rw [h2 z,a6f]
  simp only [List.mem_cons]
  constructor
  · rintro ((h | h) | ⟨q,hq,h⟩)
    · exact .inl h
    · exact .inr ⟨r, .inl rfl,h⟩
    exact .inr ⟨q, .inr hq,h⟩
  rintro (h | ⟨q,rfl | hq,h⟩)
  · exact .inl (.inl h)
  · exact .inl (.inr h)
  exact .inr ⟨q,hq,h⟩
theorem a7o {T:List AS} {s z:AS}:z ∈ oz T s ↔ ∃ r ∈ T,z = r &&& ~~~s:=by
 have:=(a7s (s:=s) (T:=T) (o:=[])).2 z
 simpa [oz] using this
theorem a8t (T:List AS) (s:AS):(oz T s).Nodup:=(a7s (s:=s) (T:=T) (o:=[])).1 List.nodup_nil
def yh (d:Fd) (r k:AS):AS:=(r &&& (d.lhs ||| d.rhs)) ||| (k &&& ~~~(d.lhs ||| d.rhs))
def agB (d:Fd) (r k:AS):Bool:=decide ((r ^^^ k) &&& d.lhs = 0)
theorem atj {d:Fd} {r k:AS} {i:Nat} (hi:i < 32):(yh d r k).getLsbD i = (if d.lhs.getLsbD i || d.rhs.getLsbD i then r.getLsbD i else k.getLsbD i):=by
 unfold yh
 rw [BitVec.getLsbD_or,ll hi,BitVec.getLsbD_and,BitVec.getLsbD_or]
 cases d.lhs.getLsbD i <;> cases d.rhs.getLsbD i <;> simp
structure baz (fs ms:List Fd) (T:List AS):Prop where
 fd:∀ d ∈ fs,∀ r ∈ T,∀ k ∈ T,agB d r k = true → (r ^^^ k) &&& d.rhs = 0
 mv:∀ d ∈ ms,∀ r ∈ T,∀ k ∈ T,agB d r k = true → yh d r k ∈ T
def b8y (fs:List Fd) (bs:List AS) (a:Nat):Prop:=alo a ∈ bs ∧ ∃ f ∈ fs,f.rhs.getLsbD a = true ∧ f.lhs.getLsbD a = false
structure JT (fs:List Fd) (bs:List AS) (rest:AS) (T:List AS):Prop where
 z:(0:AS) ∈ T
 r:∀ r ∈ T,sub r rest ∧ ∀ b ∈ bs,b &&& r = 0 ∨ sub b r
 top:∃ L ∈ T,(∀ r ∈ T,sub r L) ∧ ∀ a,a < 32 → rest.getLsbD a = true → L.getLsbD a = false → b8y fs bs a
section
variable {fs ms:List Fd} {bs:List AS} {rest:AS} {T:List AS}
def bd7 (T:List AS) (b:AS):Prop:=∀ r ∈ T,∀ k ∈ T,((r &&& b) ||| (k &&& ~~~b)) ∈ T
structure bdo (fs ms:List Fd) (bs:List AS) (rest:AS) (T:List AS):Prop where
 j:JT fs bs rest T
 c:baz fs ms T
def qB (T:List AS) (L x rest y:AS):Prop:=y ≠ 0 ∧ sub y rest ∧ (L &&& ~~~(x ||| y)) ∈ T
end
end
section
def l6:List AS → Nat
 | []=>0
 | b :: l=>b.toNat + l6 l
theorem a74:∀ (l k:List AS),l6 (l ++ k) = l6 l + l6 k
 | [],k=>by simp [l6]
 | b :: l,k=>by simp [l6,a74 l k];omega
def OkB (l:List AS):Prop:=l6 l < 4294967296 ∧ ∀ b ∈ l,b ≠ 0
theorem ab5 {l:List AS} (h:OkB l):l.length ≤ 4294967296:=by
 have:∀ l:List AS,(∀ b ∈ l,b ≠ 0) → l.length ≤ l6 l:=by
  intro l
  induction l with
  | nil=>intro _;simp [l6]
  | cons b l ih =>
   intro h
   have h1:=ih fun x hx=>h x (by simp [hx])
   have h2:=a32 (h b (by simp))
   simp only [List.length_cons,l6]
   omega
 have h1:=this l h.2
 have:=h.1
 omega
theorem b66 (m:Fd) (l:List AS):l6 (rdB m l) = l6 l:=by
 have:∀ l:List AS,l6 (l.map (hdB m)) + l6 (l.flatMap (tlB m)) = l6 l:=by
  intro l
  induction l with
  | nil=>rfl
  | cons b l ih =>
   rw [List.map_cons,List.flatMap_cons,a74]
   simp only [l6]
   by_cases h:en m b = true
   · have:=a5s b m.rhs
     simp only [hdB,tlB,h,if_true,l6]
     omega
   rw [Bool.not_eq_true] at h
   simp only [hdB,tlB,h,l6,Bool.false_eq_true,if_false]
   omega
 unfold rdB
 rw [a74]
 exact this l
theorem ars {m:Fd} {l:List AS} (h:OkB l):OkB (rdB m l):=by
 refine ⟨by rw [b66];exact h.1,fun b hb=>?_⟩
 unfold rdB at hb
 rcases List.mem_append.1 hb with hb | hb
 · obtain ⟨b0,h0,rfl⟩:=List.mem_map.1 hb
   unfold hdB
   split
   · rename_i hs;exact (a18.1 hs).2.1
   exact h.2 _ h0
 obtain ⟨b0,h0,hb⟩:=List.mem_flatMap.1 hb
 unfold tlB at hb
 split at hb
 · rename_i hs
   simp at hb
   subst hb
   exact (a18.1 hs).2.2
 cases hb
theorem acz (rest:AS):OkB (ja rest):=by
 unfold ja
 split
 · exact ⟨by simp [l6],fun _ h=>by cases h⟩
 rename_i h
 exact ⟨by simp only [l6];have:=rest.isLt;omega,fun b hb=>by simp at hb;subst hb;exact h⟩
theorem a4l {rest:AS} (h:¬ rest = 0):ja rest = [] ++ [rest]:=by rw [ja,if_neg h];rfl
theorem a4y {rest:AS} (h:rest = 0):ja rest = []:=by rw [ja,if_pos h]
theorem a6k (m:Fd) (l:List AS):stB m l 0 = l:=by simp [stB]
theorem a0c (m:Fd) (l:List AS):stB m l l.length = rdB m l:=by simp [stB,rdB]
theorem rt (m:Fd) (l:List AS) (i:Nat):((l.take i).map (hdB m)).length = min i l.length:=by simp
theorem b33 {m:Fd} {l:List AS} {i:Nat} (h:i < l.length):(stB m l i).getD i default = l.getD i default:=by
 have e:((l.take i).map (hdB m)).length = i:=by rw [rt];omega
 unfold stB
 rw [List.append_assoc,List.getD_eq_getElem?_getD,List.getElem?_append_right (by rw [e];omega),e,Nat.sub_self,List.getElem?_append_left (by rw [List.length_drop];omega),List.getElem?_drop,Nat.add_zero,← List.getD_eq_getElem?_getD]
theorem stB_get' {m:Fd} {l:List AS} {i a:Nat} (hia:i ≤ a) (h:a < l.length):(stB m l i).getD a default = l.getD a default:=by
 have e:((l.take i).map (hdB m)).length = i:=by rw [rt];omega
 unfold stB
 rw [List.append_assoc,List.getD_eq_getElem?_getD,List.getElem?_append_right (by rw [e];omega),e,List.getElem?_append_left (by rw [List.length_drop];omega),List.getElem?_drop,show i + (a - i) = a by omega,← List.getD_eq_getElem?_getD]
theorem ait (m:Fd) (l:List AS) (i:Nat):l.length ≤ (stB m l i).length:=by
 unfold stB
 rw [List.length_append,List.length_append,rt,List.length_drop]
 omega
theorem ad0 {l:List AS} {i:Nat} (h:i < l.length):l.drop i = l.getD i default :: l.drop (i + 1):=by
 rw [List.drop_eq_getElem_cons h]
 congr 1
 simp [List.getD_eq_getElem?_getD,List.getElem?_eq_getElem h]
theorem mi {m:Fd} {l:List AS} {i:Nat} (h:i < l.length) (hs:en m (l.getD i default) = false):stB m l (i + 1) = stB m l i:=by
 unfold stB
 rw [b5 h,List.map_append,List.flatMap_append,ad0 h]
 simp only [List.map_cons,List.map_nil,List.flatMap_cons,List.flatMap_nil,hdB,tlB,hs,Bool.false_eq_true,if_false,List.append_nil,List.append_assoc,List.cons_append,List.nil_append]
theorem adr {m:Fd} {l:List AS} {i:Nat} (h:i < l.length) (hs:en m (l.getD i default) = true):stB m l (i + 1) = (stB m l i).set i (l.getD i default &&& m.rhs) ++ [l.getD i default &&& ~~~m.rhs]:=by
 have e:((l.take i).map (hdB m)).length = i:=by rw [rt];omega
 unfold stB
 rw [b5 h,List.map_append,List.flatMap_append,ad0 h]
 simp only [List.map_cons,List.map_nil,List.flatMap_cons,List.flatMap_nil,hdB,tlB,hs,if_true,List.append_nil]
 generalize hA:(l.take i).map (hdB m) = A at e ⊢
 generalize (l.take i).flatMap (tlB m) = B
 generalize l.drop (i + 1) = D
 subst e
 rw [List.append_assoc A,List.append_assoc A,List.append_assoc A,List.set_append_right _ _ (Nat.le_refl _),Nat.sub_self,List.append_assoc A]
 simp
theorem b5z (m:Fd) (l:List AS):∀ i,(stB m l i).length ≤ (rdB m l).length:=by
 intro i
 by_cases hi:i < l.length
 · have:∀ k,i + k ≤ l.length → (stB m l i).length ≤ (stB m l (i + k)).length:=by
    intro k
    induction k with
    | zero=>intro _;exact Nat.le_refl _
    | succ k ih =>
     intro hk
     have h1:=ih (by omega)
     refine Nat.le_trans h1 ?_
     cases hs:en m (l.getD (i + k) default)
     · rw [show i + (k + 1) = i + k + 1 by omega,mi (by omega) hs];exact Nat.le_refl _
     rw [show i + (k + 1) = i + k + 1 by omega,adr (by omega) hs,List.length_append,List.length_set];omega
   have h2:=this (l.length - i) (by omega)
   rw [show i + (l.length - i) = l.length by omega,a0c] at h2
   exact h2
 unfold stB rdB
 rw [List.take_of_length_le (by omega),List.drop_eq_nil_of_le (by omega)]
 simp
def a2g (l:List AS) (i:Nat):Nat → Nat → PV:=fun k c=>if k < i then .any else sC (l.getD k default) c
theorem b3s (l:List AS) (i:Nat):a2g l i i 0 = asC (l.getD i default):=by
 unfold a2g
 rw [if_neg (Nat.lt_irrefl i)]
theorem a4q {l:List AS} {i:Nat} {cl:Bool} {n:Nat} (hn:n = l.length):CoP (.sl n 1 cl (a2g l i)) (.sl l.length 1 false (a2g l (i + 1))):=by
 subst hn
 refine CoP.sl rfl (.inl rfl) (fun h=>by cases h) fun k c hk hc=>?_
 unfold a2g
 by_cases h1:k < i
 · rw [if_pos h1,if_pos (show k < i + 1 by omega)];exact CoP.refl _
 rw [if_neg h1]
 by_cases h2:k < i + 1
 · rw [if_pos h2];exact CoP.any_of
 rw [if_neg h2];exact CoP.refl _
theorem afu {m:Fd} {L:List AS} {i k:Nat} {v:PV} (hil:i < L.length) (hk:k = i:=by rfl):CoP (.sl L.length 1 false (eu (lf sC (stB m L i)) k 0 [v])) (.sl L.length 1 false (a2g L (i + 1))):=by
 subst hk
 refine CoP.sl rfl (.inl rfl) (fun h=>h) fun a c ha hc=>?_
 obtain rfl:c = 0:=by omega
 unfold a2g
 by_cases h:a < k + 1
 · rw [if_pos h];exact CoP.any_of
 rw [if_neg h]
 unfold eu lf
 rw [if_neg (by omega),stB_get' (by omega) ha]
 exact CoP.refl _
theorem anp {A B:List AS} {a:Nat} (h:a < A.length):(A ++ B).getD a default = A.getD a default:=by simp [List.getD_eq_getElem?_getD,List.getElem?_append_left h]
theorem asj {A:List AS} {x:AS}:(A ++ [x]).getD A.length default = x:=by simp [List.getD_eq_getElem?_getD]
theorem tw {wr wr':Bool} {e:TypeId} {m:Fd} {L:List AS} {i k:Nat} {u:Int} {g:Nat → Nat → PV} (hil:i < L.length) (hs:en m (L.getD i default) = true) (hk:k = i) (hu:u = asI (L.getD i default &&& m.rhs)) (hg:CoP (g 0 0) (asC (L.getD i default &&& ~~~m.rhs))) (hw:wr' = true → wr = true:=by exact fun h=>h) :
 CoO (.arr wr 1 e ((stB m L i).length + 1) (gk (stB m L i).length (eu (lf sC (stB m L i)) k 0 [.raw (.int .u32 u)]) g)) (.arr wr' 1 e (stB m L (i + 1)).length (lf sC (stB m L (i + 1)))):=by
 subst hk hu
 have hl:=ait m L k
 rw [adr hil hs]
 refine ⟨hw,rfl,rfl,by rw [List.length_append,List.length_set];rfl,fun a j ha hj=>?_⟩
 obtain rfl:j = 0:=by omega
 unfold gk
 generalize L.getD k default &&& m.rhs = X
 generalize L.getD k default &&& ~~~m.rhs = Y at hg ⊢
 generalize stB m L k = A at hl ha ⊢
 by_cases h:a < A.length
 · rw [if_pos h]
   refine CoP.of_eq ?_
   show eu (lf sC A) k 0 [.raw (.int .u32 (asI X))] a 0 = sC ((A.set k X ++ [Y]).getD a default) 0
   rw [anp (by rw [List.length_set];exact h)]
   unfold eu lf
   by_cases h2:a = k
   · subst h2
     rw [if_pos ⟨rfl,Nat.le_refl _,by simp⟩,ly h]
     rfl
   rw [if_neg (by omega),getD_set_ne' h2]
 obtain rfl:a = A.length:=by omega
 rw [if_neg h,Nat.sub_self]
 show CoP (g 0 0) (sC ((A.set k X ++ [Y]).getD A.length default) 0)
 have:=asj (A:=A.set k X) (x:=Y)
 rw [List.length_set] at this
 rw [this]
 exact hg
theorem a19 {ms:List Fd} {l:List AS} {j:Nat} (h:j < ms.length):ck (ms.take (j + 1)) l = rdB (ms.getD j default) (ck (ms.take j) l):=by
 unfold ck
 rw [b5 h,List.foldl_append]
 rfl
theorem ain:∀ (ms:List Fd) (m:Fd) (l:List AS),mc (ms ++ [m]) l = (mc ms l || (ck ms l).any (en m))
 | [],m,l=>by simp [mc,ck]
 | k :: ms,m,l=>by
  simp only [List.cons_append,mc]
  rw [ain ms m (rdB k l),Bool.or_assoc]
  rfl
theorem aeb {ms:List Fd} {l:List AS} {j:Nat} (h:j < ms.length):mc (ms.take (j + 1)) l = (mc (ms.take j) l || (ck (ms.take j) l).any (en (ms.getD j default))):=by
 rw [b5 h,ain]
theorem a4z {l:List AS} (h:OkB l):∀ {ms:List Fd},OkB (ck ms l):=by
 intro ms
 induction ms generalizing l with
 | nil=>exact h
 | cons m ms ih=>exact ih (ars h)
structure BkI (ms:List Fd) (R:List AS) (x:Nat × List AS × Bool):Prop where
 ok:OkB x.2.1
 t:x.2.2 = true → a1a ms x.1 x.2.1 = R ∧ muB x.2.1 < x.1
 f:x.2.2 = false → x.2.1 = R
theorem av4 (ms:List Fd) (rest:AS):BkI ms (blks ms rest) (18446744073709551616,ja rest,true):=⟨acz rest,fun _=>⟨rfl,asn rest⟩,fun h=>by cases h⟩
theorem b2q {ms:List Fd} {R l:List AS} {f:Nat} (h:BkI ms R (f,l,true)):BkI ms R (f - 1,ck ms l,mc ms l) ∧ 0 < f:=by
 obtain ⟨h1,h2⟩:=h.t rfl
 have h2:muB l < f:=h2
 obtain ⟨g,rfl⟩:∃ g,f = g + 1:=⟨f - 1,by omega⟩
 have h3:=aj8 ms l
 refine ⟨⟨a4z h.ok,fun hc=>?_,fun hc=>?_⟩,by omega⟩
 · have hc:mc ms l = true:=hc
   have h1:a1a ms (g + 1) l = R:=h1
   unfold a1a at h1
   rw [if_pos hc] at h1 h3
   exact ⟨h1,by show muB (ck ms l) < g;omega⟩
 have hc:mc ms l = false:=hc
 have h1:a1a ms (g + 1) l = R:=h1
 unfold a1a at h1
 rw [hc] at h1
 exact h1
def ckB (n:Int) (l m:List Fd) (s:AS):Int:=if d9 n l m = 0 then (if s >>> n.toNat = 0 then 0 else 1) else d9 n l m
theorem axr {n:Int} {l m:List Fd} {s:AS} (h:¬ d9 n l m = 0):ckB n l m s = d9 n l m:=if_neg h
theorem ay8 {n:Int} {l m:List Fd} {s:AS} (h:d9 n l m = 0) (h2:¬ s >>> n.toNat = 0):ckB n l m s = 1:=by unfold ckB;rw [if_pos h,if_neg h2]
theorem amq {n:Int} {l m:List Fd} {s:AS} (h:d9 n l m = 0) (h2:s >>> n.toNat = 0):ckB n l m s = 0:=by unfold ckB;rw [if_pos h,if_pos h2]
theorem a9i {n:Int} {l m:List Fd} {s:AS} (h:ckB n l m s = 0):d9 n l m = 0 ∧ s >>> n.toNat = 0:=by
 unfold ckB at h
 split at h
 · split at h
   · exact ⟨by assumption,by assumption⟩
   cases h
 exact absurd h (by assumption)
theorem ajk (f:Fd):(sgl f).length ≤ 32:=by unfold sgl;rw [List.length_map];exact lg _
def jq (fs ms:List Fd) (i k:Nat):List Fd:=ms ++ (fs.take i).flatMap sgl ++ (sgl (fs.getD i default)).take k
theorem ac1 (fs ms:List Fd):jq fs ms 0 0 = ms:=by simp [jq]
theorem aom {fs ms:List Fd} {i:Nat} (h:i < fs.length):jq fs ms (i + 1) 0 = jq fs ms i (sgl (fs.getD i default)).length:=by
 unfold jq
 rw [b5 h,List.flatMap_append,List.take_length]
 simp
theorem avf (fs ms:List Fd):jq fs ms fs.length 0 = a5h fs ms:=by simp [jq,a5h]
theorem aql {fs ms:List Fd} {i k:Nat} (h:k < (sgl (fs.getD i default)).length):jq fs ms i (k + 1) = jq fs ms i k ++ [(sgl (fs.getD i default)).getD k default]:=by
 unfold jq
 rw [b5 h,← List.append_assoc]
theorem avd {fs ms:List Fd} {i k:Nat}:(jq fs ms i k).length ≤ ms.length + 32 * (i + 1):=by
 have:∀ l:List Fd,(l.flatMap sgl).length ≤ 32 * l.length:=by
  intro l
  induction l with
  | nil=>simp
  | cons f l ih =>
   rw [List.flatMap_cons,List.length_append,List.length_cons]
   have:=ajk f
   omega
 have h1:=this (fs.take i)
 have h2:=ajk (fs.getD i default)
 unfold jq
 rw [List.length_append,List.length_append,List.length_take]
 rw [List.length_take] at h1
 omega
end
section
open Go.RowKit
section
variable {ro:Option Nat} {P:Program} {nt:Nat} {st:HSt} {Q:Exit → HSt → Prop}
theorem sj {w0:World} {cc:Ctx} {a:Act} {w:World} (hrr:al w0 nt cc st.den a w) {d:Nat} {x:HR} (hx:av cc st.den.o x (a.tmps.getD d undef)):al w0 nt cc (HSt.den ⟨(d,some x) :: st.t,st.o⟩) a w:=by
 refine ⟨hrr.defers,hrr.size,hrr.below,fun k y hy=>?_,hrr.objs,hrr.inj,hrr.imm,hrr.sep,hrr.was,hrr.frm,hrr.fsep,hrr.fixed⟩
 simp only [HSt.den] at hy
 rw [bw] at hy
 dsimp only at hy
 split at hy
 · rename_i hk
   subst hk
   simp only [Option.some.injEq] at hy
   subst hy
   exact hx
 exact hrr.tmps k y hy
theorem atu {c:Code} (d:Nat) {id n n' s:Nat} {wr:Bool} {e:TypeId} {f:Nat → Nat → PV} (hd:bq st.t d = some (.v (.one (.ref id n)))) (ho:bq st.o id = some (.arr wr s e n' f)) (hn:n' = n)
 (h:HW (ro:=ro) P nt c ⟨(d,some (.v (.one (.win id n 0 n)))) :: st.t,st.o⟩ Q):HW (ro:=ro) P nt c st Q:=by
 subst hn
 refine wa st d _ (fun w0 m0 a w hr=>?_) h
 obtain ⟨cc,hold,hrr⟩:=hr
 refine ⟨cc,hold,hrr, ?_⟩
 have hu:bm cc st.den.o (.ref id n') (a.tmps.getD d undef):=hrr.tmps d _ hd
 refine ⟨hu.1,hu.2.1,fun ob s2 e2 n2 ho2 hd2=>⟨(hu.2.2 _ _ _ _ ho2 hd2).1,fun hk=>?_⟩⟩
 have he:=(hu.2.2 _ _ _ _ ho2 hd2).2 hk
 obtain rfl:ob = .arr wr s e n' f:=Option.some.inj (ho2.symm.trans ho)
 simp only [ai.dim,Option.some.injEq,Prod.mk.injEq] at hd2
 obtain ⟨rfl,rfl,rfl⟩:=hd2
 obtain ⟨ad,cap,hv,hc1,hc2⟩:=vm (hrr.objs _ _ ho2)
 exact ⟨ad,ad,cap,hv,by rw [he,hv];rfl,by omega,hc1,hc2,fun _=>by cases ad <;> simp [lr]⟩
theorem b0d {c:Code} (d dh:Nat) {id n n' n0 k s:Nat} {e:TypeId} {f:Nat → Nat → PV} (hd:bq st.t d = some (.v (.one (.ref id n)))) (hh:bq st.t dh = some (.v (.one (.win id k 0 n0)))) (ho:bq st.o id = some (.arr true s e n' f)) (hn:n' = n) (hk:k = n) (hne:Nat.beq d dh = false)
 (hA:∀ ad cap,n + 1 ≤ cap → HW (ro:=ro) P nt c ⟨(d,some (.v (.one (.pin id n ad cap)))) :: (dh,some (bp (.raw (.slice ad n0 cap)))) :: st.t,st.o⟩ Q)
 (hB:HW (ro:=ro) P nt c ⟨(d,some (bp (.sl n s true f))) :: (dh,some (bp (.sl n0 s false f))) :: st.t,(id,none) :: st.o⟩ Q):HW (ro:=ro) P nt c st Q:=by
 subst hn hk
 intro w0 m0 a w hr
 obtain ⟨cc,hold,hrr⟩:=hr
 have hu:bm cc st.den.o (.ref id k) (a.tmps.getD d undef):=hrr.tmps d _ hd
 have hv:bm cc st.den.o (.win id k 0 n0) (a.tmps.getD dh undef):=hrr.tmps dh _ hh
 obtain ⟨ad,ad',cap,q1,q2,q3,q4,q5,q6⟩:=vh hv ho rfl
 have hu1:=(hu.2.2 _ _ _ _ ho rfl).2 rfl
 by_cases hc:k + 1 ≤ cap
 · obtain rfl:ad' = ad:=by
    rw [q6 (by omega)]
    cases ad <;> simp [lr]
   refine hA ad' cap hc w0 m0 a w ⟨cc,hold, ?_⟩
   have h1:al w0 nt cc (HSt.den ⟨(dh,some (bp (.raw (.slice ad' n0 cap)))) :: st.t,st.o⟩) a w:=sj hrr ⟨by simpa using q2,rfl⟩
   refine sj (st:=⟨(dh,some (bp (.raw (.slice ad' n0 cap)))) :: st.t,st.o⟩) h1 ⟨hu1.trans q1,hu.2.1,hu.2.2⟩
 obtain rfl:cap = k:=by omega
 have hfr:=hrr.freeze (id:=id) ho
 rw [← wt] at hfr
 refine hB w0 m0 a w ⟨{ old:=cc.old,imm:=frozenImm cc w id,tab:=uw hrr ho,own:=cc.own,blk:=cc.blk,rows:=cc.rows },hold, ?_⟩
 have hfa:=uq hrr ho
 have h1:=sj (st:=⟨st.t,(id,none) :: st.o⟩) (d:=dh) (x:=bp (.sl n0 s false fun a b=>f (0 + a) b)) hfr (a8e hrr ho hv)
 have e0:(fun a b=>f (0 + a) b) = f:=by funext a b;rw [Nat.zero_add]
 rw [e0] at h1
 refine sj (st:=⟨(dh,some (bp (.sl n0 s false f))) :: st.t,(id,none) :: st.o⟩) h1 ?_
 rw [hu1]
 obtain ⟨A,C,r1,r2,r3,r4,r5⟩:=hfa
 refine ⟨A,C,r1,r2,r3,fun _=>?_,r5⟩
 rw [q1] at r1
 simp only [Value.slice.injEq,true_and] at r1
 exact r1.2.symm
theorem aub {c:Code} (d dh:Nat) {id n n' n0 s cap:Nat} {ad:Option Addr} {e:TypeId} {f:Nat → Nat → PV} (hd:bq st.t d = some (.v (.one (.pin id n ad cap)))) (hh:bq st.t dh = some (bp (.raw (.slice ad n0 cap)))) (ho:bq st.o id = some (.arr true s e n' f)) (hn:n' = n) (hle:n0 ≤ n) (hne:Nat.beq d dh = false)
 (h:HW (ro:=ro) P nt c ⟨(d,some (.v (.one (.ref id n)))) :: (dh,some (.v (.one (.win id n 0 n0)))) :: st.t,st.o⟩ Q):HW (ro:=ro) P nt c st Q:=by
 subst hn
 intro w0 m0 a w hr
 obtain ⟨cc,hold,hrr⟩:=hr
 have hu:bm cc st.den.o (.pin id n' ad cap) (a.tmps.getD d undef):=hrr.tmps d _ hd
 have hv:bm cc st.den.o (.p (.raw (.slice ad n0 cap))) (a.tmps.getD dh undef):=hrr.tmps dh _ hh
 obtain ⟨hv1,_⟩:=hv
 have hu1:=(hu.2.2 _ _ _ _ ho rfl).2 rfl
 refine h w0 m0 a w ⟨cc,hold, ?_⟩
 have h1:al w0 nt cc (HSt.den ⟨(dh,some (.v (.one (.win id n' 0 n0)))) :: st.t,st.o⟩) a w:=by
  refine sj hrr ⟨by rw [hv1];rfl,hu.2.1,fun ob s2 e2 n2 ho2 hd2=>⟨(hu.2.2 _ _ _ _ ho2 hd2).1,fun hk=>?_⟩⟩
  obtain rfl:ob = .arr true s e n' f:=Option.some.inj (ho2.symm.trans ho)
  simp only [ai.dim,Option.some.injEq,Prod.mk.injEq] at hd2
  obtain ⟨rfl,rfl,rfl⟩:=hd2
  obtain ⟨ad2,cap2,g1,g2,g3⟩:=vm (hrr.objs _ _ ho2)
  have hown:cc.own id = .slice ad n' cap:=hu1.symm.trans hu.1
  rw [hown] at g1
  simp only [Value.slice.injEq,true_and] at g1
  obtain ⟨rfl,rfl⟩:=g1
  exact ⟨ad,ad,cap,hown,hv1,by omega,g2,g3,fun _=>by cases ad <;> simp [lr]⟩
 exact sj (st:=⟨(dh,some (.v (.one (.win id n' 0 n0)))) :: st.t,st.o⟩) h1 ⟨by rw [hu.1];rfl,hu.2.1,hu.2.2⟩
end
end
end Go.Hx
