/- A part of the proof: LyB Bd3 Dw2 Dw3 Ds7 Ds8 Bz10 Y10 Y11 Y12 Ds10 Dw5 Cs43 Cs44 V39. -/
import Derived.Shelf.Strings.Builder1
import Derived.Test.YtkkenjdfbojdlaaGreatDoorProg
import Derived.Test.YtkkenjdfbojdlaaGreatDoorGx15
import Derived.Test.YtkkenjdfbojdlaaGreatDoorGx16
import Derived.Test.YtkkenjdfbojdlaaGreatDoorGx19
import Derived.Test.YtkkenjdfbojdlaaGreatDoorGx20
import Derived.Test.YtkkenjdfbojdlaaGreatDoorGx21
import Derived.Test.YtkkenjdfbojdlaaGreatDoorGx22
import Derived.Test.YtkkenjdfbojdlaaGreatDoorGx31
import Derived.Test.YtkkenjdfbojdlaaGreatDoorGx32
import Derived.Test.YtkkenjdfbojdlaaGreatDoorGx34
import Derived.Test.YtkkenjdfbojdlaaGreatDoorGx35
import Derived.Test.YtkkenjdfbojdlaaGreatDoorGx36
import Derived.Test.YtkkenjdfbojdlaaGreatDoorGx37
import Derived.Test.YtkkenjdfbojdlaaGreatDoorGx39
set_option linter.all false
set_option maxRecDepth 100000
set_option maxHeartbeats 1000000
section
namespace Go.Proofs
open Go.Shelf
def Tryz.lays169_ren:Go.Shelf.Ren:=⟨fun | 169=>60 | n=>n,fun | 70=>92 | 9=>9 | 0=>0 | 72=>94 | 37=>23 | 127=>153 | 3=>3 | 5=>5 | n=>n,fun | n=>n⟩
theorem Tryz.lays169:Go.Proofs.Lays.n169 Tryz.prog Tryz.lays169_ren:={
 mixed:=by kernel_rfl
 f169:=Tryz.func60.trans (congrArg some (by kernel_rfl))
 t0:=Tryz.underlying0
 a0:=Tryz.isAgg0
 z0:=Tryz.sizeOf0
 v0:=Tryz.zeroValue0
 t3:=Tryz.underlying3
 a3:=Tryz.isAgg3
 z3:=Tryz.sizeOf3
 v3:=Tryz.zeroValue3
 t9:=Tryz.underlying9
 a9:=Tryz.isAgg9
 z9:=Tryz.sizeOf9
 v9:=Tryz.zeroValue9
 t37:=Tryz.underlying23
 a37:=Tryz.isAgg23
 z37:=Tryz.sizeOf23
 v37:=Tryz.zeroValue23
 t70:=Tryz.underlying92
 a70:=Tryz.isAgg92
 z70:=Tryz.sizeOf92
 v70:=Tryz.zeroValue92
 t72:=Tryz.underlying94
 a72:=Tryz.isAgg94
 z72:=Tryz.sizeOf94
 v72:=Tryz.zeroValue94
 t127:=Tryz.underlying153
 a127:=Tryz.isAgg153
 z127:=Tryz.sizeOf153
 v127:=Tryz.zeroValue153 }
theorem Tryz.Builder_Extra_169:Builder.Extra Tryz.prog Tryz.lays169_ren:={
 sizeBuilder:=by kernel_rfl
 liesBuilder:=by kernel_rfl
 t5:=Tryz.underlying5
 a5:=Tryz.isAgg5
 z5:=Tryz.sizeOf5
 v5:=Tryz.zeroValue5
 infoByte:=by kernel_rfl
 cellsByte:=by kernel_rfl
 sizeByte:=by kernel_rfl
 neB5:=by decide }
def Tryz.lays156_ren:Go.Shelf.Ren:=⟨fun | 156=>56 | 165=>115 | 166=>57 | 169=>60 | 240=>116 | 241=>165 | 276=>166 | 277=>212 | n=>n,fun | 31=>57 | 9=>9 | 3=>3 | 4=>4 | 0=>0 | 20=>20 | 72=>94 | 76=>97 | 70=>92 | 37=>23 | 75=>96 | 127=>153 | 164=>178 | 5=>5 | 80=>100 | n=>n,fun | n=>n⟩
theorem Tryz.lays156:Go.Proofs.Lays.n156 Tryz.prog Tryz.lays156_ren:={
 mixed:=by kernel_rfl
 f156:=Tryz.func56.trans (congrArg some (by kernel_rfl))
 f165:=Tryz.func115.trans (congrArg some (by kernel_rfl))
 f166:=Tryz.func57.trans (congrArg some (by kernel_rfl))
 f169:=Tryz.func60.trans (congrArg some (by kernel_rfl))
 f240:=Tryz.func116.trans (congrArg some (by kernel_rfl))
 f241:=Tryz.func165.trans (congrArg some (by kernel_rfl))
 f276:=Tryz.func166.trans (congrArg some (by kernel_rfl))
 f277:=Tryz.func212.trans (congrArg some (by kernel_rfl))
 t0:=Tryz.underlying0
 a0:=Tryz.isAgg0
 z0:=Tryz.sizeOf0
 v0:=Tryz.zeroValue0
 t3:=Tryz.underlying3
 a3:=Tryz.isAgg3
 z3:=Tryz.sizeOf3
 v3:=Tryz.zeroValue3
 t4:=Tryz.underlying4
 a4:=Tryz.isAgg4
 z4:=Tryz.sizeOf4
 v4:=Tryz.zeroValue4
 t9:=Tryz.underlying9
 a9:=Tryz.isAgg9
 z9:=Tryz.sizeOf9
 v9:=Tryz.zeroValue9
 t20:=Tryz.underlying20
 a20:=Tryz.isAgg20
 z20:=Tryz.sizeOf20
 v20:=Tryz.zeroValue20
 t31:=Tryz.underlying57
 a31:=Tryz.isAgg57
 z31:=Tryz.sizeOf57
 v31:=Tryz.zeroValue57
 t37:=Tryz.underlying23
 a37:=Tryz.isAgg23
 z37:=Tryz.sizeOf23
 v37:=Tryz.zeroValue23
 t70:=Tryz.underlying92
 a70:=Tryz.isAgg92
 z70:=Tryz.sizeOf92
 v70:=Tryz.zeroValue92
 t72:=Tryz.underlying94
 a72:=Tryz.isAgg94
 z72:=Tryz.sizeOf94
 v72:=Tryz.zeroValue94
 t75:=Tryz.underlying96
 a75:=Tryz.isAgg96
 z75:=Tryz.sizeOf96
 v75:=Tryz.zeroValue96
 t76:=Tryz.underlying97
 a76:=Tryz.isAgg97
 z76:=Tryz.sizeOf97
 v76:=Tryz.zeroValue97
 t127:=Tryz.underlying153
 a127:=Tryz.isAgg153
 z127:=Tryz.sizeOf153
 v127:=Tryz.zeroValue153
 t164:=Tryz.underlying178
 a164:=Tryz.isAgg178
 z164:=Tryz.sizeOf178
 v164:=Tryz.zeroValue178 }
theorem Tryz.Builder_Extra_156:Builder.Extra Tryz.prog Tryz.lays156_ren:={
 sizeBuilder:=by kernel_rfl
 liesBuilder:=by kernel_rfl
 t5:=Tryz.underlying5
 a5:=Tryz.isAgg5
 z5:=Tryz.sizeOf5
 v5:=Tryz.zeroValue5
 infoByte:=by kernel_rfl
 cellsByte:=by kernel_rfl
 sizeByte:=by kernel_rfl
 neB5:=by decide }
end Go.Proofs
end
namespace Go.Hx
section
open Go.Shelf Go.RowKit Go.Proofs
abbrev tB:TypeId:=94
abbrev tC:TypeId:=5
abbrev bd (fr:Bool) (l:List UInt8):af:=.bld fr tB tC (Lib.byteCells l)
theorem qu:goodFn Tryz.prog 57:=⟨Tryz.f57,Tryz.func57,by kernel_rfl,by kernel_rfl⟩
theorem awg:goodFn Tryz.prog 60:=⟨Tryz.f60,Tryz.func60,by kernel_rfl,by kernel_rfl⟩
theorem b4h:goodFn Tryz.prog 115:=⟨Tryz.f115,Tryz.func115,by kernel_rfl,by kernel_rfl⟩
theorem agj {v:Value} (h:∃ a m c,v = .slice a m c):v.ownBlock = cw v:=by
 obtain ⟨a,m,c,rfl⟩:=h;cases a <;> rfl
theorem agy (l:List UInt8) (s:ByteArray):Lib.byteCells l ++ Lib.strCells s = Lib.byteCells (l ++ s.data.toList):=by
 simp [Lib.byteCells,Lib.strCells]
theorem ahk {c:Ctx} {w:World} {id:Nat} {fr:Bool} {T e:TypeId} {l:List Value} (h:b35 0 c w id fr T e l) :
 ∃ b p v,c.own id = .pointer (some ⟨b,0,none⟩) /\ BAt T e b p v l w /\ (p = .pointer none \/ p = .pointer (some ⟨b,0,none⟩)) /\ (∀ k,c.blk id k <-> k = b \/ v.ownBlock = some k) /\ (fr = true -> p = .pointer none /\ v = .slice none 0 0):=by
 obtain ⟨b,p,v,h1,_,h3,h4,h5,h6,h7,h8⟩:=h;have e:=agj (aei h5).1;exact ⟨b,p,v,h1,⟨h3,h5,by rw [e];exact h6⟩,h4,fun k=>by rw [e];exact h7 k,h8⟩
theorem ahy {c:Ctx} {w w':World} {id b:Nat} {fr:Bool} {T e:TypeId} {v v':Value} {l l':List Value} {r:Value} {res:HR} (hM:Mem c (lk [(id, .bld fr T e l)]) w) (hown:c.own id = .pointer (some ⟨b,0,none⟩)) (hblk:∀ k,c.blk id k <-> k = b \/ v.ownBlock = some k)
 (hB':BAt T e b (.pointer (some ⟨b,0,none⟩)) v' l' w') (hbel:Below 0 w w') (hfr:∀ k,k < w.heap.size -> k ≠ b -> v.ownBlock ≠ some k -> w'.heap[k]? = w.heap[k]?) (hv':∀ k,v'.ownBlock = some k -> v.ownBlock = some k \/ w.heap.size <= k)
 (hres:∀ c' o',ap c' o' res r) :
 ∃ v2 c',Ending.returned r = .returned v2 /\ ap c' (lk [(id, .bld false T e l')]) res v2 /\ Mem c' (lk [(id, .bld false T e l')]) w' /\ Below 0 w w' /\
  (∀ b,b < w.heap.size -> (∀ id' ob,lk [(id, .bld fr T e l)] id' = some ob -> ¬ c.blk id' b) -> w'.heap[b]? = w.heap[b]? /\ c'.imm b = c.imm b) /\
  (∀ id' ob b,lk [(id, .bld false T e l')] id' = some ob -> c'.blk id' b -> w.heap.size <= b \/ ∃ id0 ob0,lk [(id, .bld fr T e l)] id0 = some ob0 /\ c.blk id0 b) /\
  (∀ id' ∈ [id],Evo c (lk [(id, .bld fr T e l)]) c' (lk [(id, .bld false T e l')]) id'):=by
 have hl1:lk [(id,af.bld fr T e l)] id = some (.bld fr T e l):=by simp [lk]
 have hl2:lk [(id,af.bld false T e l')] id = some (.bld false T e l'):=by simp [lk]
 have one:∀ {x:af} {id':Nat} {ob:af},lk [(id,x)] id' = some ob -> id' = id /\ ob = x:=fun {x id' ob} h=>⟨(ir h).1,(ir h).2⟩;have sep:∀ k,k = b \/ v.ownBlock = some k -> c.imm k = none:=fun k hk=>hM.sep id _ k hl1 ((hblk k).2 hk);have lt:∀ k ob,c.imm k = some ob -> k < w.heap.size:=fun k ob hk=>(bkn.1 (hM.imm k ob hk)).1;have e':=agj (aei hB'.own).1;refine ⟨r,{ c with blk:=fun k=>if k = id then (fun x=>x = b \/ v'.ownBlock = some x) else c.blk k },rfl,hres _ _,⟨fun id' ob h=>?_,fun i i' ob ob' k h h' _ _=>?_,fun k ob hk=>?_,fun id' ob k h hk=>?_⟩,hbel,fun k hk hn=>?_,fun id' ob k h hk=>?_,fun id' hid=>?_⟩
 · obtain ⟨rfl,rfl⟩:=one h
   exact ⟨b,_,v',hown,bkl _,hB'.heap, .inr rfl,hB'.own,by rw [<- e'];exact hB'.ne,fun k=>by simp [e'],fun h=>by cases h⟩
 · rw [(one h).1,(one h').1]
 · have hk':=lt k ob hk
   refine (hfr k hk' (fun e=>?_) fun e=>?_).trans (hM.imm k ob hk)
   · have:=sep k (.inl e);have hk2:c.imm k = some ob:=hk;rw [hk2] at this;cases this
   have:=sep k (.inr e);have hk2:c.imm k = some ob:=hk;rw [hk2] at this;cases this
 · obtain ⟨rfl,rfl⟩:=one h
   simp only [if_true] at hk
   rcases hk with rfl | hk
   · exact sep _ (.inl rfl)
   rcases hv' k hk with h1 | h1
   · exact sep k (.inr h1)
   show c.imm k = none
   cases hi:c.imm k with
   | none=>rfl
   | some ob=>have:=lt k ob hi;omega
 · have hn':=fun h=>hn id _ hl1 ((hblk k).2 h)
   exact ⟨hfr k hk (fun e=>hn' (.inl e)) fun e=>hn' (.inr e),rfl⟩
 · obtain ⟨rfl,rfl⟩:=one h
   simp only [if_true] at hk
   rcases hk with rfl | hk
   · exact .inr ⟨_,_,hl1,(hblk _).2 (.inl rfl)⟩
   rcases hv' k hk with h1 | h1
   · exact .inr ⟨_,_,hl1,(hblk k).2 (.inr h1)⟩
   exact .inl h1
 rw [bl3.1 hid];exact .inr (.inr ⟨_,_,0,1,0,0,hl1,rfl,hl2,rfl,bko _,fun _=>rfl,fun _ _ _ _ _ _ _ h=>by cases h⟩)
theorem qq (id:Nat) (fr:Bool) (l:List UInt8) (s:ByteArray) (hlen:l.length + s.size <= 140737488355328):da Tryz.prog 57 [.one (.ref id 0), .one (.p (.raw (.string s)))] [(id,bd fr l)] (.tup [.one (.p (.raw (.int .i64 (s.size:Int)))), .one (.p (.raw .nilIface))]) [(id,bd false (l ++ s.data.toList))] [id]:=by
 intro w c us hM hus
 match us,hus with
 | [u,v],⟨hu,hv,_⟩ =>
  obtain ⟨rfl,_⟩:=hv;have hl1:lk [(id,bd fr l)] id = some (bd fr l):=by simp [lk]
  have hu2:u = c.own id:=(hu.2.2 _ _ _ _ hl1 rfl).2 rfl;subst hu2;obtain ⟨b,p,v0,hown,hB,hp,hblk,_⟩:=ahk (hM.objs id _ hl1);rw [hown];refine (agw (P:=Tryz.prog) (ρ:=Tryz.lays156_ren) { Tryz.lays156 with } Tryz.Builder_Extra_156 b p v0 _ s w hp hB (by rw [Lib.byteCells_length];exact hlen)).mono ?_;rintro e w' ⟨rfl,hbel,v',hB',hfr,hv'⟩;rw [agy] at hB';exact ahy hM hown hblk hB' hbel hfr hv' fun c' o'=>⟨_,rfl,⟨rfl,rfl⟩,⟨rfl,rfl⟩,trivial⟩
theorem bgl (id:Nat) (n:Nat) (hn:n <= 281474976710656):da Tryz.prog 115 [.one (.ref id 0), .one (.p (.raw (.int .i64 (n:Int))))] [(id,bd true [])] (.tup []) [(id,bd false [])] [id]:=by
 intro w c us hM hus
 match us,hus with
 | [u,v],⟨hu,hv,_⟩ =>
  obtain ⟨rfl,_⟩:=hv;have hl1:lk [(id,bd true [])] id = some (bd true []):=by simp [lk]
  have hu2:u = c.own id:=(hu.2.2 _ _ _ _ hl1 rfl).2 rfl;subst hu2;obtain ⟨b,p,v0,hown,hB,hp,hblk,hf⟩:=ahk (hM.objs id _ hl1);obtain ⟨rfl,rfl⟩:=hf rfl;rw [hown];refine (bbn (P:=Tryz.prog) (ρ:=Tryz.lays156_ren) { Tryz.lays156 with } Tryz.Builder_Extra_156 b n w hB.heap hn).mono ?_;rintro e w' ⟨rfl,hbel,⟨v',hB',hv'⟩,hfr⟩;exact ahy hM hown hblk hB' hbel (fun k hk hkb _=>hfr k hk hkb) (fun k hk=>.inr (hv' k hk)) fun c' o'=>⟨[],rfl,trivial⟩
theorem b2p (id:Nat) (fr:Bool) (l:List UInt8) (h0:l ≠ []):da Tryz.prog 60 [.one (.ref id 0)] [(id,bd fr l)] (.v (.one (.p (.raw (.string ⟨l.toArray⟩))))) [] []:=by
 intro w c us hM hus
 match us,hus with
 | [u],⟨hu,_⟩ =>
  have hl1:lk [(id,bd fr l)] id = some (bd fr l):=by simp [lk]
  have hu2:u = c.own id:=(hu.2.2 _ _ _ _ hl1 rfl).2 rfl;subst hu2;obtain ⟨b,p,v0,hown,hB,hp,hblk,_⟩:=ahk (hM.objs id _ hl1);rw [hown];refine (b0s (P:=Tryz.prog) (ρ:=Tryz.lays169_ren) Tryz.lays169 Tryz.Builder_Extra_169 b p v0 l w hB h0).mono ?_;rintro e w' ⟨rfl,hbel,hfr⟩;refine ⟨_,c,rfl,⟨rfl,rfl⟩,⟨(fun id' ob h=>by cases h),(fun i i' ob ob' k h=>by cases h),fun k ob hk=>?_,(fun id' ob k h=>by cases h)⟩,hbel,fun k hk hn=>⟨hfr k fun e=>hn id _ hl1 ((hblk k).2 (.inr e)),rfl⟩,(fun id' ob k h=>by cases h),(fun id' hid=>by cases hid)⟩;refine (hfr k fun e=>?_).trans (hM.imm k ob hk);have:=hM.sep id _ k hl1 ((hblk k).2 (.inr e));rw [hk] at this;cases this
end
section
open Go.Proofs
theorem axd:goodFn Tryz.prog 56:=wgx Tryz.func56
theorem b2i (l:List Bs) (sep:Bs) (hs1:sep.size = 1) (hl:l.length <= 1000) (hsz:szB l <= 1000000000):a7 Tryz.prog 56 [pP (bsl l),pS sep] (ae [pS (a2s l sep)]):=by
 refine hpx (nt:=75) Tryz.func56 ?_;refine w_6 ?_;refine cb 0 rfl fun hn=>?_;have hA:∀ i,(sa l sep i).length <= 1000001000:=fun i=>by have:=b5l l sep i;rw [hs1] at this;omega
 refine ce ?_;refine hcd (fun h0=>?_) (fun h0=>?_)
 · have hl0:=bi0 h0;subst hl0;refine w_4 ?_;exact hx8 rfl rfl rfl (CoL.refl _)
 refine w_5 ?_;refine hcd (fun h1=>?_) (fun h1=>?_)
 · refine w_7 ?_;exact hx8 rfl rfl rfl (⟨CoC.one (CoP.of_eq (by rw [avl sep bos];rfl)),trivial⟩)
 refine ef ?_;refine hcd (fun h2=>?_) (fun h2=>?_)
 ·
  refine w_8 ?_;refine rq rfl rfl rfl rfl rfl ?_ (hp:=⟨by decide,by omega,by constructor <;> decide⟩);refine w_2 ?_;refine hcd (fun h3=>?_) (fun h3=>?_)
  · exfalso;have:=b7s (n:=(l.length:Int) - 1) bos bos;omega
  have hmul:(sep.size:Int) * ((l.length:Int) - 1) = (l.length:Int) - 1:=by rw [hs1];simp
  refine ar3 ?_;refine a6 (ι:=Nat) ⟨[(0,some _),(1,some _),(39,some _),(40,some _)],[]⟩ ⟨⟨c9,c9,c9,c9,trivial⟩,trivial⟩ (fun i=>⟨[(5,some (vI ((l.length:Int) - 1 + szB (l.take i)))),(41,some (vI i))],[]⟩) (fun i=>i <= l.length) (fun i=>l.length - i) (0) (bkl _) ⟨⟨⟨_,rfl,(coi (by simp [szB];omega))⟩,zy,trivial⟩,trivial⟩ ?_;rintro i hi;refine w_5 ?_;refine hcd (fun h4=>?_) (fun h4=>?_)
  ·
   have hil:i < l.length:=by omega
   have hst:=aiz hil;have hst2:=a13 l (i + 1);have hst3:(l.getD (i:Int).toNat default).size = (l.getD i default).size:=rfl;refine ald ?_;refine hcd (fun h5=>?_) (fun h5=>?_)
   · exfalso;omega
   refine ef ?_;exact lpx (i + 1) ⟨⟨⟨_,rfl,(coi (by rw [hst];omega))⟩,zy,c9,c9,c9,c9,trivial⟩,trivial⟩
  obtain rfl:i = l.length:=by omega
  rw [bks] at *;refine w_3 ?_;refine m9 0 ?_;refine w_4 ?_;refine gi rfl rfl rfl rfl rfl rfl b4h (bgl 0 (l.length - 1 + szB l) bos) (⟨uk.refl _,CoP.of_eq (by congr 2;omega),trivial⟩) ⟨u9,trivial⟩ rfl rfl ?_;refine w_6 ?_;refine fc9 qu (qq 0 false [] (l.getD 0 default) (by have:=aba (l:=l) (i:=0) bos;show 0 + (l.getD 0 default).size <= _;omega)) ⟨u9,trivial⟩ ?_;refine ce ?_;refine a6 (ι:=Nat) ⟨[(1,some _),(8,some _),(63,some _),(64,some _)],[]⟩ ⟨⟨c9,c9,c9,c9,trivial⟩,trivial⟩ (fun k=>⟨[(65,some (vI k))],[(0,some (bd false (sa l sep k)))]⟩) (fun k=>k <= l.length - 1) (fun k=>l.length - k) (0) (bkl _) ⟨⟨zy,trivial⟩,⟨⟨_,rfl,(CoO.of_eq (by rw [be2]))⟩,trivial⟩⟩ ?_;rintro k hk0;refine w_5 ?_;refine hcd (fun h6=>?_) (fun h6=>?_)
  ·
   have hk:1 + k < l.length:=by simp only [ek,be] at *;omega
   refine ef ?_;refine fc9 qu (qq 0 false (sa l sep k) sep (by have:=hA k;omega)) ⟨u9,trivial⟩ ?_;refine w_3 ?_;refine fc9 qu (qq 0 false ((sa l sep k) ++ bL sep) (l.getD (1 + k) default) (by have:=hA k;have:=aba hk;rw [bkq,aao];omega)) ⟨u9,trivial⟩ ?_;refine w_5 ?_;exact lpx (k + 1) ⟨⟨zy,c9,c9,c9,c9,trivial⟩,⟨⟨_,rfl,(CoO.of_eq (by rw [agn hk]))⟩,trivial⟩⟩
  obtain rfl:k = l.length - 1:=by simp only [ek,be] at *;omega
  refine w_3 ?_
  have hne:sa l sep (l.length - 1) ≠ []:=by
   obtain ⟨q,hq⟩:∃ q,l.length - 1 = q + 1:=⟨l.length - 2,by omega⟩;rw [hq,agn bos];intro e;have:=congrArg List.length e;simp only [bkq,aao,bms] at this;omega
  refine fc9 awg (b2p 0 false (sa l sep (l.length - 1)) hne) ⟨u9,trivial⟩ ?_;refine w_2 ?_;exact hx8 rfl rfl rfl (⟨CoC.one (CoP.of_eq (by rw [<- b1c sep (by intro e;subst e;simp at *)])),trivial⟩)
 exfalso;omega
end
section
open Go.Proofs
theorem bfd:a7 Tryz.prog 55 [pA 0] (ae [pP (il [])]):=by
 have h:=ad4 0;rw [ac5] at h;exact h
theorem akz {ns:List Bs} {q:List Nat} {i:Nat} (h:i < q.length):(q.take (i + 1)).map (fun k=>ns.getD k default) = (q.take i).map (fun k=>ns.getD k default) ++ [ns.getD (q.getD i default) default]:=by
 rw [List.take_succ,bkj h,bmw,bkk (l:=q),bkj h];rfl
theorem bdo:goodFn Tryz.prog 51:=wgx Tryz.func51
theorem b6c (ns:List Bs) (hl:∀ b ∈ ns,b.size <= maxLen):a7 Tryz.prog 51 [pA 0,pP (bsl ns)] (ae [pS ⟨#[]⟩,pI (mj ns)]):=by
 refine hpx (nt:=36) Tryz.func51 ?_;refine w_9 ?_;refine qcx b7t (biu ns hl) ?_;refine w_7 ?_;refine hcn (fun h0=>?_) (fun h0=>?_)
 · refine w_6 ?_;exact hx8 rfl rfl rfl (CoL.refl _)
 refine w_9 ?_;refine qcx a2k (bfd) ?_;refine w_4 ?_;refine a6 (ι:=Unit) ⟨[(1,some _),(16,some _),(17,some _)],[]⟩ ⟨⟨c9,c9,c9,trivial⟩,trivial⟩ (fun x=>⟨[(7,some (.v (.one (.p (.sl 0 0 true fun _ _=>.any))))),(18,some (vI 0))],[]⟩) (fun x=>True) (fun x=>0) (()) (trivial) ⟨⟨zy,zy,trivial⟩,trivial⟩ ?_;rintro _ _;refine w_5 ?_;refine hcd (fun h1=>?_) (fun h1=>?_)
 · exfalso;exact absurd h1 bow
 refine w_4 ?_;refine rc rfl rfl rfl rfl rfl rfl axd (b2i [] ⟨#[32]⟩ rfl boz boz) (⟨CoC.one coN,CoC.refl _,trivial⟩) rfl rfl ?_;refine w_3 ?_;exact hx8 rfl rfl rfl (⟨CoC.refl _,cci bos,trivial⟩)
theorem acd:goodFn Tryz.prog 54:=wgx Tryz.func54
theorem ah1 (s:AS) (ns:List Bs) (hm:∀ i ∈ al s,i < ns.length) (hsz:∀ b ∈ ns,b.size <= 1000):a7 Tryz.prog 54 [pA s,pP (bx (bsl ns))] (ae [pS (txT ns s)]):=by
 refine hpx (nt:=27) Tryz.func54 ?_;refine ce ?_;have h32:=ng s;refine w_2 ?_;refine qcx a2k (ad4 s) ?_;refine w_4 ?_;refine cj 4 900 true 1 9 (lf bsC []) boz rfl (CoP.sl rfl (.inr rfl) (fun h=>h) (fun i j hi _=>absurd hi (bkp i))) (.inr rfl) rfl ?_;refine a6 (ι:=Nat) ⟨[(1,some _),(8,some _),(9,some _)],[]⟩ ⟨⟨c9,c9,c9,trivial⟩,trivial⟩ (fun i=>⟨[(4,some (.v (.one (.ref 900 (((al s).take i).map fun k=>ns.getD k default).length)))),(10,some (vI i))],[(900,some (.arr true 1 9 (((al s).take i).map fun k=>ns.getD k default).length (lf bsC (((al s).take i).map fun k=>ns.getD k default))))]⟩) (fun i=>i <= (al s).length) (fun i=>(al s).length - i) (0) (bkl _) ⟨⟨zy,zy,trivial⟩,⟨u9,trivial⟩⟩ ?_;rintro i hi;have hlen:(((al s).take i).map fun k=>ns.getD k default).length <= 32:=by rw [bl7,bku];omega
 refine w_5 ?_;refine hcd (fun h0=>?_) (fun h0=>?_)
 ·
  have hil:i < (al s).length:=by omega
  have hk:(al s).getD i default < ns.length:=hm _ (dt hil);refine ik ?_;refine rq rfl rfl rfl rfl rfl ?_ (hp:=⟨rfl,bmz _,Int.ofNat_lt.2 hk⟩);refine qy ?_;refine m9 0 ?_;refine r9 1 true ?_;refine w_6 ?_;exact lpx (i + 1) ⟨⟨⟨_,rfl,(c7 (akz hil))⟩,zy,c9,c9,c9,trivial⟩,⟨⟨_,rfl,(bz (akz hil) (CoP.refl _))⟩,trivial⟩⟩
 obtain rfl:i = (al s).length:=by omega
 rw [bks] at hlen ⊢;refine w_8 ?_;refine hcd (fun h1=>?_) (fun h1=>?_)
 · refine w_4 ?_;exact hx8 rfl rfl rfl (⟨CoC.one (CoP.of_eq (by rw [show txT ns s = ⟨#[45]⟩ from if_pos (by unfold vm;omega)];rfl)),trivial⟩)
 refine w_4 ?_;refine qcx axd (b2i (vm ns s) ⟨#[44]⟩ rfl (by unfold vm;rw [bl7];omega) (by have:=ajv (s:=s) hsz;omega)) ?_;refine w_2 ?_;exact hx8 rfl rfl rfl (⟨CoC.one (CoP.of_eq (by rw [show txT ns s = a2s (vm ns s) ⟨#[44]⟩ from if_neg (by unfold vm;omega)])),trivial⟩)
theorem b78:goodFn Tryz.prog 119:=wgx Tryz.func119
theorem bh8 (s p:AS) (l:List Fd):a7 Tryz.prog 119 [pA s,pP (bx (asC p)),pP (bx (fdl l))] (ae [pB (pkV l p s)]):=by
 refine hpx (nt:=11) Tryz.func119 ?_;refine w_9 ?_;refine qcx t6 (x6 l s) ?_;refine w_5 ?_;exact hx8 rfl rfl rfl (⟨ccb (by unfold pkV;exact congrArg (!·) (decide_eq_decide.2 (by rw [go,show (0:Int) = asI 0 from rfl,cg]))),trivial⟩)
theorem b7k:goodFn Tryz.prog 170:=wgx Tryz.func170
theorem bfr (a b:AS):a7 Tryz.prog 170 [pA a,pA b] (ae [pB (a9l a b)]):=by
 refine hpx (nt:=9) Tryz.func170 ?_;refine ef ?_;exact hx8 rfl rfl rfl (⟨ccb (decide_eq_decide.2 jd),trivial⟩)
theorem b5d:goodFn Tryz.prog 121:=wgx Tryz.func121
theorem awf (l:List AS) (hl:l.length <= 8589934592):a7 Tryz.prog 121 [pP (asl l)] (ae [pP (asl (a1c l))]):=by
 refine hpx (nt:=5) Tryz.func121 ?_;refine w_7 ?_;refine qcx apc (b3d l hl 170 0 _ a9l b7k (fun a b=>bfr a b)) ?_;refine w_2 ?_;exact hx8 rfl rfl rfl (CoL.refl _)
theorem beh:goodFn Tryz.prog 58:=wgx Tryz.func58
theorem cPk (l:List Fd) (p:AS):a7 Tryz.prog 58 [pP (fdl l),pA p] (ae [pP (asl (pkL l p))]):=by
 refine hpx (nt:=12) Tryz.func58 ?_;refine sx7 ?_;refine m9 0 ?_;refine m9 1 ?_;refine w_3 ?_;refine d4 3 rfl rfl rfl ?_;refine d4 2 rfl rfl rfl ?_;refine w_2 ?_;refine fc9 a80 (atg p) trivial ?_;refine qy ?_;refine fc9 adv ((as2 (ax p) 119 2 (fun i=>[bx (asC p),bx (fdl l)].getD i .any) (pkV l p) b78 (fun x=>bh8 x p l)).swap 900 901) ⟨u9,trivial⟩ ?_;refine w_5 ?_;refine qcx b5d (awf ((ax p).filter fun s=>!pkV l p s) (bky (bmk _ _) (bky (t7 p) boz))) ?_;refine w_2 ?_;exact hx8 rfl rfl rfl (CoL.refl _)
end
section
section
variable {ns:List Bs} {i k:Nat} {s:AS} {c:Int}
def nmP (ns:List Bs) (s:AS) (i:Nat):Bs:=a2s ((f0 s i).map fun k=>ns.getD k default) ⟨#[44]⟩
def bjk (c b:Int) (w:Bs):Bs:=if aw .and .i64 c b = 0 then ⟨#[]⟩ else ⟨#[32]⟩ ++ w
end
end
section
section
variable {ns:List Bs} {l m:List Fd} {ps:List AS} {c:Int}
def bk6 (t:Bs) (ns:List Bs):Bool:=decide ((t.size:Int) + (szB ns:Int) <= 400) && decide ((ns.length:Int) <= 40)
end
end
section
theorem asc {n:Int} (h0:n <= 16):(aa n).toNat < 65536:=by
 have h:=b26 h0;have h1:=congrArg BitVec.toNat h;rw [boa,bo4] at h1;have h2:(aa n).toNat / 2 ^ n.toNat = 0:=by simpa using h1
 have h3:(aa n).toNat < 2 ^ n.toNat:=by
  rcases bnw (aa n).toNat (2 ^ n.toNat) with h | h
  · exact h
  have:=Nat.div_pos h (Nat.pow_pos bos);omega
 have h4:2 ^ n.toNat <= 2 ^ 16:=bn7 bos bos;omega
theorem art {n:Int} {x:AS} (h0:n <= 16):(aa n &&& ~~~x).toNat < 65536:=bny (ac6 sq) (asc h0)
theorem j6 {k:Nat} (h:k < 4294967296):asI (BitVec.ofNat 32 k) = (k:Int):=by
 unfold asI;rw [bog,bni h]
theorem bfv {k:Nat} (h1:1 <= k) (h:k < 4294967296):¬ BitVec.ofNat 32 k = 0:=fun e=>by
 have:=congrArg asI e;rw [j6 h] at this;have h2:(k:Int) = 0:=this;omega
theorem bb0 {rest L x y:AS} {T:List AS} (h:¬ y &&& ~~~rest = 0):yq rest L x T y = false:=by unfold yq;rw [decide_eq_false h];simp
theorem bhq {rest L x y:AS} {T:List AS} (h:¬ L &&& ~~~(x ||| y) ∈ T):yq rest L x T y = false:=by unfold yq;rw [decide_eq_false h];simp
theorem bhs {rest L x y:AS} {T:List AS} (h0:¬ y = 0) (h:y &&& ~~~rest = 0) (h2:L &&& ~~~(x ||| y) ∈ T):yq rest L x T y = true:=by
 unfold yq;rw [decide_eq_false h0,decide_eq_true h,decide_eq_true h2];rfl
section
variable {V:AS -> Option Fd}
end
end
section
open Go.Proofs
theorem b43:goodFn Tryz.prog 127:=wgx Tryz.func127
theorem axq (l:List AS) (hl:l.length <= 8589934592):a7 Tryz.prog 127 [pP (asl l)] (ae [pP (asl (a1c l))]):=by
 refine hpx (nt:=49) Tryz.func127 ?_;refine cu ?_;refine qcx ane (ap6 l hl) ?_;refine w_8 ?_;have hol:=ln l;refine cj 3 900 true 1 46 (lf sC []) boz rfl (CoP.sl rfl (.inr rfl) (fun h=>h) (fun i j hi _=>absurd hi (bkp i))) (.inr rfl) rfl ?_;refine a6 (ι:=Nat) ⟨[(4,some _)],[]⟩ ⟨⟨c9,trivial⟩,trivial⟩ (fun i=>⟨[(3,some (.v (.one (.ref 900 (qb l i).length)))),(5,some (vI i))],[(900,some (.arr true 1 46 (qb l i).length (lf sC (qb l i))))]⟩) (fun i=>i <= (ord l).length) (fun i=>(ord l).length - i) (0) (bkl _) ⟨⟨zy,zy,trivial⟩,⟨u9,trivial⟩⟩ ?_;rintro i hi;have hlen:=axf l i;refine w_8 ?_;refine hcd (fun h0=>?_) (fun h0=>?_)
 ·
  refine ik ?_;refine a6 (ι:=Nat) ⟨[(3,some _),(4,some _),(5,some _)],[(900,some _)]⟩ ⟨⟨c9,c9,c9,trivial⟩,⟨u9,trivial⟩⟩ (fun k=>⟨[(6,some (vB (okM (ord l) i k))),(7,some (vI k))],[]⟩) (fun k=>k <= (ord l).length) (fun k=>(ord l).length - k) (0) (bkl _) ⟨⟨⟨_,rfl,(cob rfl)⟩,zy,trivial⟩,trivial⟩ ?_;rintro k hk;refine w_8 ?_;refine hcd (fun h1=>?_) (fun h1=>?_)
  ·
   refine w_6 ?_;refine am rfl rfl (fun r2=>?_) (fun r2=>?_)
   ·
    have h2:=r2;(iterate 4 refine qy ?_ (hg:=(gtt r2)));refine am rfl rfl (fun r3=>?_) (fun r3=>?_)
    ·
     have h3:=tz1 r3;(iterate 10 refine k9 (gtf r3) ?_);refine rq rfl rfl rfl rfl (gtt r2) ?_ (hp:=r3);refine w_9 ?_
     exact lpx (k + 1) ⟨⟨⟨_,rfl,(cob (by rw [okM_succ'];simp_all only [ux];simp))⟩,zy,c9,c9,c9,trivial⟩,⟨u9,trivial⟩⟩
    have h3:=tz2 r3;(iterate 8 refine qy ?_ (hg:=(gff r3)));refine qcx ny (w3 _ _) ?_ (hg:=(gff r3));refine qy ?_ (hg:=(gff r3));refine qy ?_ (hg:=(gtt r2));refine w_9 ?_
    exact lpx (k + 1) ⟨⟨⟨_,rfl,(cob (by rw [okM_succ'];simp_all only [ux];simp))⟩,zy,c9,c9,c9,trivial⟩,⟨u9,trivial⟩⟩
   have h2:=r2;(iterate 4 refine k9 (gft r2) ?_);(iterate 10 refine k9 rfl ?_);refine k9 (gft r2) ?_;refine rq rfl rfl rfl rfl rfl ?_ (hp:=r2);refine w_8 ?_
   exact lpx (k + 1) ⟨⟨⟨_,rfl,(cob (by rw [okM_succ'];simp_all only [ux];simp))⟩,zy,c9,c9,c9,trivial⟩,⟨u9,trivial⟩⟩
  obtain rfl:k = (ord l).length:=by omega
  refine w_5 ?_;refine hcb (fun h4=>?_) (fun h4=>?_)
  ·
   refine w_6 ?_;refine m9 0 ?_;refine r9 1 true ?_;refine w_7 ?_
   first | (refine ⟨i + 1, ?_, ?_, ?_⟩
            · show i + 1 <= _;omega
            · first | omega | (dsimp only;omega)
            exact ⟨⟨⟨_,rfl,(c7 (a7s bos bot))⟩,zy,c9,trivial⟩,⟨⟨_,rfl,(bz (a7s bos bot) (CoP.refl _))⟩,trivial⟩⟩)
         | (refine ⟨i + 1, ?_, ?_, ?_⟩
            · show i + 1 <= _;omega
            · first | omega | (dsimp only;omega)
            exact ⟨⟨⟨_,rfl,(ca (a7q bos bot))⟩,zy,c9,trivial⟩,⟨⟨_,rfl,(bv (a7q bos bot))⟩,trivial⟩⟩)
  refine w_6 ?_
  first | (refine ⟨i + 1, ?_, ?_, ?_⟩
           · show i + 1 <= _;omega
           · first | omega | (dsimp only;omega)
           exact ⟨⟨⟨_,rfl,(c7 (a7s bos bot))⟩,zy,c9,trivial⟩,⟨⟨_,rfl,(bz (a7s bos bot) (CoP.refl _))⟩,trivial⟩⟩)
        | (refine ⟨i + 1, ?_, ?_, ?_⟩
           · show i + 1 <= _;omega
           · first | omega | (dsimp only;omega)
           exact ⟨⟨⟨_,rfl,(ca (a7q bos bot))⟩,zy,c9,trivial⟩,⟨⟨_,rfl,(bv (a7q bos bot))⟩,trivial⟩⟩)
 obtain rfl:i = (ord l).length:=by omega
 refine w_6 ?_;refine av 2 rfl rfl rfl ?_;exact hx8 rfl rfl rfl (⟨CoC.one (CoP.of_eq (by rw [<- awo];rfl)),trivial⟩)
theorem b4e:goodFn Tryz.prog 208:=wgx Tryz.func208
theorem bpc {p:Prop} (h:p:=by rw [j6 bos,j6 bos];rfl):p:=h
theorem aus (n:Int) (l m:List Fd) (x:AS) (hn:n <= 16):a7 Tryz.prog 208 [pI n,pP (fdl l),pP (fdl m),pA x] (ae [pP (asl (d8 n l m x))]):=by
 refine hpx (nt:=48) Tryz.func208 ?_;have hsm:=art (n:=n) (x:=x) hn;refine ce ?_;refine qcx aoi (asu n l m x) ?_;refine m9 0 ?_;refine w_5 ?_;refine qcx ol (oq n) ?_;refine oe ?_;refine cj 11 900 true 1 46 (lf sC []) boz rfl (CoP.sl rfl (.inr rfl) (fun h=>h) (fun i j hi _=>absurd hi (bkp i))) (.inr rfl) rfl ?_;refine a6 (ι:=Nat) ⟨[(3,some _),(9,some _),(10,some _)],[(0,some _)]⟩ ⟨⟨c9,c9,c9,trivial⟩,⟨u9,trivial⟩⟩ (fun k=>⟨[(11,some (.v (.one (.ref 900 (yL (aa n &&& ~~~x) (orL (chT l m (aa n &&& ~~~x))) x (chT l m (aa n &&& ~~~x)) k).length)))),(12,some (vA (BitVec.ofNat 32 k)))],[(900,some (.arr true 1 46 (yL (aa n &&& ~~~x) (orL (chT l m (aa n &&& ~~~x))) x (chT l m (aa n &&& ~~~x)) k).length (lf sC (yL (aa n &&& ~~~x) (orL (chT l m (aa n &&& ~~~x))) x (chT l m (aa n &&& ~~~x)) k))))]⟩) (fun k=>1 <= k /\ k <= (aa n &&& ~~~x).toNat + 1) (fun k=>(aa n &&& ~~~x).toNat + 1 - k) (1) (⟨bko _,by omega⟩) ⟨⟨⟨_,rfl,(ca avy)⟩,⟨_,rfl,(CoR.refl _)⟩,trivial⟩,⟨⟨_,rfl,(bv avy)⟩,trivial⟩⟩ ?_;rintro k ⟨hk1,hk2⟩;have hyl:(yL (aa n &&& ~~~x) (orL (chT l m (aa n &&& ~~~x))) x (chT l m (aa n &&& ~~~x)) k).length <= k:=awm;refine w_7 ?_;refine hcd (fun h0=>?_) (fun h0=>?_)
 ·
  have hkr:k <= (aa n &&& ~~~x).toNat:=by
   have q:asI (BitVec.ofNat 32 k) <= asI (aa n &&& ~~~x):=by rw [<- go];exact h0
   rw [j6 bos] at q;exact Int.ofNat_le.1 q
  have hnz:¬ (BitVec.ofNat 32 k) = 0:=bfv hk1 bos;refine ce ?_;refine am rfl rfl (fun r1=>?_) (fun r1=>?_)
  ·
   have h1:=tz1 r1;have g1:(BitVec.ofNat 32 k) &&& ~~~(aa n &&& ~~~x) = 0:=arc (by rw [<- go (aa n) x];exact h1);(iterate 3 refine qy ?_ (hg:=(gtt r1)));refine qcx ao0 (b3l (chT l m (aa n &&& ~~~x))) ?_ (hg:=(gtt r1));(iterate 4 refine qy ?_ (hg:=(gtt r1)))
   refine rc rfl rfl rfl rfl rfl rfl ae2 (cIn (chT l m (aa n &&& ~~~x)) ((orL (chT l m (aa n &&& ~~~x))) &&& ~~~(x ||| (BitVec.ofNat 32 k)))) (⟨CoC.refl _,cci (by rw [bOr,go]),trivial⟩) rfl (gtt r1) ?_;refine w_3 ?_;refine a8 _ rfl (fun r2=>?_) (fun r2=>?_)
   ·
    have h2:=bp r1 r2;have hin:(orL (chT l m (aa n &&& ~~~x))) &&& ~~~(x ||| (BitVec.ofNat 32 k)) ∈ (chT l m (aa n &&& ~~~x)):=a1b h2;have hy:yq (aa n &&& ~~~x) (orL (chT l m (aa n &&& ~~~x))) x (chT l m (aa n &&& ~~~x)) (BitVec.ofNat 32 k) = true:=bhs hnz g1 hin;refine w_3 ?_;refine m9 1 ?_;refine r9 2 true ?_;refine w_4 ?_;refine rq rfl rfl rfl rfl rfl ?_ (hp:=by have q:=j6 (k:=k) bos;rw [q];simp only [inR,mb,nb];omega);refine w_2 ?_
    first | (refine ⟨k + 1, ?_, ?_, ?_⟩
             · exact ⟨by omega,by omega⟩
             · first | omega | (dsimp only;omega)
             exact ⟨⟨⟨_,rfl,(c7 (ad0 hy))⟩,⟨_,rfl,(bw bpc)⟩,c9,c9,c9,trivial⟩,⟨⟨_,rfl,(bz (ad0 hy) (CoP.refl _))⟩,u9,trivial⟩⟩)
          | (refine ⟨k + 1, ?_, ?_, ?_⟩
             · exact ⟨by omega,by omega⟩
             · first | omega | (dsimp only;omega)
             exact ⟨⟨⟨_,rfl,(ca (ad3 hy))⟩,⟨_,rfl,(bw bpc)⟩,c9,c9,c9,trivial⟩,⟨⟨_,rfl,(bv (ad3 hy))⟩,u9,trivial⟩⟩)
   have h2:=bp r1 r2;have hy:yq (aa n &&& ~~~x) (orL (chT l m (aa n &&& ~~~x))) x (chT l m (aa n &&& ~~~x)) (BitVec.ofNat 32 k) = false:=by first | exact bb0 g1 | exact bhq (a3w h2)
   refine w_3 ?_;refine rq rfl rfl rfl rfl rfl ?_ (hp:=by have q:=j6 (k:=k) bos;rw [q];simp only [inR,mb,nb];omega);refine w_2 ?_
   first | (refine ⟨k + 1, ?_, ?_, ?_⟩
            · exact ⟨by omega,by omega⟩
            · first | omega | (dsimp only;omega)
            exact ⟨⟨⟨_,rfl,(c7 (ad0 hy))⟩,⟨_,rfl,(bw bpc)⟩,c9,c9,c9,trivial⟩,⟨⟨_,rfl,(bz (ad0 hy) (CoP.refl _))⟩,u9,trivial⟩⟩)
         | (refine ⟨k + 1, ?_, ?_, ?_⟩
            · exact ⟨by omega,by omega⟩
            · first | omega | (dsimp only;omega)
            exact ⟨⟨⟨_,rfl,(ca (ad3 hy))⟩,⟨_,rfl,(bw bpc)⟩,c9,c9,c9,trivial⟩,⟨⟨_,rfl,(bv (ad3 hy))⟩,u9,trivial⟩⟩)
  have h1:=tz2 r1;have g1:¬ (BitVec.ofNat 32 k) &&& ~~~(aa n &&& ~~~x) = 0:=aib (by rw [<- go (aa n) x];exact h1);have hy:yq (aa n &&& ~~~x) (orL (chT l m (aa n &&& ~~~x))) x (chT l m (aa n &&& ~~~x)) (BitVec.ofNat 32 k) = false:=bb0 g1;(iterate 9 refine k9 (gft r1) ?_);refine rq rfl rfl rfl rfl rfl ?_ (hp:=r1);refine w_2 ?_;refine a8 _ rfl (fun e=>by cases e) (fun _=>?_);refine w_3 ?_
  refine rq rfl rfl rfl rfl rfl ?_ (hp:=by have q:=j6 (k:=k) bos;rw [q];simp only [inR,mb,nb];omega);refine w_2 ?_
  first | (refine ⟨k + 1, ?_, ?_, ?_⟩
           · exact ⟨by omega,by omega⟩
           · first | omega | (dsimp only;omega)
           exact ⟨⟨⟨_,rfl,(c7 (ad0 hy))⟩,⟨_,rfl,(bw bpc)⟩,c9,c9,c9,trivial⟩,⟨⟨_,rfl,(bz (ad0 hy) (CoP.refl _))⟩,u9,trivial⟩⟩)
        | (refine ⟨k + 1, ?_, ?_, ?_⟩
           · exact ⟨by omega,by omega⟩
           · first | omega | (dsimp only;omega)
           exact ⟨⟨⟨_,rfl,(ca (ad3 hy))⟩,⟨_,rfl,(bw bpc)⟩,c9,c9,c9,trivial⟩,⟨⟨_,rfl,(bv (ad3 hy))⟩,u9,trivial⟩⟩)
 obtain rfl:k = (aa n &&& ~~~x).toNat + 1:=by
  have q:¬ asI (BitVec.ofNat 32 k) <= asI (aa n &&& ~~~x):=by rw [<- go];exact h0
  rw [j6 bos] at q;have q2:¬ k <= (aa n &&& ~~~x).toNat:=fun e=>q (Int.ofNat_le.2 e);omega
 refine w_2 ?_;refine av 11 rfl rfl rfl ?_;refine w_2 ?_;refine qcx b43 (axq (yL (aa n &&& ~~~x) (orL (chT l m (aa n &&& ~~~x))) x (chT l m (aa n &&& ~~~x)) ((aa n &&& ~~~x).toNat + 1)) (bky awm bos)) ?_;refine w_2 ?_;exact hx8 rfl rfl rfl (⟨CoC.one (CoP.of_eq (by rw [aqb])),trivial⟩)
end
section
open Go.Proofs
theorem aqo {n:Int} {l m:List Fd} {x:AS} (hx:sub x (aa n)):a7 Tryz.prog 159 [pI n,pP (fdl l),pP (fdl m),pA x] (ae [pA (nc n l m x)]):=by
 have h:=axs n l m x;rw [b15 hx] at h;exact h
theorem b5a:goodFn Tryz.prog 160:=wgx Tryz.func160
theorem b4o (n:Int) (l m:List Fd) (x p:AS) (hn:n <= 16):a7 Tryz.prog 160 [pI n,pP (fdl l),pP (fdl m),pA x,pA p] (ae [pP (asl (l5 n l m x p))]):=by
 refine hpx (nt:=43) Tryz.func160 ?_;refine ce ?_;refine qcx b4e (aus n l m x hn) ?_;refine ef ?_;refine cj 12 900 true 1 46 (lf sC []) boz rfl (CoP.sl rfl (.inr rfl) (fun h=>h) (fun i j hi _=>absurd hi (bkp i))) (.inr rfl) rfl ?_;have hbl:=a2r n l m x;refine a6 (ι:=Nat) ⟨[(4,some _),(11,some _)],[]⟩ ⟨⟨c9,c9,trivial⟩,trivial⟩ (fun i=>⟨[(12,some (.v (.one (.ref 900 (mc p ((d8 n l m x).take i)).length)))),(13,some (vI i))],[(900,some (.arr true 1 46 (mc p ((d8 n l m x).take i)).length (lf sC (mc p ((d8 n l m x).take i)))))]⟩) (fun i=>i <= (d8 n l m x).length) (fun i=>(d8 n l m x).length - i) (0) (bkl _) ⟨⟨⟨_,rfl,(CoR.refl _)⟩,⟨_,rfl,(CoR.refl _)⟩,trivial⟩,⟨u9,trivial⟩⟩ ?_;rintro i hi;have hcl:(mc p ((d8 n l m x).take i)).length <= i:=bky (a9b _ _) (by rw [bku];omega);refine w_8 ?_;refine hcd (fun h0=>?_) (fun h0=>?_)
 ·
  refine ik ?_;refine hcn (fun h1=>?_) (fun h1=>?_)
  ·
   have hq:¬ (d8 n l m x).getD i default &&& p = 0:=ou h1;refine w_8 ?_;refine m9 0 ?_;refine r9 1 true ?_;refine w_7 ?_
   first | (refine ⟨i + 1, ?_, ?_, ?_⟩
            · show i + 1 <= _;omega
            · first | omega | (dsimp only;omega)
            exact ⟨⟨⟨_,rfl,(c7 (wu bos hq))⟩,⟨_,rfl,(CoR.refl _)⟩,c9,c9,trivial⟩,⟨⟨_,rfl,(bz (wu bos hq) (CoP.of_eq (congrArg (fun z=>PV.raw (.int .u32 z)) (fj _ _))))⟩,trivial⟩⟩)
         | (refine ⟨i + 1, ?_, ?_, ?_⟩
            · show i + 1 <= _;omega
            · first | omega | (dsimp only;omega)
            exact ⟨⟨⟨_,rfl,(ca (w8 bos hq))⟩,⟨_,rfl,(CoR.refl _)⟩,c9,c9,trivial⟩,⟨⟨_,rfl,(bv (w8 bos hq))⟩,trivial⟩⟩)
  have hq:(d8 n l m x).getD i default &&& p = 0:=u7 h1;refine w_6 ?_
  first | (refine ⟨i + 1, ?_, ?_, ?_⟩
           · show i + 1 <= _;omega
           · first | omega | (dsimp only;omega)
           exact ⟨⟨⟨_,rfl,(c7 (wu bos hq))⟩,⟨_,rfl,(CoR.refl _)⟩,c9,c9,trivial⟩,⟨⟨_,rfl,(bz (wu bos hq) (CoP.of_eq (congrArg (fun z=>PV.raw (.int .u32 z)) (fj _ _))))⟩,trivial⟩⟩)
        | (refine ⟨i + 1, ?_, ?_, ?_⟩
           · show i + 1 <= _;omega
           · first | omega | (dsimp only;omega)
           exact ⟨⟨⟨_,rfl,(ca (w8 bos hq))⟩,⟨_,rfl,(CoR.refl _)⟩,c9,c9,trivial⟩,⟨⟨_,rfl,(bv (w8 bos hq))⟩,trivial⟩⟩)
 obtain rfl:i = (d8 n l m x).length:=by omega
 rw [show (d8 n l m x).take (d8 n l m x).length = (d8 n l m x) from bks];refine w_2 ?_;refine av 12 rfl rfl rfl ?_;refine w_2 ?_;refine qcx ane (ap6 (mc p (d8 n l m x)) (a6t n l m x p)) ?_;refine w_2 ?_;exact hx8 rfl rfl rfl (⟨CoC.refl _,trivial⟩)
theorem b4c:goodFn Tryz.prog 109:=wgx Tryz.func109
theorem b4u (n:Int) (l m:List Fd) (p:AS) (hn:n <= 16) (hp:sub p (aa n)):a7 Tryz.prog 109 [pI n,pP (fdl l),pP (fdl m),pA p] (ae [(vF (j1 n l m) p).pc,pB (vBo (j1 n l m) p)]):=by
 refine hpx (nt:=52) Tryz.func109 ?_;have hsl:=t7 p;refine sx7 ?_;refine m9 0 ?_;refine w_5 ?_;refine qcx aov (avk p) ?_;refine w_8 ?_;refine a6 (ι:=Nat) ⟨[(0,some _),(1,some _),(2,some _),(3,some _),(8,some _),(10,some _)],[(0,some _)]⟩ ⟨⟨c9,c9,c9,c9,c9,c9,trivial⟩,⟨u9,trivial⟩⟩ (fun i=>⟨[(11,some (vI i))],[]⟩) (fun i=>i <= (ax p).length /\ ((ax p).take i).findSome? (a0y n l m p) = none) (fun i=>(ax p).length - i) (0) (⟨bkl _,rfl⟩) ⟨⟨⟨_,rfl,(CoR.refl _)⟩,trivial⟩,trivial⟩ ?_;rintro i ⟨hi,hI⟩;refine w_8 ?_;refine hcd (fun h0=>?_) (fun h0=>?_)
 ·
  have hil:i < (ax p).length:=by omega
  have hxs:sub ((ax p).getD i default) p:=a6i (a08 hil);refine oe ?_;refine qcx b9g (aqo (gk hxs hp)) ?_;refine qcx ny (w3 p (nc n l m ((ax p).getD i default))) ?_;refine aq ?_;refine a8 _ rfl (fun r1=>?_) (fun r1=>?_)
  · have h1:=r1;have hq:p &&& ~~~(nc n l m ((ax p).getD i default)) = 0:=a1b r1;refine w_6 ?_;refine lpz (i + 1) ⟨⟨⟨_,rfl,(CoR.refl _)⟩,c9,c9,c9,c9,c9,c9,trivial⟩,⟨u9,trivial⟩⟩ ?_;exact ⟨by omega,(jl hil hI).trans (by first | exact aaq hq | exact ac7 hq hc)⟩
  have h1:=r1;have hq:¬ p &&& ~~~(nc n l m ((ax p).getD i default)) = 0:=a3w r1;refine cu ?_;refine qcx b5a (b4o n l m ((ax p).getD i default) p hn) ?_;refine w_8 ?_;refine hcd (fun h2=>?_) (fun h2=>?_)
  ·
   have hc:1 < (l5 n l m ((ax p).getD i default) p).length:=by omega
   have hcl:(l5 n l m ((ax p).getD i default) p).length <= 8589934592:=bky (ln _) (a6t n l m ((ax p).getD i default) p);refine ku ?_;refine ⟨.inr rfl, ?_⟩
   have he:ae9 (j1 n l m p) = (⟨((ax p).getD i default),(l5 n l m ((ax p).getD i default) p).getD 0 default⟩,true):=by
    rw [show j1 n l m p = some _ from tc hil hI (ax4 hq hc)];rfl
   unfold vF vBo;exact f9 rfl rfl (by rw [he];exact ⟨CoC.agg ⟨CoP.refl _,CoP.refl _,trivial⟩,CoC.refl _,trivial⟩)
  have hc:¬ 1 < (l5 n l m ((ax p).getD i default) p).length:=by omega
  refine w_6 ?_;refine lpz (i + 1) ⟨⟨⟨_,rfl,(CoR.refl _)⟩,c9,c9,c9,c9,c9,c9,trivial⟩,⟨u9,trivial⟩⟩ ?_;exact ⟨by omega,(jl hil hI).trans (by first | exact aaq hq | exact ac7 hq hc)⟩
 obtain rfl:i = (ax p).length:=by omega
 rw [show (ax p).take (ax p).length = (ax p) from bks] at hI;refine w_8 ?_;refine ⟨.inr rfl, ?_⟩
 have he:ae9 (j1 n l m p) = (⟨0,0⟩,false):=by
  rw [show j1 n l m p = none from hI];rfl
 unfold vF vBo;exact f9 rfl rfl (by rw [he];exact ⟨CoC.agg ⟨CoP.of_eq rfl,CoP.of_eq rfl,trivial⟩,CoC.refl _,trivial⟩)
end
section
open Go.Proofs
def j7 (n:Int) (ps:List AS):List AS:=if ps.length = 0 then [aa n] else ps.set (ps.length - 1) (ps.getD (ps.length - 1) default ||| (aa n &&& ~~~(orL ps)))
section
variable {ps:List AS}
theorem b4m {n:Int} (h:ps.length = 0):j7 n ps = [aa n]:=if_pos h
theorem b54 {n:Int} (h:¬ ps.length = 0):j7 n ps = ps.set (ps.length - 1) (ps.getD (ps.length - 1) default ||| (aa n &&& ~~~(orL ps))):=if_neg h
theorem awd (n:Int) (ps:List AS):(j7 n ps).length <= ps.length + 1:=by
 unfold j7;split
 · simp
 rw [bmv];omega
theorem b4p {e:TypeId} {l:List AS} {f:Nat -> Nat -> PV} {m:Nat} (hm:m = l.length):CoO (.arr true 1 e (0 + m) (fh 0 f (lf sC l))) (.arr true 1 e l.length (lf sC l)):=by
 subst hm;exact ⟨fun h=>h,rfl,rfl,(blc _).symm,fun i j _ _=>CoP.of_eq (by simp [fh])⟩
theorem bhk {n:Int} {j k:Nat} (h:k = j):aw .or .u32 (asI (ps.getD k default)) (aw .andNot .u32 (asI (aa n)) (asI (orL ps))) = asI (ps.getD j default ||| (aa n &&& ~~~(orL ps))):=by
 subst h;rw [go,bOr]
theorem b7o {x:AS} {cl:Bool} {f:Nat -> Nat -> PV} (h:CoP (f 0 0) (asC x)):CoP (.sl 1 1 cl f) (asl [x]):=CoP.sl rfl (.inl rfl) (fun h=>by cases h) fun i j hi hj=>by
 obtain rfl:i = 0:=by omega
 obtain rfl:j = 0:=by omega
 exact h
theorem bdu:goodFn Tryz.prog 20:=wgx Tryz.func20
theorem bcj (n:Int) (ps:List AS) (hps:ps.length <= 8589934592):a7 Tryz.prog 20 [pI n,pP (asl ps)] (ae [pP (asl (j7 n ps))]):=by
 refine hpx (nt:=42) Tryz.func20 ?_;refine cb 1 rfl fun hb=>?_;refine oe ?_;refine a6 (ι:=Nat) ⟨[(0,some _),(1,some _)],[]⟩ ⟨⟨c9,c9,trivial⟩,trivial⟩ (fun i=>⟨[(5,some (vA (orL (ps.take i)))),(6,some (vI i))],[]⟩) (fun i=>i <= ps.length) (fun i=>ps.length - i) (0) (bkl _) ⟨⟨⟨_,rfl,(CoR.refl _)⟩,⟨_,rfl,(CoR.refl _)⟩,trivial⟩,trivial⟩ ?_;rintro i hi;refine w_8 ?_;refine hcd (fun h0=>?_) (fun h0=>?_)
 · refine xa ?_;exact lpx (i + 1) ⟨⟨⟨_,rfl,(bw ((bOr _ _).trans (congrArg asI (z7 bos).symm)))⟩,⟨_,rfl,(CoR.refl _)⟩,c9,c9,trivial⟩,trivial⟩
 obtain rfl:i = ps.length:=by omega
 rw [show ps.take ps.length = ps from bks];refine w_3 ?_;refine m9 900 ?_;refine qy ?_;refine r9 901 true ?_;refine w_2 ?_;refine yg ⟨[(0,some _),(5,some _),(7,some (.v (.one (.ref 900 ps.length))))],[(900,some (.arr true 1 46 ps.length (lf sC ps)))]⟩ (by exact ⟨⟨c9,c9,⟨_,rfl,CoR.of_eq (congrArg (fun z=>HR.v (.one (.ref 900 z))) (blc _))⟩,trivial⟩,⟨⟨_,rfl,b4p rfl⟩,trivial⟩⟩) ?_;refine w_7 ?_;refine hcd (fun h1=>?_) (fun h1=>?_)
 ·
  have h0:ps.length = 0:=by omega
  refine w_3 ?_;refine qcx ol (oq n) ?_;refine m9 902 ?_;refine w_2 ?_;refine av 4 rfl rfl rfl ?_;exact hx8 rfl rfl rfl (⟨CoC.one (by rw [b4m h0];exact b7o (CoP.refl _)),trivial⟩)
 have h0:¬ ps.length = 0:=by omega
 refine ce ?_;refine qcx ol (oq n) ?_;refine w_7 ?_;refine yg ⟨[(7,some _)],[(900,some (.arr true 1 46 ps.length (lf sC (ps.set (ps.length - 1) (ps.getD (ps.length - 1) default ||| (aa n &&& ~~~(orL ps)))))))]⟩ (by exact ⟨⟨c9,trivial⟩,⟨⟨_,rfl,(adl (fun h=>h) rfl bos bos (congrArg (fun z=>PV.raw (.int .u32 z)) (bhk bos)))⟩,trivial⟩⟩) ?_;refine w_5 ?_;refine av 4 rfl rfl rfl ?_;exact hx8 rfl rfl rfl (⟨CoC.one (CoP.of_eq (by rw [b54 h0];exact (congrArg (fun z=>PV.sl z 1 false (lf sC (ps.set (ps.length - 1) (ps.getD (ps.length - 1) default ||| (aa n &&& ~~~(orL ps)))))) List.length_set.symm))),trivial⟩)
end
end
section
def okR (d:Rcp):Bool:=decide (d.f.length <= 4 /\ d.m.length <= 4 /\ d.p.length <= 3) && decide ((d.m.length:Int) <= 2)
theorem bgp {d:Rcp} (h:okR d = true):d.f.length <= 4 /\ d.m.length <= 2 /\ d.p.length <= 3:=by
 unfold okR at h;rw [bkt,decide_eq_true_eq,decide_eq_true_eq] at h;omega
def nsL (d:Rcp) (ns:List Bs):List Bs:=if d.num 4 < (ns.length:Int) /\ (ns.length:Int) % 2 = 0 then ns.take (d.num 4).toNat else ns
theorem bhu (d:Rcp):1 <= d.num 4 /\ d.num 4 <= 4:=by
 have:d.n.toNat % 4 < 4:=Nat.mod_lt _ bos;unfold Rcp.num;omega
end
section
open Go.Proofs
theorem bdc:goodFn Tryz.prog 81:=wgx Tryz.func81
theorem b9r (n:Int) (ps:List AS) (p m:List Fd):a7 Tryz.prog 81 [pI n,pP (asl ps),pP (fdl p),pP (fdl m)] (ae [pP (stl (prS n ps p m)),pI (prC n ps p m)]):=by
 refine hpx (nt:=55) Tryz.func81 ?_;refine cu ?_;refine qcx an6 (ao1 n ps p m) ?_;refine w_5 ?_;refine m9 0 ?_;refine m9 1 ?_;refine cu ?_;refine hcn (fun h0=>?_) (fun h0=>?_)
 ·
  have hne:¬ lsC n ps p m = 0:=by rw [<- oo];exact h0
  have hr:=bce hne;refine w_6 ?_;exact hx8 rfl rfl rfl (by rw [hr.1,hr.2,<- oo];exact ⟨CoC.one coN,CoC.refl _,trivial⟩)
 have hls:lsC n ps p m = 0:=by
  rw [<- oo];exact h0
 obtain ⟨hv,hb⟩:=tk hls;have hc:(lsT n ps p m).2.2 = 0:=(aat hv hb).symm.trans hls;have htr:=awz hv hb hc;have hR:=as1 hv hb;obtain ⟨hn0,hn8,_,_,_⟩:=nr hv;have hn16:n <= 16:=by omega
 have hfew:(trS n ps p m).length <= 1300000:=adx (p:=p) (m:=m) hv hb;refine w_6 ?_;refine a6 (ι:=Nat) ⟨[(0,some _),(2,some _),(3,some _),(10,some _)],[]⟩ ⟨⟨c9,c9,c9,c9,trivial⟩,trivial⟩ (fun i=>⟨[(14,some (vI i)),(11,some (.v (.one (.p (stl (trS n ps p m))))))],[(0,some (.box [.p (.raw (.int .i64 n)), .p (rl (trT n ps p m i))]))]⟩) (fun i=>i <= (trS n ps p m).length /\ ∀ j,j < i -> mw n (trT n ps p m j) = false) (fun i=>(trS n ps p m).length - i) (0) (⟨bkl _,fun j hj=>absurd hj (bkp j)⟩) ⟨⟨zy,⟨_,rfl,(by rw [hR];exact CoR.refl _)⟩,trivial⟩,⟨⟨_,rfl,(by rw [hR];unfold trT;rw [ank];exact CoO.refl _)⟩,trivial⟩⟩ ?_;rintro i ⟨hi,hI⟩;refine w_7 ?_;refine qcx apk (aq2 n hn0 hn16) ?_;refine qcx acz (ars n (trT n ps p m i) (dc n)) ?_;refine w_2 ?_;refine hcb (fun h1=>?_) (fun h1=>?_)
 · have hr:=aa2 hls (i:=i) hi hI h1;refine w_8 ?_;exact hx8 rfl rfl rfl (by rw [hr.1,hr.2];exact ⟨CoC.one (akf (by rw [bku];dsimp only [ek,be];omega) (fun a j=>by first | rfl | (simp;rfl))),CoC.refl _,trivial⟩)
 refine w_9 ?_;refine hcd (fun h2=>?_) (fun h2=>?_)
 ·
  obtain rfl:i = (trS n ps p m).length:=by omega
  have hr:=b81 hls fun j hj=>by
   by_cases e:j = (trS n ps p m).length
   · rw [e];assumption
   exact hI j bos
  refine w_5 ?_;exact hx8 rfl rfl rfl (by rw [hr.1,hr.2];exact ⟨CoC.one coN,CoC.refl _,trivial⟩)
 have hil:i < (trS n ps p m).length:=by omega
 obtain ⟨hx1,hx2,hx3⟩:=b36 hil (aqu htr (i:=i) hi);refine ce ?_;refine qcx b7a (aux n (trT n ps p m i) p m ((trS n ps p m).getD i default) hx1 hb hx2 hx3) ?_;refine ef ?_;refine a8 _ rfl (fun e=>by cases e) (fun _=>?_);refine w_6 ?_;refine lpz (i + 1) ⟨⟨zy,c9,c9,c9,c9,c9,trivial⟩,⟨⟨_,rfl,(by unfold trT;rw [a89 hil];exact CoO.refl _)⟩,trivial⟩⟩ ?_;refine ⟨by omega,fun j hj=>?_⟩;by_cases e:j = i
 · rw [e];assumption
 exact hI j bos
end
section
open Go.Proofs
def bjj (n:Int) (l:List Fd) (i:Nat):Bool:=((a6k n l).take i).any (ld n l)
section
variable {n:Int} {l:List Fd}
end
section
variable {d:Dps}
end
end
section
def a0i (l:List Fd) (z:Int):Option PV:=match l.find? (fun f=>decide (asI f.lhs = z)) with | some f=>some (asC (mgR l f.lhs)) | none=>none
def a44 (l:List Fd):MK -> Option PV
 | .i .u32 z=>a0i l z
 | _=>none
theorem wfA (s:AS):(Lit.int .u32 (asI s)).wf = true:=by
 have h1:=acr s;have h2:=a5t s;have e1:IntKind.min .u32 = 0:=by decide
 have e2:IntKind.max .u32 = 4294967295:=by decide
 simp only [Lit.wf,e1,e2,bkt,decide_eq_true_eq];omega
section
variable {l:List Fd}
theorem b06 {s:AS} (h:∀ f ∈ l,¬ f.lhs = s):mgR l s = 0:=by
 unfold mgR;rw [bom.2 fun f hf=>by simpa using h f hf];rfl
theorem abb {s:AS} {f:Fd} (h:l.find? (fun f=>decide (asI f.lhs = asI s)) = some f):f.lhs = s:=by
 have:=List.find?_some h;exact cg.1 (of_decide_eq_true this)
theorem abt (l:List Fd) (s:AS):a2x (a44 l) (.i .u32 (asI s)) (.int .u32 0) = asC (mgR l s):=by
 show (match a0i l (asI s) with | some y=>y | none=>kp (.int .u32 0)) = _;unfold a0i
 cases h:l.find? (fun f=>decide (asI f.lhs = asI s)) with
 | some f =>
  have:=abb h;subst this;rfl
 | none =>
  rw [b06 fun f hf e=>by
   have:=bnx.1 h f hf;rw [e] at this
   exact this (decide_eq_true rfl)]
  rfl
theorem at0 (m:MK):CoM none (a44 [] m):=by
 cases m with
 | i q z=>cases q <;> exact CoM.refl _
 | s b=>exact CoM.refl _
theorem atv {i:Nat} (hi:i < l.length) (z:Int):(if z = asI (l.getD i default).lhs then some (PV.raw (.int .u32 (aw .or .u32 (asI (mgR (l.take i) (l.getD i default).lhs)) (asI (l.getD i default).rhs)))) else a0i (l.take i) z) = a0i (l.take (i + 1)) z:=by
 unfold a0i;by_cases hz:z = asI (l.getD i default).lhs
 · subst hz
   rw [if_pos rfl,bii hi rfl]
   cases h:(l.take (i + 1)).find? (fun f=>decide (asI f.lhs = asI (l.getD i default).lhs)) with
   | some f =>
    have:=abb h;rw [<- this]
   | none =>
    have:=bnx.1 h (l.getD i default) (by rw [ay hi];simp);exact absurd (decide_eq_true rfl) this
 rw [if_neg hz,ay hi,List.find?_append]
 have hx:[l.getD i default].find? (fun f=>decide (asI f.lhs = z)) = none:=by
  rw [List.find?_cons,decide_eq_false (fun e=>hz e.symm)];rfl
 rw [hx,Option.or_none]
 cases h:(l.take i).find? (fun f=>decide (asI f.lhs = z)) with
 | none=>rfl
 | some f =>
  have hf0:=List.find?_some h;have hf:asI f.lhs = z:=of_decide_eq_true hf0;dsimp only;rw [<- ay hi,bgs hi (fun e=>hz (by rw [e];exact hf.symm))]
theorem avq {i:Nat} (hi:i < l.length) (m:MK):CoM (ws (a44 (l.take i)) (.i .u32 (asI (l.getD i default).lhs)) (.raw (.int .u32 (aw .or .u32 (asI (mgR (l.take i) (l.getD i default).lhs)) (asI (l.getD i default).rhs)))) m) (a44 (l.take (i + 1)) m):=by
 refine CoM.of_eq ?_;unfold ws
 cases m with
 | s b=>rfl
 | i q z =>
  by_cases hq:q = .u32
  · subst hq
    show (bif (decide True && decide (z = _)) then _ else a0i _ z) = a0i _ z;rw [<- atv hi z];by_cases hz:z = asI (l.getD i default).lhs
    · rw [if_pos hz,decide_eq_true hz];rfl
    rw [if_neg hz,decide_eq_false hz];rfl
  have h1:MK.same (.i q z) (.i .u32 (asI (l.getD i default).lhs)) = false:=by
   show (decide _ && decide _) = false;rw [decide_eq_false hq,Bool.false_and]
  rw [h1];cases q <;> first | rfl | exact absurd rfl hq
end
end
section
open Go.Proofs
theorem ati (l:List Fd) (hl:l.length <= 16777216):a7 Tryz.prog 135 [pP (fdl l)] (ae [pP (fdl (ad5 l))]):=by
 refine hpx (nt:=47) Tryz.func135 ?_;refine w_6 ?_;refine m9 0 ?_;refine oe ?_;refine cj 4 900 true 1 46 (lf sC []) boz rfl (CoP.sl rfl (.inr rfl) (fun h=>h) (fun i j hi _=>absurd hi (bkp i))) (.inr rfl) rfl ?_;refine a6 (ι:=Nat) ⟨[(3,some _),(11,some _),(12,some _)],[]⟩ ⟨⟨c9,c9,c9,trivial⟩,trivial⟩ (fun i=>⟨[(4,some (.v (.one (.ref 900 ((l.take i).map Fd.lhs).length)))),(13,some (vI i))],[(0,some (.mp (.int .u32) i (a44 (l.take i)))),(900,some (.arr true 1 46 ((l.take i).map Fd.lhs).length (lf sC ((l.take i).map Fd.lhs))))]⟩) (fun i=>i <= l.length) (fun i=>l.length - i) (0) (bkl _) ⟨⟨zy,zy,trivial⟩,⟨⟨_,rfl,⟨rfl,bko _,at0⟩⟩,u9,trivial⟩⟩ ?_;rintro i hi;have hlen:((l.take i).map Fd.lhs).length <= i:=by rw [bl7,bku];omega
 refine w_5 ?_;refine hcd (fun h0=>?_) (fun h0=>?_)
 · refine w_7 ?_;refine m9 1 ?_;refine w_7 ?_;refine rq (out:=⟨_, .v (.one (.p (asC (mgR (l.take i) (l.getD i default).lhs))))⟩) rfl rfl rfl (congrArg (fun z=>some (Out.mk _ (HR.v (HC.one (HV.p z))))) (abt _ _)) rfl ?_ (hp:=⟨rfl,rfl,wfA _⟩);refine w_3 ?_;refine rs rfl rfl rfl rfl rfl ?_ (hp:=⟨rfl,⟨rfl,wfA _⟩,by simp only [maxLen];omega⟩);refine w_5 ?_;refine m9 2 ?_;refine r9 3 true ?_;refine w_6 ?_;exact lpx (i + 1) ⟨⟨⟨_,rfl,(c7 (tn bos))⟩,zy,c9,c9,c9,trivial⟩,⟨⟨_,rfl,⟨rfl,bko _,avq bos⟩⟩,⟨_,rfl,(bz (tn bos) (CoP.refl _))⟩,trivial⟩⟩
 obtain rfl:i = l.length:=by omega
 rw [show (l.take l.length).map Fd.lhs = l.map Fd.lhs by rw [bks],show a44 (l.take l.length) = a44 l by rw [bks]];refine w_7 ?_;refine av 4 rfl rfl rfl ?_;have hol:=ln (l.map Fd.lhs);rw [bl7] at hol;refine w_2 ?_;refine qcx xx (a51 (l.map Fd.lhs) (by rw [bl7];omega)) ?_;refine w_4 ?_;refine cj 7 901 true 2 48 (lf Fd.c []) boz rfl (CoP.sl rfl (.inr rfl) (fun h=>h) (fun i j hi _=>absurd hi (bkp i))) (.inr rfl) rfl ?_;refine a6 (ι:=Nat) ⟨[(3,some _),(31,some _),(32,some _)],[(0,some _)]⟩ ⟨⟨c9,c9,c9,trivial⟩,⟨u9,trivial⟩⟩ (fun k=>⟨[(7,some (.v (.one (.ref 901 (((ord (l.map Fd.lhs)).take k).map (mgF l)).length)))),(33,some (vI k))],[(901,some (.arr true 2 48 (((ord (l.map Fd.lhs)).take k).map (mgF l)).length (lf Fd.c (((ord (l.map Fd.lhs)).take k).map (mgF l)))))]⟩) (fun k=>k <= (ord (l.map Fd.lhs)).length) (fun k=>(ord (l.map Fd.lhs)).length - k) (0) (bkl _) ⟨⟨zy,zy,trivial⟩,⟨u9,trivial⟩⟩ ?_;rintro k hk;have hlen2:(((ord (l.map Fd.lhs)).take k).map (mgF l)).length <= k:=by rw [bl7,bku];omega
 refine w_5 ?_;refine hcd (fun h1=>?_) (fun h1=>?_)
 · refine oe ?_;refine rq (out:=⟨_, .v (.one (.p (asC (mgR l ((ord (l.map Fd.lhs)).getD k default)))))⟩) rfl rfl rfl (congrArg (fun z=>some (Out.mk _ (HR.v (HC.one (HV.p z))))) (abt _ _)) rfl ?_ (hp:=⟨rfl,rfl,wfA _⟩);refine qy ?_;refine m9 4 ?_;refine r9 5 true ?_;refine w_6 ?_;exact lpx (k + 1) ⟨⟨⟨_,rfl,(c7 (tn bos))⟩,zy,c9,c9,c9,trivial⟩,⟨⟨_,rfl,(ow (tn bos) (CoP.refl _) (CoP.refl _))⟩,u9,trivial⟩⟩
 obtain rfl:k = (ord (l.map Fd.lhs)).length:=by omega
 refine w_6 ?_;refine av 2 rfl rfl rfl ?_;exact hx8 rfl rfl rfl (⟨CoC.one (CoP.of_eq (by rw [bks];rfl)),trivial⟩)
end
end Go.Hx
