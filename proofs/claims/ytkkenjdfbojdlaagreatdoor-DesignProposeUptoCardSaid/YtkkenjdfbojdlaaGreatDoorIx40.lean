/- A part of the proof: LyB Bd3 Dw2 Dw3 Ds7 Ds8 Bz10 Y10 Y11 Y12 Ds10 Dw5 Cs43 Cs44 V39 Ls9. -/
import Derived.Shelf.Strings.Builder1
import Derived.Test.YtkkenjdfbojdlaaGreatDoorProg
import Derived.Test.YtkkenjdfbojdlaaGreatDoorIx37
import Derived.Test.YtkkenjdfbojdlaaGreatDoorIx39
set_option linter.all false
set_option maxRecDepth 100000
set_option maxHeartbeats 1000000
section
namespace Go.Proofs
open Go.Shelf
def Tryz.lays169_ren:Go.Shelf.Ren:=⟨fun | 169=>60 | n=>n,fun | 70=>92 | 9=>9 | 0=>0 | 72=>94 | 37=>23 | 127=>153 | 3=>3 | 5=>5 | n=>n,fun | n=>n⟩
theorem Tryz.lays169:Go.Proofs.Lays.n169 Tryz.prog Tryz.lays169_ren:={
 mixed:=by kernel_rfl
 f169:=Tryz.func60.trans (congrArg some (by kernel_rfl))
 t0:=Tryz.underlying0
 a0:=Tryz.isAgg0
 z0:=Tryz.sizeOf0
 v0:=Tryz.zeroValue0
 t3:=Tryz.underlying3
 a3:=Tryz.isAgg3
 z3:=Tryz.sizeOf3
 v3:=Tryz.zeroValue3
 t9:=Tryz.underlying9
 a9:=Tryz.isAgg9
 z9:=Tryz.sizeOf9
 v9:=Tryz.zeroValue9
 t37:=Tryz.underlying23
 a37:=Tryz.isAgg23
 z37:=Tryz.sizeOf23
 v37:=Tryz.zeroValue23
 t70:=Tryz.underlying92
 a70:=Tryz.isAgg92
 z70:=Tryz.sizeOf92
 v70:=Tryz.zeroValue92
 t72:=Tryz.underlying94
 a72:=Tryz.isAgg94
 z72:=Tryz.sizeOf94
 v72:=Tryz.zeroValue94
 t127:=Tryz.underlying153
 a127:=Tryz.isAgg153
 z127:=Tryz.sizeOf153
 v127:=Tryz.zeroValue153 }
theorem Tryz.Builder_Extra_169:Builder.Extra Tryz.prog Tryz.lays169_ren:={
 sizeBuilder:=by kernel_rfl
 liesBuilder:=by kernel_rfl
 t5:=Tryz.underlying5
 a5:=Tryz.isAgg5
 z5:=Tryz.sizeOf5
 v5:=Tryz.zeroValue5
 infoByte:=by kernel_rfl
 cellsByte:=by kernel_rfl
 sizeByte:=by kernel_rfl
 neB5:=by decide }
def Tryz.lays156_ren:Go.Shelf.Ren:=⟨fun | 156=>56 | 165=>115 | 166=>57 | 169=>60 | 240=>116 | 241=>165 | 276=>166 | 277=>212 | n=>n,fun | 31=>57 | 9=>9 | 3=>3 | 4=>4 | 0=>0 | 20=>20 | 72=>94 | 76=>97 | 70=>92 | 37=>23 | 75=>96 | 127=>153 | 164=>178 | 5=>5 | 80=>100 | n=>n,fun | n=>n⟩
theorem Tryz.lays156:Go.Proofs.Lays.n156 Tryz.prog Tryz.lays156_ren:={
 mixed:=by kernel_rfl
 f156:=Tryz.func56.trans (congrArg some (by kernel_rfl))
 f165:=Tryz.func115.trans (congrArg some (by kernel_rfl))
 f166:=Tryz.func57.trans (congrArg some (by kernel_rfl))
 f169:=Tryz.func60.trans (congrArg some (by kernel_rfl))
 f240:=Tryz.func116.trans (congrArg some (by kernel_rfl))
 f241:=Tryz.func165.trans (congrArg some (by kernel_rfl))
 f276:=Tryz.func166.trans (congrArg some (by kernel_rfl))
 f277:=Tryz.func212.trans (congrArg some (by kernel_rfl))
 t0:=Tryz.underlying0
 a0:=Tryz.isAgg0
 z0:=Tryz.sizeOf0
 v0:=Tryz.zeroValue0
 t3:=Tryz.underlying3
 a3:=Tryz.isAgg3
 z3:=Tryz.sizeOf3
 v3:=Tryz.zeroValue3
 t4:=Tryz.underlying4
 a4:=Tryz.isAgg4
 z4:=Tryz.sizeOf4
 v4:=Tryz.zeroValue4
 t9:=Tryz.underlying9
 a9:=Tryz.isAgg9
 z9:=Tryz.sizeOf9
 v9:=Tryz.zeroValue9
 t20:=Tryz.underlying20
 a20:=Tryz.isAgg20
 z20:=Tryz.sizeOf20
 v20:=Tryz.zeroValue20
 t31:=Tryz.underlying57
 a31:=Tryz.isAgg57
 z31:=Tryz.sizeOf57
 v31:=Tryz.zeroValue57
 t37:=Tryz.underlying23
 a37:=Tryz.isAgg23
 z37:=Tryz.sizeOf23
 v37:=Tryz.zeroValue23
 t70:=Tryz.underlying92
 a70:=Tryz.isAgg92
 z70:=Tryz.sizeOf92
 v70:=Tryz.zeroValue92
 t72:=Tryz.underlying94
 a72:=Tryz.isAgg94
 z72:=Tryz.sizeOf94
 v72:=Tryz.zeroValue94
 t75:=Tryz.underlying96
 a75:=Tryz.isAgg96
 z75:=Tryz.sizeOf96
 v75:=Tryz.zeroValue96
 t76:=Tryz.underlying97
 a76:=Tryz.isAgg97
 z76:=Tryz.sizeOf97
 v76:=Tryz.zeroValue97
 t127:=Tryz.underlying153
 a127:=Tryz.isAgg153
 z127:=Tryz.sizeOf153
 v127:=Tryz.zeroValue153
 t164:=Tryz.underlying178
 a164:=Tryz.isAgg178
 z164:=Tryz.sizeOf178
 v164:=Tryz.zeroValue178 }
theorem Tryz.Builder_Extra_156:Builder.Extra Tryz.prog Tryz.lays156_ren:={
 sizeBuilder:=by kernel_rfl
 liesBuilder:=by kernel_rfl
 t5:=Tryz.underlying5
 a5:=Tryz.isAgg5
 z5:=Tryz.sizeOf5
 v5:=Tryz.zeroValue5
 infoByte:=by kernel_rfl
 cellsByte:=by kernel_rfl
 sizeByte:=by kernel_rfl
 neB5:=by decide }
end Go.Proofs
end
namespace Go.Hx
section
open Go.Shelf Go.RowKit Go.Proofs
abbrev tB:TypeId:=94
abbrev tC:TypeId:=5
abbrev bd (fr:Bool) (l:List UInt8):aa:=.bld fr tB tC (Lib.byteCells l)
def se:goodFn Tryz.prog 57:=⟨Tryz.f57,Tryz.func57,by kernel_rfl,by kernel_rfl⟩
def aw3:goodFn Tryz.prog 60:=⟨Tryz.f60,Tryz.func60,by kernel_rfl,by kernel_rfl⟩
def bb9:goodFn Tryz.prog 115:=⟨Tryz.f115,Tryz.func115,by kernel_rfl,by kernel_rfl⟩
def ahj {v:Value} (h:∃ a m c,v = .slice a m c):v.ownBlock = d4 v:=by
 obtain ⟨a,m,c,rfl⟩:=h;cases a <;> rfl
def ajc (l:List UInt8) (s:ByteArray):Lib.byteCells l ++ Lib.strCells s = Lib.byteCells (l ++ s.data.toList):=by
 simp [Lib.byteCells,Lib.strCells]
def als {c:Ctx} {w:World} {id:Nat} {fr:Bool} {T e:TypeId} {l:List Value} (h:b5j 0 c w id fr T e l) :
 ∃ b p v,c.own id = .pointer (some ⟨b,0,none⟩) /\ BAt T e b p v l w /\ (p = .pointer none \/ p = .pointer (some ⟨b,0,none⟩)) /\ (∀ k,c.blk id k <-> k = b \/ v.ownBlock = some k) /\ (fr = true -> p = .pointer none /\ v = .slice none 0 0):=by
 obtain ⟨b,p,v,h1,_,h3,h4,h5,h6,h7,h8⟩:=h;have e:=ahj (afd h5).1;exact ⟨b,p,v,h1,⟨h3,h5,by rw [e];exact h6⟩,h4,fun k=>by rw [e];exact h7 k,h8⟩
def aoz {c:Ctx} {w w':World} {id b:Nat} {fr:Bool} {T e:TypeId} {v v':Value} {l l':List Value} {r:Value} {res:HR} (hM:Mem c (lk [(id, .bld fr T e l)]) w) (hown:c.own id = .pointer (some ⟨b,0,none⟩)) (hblk:∀ k,c.blk id k <-> k = b \/ v.ownBlock = some k)
 (hB':BAt T e b (.pointer (some ⟨b,0,none⟩)) v' l' w') (hbel:Below 0 w w') (hfr:∀ k,k < w.heap.size -> k ≠ b -> v.ownBlock ≠ some k -> w'.heap[k]? = w.heap[k]?) (hv':∀ k,v'.ownBlock = some k -> v.ownBlock = some k \/ w.heap.size <= k)
 (hres:∀ c' o',am c' o' res r) :
 ∃ v2 c',Ending.returned r = .returned v2 /\ am c' (lk [(id, .bld false T e l')]) res v2 /\ Mem c' (lk [(id, .bld false T e l')]) w' /\ Below 0 w w' /\
  (∀ b,b < w.heap.size -> (∀ id' ob,lk [(id, .bld fr T e l)] id' = some ob -> ¬ c.blk id' b) -> w'.heap[b]? = w.heap[b]? /\ c'.imm b = c.imm b) /\
  (∀ id' ob b,lk [(id, .bld false T e l')] id' = some ob -> c'.blk id' b -> w.heap.size <= b \/ ∃ id0 ob0,lk [(id, .bld fr T e l)] id0 = some ob0 /\ c.blk id0 b) /\
  (∀ id' ∈ [id],Evo c (lk [(id, .bld fr T e l)]) c' (lk [(id, .bld false T e l')]) id'):=by
 have hl1:lk [(id,aa.bld fr T e l)] id = some (.bld fr T e l):=by simp [lk]
 have hl2:lk [(id,aa.bld false T e l')] id = some (.bld false T e l'):=by simp [lk]
 have one:∀ {x:aa} {id':Nat} {ob:aa},lk [(id,x)] id' = some ob -> id' = id /\ ob = x:=fun {x id' ob} h=>⟨(j3 h).1,(j3 h).2⟩;have sep:∀ k,k = b \/ v.ownBlock = some k -> c.imm k = none:=fun k hk=>hM.sep id _ k hl1 ((hblk k).2 hk);have lt:∀ k ob,c.imm k = some ob -> k < w.heap.size:=fun k ob hk=>(bmr.1 (hM.imm k ob hk)).1;have e':=ahj (afd hB'.own).1;refine ⟨r,{ c with blk:=fun k=>if k = id then (fun x=>x = b \/ v'.ownBlock = some x) else c.blk k },rfl,hres _ _,⟨fun id' ob h=>?_,fun i i' ob ob' k h h' _ _=>?_,fun k ob hk=>?_,fun id' ob k h hk=>?_⟩,hbel,fun k hk hn=>?_,fun id' ob k h hk=>?_,fun id' hid=>?_⟩
 · obtain ⟨rfl,rfl⟩:=one h
   exact ⟨b,_,v',hown,bms _,hB'.heap, .inr rfl,hB'.own,by rw [<- e'];exact hB'.ne,fun k=>by simp [e'],fun h=>by cases h⟩
 · rw [(one h).1,(one h').1]
 · have hk':=lt k ob hk
   refine (hfr k hk' (fun e=>?_) fun e=>?_).trans (hM.imm k ob hk)
   · have:=sep k (.inl e);have hk2:c.imm k = some ob:=hk;rw [hk2] at this;cases this
   have:=sep k (.inr e);have hk2:c.imm k = some ob:=hk;rw [hk2] at this;cases this
 · obtain ⟨rfl,rfl⟩:=one h
   simp only [if_true] at hk
   rcases hk with rfl | hk
   · exact sep _ (.inl rfl)
   rcases hv' k hk with h1 | h1
   · exact sep k (.inr h1)
   show c.imm k = none
   cases hi:c.imm k with
   | none=>rfl
   | some ob=>have:=lt k ob hi;omega
 · have hn':=fun h=>hn id _ hl1 ((hblk k).2 h)
   exact ⟨hfr k hk (fun e=>hn' (.inl e)) fun e=>hn' (.inr e),rfl⟩
 · obtain ⟨rfl,rfl⟩:=one h
   simp only [if_true] at hk
   rcases hk with rfl | hk
   · exact .inr ⟨_,_,hl1,(hblk _).2 (.inl rfl)⟩
   rcases hv' k hk with h1 | h1
   · exact .inr ⟨_,_,hl1,(hblk k).2 (.inr h1)⟩
   exact .inl h1
 rw [bn2.1 hid];exact .inr (.inr ⟨_,_,0,1,0,0,hl1,rfl,hl2,rfl,bmp _,fun _=>rfl,fun _ _ _ _ _ _ _ h=>by cases h⟩)
def sh (id:Nat) (fr:Bool) (l:List UInt8) (s:ByteArray) (hlen:l.length + s.size <= 140737488355328):cb Tryz.prog 57 [.one (.ref id 0), .one (.p (.raw (.string s)))] [(id,bd fr l)] (.tup [.one (.p (.raw (.int .i64 (s.size:Int)))), .one (.p (.raw .nilIface))]) [(id,bd false (l ++ s.data.toList))] [id]:=by
 intro w c us hM hus
 match us,hus with
 | [u,v],⟨hu,hv,_⟩ =>
  obtain ⟨rfl,_⟩:=hv;have hl1:lk [(id,bd fr l)] id = some (bd fr l):=by simp [lk]
  have hu2:u = c.own id:=(hu.2.2 _ _ _ _ hl1 rfl).2 rfl;subst hu2;obtain ⟨b,p,v0,hown,hB,hp,hblk,_⟩:=als (hM.objs id _ hl1);rw [hown];refine (aj7 (P:=Tryz.prog) (ρ:=Tryz.lays156_ren) { Tryz.lays156 with } Tryz.Builder_Extra_156 b p v0 _ s w hp hB (by rw [Lib.byteCells_length];exact hlen)).mono ?_;rintro e w' ⟨rfl,hbel,v',hB',hfr,hv'⟩;rw [ajc] at hB';exact aoz hM hown hblk hB' hbel hfr hv' fun c' o'=>⟨_,rfl,⟨rfl,rfl⟩,⟨rfl,rfl⟩,trivial⟩
def bhp (id:Nat) (n:Nat) (hn:n <= 281474976710656):cb Tryz.prog 115 [.one (.ref id 0), .one (.p (.raw (.int .i64 (n:Int))))] [(id,bd true [])] (.tup []) [(id,bd false [])] [id]:=by
 intro w c us hM hus
 match us,hus with
 | [u,v],⟨hu,hv,_⟩ =>
  obtain ⟨rfl,_⟩:=hv;have hl1:lk [(id,bd true [])] id = some (bd true []):=by simp [lk]
  have hu2:u = c.own id:=(hu.2.2 _ _ _ _ hl1 rfl).2 rfl;subst hu2;obtain ⟨b,p,v0,hown,hB,hp,hblk,hf⟩:=als (hM.objs id _ hl1);obtain ⟨rfl,rfl⟩:=hf rfl;rw [hown];refine (bey (P:=Tryz.prog) (ρ:=Tryz.lays156_ren) { Tryz.lays156 with } Tryz.Builder_Extra_156 b n w hB.heap hn).mono ?_;rintro e w' ⟨rfl,hbel,⟨v',hB',hv'⟩,hfr⟩;exact aoz hM hown hblk hB' hbel (fun k hk hkb _=>hfr k hk hkb) (fun k hk=>.inr (hv' k hk)) fun c' o'=>⟨[],rfl,trivial⟩
def b4n (id:Nat) (fr:Bool) (l:List UInt8) (h0:l ≠ []):cb Tryz.prog 60 [.one (.ref id 0)] [(id,bd fr l)] (.v (.one (.p (.raw (.string ⟨l.toArray⟩))))) [] []:=by
 intro w c us hM hus
 match us,hus with
 | [u],⟨hu,_⟩ =>
  have hl1:lk [(id,bd fr l)] id = some (bd fr l):=by simp [lk]
  have hu2:u = c.own id:=(hu.2.2 _ _ _ _ hl1 rfl).2 rfl;subst hu2;obtain ⟨b,p,v0,hown,hB,hp,hblk,_⟩:=als (hM.objs id _ hl1);rw [hown];refine (b0j (P:=Tryz.prog) (ρ:=Tryz.lays169_ren) Tryz.lays169 Tryz.Builder_Extra_169 b p v0 l w hB h0).mono ?_;rintro e w' ⟨rfl,hbel,hfr⟩;refine ⟨_,c,rfl,⟨rfl,rfl⟩,⟨(fun id' ob h=>by cases h),(fun i i' ob ob' k h=>by cases h),fun k ob hk=>?_,(fun id' ob k h=>by cases h)⟩,hbel,fun k hk hn=>⟨hfr k fun e=>hn id _ hl1 ((hblk k).2 (.inr e)),rfl⟩,(fun id' ob k h=>by cases h),(fun id' hid=>by cases hid)⟩;refine (hfr k fun e=>?_).trans (hM.imm k ob hk);have:=hM.sep id _ k hl1 ((hblk k).2 (.inr e));rw [hk] at this;cases this
end
section
open Go.Proofs
def b5k (l:List Bs) (sep:Bs) (hs1:sep.size = 1) (hl:l.length <= 1000) (hsz:szB l <= 1000000000):a6 brj 56 [pP (bsl l),pS sep] (a8 [pS (a5l l sep)]):=by
 refine hpx (nt:=75) Tryz.func56 ?_;refine w_6 ?_;refine ca 0 rfl fun hn=>?_;have hA:∀ i,(tu l sep i).length <= 1000001000:=fun i=>by have:=b7e l sep i;rw [hs1] at this;omega
 refine bz ?_;refine hcd (fun h0=>?_) (fun h0=>?_)
 · have hl0:=bl0 h0;subst hl0;refine v_4 ?_;exact CoL.refl _
 refine w_5 ?_;refine hcd (fun h1=>?_) (fun h1=>?_)
 · refine v_7 ?_;exact ⟨CoC.one (CoP.of_eq (by rw [azn sep bqx];rfl)),trivial⟩
 refine en ?_;refine hcd (fun h2=>?_) (fun h2=>?_)
 ·
  refine w_8 ?_;refine rq rfl rfl rfl rfl rfl ?_ (hp:=⟨by decide,by omega,by constructor <;> decide⟩);refine w_2 ?_;refine hcd (fun h3=>?_) (fun h3=>?_)
  · exfalso;have:=bb1 (n:=(l.length:Int) - 1) bqx bqx;omega
  have hmul:(sep.size:Int) * ((l.length:Int) - 1) = (l.length:Int) - 1:=by rw [hs1];simp
  refine ao5 ?_;refine b7 (ka 0 (ka 1 (ka 39 (ka 40 kn)))) km (fun i=>⟨[(5,some (vI ((l.length:Int) - 1 + szB (l.take i)))),(41,some (vI i))],[]⟩) l.length ⟨⟨⟨_,rfl,(coi (by simp [szB];omega))⟩,tt⟩,trivial⟩ ?_;rintro i hi;refine w_5 ?_;refine hcd (fun h4=>?_) (fun h4=>?_)
  ·
   have hil:i < l.length:=by omega
   have hst:=ap7 hil;have hst2:=a2f l (i + 1);have hst3:(l.getD (i:Int).toNat default).size = (l.getD i default).size:=rfl;refine agx ?_;refine hcd (fun h5=>?_) (fun h5=>?_)
   · exfalso;omega
   refine en ?_;exact lpx (i + 1) ⟨⟨⟨_,rfl,(coi (by rw [hst];omega))⟩,tt⟩,trivial⟩
  obtain rfl:i = l.length:=by omega
  rw [bmt] at *;refine w_3 ?_;refine m9 0 ?_;refine w_4 ?_;refine fj rfl rfl rfl rfl rfl rfl bb9 (bhp 0 (l.length - 1 + szB l) bqx) (⟨vw.refl _,CoP.of_eq (by congr 2;omega),trivial⟩) uu rfl rfl ?_;refine w_6 ?_;refine fc9 se (sh 0 false [] (l.getD 0 default) (by have:=aew (l:=l) (i:=0) bqx;show 0 + (l.getD 0 default).size <= _;omega)) uu ?_;refine bz ?_;refine ae (ι:=Nat) (ka 1 (ka 8 (ka 63 (ka 64 kn)))) km (fun k=>⟨[(65,some (vI k))],[(0,some (bd false (tu l sep k)))]⟩) (fun k=>k <= l.length - 1) (fun k=>l.length - k) (0) (bms _) ⟨tt,⟨⟨_,rfl,(CoO.of_eq (by rw [bc8]))⟩,trivial⟩⟩ ?_;rintro k hk0;refine w_5 ?_;refine hcd (fun h6=>?_) (fun h6=>?_)
  ·
   have hk:1 + k < l.length:=by simp only [d5,ar] at *;omega
   refine en ?_;refine fc9 se (sh 0 false (tu l sep k) sep (by have:=hA k;omega)) uu ?_;refine w_3 ?_;refine fc9 se (sh 0 false ((tu l sep k) ++ bL sep) (l.getD (1 + k) default) (by have:=hA k;have:=aew hk;rw [bmo,ae1];omega)) uu ?_;refine w_5 ?_;exact lpx (k + 1) ⟨tt,⟨⟨_,rfl,(CoO.of_eq (by rw [aic hk]))⟩,trivial⟩⟩
  obtain rfl:k = l.length - 1:=by simp only [d5,ar] at *;omega
  refine w_3 ?_
  have hne:tu l sep (l.length - 1) ≠ []:=by
   obtain ⟨q,hq⟩:∃ q,l.length - 1 = q + 1:=⟨l.length - 2,by omega⟩;rw [hq,aic bqx];intro e;have:=congrArg List.length e;simp only [bmo,ae1,bo6] at this;omega
  refine fc9 aw3 (b4n 0 false (tu l sep (l.length - 1)) hne) uu ?_;refine v_2 ?_;exact ⟨CoC.one (CoP.of_eq (by rw [<- b3r sep (by intro e;subst e;simp at *)])),trivial⟩
 exfalso;omega
end
section
open Go.Proofs
def bhc:a6 brj 55 [pA 0] (a8 [pP (il [])]):=by
 have h:=afj 0;rw [adi] at h;exact h
def al6 {ns:List Bs} {q:List Nat} {i:Nat} (h:i < q.length):(q.take (i + 1)).map (fun k=>ns.getD k default) = (q.take i).map (fun k=>ns.getD k default) ++ [ns.getD (q.getD i default) default]:=by
 rw [List.take_succ,bml h,bou,bmm (l:=q),bml h];rfl
def b9b (ns:List Bs) (hl:∀ b ∈ ns,b.size <= maxLen):a6 brj 51 [pA 0,pP (bsl ns)] (a8 [pS ⟨#[]⟩,pI (nf ns)]):=by
 refine hpx (nt:=36) Tryz.func51 ?_;refine w_9 ?_;refine qcx (wgx Tryz.func111) (bl8 ns hl) ?_;refine w_7 ?_;refine hcn (fun h0=>?_) (fun h0=>?_)
 · refine v_6 ?_;exact CoL.refl _
 refine w_9 ?_;refine qcx a3q (bhc) ?_;refine w_4 ?_;refine ae (ι:=Unit) (ka 1 (ka 16 (ka 17 kn))) km (fun x=>⟨[(7,some (.v (.one (.p (.sl 0 0 true fun _ _=>.any))))),(18,some (vI 0))],[]⟩) (fun x=>True) (fun x=>0) (()) (trivial) kk ?_;rintro _ _;refine w_5 ?_;refine hcd (fun h1=>?_) (fun h1=>?_)
 · exfalso;exact absurd h1 br1
 refine w_4 ?_;refine rc rfl rfl rfl rfl rfl rfl (wgx Tryz.func56) (b5k [] ⟨#[32]⟩ rfl br2 br2) (⟨CoC.one coN,CoC.refl _,trivial⟩) rfl rfl ?_;refine v_3 ?_;exact ⟨CoC.refl _,cci bqx,trivial⟩
def aek:goodFn brj 54:=wgx Tryz.func54
def ajr (s:AS) (ns:List Bs) (hm:∀ i ∈ ak s,i < ns.length) (hsz:∀ b ∈ ns,b.size <= 1000):a6 brj 54 [pA s,pP (bx (bsl ns))] (a8 [pS (txT ns s)]):=by
 refine hpx (nt:=27) Tryz.func54 ?_;refine bz ?_;have h32:=o6 s;refine w_2 ?_;refine qcx a3q (afj s) ?_;refine w_4 ?_;refine bw 4 900 true 1 9 (lf bsC []) br2 rfl (CoP.sl rfl (.inr rfl) (fun h=>h) (fun i j hi _=>absurd hi (bmq i))) (.inr rfl) rfl ?_;refine b7 (ka 1 (ka 8 (ka 9 kn))) km (fun i=>⟨[(4,some (.v (.one (.ref 900 (((ak s).take i).map fun k=>ns.getD k default).length)))),(10,some (vI i))],[(900,some (.arr true 1 9 (((ak s).take i).map fun k=>ns.getD k default).length (lf bsC (((ak s).take i).map fun k=>ns.getD k default))))]⟩) ((ak s).length) kk ?_;rintro i hi;have hlen:(((ak s).take i).map fun k=>ns.getD k default).length <= 32:=by rw [bn6,bmv];omega
 refine w_5 ?_;refine hcd (fun h0=>?_) (fun h0=>?_)
 ·
  have hil:i < (ak s).length:=by omega
  have hk:(ak s).getD i default < ns.length:=hm _ (dt hil);refine jd ?_;refine rq rfl rfl rfl rfl rfl ?_ (hp:=⟨rfl,boz _,Int.ofNat_lt.2 hk⟩);refine qy ?_;refine m9 0 ?_;refine r9 1 true ?_;refine w_6 ?_;exact lpx (i + 1) ⟨⟨⟨_,rfl,(bf (al6 hil))⟩,tt⟩,⟨⟨_,rfl,(bg (al6 hil) (CoP.refl _))⟩,trivial⟩⟩
 obtain rfl:i = (ak s).length:=by omega
 rw [bmt] at hlen ⊢;refine w_8 ?_;refine hcd (fun h1=>?_) (fun h1=>?_)
 · refine v_4 ?_;exact ⟨CoC.one (CoP.of_eq (by rw [show txT ns s = ⟨#[45]⟩ from if_pos (by unfold w5;omega)];rfl)),trivial⟩
 refine w_4 ?_;refine qcx (wgx Tryz.func56) (b5k (w5 ns s) ⟨#[44]⟩ rfl (by unfold w5;rw [bn6];omega) (by have:=akw (s:=s) hsz;omega)) ?_;refine v_2 ?_;exact ⟨CoC.one (CoP.of_eq (by rw [show txT ns s = a5l (w5 ns s) ⟨#[44]⟩ from if_neg (by unfold w5;omega)])),trivial⟩
def bk7 (s p:AS) (l:List Fd):a6 brj 119 [pA s,pP (bx (asC p)),pP (bx (fdl l))] (a8 [pB (pkV l p s)]):=by
 refine hpx (nt:=11) Tryz.func119 ?_;refine w_9 ?_;refine qcx ur (xj l s) ?_;refine v_5 ?_;exact ⟨ccb (by unfold pkV;exact congrArg (!·) (decide_eq_decide.2 (by rw [gl,show (0:Int) = asI 0 from rfl,c7]))),trivial⟩
def bhg (a b:AS):a6 brj 170 [pA a,pA b] (a8 [pB (ab6 a b)]):=by
 refine hpx (nt:=9) Tryz.func170 ?_;refine en ?_;exact hx8 rfl rfl rfl (⟨ccb (decide_eq_decide.2 ig),trivial⟩)
def az6 (l:List AS) (hl:l.length <= 8589934592):a6 brj 121 [pP (asl l)] (a8 [pP (asl (a2b l))]):=by
 refine hpx (nt:=5) Tryz.func121 ?_;refine w_7 ?_;refine qcx (wgx Tryz.func137) (b58 l hl 170 0 _ ab6 (wgx Tryz.func170) (fun a b=>bhg a b)) ?_;refine v_2 ?_;exact CoL.refl _
def cPk (l:List Fd) (p:AS):a6 brj 58 [pP (fdl l),pA p] (a8 [pP (asl (pkL l p))]):=by
 refine hpx (nt:=12) Tryz.func58 ?_;refine sx7 ?_;refine m9 0 ?_;refine m9 1 ?_;refine w_3 ?_;refine d8 3 rfl rfl rfl ?_;refine d8 2 rfl rfl rfl ?_;refine w_2 ?_;refine fc9 a9d (awx p) trivial ?_;refine qy ?_;refine fc9 afc ((atx (ax p) 119 2 (fun i=>[bx (asC p),bx (fdl l)].getD i .any) (pkV l p) (wgx Tryz.func119) (fun x=>bk7 x p l)).swap 900 901) uu ?_;refine w_5 ?_;refine qcx (wgx Tryz.func121) (az6 ((ax p).filter fun s=>!pkV l p s) (bmy (boj _ _) (bmy (uc p) br2))) ?_;refine v_2 ?_;exact CoL.refl _
end
section
section
variable {ns:List Bs} {i k:Nat} {s:AS} {c:Int}
def nmP (ns:List Bs) (s:AS) (i:Nat):Bs:=a5l ((eo s i).map fun k=>ns.getD k default) ⟨#[44]⟩
def bls (c b:Int) (w:Bs):Bs:=if az .and .i64 c b = 0 then ⟨#[]⟩ else ⟨#[32]⟩ ++ w
end
end
section
section
variable {ns:List Bs} {l m:List Fd} {ps:List AS} {c:Int}
def bmj (t:Bs) (ns:List Bs):Bool:=decide ((t.size:Int) + (szB ns:Int) <= 400) && decide ((ns.length:Int) <= 40)
end
end
section
def av1 {n:Int} (h0:n <= 16):(a7 n).toNat < 65536:=by
 have h:=an9 h0;have h1:=congrArg BitVec.toNat h;rw [bqd,bq8] at h1;have h2:(a7 n).toNat / 2 ^ n.toNat = 0:=by simpa using h1
 have h3:(a7 n).toNat < 2 ^ n.toNat:=by
  rcases bpy (a7 n).toNat (2 ^ n.toNat) with h | h
  · exact h
  have:=Nat.div_pos h (bpg bqx);omega
 have h4:2 ^ n.toNat <= 2 ^ 16:=bo2 bqx bqx;omega
def au5 {n:Int} {x:AS} (h0:n <= 16):(a7 n &&& ~~~x).toNat < 65536:=bq1 (ad8 ml) (av1 h0)
def jk {k:Nat} (h:k < 4294967296):asI (BitVec.ofNat 32 k) = (k:Int):=by
 unfold asI;rw [bqm,bpi h]
def bii {k:Nat} (h1:1 <= k) (h:k < 4294967296):¬ BitVec.ofNat 32 k = 0:=fun e=>by
 have:=congrArg asI e;rw [jk h] at this;have h2:(k:Int) = 0:=this;omega
def be1 {rest L x y:AS} {T:List AS} (h:¬ y &&& ~~~rest = 0):yq rest L x T y = false:=by unfold yq;rw [decide_eq_false h];simp
def bjq {rest L x y:AS} {T:List AS} (h:¬ L &&& ~~~(x ||| y) ∈ T):yq rest L x T y = false:=by unfold yq;rw [decide_eq_false h];simp
def bkl {rest L x y:AS} {T:List AS} (h0:¬ y = 0) (h:y &&& ~~~rest = 0) (h2:L &&& ~~~(x ||| y) ∈ T):yq rest L x T y = true:=by
 unfold yq;rw [decide_eq_false h0,decide_eq_true h,decide_eq_true h2];rfl
section
variable {V:AS -> Option Fd}
def bhv {k:Nat} {s:AS} (h:vBo V s = true):lvG V (k + 1) s = lvG V k (nv V s) ++ lvG V k (lu V s):=if_pos h
def bjk {k:Nat} {s:AS} (h:vBo V s = false):lvG V k s = [s]:=by
 cases k with
 | zero=>rfl
 | succ k=>exact if_neg (by rw [h];decide)
def amx (hV:a1q V) {k:Nat} (hk:k <= 9) (s:AS):(lvG V k s).length <= 512:=bmy (ag0 hV k s) (bmy (bo2 bqx hk) br2)
end
def bcw {n:Int} {l m:List Fd} (h8:n <= 8):ek (lvG (ce n l m) 9 (a7 n)) = ek (ac8 n l m):=by
 have hb:=ta (n:=n) (m:=8) h8 bqx
 have hmem:∀ z,z ∈ ac8 n l m <-> z ∈ lvG (ce n l m) 9 (a7 n):=fun z=>by
  unfold ac8;rw [ac5 (ln n l m) _ _ _ (air (V:=ce n l m) h8).2.1,a0x (ln n l m) 9 33 _ bqx bqx];simp
 unfold ek vd;rw [ao1 (k:=ord (ac8 n l m)) (l:=lvG (ce n l m) 9 (a7 n)) (ip _) fun z=>by rw [jb,hmem]]
end
section
open Go.Proofs
def awa (l:List AS) (hl:l.length <= 8589934592):a6 brj 127 [pP (asl l)] (a8 [pP (asl (a2b l))]):=by
 refine hpx (nt:=49) Tryz.func127 ?_;refine cq ?_;refine qcx a9r (a8l l hl) ?_;refine w_8 ?_;have hol:=ke l;refine bw 3 900 true 1 46 (lf sC []) br2 rfl (CoP.sl rfl (.inr rfl) (fun h=>h) (fun i j hi _=>absurd hi (bmq i))) (.inr rfl) rfl ?_;refine b7 (ka 4 kn) km (fun i=>⟨[(3,some (.v (.one (.ref 900 (rg l i).length)))),(5,some (vI i))],[(900,some (.arr true 1 46 (rg l i).length (lf sC (rg l i))))]⟩) ((ord l).length) kk ?_;rintro i hi;have hlen:=az0 l i;refine w_8 ?_;refine hcd (fun h0=>?_) (fun h0=>?_)
 ·
  refine jd ?_;refine b7 (ka 3 (ka 4 (ka 5 kn))) (kb 900 km) (fun k=>⟨[(6,some (vB (okM (ord l) i k))),(7,some (vI k))],[]⟩) ((ord l).length) ⟨⟨⟨_,rfl,(cob rfl)⟩,tt⟩,trivial⟩ ?_;rintro k hk;refine w_8 ?_;refine hcd (fun h1=>?_) (fun h1=>?_)
  ·
   refine w_6 ?_;refine ai rfl rfl (fun r2=>?_) (fun r2=>?_)
   ·
    have h2:=r2;(iterate 4 refine qy ?_ (hg:=(gtt r2)));refine ai rfl rfl (fun r3=>?_) (fun r3=>?_)
    ·
     have h3:=tz1 r3;(iterate 10 refine k9 (gtf r3) ?_);refine rq rfl rfl rfl rfl (gtt r2) ?_ (hp:=r3);refine w_9 ?_
     exact lpx (k + 1) ⟨⟨⟨_,rfl,(cob (by rw [okM_succ'];simp_all only [o8];simp))⟩,tt⟩,uu⟩
    have h3:=tz2 r3;(iterate 8 refine qy ?_ (hg:=(gff r3)));refine qcx mf (su _ _) ?_ (hg:=(gff r3));refine qy ?_ (hg:=(gff r3));refine qy ?_ (hg:=(gtt r2));refine w_9 ?_
    exact lpx (k + 1) ⟨⟨⟨_,rfl,(cob (by rw [okM_succ'];simp_all only [o8];simp))⟩,tt⟩,uu⟩
   have h2:=r2;(iterate 4 refine k9 (gft r2) ?_);(iterate 10 refine k9 rfl ?_);refine k9 (gft r2) ?_;refine rq rfl rfl rfl rfl rfl ?_ (hp:=r2);refine w_8 ?_
   exact lpx (k + 1) ⟨⟨⟨_,rfl,(cob (by rw [okM_succ'];simp_all only [o8];simp))⟩,tt⟩,uu⟩
  obtain rfl:k = (ord l).length:=by omega
  refine w_5 ?_;refine hcb (fun h4=>?_) (fun h4=>?_)
  ·
   refine w_6 ?_;refine m9 0 ?_;refine r9 1 true ?_;refine w_7 ?_
   first | (refine ⟨i + 1, ?_, ?_, ?_⟩
            · show i + 1 <= _;omega
            · first | omega | (dsimp only;omega)
            exact ⟨⟨⟨_,rfl,(bf (a97 bqx bqy))⟩,tt⟩,⟨⟨_,rfl,(bg (a97 bqx bqy) (CoP.refl _))⟩,trivial⟩⟩)
         | (refine ⟨i + 1, ?_, ?_, ?_⟩
            · show i + 1 <= _;omega
            · first | omega | (dsimp only;omega)
            exact ⟨⟨⟨_,rfl,(bj (a9u bqx bqy))⟩,tt⟩,⟨⟨_,rfl,(bh (a9u bqx bqy))⟩,trivial⟩⟩)
  refine w_6 ?_
  first | (refine ⟨i + 1, ?_, ?_, ?_⟩
           · show i + 1 <= _;omega
           · first | omega | (dsimp only;omega)
           exact ⟨⟨⟨_,rfl,(bf (a97 bqx bqy))⟩,tt⟩,⟨⟨_,rfl,(bg (a97 bqx bqy) (CoP.refl _))⟩,trivial⟩⟩)
        | (refine ⟨i + 1, ?_, ?_, ?_⟩
           · show i + 1 <= _;omega
           · first | omega | (dsimp only;omega)
           exact ⟨⟨⟨_,rfl,(bj (a9u bqx bqy))⟩,tt⟩,⟨⟨_,rfl,(bh (a9u bqx bqy))⟩,trivial⟩⟩)
 obtain rfl:i = (ord l).length:=by omega
 refine w_6 ?_;refine al 2 rfl rfl rfl ?_;exact hx8 rfl rfl rfl (⟨CoC.one (CoP.of_eq (by rw [<- aw5];rfl)),trivial⟩)
def bri {p:Prop} (h:p:=by rw [jk bqx,jk bqx];rfl):p:=h
def az3 (n:Int) (l m:List Fd) (x:AS) (hn:n <= 16):a6 brj 208 [pI n,pP (fdl l),pP (fdl m),pA x] (a8 [pP (asl (dc n l m x))]):=by
 refine hpx (nt:=48) Tryz.func208 ?_;have hsm:=au5 (n:=n) (x:=x) hn;refine bz ?_;refine qcx (wgx Tryz.func206) (ayt n l m x) ?_;refine m9 0 ?_;refine w_5 ?_;refine qcx lr (lj n) ?_;refine pw ?_;refine bw 11 900 true 1 46 (lf sC []) br2 rfl (CoP.sl rfl (.inr rfl) (fun h=>h) (fun i j hi _=>absurd hi (bmq i))) (.inr rfl) rfl ?_;refine ae (ι:=Nat) (ka 3 (ka 9 (ka 10 kn))) (kb 0 km) (fun k=>⟨[(11,some (.v (.one (.ref 900 (yL (a7 n &&& ~~~x) (orL (chT l m (a7 n &&& ~~~x))) x (chT l m (a7 n &&& ~~~x)) k).length)))),(12,some (vA (BitVec.ofNat 32 k)))],[(900,some (.arr true 1 46 (yL (a7 n &&& ~~~x) (orL (chT l m (a7 n &&& ~~~x))) x (chT l m (a7 n &&& ~~~x)) k).length (lf sC (yL (a7 n &&& ~~~x) (orL (chT l m (a7 n &&& ~~~x))) x (chT l m (a7 n &&& ~~~x)) k))))]⟩) (fun k=>1 <= k /\ k <= (a7 n &&& ~~~x).toNat + 1) (fun k=>(a7 n &&& ~~~x).toNat + 1 - k) (1) (⟨bmp _,by omega⟩) ⟨⟨⟨_,rfl,(bj azv)⟩,⟨_,rfl,(CoR.refl _)⟩,trivial⟩,⟨⟨_,rfl,(bh azv)⟩,trivial⟩⟩ ?_;rintro k ⟨hk1,hk2⟩;have hyl:(yL (a7 n &&& ~~~x) (orL (chT l m (a7 n &&& ~~~x))) x (chT l m (a7 n &&& ~~~x)) k).length <= k:=avx;refine w_7 ?_;refine hcd (fun h0=>?_) (fun h0=>?_)
 ·
  have hkr:k <= (a7 n &&& ~~~x).toNat:=by
   have q:asI (BitVec.ofNat 32 k) <= asI (a7 n &&& ~~~x):=by rw [<- gl];exact h0
   rw [jk bqx] at q;exact Int.ofNat_le.1 q
  have hnz:¬ (BitVec.ofNat 32 k) = 0:=bii hk1 bqx;refine bz ?_;refine ai rfl rfl (fun r1=>?_) (fun r1=>?_)
  ·
   have h1:=tz1 r1;have g1:(BitVec.ofNat 32 k) &&& ~~~(a7 n &&& ~~~x) = 0:=at5 (by rw [<- gl (a7 n) x];exact h1);(iterate 3 refine qy ?_ (hg:=(gtt r1)));refine qcx (wgx Tryz.func207) (b5e (chT l m (a7 n &&& ~~~x))) ?_ (hg:=(gtt r1));(iterate 4 refine qy ?_ (hg:=(gtt r1)))
   refine rc rfl rfl rfl rfl rfl rfl af5 (cIn (chT l m (a7 n &&& ~~~x)) ((orL (chT l m (a7 n &&& ~~~x))) &&& ~~~(x ||| (BitVec.ofNat 32 k)))) (⟨CoC.refl _,cci (by rw [bOr,gl]),trivial⟩) rfl (gtt r1) ?_;refine w_3 ?_;refine aj _ rfl (fun r2=>?_) (fun r2=>?_)
   ·
    have h2:=bt r1 r2;have hin:(orL (chT l m (a7 n &&& ~~~x))) &&& ~~~(x ||| (BitVec.ofNat 32 k)) ∈ (chT l m (a7 n &&& ~~~x)):=a08 h2;have hy:yq (a7 n &&& ~~~x) (orL (chT l m (a7 n &&& ~~~x))) x (chT l m (a7 n &&& ~~~x)) (BitVec.ofNat 32 k) = true:=bkl hnz g1 hin;refine w_3 ?_;refine m9 1 ?_;refine r9 2 true ?_;refine w_4 ?_;refine rq rfl rfl rfl rfl rfl ?_ (hp:=by have q:=jk (k:=k) bqx;rw [q];simp only [inR,n3,oc];omega);refine w_2 ?_
    first | (refine ⟨k + 1, ?_, ?_, ?_⟩
             · exact ⟨by omega,by omega⟩
             · first | omega | (dsimp only;omega)
             exact ⟨⟨⟨_,rfl,(bf (ah7 hy))⟩,⟨_,rfl,(bn bri)⟩,tt⟩,⟨⟨_,rfl,(bg (ah7 hy) (CoP.refl _))⟩,uu⟩⟩)
          | (refine ⟨k + 1, ?_, ?_, ?_⟩
             · exact ⟨by omega,by omega⟩
             · first | omega | (dsimp only;omega)
             exact ⟨⟨⟨_,rfl,(bj (agf hy))⟩,⟨_,rfl,(bn bri)⟩,tt⟩,⟨⟨_,rfl,(bh (agf hy))⟩,uu⟩⟩)
   have h2:=bt r1 r2;have hy:yq (a7 n &&& ~~~x) (orL (chT l m (a7 n &&& ~~~x))) x (chT l m (a7 n &&& ~~~x)) (BitVec.ofNat 32 k) = false:=by first | exact be1 g1 | exact bjq (a2a h2)
   refine w_3 ?_;refine rq rfl rfl rfl rfl rfl ?_ (hp:=by have q:=jk (k:=k) bqx;rw [q];simp only [inR,n3,oc];omega);refine w_2 ?_
   first | (refine ⟨k + 1, ?_, ?_, ?_⟩
            · exact ⟨by omega,by omega⟩
            · first | omega | (dsimp only;omega)
            exact ⟨⟨⟨_,rfl,(bf (ah7 hy))⟩,⟨_,rfl,(bn bri)⟩,tt⟩,⟨⟨_,rfl,(bg (ah7 hy) (CoP.refl _))⟩,uu⟩⟩)
         | (refine ⟨k + 1, ?_, ?_, ?_⟩
            · exact ⟨by omega,by omega⟩
            · first | omega | (dsimp only;omega)
            exact ⟨⟨⟨_,rfl,(bj (agf hy))⟩,⟨_,rfl,(bn bri)⟩,tt⟩,⟨⟨_,rfl,(bh (agf hy))⟩,uu⟩⟩)
  have h1:=tz2 r1;have g1:¬ (BitVec.ofNat 32 k) &&& ~~~(a7 n &&& ~~~x) = 0:=aop (by rw [<- gl (a7 n) x];exact h1);have hy:yq (a7 n &&& ~~~x) (orL (chT l m (a7 n &&& ~~~x))) x (chT l m (a7 n &&& ~~~x)) (BitVec.ofNat 32 k) = false:=be1 g1;(iterate 9 refine k9 (gft r1) ?_);refine rq rfl rfl rfl rfl rfl ?_ (hp:=r1);refine w_6 ?_;refine rq rfl rfl rfl rfl rfl ?_ (hp:=by have q:=jk (k:=k) bqx;rw [q];simp only [inR,n3,oc];omega)
  refine w_2 ?_
  first | (refine ⟨k + 1, ?_, ?_, ?_⟩
           · exact ⟨by omega,by omega⟩
           · first | omega | (dsimp only;omega)
           exact ⟨⟨⟨_,rfl,(bf (ah7 hy))⟩,⟨_,rfl,(bn bri)⟩,tt⟩,⟨⟨_,rfl,(bg (ah7 hy) (CoP.refl _))⟩,uu⟩⟩)
        | (refine ⟨k + 1, ?_, ?_, ?_⟩
           · exact ⟨by omega,by omega⟩
           · first | omega | (dsimp only;omega)
           exact ⟨⟨⟨_,rfl,(bj (agf hy))⟩,⟨_,rfl,(bn bri)⟩,tt⟩,⟨⟨_,rfl,(bh (agf hy))⟩,uu⟩⟩)
 obtain rfl:k = (a7 n &&& ~~~x).toNat + 1:=by
  have q:¬ asI (BitVec.ofNat 32 k) <= asI (a7 n &&& ~~~x):=by rw [<- gl];exact h0
  rw [jk bqx] at q;have q2:¬ k <= (a7 n &&& ~~~x).toNat:=fun e=>q (Int.ofNat_le.2 e);omega
 refine w_2 ?_;refine al 11 rfl rfl rfl ?_;refine w_2 ?_;refine qcx (wgx Tryz.func127) (awa (yL (a7 n &&& ~~~x) (orL (chT l m (a7 n &&& ~~~x))) x (chT l m (a7 n &&& ~~~x)) ((a7 n &&& ~~~x).toNat + 1)) (bmy avx bqx)) ?_;refine v_2 ?_;exact ⟨CoC.one (CoP.of_eq (by rw [atc])),trivial⟩
end
section
open Go.Proofs
def atr {n:Int} {l m:List Fd} {x:AS} (hx:sub x (a7 n)):a6 brj 159 [pI n,pP (fdl l),pP (fdl m),pA x] (a8 [pA (qa n l m x)]):=by
 have h:=ax2 n l m x;rw [b1u hx] at h;exact h
def bap (n:Int) (l m:List Fd) (x p:AS) (hn:n <= 16):a6 brj 160 [pI n,pP (fdl l),pP (fdl m),pA x,pA p] (a8 [pP (asl (jh n l m x p))]):=by
 refine hpx (nt:=43) Tryz.func160 ?_;refine bz ?_;refine qcx (wgx Tryz.func208) (az3 n l m x hn) ?_;refine en ?_;refine bw 12 900 true 1 46 (lf sC []) br2 rfl (CoP.sl rfl (.inr rfl) (fun h=>h) (fun i j hi _=>absurd hi (bmq i))) (.inr rfl) rfl ?_;have hbl:=a51 n l m x;refine b7 (ka 4 (ka 11 kn)) km (fun i=>⟨[(12,some (.v (.one (.ref 900 (mb p ((dc n l m x).take i)).length)))),(13,some (vI i))],[(900,some (.arr true 1 46 (mb p ((dc n l m x).take i)).length (lf sC (mb p ((dc n l m x).take i)))))]⟩) ((dc n l m x).length) ⟨⟨⟨_,rfl,(CoR.refl _)⟩,⟨_,rfl,(CoR.refl _)⟩,trivial⟩,uu⟩ ?_;rintro i hi;have hcl:(mb p ((dc n l m x).take i)).length <= i:=bmy (abs _ _) (by rw [bmv];omega);refine w_8 ?_;refine hcd (fun h0=>?_) (fun h0=>?_)
 ·
  refine jd ?_;refine hcn (fun h1=>?_) (fun h1=>?_)
  ·
   have hq:¬ (dc n l m x).getD i default &&& p = 0:=qt h1;refine w_8 ?_;refine m9 0 ?_;refine r9 1 true ?_;refine w_7 ?_
   first | (refine ⟨i + 1, ?_, ?_, ?_⟩
            · show i + 1 <= _;omega
            · first | omega | (dsimp only;omega)
            exact ⟨⟨⟨_,rfl,(bf (xv bqx hq))⟩,⟨_,rfl,(CoR.refl _)⟩,tt⟩,⟨⟨_,rfl,(bg (xv bqx hq) (CoP.of_eq (congrArg (fun z=>PV.raw (.int .u32 z)) (fv _ _))))⟩,trivial⟩⟩)
         | (refine ⟨i + 1, ?_, ?_, ?_⟩
            · show i + 1 <= _;omega
            · first | omega | (dsimp only;omega)
            exact ⟨⟨⟨_,rfl,(bj (xt bqx hq))⟩,⟨_,rfl,(CoR.refl _)⟩,tt⟩,⟨⟨_,rfl,(bh (xt bqx hq))⟩,trivial⟩⟩)
  have hq:(dc n l m x).getD i default &&& p = 0:=vj h1;refine w_6 ?_
  first | (refine ⟨i + 1, ?_, ?_, ?_⟩
           · show i + 1 <= _;omega
           · first | omega | (dsimp only;omega)
           exact ⟨⟨⟨_,rfl,(bf (xv bqx hq))⟩,⟨_,rfl,(CoR.refl _)⟩,tt⟩,⟨⟨_,rfl,(bg (xv bqx hq) (CoP.of_eq (congrArg (fun z=>PV.raw (.int .u32 z)) (fv _ _))))⟩,trivial⟩⟩)
        | (refine ⟨i + 1, ?_, ?_, ?_⟩
           · show i + 1 <= _;omega
           · first | omega | (dsimp only;omega)
           exact ⟨⟨⟨_,rfl,(bj (xt bqx hq))⟩,⟨_,rfl,(CoR.refl _)⟩,tt⟩,⟨⟨_,rfl,(bh (xt bqx hq))⟩,trivial⟩⟩)
 obtain rfl:i = (dc n l m x).length:=by omega
 rw [show (dc n l m x).take (dc n l m x).length = (dc n l m x) from bmt];refine w_2 ?_;refine al 12 rfl rfl rfl ?_;refine w_2 ?_;refine qcx a9r (a8l (mb p (dc n l m x)) (a8a n l m x p)) ?_;refine v_2 ?_;exact ⟨CoC.refl _,trivial⟩
def afn:goodFn brj 109:=wgx Tryz.func109
def afh (n:Int) (l m:List Fd) (p:AS) (hn:n <= 16) (hp:sub p (a7 n)):a6 brj 109 [pI n,pP (fdl l),pP (fdl m),pA p] (a8 [(vF (ce n l m) p).pc,pB (vBo (ce n l m) p)]):=by
 refine hpx (nt:=52) Tryz.func109 ?_;have hsl:=uc p;refine sx7 ?_;refine m9 0 ?_;refine w_5 ?_;refine qcx (wgx Tryz.func124) (avi p) ?_;refine w_8 ?_;refine ae (ι:=Nat) (ka 0 (ka 1 (ka 2 (ka 3 (ka 8 (ka 10 kn)))))) (kb 0 km) (fun i=>⟨[(11,some (vI i))],[]⟩) (fun i=>i <= (ax p).length /\ ((ax p).take i).findSome? (a47 n l m p) = none) (fun i=>(ax p).length - i) (0) (⟨bms _,rfl⟩) ⟨⟨⟨_,rfl,(CoR.refl _)⟩,trivial⟩,trivial⟩ ?_;rintro i ⟨hi,hI⟩;refine w_8 ?_;refine hcd (fun h0=>?_) (fun h0=>?_)
 ·
  have hil:i < (ax p).length:=by omega
  have hxs:sub ((ax p).getD i default) p:=a6m (qe hil);refine pw ?_;refine qcx (wgx Tryz.func159) (atr (fq hxs hp)) ?_;refine qcx mf (su p (qa n l m ((ax p).getD i default))) ?_;refine c6 ?_;refine aj _ rfl (fun r1=>?_) (fun r1=>?_)
  · have h1:=r1;have hq:p &&& ~~~(qa n l m ((ax p).getD i default)) = 0:=a08 r1;refine w_6 ?_;refine lpz (i + 1) ⟨⟨⟨_,rfl,(CoR.refl _)⟩,tt⟩,uu⟩ ?_;exact ⟨by omega,(jv hil hI).trans (by first | exact aed hq | exact ad7 hq hc)⟩
  have h1:=r1;have hq:¬ p &&& ~~~(qa n l m ((ax p).getD i default)) = 0:=a2a r1;refine cq ?_;refine qcx (wgx Tryz.func160) (bap n l m ((ax p).getD i default) p hn) ?_;refine w_8 ?_;refine hcd (fun h2=>?_) (fun h2=>?_)
  ·
   have hc:1 < (jh n l m ((ax p).getD i default) p).length:=by omega
   have hcl:(jh n l m ((ax p).getD i default) p).length <= 8589934592:=bmy (ke _) (a8a n l m ((ax p).getD i default) p);refine pw ?_;refine hrr ?_
   have he:afr (ce n l m p) = (⟨((ax p).getD i default),(jh n l m ((ax p).getD i default) p).getD 0 default⟩,true):=by
    rw [show ce n l m p = some _ from ua hil hI (axl hq hc)];rfl
   unfold vF vBo;exact f9 rfl rfl (by rw [he];exact ⟨CoC.agg ⟨CoP.refl _,CoP.refl _,trivial⟩,CoC.refl _,trivial⟩)
  have hc:¬ 1 < (jh n l m ((ax p).getD i default) p).length:=by omega
  refine w_6 ?_;refine lpz (i + 1) ⟨⟨⟨_,rfl,(CoR.refl _)⟩,tt⟩,uu⟩ ?_;exact ⟨by omega,(jv hil hI).trans (by first | exact aed hq | exact ad7 hq hc)⟩
 obtain rfl:i = (ax p).length:=by omega
 rw [show (ax p).take (ax p).length = (ax p) from bmt] at hI;refine w_7 ?_;refine hrr ?_
 have he:afr (ce n l m p) = (⟨0,0⟩,false):=by
  rw [show ce n l m p = none from hI];rfl
 unfold vF vBo;exact f9 rfl rfl (by rw [he];exact ⟨CoC.agg ⟨CoP.of_eq rfl,CoP.of_eq rfl,trivial⟩,CoC.refl _,trivial⟩)
def amy:goodFn brj 88:=wgx Tryz.func88
def ayd (n:Int) (l m:List Fd) (hn:n <= 16) (k:Nat) (s:AS) (hsu:sub s (a7 n)) (hv:vBo (ce n l m) s = false):cb brj 88 [.one (.p (.raw (.int .i64 n))), .one (.p (fdl l)), .one (.p (fdl m)), .one (.p (asC s))] [] (.v (.one (.ref 909 (lvG (ce n l m) k s).length))) [(909, .arr true 1 46 (lvG (ce n l m) k s).length (lf sC (lvG (ce n l m) k s)))] []:=by
 refine hfx (nt:=41) Tryz.func88 ?_;refine bz ?_;refine qcx afn (afh n l m s hn hsu) ?_;refine w_3 ?_;refine m9 0 ?_;refine w_9 ?_;refine aj _ rfl (fun r0=>?_) (fun r0=>?_)
 · have h0:=cu r0;refine w_3 ?_;refine m9 1 ?_;refine w_2 ?_;refine jz 8 909 rfl rfl rfl rfl ?_;refine hrr ?_;have he:=bjk (k:=k) hv;exact ⟨_,_,rfl,bqz,(by rw [he];exact CoR.refl _),⟨⟨_,rfl,(by rw [he];exact qi (CoP.refl _))⟩,trivial⟩⟩
 have h0:=ct r0;exfalso;rw [hv] at r0;exact absurd r0 br2
def bg5 (n:Int) (l m:List Fd) (hn:n <= 16) (k:Nat) (hk:k <= 8) (IH:∀ s,bsz s <= k -> sub s (a7 n) -> cb brj 88 [.one (.p (.raw (.int .i64 n))), .one (.p (fdl l)), .one (.p (fdl m)), .one (.p (asC s))] [] (.v (.one (.ref 900 (lvG (ce n l m) k s).length))) [(900, .arr true 1 46 (lvG (ce n l m) k s).length (lf sC (lvG (ce n l m) k s)))] []) (s:AS) (hs:bsz s <= k + 1) (hsu:sub s (a7 n)) (hv:vBo (ce n l m) s = true):cb brj 88 [.one (.p (.raw (.int .i64 n))), .one (.p (fdl l)), .one (.p (fdl m)), .one (.p (asC s))] [] (.v (.one (.ref 909 (lvG (ce n l m) (k + 1) s).length))) [(909, .arr true 1 46 (lvG (ce n l m) (k + 1) s).length (lf sC (lvG (ce n l m) (k + 1) s)))] []:=by
 refine hfx (nt:=41) Tryz.func88 ?_;obtain ⟨b1,b2⟩:=ue (ln n l m) hv;obtain ⟨s1,_,_⟩:=ln n l m s _ (ab1 hv);have u1:sub (nv (ce n l m) s) (a7 n):=fq s1 hsu;have u2:sub (lu (ce n l m) s) (a7 n):=fq ml hsu;have hla:=amx (ln n l m) (k:=k) bqx (nv (ce n l m) s);have hlb:=amx (ln n l m) (k:=k) bqx (lu (ce n l m) s);refine bz ?_;refine qcx afn (afh n l m s hn hsu) ?_;refine w_3 ?_;refine m9 0 ?_;refine w_9 ?_;refine aj _ rfl (fun r0=>?_) (fun r0=>?_)
 · have h0:=cu r0;exfalso;rw [hv] at r0;exact absurd r0 br2
 have h0:=ct r0;refine cq ?_;refine fj rfl rfl rfl rfl rfl rfl amy ((IH (nv (ce n l m) s) bqx u1)) (⟨CoP.refl _,CoP.refl _,CoP.refl _,CoP.of_eq (congrArg (fun z=>PV.raw (.int .u32 z)) (by rw [bOr];rfl)),trivial⟩) trivial rfl rfl ?_;refine w_7 ?_;refine rc rfl rfl rfl rfl rfl rfl amy (cb.pure (args:=[pI n,pP (fdl l),pP (fdl m),pA (lu (ce n l m) s)]) (l:=[.one (.ref 900 (lvG (ce n l m) k (lu (ce n l m) s)).length)]) (IH (lu (ce n l m) s) bqx u2) rfl ⟨rfl,trivial⟩) (⟨CoC.refl _,CoC.refl _,CoC.refl _,cci (by rw [gl];rfl),trivial⟩) rfl rfl ?_;refine r9 1 true ?_;refine w_3 ?_;refine jz 8 909 rfl rfl rfl rfl ?_;refine hrr ?_;have he:=bhv (k:=k) hv;exact ⟨_,_,rfl,bqz,(by rw [he,bmo];exact CoR.refl _),⟨⟨_,rfl,(by rw [he];exact ad4 _ (fun h=>h) rfl (fun i j hi hj=>CoP.refl _))⟩,trivial⟩⟩
def ax3 (n:Int) (l m:List Fd) (hn:n <= 16):∀ (k:Nat),k <= 9 -> ∀ s,bsz s <= k -> sub s (a7 n) -> cb brj 88 [.one (.p (.raw (.int .i64 n))), .one (.p (fdl l)), .one (.p (fdl m)), .one (.p (asC s))] [] (.v (.one (.ref 900 (lvG (ce n l m) k s).length))) [(900, .arr true 1 46 (lvG (ce n l m) k s).length (lf sC (lvG (ce n l m) k s)))] []
 | 0,_,s,hs,hsu=>by
  have hv:vBo (ce n l m) s = false:=by
   rw [bmx];intro e;have:=(ue (ln n l m) e).1;omega
  exact (ayd n l m hn 0 s hsu hv).swap 909 900
 | k + 1,hk,s,hs,hsu=>by
  cases hv:vBo (ce n l m) s with
  | false=>exact (ayd n l m hn (k + 1) s hsu hv).swap 909 900
  | true=>exact (bg5 n l m hn k bqx (ax3 n l m hn k bqx) s hs hsu hv).swap 909 900
def bdu (n:Int) (l m:List Fd) (hn:n <= 16) (s:AS) (hs:bsz s <= 9) (hsu:sub s (a7 n)):a6 brj 88 [pI n,pP (fdl l),pP (fdl m),pA s] (a8 [pP (asl (lvG (ce n l m) 9 s))]) :=
 cb.pure (args:=[pI n,pP (fdl l),pP (fdl m),pA s]) (l:=[.one (.ref 900 (lvG (ce n l m) 9 s).length)]) (ax3 n l m hn 9 (bmp _) s hs hsu) rfl ⟨rfl,trivial⟩
def b6g (n:Int) (l m:List Fd) (h8:n <= 8):a6 brj 38 [pI n,pP (fdl l),pP (fdl m)] (a8 [pP (asl (ek (ac8 n l m)))]):=by
 refine hpx (nt:=14) Tryz.func38 ?_;refine bz ?_;refine qcx lr (lj n) ?_;refine qcx amy (bdu n l m bqx (a7 n) (bmy (ta (m:=8) h8 bqx) br2) (gz _)) ?_;refine qcx akq (a81 (lvG (ce n l m) 9 (a7 n)) (bmy (amx (ln n l m) (bmp _) _) br2)) ?_;refine v_2 ?_;exact ⟨CoC.one (CoP.of_eq (congrArg asl (bcw h8))),trivial⟩
end
section
open Go.Proofs
def blj (n:Int) (ps:List AS):List AS:=if ps.length = 0 then [a7 n] else ps.set (ps.length - 1) (ps.getD (ps.length - 1) default ||| (a7 n &&& ~~~(orL ps)))
end
section
def okR (d:Rcp):Bool:=decide (d.f.length <= 4 /\ d.m.length <= 4 /\ d.p.length <= 3) && decide ((d.m.length:Int) <= 2)
def bh7 {d:Rcp} (h:okR d = true):d.f.length <= 4 /\ d.m.length <= 2 /\ d.p.length <= 3:=by
 unfold okR at h;rw [bmw,decide_eq_true_eq,decide_eq_true_eq] at h;omega
def nsL (d:Rcp) (ns:List Bs):List Bs:=if d.num 4 < (ns.length:Int) /\ (ns.length:Int) % 2 = 0 then ns.take (d.num 4).toNat else ns
def bla (d:Rcp):1 <= d.num 4 /\ d.num 4 <= 4:=by
 have:d.n.toNat % 4 < 4:=Nat.mod_lt _ bqx;unfold Rcp.num;omega
end
section
open Go.Proofs
def bbk (n:Int) (ps:List AS) (p m:List Fd):a6 brj 81 [pI n,pP (asl ps),pP (fdl p),pP (fdl m)] (a8 [pP (stl (prS n ps p m)),pI (prC n ps p m)]):=by
 refine hpx (nt:=55) Tryz.func81 ?_;refine cq ?_;refine qcx (wgx Tryz.func100) (ary n ps p m) ?_;refine w_5 ?_;refine m9 0 ?_;refine m9 1 ?_;refine cq ?_;refine hcn (fun h0=>?_) (fun h0=>?_)
 ·
  have hne:¬ lsC n ps p m = 0:=by rw [<- qo];exact h0
  have hr:=bdh hne;refine v_6 ?_;exact by rw [hr.1,hr.2,<- qo];exact ⟨CoC.one coN,CoC.refl _,trivial⟩
 have hls:lsC n ps p m = 0:=by
  rw [<- qo];exact h0
 obtain ⟨hv,hb⟩:=qf hls;have hc:(lsT n ps p m).2.2 = 0:=(ad1 hv hb).symm.trans hls;have htr:=azr hv hb hc;have hR:=auy hv hb;obtain ⟨hn0,hn8,_,_,_⟩:=og hv;have hn16:n <= 16:=by omega
 have hfew:(trS n ps p m).length <= 1300000:=ah8 (p:=p) (m:=m) hv hb;refine w_6 ?_;refine ae (ι:=Nat) (ka 0 (ka 2 (ka 3 (ka 10 kn)))) km (fun i=>⟨[(14,some (vI i)),(11,some (.v (.one (.p (stl (trS n ps p m))))))],[(0,some (.box [.p (.raw (.int .i64 n)), .p (rl (trT n ps p m i))]))]⟩) (fun i=>i <= (trS n ps p m).length /\ ∀ j,j < i -> o0 n (trT n ps p m j) = false) (fun i=>(trS n ps p m).length - i) (0) (⟨bms _,fun j hj=>absurd hj (bmq j)⟩) ⟨⟨zy,⟨_,rfl,(by rw [hR];exact CoR.refl _)⟩,trivial⟩,⟨⟨_,rfl,(by rw [hR];unfold trT;rw [asq];exact CoO.refl _)⟩,trivial⟩⟩ ?_;rintro i ⟨hi,hI⟩;refine w_7 ?_;refine qcx (wgx Tryz.func102) (arv n hn0 hn16) ?_;refine qcx ahf (atd n (trT n ps p m i) (df n)) ?_;refine w_2 ?_;refine hcb (fun h1=>?_) (fun h1=>?_)
 · have hr:=ace hls (i:=i) hi hI h1;refine v_8 ?_;exact by rw [hr.1,hr.2];exact ⟨CoC.one (alm (by rw [bmv];dsimp only [d5,ar];omega) (fun a j=>by first | rfl | (simp;rfl))),CoC.refl _,trivial⟩
 refine w_9 ?_;refine hcd (fun h2=>?_) (fun h2=>?_)
 ·
  obtain rfl:i = (trS n ps p m).length:=by omega
  have hr:=b8o hls fun j hj=>by
   by_cases e:j = (trS n ps p m).length
   · rw [e];assumption
   exact hI j bqx
  refine v_5 ?_;exact by rw [hr.1,hr.2];exact ⟨CoC.one coN,CoC.refl _,trivial⟩
 have hil:i < (trS n ps p m).length:=by omega
 obtain ⟨hx1,hx2,hx3⟩:=b4o hil (at2 htr (i:=i) hi);refine bz ?_;refine qcx (wgx Tryz.func129) (ay0 n (trT n ps p m i) p m ((trS n ps p m).getD i default) hx1 hb hx2 hx3) ?_;refine a2o ?_;refine lpz (i + 1) ⟨tt,⟨⟨_,rfl,(by unfold trT;rw [a9t hil];exact CoO.refl _)⟩,trivial⟩⟩ ?_;refine ⟨by omega,fun j hj=>?_⟩;by_cases e:j = i
 · rw [e];assumption
 exact hI j bqx
end
section
open Go.Proofs
def bln (n:Int) (l:List Fd) (i:Nat):Bool:=((a5a n l).take i).any (j7 n l)
section
variable {n:Int} {l:List Fd}
end
section
variable {d:Dps}
end
end
section
def a1g (l:List Fd) (z:Int):Option PV:=match l.find? (fun f=>decide (asI f.lhs = z)) with | some f=>some (asC (mgR l f.lhs)) | none=>none
def a40 (l:List Fd):MK -> Option PV
 | .i .u32 z=>a1g l z
 | _=>none
def wfA (s:AS):(Lit.int .u32 (asI s)).wf = true:=by
 have h1:=adx s;have h2:=a6x s;have e1:IntKind.min .u32 = 0:=by decide
 have e2:IntKind.max .u32 = 4294967295:=by decide
 simp only [Lit.wf,e1,e2,bmw,decide_eq_true_eq];omega
section
variable {l:List Fd}
def b1j {s:AS} (h:∀ f ∈ l,¬ f.lhs = s):mgR l s = 0:=by
 unfold mgR;rw [bpw.2 fun f hf=>by simpa using h f hf];rfl
def ady {s:AS} {f:Fd} (h:l.find? (fun f=>decide (asI f.lhs = asI s)) = some f):f.lhs = s:=by
 have:=List.find?_some h;exact c7.1 (of_decide_eq_true this)
def aey (l:List Fd) (s:AS):a52 (a40 l) (.i .u32 (asI s)) (.int .u32 0) = asC (mgR l s):=by
 show (match a1g l (asI s) with | some y=>y | none=>li (.int .u32 0)) = _;unfold a1g
 cases h:l.find? (fun f=>decide (asI f.lhs = asI s)) with
 | some f =>
  have:=ady h;subst this;rfl
 | none =>
  rw [b1j fun f hf e=>by
   have:=bq0.1 h f hf;rw [e] at this
   exact this (decide_eq_true rfl)]
  rfl
def az2 (m:MK):CoM none (a40 [] m):=by
 cases m with
 | i q z=>cases q <;> exact CoM.refl _
 | s b=>exact CoM.refl _
def awp {i:Nat} (hi:i < l.length) (z:Int):(if z = asI (l.getD i default).lhs then some (PV.raw (.int .u32 (az .or .u32 (asI (mgR (l.take i) (l.getD i default).lhs)) (asI (l.getD i default).rhs)))) else a1g (l.take i) z) = a1g (l.take (i + 1)) z:=by
 unfold a1g;by_cases hz:z = asI (l.getD i default).lhs
 · subst hz
   rw [if_pos rfl,b3f hi rfl]
   cases h:(l.take (i + 1)).find? (fun f=>decide (asI f.lhs = asI (l.getD i default).lhs)) with
   | some f =>
    have:=ady h;rw [<- this]
   | none =>
    have:=bq0.1 h (l.getD i default) (by rw [aq hi];simp);exact absurd (decide_eq_true rfl) this
 rw [if_neg hz,aq hi,List.find?_append]
 have hx:[l.getD i default].find? (fun f=>decide (asI f.lhs = z)) = none:=by
  rw [List.find?_cons,decide_eq_false (fun e=>hz e.symm)];rfl
 rw [hx,Option.or_none]
 cases h:(l.take i).find? (fun f=>decide (asI f.lhs = z)) with
 | none=>rfl
 | some f =>
  have hf0:=List.find?_some h;have hf:asI f.lhs = z:=of_decide_eq_true hf0;dsimp only;rw [<- aq hi,b4t hi (fun e=>hz (by rw [e];exact hf.symm))]
def axt {i:Nat} (hi:i < l.length) (m:MK):CoM (xk (a40 (l.take i)) (.i .u32 (asI (l.getD i default).lhs)) (.raw (.int .u32 (az .or .u32 (asI (mgR (l.take i) (l.getD i default).lhs)) (asI (l.getD i default).rhs)))) m) (a40 (l.take (i + 1)) m):=by
 refine CoM.of_eq ?_;unfold xk
 cases m with
 | s b=>rfl
 | i q z =>
  by_cases hq:q = .u32
  · subst hq
    show (bif (decide True && decide (z = _)) then _ else a1g _ z) = a1g _ z;rw [<- awp hi z];by_cases hz:z = asI (l.getD i default).lhs
    · rw [if_pos hz,decide_eq_true hz];rfl
    rw [if_neg hz,decide_eq_false hz];rfl
  have h1:MK.same (.i q z) (.i .u32 (asI (l.getD i default).lhs)) = false:=by
   show (decide _ && decide _) = false;rw [decide_eq_false hq,Bool.false_and]
  rw [h1];cases q <;> first | rfl | exact absurd rfl hq
end
end
section
open Go.Proofs
def aor (l:List Fd) (hl:l.length <= 16777216):a6 brj 135 [pP (fdl l)] (a8 [pP (fdl (a5d l))]):=by
 refine hpx (nt:=47) Tryz.func135 ?_;refine w_6 ?_;refine m9 0 ?_;refine pw ?_;refine bw 4 900 true 1 46 (lf sC []) br2 rfl (CoP.sl rfl (.inr rfl) (fun h=>h) (fun i j hi _=>absurd hi (bmq i))) (.inr rfl) rfl ?_;refine b7 (ka 3 (ka 11 (ka 12 kn))) km (fun i=>⟨[(4,some (.v (.one (.ref 900 ((l.take i).map Fd.lhs).length)))),(13,some (vI i))],[(0,some (.mp (.int .u32) i (a40 (l.take i)))),(900,some (.arr true 1 46 ((l.take i).map Fd.lhs).length (lf sC ((l.take i).map Fd.lhs))))]⟩) l.length ⟨tt,⟨⟨_,rfl,⟨rfl,bmp _,az2⟩⟩,uu⟩⟩ ?_;rintro i hi;have hlen:((l.take i).map Fd.lhs).length <= i:=by rw [bn6,bmv];omega
 refine w_5 ?_;refine hcd (fun h0=>?_) (fun h0=>?_)
 · refine w_7 ?_;refine m9 1 ?_;refine w_7 ?_;refine rq (out:=⟨_, .v (.one (.p (asC (mgR (l.take i) (l.getD i default).lhs))))⟩) rfl rfl rfl (congrArg (fun z=>some (Out.mk _ (HR.v (HC.one (HV.p z))))) (aey _ _)) rfl ?_ (hp:=⟨rfl,rfl,wfA _⟩);refine w_3 ?_;refine rs rfl rfl rfl rfl rfl ?_ (hp:=⟨rfl,⟨rfl,wfA _⟩,by simp only [maxLen];omega⟩);refine w_5 ?_;refine m9 2 ?_;refine r9 3 true ?_;refine w_6 ?_;exact lpx (i + 1) ⟨⟨⟨_,rfl,(bf (m7 bqx))⟩,tt⟩,⟨⟨_,rfl,⟨rfl,bmp _,axt bqx⟩⟩,⟨_,rfl,(bg (m7 bqx) (CoP.refl _))⟩,trivial⟩⟩
 obtain rfl:i = l.length:=by omega
 rw [show (l.take l.length).map Fd.lhs = l.map Fd.lhs by rw [bmt],show a40 (l.take l.length) = a40 l by rw [bmt]];refine w_7 ?_;refine al 4 rfl rfl rfl ?_;have hol:=ke (l.map Fd.lhs);rw [bn6] at hol;refine w_2 ?_;refine qcx zk (a7k (l.map Fd.lhs) (by rw [bn6];omega)) ?_;refine w_4 ?_;refine bw 7 901 true 2 48 (lf Fd.c []) br2 rfl (CoP.sl rfl (.inr rfl) (fun h=>h) (fun i j hi _=>absurd hi (bmq i))) (.inr rfl) rfl ?_;refine b7 (ka 3 (ka 31 (ka 32 kn))) (kb 0 km) (fun k=>⟨[(7,some (.v (.one (.ref 901 (((ord (l.map Fd.lhs)).take k).map (mgF l)).length)))),(33,some (vI k))],[(901,some (.arr true 2 48 (((ord (l.map Fd.lhs)).take k).map (mgF l)).length (lf Fd.c (((ord (l.map Fd.lhs)).take k).map (mgF l)))))]⟩) ((ord (l.map Fd.lhs)).length) kk ?_;rintro k hk;have hlen2:(((ord (l.map Fd.lhs)).take k).map (mgF l)).length <= k:=by rw [bn6,bmv];omega
 refine w_5 ?_;refine hcd (fun h1=>?_) (fun h1=>?_)
 · refine pw ?_;refine rq (out:=⟨_, .v (.one (.p (asC (mgR l ((ord (l.map Fd.lhs)).getD k default)))))⟩) rfl rfl rfl (congrArg (fun z=>some (Out.mk _ (HR.v (HC.one (HV.p z))))) (aey _ _)) rfl ?_ (hp:=⟨rfl,rfl,wfA _⟩);refine qy ?_;refine m9 4 ?_;refine r9 5 true ?_;refine w_6 ?_;exact lpx (k + 1) ⟨⟨⟨_,rfl,(bf (m7 bqx))⟩,tt⟩,⟨⟨_,rfl,(jp (m7 bqx) (CoP.refl _) (CoP.refl _))⟩,uu⟩⟩
 obtain rfl:k = (ord (l.map Fd.lhs)).length:=by omega
 refine w_6 ?_;refine al 2 rfl rfl rfl ?_;exact hx8 rfl rfl rfl (⟨CoC.one (CoP.of_eq brb),trivial⟩)
end
section
def blx (l0:List Fd) (x:Fd) (a:Nat):Prop:=x.lhs.getLsbD a = true -> imp l0 (ans x a) = false
def bm5 (l:List Fd):Prop:=∀ f ∈ l,∃ k:Nat,f.rhs = (1:AS) <<< k
section
variable {n:Int} {l:List Fd}
end
end
end Go.Hx
