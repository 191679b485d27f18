/- A part of the proof: LyB Bd3 Dw2 Dw3 Ds7 Ds8 Bz10 Y10 Y11 Y12 Ds10 Dw5 Cs43 Cs44 V39. -/
import Derived.Shelf.Strings.Builder1
import Derived.Test.YtkkenjdfbojdlaaGreatDoorProg
import Derived.Test.YtkkenjdfbojdlaaGreatDoorMx36
import Derived.Test.YtkkenjdfbojdlaaGreatDoorMx38
set_option linter.all false
set_option maxRecDepth 100000
set_option maxHeartbeats 1000000
section
namespace Go.Proofs
open Go.Shelf
def Tryz.lays169_ren:Go.Shelf.Ren:=⟨fun | 169=>60 | n=>n,fun | 70=>92 | 9=>9 | 0=>0 | 72=>94 | 37=>23 | 127=>153 | 3=>3 | 5=>5 | n=>n,fun | n=>n⟩
theorem Tryz.lays169:Go.Proofs.Lays.n169 Tryz.prog Tryz.lays169_ren:={
 mixed:=by kernel_rfl
 f169:=Tryz.func60.trans (congrArg some (by kernel_rfl))
 t0:=Tryz.underlying0
 a0:=Tryz.isAgg0
 z0:=Tryz.sizeOf0
 v0:=Tryz.zeroValue0
 t3:=Tryz.underlying3
 a3:=Tryz.isAgg3
 z3:=Tryz.sizeOf3
 v3:=Tryz.zeroValue3
 t9:=Tryz.underlying9
 a9:=Tryz.isAgg9
 z9:=Tryz.sizeOf9
 v9:=Tryz.zeroValue9
 t37:=Tryz.underlying23
 a37:=Tryz.isAgg23
 z37:=Tryz.sizeOf23
 v37:=Tryz.zeroValue23
 t70:=Tryz.underlying92
 a70:=Tryz.isAgg92
 z70:=Tryz.sizeOf92
 v70:=Tryz.zeroValue92
 t72:=Tryz.underlying94
 a72:=Tryz.isAgg94
 z72:=Tryz.sizeOf94
 v72:=Tryz.zeroValue94
 t127:=Tryz.underlying153
 a127:=Tryz.isAgg153
 z127:=Tryz.sizeOf153
 v127:=Tryz.zeroValue153 }
theorem Tryz.Builder_Extra_169:Builder.Extra Tryz.prog Tryz.lays169_ren:={
 sizeBuilder:=by kernel_rfl
 liesBuilder:=by kernel_rfl
 t5:=Tryz.underlying5
 a5:=Tryz.isAgg5
 z5:=Tryz.sizeOf5
 v5:=Tryz.zeroValue5
 infoByte:=by kernel_rfl
 cellsByte:=by kernel_rfl
 sizeByte:=by kernel_rfl
 neB5:=by decide }
def Tryz.lays156_ren:Go.Shelf.Ren:=⟨fun | 156=>56 | 165=>115 | 166=>57 | 169=>60 | 240=>116 | 241=>165 | 276=>166 | 277=>212 | n=>n,fun | 31=>57 | 9=>9 | 3=>3 | 4=>4 | 0=>0 | 20=>20 | 72=>94 | 76=>97 | 70=>92 | 37=>23 | 75=>96 | 127=>153 | 164=>178 | 5=>5 | 80=>100 | n=>n,fun | n=>n⟩
theorem Tryz.lays156:Go.Proofs.Lays.n156 Tryz.prog Tryz.lays156_ren:={
 mixed:=by kernel_rfl
 f156:=Tryz.func56.trans (congrArg some (by kernel_rfl))
 f165:=Tryz.func115.trans (congrArg some (by kernel_rfl))
 f166:=Tryz.func57.trans (congrArg some (by kernel_rfl))
 f169:=Tryz.func60.trans (congrArg some (by kernel_rfl))
 f240:=Tryz.func116.trans (congrArg some (by kernel_rfl))
 f241:=Tryz.func165.trans (congrArg some (by kernel_rfl))
 f276:=Tryz.func166.trans (congrArg some (by kernel_rfl))
 f277:=Tryz.func212.trans (congrArg some (by kernel_rfl))
 t0:=Tryz.underlying0
 a0:=Tryz.isAgg0
 z0:=Tryz.sizeOf0
 v0:=Tryz.zeroValue0
 t3:=Tryz.underlying3
 a3:=Tryz.isAgg3
 z3:=Tryz.sizeOf3
 v3:=Tryz.zeroValue3
 t4:=Tryz.underlying4
 a4:=Tryz.isAgg4
 z4:=Tryz.sizeOf4
 v4:=Tryz.zeroValue4
 t9:=Tryz.underlying9
 a9:=Tryz.isAgg9
 z9:=Tryz.sizeOf9
 v9:=Tryz.zeroValue9
 t20:=Tryz.underlying20
 a20:=Tryz.isAgg20
 z20:=Tryz.sizeOf20
 v20:=Tryz.zeroValue20
 t31:=Tryz.underlying57
 a31:=Tryz.isAgg57
 z31:=Tryz.sizeOf57
 v31:=Tryz.zeroValue57
 t37:=Tryz.underlying23
 a37:=Tryz.isAgg23
 z37:=Tryz.sizeOf23
 v37:=Tryz.zeroValue23
 t70:=Tryz.underlying92
 a70:=Tryz.isAgg92
 z70:=Tryz.sizeOf92
 v70:=Tryz.zeroValue92
 t72:=Tryz.underlying94
 a72:=Tryz.isAgg94
 z72:=Tryz.sizeOf94
 v72:=Tryz.zeroValue94
 t75:=Tryz.underlying96
 a75:=Tryz.isAgg96
 z75:=Tryz.sizeOf96
 v75:=Tryz.zeroValue96
 t76:=Tryz.underlying97
 a76:=Tryz.isAgg97
 z76:=Tryz.sizeOf97
 v76:=Tryz.zeroValue97
 t127:=Tryz.underlying153
 a127:=Tryz.isAgg153
 z127:=Tryz.sizeOf153
 v127:=Tryz.zeroValue153
 t164:=Tryz.underlying178
 a164:=Tryz.isAgg178
 z164:=Tryz.sizeOf178
 v164:=Tryz.zeroValue178 }
theorem Tryz.Builder_Extra_156:Builder.Extra Tryz.prog Tryz.lays156_ren:={
 sizeBuilder:=by kernel_rfl
 liesBuilder:=by kernel_rfl
 t5:=Tryz.underlying5
 a5:=Tryz.isAgg5
 z5:=Tryz.sizeOf5
 v5:=Tryz.zeroValue5
 infoByte:=by kernel_rfl
 cellsByte:=by kernel_rfl
 sizeByte:=by kernel_rfl
 neB5:=by decide }
end Go.Proofs
end
namespace Go.Hx
section
open Go.Shelf Go.RowKit Go.Proofs
abbrev tB:TypeId:=94
abbrev tC:TypeId:=5
abbrev bd (fr:Bool) (l:List UInt8):a8:=.bld fr tB tC (Lib.byteCells l)
def tz:goodFn Tryz.prog 57:=⟨Tryz.f57,Tryz.func57,by kernel_rfl,by kernel_rfl⟩
def b09:goodFn Tryz.prog 60:=⟨Tryz.f60,Tryz.func60,by kernel_rfl,by kernel_rfl⟩
def b8a:goodFn Tryz.prog 115:=⟨Tryz.f115,Tryz.func115,by kernel_rfl,by kernel_rfl⟩
def ajq {v:Value} (h:∃ a m c,v = .slice a m c):v.ownBlock = da v:=by
 obtain ⟨a,m,c,rfl⟩:=h;cases a <;> rfl
def ak5 (l:List UInt8) (s:ByteArray):Lib.byteCells l ++ Lib.strCells s = Lib.byteCells (l ++ s.data.toList):=by
 simp [Lib.byteCells,Lib.strCells]
def anq {c:Ctx} {w:World} {id:Nat} {fr:Bool} {T e:TypeId} {l:List Value} (h:b70 0 c w id fr T e l) :
 ∃ b p v,c.own id = .pointer (some ⟨b,0,none⟩) /\ BAt T e b p v l w /\ (p = .pointer none \/ p = .pointer (some ⟨b,0,none⟩)) /\ (∀ k,c.blk id k <-> k = b \/ v.ownBlock = some k) /\ (fr = true -> p = .pointer none /\ v = .slice none 0 0):=by
 obtain ⟨b,p,v,h1,_,h3,h4,h5,h6,h7,h8⟩:=h;have e:=ajq (ag1 h5).1;exact ⟨b,p,v,h1,⟨h3,h5,by rw [e];exact h6⟩,h4,fun k=>by rw [e];exact h7 k,h8⟩
def ao4 {c:Ctx} {w w':World} {id b:Nat} {fr:Bool} {T e:TypeId} {v v':Value} {l l':List Value} {r:Value} {res:HR} (hM:Mem c (lk [(id, .bld fr T e l)]) w) (hown:c.own id = .pointer (some ⟨b,0,none⟩)) (hblk:∀ k,c.blk id k <-> k = b \/ v.ownBlock = some k)
 (hB':BAt T e b (.pointer (some ⟨b,0,none⟩)) v' l' w') (hbel:Below 0 w w') (hfr:∀ k,k < w.heap.size -> k ≠ b -> v.ownBlock ≠ some k -> w'.heap[k]? = w.heap[k]?) (hv':∀ k,v'.ownBlock = some k -> v.ownBlock = some k \/ w.heap.size <= k)
 (hres:∀ c' o',ar c' o' res r) :
 ∃ v2 c',Ending.returned r = .returned v2 /\ ar c' (lk [(id, .bld false T e l')]) res v2 /\ Mem c' (lk [(id, .bld false T e l')]) w' /\ Below 0 w w' /\
  (∀ b,b < w.heap.size -> (∀ id' ob,lk [(id, .bld fr T e l)] id' = some ob -> ¬ c.blk id' b) -> w'.heap[b]? = w.heap[b]? /\ c'.imm b = c.imm b) /\
  (∀ id' ob b,lk [(id, .bld false T e l')] id' = some ob -> c'.blk id' b -> w.heap.size <= b \/ ∃ id0 ob0,lk [(id, .bld fr T e l)] id0 = some ob0 /\ c.blk id0 b) /\
  (∀ id' ∈ [id],Evo c (lk [(id, .bld fr T e l)]) c' (lk [(id, .bld false T e l')]) id'):=by
 have hl1:lk [(id,a8.bld fr T e l)] id = some (.bld fr T e l):=by simp [lk]
 have hl2:lk [(id,a8.bld false T e l')] id = some (.bld false T e l'):=by simp [lk]
 have one:∀ {x:a8} {id':Nat} {ob:a8},lk [(id,x)] id' = some ob -> id' = id /\ ob = x:=fun {x id' ob} h=>⟨(jg h).1,(jg h).2⟩;have sep:∀ k,k = b \/ v.ownBlock = some k -> c.imm k = none:=fun k hk=>hM.sep id _ k hl1 ((hblk k).2 hk);have lt:∀ k ob,c.imm k = some ob -> k < w.heap.size:=fun k ob hk=>(boa.1 (hM.imm k ob hk)).1;have e':=ajq (ag1 hB'.own).1;refine ⟨r,{ c with blk:=fun k=>if k = id then (fun x=>x = b \/ v'.ownBlock = some x) else c.blk k },rfl,hres _ _,⟨fun id' ob h=>?_,fun i i' ob ob' k h h' _ _=>?_,fun k ob hk=>?_,fun id' ob k h hk=>?_⟩,hbel,fun k hk hn=>?_,fun id' ob k h hk=>?_,fun id' hid=>?_⟩
 · obtain ⟨rfl,rfl⟩:=one h
   exact ⟨b,_,v',hown,boe _,hB'.heap, .inr rfl,hB'.own,by rw [<- e'];exact hB'.ne,fun k=>by simp [e'],fun h=>by cases h⟩
 · rw [(one h).1,(one h').1]
 · have hk':=lt k ob hk
   refine (hfr k hk' (fun e=>?_) fun e=>?_).trans (hM.imm k ob hk)
   · have:=sep k (.inl e);have hk2:c.imm k = some ob:=hk;rw [hk2] at this;cases this
   have:=sep k (.inr e);have hk2:c.imm k = some ob:=hk;rw [hk2] at this;cases this
 · obtain ⟨rfl,rfl⟩:=one h
   simp only [if_true] at hk
   rcases hk with rfl | hk
   · exact sep _ (.inl rfl)
   rcases hv' k hk with h1 | h1
   · exact sep k (.inr h1)
   show c.imm k = none
   cases hi:c.imm k with
   | none=>rfl
   | some ob=>have:=lt k ob hi;omega
 · have hn':=fun h=>hn id _ hl1 ((hblk k).2 h)
   exact ⟨hfr k hk (fun e=>hn' (.inl e)) fun e=>hn' (.inr e),rfl⟩
 · obtain ⟨rfl,rfl⟩:=one h
   simp only [if_true] at hk
   rcases hk with rfl | hk
   · exact .inr ⟨_,_,hl1,(hblk _).2 (.inl rfl)⟩
   rcases hv' k hk with h1 | h1
   · exact .inr ⟨_,_,hl1,(hblk k).2 (.inr h1)⟩
   exact .inl h1
 rw [bom.1 hid];exact .inr (.inr ⟨_,_,0,1,0,0,hl1,rfl,hl2,rfl,bo9 _,fun _=>rfl,fun _ _ _ _ _ _ _ h=>by cases h⟩)
def tq (id:Nat) (fr:Bool) (l:List UInt8) (s:ByteArray) (hlen:l.length + s.size <= 140737488355328):dq Tryz.prog 57 [.one (.ref id 0), .one (.p (.raw (.string s)))] [(id,bd fr l)] (.tup [.one (.p (.raw (.int .i64 (s.size:Int)))), .one (.p (.raw .nilIface))]) [(id,bd false (l ++ s.data.toList))] [id]:=by
 intro w c us hM hus
 match us,hus with
 | [u,v],⟨hu,hv,_⟩ =>
  obtain ⟨rfl,_⟩:=hv;have hl1:lk [(id,bd fr l)] id = some (bd fr l):=by simp [lk]
  have hu2:u = c.own id:=(hu.2.2 _ _ _ _ hl1 rfl).2 rfl;subst hu2;obtain ⟨b,p,v0,hown,hB,hp,hblk,_⟩:=anq (hM.objs id _ hl1);rw [hown];refine (ajz (P:=Tryz.prog) (ρ:=Tryz.lays156_ren) { Tryz.lays156 with } Tryz.Builder_Extra_156 b p v0 _ s w hp hB (by rw [Lib.byteCells_length];exact hlen)).mono ?_;rintro e w' ⟨rfl,hbel,v',hB',hfr,hv'⟩;rw [ak5] at hB';exact ao4 hM hown hblk hB' hbel hfr hv' fun c' o'=>⟨_,rfl,⟨rfl,rfl⟩,⟨rfl,rfl⟩,trivial⟩
def bl4 (id:Nat) (n:Nat) (hn:n <= 281474976710656):dq Tryz.prog 115 [.one (.ref id 0), .one (.p (.raw (.int .i64 (n:Int))))] [(id,bd true [])] (.tup []) [(id,bd false [])] [id]:=by
 intro w c us hM hus
 match us,hus with
 | [u,v],⟨hu,hv,_⟩ =>
  obtain ⟨rfl,_⟩:=hv;have hl1:lk [(id,bd true [])] id = some (bd true []):=by simp [lk]
  have hu2:u = c.own id:=(hu.2.2 _ _ _ _ hl1 rfl).2 rfl;subst hu2;obtain ⟨b,p,v0,hown,hB,hp,hblk,hf⟩:=anq (hM.objs id _ hl1);obtain ⟨rfl,rfl⟩:=hf rfl;rw [hown];refine (bg8 (P:=Tryz.prog) (ρ:=Tryz.lays156_ren) { Tryz.lays156 with } Tryz.Builder_Extra_156 b n w hB.heap hn).mono ?_;rintro e w' ⟨rfl,hbel,⟨v',hB',hv'⟩,hfr⟩;exact ao4 hM hown hblk hB' hbel (fun k hk hkb _=>hfr k hk hkb) (fun k hk=>.inr (hv' k hk)) fun c' o'=>⟨[],rfl,trivial⟩
def b75 (id:Nat) (fr:Bool) (l:List UInt8) (h0:l ≠ []):dq Tryz.prog 60 [.one (.ref id 0)] [(id,bd fr l)] (.v (.one (.p (.raw (.string ⟨l.toArray⟩))))) [] []:=by
 intro w c us hM hus
 match us,hus with
 | [u],⟨hu,_⟩ =>
  have hl1:lk [(id,bd fr l)] id = some (bd fr l):=by simp [lk]
  have hu2:u = c.own id:=(hu.2.2 _ _ _ _ hl1 rfl).2 rfl;subst hu2;obtain ⟨b,p,v0,hown,hB,hp,hblk,_⟩:=anq (hM.objs id _ hl1);rw [hown];refine (b3y (P:=Tryz.prog) (ρ:=Tryz.lays169_ren) Tryz.lays169 Tryz.Builder_Extra_169 b p v0 l w hB h0).mono ?_;rintro e w' ⟨rfl,hbel,hfr⟩;refine ⟨_,c,rfl,⟨rfl,rfl⟩,⟨(fun id' ob h=>by cases h),(fun i i' ob ob' k h=>by cases h),fun k ob hk=>?_,(fun id' ob k h=>by cases h)⟩,hbel,fun k hk hn=>⟨hfr k fun e=>hn id _ hl1 ((hblk k).2 (.inr e)),rfl⟩,(fun id' ob k h=>by cases h),(fun id' hid=>by cases hid)⟩;refine (hfr k fun e=>?_).trans (hM.imm k ob hk);have:=hM.sep id _ k hl1 ((hblk k).2 (.inr e));rw [hk] at this;cases this
end
section
open Go.Proofs
def b65 (l:List Bs) (sep:Bs) (hs1:sep.size = 1) (hl:l.length <= 1000) (hsz:szB l <= 1000000000):a7 btb 56 [pP (bsl l),pS sep] (aa [pS (a6p l sep)]):=by
 refine hpx (nt:=75) Tryz.func56 ?_;refine w_6 ?_;refine cq 0 rfl fun hn=>?_;have hA:∀ i,(ul l sep i).length <= 1000001000:=fun i=>by have:=bdc l sep i;rw [hs1] at this;omega
 refine d5 ?_;refine hcd (fun h0=>?_) (fun h0=>?_)
 · have hl0:=bms h0;subst hl0;refine v_4 ?_;exact CoL.refl _
 refine w_5 ?_;refine hcd (fun h1=>?_) (fun h1=>?_)
 · refine v_7 ?_;exact ⟨CoC.one (CoP.of_eq (by rw [b1e sep bsq];rfl)),trivial⟩
 refine i6 ?_;refine hcd (fun h2=>?_) (fun h2=>?_)
 ·
  refine w_8 ?_;refine rq rfl rfl rfl rfl rfl ?_ (hp:=⟨by decide,by omega,by constructor <;> decide⟩);refine w_2 ?_;refine hcd (fun h3=>?_) (fun h3=>?_)
  · exfalso;have:=bbw (n:=(l.length:Int) - 1) bsq bsq;omega
  have hmul:(sep.size:Int) * ((l.length:Int) - 1) = (l.length:Int) - 1:=by rw [hs1];simp
  refine apf ?_;refine bp (ka 0 (ka 1 (ka 39 (ka 40 kn)))) km (fun i=>⟨[(5,some (vI ((l.length:Int) - 1 + szB (l.take i)))),(41,some (vI i))],[]⟩) l.length ⟨⟨⟨_,rfl,(coi (by simp [szB];omega))⟩,tt⟩,trivial⟩ ?_;rintro i hi;refine w_5 ?_;refine hcd (fun h4=>?_) (fun h4=>?_)
  ·
   have hil:i < l.length:=by omega
   have hst:=ano hil;have hst2:=a3h l (i + 1);have hst3:(l.getD (i:Int).toNat default).size = (l.getD i default).size:=rfl;refine ao5 ?_;refine hcd (fun h5=>?_) (fun h5=>?_)
   · exfalso;omega
   refine i6 ?_;exact lpx (i + 1) ⟨⟨⟨_,rfl,(coi (by rw [hst];omega))⟩,tt⟩,trivial⟩
  obtain rfl:i = l.length:=by omega
  rw [bog] at *;refine w_3 ?_;refine m9 0 ?_;refine w_4 ?_;refine ik rfl rfl rfl rfl rfl rfl b8a (bl4 0 (l.length - 1 + szB l) bsq) (⟨xk.refl _,CoP.of_eq (by congr 2;omega),trivial⟩) uu rfl rfl ?_;refine w_6 ?_;refine fc9 tz (tq 0 false [] (l.getD 0 default) (by have:=aez (l:=l) (i:=0) bsq;show 0 + (l.getD 0 default).size <= _;omega)) uu ?_;refine d5 ?_;refine ah (ι:=Nat) (ka 1 (ka 8 (ka 63 (ka 64 kn)))) km (fun k=>⟨[(65,some (vI k))],[(0,some (bd false (ul l sep k)))]⟩) (fun k=>k <= l.length - 1) (fun k=>l.length - k) (0) (boe _) ⟨tt,⟨⟨_,rfl,(CoO.of_eq (by rw [bgi]))⟩,trivial⟩⟩ ?_;rintro k hk0;refine w_5 ?_;refine hcd (fun h6=>?_) (fun h6=>?_)
  ·
   have hk:1 + k < l.length:=by simp only [ek,az] at *;omega
   refine i6 ?_;refine fc9 tz (tq 0 false (ul l sep k) sep (by have:=hA k;omega)) uu ?_;refine w_3 ?_;refine fc9 tz (tq 0 false ((ul l sep k) ++ bL sep) (l.getD (1 + k) default) (by have:=hA k;have:=aez hk;rw [bob,afc];omega)) uu ?_;refine w_5 ?_;exact lpx (k + 1) ⟨tt,⟨⟨_,rfl,(CoO.of_eq (by rw [aia hk]))⟩,trivial⟩⟩
  obtain rfl:k = l.length - 1:=by simp only [ek,az] at *;omega
  refine w_3 ?_
  have hne:ul l sep (l.length - 1) ≠ []:=by
   obtain ⟨q,hq⟩:∃ q,l.length - 1 = q + 1:=⟨l.length - 2,by omega⟩;rw [hq,aia bsq];intro e;have:=congrArg List.length e;simp only [bob,afc,bps] at this;omega
  refine fc9 b09 (b75 0 false (ul l sep (l.length - 1)) hne) uu ?_;refine v_2 ?_;exact ⟨CoC.one (CoP.of_eq (by rw [<- b47 sep (by intro e;subst e;simp at *)])),trivial⟩
 exfalso;omega
end
section
open Go.Proofs
def bkt:a7 btb 55 [pA 0] (aa [pP (il [])]):=by
 have h:=ag0 0;rw [afk] at h;exact h
def alf {ns:List Bs} {q:List Nat} {i:Nat} (h:i < q.length):(q.take (i + 1)).map (fun k=>ns.getD k default) = (q.take i).map (fun k=>ns.getD k default) ++ [ns.getD (q.getD i default) default]:=by
 rw [List.take_succ,bo6 h,bqi,bo7 (l:=q),bo6 h];rfl
def b80 (ns:List Bs) (hl:∀ b ∈ ns,b.size <= maxLen):a7 btb 51 [pA 0,pP (bsl ns)] (aa [pS ⟨#[]⟩,pI (oi ns)]):=by
 refine hpx (nt:=36) Tryz.func51 ?_;refine w_9 ?_;refine qcx (wgx Tryz.func111) (bmf ns hl) ?_;refine w_7 ?_;refine hcn (fun h0=>?_) (fun h0=>?_)
 · refine v_6 ?_;exact CoL.refl _
 refine w_9 ?_;refine qcx a43 (bkt) ?_;refine w_4 ?_;refine ah (ι:=Unit) (ka 1 (ka 16 (ka 17 kn))) km (fun x=>⟨[(7,some (.v (.one (.p (.sl 0 0 true fun _ _=>.any))))),(18,some (vI 0))],[]⟩) (fun x=>True) (fun x=>0) (()) (trivial) kk ?_;rintro _ _;refine w_5 ?_;refine hcd (fun h1=>?_) (fun h1=>?_)
 · exfalso;exact absurd h1 bst
 refine w_4 ?_;refine rc rfl rfl rfl rfl rfl rfl (wgx Tryz.func56) (b65 [] ⟨#[32]⟩ rfl bsu bsu) (⟨CoC.one coN,CoC.refl _,trivial⟩) rfl rfl ?_;refine v_3 ?_;exact ⟨CoC.refl _,cci bsq,trivial⟩
def adn:goodFn btb 54:=wgx Tryz.func54
def ak9 (s:AS) (ns:List Bs) (hm:∀ i ∈ al s,i < ns.length) (hsz:∀ b ∈ ns,b.size <= 1000):a7 btb 54 [pA s,pP (bx (bsl ns))] (aa [pS (txT ns s)]):=by
 refine hpx (nt:=27) Tryz.func54 ?_;refine d5 ?_;have h32:=qc s;refine w_2 ?_;refine qcx a43 (ag0 s) ?_;refine w_4 ?_;refine ct 4 900 true 1 9 (lf bsC []) bsu rfl (CoP.sl rfl (.inr rfl) (fun h=>h) (fun i j hi _=>absurd hi (bod i))) (.inr rfl) rfl ?_;refine bp (ka 1 (ka 8 (ka 9 kn))) km (fun i=>⟨[(4,some (.v (.one (.ref 900 (((al s).take i).map fun k=>ns.getD k default).length)))),(10,some (vI i))],[(900,some (.arr true 1 9 (((al s).take i).map fun k=>ns.getD k default).length (lf bsC (((al s).take i).map fun k=>ns.getD k default))))]⟩) ((al s).length) kk ?_;rintro i hi;have hlen:(((al s).take i).map fun k=>ns.getD k default).length <= 32:=by rw [bp2,boi];omega
 refine w_5 ?_;refine hcd (fun h0=>?_) (fun h0=>?_)
 ·
  have hil:i < (al s).length:=by omega
  have hk:(al s).getD i default < ns.length:=hm _ (dj hil);refine kw ?_;refine rq rfl rfl rfl rfl rfl ?_ (hp:=⟨rfl,bqk _,Int.ofNat_lt.2 hk⟩);refine qy ?_;refine m9 0 ?_;refine r9 1 true ?_;refine w_6 ?_;exact lpx (i + 1) ⟨⟨⟨_,rfl,(c8 (alf hil))⟩,tt⟩,⟨⟨_,rfl,(bu (alf hil) (CoP.refl _))⟩,trivial⟩⟩
 obtain rfl:i = (al s).length:=by omega
 rw [bog] at hlen ⊢;refine w_8 ?_;refine hcd (fun h1=>?_) (fun h1=>?_)
 · refine v_4 ?_;exact ⟨CoC.one (CoP.of_eq (by rw [show txT ns s = ⟨#[45]⟩ from if_pos (by unfold xm;omega)];rfl)),trivial⟩
 refine w_4 ?_;refine qcx (wgx Tryz.func56) (b65 (xm ns s) ⟨#[44]⟩ rfl (by unfold xm;rw [bp2];omega) (by have:=apo (s:=s) hsz;omega)) ?_;refine v_2 ?_;exact ⟨CoC.one (CoP.of_eq (by rw [show txT ns s = a6p (xm ns s) ⟨#[44]⟩ from if_neg (by unfold xm;omega)])),trivial⟩
def blu (s p:AS) (l:List Fd):a7 btb 119 [pA s,pP (bx (asC p)),pP (bx (fdl l))] (aa [pB (pkV l p s)]):=by
 refine hpx (nt:=11) Tryz.func119 ?_;refine w_9 ?_;refine qcx vr (yr l s) ?_;refine v_5 ?_;exact ⟨ccb (by unfold pkV;exact congrArg (!·) (decide_eq_decide.2 (by rw [it,show (0:Int) = asI 0 from rfl,ck]))),trivial⟩
def bl0 (a b:AS):a7 btb 170 [pA a,pA b] (aa [pB (abo a b)]):=by
 refine hpx (nt:=9) Tryz.func170 ?_;refine i6 ?_;exact hx8 rfl rfl rfl (⟨ccb (decide_eq_decide.2 k6),trivial⟩)
def b0k (l:List AS) (hl:l.length <= 8589934592):a7 btb 121 [pP (asl l)] (aa [pP (asl (a33 l))]):=by
 refine hpx (nt:=5) Tryz.func121 ?_;refine w_7 ?_;refine qcx (wgx Tryz.func137) (b6g l hl 170 0 _ abo (wgx Tryz.func170) (fun a b=>bl0 a b)) ?_;refine v_2 ?_;exact CoL.refl _
def cPk (l:List Fd) (p:AS):a7 btb 58 [pP (fdl l),pA p] (aa [pP (asl (pkL l p))]):=by
 refine hpx (nt:=12) Tryz.func58 ?_;refine sx7 ?_;refine m9 0 ?_;refine m9 1 ?_;refine w_3 ?_;refine dc 3 rfl rfl rfl ?_;refine dc 2 rfl rfl rfl ?_;refine w_2 ?_;refine fc9 a9x (ayf p) trivial ?_;refine qy ?_;refine fc9 ah1 ((av0 (av p) 119 2 (fun i=>[bx (asC p),bx (fdl l)].getD i .any) (pkV l p) (wgx Tryz.func119) (fun x=>blu x p l)).swap 900 901) uu ?_;refine w_5 ?_;refine qcx (wgx Tryz.func121) (b0k ((av p).filter fun s=>!pkV l p s) (bon (bqb _ _) (bon (vd p) bsu))) ?_;refine v_2 ?_;exact CoL.refl _
end
section
section
variable {ns:List Bs} {i k:Nat} {s:AS} {c:Int}
def nmP (ns:List Bs) (s:AS) (i:Nat):Bs:=a6p ((fq s i).map fun k=>ns.getD k default) ⟨#[44]⟩
def bnf (c b:Int) (w:Bs):Bs:=if ap .and .i64 c b = 0 then ⟨#[]⟩ else ⟨#[32]⟩ ++ w
end
end
section
section
variable {ns:List Bs} {l m:List Fd} {ps:List AS} {c:Int}
def bo1 (t:Bs) (ns:List Bs):Bool:=decide ((t.size:Int) + (szB ns:Int) <= 400) && decide ((ns.length:Int) <= 40)
end
end
section
def auq {n:Int} (h0:n <= 16):(a6 n).toNat < 65536:=by
 have h:=an7 h0;have h1:=congrArg BitVec.toNat h;rw [bs5,brw] at h1;have h2:(a6 n).toNat / 2 ^ n.toNat = 0:=by simpa using h1
 have h3:(a6 n).toNat < 2 ^ n.toNat:=by
  rcases bro (a6 n).toNat (2 ^ n.toNat) with h | h
  · exact h
  have:=Nat.div_pos h (bqv bsq);omega
 have h4:2 ^ n.toNat <= 2 ^ 16:=bpm bsq bsq;omega
def awl {n:Int} {x:AS} (h0:n <= 16):(a6 n &&& ~~~x).toNat < 65536:=brp (a8g d6) (auq h0)
def jr {k:Nat} (h:k < 4294967296):asI (BitVec.ofNat 32 k) = (k:Int):=by
 unfold asI;rw [bsc,br8 h]
def bju {k:Nat} (h1:1 <= k) (h:k < 4294967296):¬ BitVec.ofNat 32 k = 0:=fun e=>by
 have:=congrArg asI e;rw [jr h] at this;have h2:(k:Int) = 0:=this;omega
def bec {rest L x y:AS} {T:List AS} (h:¬ y &&& ~~~rest = 0):yq rest L x T y = false:=by unfold yq;rw [decide_eq_false h];simp
def bm4 {rest L x y:AS} {T:List AS} (h:¬ L &&& ~~~(x ||| y) ∈ T):yq rest L x T y = false:=by unfold yq;rw [decide_eq_false h];simp
def bly {rest L x y:AS} {T:List AS} (h0:¬ y = 0) (h:y &&& ~~~rest = 0) (h2:L &&& ~~~(x ||| y) ∈ T):yq rest L x T y = true:=by
 unfold yq;rw [decide_eq_false h0,decide_eq_true h,decide_eq_true h2];rfl
section
variable {V:AS -> Option Fd}
def akg {k:Nat} {s:AS} (h:vBo V s = true):lvG V (k + 1) s = lvG V k (o6 V s) ++ lvG V k (o7 V s):=if_pos h
def aki {k:Nat} {s:AS} (h:vBo V s = false):lvG V k s = [s]:=by
 cases k with
 | zero=>rfl
 | succ k=>exact if_neg (by rw [h];decide)
end
def bhp {n:Int} {l m:List Fd} (h8:n <= 8):ef (lvG (d8 n l m) 9 (a6 n)) = ef (agx n l m):=by
 have hb:=y7 (n:=n) (m:=8) h8 bsq
 have hmem:∀ z,z ∈ agx n l m <-> z ∈ lvG (d8 n l m) 9 (a6 n):=fun z=>by
  unfold agx;rw [ac3 (up n l m) _ _ _ (ajm (V:=d8 n l m) h8).2.1,a14 (up n l m) 9 33 _ bsq bsq];simp
 unfold ef wt;rw [apx (k:=ord (agx n l m)) (l:=lvG (d8 n l m) 9 (a6 n)) (ja _) fun z=>by rw [gn,hmem]]
end
section
open Go.Proofs
def azk (l:List AS) (hl:l.length <= 8589934592):a7 btb 127 [pP (asl l)] (aa [pP (asl (a33 l))]):=by
 refine hpx (nt:=49) Tryz.func127 ?_;refine dl ?_;refine qcx (wgx Tryz.func144) (arb l hl) ?_;refine w_8 ?_;have hol:=n3 l;refine ct 3 900 true 1 46 (lf sC []) bsu rfl (CoP.sl rfl (.inr rfl) (fun h=>h) (fun i j hi _=>absurd hi (bod i))) (.inr rfl) rfl ?_;refine bp (ka 4 kn) km (fun i=>⟨[(3,some (.v (.one (.ref 900 (sn l i).length)))),(5,some (vI i))],[(900,some (.arr true 1 46 (sn l i).length (lf sC (sn l i))))]⟩) ((ord l).length) kk ?_;rintro i hi;have hlen:=b1g l i;refine w_8 ?_;refine hcd (fun h0=>?_) (fun h0=>?_)
 ·
  refine kw ?_;refine bp (ka 3 (ka 4 (ka 5 kn))) (kb 900 km) (fun k=>⟨[(6,some (vB (okM (ord l) i k))),(7,some (vI k))],[]⟩) ((ord l).length) ⟨⟨⟨_,rfl,(cob rfl)⟩,tt⟩,trivial⟩ ?_;rintro k hk;refine w_8 ?_;refine hcd (fun h1=>?_) (fun h1=>?_)
  ·
   refine w_6 ?_;refine ai rfl rfl (fun r2=>?_) (fun r2=>?_)
   ·
    have h2:=r2;(iterate 4 refine qy ?_ (hg:=(gtt r2)));refine ai rfl rfl (fun r3=>?_) (fun r3=>?_)
    ·
     have h3:=tz1 r3;(iterate 10 refine k9 (gtf r3) ?_);refine rq rfl rfl rfl rfl (gtt r2) ?_ (hp:=r3);refine w_9 ?_
     exact lpx (k + 1) ⟨⟨⟨_,rfl,(cob (by rw [okM_succ'];simp_all only [xw];simp))⟩,tt⟩,uu⟩
    have h3:=tz2 r3;(iterate 8 refine qy ?_ (hg:=(gff r3)));refine qcx qq (ye _ _) ?_ (hg:=(gff r3));refine qy ?_ (hg:=(gff r3));refine qy ?_ (hg:=(gtt r2));refine w_9 ?_
    exact lpx (k + 1) ⟨⟨⟨_,rfl,(cob (by rw [okM_succ'];simp_all only [xw];simp))⟩,tt⟩,uu⟩
   have h2:=r2;(iterate 4 refine k9 (gft r2) ?_);(iterate 10 refine k9 rfl ?_);refine k9 (gft r2) ?_;refine w_9 ?_
   exact lpx (k + 1) ⟨⟨⟨_,rfl,(cob (by rw [okM_succ'];simp_all only [xw];simp))⟩,tt⟩,uu⟩
  obtain rfl:k = (ord l).length:=by omega
  refine w_5 ?_;refine hcb (fun h4=>?_) (fun h4=>?_)
  ·
   refine w_6 ?_;refine m9 0 ?_;refine r9 1 true ?_;refine w_7 ?_
   first | (refine lpz (i + 1) ⟨⟨⟨_, rfl, (c8 (a9z bsq bsr))⟩, tt⟩, ⟨⟨_, rfl, (bu (a9z bsq bsr) (CoP.refl _))⟩, trivial⟩⟩ ?_; show i + 1 <= _; omega)
         | (refine lpz (i + 1) ⟨⟨⟨_,rfl,(ce (a9e bsq bsr))⟩,tt⟩,⟨⟨_,rfl,(bv (a9e bsq bsr))⟩,trivial⟩⟩ ?_;show i + 1 <= _;omega)
  refine w_6 ?_
  first | (refine lpz (i + 1) ⟨⟨⟨_, rfl, (c8 (a9z bsq bsr))⟩, tt⟩, ⟨⟨_, rfl, (bu (a9z bsq bsr) (CoP.refl _))⟩, trivial⟩⟩ ?_; show i + 1 <= _; omega)
        | (refine lpz (i + 1) ⟨⟨⟨_,rfl,(ce (a9e bsq bsr))⟩,tt⟩,⟨⟨_,rfl,(bv (a9e bsq bsr))⟩,trivial⟩⟩ ?_;show i + 1 <= _;omega)
 obtain rfl:i = (ord l).length:=by omega
 refine w_6 ?_;refine b6 2 rfl rfl rfl ?_;exact hx8 rfl rfl rfl (⟨CoC.one (CoP.of_eq (by rw [<- ayc];rfl)),trivial⟩)
def b0d (n:Int) (l m:List Fd) (x:AS) (hn:n <= 16):a7 btb 208 [pI n,pP (fdl l),pP (fdl m),pA x] (aa [pP (asl (dt n l m x))]):=by
 refine hpx (nt:=48) Tryz.func208 ?_;have hsm:=awl (n:=n) (x:=x) hn;refine d5 ?_;refine qcx (wgx Tryz.func206) (b0n n l m x) ?_;refine m9 0 ?_;refine w_5 ?_;refine qcx x4 (w4 n) ?_;refine t7 ?_;refine ct 11 900 true 1 46 (lf sC []) bsu rfl (CoP.sl rfl (.inr rfl) (fun h=>h) (fun i j hi _=>absurd hi (bod i))) (.inr rfl) rfl ?_;refine ah (ι:=Nat) (ka 3 (ka 9 (ka 10 kn))) (kb 0 km) (fun k=>⟨[(11,some (.v (.one (.ref 900 (yL (a6 n &&& ~~~x) (orL (chT l m (a6 n &&& ~~~x))) x (chT l m (a6 n &&& ~~~x)) k).length)))),(12,some (vA (BitVec.ofNat 32 k)))],[(900,some (.arr true 1 46 (yL (a6 n &&& ~~~x) (orL (chT l m (a6 n &&& ~~~x))) x (chT l m (a6 n &&& ~~~x)) k).length (lf sC (yL (a6 n &&& ~~~x) (orL (chT l m (a6 n &&& ~~~x))) x (chT l m (a6 n &&& ~~~x)) k))))]⟩) (fun k=>1 <= k /\ k <= (a6 n &&& ~~~x).toNat + 1) (fun k=>(a6 n &&& ~~~x).toNat + 1 - k) (1) (⟨bo9 _,by omega⟩) ⟨⟨⟨_,rfl,(ce b1h)⟩,⟨_,rfl,(CoR.refl _)⟩,trivial⟩,⟨⟨_,rfl,(bv b1h)⟩,trivial⟩⟩ ?_;rintro k ⟨hk1,hk2⟩;have hyl:(yL (a6 n &&& ~~~x) (orL (chT l m (a6 n &&& ~~~x))) x (chT l m (a6 n &&& ~~~x)) k).length <= k:=ay4;refine w_7 ?_;refine hcd (fun h0=>?_) (fun h0=>?_)
 ·
  have hkr:k <= (a6 n &&& ~~~x).toNat:=by
   have q:asI (BitVec.ofNat 32 k) <= asI (a6 n &&& ~~~x):=by rw [<- it];exact h0
   rw [jr bsq] at q;exact Int.ofNat_le.1 q
  have hnz:¬ (BitVec.ofNat 32 k) = 0:=bju hk1 bsq;refine d5 ?_;refine ai rfl rfl (fun r1=>?_) (fun r1=>?_)
  ·
   have h1:=tz1 r1;have g1:(BitVec.ofNat 32 k) &&& ~~~(a6 n &&& ~~~x) = 0:=avh (by rw [<- it (a6 n) x];exact h1);(iterate 3 refine qy ?_ (hg:=(gtt r1)));refine qcx (wgx Tryz.func207) (b66 (chT l m (a6 n &&& ~~~x))) ?_ (hg:=(gtt r1));(iterate 4 refine qy ?_ (hg:=(gtt r1)))
   refine rc rfl rfl rfl rfl rfl rfl aht (cIn (chT l m (a6 n &&& ~~~x)) ((orL (chT l m (a6 n &&& ~~~x))) &&& ~~~(x ||| (BitVec.ofNat 32 k)))) (⟨CoC.refl _,cci (by rw [bOr,it]),trivial⟩) rfl (gtt r1) ?_;refine w_3 ?_;refine am _ rfl (fun r2=>?_) (fun r2=>?_)
   ·
    have h2:=bq r1 r2;have hin:(orL (chT l m (a6 n &&& ~~~x))) &&& ~~~(x ||| (BitVec.ofNat 32 k)) ∈ (chT l m (a6 n &&& ~~~x)):=a2v h2;have hy:yq (a6 n &&& ~~~x) (orL (chT l m (a6 n &&& ~~~x))) x (chT l m (a6 n &&& ~~~x)) (BitVec.ofNat 32 k) = true:=bly hnz g1 hin;refine w_3 ?_;refine m9 1 ?_;refine r9 2 true ?_;refine w_4 ?_;refine rq rfl rfl rfl rfl rfl ?_ (hp:=by have q:=jr (k:=k) bsq;rw [q];simp only [inR,o4,qa];omega);refine w_2 ?_
    first | (refine lpz (k + 1) ⟨⟨⟨_, rfl, (c8 (ahc hy))⟩, ⟨_, rfl, (bz (by rw [jr bsq, jr bsq]; rfl))⟩, tt⟩, ⟨⟨_, rfl, (bu (ahc hy) (CoP.refl _))⟩, uu⟩⟩ ?_; exact ⟨by omega, by omega⟩)
          | (refine lpz (k + 1) ⟨⟨⟨_,rfl,(ce (ah9 hy))⟩,⟨_,rfl,(bz (by rw [jr bsq,jr bsq];rfl))⟩,tt⟩,⟨⟨_,rfl,(bv (ah9 hy))⟩,uu⟩⟩ ?_;exact ⟨by omega,by omega⟩)
   have h2:=bq r1 r2;have hy:yq (a6 n &&& ~~~x) (orL (chT l m (a6 n &&& ~~~x))) x (chT l m (a6 n &&& ~~~x)) (BitVec.ofNat 32 k) = false:=by first | exact bec g1 | exact bm4 (a4x h2)
   refine w_3 ?_;refine rq rfl rfl rfl rfl rfl ?_ (hp:=by have q:=jr (k:=k) bsq;rw [q];simp only [inR,o4,qa];omega);refine w_2 ?_
   first | (refine lpz (k + 1) ⟨⟨⟨_, rfl, (c8 (ahc hy))⟩, ⟨_, rfl, (bz (by rw [jr bsq, jr bsq]; rfl))⟩, tt⟩, ⟨⟨_, rfl, (bu (ahc hy) (CoP.refl _))⟩, uu⟩⟩ ?_; exact ⟨by omega, by omega⟩)
         | (refine lpz (k + 1) ⟨⟨⟨_,rfl,(ce (ah9 hy))⟩,⟨_,rfl,(bz (by rw [jr bsq,jr bsq];rfl))⟩,tt⟩,⟨⟨_,rfl,(bv (ah9 hy))⟩,uu⟩⟩ ?_;exact ⟨by omega,by omega⟩)
  have h1:=tz2 r1;have g1:¬ (BitVec.ofNat 32 k) &&& ~~~(a6 n &&& ~~~x) = 0:=al2 (by rw [<- it (a6 n) x];exact h1);have hy:yq (a6 n &&& ~~~x) (orL (chT l m (a6 n &&& ~~~x))) x (chT l m (a6 n &&& ~~~x)) (BitVec.ofNat 32 k) = false:=bec g1;(iterate 9 refine k9 (gft r1) ?_);refine w_7 ?_;refine rq rfl rfl rfl rfl rfl ?_ (hp:=by have q:=jr (k:=k) bsq;rw [q];simp only [inR,o4,qa];omega);refine w_2 ?_
  first | (refine lpz (k + 1) ⟨⟨⟨_, rfl, (c8 (ahc hy))⟩, ⟨_, rfl, (bz (by rw [jr bsq, jr bsq]; rfl))⟩, tt⟩, ⟨⟨_, rfl, (bu (ahc hy) (CoP.refl _))⟩, uu⟩⟩ ?_; exact ⟨by omega, by omega⟩)
        | (refine lpz (k + 1) ⟨⟨⟨_,rfl,(ce (ah9 hy))⟩,⟨_,rfl,(bz (by rw [jr bsq,jr bsq];rfl))⟩,tt⟩,⟨⟨_,rfl,(bv (ah9 hy))⟩,uu⟩⟩ ?_;exact ⟨by omega,by omega⟩)
 obtain rfl:k = (a6 n &&& ~~~x).toNat + 1:=by
  have q:¬ asI (BitVec.ofNat 32 k) <= asI (a6 n &&& ~~~x):=by rw [<- it];exact h0
  rw [jr bsq] at q;have q2:¬ k <= (a6 n &&& ~~~x).toNat:=fun e=>q (Int.ofNat_le.2 e);omega
 refine w_2 ?_;refine b6 11 rfl rfl rfl ?_;refine w_2 ?_;refine qcx (wgx Tryz.func127) (azk (yL (a6 n &&& ~~~x) (orL (chT l m (a6 n &&& ~~~x))) x (chT l m (a6 n &&& ~~~x)) ((a6 n &&& ~~~x).toNat + 1)) (bon ay4 bsq)) ?_;refine v_2 ?_;exact ⟨CoC.one (CoP.of_eq (by rw [awe])),trivial⟩
end
section
open Go.Proofs
def avk {n:Int} {l m:List Fd} {x:AS} (hx:sub x (a6 n)):a7 btb 159 [pI n,pP (fdl l),pP (fdl m),pA x] (aa [pA (rz n l m x)]):=by
 have h:=ay0 n l m x;rw [b3n hx] at h;exact h
def ba0 (n:Int) (l m:List Fd) (x p:AS) (hn:n <= 16):a7 btb 160 [pI n,pP (fdl l),pP (fdl m),pA x,pA p] (aa [pP (asl (jb n l m x p))]):=by
 refine hpx (nt:=43) Tryz.func160 ?_;refine d5 ?_;refine qcx (wgx Tryz.func208) (b0d n l m x hn) ?_;refine i6 ?_;refine ct 12 900 true 1 46 (lf sC []) bsu rfl (CoP.sl rfl (.inr rfl) (fun h=>h) (fun i j hi _=>absurd hi (bod i))) (.inr rfl) rfl ?_;have hbl:=a61 n l m x;refine bp (ka 4 (ka 11 kn)) km (fun i=>⟨[(12,some (.v (.one (.ref 900 (mt p ((dt n l m x).take i)).length)))),(13,some (vI i))],[(900,some (.arr true 1 46 (mt p ((dt n l m x).take i)).length (lf sC (mt p ((dt n l m x).take i)))))]⟩) ((dt n l m x).length) ⟨⟨⟨_,rfl,(CoR.refl _)⟩,⟨_,rfl,(CoR.refl _)⟩,trivial⟩,uu⟩ ?_;rintro i hi;have hcl:(mt p ((dt n l m x).take i)).length <= i:=bon (acl _ _) bt6;refine w_8 ?_;refine hcd (fun h0=>?_) (fun h0=>?_)
 ·
  refine kw ?_;refine hcn (fun h1=>?_) (fun h1=>?_)
  ·
   have hq:¬ (dt n l m x).getD i default &&& p = 0:=s7 h1;refine w_8 ?_;refine m9 0 ?_;refine r9 1 true ?_;refine w_7 ?_
   first | (refine lpz (i + 1) ⟨⟨⟨_, rfl, (c8 (ym bsq hq))⟩, ⟨_, rfl, (CoR.refl _)⟩, tt⟩, ⟨⟨_, rfl, (bu (ym bsq hq) (CoP.of_eq (congrArg (fun z => PV.raw (.int .u32 z)) (gk _ _))))⟩, trivial⟩⟩ ?_; show i + 1 <= _; omega)
         | (refine lpz (i + 1) ⟨⟨⟨_,rfl,(ce (z8 bsq hq))⟩,⟨_,rfl,(CoR.refl _)⟩,tt⟩,⟨⟨_,rfl,(bv (z8 bsq hq))⟩,trivial⟩⟩ ?_;show i + 1 <= _;omega)
  have hq:(dt n l m x).getD i default &&& p = 0:=wk h1;refine w_6 ?_
  first | (refine lpz (i + 1) ⟨⟨⟨_, rfl, (c8 (ym bsq hq))⟩, ⟨_, rfl, (CoR.refl _)⟩, tt⟩, ⟨⟨_, rfl, (bu (ym bsq hq) (CoP.of_eq (congrArg (fun z => PV.raw (.int .u32 z)) (gk _ _))))⟩, trivial⟩⟩ ?_; show i + 1 <= _; omega)
        | (refine lpz (i + 1) ⟨⟨⟨_,rfl,(ce (z8 bsq hq))⟩,⟨_,rfl,(CoR.refl _)⟩,tt⟩,⟨⟨_,rfl,(bv (z8 bsq hq))⟩,trivial⟩⟩ ?_;show i + 1 <= _;omega)
 obtain rfl:i = (dt n l m x).length:=by omega
 rw [show (dt n l m x).take (dt n l m x).length = (dt n l m x) from bog];refine w_2 ?_;refine b6 12 rfl rfl rfl ?_;refine w_2 ?_;refine qcx (wgx Tryz.func144) (arb (mt p (dt n l m x)) (a9y n l m x p)) ?_;refine v_2 ?_;exact ⟨CoC.refl _,trivial⟩
def bcy (n:Int) (l m:List Fd) (p:AS) (hn:n <= 16) (hp:sub p (a6 n)):a7 btb 109 [pI n,pP (fdl l),pP (fdl m),pA p] (aa [(vF (d8 n l m) p).pc,pB (vBo (d8 n l m) p)]):=by
 refine hpx (nt:=52) Tryz.func109 ?_;have hsl:=vd p;refine sx7 ?_;refine m9 0 ?_;refine w_5 ?_;refine qcx (wgx Tryz.func124) (axu p) ?_;refine w_8 ?_;refine ah (ι:=Nat) (ka 0 (ka 1 (ka 2 (ka 3 (ka 8 (ka 10 kn)))))) (kb 0 km) (fun i=>⟨[(11,some (vI i))],[]⟩) (fun i=>i <= (av p).length /\ ((av p).take i).findSome? (a3f n l m p) = none) (fun i=>(av p).length - i) (0) (⟨boe _,rfl⟩) ⟨⟨⟨_,rfl,(CoR.refl _)⟩,trivial⟩,trivial⟩ ?_;rintro i ⟨hi,hI⟩;refine w_8 ?_;refine hcd (fun h0=>?_) (fun h0=>?_)
 ·
  have hil:i < (av p).length:=by omega
  have hxs:sub ((av p).getD i default) p:=a2c (pj hil);refine t7 ?_;refine qcx (wgx Tryz.func159) (avk (ak hxs hp)) ?_;refine qcx qq (ye p (rz n l m ((av p).getD i default))) ?_;refine cu ?_;refine am _ rfl (fun r1=>?_) (fun r1=>?_)
  · have h1:=r1;have hq:p &&& ~~~(rz n l m ((av p).getD i default)) = 0:=a2v r1;refine w_6 ?_;refine lpz (i + 1) ⟨⟨⟨_,rfl,(CoR.refl _)⟩,tt⟩,uu⟩ ?_;exact ⟨by omega,(kr hil hI).trans (by first | exact ade hq | exact af3 hq hc)⟩
  have h1:=r1;have hq:¬ p &&& ~~~(rz n l m ((av p).getD i default)) = 0:=a4x r1;refine dl ?_;refine qcx (wgx Tryz.func160) (ba0 n l m ((av p).getD i default) p hn) ?_;refine w_8 ?_;refine hcd (fun h2=>?_) (fun h2=>?_)
  ·
   have hc:1 < (jb n l m ((av p).getD i default) p).length:=by omega
   have hcl:(jb n l m ((av p).getD i default) p).length <= 8589934592:=bon (n3 _) (a9y n l m ((av p).getD i default) p);refine t7 ?_;refine hrr ?_
   have he:agt (d8 n l m p) = (⟨((av p).getD i default),(jb n l m ((av p).getD i default) p).getD 0 default⟩,true):=by
    rw [show d8 n l m p = some _ from vk hil hI (ay9 hq hc)];rfl
   unfold vF vBo;exact f9 rfl rfl (by rw [he];exact ⟨CoC.agg ⟨CoP.refl _,CoP.refl _,trivial⟩,CoC.refl _,trivial⟩)
  have hc:¬ 1 < (jb n l m ((av p).getD i default) p).length:=by omega
  refine w_6 ?_;refine lpz (i + 1) ⟨⟨⟨_,rfl,(CoR.refl _)⟩,tt⟩,uu⟩ ?_;exact ⟨by omega,(kr hil hI).trans (by first | exact ade hq | exact af3 hq hc)⟩
 obtain rfl:i = (av p).length:=by omega
 rw [show (av p).take (av p).length = (av p) from bog] at hI;refine w_7 ?_;refine hrr ?_
 have he:agt (d8 n l m p) = (⟨0,0⟩,false):=by
  rw [show d8 n l m p = none from hI];rfl
 unfold vF vBo;exact f9 rfl rfl (by rw [he];exact ⟨CoC.agg ⟨CoP.of_eq rfl,CoP.of_eq rfl,trivial⟩,CoC.refl _,trivial⟩)
end
section
open Go.Proofs
def bn5 (n:Int) (ps:List AS):List AS:=if ps.length = 0 then [a6 n] else ps.set (ps.length - 1) (ps.getD (ps.length - 1) default ||| (a6 n &&& ~~~(orL ps)))
end
section
def okR (d:Rcp):Bool:=decide (d.f.length <= 4 /\ d.m.length <= 4 /\ d.p.length <= 3) && decide ((d.m.length:Int) <= 2)
def b67 {d:Rcp} (h:okR d = true):d.f.length <= 4 /\ d.m.length <= 2 /\ d.p.length <= 3:=by
 unfold okR at h;rw [boc,decide_eq_true_eq,decide_eq_true_eq] at h;omega
def nsL (d:Rcp) (ns:List Bs):List Bs:=if d.num 4 < (ns.length:Int) /\ (ns.length:Int) % 2 = 0 then ns.take (d.num 4).toNat else ns
def bf1 (d:Rcp):1 <= d.num 4 /\ d.num 4 <= 4:=by
 have:d.n.toNat % 4 < 4:=brv _ bsq;unfold Rcp.num;omega
end
section
open Go.Proofs
def bc8 (n:Int) (ps:List AS) (p m:List Fd):a7 btb 81 [pI n,pP (asl ps),pP (fdl p),pP (fdl m)] (aa [pP (stl (prS n ps p m)),pI (prC n ps p m)]):=by
 refine hpx (nt:=55) Tryz.func81 ?_;refine dl ?_;refine qcx (wgx Tryz.func100) (ats n ps p m) ?_;refine w_5 ?_;refine m9 0 ?_;refine m9 1 ?_;refine dl ?_;refine hcn (fun h0=>?_) (fun h0=>?_)
 ·
  have hne:¬ lsC n ps p m = 0:=by rw [<- s8];exact h0
  have hr:=bfb hne;refine v_6 ?_;exact by rw [hr.1,hr.2,<- s8];exact ⟨CoC.one coN,CoC.refl _,trivial⟩
 have hls:lsC n ps p m = 0:=by
  rw [<- s8];exact h0
 obtain ⟨hv,hb⟩:=lh hls;have hc:(lsT n ps p m).2.2 = 0:=(a56 hv hb).symm.trans hls;have htr:=bfi hv hb hc;have hR:=av4 hv hb;obtain ⟨hn0,hn8,_,_,_⟩:=nj hv;have hn16:n <= 16:=by omega
 have hfew:(trS n ps p m).length <= 1300000:=bbi (p:=p) (m:=m) hv hb;refine w_6 ?_;refine ah (ι:=Nat) (ka 0 (ka 2 (ka 3 (ka 10 kn)))) km (fun i=>⟨[(14,some (vI i)),(11,some (.v (.one (.p (stl (trS n ps p m))))))],[(0,some (.box [.p (.raw (.int .i64 n)), .p (rl (trT n ps p m i))]))]⟩) (fun i=>i <= (trS n ps p m).length /\ ∀ j,j < i -> ke n (trT n ps p m j) = false) (fun i=>(trS n ps p m).length - i) (0) (⟨boe _,fun j hj=>absurd hj (bod j)⟩) ⟨⟨zy,⟨_,rfl,(by rw [hR];exact CoR.refl _)⟩,trivial⟩,⟨⟨_,rfl,(by rw [hR];unfold trT;rw [bbl];exact CoO.refl _)⟩,trivial⟩⟩ ?_;rintro i ⟨hi,hI⟩;refine w_7 ?_;refine qcx agv (afp n hn0 hn16) ?_;refine qcx aaa (akp n (trT n ps p m i) (cg n)) ?_;refine w_2 ?_;refine hcb (fun h1=>?_) (fun h1=>?_)
 · have hr:=a6e hls (i:=i) hi hI h1;refine v_8 ?_;exact by rw [hr.1,hr.2];exact ⟨CoC.one (b3v (by rw [boi];dsimp only [ek,az];omega) (fun a j=>by first | rfl | (simp;rfl))),CoC.refl _,trivial⟩
 refine w_9 ?_;refine hcd (fun h2=>?_) (fun h2=>?_)
 ·
  obtain rfl:i = (trS n ps p m).length:=by omega
  have hr:=bdb hls fun j hj=>by
   by_cases e:j = (trS n ps p m).length
   · rw [e];assumption
   exact hI j bsq
  refine v_5 ?_;exact by rw [hr.1,hr.2];exact ⟨CoC.one coN,CoC.refl _,trivial⟩
 have hil:i < (trS n ps p m).length:=by omega
 obtain ⟨hx1,hx2,hx3⟩:=bj8 hil (b7s htr (i:=i) hi);refine d5 ?_;refine qcx (wgx Tryz.func129) (ayq n (trT n ps p m i) p m ((trS n ps p m).getD i default) hx1 hb hx2 hx3) ?_;refine a3d ?_;refine lpz (i + 1) ⟨tt,⟨⟨_,rfl,(by unfold trT;rw [atj hil];exact CoO.refl _)⟩,trivial⟩⟩ ?_;refine ⟨by omega,fun j hj=>?_⟩;by_cases e:j = i
 · rw [e];assumption
 exact hI j bsq
end
section
open Go.Proofs
def bnb (n:Int) (l:List Fd) (i:Nat):Bool:=((oz n l).take i).any (f5 n l)
section
variable {n:Int} {l:List Fd}
end
section
variable {d:Dps}
end
end
section
def a23 (l:List Fd) (z:Int):Option PV:=match l.find? (fun f=>decide (asI f.lhs = z)) with | some f=>some (asC (mgR l f.lhs)) | none=>none
def a6m (l:List Fd):MK -> Option PV
 | .i .u32 z=>a23 l z
 | _=>none
def wfA (s:AS):(Lit.int .u32 (asI s)).wf = true:=by
 have h1:=ady s;have h2:=a7h s;have e1:IntKind.min .u32 = 0:=by decide
 have e2:IntKind.max .u32 = 4294967295:=by decide
 simp only [Lit.wf,e1,e2,boc,decide_eq_true_eq];omega
section
variable {l:List Fd}
def b4g {s:AS} (h:∀ f ∈ l,¬ f.lhs = s):mgR l s = 0:=by
 unfold mgR;rw [bsj.2 fun f hf=>by simpa using h f hf];rfl
def aeo {s:AS} {f:Fd} (h:l.find? (fun f=>decide (asI f.lhs = asI s)) = some f):f.lhs = s:=by
 have:=List.find?_some h;exact ck.1 (of_decide_eq_true this)
def ae4 (l:List Fd) (s:AS):a67 (a6m l) (.i .u32 (asI s)) (.int .u32 0) = asC (mgR l s):=by
 show (match a23 l (asI s) with | some y=>y | none=>me (.int .u32 0)) = _;unfold a23
 cases h:l.find? (fun f=>decide (asI f.lhs = asI s)) with
 | some f =>
  have:=aeo h;subst this;rfl
 | none =>
  rw [b4g fun f hf e=>by
   have:=br2.1 h f hf;rw [e] at this
   exact this (decide_eq_true rfl)]
  rfl
def axq (m:MK):CoM none (a6m [] m):=by
 cases m with
 | i q z=>cases q <;> exact CoM.refl _
 | s b=>exact CoM.refl _
def ayb {i:Nat} (hi:i < l.length) (z:Int):(if z = asI (l.getD i default).lhs then some (PV.raw (.int .u32 (ap .or .u32 (asI (mgR (l.take i) (l.getD i default).lhs)) (asI (l.getD i default).rhs)))) else a23 (l.take i) z) = a23 (l.take (i + 1)) z:=by
 unfold a23;by_cases hz:z = asI (l.getD i default).lhs
 · subst hz
   rw [if_pos rfl,bmn hi rfl]
   cases h:(l.take (i + 1)).find? (fun f=>decide (asI f.lhs = asI (l.getD i default).lhs)) with
   | some f =>
    have:=aeo h;rw [<- this]
   | none =>
    have:=br2.1 h (l.getD i default) (by rw [aw hi];simp);exact absurd (decide_eq_true rfl) this
 rw [if_neg hz,aw hi,List.find?_append]
 have hx:[l.getD i default].find? (fun f=>decide (asI f.lhs = z)) = none:=by
  rw [List.find?_cons,decide_eq_false (fun e=>hz e.symm)];rfl
 rw [hx,Option.or_none]
 cases h:(l.take i).find? (fun f=>decide (asI f.lhs = z)) with
 | none=>rfl
 | some f =>
  have hf0:=List.find?_some h;have hf:asI f.lhs = z:=of_decide_eq_true hf0;dsimp only;rw [<- aw hi,bjn hi (fun e=>hz (by rw [e];exact hf.symm))]
def ayo {i:Nat} (hi:i < l.length) (m:MK):CoM (ov (a6m (l.take i)) (.i .u32 (asI (l.getD i default).lhs)) (.raw (.int .u32 (ap .or .u32 (asI (mgR (l.take i) (l.getD i default).lhs)) (asI (l.getD i default).rhs)))) m) (a6m (l.take (i + 1)) m):=by
 refine CoM.of_eq ?_;unfold ov
 cases m with
 | s b=>rfl
 | i q z =>
  by_cases hq:q = .u32
  · subst hq
    show (bif (decide True && decide (z = _)) then _ else a23 _ z) = a23 _ z;rw [<- ayb hi z];by_cases hz:z = asI (l.getD i default).lhs
    · rw [if_pos hz,decide_eq_true hz];rfl
    rw [if_neg hz,decide_eq_false hz];rfl
  have h1:MK.same (.i q z) (.i .u32 (asI (l.getD i default).lhs)) = false:=by
   show (decide _ && decide _) = false;rw [decide_eq_false hq,Bool.false_and]
  rw [h1];cases q <;> first | rfl | exact absurd rfl hq
end
end
section
open Go.Proofs
def axw (l:List Fd) (hl:l.length <= 16777216):a7 btb 135 [pP (fdl l)] (aa [pP (fdl (a1q l))]):=by
 refine hpx (nt:=47) Tryz.func135 ?_;refine w_6 ?_;refine m9 0 ?_;refine t7 ?_;refine ct 4 900 true 1 46 (lf sC []) bsu rfl (CoP.sl rfl (.inr rfl) (fun h=>h) (fun i j hi _=>absurd hi (bod i))) (.inr rfl) rfl ?_;refine bp (ka 3 (ka 11 (ka 12 kn))) km (fun i=>⟨[(4,some (.v (.one (.ref 900 ((l.take i).map Fd.lhs).length)))),(13,some (vI i))],[(0,some (.mp (.int .u32) i (a6m (l.take i)))),(900,some (.arr true 1 46 ((l.take i).map Fd.lhs).length (lf sC ((l.take i).map Fd.lhs))))]⟩) l.length ⟨tt,⟨⟨_,rfl,⟨rfl,bo9 _,axq⟩⟩,uu⟩⟩ ?_;rintro i hi;have hlen:((l.take i).map Fd.lhs).length <= i:=by rw [bp2,boi];omega
 refine w_5 ?_;refine hcd (fun h0=>?_) (fun h0=>?_)
 · refine w_7 ?_;refine m9 1 ?_;refine w_7 ?_;refine rq (out:=⟨_, .v (.one (.p (asC (mgR (l.take i) (l.getD i default).lhs))))⟩) rfl rfl rfl (congrArg (fun z=>some (Out.mk _ (HR.v (HC.one (HV.p z))))) (ae4 _ _)) rfl ?_ (hp:=⟨rfl,rfl,wfA _⟩);refine w_3 ?_;refine rs rfl rfl rfl rfl rfl ?_ (hp:=⟨rfl,⟨rfl,wfA _⟩,by simp only [maxLen];omega⟩);refine w_5 ?_;refine m9 2 ?_;refine r9 3 true ?_;refine w_6 ?_;exact lpx (i + 1) ⟨⟨⟨_,rfl,(c8 (wa bsq))⟩,tt⟩,⟨⟨_,rfl,⟨rfl,bo9 _,ayo bsq⟩⟩,⟨_,rfl,(bu (wa bsq) (CoP.refl _))⟩,trivial⟩⟩
 obtain rfl:i = l.length:=by omega
 rw [show (l.take l.length).map Fd.lhs = l.map Fd.lhs by rw [bog],show a6m (l.take l.length) = a6m l by rw [bog]];refine w_7 ?_;refine b6 4 rfl rfl rfl ?_;have hol:=n3 (l.map Fd.lhs);rw [bp2] at hol;refine w_2 ?_;refine qcx a0l (a94 (l.map Fd.lhs) (by rw [bp2];omega)) ?_;refine w_4 ?_;refine ct 7 901 true 2 48 (lf Fd.c []) bsu rfl (CoP.sl rfl (.inr rfl) (fun h=>h) (fun i j hi _=>absurd hi (bod i))) (.inr rfl) rfl ?_;refine bp (ka 3 (ka 31 (ka 32 kn))) (kb 0 km) (fun k=>⟨[(7,some (.v (.one (.ref 901 (((ord (l.map Fd.lhs)).take k).map (mgF l)).length)))),(33,some (vI k))],[(901,some (.arr true 2 48 (((ord (l.map Fd.lhs)).take k).map (mgF l)).length (lf Fd.c (((ord (l.map Fd.lhs)).take k).map (mgF l)))))]⟩) ((ord (l.map Fd.lhs)).length) kk ?_;rintro k hk;have hlen2:(((ord (l.map Fd.lhs)).take k).map (mgF l)).length <= k:=by rw [bp2,boi];omega
 refine w_5 ?_;refine hcd (fun h1=>?_) (fun h1=>?_)
 · refine t7 ?_;refine rq (out:=⟨_, .v (.one (.p (asC (mgR l ((ord (l.map Fd.lhs)).getD k default)))))⟩) rfl rfl rfl (congrArg (fun z=>some (Out.mk _ (HR.v (HC.one (HV.p z))))) (ae4 _ _)) rfl ?_ (hp:=⟨rfl,rfl,wfA _⟩);refine qy ?_;refine m9 4 ?_;refine r9 5 true ?_;refine w_6 ?_;exact lpx (k + 1) ⟨⟨⟨_,rfl,(c8 (wa bsq))⟩,tt⟩,⟨⟨_,rfl,(v6 (wa bsq) (CoP.refl _) (CoP.refl _))⟩,uu⟩⟩
 obtain rfl:k = (ord (l.map Fd.lhs)).length:=by omega
 refine w_6 ?_;refine b6 2 rfl rfl rfl ?_;exact hx8 rfl rfl rfl (⟨CoC.one (CoP.of_eq (by rw [bog];rfl)),trivial⟩)
end
end Go.Hx
