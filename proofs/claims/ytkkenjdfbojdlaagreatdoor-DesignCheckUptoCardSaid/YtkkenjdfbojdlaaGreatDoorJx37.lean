/- A part of the proof: LyB Bd3 Dw2 Dw3 Ds7 Ds8 Bz10 Y10 Y11 Y12 Ds10 Dw5 Cs43 Cs44 V39 Ls9. -/
import Derived.Shelf.Strings.Builder1
import Derived.Test.YtkkenjdfbojdlaaGreatDoorProg
import Derived.Test.YtkkenjdfbojdlaaGreatDoorJx34
import Derived.Test.YtkkenjdfbojdlaaGreatDoorJx36
set_option linter.all false
set_option maxRecDepth 100000
set_option maxHeartbeats 1000000
section
namespace Go.Proofs
open Go.Shelf
def Tryz.lays169_ren:Go.Shelf.Ren:=⟨fun | 169=>60 | n=>n,fun | 70=>92 | 9=>9 | 0=>0 | 72=>94 | 37=>23 | 127=>153 | 3=>3 | 5=>5 | n=>n,fun | n=>n⟩
theorem Tryz.lays169:Go.Proofs.Lays.n169 Tryz.prog Tryz.lays169_ren:={
 mixed:=by kernel_rfl
 f169:=Tryz.func60.trans (congrArg some (by kernel_rfl))
 t0:=Tryz.underlying0
 a0:=Tryz.isAgg0
 z0:=Tryz.sizeOf0
 v0:=Tryz.zeroValue0
 t3:=Tryz.underlying3
 a3:=Tryz.isAgg3
 z3:=Tryz.sizeOf3
 v3:=Tryz.zeroValue3
 t9:=Tryz.underlying9
 a9:=Tryz.isAgg9
 z9:=Tryz.sizeOf9
 v9:=Tryz.zeroValue9
 t37:=Tryz.underlying23
 a37:=Tryz.isAgg23
 z37:=Tryz.sizeOf23
 v37:=Tryz.zeroValue23
 t70:=Tryz.underlying92
 a70:=Tryz.isAgg92
 z70:=Tryz.sizeOf92
 v70:=Tryz.zeroValue92
 t72:=Tryz.underlying94
 a72:=Tryz.isAgg94
 z72:=Tryz.sizeOf94
 v72:=Tryz.zeroValue94
 t127:=Tryz.underlying153
 a127:=Tryz.isAgg153
 z127:=Tryz.sizeOf153
 v127:=Tryz.zeroValue153 }
theorem Tryz.Builder_Extra_169:Builder.Extra Tryz.prog Tryz.lays169_ren:={
 sizeBuilder:=by kernel_rfl
 liesBuilder:=by kernel_rfl
 t5:=Tryz.underlying5
 a5:=Tryz.isAgg5
 z5:=Tryz.sizeOf5
 v5:=Tryz.zeroValue5
 infoByte:=by kernel_rfl
 cellsByte:=by kernel_rfl
 sizeByte:=by kernel_rfl
 neB5:=by decide }
def Tryz.lays156_ren:Go.Shelf.Ren:=⟨fun | 156=>56 | 165=>115 | 166=>57 | 169=>60 | 240=>116 | 241=>165 | 276=>166 | 277=>212 | n=>n,fun | 31=>57 | 9=>9 | 3=>3 | 4=>4 | 0=>0 | 20=>20 | 72=>94 | 76=>97 | 70=>92 | 37=>23 | 75=>96 | 127=>153 | 164=>178 | 5=>5 | 80=>100 | n=>n,fun | n=>n⟩
theorem Tryz.lays156:Go.Proofs.Lays.n156 Tryz.prog Tryz.lays156_ren:={
 mixed:=by kernel_rfl
 f156:=Tryz.func56.trans (congrArg some (by kernel_rfl))
 f165:=Tryz.func115.trans (congrArg some (by kernel_rfl))
 f166:=Tryz.func57.trans (congrArg some (by kernel_rfl))
 f169:=Tryz.func60.trans (congrArg some (by kernel_rfl))
 f240:=Tryz.func116.trans (congrArg some (by kernel_rfl))
 f241:=Tryz.func165.trans (congrArg some (by kernel_rfl))
 f276:=Tryz.func166.trans (congrArg some (by kernel_rfl))
 f277:=Tryz.func212.trans (congrArg some (by kernel_rfl))
 t0:=Tryz.underlying0
 a0:=Tryz.isAgg0
 z0:=Tryz.sizeOf0
 v0:=Tryz.zeroValue0
 t3:=Tryz.underlying3
 a3:=Tryz.isAgg3
 z3:=Tryz.sizeOf3
 v3:=Tryz.zeroValue3
 t4:=Tryz.underlying4
 a4:=Tryz.isAgg4
 z4:=Tryz.sizeOf4
 v4:=Tryz.zeroValue4
 t9:=Tryz.underlying9
 a9:=Tryz.isAgg9
 z9:=Tryz.sizeOf9
 v9:=Tryz.zeroValue9
 t20:=Tryz.underlying20
 a20:=Tryz.isAgg20
 z20:=Tryz.sizeOf20
 v20:=Tryz.zeroValue20
 t31:=Tryz.underlying57
 a31:=Tryz.isAgg57
 z31:=Tryz.sizeOf57
 v31:=Tryz.zeroValue57
 t37:=Tryz.underlying23
 a37:=Tryz.isAgg23
 z37:=Tryz.sizeOf23
 v37:=Tryz.zeroValue23
 t70:=Tryz.underlying92
 a70:=Tryz.isAgg92
 z70:=Tryz.sizeOf92
 v70:=Tryz.zeroValue92
 t72:=Tryz.underlying94
 a72:=Tryz.isAgg94
 z72:=Tryz.sizeOf94
 v72:=Tryz.zeroValue94
 t75:=Tryz.underlying96
 a75:=Tryz.isAgg96
 z75:=Tryz.sizeOf96
 v75:=Tryz.zeroValue96
 t76:=Tryz.underlying97
 a76:=Tryz.isAgg97
 z76:=Tryz.sizeOf97
 v76:=Tryz.zeroValue97
 t127:=Tryz.underlying153
 a127:=Tryz.isAgg153
 z127:=Tryz.sizeOf153
 v127:=Tryz.zeroValue153
 t164:=Tryz.underlying178
 a164:=Tryz.isAgg178
 z164:=Tryz.sizeOf178
 v164:=Tryz.zeroValue178 }
theorem Tryz.Builder_Extra_156:Builder.Extra Tryz.prog Tryz.lays156_ren:={
 sizeBuilder:=by kernel_rfl
 liesBuilder:=by kernel_rfl
 t5:=Tryz.underlying5
 a5:=Tryz.isAgg5
 z5:=Tryz.sizeOf5
 v5:=Tryz.zeroValue5
 infoByte:=by kernel_rfl
 cellsByte:=by kernel_rfl
 sizeByte:=by kernel_rfl
 neB5:=by decide }
end Go.Proofs
end
namespace Go.Hx
section
open Go.Shelf Go.RowKit Go.Proofs
abbrev tB:TypeId:=94
abbrev tC:TypeId:=5
abbrev bd (fr:Bool) (l:List UInt8):aa:=.bld fr tB tC (Lib.byteCells l)
def qn:goodFn Tryz.prog 57:=⟨Tryz.f57,Tryz.func57,by kernel_rfl,by kernel_rfl⟩
def au8:goodFn Tryz.prog 60:=⟨Tryz.f60,Tryz.func60,by kernel_rfl,by kernel_rfl⟩
def b3e:goodFn Tryz.prog 115:=⟨Tryz.f115,Tryz.func115,by kernel_rfl,by kernel_rfl⟩
def ag7 {v:Value} (h:∃ a m c,v = .slice a m c):v.ownBlock = cr v:=by
 obtain ⟨a,m,c,rfl⟩:=h;cases a <;> rfl
def ah5 (l:List UInt8) (s:ByteArray):Lib.byteCells l ++ Lib.strCells s = Lib.byteCells (l ++ s.data.toList):=by
 simp [Lib.byteCells,Lib.strCells]
def ai7 {c:Ctx} {w:World} {id:Nat} {fr:Bool} {T e:TypeId} {l:List Value} (h:b2g 0 c w id fr T e l) :
 ∃ b p v,c.own id = .pointer (some ⟨b,0,none⟩) /\ BAt T e b p v l w /\ (p = .pointer none \/ p = .pointer (some ⟨b,0,none⟩)) /\ (∀ k,c.blk id k <-> k = b \/ v.ownBlock = some k) /\ (fr = true -> p = .pointer none /\ v = .slice none 0 0):=by
 obtain ⟨b,p,v,h1,_,h3,h4,h5,h6,h7,h8⟩:=h;have e:=ag7 (ady h5).1;exact ⟨b,p,v,h1,⟨h3,h5,by rw [e];exact h6⟩,h4,fun k=>by rw [e];exact h7 k,h8⟩
def akr {c:Ctx} {w w':World} {id b:Nat} {fr:Bool} {T e:TypeId} {v v':Value} {l l':List Value} {r:Value} {res:HR} (hM:Mem c (lk [(id, .bld fr T e l)]) w) (hown:c.own id = .pointer (some ⟨b,0,none⟩)) (hblk:∀ k,c.blk id k <-> k = b \/ v.ownBlock = some k)
 (hB':BAt T e b (.pointer (some ⟨b,0,none⟩)) v' l' w') (hbel:Below 0 w w') (hfr:∀ k,k < w.heap.size -> k ≠ b -> v.ownBlock ≠ some k -> w'.heap[k]? = w.heap[k]?) (hv':∀ k,v'.ownBlock = some k -> v.ownBlock = some k \/ w.heap.size <= k)
 (hres:∀ c' o',ap c' o' res r) :
 ∃ v2 c',Ending.returned r = .returned v2 /\ ap c' (lk [(id, .bld false T e l')]) res v2 /\ Mem c' (lk [(id, .bld false T e l')]) w' /\ Below 0 w w' /\
  (∀ b,b < w.heap.size -> (∀ id' ob,lk [(id, .bld fr T e l)] id' = some ob -> ¬ c.blk id' b) -> w'.heap[b]? = w.heap[b]? /\ c'.imm b = c.imm b) /\
  (∀ id' ob b,lk [(id, .bld false T e l')] id' = some ob -> c'.blk id' b -> w.heap.size <= b \/ ∃ id0 ob0,lk [(id, .bld fr T e l)] id0 = some ob0 /\ c.blk id0 b) /\
  (∀ id' ∈ [id],Evo c (lk [(id, .bld fr T e l)]) c' (lk [(id, .bld false T e l')]) id'):=by
 have hl1:lk [(id,aa.bld fr T e l)] id = some (.bld fr T e l):=by simp [lk]
 have hl2:lk [(id,aa.bld false T e l')] id = some (.bld false T e l'):=by simp [lk]
 have one:∀ {x:aa} {id':Nat} {ob:aa},lk [(id,x)] id' = some ob -> id' = id /\ ob = x:=fun {x id' ob} h=>⟨(io h).1,(io h).2⟩;have sep:∀ k,k = b \/ v.ownBlock = some k -> c.imm k = none:=fun k hk=>hM.sep id _ k hl1 ((hblk k).2 hk);have lt:∀ k ob,c.imm k = some ob -> k < w.heap.size:=fun k ob hk=>(bjf.1 (hM.imm k ob hk)).1;have e':=ag7 (ady hB'.own).1;refine ⟨r,{ c with blk:=fun k=>if k = id then (fun x=>x = b \/ v'.ownBlock = some x) else c.blk k },rfl,hres _ _,⟨fun id' ob h=>?_,fun i i' ob ob' k h h' _ _=>?_,fun k ob hk=>?_,fun id' ob k h hk=>?_⟩,hbel,fun k hk hn=>?_,fun id' ob k h hk=>?_,fun id' hid=>?_⟩
 · obtain ⟨rfl,rfl⟩:=one h
   exact ⟨b,_,v',hown,bji _,hB'.heap, .inr rfl,hB'.own,by rw [<- e'];exact hB'.ne,fun k=>by simp [e'],fun h=>by cases h⟩
 · rw [(one h).1,(one h').1]
 · have hk':=lt k ob hk
   refine (hfr k hk' (fun e=>?_) fun e=>?_).trans (hM.imm k ob hk)
   · have:=sep k (.inl e);have hk2:c.imm k = some ob:=hk;rw [hk2] at this;cases this
   have:=sep k (.inr e);have hk2:c.imm k = some ob:=hk;rw [hk2] at this;cases this
 · obtain ⟨rfl,rfl⟩:=one h
   simp only [if_true] at hk
   rcases hk with rfl | hk
   · exact sep _ (.inl rfl)
   rcases hv' k hk with h1 | h1
   · exact sep k (.inr h1)
   show c.imm k = none
   cases hi:c.imm k with
   | none=>rfl
   | some ob=>have:=lt k ob hi;omega
 · have hn':=fun h=>hn id _ hl1 ((hblk k).2 h)
   exact ⟨hfr k hk (fun e=>hn' (.inl e)) fun e=>hn' (.inr e),rfl⟩
 · obtain ⟨rfl,rfl⟩:=one h
   simp only [if_true] at hk
   rcases hk with rfl | hk
   · exact .inr ⟨_,_,hl1,(hblk _).2 (.inl rfl)⟩
   rcases hv' k hk with h1 | h1
   · exact .inr ⟨_,_,hl1,(hblk k).2 (.inr h1)⟩
   exact .inl h1
 rw [bjy.1 hid];exact .inr (.inr ⟨_,_,0,1,0,0,hl1,rfl,hl2,rfl,bjg _,fun _=>rfl,fun _ _ _ _ _ _ _ h=>by cases h⟩)
def qo (id:Nat) (fr:Bool) (l:List UInt8) (s:ByteArray) (hlen:l.length + s.size <= 140737488355328):d4 Tryz.prog 57 [.one (.ref id 0), .one (.p (.raw (.string s)))] [(id,bd fr l)] (.tup [.one (.p (.raw (.int .i64 (s.size:Int)))), .one (.p (.raw .nilIface))]) [(id,bd false (l ++ s.data.toList))] [id]:=by
 intro w c us hM hus
 match us,hus with
 | [u,v],⟨hu,hv,_⟩ =>
  obtain ⟨rfl,_⟩:=hv;have hl1:lk [(id,bd fr l)] id = some (bd fr l):=by simp [lk]
  have hu2:u = c.own id:=(hu.2.2 _ _ _ _ hl1 rfl).2 rfl;subst hu2;obtain ⟨b,p,v0,hown,hB,hp,hblk,_⟩:=ai7 (hM.objs id _ hl1);rw [hown];refine (ah8 (P:=Tryz.prog) (ρ:=Tryz.lays156_ren) { Tryz.lays156 with } Tryz.Builder_Extra_156 b p v0 _ s w hp hB (by rw [Lib.byteCells_length];exact hlen)).mono ?_;rintro e w' ⟨rfl,hbel,v',hB',hfr,hv'⟩;rw [ah5] at hB';exact akr hM hown hblk hB' hbel hfr hv' fun c' o'=>⟨_,rfl,⟨rfl,rfl⟩,⟨rfl,rfl⟩,trivial⟩
def ber (id:Nat) (n:Nat) (hn:n <= 281474976710656):d4 Tryz.prog 115 [.one (.ref id 0), .one (.p (.raw (.int .i64 (n:Int))))] [(id,bd true [])] (.tup []) [(id,bd false [])] [id]:=by
 intro w c us hM hus
 match us,hus with
 | [u,v],⟨hu,hv,_⟩ =>
  obtain ⟨rfl,_⟩:=hv;have hl1:lk [(id,bd true [])] id = some (bd true []):=by simp [lk]
  have hu2:u = c.own id:=(hu.2.2 _ _ _ _ hl1 rfl).2 rfl;subst hu2;obtain ⟨b,p,v0,hown,hB,hp,hblk,hf⟩:=ai7 (hM.objs id _ hl1);obtain ⟨rfl,rfl⟩:=hf rfl;rw [hown];refine (ba1 (P:=Tryz.prog) (ρ:=Tryz.lays156_ren) { Tryz.lays156 with } Tryz.Builder_Extra_156 b n w hB.heap hn).mono ?_;rintro e w' ⟨rfl,hbel,⟨v',hB',hv'⟩,hfr⟩;exact akr hM hown hblk hB' hbel (fun k hk hkb _=>hfr k hk hkb) (fun k hk=>.inr (hv' k hk)) fun c' o'=>⟨[],rfl,trivial⟩
def b1l (id:Nat) (fr:Bool) (l:List UInt8) (h0:l ≠ []):d4 Tryz.prog 60 [.one (.ref id 0)] [(id,bd fr l)] (.v (.one (.p (.raw (.string ⟨l.toArray⟩))))) [] []:=by
 intro w c us hM hus
 match us,hus with
 | [u],⟨hu,_⟩ =>
  have hl1:lk [(id,bd fr l)] id = some (bd fr l):=by simp [lk]
  have hu2:u = c.own id:=(hu.2.2 _ _ _ _ hl1 rfl).2 rfl;subst hu2;obtain ⟨b,p,v0,hown,hB,hp,hblk,_⟩:=ai7 (hM.objs id _ hl1);rw [hown];refine (ays (P:=Tryz.prog) (ρ:=Tryz.lays169_ren) Tryz.lays169 Tryz.Builder_Extra_169 b p v0 l w hB h0).mono ?_;rintro e w' ⟨rfl,hbel,hfr⟩;refine ⟨_,c,rfl,⟨rfl,rfl⟩,⟨(fun id' ob h=>by cases h),(fun i i' ob ob' k h=>by cases h),fun k ob hk=>?_,(fun id' ob k h=>by cases h)⟩,hbel,fun k hk hn=>⟨hfr k fun e=>hn id _ hl1 ((hblk k).2 (.inr e)),rfl⟩,(fun id' ob k h=>by cases h),(fun id' hid=>by cases hid)⟩;refine (hfr k fun e=>?_).trans (hM.imm k ob hk);have:=hM.sep id _ k hl1 ((hblk k).2 (.inr e));rw [hk] at this;cases this
end
section
open Go.Proofs
def b1k (l:List Bs) (sep:Bs) (hs1:sep.size = 1) (hl:l.length <= 1000) (hsz:szB l <= 1000000000):a6 bo6 56 [pP (bsl l),pS sep] (a7 [pS (a3h l sep)]):=by
 refine hpx (nt:=75) Tryz.func56 ?_;refine w_6 ?_;refine c6 0 rfl fun hn=>?_;have hA:∀ i,(se l sep i).length <= 1000001000:=fun i=>by have:=b51 l sep i;rw [hs1] at this;omega
 refine c7 ?_;refine hcd (fun h0=>?_) (fun h0=>?_)
 · have hl0:=bhv h0;subst hl0;refine v_4 ?_;exact CoL.refl _
 refine w_5 ?_;refine hcd (fun h1=>?_) (fun h1=>?_)
 · refine v_7 ?_;exact ⟨CoC.one (CoP.of_eq (by rw [awx sep bnl];rfl)),trivial⟩
 refine fj ?_;refine hcd (fun h2=>?_) (fun h2=>?_)
 ·
  refine w_8 ?_;refine rq rfl rfl rfl rfl rfl ?_ (hp:=⟨by decide,by omega,by constructor <;> decide⟩);refine w_2 ?_;refine hcd (fun h3=>?_) (fun h3=>?_)
  · exfalso;have:=b6l (n:=(l.length:Int) - 1) bnl bnl;omega
  have hmul:(sep.size:Int) * ((l.length:Int) - 1) = (l.length:Int) - 1:=by rw [hs1];simp
  refine alx ?_;refine bg (ka 0 (ka 1 (ka 39 (ka 40 kn)))) km (fun i=>⟨[(5,some (vI ((l.length:Int) - 1 + szB (l.take i)))),(41,some (vI i))],[]⟩) l.length ⟨⟨⟨_,rfl,(coi (by simp [szB];omega))⟩,tt⟩,trivial⟩ ?_;rintro i hi;refine w_5 ?_;refine hcd (fun h4=>?_) (fun h4=>?_)
  ·
   have hil:i < l.length:=by omega
   have hst:=aiq hil;have hst2:=a13 l (i + 1);have hst3:(l.getD (i:Int).toNat default).size = (l.getD i default).size:=rfl;refine aj2 ?_;refine hcd (fun h5=>?_) (fun h5=>?_)
   · exfalso;omega
   refine fj ?_;exact lpx (i + 1) ⟨⟨⟨_,rfl,(coi (by rw [hst];omega))⟩,tt⟩,trivial⟩
  obtain rfl:i = l.length:=by omega
  rw [bjk] at *;refine w_3 ?_;refine m9 0 ?_;refine w_4 ?_;refine gh rfl rfl rfl rfl rfl rfl b3e (ber 0 (l.length - 1 + szB l) bnl) (⟨vi.refl _,CoP.of_eq (by congr 2;omega),trivial⟩) uu rfl rfl ?_;refine w_6 ?_;refine fc9 qn (qo 0 false [] (l.getD 0 default) (by have:=ac2 (l:=l) (i:=0) bnl;show 0 + (l.getD 0 default).size <= _;omega)) uu ?_;refine c7 ?_;refine ae (ι:=Nat) (ka 1 (ka 8 (ka 63 (ka 64 kn)))) km (fun k=>⟨[(65,some (vI k))],[(0,some (bd false (se l sep k)))]⟩) (fun k=>k <= l.length - 1) (fun k=>l.length - k) (0) (bji _) ⟨tt,⟨⟨_,rfl,(CoO.of_eq (by rw [bbh]))⟩,trivial⟩⟩ ?_;rintro k hk0;refine w_5 ?_;refine hcd (fun h6=>?_) (fun h6=>?_)
  ·
   have hk:1 + k < l.length:=by simp only [dx,b8] at *;omega
   refine fj ?_;refine fc9 qn (qo 0 false (se l sep k) sep (by have:=hA k;omega)) uu ?_;refine w_3 ?_;refine fc9 qn (qo 0 false ((se l sep k) ++ bL sep) (l.getD (1 + k) default) (by have:=hA k;have:=ac2 hk;rw [bjj,abd];omega)) uu ?_;refine w_5 ?_;exact lpx (k + 1) ⟨tt,⟨⟨_,rfl,(CoO.of_eq (by rw [agw hk]))⟩,trivial⟩⟩
  obtain rfl:k = l.length - 1:=by simp only [dx,b8] at *;omega
  refine w_3 ?_
  have hne:se l sep (l.length - 1) ≠ []:=by
   obtain ⟨q,hq⟩:∃ q,l.length - 1 = q + 1:=⟨l.length - 2,by omega⟩;rw [hq,agw bnl];intro e;have:=congrArg List.length e;simp only [bjj,abd,bli] at this;omega
  refine fc9 au8 (b1l 0 false (se l sep (l.length - 1)) hne) uu ?_;refine v_2 ?_;exact ⟨CoC.one (CoP.of_eq (by rw [<- azo sep (by intro e;subst e;simp at *)])),trivial⟩
 exfalso;omega
end
section
open Go.Proofs
def bf6:a6 bo6 55 [pA 0] (a7 [pP (il [])]):=by
 have h:=aes 0;rw [acr] at h;exact h
def al0 {ns:List Bs} {q:List Nat} {i:Nat} (h:i < q.length):(q.take (i + 1)).map (fun k=>ns.getD k default) = (q.take i).map (fun k=>ns.getD k default) ++ [ns.getD (q.getD i default) default]:=by
 rw [List.take_succ,bjc h,bln,bjd (l:=q),bjc h];rfl
def b3z (ns:List Bs) (hl:∀ b ∈ ns,b.size <= maxLen):a6 bo6 51 [pA 0,pP (bsl ns)] (a7 [pS ⟨#[]⟩,pI (mh ns)]):=by
 refine hpx (nt:=36) Tryz.func51 ?_;refine w_9 ?_;refine qcx (wgx Tryz.func111) (bho ns hl) ?_;refine w_7 ?_;refine hcn (fun h0=>?_) (fun h0=>?_)
 · refine v_6 ?_;exact CoL.refl _
 refine w_9 ?_;refine qcx a1z (bf6) ?_;refine w_4 ?_;refine ae (ι:=Unit) (ka 1 (ka 16 (ka 17 kn))) km (fun x=>⟨[(7,some (.v (.one (.p (.sl 0 0 true fun _ _=>.any))))),(18,some (vI 0))],[]⟩) (fun x=>True) (fun x=>0) (()) (trivial) kk ?_;rintro _ _;refine w_5 ?_;refine hcd (fun h1=>?_) (fun h1=>?_)
 · exfalso;exact absurd h1 bnp
 refine w_4 ?_;refine rc rfl rfl rfl rfl rfl rfl (wgx Tryz.func56) (b1k [] ⟨#[32]⟩ rfl bns bns) (⟨CoC.one coN,CoC.refl _,trivial⟩) rfl rfl ?_;refine v_3 ?_;exact ⟨CoC.refl _,cci bnl,trivial⟩
def ac1:goodFn bo6 54:=wgx Tryz.func54
def ahb (s:AS) (ns:List Bs) (hm:∀ i ∈ aj s,i < ns.length) (hsz:∀ b ∈ ns,b.size <= 1000):a6 bo6 54 [pA s,pP (bx (bsl ns))] (a7 [pS (txT ns s)]):=by
 refine hpx (nt:=27) Tryz.func54 ?_;refine c7 ?_;have h32:=n8 s;refine w_2 ?_;refine qcx a1z (aes s) ?_;refine w_4 ?_;refine cb 4 900 true 1 9 (lf bsC []) bns rfl (CoP.sl rfl (.inr rfl) (fun h=>h) (fun i j hi _=>absurd hi (bjh i))) (.inr rfl) rfl ?_;refine bg (ka 1 (ka 8 (ka 9 kn))) km (fun i=>⟨[(4,some (.v (.one (.ref 900 (((aj s).take i).map fun k=>ns.getD k default).length)))),(10,some (vI i))],[(900,some (.arr true 1 9 (((aj s).take i).map fun k=>ns.getD k default).length (lf bsC (((aj s).take i).map fun k=>ns.getD k default))))]⟩) ((aj s).length) kk ?_;rintro i hi;have hlen:(((aj s).take i).map fun k=>ns.getD k default).length <= 32:=by rw [bk0,bjn];omega
 refine w_5 ?_;refine hcd (fun h0=>?_) (fun h0=>?_)
 ·
  have hil:i < (aj s).length:=by omega
  have hk:(aj s).getD i default < ns.length:=hm _ (dn hil);refine j9 ?_;refine rq rfl rfl rfl rfl rfl ?_ (hp:=⟨rfl,blq _,Int.ofNat_lt.2 hk⟩);refine qy ?_;refine m9 0 ?_;refine r9 1 true ?_;refine w_6 ?_;exact lpx (i + 1) ⟨⟨⟨_,rfl,(bv (al0 hil))⟩,tt⟩,⟨⟨_,rfl,(bt (al0 hil) (CoP.refl _))⟩,trivial⟩⟩
 obtain rfl:i = (aj s).length:=by omega
 rw [bjk] at hlen ⊢;refine w_8 ?_;refine hcd (fun h1=>?_) (fun h1=>?_)
 · refine v_4 ?_;exact ⟨CoC.one (CoP.of_eq (by rw [show txT ns s = ⟨#[45]⟩ from if_pos (by unfold ut;omega)];rfl)),trivial⟩
 refine w_4 ?_;refine qcx (wgx Tryz.func56) (b1k (ut ns s) ⟨#[44]⟩ rfl (by unfold ut;rw [bk0];omega) (by have:=ajn (s:=s) hsz;omega)) ?_;refine v_2 ?_;exact ⟨CoC.one (CoP.of_eq (by rw [show txT ns s = a3h (ut ns s) ⟨#[44]⟩ from if_neg (by unfold ut;omega)])),trivial⟩
def bgd (s p:AS) (l:List Fd):a6 bo6 119 [pA s,pP (bx (asC p)),pP (bx (fdl l))] (a7 [pB (pkV l p s)]):=by
 refine hpx (nt:=11) Tryz.func119 ?_;refine w_9 ?_;refine qcx t8 (x7 l s) ?_;refine v_5 ?_;exact ⟨ccb (by unfold pkV;exact congrArg (!·) (decide_eq_decide.2 (by rw [gk,show (0:Int) = asI 0 from rfl,c8]))),trivial⟩
def bfi (a b:AS):a6 bo6 170 [pA a,pA b] (a7 [pB (a95 a b)]):=by
 refine hpx (nt:=9) Tryz.func170 ?_;refine fj ?_;exact hx8 rfl rfl rfl (⟨ccb (decide_eq_decide.2 j6),trivial⟩)
def awv (l:List AS) (hl:l.length <= 8589934592):a6 bo6 121 [pP (asl l)] (a7 [pP (asl (a18 l))]):=by
 refine hpx (nt:=5) Tryz.func121 ?_;refine w_7 ?_;refine qcx (wgx Tryz.func137) (b2d l hl 170 0 _ a95 (wgx Tryz.func170) (fun a b=>bfi a b)) ?_;refine v_2 ?_;exact CoL.refl _
def cPk (l:List Fd) (p:AS):a6 bo6 58 [pP (fdl l),pA p] (a7 [pP (asl (pkL l p))]):=by
 refine hpx (nt:=12) Tryz.func58 ?_;refine sx7 ?_;refine m9 0 ?_;refine m9 1 ?_;refine w_3 ?_;refine cw 3 rfl rfl rfl ?_;refine cw 2 rfl rfl rfl ?_;refine w_2 ?_;refine fc9 a89 (atm p) trivial ?_;refine qy ?_;refine fc9 adb ((as1 (aw p) 119 2 (fun i=>[bx (asC p),bx (fdl l)].getD i .any) (pkV l p) (wgx Tryz.func119) (fun x=>bgd x p l)).swap 900 901) uu ?_;refine w_5 ?_;refine qcx (wgx Tryz.func121) (awv ((aw p).filter fun s=>!pkV l p s) (bjr (bl8 _ _) (bjr (ta p) bns))) ?_;refine v_2 ?_;exact CoL.refl _
end
section
section
variable {ns:List Bs} {i k:Nat} {s:AS} {c:Int}
def nmP (ns:List Bs) (s:AS) (i:Nat):Bs:=a3h ((eq s i).map fun k=>ns.getD k default) ⟨#[44]⟩
def bik (c b:Int) (w:Bs):Bs:=if al .and .i64 c b = 0 then ⟨#[]⟩ else ⟨#[32]⟩ ++ w
end
end
section
section
variable {ns:List Bs} {l m:List Fd} {ps:List AS} {c:Int}
def bir (t:Bs) (ns:List Bs):Bool:=decide ((t.size:Int) + (szB ns:Int) <= 400) && decide ((ns.length:Int) <= 40)
end
end
section
def aqv {n:Int} (h0:n <= 16):(a8 n).toNat < 65536:=by
 have h:=b0h h0;have h1:=congrArg BitVec.toNat h;rw [bn2,bmw] at h1;have h2:(a8 n).toNat / 2 ^ n.toNat = 0:=by simpa using h1
 have h3:(a8 n).toNat < 2 ^ n.toNat:=by
  rcases bmp (a8 n).toNat (2 ^ n.toNat) with h | h
  · exact h
  have:=Nat.div_pos h (Nat.pow_pos bnl);omega
 have h4:2 ^ n.toNat <= 2 ^ 16:=blz bnl bnl;omega
def aqy {n:Int} {x:AS} (h0:n <= 16):(a8 n &&& ~~~x).toNat < 65536:=bmr (abf tk) (aqv h0)
def j0 {k:Nat} (h:k < 4294967296):asI (BitVec.ofNat 32 k) = (k:Int):=by
 unfold asI;rw [bn8,bma h]
def bfb {k:Nat} (h1:1 <= k) (h:k < 4294967296):¬ BitVec.ofNat 32 k = 0:=fun e=>by
 have:=congrArg asI e;rw [j0 h] at this;have h2:(k:Int) = 0:=this;omega
def bcm {rest L x y:AS} {T:List AS} (h:¬ y &&& ~~~rest = 0):yq rest L x T y = false:=by unfold yq;rw [decide_eq_false h];simp
def bhp {rest L x y:AS} {T:List AS} (h:¬ L &&& ~~~(x ||| y) ∈ T):yq rest L x T y = false:=by unfold yq;rw [decide_eq_false h];simp
def bgi {rest L x y:AS} {T:List AS} (h0:¬ y = 0) (h:y &&& ~~~rest = 0) (h2:L &&& ~~~(x ||| y) ∈ T):yq rest L x T y = true:=by
 unfold yq;rw [decide_eq_false h0,decide_eq_true h,decide_eq_true h2];rfl
section
variable {V:AS -> Option Fd}
end
end
section
open Go.Proofs
def avz (l:List AS) (hl:l.length <= 8589934592):a6 bo6 127 [pP (asl l)] (a7 [pP (asl (a18 l))]):=by
 refine hpx (nt:=49) Tryz.func127 ?_;refine ct ?_;refine qcx (wgx Tryz.func144) (apj l hl) ?_;refine w_8 ?_;have hol:=lj l;refine cb 3 900 true 1 46 (lf sC []) bns rfl (CoP.sl rfl (.inr rfl) (fun h=>h) (fun i j hi _=>absurd hi (bjh i))) (.inr rfl) rfl ?_;refine bg (ka 4 kn) km (fun i=>⟨[(3,some (.v (.one (.ref 900 (qa l i).length)))),(5,some (vI i))],[(900,some (.arr true 1 46 (qa l i).length (lf sC (qa l i))))]⟩) ((ord l).length) kk ?_;rintro i hi;have hlen:=aum l i;refine w_8 ?_;refine hcd (fun h0=>?_) (fun h0=>?_)
 ·
  refine j9 ?_;refine bg (ka 3 (ka 4 (ka 5 kn))) (kb 900 km) (fun k=>⟨[(6,some (vB (okM (ord l) i k))),(7,some (vI k))],[]⟩) ((ord l).length) ⟨⟨⟨_,rfl,(cob rfl)⟩,tt⟩,trivial⟩ ?_;rintro k hk;refine w_8 ?_;refine hcd (fun h1=>?_) (fun h1=>?_)
  ·
   refine w_6 ?_;refine ah rfl rfl (fun r2=>?_) (fun r2=>?_)
   ·
    have h2:=r2;(iterate 4 refine qy ?_ (hg:=(gtt r2)));refine ah rfl rfl (fun r3=>?_) (fun r3=>?_)
    ·
     have h3:=tz1 r3;(iterate 10 refine k9 (gtf r3) ?_);refine rq rfl rfl rfl rfl (gtt r2) ?_ (hp:=r3);refine w_9 ?_
     exact lpx (k + 1) ⟨⟨⟨_,rfl,(cob (by rw [okM_succ'];simp_all only [vd];simp))⟩,tt⟩,uu⟩
    have h3:=tz2 r3;(iterate 8 refine qy ?_ (hg:=(gff r3)));refine qcx np (w6 _ _) ?_ (hg:=(gff r3));refine qy ?_ (hg:=(gff r3));refine qy ?_ (hg:=(gtt r2));refine w_9 ?_
    exact lpx (k + 1) ⟨⟨⟨_,rfl,(cob (by rw [okM_succ'];simp_all only [vd];simp))⟩,tt⟩,uu⟩
   have h2:=r2;(iterate 4 refine k9 (gft r2) ?_);(iterate 10 refine k9 rfl ?_);refine k9 (gft r2) ?_;refine rq rfl rfl rfl rfl rfl ?_ (hp:=r2);refine w_8 ?_
   exact lpx (k + 1) ⟨⟨⟨_,rfl,(cob (by rw [okM_succ'];simp_all only [vd];simp))⟩,tt⟩,uu⟩
  obtain rfl:k = (ord l).length:=by omega
  refine w_5 ?_;refine hcb (fun h4=>?_) (fun h4=>?_)
  ·
   refine w_6 ?_;refine m9 0 ?_;refine r9 1 true ?_;refine w_7 ?_
   first | (refine ⟨i + 1, ?_, ?_, ?_⟩
            · show i + 1 <= _;omega
            · first | omega | (dsimp only;omega)
            exact ⟨⟨⟨_,rfl,(bv (a7t bnl bnm))⟩,tt⟩,⟨⟨_,rfl,(bt (a7t bnl bnm) (CoP.refl _))⟩,trivial⟩⟩)
         | (refine ⟨i + 1, ?_, ?_, ?_⟩
            · show i + 1 <= _;omega
            · first | omega | (dsimp only;omega)
            exact ⟨⟨⟨_,rfl,(bz (a78 bnl bnm))⟩,tt⟩,⟨⟨_,rfl,(bq (a78 bnl bnm))⟩,trivial⟩⟩)
  refine w_6 ?_
  first | (refine ⟨i + 1, ?_, ?_, ?_⟩
           · show i + 1 <= _;omega
           · first | omega | (dsimp only;omega)
           exact ⟨⟨⟨_,rfl,(bv (a7t bnl bnm))⟩,tt⟩,⟨⟨_,rfl,(bt (a7t bnl bnm) (CoP.refl _))⟩,trivial⟩⟩)
        | (refine ⟨i + 1, ?_, ?_, ?_⟩
           · show i + 1 <= _;omega
           · first | omega | (dsimp only;omega)
           exact ⟨⟨⟨_,rfl,(bz (a78 bnl bnm))⟩,tt⟩,⟨⟨_,rfl,(bq (a78 bnl bnm))⟩,trivial⟩⟩)
 obtain rfl:i = (ord l).length:=by omega
 refine w_6 ?_;refine aq 2 rfl rfl rfl ?_;exact hx8 rfl rfl rfl (⟨CoC.one (CoP.of_eq (by rw [<- awp];rfl)),trivial⟩)
def bo5 {p:Prop} (h:p:=by rw [j0 bnl,j0 bnl];rfl):p:=h
def axa (n:Int) (l m:List Fd) (x:AS) (hn:n <= 16):a6 bo6 208 [pI n,pP (fdl l),pP (fdl m),pA x] (a7 [pP (asl (dc n l m x))]):=by
 refine hpx (nt:=48) Tryz.func208 ?_;have hsm:=aqy (n:=n) (x:=x) hn;refine c7 ?_;refine qcx (wgx Tryz.func206) (au1 n l m x) ?_;refine m9 0 ?_;refine w_5 ?_;refine qcx ov (oj n) ?_;refine nx ?_;refine cb 11 900 true 1 46 (lf sC []) bns rfl (CoP.sl rfl (.inr rfl) (fun h=>h) (fun i j hi _=>absurd hi (bjh i))) (.inr rfl) rfl ?_;refine ae (ι:=Nat) (ka 3 (ka 9 (ka 10 kn))) (kb 0 km) (fun k=>⟨[(11,some (.v (.one (.ref 900 (yL (a8 n &&& ~~~x) (orL (chT l m (a8 n &&& ~~~x))) x (chT l m (a8 n &&& ~~~x)) k).length)))),(12,some (vA (BitVec.ofNat 32 k)))],[(900,some (.arr true 1 46 (yL (a8 n &&& ~~~x) (orL (chT l m (a8 n &&& ~~~x))) x (chT l m (a8 n &&& ~~~x)) k).length (lf sC (yL (a8 n &&& ~~~x) (orL (chT l m (a8 n &&& ~~~x))) x (chT l m (a8 n &&& ~~~x)) k))))]⟩) (fun k=>1 <= k /\ k <= (a8 n &&& ~~~x).toNat + 1) (fun k=>(a8 n &&& ~~~x).toNat + 1 - k) (1) (⟨bjg _,by omega⟩) ⟨⟨⟨_,rfl,(bz avc)⟩,⟨_,rfl,(CoR.refl _)⟩,trivial⟩,⟨⟨_,rfl,(bq avc)⟩,trivial⟩⟩ ?_;rintro k ⟨hk1,hk2⟩;have hyl:(yL (a8 n &&& ~~~x) (orL (chT l m (a8 n &&& ~~~x))) x (chT l m (a8 n &&& ~~~x)) k).length <= k:=ave;refine w_7 ?_;refine hcd (fun h0=>?_) (fun h0=>?_)
 ·
  have hkr:k <= (a8 n &&& ~~~x).toNat:=by
   have q:asI (BitVec.ofNat 32 k) <= asI (a8 n &&& ~~~x):=by rw [<- gk];exact h0
   rw [j0 bnl] at q;exact Int.ofNat_le.1 q
  have hnz:¬ (BitVec.ofNat 32 k) = 0:=bfb hk1 bnl;refine c7 ?_;refine ah rfl rfl (fun r1=>?_) (fun r1=>?_)
  ·
   have h1:=tz1 r1;have g1:(BitVec.ofNat 32 k) &&& ~~~(a8 n &&& ~~~x) = 0:=are (by rw [<- gk (a8 n) x];exact h1);(iterate 3 refine qy ?_ (hg:=(gtt r1)));refine qcx (wgx Tryz.func207) (b1p (chT l m (a8 n &&& ~~~x))) ?_ (hg:=(gtt r1));(iterate 4 refine qy ?_ (hg:=(gtt r1)))
   refine rc rfl rfl rfl rfl rfl rfl adk (cIn (chT l m (a8 n &&& ~~~x)) ((orL (chT l m (a8 n &&& ~~~x))) &&& ~~~(x ||| (BitVec.ofNat 32 k)))) (⟨CoC.refl _,cci (by rw [bOr,gk]),trivial⟩) rfl (gtt r1) ?_;refine w_3 ?_;refine ak _ rfl (fun r2=>?_) (fun r2=>?_)
   ·
    have h2:=bn r1 r2;have hin:(orL (chT l m (a8 n &&& ~~~x))) &&& ~~~(x ||| (BitVec.ofNat 32 k)) ∈ (chT l m (a8 n &&& ~~~x)):=a15 h2;have hy:yq (a8 n &&& ~~~x) (orL (chT l m (a8 n &&& ~~~x))) x (chT l m (a8 n &&& ~~~x)) (BitVec.ofNat 32 k) = true:=bgi hnz g1 hin;refine w_3 ?_;refine m9 1 ?_;refine r9 2 true ?_;refine w_4 ?_;refine rq rfl rfl rfl rfl rfl ?_ (hp:=by have q:=j0 (k:=k) bnl;rw [q];simp only [inR,m8,n9];omega);refine w_2 ?_
    first | (refine ⟨k + 1, ?_, ?_, ?_⟩
             · exact ⟨by omega,by omega⟩
             · first | omega | (dsimp only;omega)
             exact ⟨⟨⟨_,rfl,(bv (af0 hy))⟩,⟨_,rfl,(br bo5)⟩,tt⟩,⟨⟨_,rfl,(bt (af0 hy) (CoP.refl _))⟩,uu⟩⟩)
          | (refine ⟨k + 1, ?_, ?_, ?_⟩
             · exact ⟨by omega,by omega⟩
             · first | omega | (dsimp only;omega)
             exact ⟨⟨⟨_,rfl,(bz (aev hy))⟩,⟨_,rfl,(br bo5)⟩,tt⟩,⟨⟨_,rfl,(bq (aev hy))⟩,uu⟩⟩)
   have h2:=bn r1 r2;have hy:yq (a8 n &&& ~~~x) (orL (chT l m (a8 n &&& ~~~x))) x (chT l m (a8 n &&& ~~~x)) (BitVec.ofNat 32 k) = false:=by first | exact bcm g1 | exact bhp (a3t h2)
   refine w_3 ?_;refine rq rfl rfl rfl rfl rfl ?_ (hp:=by have q:=j0 (k:=k) bnl;rw [q];simp only [inR,m8,n9];omega);refine w_2 ?_
   first | (refine ⟨k + 1, ?_, ?_, ?_⟩
            · exact ⟨by omega,by omega⟩
            · first | omega | (dsimp only;omega)
            exact ⟨⟨⟨_,rfl,(bv (af0 hy))⟩,⟨_,rfl,(br bo5)⟩,tt⟩,⟨⟨_,rfl,(bt (af0 hy) (CoP.refl _))⟩,uu⟩⟩)
         | (refine ⟨k + 1, ?_, ?_, ?_⟩
            · exact ⟨by omega,by omega⟩
            · first | omega | (dsimp only;omega)
            exact ⟨⟨⟨_,rfl,(bz (aev hy))⟩,⟨_,rfl,(br bo5)⟩,tt⟩,⟨⟨_,rfl,(bq (aev hy))⟩,uu⟩⟩)
  have h1:=tz2 r1;have g1:¬ (BitVec.ofNat 32 k) &&& ~~~(a8 n &&& ~~~x) = 0:=ai0 (by rw [<- gk (a8 n) x];exact h1);have hy:yq (a8 n &&& ~~~x) (orL (chT l m (a8 n &&& ~~~x))) x (chT l m (a8 n &&& ~~~x)) (BitVec.ofNat 32 k) = false:=bcm g1;(iterate 9 refine k9 (gft r1) ?_);refine rq rfl rfl rfl rfl rfl ?_ (hp:=r1);refine w_6 ?_;refine rq rfl rfl rfl rfl rfl ?_ (hp:=by have q:=j0 (k:=k) bnl;rw [q];simp only [inR,m8,n9];omega)
  refine w_2 ?_
  first | (refine ⟨k + 1, ?_, ?_, ?_⟩
           · exact ⟨by omega,by omega⟩
           · first | omega | (dsimp only;omega)
           exact ⟨⟨⟨_,rfl,(bv (af0 hy))⟩,⟨_,rfl,(br bo5)⟩,tt⟩,⟨⟨_,rfl,(bt (af0 hy) (CoP.refl _))⟩,uu⟩⟩)
        | (refine ⟨k + 1, ?_, ?_, ?_⟩
           · exact ⟨by omega,by omega⟩
           · first | omega | (dsimp only;omega)
           exact ⟨⟨⟨_,rfl,(bz (aev hy))⟩,⟨_,rfl,(br bo5)⟩,tt⟩,⟨⟨_,rfl,(bq (aev hy))⟩,uu⟩⟩)
 obtain rfl:k = (a8 n &&& ~~~x).toNat + 1:=by
  have q:¬ asI (BitVec.ofNat 32 k) <= asI (a8 n &&& ~~~x):=by rw [<- gk];exact h0
  rw [j0 bnl] at q;have q2:¬ k <= (a8 n &&& ~~~x).toNat:=fun e=>q (Int.ofNat_le.2 e);omega
 refine w_2 ?_;refine aq 11 rfl rfl rfl ?_;refine w_2 ?_;refine qcx (wgx Tryz.func127) (avz (yL (a8 n &&& ~~~x) (orL (chT l m (a8 n &&& ~~~x))) x (chT l m (a8 n &&& ~~~x)) ((a8 n &&& ~~~x).toNat + 1)) (bjr ave bnl)) ?_;refine v_2 ?_;exact ⟨CoC.one (CoP.of_eq (by rw [ar1])),trivial⟩
end
section
open Go.Proofs
def arq {n:Int} {l m:List Fd} {x:AS} (hx:sub x (a8 n)):a6 bo6 159 [pI n,pP (fdl l),pP (fdl m),pA x] (a7 [pA (od n l m x)]):=by
 have h:=avb n l m x;rw [aze hx] at h;exact h
def b63 (n:Int) (l m:List Fd) (x p:AS) (hn:n <= 16):a6 bo6 160 [pI n,pP (fdl l),pP (fdl m),pA x,pA p] (a7 [pP (asl (o5 n l m x p))]):=by
 refine hpx (nt:=43) Tryz.func160 ?_;refine c7 ?_;refine qcx (wgx Tryz.func208) (axa n l m x hn) ?_;refine fj ?_;refine cb 12 900 true 1 46 (lf sC []) bns rfl (CoP.sl rfl (.inr rfl) (fun h=>h) (fun i j hi _=>absurd hi (bjh i))) (.inr rfl) rfl ?_;have hbl:=a3r n l m x;refine bg (ka 4 (ka 11 kn)) km (fun i=>⟨[(12,some (.v (.one (.ref 900 (mq p ((dc n l m x).take i)).length)))),(13,some (vI i))],[(900,some (.arr true 1 46 (mq p ((dc n l m x).take i)).length (lf sC (mq p ((dc n l m x).take i)))))]⟩) ((dc n l m x).length) ⟨⟨⟨_,rfl,(CoR.refl _)⟩,⟨_,rfl,(CoR.refl _)⟩,trivial⟩,uu⟩ ?_;rintro i hi;have hcl:(mq p ((dc n l m x).take i)).length <= i:=bjr (aai _ _) (by rw [bjn];omega);refine w_8 ?_;refine hcd (fun h0=>?_) (fun h0=>?_)
 ·
  refine j9 ?_;refine hcn (fun h1=>?_) (fun h1=>?_)
  ·
   have hq:¬ (dc n l m x).getD i default &&& p = 0:=oz h1;refine w_8 ?_;refine m9 0 ?_;refine r9 1 true ?_;refine w_7 ?_
   first | (refine ⟨i + 1, ?_, ?_, ?_⟩
            · show i + 1 <= _;omega
            · first | omega | (dsimp only;omega)
            exact ⟨⟨⟨_,rfl,(bv (wo bnl hq))⟩,⟨_,rfl,(CoR.refl _)⟩,tt⟩,⟨⟨_,rfl,(bt (wo bnl hq) (CoP.of_eq (congrArg (fun z=>PV.raw (.int .u32 z)) (fc _ _))))⟩,trivial⟩⟩)
         | (refine ⟨i + 1, ?_, ?_, ?_⟩
            · show i + 1 <= _;omega
            · first | omega | (dsimp only;omega)
            exact ⟨⟨⟨_,rfl,(bz (wh bnl hq))⟩,⟨_,rfl,(CoR.refl _)⟩,tt⟩,⟨⟨_,rfl,(bq (wh bnl hq))⟩,trivial⟩⟩)
  have hq:(dc n l m x).getD i default &&& p = 0:=ug h1;refine w_6 ?_
  first | (refine ⟨i + 1, ?_, ?_, ?_⟩
           · show i + 1 <= _;omega
           · first | omega | (dsimp only;omega)
           exact ⟨⟨⟨_,rfl,(bv (wo bnl hq))⟩,⟨_,rfl,(CoR.refl _)⟩,tt⟩,⟨⟨_,rfl,(bt (wo bnl hq) (CoP.of_eq (congrArg (fun z=>PV.raw (.int .u32 z)) (fc _ _))))⟩,trivial⟩⟩)
        | (refine ⟨i + 1, ?_, ?_, ?_⟩
           · show i + 1 <= _;omega
           · first | omega | (dsimp only;omega)
           exact ⟨⟨⟨_,rfl,(bz (wh bnl hq))⟩,⟨_,rfl,(CoR.refl _)⟩,tt⟩,⟨⟨_,rfl,(bq (wh bnl hq))⟩,trivial⟩⟩)
 obtain rfl:i = (dc n l m x).length:=by omega
 rw [show (dc n l m x).take (dc n l m x).length = (dc n l m x) from bjk];refine w_2 ?_;refine aq 12 rfl rfl rfl ?_;refine w_2 ?_;refine qcx (wgx Tryz.func144) (apj (mq p (dc n l m x)) (a7l n l m x p)) ?_;refine v_2 ?_;exact ⟨CoC.refl _,trivial⟩
def b58 (n:Int) (l m:List Fd) (p:AS) (hn:n <= 16) (hp:sub p (a8 n)):a6 bo6 109 [pI n,pP (fdl l),pP (fdl m),pA p] (a7 [(vF (lw n l m) p).pc,pB (vBo (lw n l m) p)]):=by
 refine hpx (nt:=52) Tryz.func109 ?_;have hsl:=ta p;refine sx7 ?_;refine m9 0 ?_;refine w_5 ?_;refine qcx (wgx Tryz.func124) (avr p) ?_;refine w_8 ?_;refine ae (ι:=Nat) (ka 0 (ka 1 (ka 2 (ka 3 (ka 8 (ka 10 kn)))))) (kb 0 km) (fun i=>⟨[(11,some (vI i))],[]⟩) (fun i=>i <= (aw p).length /\ ((aw p).take i).findSome? (a4s n l m p) = none) (fun i=>(aw p).length - i) (0) (⟨bji _,rfl⟩) ⟨⟨⟨_,rfl,(CoR.refl _)⟩,trivial⟩,trivial⟩ ?_;rintro i ⟨hi,hI⟩;refine w_8 ?_;refine hcd (fun h0=>?_) (fun h0=>?_)
 ·
  have hil:i < (aw p).length:=by omega
  have hxs:sub ((aw p).getD i default) p:=afp (a0f hil);refine nx ?_;refine qcx (wgx Tryz.func159) (arq (gr hxs hp)) ?_;refine qcx np (w6 p (od n l m ((aw p).getD i default))) ?_;refine c5 ?_;refine ak _ rfl (fun r1=>?_) (fun r1=>?_)
  · have h1:=r1;have hq:p &&& ~~~(od n l m ((aw p).getD i default)) = 0:=a15 r1;refine w_6 ?_;refine lpz (i + 1) ⟨⟨⟨_,rfl,(CoR.refl _)⟩,tt⟩,uu⟩ ?_;exact ⟨by omega,(ja hil hI).trans (by first | exact abz hq | exact ad1 hq hc)⟩
  have h1:=r1;have hq:¬ p &&& ~~~(od n l m ((aw p).getD i default)) = 0:=a3t r1;refine ct ?_;refine qcx (wgx Tryz.func160) (b63 n l m ((aw p).getD i default) p hn) ?_;refine w_8 ?_;refine hcd (fun h2=>?_) (fun h2=>?_)
  ·
   have hc:1 < (o5 n l m ((aw p).getD i default) p).length:=by omega
   have hcl:(o5 n l m ((aw p).getD i default) p).length <= 8589934592:=bjr (lj _) (a7l n l m ((aw p).getD i default) p);refine nx ?_;refine hrr ?_
   have he:ae6 (lw n l m p) = (⟨((aw p).getD i default),(o5 n l m ((aw p).getD i default) p).getD 0 default⟩,true):=by
    rw [show lw n l m p = some _ from tg hil hI (av7 hq hc)];rfl
   unfold vF vBo;exact f9 rfl rfl (by rw [he];exact ⟨CoC.agg ⟨CoP.refl _,CoP.refl _,trivial⟩,CoC.refl _,trivial⟩)
  have hc:¬ 1 < (o5 n l m ((aw p).getD i default) p).length:=by omega
  refine w_6 ?_;refine lpz (i + 1) ⟨⟨⟨_,rfl,(CoR.refl _)⟩,tt⟩,uu⟩ ?_;exact ⟨by omega,(ja hil hI).trans (by first | exact abz hq | exact ad1 hq hc)⟩
 obtain rfl:i = (aw p).length:=by omega
 rw [show (aw p).take (aw p).length = (aw p) from bjk] at hI;refine w_7 ?_;refine hrr ?_
 have he:ae6 (lw n l m p) = (⟨0,0⟩,false):=by
  rw [show lw n l m p = none from hI];rfl
 unfold vF vBo;exact f9 rfl rfl (by rw [he];exact ⟨CoC.agg ⟨CoP.of_eq rfl,CoP.of_eq rfl,trivial⟩,CoC.refl _,trivial⟩)
end
section
open Go.Proofs
def ou (n:Int) (ps:List AS):List AS:=if ps.length = 0 then [a8 n] else ps.set (ps.length - 1) (ps.getD (ps.length - 1) default ||| (a8 n &&& ~~~(orL ps)))
section
variable {ps:List AS}
def b8j {n:Int} (h:ps.length = 0):ou n ps = [a8 n]:=if_pos h
def b31 {n:Int} (h:¬ ps.length = 0):ou n ps = ps.set (ps.length - 1) (ps.getD (ps.length - 1) default ||| (a8 n &&& ~~~(orL ps))):=if_neg h
def b8h {e:TypeId} {l:List AS} {f:Nat -> Nat -> PV} {m:Nat} (hm:m = l.length):CoO (.arr true 1 e (0 + m) (fe 0 f (lf sC l))) (.arr true 1 e l.length (lf sC l)):=by
 subst hm;exact ⟨fun h=>h,rfl,rfl,(bk6 _).symm,fun i j _ _=>CoP.of_eq (by simp [fe])⟩
def bgz {n:Int} {j k:Nat} (h:k = j):al .or .u32 (asI (ps.getD k default)) (al .andNot .u32 (asI (a8 n)) (asI (orL ps))) = asI (ps.getD j default ||| (a8 n &&& ~~~(orL ps))):=by
 subst h;rw [gk,bOr]
def b7e {x:AS} {cl:Bool} {f:Nat -> Nat -> PV} (h:CoP (f 0 0) (asC x)):CoP (.sl 1 1 cl f) (asl [x]):=CoP.sl rfl (.inl rfl) (fun h=>by cases h) fun i j hi hj=>by
 obtain rfl:i = 0:=by omega
 obtain rfl:j = 0:=by omega
 exact h
def baa (n:Int) (ps:List AS) (hps:ps.length <= 8589934592):a6 bo6 20 [pI n,pP (asl ps)] (a7 [pP (asl (ou n ps))]):=by
 refine hpx (nt:=42) Tryz.func20 ?_;refine c6 1 rfl fun hb=>?_;refine nx ?_;refine bg (ka 0 (ka 1 kn)) km (fun i=>⟨[(5,some (vA (orL (ps.take i)))),(6,some (vI i))],[]⟩) ps.length ⟨⟨⟨_,rfl,(CoR.refl _)⟩,⟨_,rfl,(CoR.refl _)⟩,trivial⟩,trivial⟩ ?_;rintro i hi;refine w_8 ?_;refine hcd (fun h0=>?_) (fun h0=>?_)
 · refine zc ?_;exact lpx (i + 1) ⟨⟨⟨_,rfl,(br ((bOr _ _).trans (congrArg asI (yl bnl).symm)))⟩,⟨_,rfl,(CoR.refl _)⟩,tt⟩,trivial⟩
 obtain rfl:i = ps.length:=by omega
 rw [show ps.take ps.length = ps from bjk];refine w_3 ?_;refine m9 900 ?_;refine qy ?_;refine r9 901 true ?_;refine w_2 ?_;refine zq ⟨[(0,some _),(5,some _),(7,some (.v (.one (.ref 900 ps.length))))],[(900,some (.arr true 1 46 ps.length (lf sC ps)))]⟩ (by exact ⟨⟨c9,c9,⟨_,rfl,CoR.of_eq (congrArg (fun z=>HR.v (.one (.ref 900 z))) (bk6 _))⟩,trivial⟩,⟨⟨_,rfl,b8h rfl⟩,trivial⟩⟩) ?_;refine w_7 ?_;refine hcd (fun h1=>?_) (fun h1=>?_)
 ·
  have h0:ps.length = 0:=by omega
  refine w_3 ?_;refine qcx ov (oj n) ?_;refine m9 902 ?_;refine w_2 ?_;refine aq 4 rfl rfl rfl ?_;exact hx8 rfl rfl rfl (⟨CoC.one (by rw [b8j h0];exact b7e (CoP.refl _)),trivial⟩)
 have h0:¬ ps.length = 0:=by omega
 refine c7 ?_;refine qcx ov (oj n) ?_;refine w_7 ?_;refine zq ⟨[(7,some _)],[(900,some (.arr true 1 46 ps.length (lf sC (ps.set (ps.length - 1) (ps.getD (ps.length - 1) default ||| (a8 n &&& ~~~(orL ps)))))))]⟩ (by exact ⟨tt,⟨⟨_,rfl,(afh (fun h=>h) rfl bnl bnl (congrArg (fun z=>PV.raw (.int .u32 z)) (bgz bnl)))⟩,trivial⟩⟩) ?_;refine w_5 ?_;refine aq 4 rfl rfl rfl ?_;exact hx8 rfl rfl rfl (⟨CoC.one (CoP.of_eq (by rw [b31 h0];exact (congrArg (fun z=>PV.sl z 1 false (lf sC (ps.set (ps.length - 1) (ps.getD (ps.length - 1) default ||| (a8 n &&& ~~~(orL ps)))))) List.length_set.symm))),trivial⟩)
end
end
section
def okR (d:Rcp):Bool:=decide (d.f.length <= 4 /\ d.m.length <= 4 /\ d.p.length <= 3) && decide ((d.m.length:Int) <= 2)
def bf2 {d:Rcp} (h:okR d = true):d.f.length <= 4 /\ d.m.length <= 2 /\ d.p.length <= 3:=by
 unfold okR at h;rw [bjm,decide_eq_true_eq,decide_eq_true_eq] at h;omega
def nsL (d:Rcp) (ns:List Bs):List Bs:=if d.num 4 < (ns.length:Int) /\ (ns.length:Int) % 2 = 0 then ns.take (d.num 4).toNat else ns
def bg2 (d:Rcp):1 <= d.num 4 /\ d.num 4 <= 4:=by
 have:d.n.toNat % 4 < 4:=Nat.mod_lt _ bnl;unfold Rcp.num;omega
end
section
open Go.Proofs
def b8e (n:Int) (ps:List AS) (p m:List Fd):a6 bo6 81 [pI n,pP (asl ps),pP (fdl p),pP (fdl m)] (a7 [pP (stl (prS n ps p m)),pI (prC n ps p m)]):=by
 refine hpx (nt:=55) Tryz.func81 ?_;refine ct ?_;refine qcx (wgx Tryz.func100) (ao0 n ps p m) ?_;refine w_5 ?_;refine m9 0 ?_;refine m9 1 ?_;refine ct ?_;refine hcn (fun h0=>?_) (fun h0=>?_)
 ·
  have hne:¬ lsC n ps p m = 0:=by rw [<- oh];exact h0
  have hr:=bd9 hne;refine v_6 ?_;exact by rw [hr.1,hr.2,<- oh];exact ⟨CoC.one coN,CoC.refl _,trivial⟩
 have hls:lsC n ps p m = 0:=by
  rw [<- oh];exact h0
 obtain ⟨hv,hb⟩:=a2k hls;have hc:(lsT n ps p m).2.2 = 0:=(ahk hv hb).symm.trans hls;have htr:=axd hv hb hc;have hR:=ar7 hv hb;obtain ⟨hn0,hn8,_,_,_⟩:=n3 hv;have hn16:n <= 16:=by omega
 have hfew:(trS n ps p m).length <= 1300000:=adt (p:=p) (m:=m) hv hb;refine w_6 ?_;refine ae (ι:=Nat) (ka 0 (ka 2 (ka 3 (ka 10 kn)))) km (fun i=>⟨[(14,some (vI i)),(11,some (.v (.one (.p (stl (trS n ps p m))))))],[(0,some (.box [.p (.raw (.int .i64 n)), .p (rl (trT n ps p m i))]))]⟩) (fun i=>i <= (trS n ps p m).length /\ ∀ j,j < i -> jt n (trT n ps p m j) = false) (fun i=>(trS n ps p m).length - i) (0) (⟨bji _,fun j hj=>absurd hj (bjh j)⟩) ⟨⟨zy,⟨_,rfl,(by rw [hR];exact CoR.refl _)⟩,trivial⟩,⟨⟨_,rfl,(by rw [hR];unfold trT;rw [apr];exact CoO.refl _)⟩,trivial⟩⟩ ?_;rintro i ⟨hi,hI⟩;refine w_7 ?_;refine qcx aef (aff n hn0 hn16) ?_;refine qcx a7g (ahf n (trT n ps p m i) (d7 n)) ?_;refine w_2 ?_;refine hcb (fun h1=>?_) (fun h1=>?_)
 · have hr:=a99 hls (i:=i) hi hI h1;refine v_8 ?_;exact by rw [hr.1,hr.2];exact ⟨CoC.one (ai3 (by rw [bjn];dsimp only [dx,b8];omega) (fun a j=>by first | rfl | (simp;rfl))),CoC.refl _,trivial⟩
 refine w_9 ?_;refine hcd (fun h2=>?_) (fun h2=>?_)
 ·
  obtain rfl:i = (trS n ps p m).length:=by omega
  have hr:=b3i hls fun j hj=>by
   by_cases e:j = (trS n ps p m).length
   · rw [e];assumption
   exact hI j bnl
  refine v_5 ?_;exact by rw [hr.1,hr.2];exact ⟨CoC.one coN,CoC.refl _,trivial⟩
 have hil:i < (trS n ps p m).length:=by omega
 obtain ⟨hx1,hx2,hx3⟩:=b1x hil (as6 htr (i:=i) hi);refine c7 ?_;refine qcx (wgx Tryz.func129) (aw5 n (trT n ps p m i) p m ((trS n ps p m).getD i default) hx1 hb hx2 hx3) ?_;refine a0w ?_;refine lpz (i + 1) ⟨tt,⟨⟨_,rfl,(by unfold trT;rw [a85 hil];exact CoO.refl _)⟩,trivial⟩⟩ ?_;refine ⟨by omega,fun j hj=>?_⟩;by_cases e:j = i
 · rw [e];assumption
 exact hI j bnl
end
section
open Go.Proofs
def bic (n:Int) (l:List Fd) (i:Nat):Bool:=((a5k n l).take i).any (l5 n l)
section
variable {n:Int} {l:List Fd}
end
section
variable {d:Dps}
end
end
section
def a09 (l:List Fd) (z:Int):Option PV:=match l.find? (fun f=>decide (asI f.lhs = z)) with | some f=>some (asC (mgR l f.lhs)) | none=>none
def a32 (l:List Fd):MK -> Option PV
 | .i .u32 z=>a09 l z
 | _=>none
def wfA (s:AS):(Lit.int .u32 (asI s)).wf = true:=by
 have h1:=acz s;have h2:=a5x s;have e1:IntKind.min .u32 = 0:=by decide
 have e2:IntKind.max .u32 = 4294967295:=by decide
 simp only [Lit.wf,e1,e2,bjm,decide_eq_true_eq];omega
section
variable {l:List Fd}
def b08 {s:AS} (h:∀ f ∈ l,¬ f.lhs = s):mgR l s = 0:=by
 unfold mgR;rw [bnf.2 fun f hf=>by simpa using h f hf];rfl
def aav {s:AS} {f:Fd} (h:l.find? (fun f=>decide (asI f.lhs = asI s)) = some f):f.lhs = s:=by
 have:=List.find?_some h;exact c8.1 (of_decide_eq_true this)
def ac0 (l:List Fd) (s:AS):a3l (a32 l) (.i .u32 (asI s)) (.int .u32 0) = asC (mgR l s):=by
 show (match a09 l (asI s) with | some y=>y | none=>kr (.int .u32 0)) = _;unfold a09
 cases h:l.find? (fun f=>decide (asI f.lhs = asI s)) with
 | some f =>
  have:=aav h;subst this;rfl
 | none =>
  rw [b08 fun f hf e=>by
   have:=bmq.1 h f hf;rw [e] at this
   exact this (decide_eq_true rfl)]
  rfl
def aww (m:MK):CoM none (a32 [] m):=by
 cases m with
 | i q z=>cases q <;> exact CoM.refl _
 | s b=>exact CoM.refl _
def aw0 {i:Nat} (hi:i < l.length) (z:Int):(if z = asI (l.getD i default).lhs then some (PV.raw (.int .u32 (al .or .u32 (asI (mgR (l.take i) (l.getD i default).lhs)) (asI (l.getD i default).rhs)))) else a09 (l.take i) z) = a09 (l.take (i + 1)) z:=by
 unfold a09;by_cases hz:z = asI (l.getD i default).lhs
 · subst hz
   rw [if_pos rfl,bgn hi rfl]
   cases h:(l.take (i + 1)).find? (fun f=>decide (asI f.lhs = asI (l.getD i default).lhs)) with
   | some f =>
    have:=aav h;rw [<- this]
   | none =>
    have:=bmq.1 h (l.getD i default) (by rw [au hi];simp);exact absurd (decide_eq_true rfl) this
 rw [if_neg hz,au hi,List.find?_append]
 have hx:[l.getD i default].find? (fun f=>decide (asI f.lhs = z)) = none:=by
  rw [List.find?_cons,decide_eq_false (fun e=>hz e.symm)];rfl
 rw [hx,Option.or_none]
 cases h:(l.take i).find? (fun f=>decide (asI f.lhs = z)) with
 | none=>rfl
 | some f =>
  have hf0:=List.find?_some h;have hf:asI f.lhs = z:=of_decide_eq_true hf0;dsimp only;rw [<- au hi,bfl hi (fun e=>hz (by rw [e];exact hf.symm))]
def av6 {i:Nat} (hi:i < l.length) (m:MK):CoM (wj (a32 (l.take i)) (.i .u32 (asI (l.getD i default).lhs)) (.raw (.int .u32 (al .or .u32 (asI (mgR (l.take i) (l.getD i default).lhs)) (asI (l.getD i default).rhs)))) m) (a32 (l.take (i + 1)) m):=by
 refine CoM.of_eq ?_;unfold wj
 cases m with
 | s b=>rfl
 | i q z =>
  by_cases hq:q = .u32
  · subst hq
    show (bif (decide True && decide (z = _)) then _ else a09 _ z) = a09 _ z;rw [<- aw0 hi z];by_cases hz:z = asI (l.getD i default).lhs
    · rw [if_pos hz,decide_eq_true hz];rfl
    rw [if_neg hz,decide_eq_false hz];rfl
  have h1:MK.same (.i q z) (.i .u32 (asI (l.getD i default).lhs)) = false:=by
   show (decide _ && decide _) = false;rw [decide_eq_false hq,Bool.false_and]
  rw [h1];cases q <;> first | rfl | exact absurd rfl hq
end
end
section
open Go.Proofs
def awb (l:List Fd) (hl:l.length <= 16777216):a6 bo6 135 [pP (fdl l)] (a7 [pP (fdl (aew l))]):=by
 refine hpx (nt:=47) Tryz.func135 ?_;refine w_6 ?_;refine m9 0 ?_;refine nx ?_;refine cb 4 900 true 1 46 (lf sC []) bns rfl (CoP.sl rfl (.inr rfl) (fun h=>h) (fun i j hi _=>absurd hi (bjh i))) (.inr rfl) rfl ?_;refine bg (ka 3 (ka 11 (ka 12 kn))) km (fun i=>⟨[(4,some (.v (.one (.ref 900 ((l.take i).map Fd.lhs).length)))),(13,some (vI i))],[(0,some (.mp (.int .u32) i (a32 (l.take i)))),(900,some (.arr true 1 46 ((l.take i).map Fd.lhs).length (lf sC ((l.take i).map Fd.lhs))))]⟩) l.length ⟨tt,⟨⟨_,rfl,⟨rfl,bjg _,aww⟩⟩,uu⟩⟩ ?_;rintro i hi;have hlen:((l.take i).map Fd.lhs).length <= i:=by rw [bk0,bjn];omega
 refine w_5 ?_;refine hcd (fun h0=>?_) (fun h0=>?_)
 · refine w_7 ?_;refine m9 1 ?_;refine w_7 ?_;refine rq (out:=⟨_, .v (.one (.p (asC (mgR (l.take i) (l.getD i default).lhs))))⟩) rfl rfl rfl (congrArg (fun z=>some (Out.mk _ (HR.v (HC.one (HV.p z))))) (ac0 _ _)) rfl ?_ (hp:=⟨rfl,rfl,wfA _⟩);refine w_3 ?_;refine rs rfl rfl rfl rfl rfl ?_ (hp:=⟨rfl,⟨rfl,wfA _⟩,by simp only [maxLen];omega⟩);refine w_5 ?_;refine m9 2 ?_;refine r9 3 true ?_;refine w_6 ?_;exact lpx (i + 1) ⟨⟨⟨_,rfl,(bv (ui bnl))⟩,tt⟩,⟨⟨_,rfl,⟨rfl,bjg _,av6 bnl⟩⟩,⟨_,rfl,(bt (ui bnl) (CoP.refl _))⟩,trivial⟩⟩
 obtain rfl:i = l.length:=by omega
 rw [show (l.take l.length).map Fd.lhs = l.map Fd.lhs by rw [bjk],show a32 (l.take l.length) = a32 l by rw [bjk]];refine w_7 ?_;refine aq 4 rfl rfl rfl ?_;have hol:=lj (l.map Fd.lhs);rw [bk0] at hol;refine w_2 ?_;refine qcx y4 (a5z (l.map Fd.lhs) (by rw [bk0];omega)) ?_;refine w_4 ?_;refine cb 7 901 true 2 48 (lf Fd.c []) bns rfl (CoP.sl rfl (.inr rfl) (fun h=>h) (fun i j hi _=>absurd hi (bjh i))) (.inr rfl) rfl ?_;refine bg (ka 3 (ka 31 (ka 32 kn))) (kb 0 km) (fun k=>⟨[(7,some (.v (.one (.ref 901 (((ord (l.map Fd.lhs)).take k).map (mgF l)).length)))),(33,some (vI k))],[(901,some (.arr true 2 48 (((ord (l.map Fd.lhs)).take k).map (mgF l)).length (lf Fd.c (((ord (l.map Fd.lhs)).take k).map (mgF l)))))]⟩) ((ord (l.map Fd.lhs)).length) kk ?_;rintro k hk;have hlen2:(((ord (l.map Fd.lhs)).take k).map (mgF l)).length <= k:=by rw [bk0,bjn];omega
 refine w_5 ?_;refine hcd (fun h1=>?_) (fun h1=>?_)
 · refine nx ?_;refine rq (out:=⟨_, .v (.one (.p (asC (mgR l ((ord (l.map Fd.lhs)).getD k default)))))⟩) rfl rfl rfl (congrArg (fun z=>some (Out.mk _ (HR.v (HC.one (HV.p z))))) (ac0 _ _)) rfl ?_ (hp:=⟨rfl,rfl,wfA _⟩);refine qy ?_;refine m9 4 ?_;refine r9 5 true ?_;refine w_6 ?_;exact lpx (k + 1) ⟨⟨⟨_,rfl,(bv (ui bnl))⟩,tt⟩,⟨⟨_,rfl,(p9 (ui bnl) (CoP.refl _) (CoP.refl _))⟩,uu⟩⟩
 obtain rfl:k = (ord (l.map Fd.lhs)).length:=by omega
 refine w_6 ?_;refine aq 2 rfl rfl rfl ?_;exact hx8 rfl rfl rfl (⟨CoC.one (CoP.of_eq (by rw [bjk];rfl)),trivial⟩)
end
section
def bin (l0:List Fd) (x:Fd) (a:Nat):Prop:=x.lhs.getLsbD a = true -> imp l0 (arw x a) = false
def bj2 (l:List Fd):Prop:=∀ f ∈ l,∃ k:Nat,f.rhs = (1:AS) <<< k
section
variable {n:Int} {l:List Fd}
end
end
end Go.Hx
