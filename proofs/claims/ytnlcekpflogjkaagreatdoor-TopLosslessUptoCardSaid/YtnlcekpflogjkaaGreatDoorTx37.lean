/- A part of the proof: Bd3 Tb3 Tb4 Kw3 Cs43 Kb4. -/
import Derived.Test.YtnlcekpflogjkaaGreatDoorTx33
import Derived.Test.YtnlcekpflogjkaaGreatDoorTx35
import Derived.Test.YtnlcekpflogjkaaGreatDoorTx36
set_option linter.all false
set_option maxRecDepth 100000
set_option maxHeartbeats 1000000
namespace Go.Hx
section
open Go.Shelf Go.RowKit Go.Proofs
abbrev tB:TypeId:=297
abbrev tC:TypeId:=5
abbrev bd (fr:Bool) (l:List UInt8):a7:=.bld fr tB tC (Lib.byteCells l)
def bbs:goodFn Tryz.prog 255:=⟨Tryz.f255,Tryz.func255,by kernel_rfl,by kernel_rfl⟩
def bcb:goodFn Tryz.prog 256:=⟨Tryz.f256,Tryz.func256,by kernel_rfl,by kernel_rfl⟩
def aj5 {v:Value} (h:∃ a m c,v = .slice a m c):v.ownBlock = ci v:=by
 obtain ⟨a,m,c,rfl⟩:=h;cases a <;> rfl
def ak8 (l:List UInt8) (s:ByteArray):Lib.byteCells l ++ Lib.strCells s = Lib.byteCells (l ++ s.data.toList):=by
 simp [Lib.byteCells,Lib.strCells]
def al2 {c:Ctx} {w:World} {id:Nat} {fr:Bool} {T e:TypeId} {l:List Value} (h:b7h 0 c w id fr T e l) :
 ∃ b p v,c.own id = .pointer (some ⟨b,0,none⟩) /\ BAt T e b p v l w /\ (p = .pointer none \/ p = .pointer (some ⟨b,0,none⟩)) /\ (∀ k,c.blk id k <-> k = b \/ v.ownBlock = some k) /\ (fr = true -> p = .pointer none /\ v = .slice none 0 0):=by
 obtain ⟨b,p,v,h1,_,h3,h4,h5,h6,h7,h8⟩:=h;have e:=aj5 (ahg h5).1;exact ⟨b,p,v,h1,⟨h3,h5,by rw [e];exact h6⟩,h4,fun k=>by rw [e];exact h7 k,h8⟩
def b74 {c:Ctx} {w w':World} {id b:Nat} {fr:Bool} {T e:TypeId} {v v':Value} {l l':List Value} {r:Value} {res:HR} (hM:Mem c (lk [(id, .bld fr T e l)]) w) (hown:c.own id = .pointer (some ⟨b,0,none⟩)) (hblk:∀ k,c.blk id k <-> k = b \/ v.ownBlock = some k)
 (hB':BAt T e b (.pointer (some ⟨b,0,none⟩)) v' l' w') (hbel:Below 0 w w') (hfr:∀ k,k < w.heap.size -> k ≠ b -> v.ownBlock ≠ some k -> w'.heap[k]? = w.heap[k]?) (hv':∀ k,v'.ownBlock = some k -> v.ownBlock = some k \/ w.heap.size <= k)
 (hres:∀ c' o',am c' o' res r) :
 ∃ v2 c',Ending.returned r = .returned v2 /\ am c' (lk [(id, .bld false T e l')]) res v2 /\ Mem c' (lk [(id, .bld false T e l')]) w' /\ Below 0 w w' /\
  (∀ b,b < w.heap.size -> (∀ id' ob,lk [(id, .bld fr T e l)] id' = some ob -> ¬ c.blk id' b) -> w'.heap[b]? = w.heap[b]? /\ c'.imm b = c.imm b) /\
  (∀ id' ob b,lk [(id, .bld false T e l')] id' = some ob -> c'.blk id' b -> w.heap.size <= b \/ ∃ id0 ob0,lk [(id, .bld fr T e l)] id0 = some ob0 /\ c.blk id0 b) /\
  (∀ id' ∈ [id],Evo c (lk [(id, .bld fr T e l)]) c' (lk [(id, .bld false T e l')]) id'):=by
 have hl1:lk [(id,a7.bld fr T e l)] id = some (.bld fr T e l):=by simp [lk]
 have hl2:lk [(id,a7.bld false T e l')] id = some (.bld false T e l'):=by simp [lk]
 have one:∀ {x:a7} {id':Nat} {ob:a7},lk [(id,x)] id' = some ob -> id' = id /\ ob = x:=fun {x id' ob} h=>⟨(fw h).1,(fw h).2⟩;have sep:∀ k,k = b \/ v.ownBlock = some k -> c.imm k = none:=fun k hk=>hM.sep id _ k hl1 ((hblk k).2 hk);have lt:∀ k ob,c.imm k = some ob -> k < w.heap.size:=fun k ob hk=>(brj.1 (hM.imm k ob hk)).1;have e':=aj5 (ahg hB'.own).1;refine ⟨r,{ c with blk:=fun k=>if k = id then (fun x=>x = b \/ v'.ownBlock = some x) else c.blk k },rfl,hres _ _,⟨fun id' ob h=>?_,fun i i' ob ob' k h h' _ _=>?_,fun k ob hk=>?_,fun id' ob k h hk=>?_⟩,hbel,fun k hk hn=>?_,fun id' ob k h hk=>?_,fun id' hid=>?_⟩
 · obtain ⟨rfl,rfl⟩:=one h
   exact ⟨b,_,v',hown,bre _,hB'.heap, .inr rfl,hB'.own,by rw [<- e'];exact hB'.ne,fun k=>by simp [e'],fun h=>by cases h⟩
 · rw [(one h).1,(one h').1]
 · have hk':=lt k ob hk
   refine (hfr k hk' (fun e=>?_) fun e=>?_).trans (hM.imm k ob hk)
   · have:=sep k (.inl e);have hk2:c.imm k = some ob:=hk;rw [hk2] at this;cases this
   have:=sep k (.inr e);have hk2:c.imm k = some ob:=hk;rw [hk2] at this;cases this
 · obtain ⟨rfl,rfl⟩:=one h
   simp only [if_true] at hk
   rcases hk with rfl | hk
   · exact sep _ (.inl rfl)
   rcases hv' k hk with h1 | h1
   · exact sep k (.inr h1)
   show c.imm k = none
   cases hi:c.imm k with
   | none=>rfl
   | some ob=>have:=lt k ob hi;omega
 · have hn':=fun h=>hn id _ hl1 ((hblk k).2 h)
   exact ⟨hfr k hk (fun e=>hn' (.inl e)) fun e=>hn' (.inr e),rfl⟩
 · obtain ⟨rfl,rfl⟩:=one h
   simp only [if_true] at hk
   rcases hk with rfl | hk
   · exact .inr ⟨_,_,hl1,(hblk _).2 (.inl rfl)⟩
   rcases hv' k hk with h1 | h1
   · exact .inr ⟨_,_,hl1,(hblk k).2 (.inr h1)⟩
   exact .inl h1
 rw [bru.1 hid];exact .inr (.inr ⟨_,_,0,1,0,0,hl1,rfl,hl2,rfl,brd _,fun _=>rfl,fun _ _ _ _ _ _ _ h=>by cases h⟩)
def bgo (id:Nat) (fr:Bool) (l:List UInt8) (s:ByteArray) (hlen:l.length + s.size <= 140737488355328):cz Tryz.prog 255 [.one (.ref id 0), .one (.p (.raw (.string s)))] [(id,bd fr l)] (.tup [.one (.p (.raw (.int .i64 (s.size:Int)))), .one (.p (.raw .nilIface))]) [(id,bd false (l ++ s.data.toList))] [id]:=by
 intro w c us hM hus
 match us,hus with
 | [u,v],⟨hu,hv,_⟩ =>
  obtain ⟨rfl,_⟩:=hv;have hl1:lk [(id,bd fr l)] id = some (bd fr l):=by simp [lk]
  have hu2:u = c.own id:=(hu.2.2 _ _ _ _ hl1 rfl).2 rfl;subst hu2;obtain ⟨b,p,v0,hown,hB,hp,hblk,_⟩:=al2 (hM.objs id _ hl1);rw [hown];refine (ak6 (P:=Tryz.prog) (ρ:=Tryz.lays166_ren) Tryz.lays166 Tryz.Builder_Extra_166 b p v0 _ s w hp hB (by rw [Lib.byteCells_length];exact hlen)).mono ?_;rintro e w' ⟨rfl,hbel,v',hB',hfr,hv'⟩;rw [ak8] at hB';exact b74 hM hown hblk hB' hbel hfr hv' fun c' o'=>⟨_,rfl,⟨rfl,rfl⟩,⟨rfl,rfl⟩,trivial⟩
def bkk (id:Nat) (fr:Bool) (l:List UInt8) (h0:l ≠ []):cz Tryz.prog 256 [.one (.ref id 0)] [(id,bd fr l)] (.v (.one (.p (.raw (.string ⟨l.toArray⟩))))) [] []:=by
 intro w c us hM hus
 match us,hus with
 | [u],⟨hu,_⟩ =>
  have hl1:lk [(id,bd fr l)] id = some (bd fr l):=by simp [lk]
  have hu2:u = c.own id:=(hu.2.2 _ _ _ _ hl1 rfl).2 rfl;subst hu2;obtain ⟨b,p,v0,hown,hB,hp,hblk,_⟩:=al2 (hM.objs id _ hl1);rw [hown];refine (b76 (P:=Tryz.prog) (ρ:=Tryz.lays169_ren) Tryz.lays169 Tryz.Builder_Extra_169 b p v0 l w hB h0).mono ?_;rintro e w' ⟨rfl,hbel,hfr⟩;refine ⟨_,c,rfl,⟨rfl,rfl⟩,⟨(fun id' ob h=>by cases h),(fun i i' ob ob' k h=>by cases h),fun k ob hk=>?_,(fun id' ob k h=>by cases h)⟩,hbel,fun k hk hn=>⟨hfr k fun e=>hn id _ hl1 ((hblk k).2 (.inr e)),rfl⟩,(fun id' ob k h=>by cases h),(fun id' hid=>by cases hid)⟩;refine (hfr k fun e=>?_).trans (hM.imm k ob hk);have:=hM.sep id _ k hl1 ((hblk k).2 (.inr e));rw [hk] at this;cases this
set_option maxHeartbeats 1000000 in
def av7 {P:Program} {ρ:Ren} (L:Lays.n169 P ρ) (X:Builder.Extra P ρ) (b:Nat) (p:Value) (w:World) (hbk:w.heap[b]? = some (.cells #[p, .slice none 0 0] (ρ.t 72) (0,0))) :
 Calls P (ρ.f 169) #[.pointer (some ⟨b,0,none⟩)] w fun e w'=>e = .returned (.string ⟨#[]⟩) /\ Below 0 w w' /\ ∀ k:Nat,w'.heap[k]? = w.heap[k]?:=by
 have hUS:=Any.unsafeString_none L X
 have c1:w.drew.cell? ⟨b,1,none⟩ = some (.slice none 0 0):=by
  have:w.drew.heap[b]? = some (.cells #[p, .slice none 0 0] (ρ.t 72) (0,0)):=hbk;rw [Lib.cell_of_heap this];rfl
 have hSD:(Builtin.unsafeSliceData_ #[(ρ.t 37)] (ρ.t 127) #[.slice none 0 0]).run P w.drew = .ok (.pointer none) w.drew:=rfl;have mixed:=L.mixed;have t72:=L.t72;have a72:=L.a72;have z72:=L.z72;have v72:=L.v72;have u72:=run_underlying L.t72;have t70:=L.t70;have a70:=L.a70;have z70:=L.z70;have v70:=L.v70;have u70:=run_underlying L.t70;have t37:=L.t37;have a37:=L.a37;have z37:=L.z37;have v37:=L.v37;have u37:=run_underlying L.t37;have t127:=L.t127;have a127:=L.a127;have z127:=L.z127;have v127:=L.v127;have u127:=run_underlying L.t127;have t3:=L.t3;have a3:=L.a3;have z3:=L.z3;have v3:=L.v3;have u3:=run_underlying L.t3;have t9:=L.t9;have a9:=L.a9;have z9:=L.z9;have v9:=L.v9;have u9:=run_underlying L.t9;have t5:=X.t5;have a5:=X.a5;have z5:=X.z5;have v5:=X.v5;have u5:=run_underlying X.t5
 go_enter L.f169,Body.n169_ntmps ρ
 go_wp2
 go_region_o
 all_goals (go_wp2;go_ret;exact ⟨rfl,Below.drew (Below.refl 0 w),fun k=>rfl⟩)
def bfo (id:Nat):cz Tryz.prog 256 [.one (.ref id 0)] [(id,bd true [])] (.v (.one (.p (.raw (.string ⟨#[]⟩))))) [] []:=by
 intro w c us hM hus
 match us,hus with
 | [u],⟨hu,_⟩ =>
  have hl1:lk [(id,bd true [])] id = some (bd true []):=by simp [lk]
  have hu2:u = c.own id:=(hu.2.2 _ _ _ _ hl1 rfl).2 rfl;subst hu2;obtain ⟨b,p,v0,hown,hB,hp,hblk,hfr⟩:=al2 (hM.objs id _ hl1);obtain ⟨_,rfl⟩:=hfr rfl;rw [hown];refine (av7 (P:=Tryz.prog) (ρ:=Tryz.lays169_ren) Tryz.lays169 Tryz.Builder_Extra_169 b p w hB.heap).mono ?_;rintro e w' ⟨rfl,hbel,hfr⟩;exact ⟨_,c,rfl,⟨rfl,rfl⟩,⟨(fun id' ob h=>by cases h),(fun i i' ob ob' k h=>by cases h),fun k ob hk=>(hfr k).trans (hM.imm k ob hk),(fun id' ob k h=>by cases h)⟩,hbel,fun k hk hn=>⟨hfr k,rfl⟩,(fun id' ob k h=>by cases h),(fun id' hid=>by cases hid)⟩
end
section
open Go.Proofs
def bvu {p:Prop} (h:p:=by assumption):p:=h
def biv (s:ByteArray):a6 bw0 149 [pS s] (af [pB (lp s)]):=by
 refine hpx (nt:=58) Tryz.func149 ?_;refine dc ?_;refine aw rfl rfl (fun r0=>?_) (fun r0=>?_)
 ·
  have h0:=tz1 r0;(iterate 3 refine k9 (gtf r0) ?_);refine w_2 ?_;(iterate 2 refine k9 rfl ?_);refine w_7 ?_
  exact hx8 rfl rfl rfl (⟨ccb (by first | exact (ah6 (zh.2 bvu)).symm | exact (abu bv9).symm | exact (a6k bvu).symm),trivial⟩)
 have h0:=tz2 r0;(iterate 3 refine qy ?_ (hg:=(gff r0)));refine w_2 ?_;refine aw rfl rfl (fun r1=>?_) (fun r1=>?_)
 ·
  have h1:=tz1 (be r0 r1);(iterate 2 refine k9 (gtf r1) ?_);refine w_7 ?_
  exact hx8 rfl rfl rfl (⟨ccb (by first | exact (ah6 (zh.2 bvu)).symm | exact (abu bv9).symm | exact (a6k bvu).symm),trivial⟩)
 have h1:=tz2 (be r0 r1);(iterate 2 refine qy ?_ (hg:=(gff r1)));refine w_2 ?_;refine au _ rfl (fun r2=>?_) (fun r2=>?_)
 · have h2:=tz1 (be r1 r2);refine v_4 ?_;exact ⟨ccb (by first | exact (ah6 (zh.2 bvu)).symm | exact (abu bv9).symm | exact (a6k bvu).symm),trivial⟩
 have h2:=tz2 (be r1 r2);refine dy ?_;refine d5 (ι:=Unit) kn km (fun _i=>⟨[],[]⟩) (fun _i=>lp s = true) ?_ ?_
 ·
  refine w_7 ?_;refine ah (ι:=Nat) (ka 0 (ka 18 kn)) km (fun i=>⟨[(19,some (vI i))],[]⟩) (fun i=>i <= s.size /\ (∀ j,j < i -> (ltr (c9 s j) || dig (c9 s j)) = true) /\ (0 < i -> ltr (c9 s 0) = true)) (fun i=>s.size - i) (0) (⟨bre _,c7,fun h=>by omega⟩) kk ?_;rintro i ⟨hi,hI,hz⟩;refine w_5 ?_;refine hcd (fun h3=>?_) (fun h3=>?_)
  ·
   refine k8 ?_;refine aek (ka 0 (ka 3 (ka 4 (ka 18 (ka 19 kn))))) km ⟨[(5,some (vB (ltr (c9 s i))))],[]⟩ ?_ ?_
   ·
    refine w_4 ?_;refine aw rfl rfl (fun r4=>?_) (fun r4=>?_)
    ·
     have h4:=tz1 r4;(iterate 2 refine qy ?_ (hg:=(gtt r4)));refine w_2 ?_;refine aw rfl rfl (fun r5=>?_) (fun r5=>?_)
     ·
      have h5:=tz1 (ck r4 r5);(iterate 3 refine k9 (gtf r5) ?_);(iterate 2 refine k9 rfl ?_);refine k9 (gtf r5) ?_;refine w_2 ?_;(iterate 2 refine k9 rfl ?_);refine w_3 ?_
      exact ⟨⟨⟨_,rfl,(cob (by simp [ltr, *]))⟩,tt⟩,trivial⟩
     have h5:=tz2 (ck r4 r5);(iterate 3 refine qy ?_ (hg:=(gff r5)));refine aw rfl rfl (fun r6=>?_) (fun r6=>?_)
     ·
      have h6:=tz1 r6;(iterate 2 refine qy ?_ (hg:=(gtt r6)));refine qy ?_ (hg:=(gff r5));refine w_2 ?_;refine aw rfl rfl (fun r7=>?_) (fun r7=>?_)
      ·
       have h7:=tz1 (ck r6 (be r5 r7));(iterate 2 refine k9 (gtf r7) ?_);refine w_3 ?_
       exact ⟨⟨⟨_,rfl,(cob (by simp [ltr, *]))⟩,tt⟩,trivial⟩
      have h7:=tz2 (ck r6 (be r5 r7));(iterate 2 refine qy ?_ (hg:=(gff r7)));refine w_3 ?_
      exact ⟨⟨⟨_,rfl,(cob (by simp [ltr, *]))⟩,tt⟩,trivial⟩
     have h6:=tz2 r6;(iterate 2 refine k9 (gft r6) ?_);refine rq rfl rfl rfl rfl (gff r5) ?_ (hp:=r6);refine w_2 ?_;(iterate 2 refine rq rfl rfl rfl rfl (gff (aol r5 rfl)) ?_);refine w_3 ?_
     exact ⟨⟨⟨_,rfl,(cob (by simp [ltr, *]))⟩,tt⟩,trivial⟩
    have h4:=tz2 r4;(iterate 2 refine k9 (gft r4) ?_);refine w_5 ?_;refine aw rfl rfl (fun r8=>?_) (fun r8=>?_)
    ·
     have h8:=tz1 r8;(iterate 2 refine qy ?_ (hg:=(gtt r8)));refine w_3 ?_;refine aw rfl rfl (fun r9=>?_) (fun r9=>?_)
     ·
      have h9:=tz1 (ck r8 r9);(iterate 2 refine k9 (gtf r9) ?_);refine w_3 ?_
      exact ⟨⟨⟨_,rfl,(cob (by simp [ltr, *]))⟩,tt⟩,trivial⟩
     have h9:=tz2 (ck r8 r9);(iterate 2 refine qy ?_ (hg:=(gff r9)));refine w_3 ?_
     exact ⟨⟨⟨_,rfl,(cob (by simp [ltr, *]))⟩,tt⟩,trivial⟩
    have h8:=tz2 r8;(iterate 2 refine k9 (gft r8) ?_);refine w_3 ?_;(iterate 2 refine rq rfl rfl rfl rfl (gff (aol rfl rfl)) ?_);refine w_3 ?_
    exact ⟨⟨⟨_,rfl,(cob (by simp [ltr, *]))⟩,tt⟩,trivial⟩
   refine w_5 ?_;refine aw rfl rfl (fun r10=>?_) (fun r10=>?_)
   ·
    have h10:=eg r10;(iterate 3 refine qy ?_ (hg:=(gtt r10)));refine aw rfl rfl (fun r11=>?_) (fun r11=>?_)
    ·
     have h11:=tz1 r11;(iterate 2 refine k9 (gtf r11) ?_);refine rq rfl rfl rfl rfl (gtt r10) ?_ (hp:=r11);refine qy ?_ (hg:=(gtt r10));(iterate 2 refine k9 rfl ?_);refine qy ?_ (hg:=(gtt r10));refine w_2 ?_
     refine au _ rfl (fun _=>?_) (fun e=>Bool.noConfusion ((ut r10 rfl).symm.trans e));refine v_4 ?_;exact ⟨ccb (by first | exact (a7g (i:=i) bvu bvu).symm | exact (a79 (i:=i) bv9 bvu (by simp [dig, *] <;> omega)).symm),trivial⟩
    have h11:=tz2 r11;(iterate 2 refine qy ?_ (hg:=(gff r11)));(iterate 2 refine qy ?_ (hg:=(gtt r10)));refine aw rfl rfl (fun r12=>?_) (fun r12=>?_)
    ·
     have h12:=tz1 (be r11 r12);(iterate 2 refine k9 (gtf r12) ?_);refine rq rfl rfl rfl rfl (gtt r10) ?_ (hp:=r12);refine w_2 ?_;refine au _ rfl (fun _=>?_) (fun e=>Bool.noConfusion ((ut r10 rfl).symm.trans e));refine w_4 ?_
     exact hx8 rfl rfl rfl (⟨ccb (by first | exact (a7g (i:=i) bvu bvu).symm | exact (a79 (i:=i) bv9 bvu (by simp [dig, *] <;> omega)).symm),trivial⟩)
    have h12:=tz2 (be r11 r12);(iterate 2 refine qy ?_ (hg:=(gff r12)));refine qy ?_ (hg:=(gtt r10));refine w_2 ?_;refine au _ rfl (fun r13=>?_) (fun r13=>?_)
    · have h13:=tz1 (be r12 (ck r10 r13));refine v_4 ?_;exact ⟨ccb (by first | exact (a7g (i:=i) bvu bvu).symm | exact (a79 (i:=i) bv9 bvu (by simp [dig, *] <;> omega)).symm),trivial⟩
    have h13:=tz2 (be r12 (ck r10 r13));refine w_5 ?_;refine lpz (i + 1) kk ?_;exact ⟨by omega,bo hI (by simp_all [dig] <;> omega),fun _=>bfa hz (fun e=>by first | assumption | (exfalso;omega))⟩
   have h10:=ek r10;(iterate 3 refine k9 (gft r10) ?_);(iterate 2 refine k9 rfl ?_);(iterate 2 refine k9 (gft r10) ?_);(iterate 2 refine k9 rfl ?_);refine k9 (gft r10) ?_;refine w_8 ?_;refine lpz (i + 1) kk ?_
   exact ⟨by omega,bo hI (by simp_all [dig] <;> omega),fun _=>bfa hz (fun e=>by first | assumption | (exfalso;omega))⟩
  refine d7 ?_;refine ⟨(), ?_, ?_⟩
  · exact bhn (fun e=>absurd ((zh (s:=s)).1 e) bvu) bv9 (hz (Nat.pos_of_ne_zero (fun e=>absurd ((zh (s:=s)).1 bv9) bvu))) bvu (fun j hj=>hI j bv9)
  exact ⟨trivial,trivial⟩
 rintro _ hj;refine v_4 ?_;exact ⟨ccb hj.symm,trivial⟩
def bne (l:List ByteArray) (s:ByteArray):a6 bw0 200 [pP (a2m l),pS s] (af [pI (ah1 l s)]):=by
 refine hpx (nt:=19) Tryz.func200 ?_;refine cu 0 rfl (fun hn=>?_);refine w_4 ?_;refine d5 (ι:=Unit) kn km (fun _i=>⟨[],[]⟩) (fun _i=>ah1 l s = -1) ?_ ?_
 ·
  refine w_7 ?_;refine ah (ι:=Nat) (ka 0 (ka 1 (ka 7 kn))) km (fun i=>⟨[(8,some (vI i))],[]⟩) (fun i=>i <= l.length /\ ∀ j,j < i -> decide (l.getD j default = s) = false) (fun i=>l.length - i) (0) (⟨bre _,c7⟩) kk ?_;rintro i ⟨hi,hI⟩;refine w_5 ?_;refine hcd (fun h0=>?_) (fun h0=>?_)
  ·
   refine va ?_;refine hcd (fun h1=>?_) (fun h1=>?_)
   · refine v_5 ?_;exact ⟨cci (xf (p:=fun x=>decide (x = s)) (i:=i) bv9 hI (decide_eq_true h1.symm)).symm,trivial⟩
   refine w_5 ?_;refine lpz (i + 1) kk ?_;exact ⟨by omega,bo hI (decide_eq_false fun e=>h1 e.symm)⟩
  refine d7 ?_;refine ⟨(), ?_, ?_⟩
  · exact wq (p:=fun x=>decide (x = s)) fun j hj=>hI j bv9
  exact ⟨trivial,trivial⟩
 rintro _ hj;refine v_4 ?_;exact ⟨cci hj.symm,trivial⟩
def bmy (l:List ByteArray) (s:ByteArray):a6 bw0 150 [pP (a2m l),pS s] (af [pB (decide (0 <= ah1 l s))]):=by
 refine hpx (nt:=9) Tryz.func150 ?_;refine w_8 ?_;refine qcx (wgx Tryz.func200) (bne _ _) ?_;refine v_3 ?_;exact CoL.refl _
def bmz (l:List Val) (g k:Nat) (caps:Nat -> PV) (V:Val -> Bool) (hg:goodFn bw0 g) (hV:∀ i,i < l.length -> a6 bw0 g ((l.getD i default).pc :: iu caps k 0) (af [pB (V (l.getD i default))])):a6 bw0 236 [pP (vals l),pP (.fn g k caps)] (af [pI (idx V l)]):=by
 refine hpx (nt:=19) Tryz.func236 ?_;refine cu 0 rfl (fun hn=>?_);refine w_4 ?_;refine d5 (ι:=Unit) kn km (fun _i=>⟨[],[]⟩) (fun _i=>idx V l = -1) ?_ ?_
 ·
  refine w_7 ?_;refine ah (ι:=Nat) (ka 0 (ka 1 (ka 7 kn))) km (fun i=>⟨[(8,some (vI i))],[]⟩) (fun i=>i <= l.length /\ ∀ j,j < i -> V (l.getD j default) = false) (fun i=>l.length - i) (0) (⟨bre _,c7⟩) kk ?_;rintro i ⟨hi,hI⟩;refine w_5 ?_;refine hcd (fun h0=>?_) (fun h0=>?_)
  ·
   refine k8 ?_;refine rc rfl rfl rfl rfl rfl rfl hg (hV i bv9) (CoL.refl _) rfl rfl ?_;refine cw ?_;refine hcb (fun h1=>?_) (fun h1=>?_)
   · refine v_5 ?_;exact ⟨cci (xf (i:=i) bv9 hI h1).symm,trivial⟩
   refine w_5 ?_;refine lpz (i + 1) kk ?_;exact ⟨by omega,bo hI (h1)⟩
  refine d7 ?_;refine ⟨(), ?_, ?_⟩
  · exact wq fun j hj=>hI j bv9
  exact ⟨trivial,trivial⟩
 rintro _ hj;refine v_4 ?_;exact ⟨cci hj.symm,trivial⟩
def bo3 (l:List Val) (g k:Nat) (caps:Nat -> PV) (V:Val -> Bool) (hg:goodFn bw0 g) (hV:∀ i,i < l.length -> a6 bw0 g ((l.getD i default).pc :: iu caps k 0) (af [pB (V (l.getD i default))])):a6 bw0 201 [pP (vals l),pP (.fn g k caps)] (af [pB (l.any V)]):=by
 refine hpx (nt:=9) Tryz.func201 ?_;refine w_8 ?_;refine qcx (wgx Tryz.func236) (bmz l g k caps V hg hV) ?_;refine v_3 ?_;exact ⟨ccb atq,trivial⟩
def bob (v:Val):a6 bw0 202 [v.pc] (af [pB (!d9 v)]):=by
 refine hpx (nt:=6) Tryz.func202 ?_;refine sx7 ?_;refine m9 0 ?_;refine w_5 ?_;refine qcx (wgx Tryz.func203) (c76 _) ?_;refine v_3 ?_;exact CoL.refl _
def c93 (l:List Val):a6 bw0 151 [pP (vals l)] (af [pB (l.all d9)]):=by
 refine hpx (nt:=6) Tryz.func151 ?_;refine w_7 ?_;refine qcx (wgx Tryz.func201) (bo3 l 202 0 (fun _=>.any) (fun v=>!d9 v) (wgx Tryz.func202) (fun i _=>bob _)) ?_;refine v_3 ?_;exact ⟨ccb ar1,trivial⟩
end
section
open Go.Proofs
abbrev vpL (ps:List PV):PV:=.vp ps.length fun j=>ps.getD j .any
def rE {n:Nat} {l:List Row} {i:Nat} {b e:Int} (hi:i < l.length) (h:gv n b (l.drop i) = e):(if (l.getD i default).id <= b then 1 else if (l.getD i default).vals.length ≠ n then 6 else if ((l.getD i default).vals.all d9) = false then 1 else gv n (l.getD i default).id (l.drop (i + 1))) = e:=by rw [<- als hi];exact h
def tE {t:Tbl} {e:Int} (h0:lp t.name = true) (h1:¬ 16 < t.attrs.length) (h2:¬ 1000 < t.rows.length) (h3:a8f t.attrs = true) (h:gv t.attrs.length 0 t.rows = e):d8 t = e:=by
 have:¬ (16 < t.attrs.length \/ 1000 < t.rows.length):=by omega
 simp [d8,h0,h3,h,this]
def tE1 {t:Tbl} (h0:lp t.name = false):d8 t = 1:=by simp [d8,h0]
def tE3 {t:Tbl} (h0:lp t.name = true) (h1:16 < t.attrs.length \/ 1000 < t.rows.length):d8 t = 3:=by simp [d8,h0,h1]
def tE2 {t:Tbl} (h0:lp t.name = true) (h1:¬ 16 < t.attrs.length) (h2:¬ 1000 < t.rows.length) (h3:a8f t.attrs = false):d8 t = 1:=by
 have:¬ (16 < t.attrs.length \/ 1000 < t.rows.length):=by omega
 simp [d8,h0,h3,this]
def aef:goodFn bw0 99:=wgx Tryz.func99
def c88 (t:Tbl):a6 bw0 99 [t.pc] (af [pI (d8 t)]):=by
 refine hpx (nt:=70) Tryz.func99 ?_;refine sx7 ?_;refine m9 0 ?_;refine w_7 ?_;refine qcx (wgx Tryz.func149) (biv _) ?_;refine w_2 ?_;refine hcv (fun h0=>?_) (fun h0=>?_)
 · refine v_4 ?_;exact ⟨cci (tE1 bvu).symm,trivial⟩
 refine w_9 ?_;refine aw rfl rfl (fun r1=>?_) (fun r1=>?_)
 ·
  have h1:=tz1 r1;(iterate 4 refine k9 (gtf r1) ?_);refine w_7 ?_
  exact hx8 rfl rfl rfl (⟨cci (tE3 bvu bv9).symm,trivial⟩)
 have h1:=tz2 r1;(iterate 4 refine qy ?_ (hg:=(gff r1)));refine w_2 ?_;refine au _ rfl (fun r2=>?_) (fun r2=>?_)
 · have h2:=tz1 (be r1 r2);refine v_4 ?_;exact ⟨cci (tE3 bvu bv9).symm,trivial⟩
 have h2:=tz2 (be r1 r2);refine dy ?_;refine d5 (ι:=Unit) (ka 1 kn) (kb 0 km) (fun _i=>⟨[],[]⟩) (fun _i=>a8f t.attrs = true) ?_ ?_
 ·
  refine w_8 ?_;refine ah (ι:=Nat) (ka 1 (ka 23 (ka 24 kn))) (kb 0 km) (fun i=>⟨[(25,some (vI i))],[]⟩) (fun i=>i <= t.attrs.length /\ ∀ j,j < i -> a4g t.attrs j = true) (fun i=>t.attrs.length - i) (0) (⟨bre _,c7⟩) kk ?_;rintro i ⟨hi,hI⟩;refine w_5 ?_;refine hcd (fun h3=>?_) (fun h3=>?_)
  ·
   refine qs ?_;refine qcx (wgx Tryz.func149) (biv _) ?_;refine w_2 ?_;refine aw rfl rfl (fun r4=>?_) (fun r4=>?_)
   ·
    have h4:=eg r4;(iterate 6 refine k9 (gtf r4) ?_);refine w_7 ?_
    exact hx8 rfl rfl rfl (⟨cci (tE2 bvu bv9 bv9 (sq (i:=i) bv9 (by first | (unfold a4g;simp_all;done) | (unfold a4g;rw [Bool.and_eq_false_iff];right;exact decide_eq_false bv9)))).symm,trivial⟩)
   have h4:=ek r4;(iterate 5 refine qy ?_ (hg:=(gff r4)));refine rc rfl rfl rfl rfl rfl rfl (wgx Tryz.func150) (bmy (t.attrs.take i) (t.attrs.getD i default)) (⟨CoC.one (ah9 (k:=i) bv9),CoC.refl _,trivial⟩) rfl (gff r4) ?_
   refine w_2 ?_;refine au _ rfl (fun r5=>?_) (fun r5=>?_)
   · have h5:=be r4 r5;refine v_4 ?_;exact ⟨cci (tE2 bvu bv9 bv9 (sq (i:=i) bv9 (by first | (unfold a4g;simp_all;done) | (unfold a4g;rw [Bool.and_eq_false_iff];right;exact decide_eq_false bv9)))).symm,trivial⟩
   have h5:=be r4 r5;have hM:=bfi h5;refine w_5 ?_;refine lpz (i + 1) kk ?_;exact ⟨by omega,bo hI (by simp only [a4g,brk,decide_eq_true_eq];exact ⟨by assumption,by simp_all⟩)⟩
  refine d7 ?_;refine ⟨(), ?_, ?_⟩
  · exact wt fun j hj=>hI j bv9
  exact kk
 rintro _ hnm;refine w_4 ?_;refine d5 (ι:=Unit) kn km (fun _i=>⟨[],[]⟩) (fun _i=>gv t.attrs.length 0 t.rows = 0) ?_ ?_
 ·
  refine w_8 ?_;refine ah (ι:=(Nat × Int)) (ka 1 (ka 43 (ka 44 kn))) (kb 0 km) (fun x=>⟨[(5,some (vI x.2)),(45,some (vI x.1))],[]⟩) (fun x=>x.1 <= t.rows.length /\ gv t.attrs.length x.2 (t.rows.drop x.1) = gv t.attrs.length 0 t.rows) (fun x=>t.rows.length - x.1) ((0,0)) (⟨bre _,rfl⟩) kk ?_;rintro ⟨i,b⟩ ⟨hi,hI⟩;dsimp only at hi hI ⊢;refine w_5 ?_;refine hcd (fun h6=>?_) (fun h6=>?_)
  ·
   refine w_7 ?_;refine m9 1 ?_;refine j4 ?_;refine hcd (fun h7=>?_) (fun h7=>?_)
   · refine w_4 ?_;refine hrr ?_;have hs:=rE bv9 hI;rw [if_pos bv9] at hs;exact f9 rfl rfl (⟨cci (tE bvu bv9 bv9 bvu hs.symm).symm,trivial⟩)
   refine j3 ?_;refine hcn (fun h8=>?_) (fun h8=>?_)
   · refine w_4 ?_;refine hrr ?_;have hs:=rE bv9 hI;rw [if_neg bv9,if_pos bv9] at hs;exact f9 rfl rfl (⟨cci (tE bvu bv9 bv9 bvu hs.symm).symm,trivial⟩)
   refine w_4 ?_;refine qcx (wgx Tryz.func151) (c93 _) ?_;refine w_3 ?_;refine hcv (fun h9=>?_) (fun h9=>?_)
   · refine w_4 ?_;refine hrr ?_;have hs:=rE bv9 hI;rw [if_neg bv9,if_neg bv9,if_pos bvu] at hs;exact f9 rfl rfl (⟨cci (tE bvu bv9 bv9 bvu hs.symm).symm,trivial⟩)
   refine dc ?_;refine lpz (i + 1,(t.rows.getD i default).id) kk ?_;refine ⟨by dsimp only;omega, ?_⟩;have hs:=rE bv9 hI;rw [if_neg bv9,if_neg bv9,if_neg (fun e=>Bool.noConfusion (e.symm.trans (show _ = true by assumption)))] at hs;exact hs
  refine d7 ?_;refine ⟨(), ?_, ?_⟩
  · rw [<- hI,bv2 bv9];rfl
  exact ⟨trivial,trivial⟩
 rintro _ hj;refine v_4 ?_;exact ⟨cci (tE bvu bv9 bv9 bvu hj).symm,trivial⟩
end
section
open Go.Proofs
def bm8 {s:AS} {n:Nat} (hn:n <= 16) (h:∀ z,s.getLsbD z = true -> z < n):(asI s).fdiv (2 ^ (min n 64)) = 0:=by
 rw [bsh bv9]
 have h2:s >>> n = 0:=b4z.2 fun k _ hk=>by
  rw [brt];intro hb;have:=h k hb;omega
 have h3:s.toNat / 2 ^ n = 0:=by
  have:=congrArg BitVec.toNat h2;simpa [bu5,btz] using this
 have h4:asI s = (s.toNat:Int):=rfl;rw [h4,show (2:Int) ^ n = ((2 ^ n:Nat):Int) by simp,bul _ (btf _),<- Int.natCast_ediv,h3];rfl
def apa {t:Tbl} (hT:TOk t):a6 bw0 99 [t.pc] (af [pI 0]):=by
 have h:=c88 t;rw [nn.2 hT] at h;exact h
def bgq {a b:Prt} (ha:kz a = true) (hb:kz b = true) (hr:a.rows = b.rows):∀ i,i < (pz a b a.rows.toNat).length -> (Lit.int .i64 ((pz a b a.rows.toNat).getD i default).1).wf = true /\ (Lit.int .i64 ((pz a b a.rows.toNat).getD i default).2).wf = true:=fun i hi=>by
 rw [vm] at hi;obtain ⟨h0,h1⟩:=qg ha
 have e:(pz a b a.rows.toNat).getD i default = ((y6 a).getD i default,(y6 b).getD i default):=by
  rw [bw _ _ (by rw [vm];exact hi)];simp only [pz,btt,btm,hi,if_true]
 have ka:=acg (p:=a) (m:=1000) bv9 (w3 ha) i (by rw [qp];exact hi);have kb:=acg (p:=b) (m:=1000) bv9 (w3 hb) i (by rw [qp];omega);rw [e];exact ⟨bez (by show _ <= (u7 a a.cls.length).getD i default;omega) (by show (u7 a a.cls.length).getD i default <= _;omega),bez (by show _ <= (u7 b b.cls.length).getD i default;omega) (by show (u7 b b.cls.length).getD i default <= _;omega)⟩
def bg5 (id:Nat) (fr:Bool) (l:List UInt8) (h1:fr = true -> l = []) (h0:fr = false -> l ≠ []):cz bw0 256 [.one (.ref id 0)] [(id,bd fr l)] (.v (.one (.p (.raw (.string ⟨l.toArray⟩))))) [] []:=by
 cases fr with
 | true =>
  rw [h1 rfl];exact bfo id
 | false=>exact bkk id false l (h0 rfl)
def b3h (t:Tbl) (s:AS) (hn:t.attrs.length <= 16) (hs:∀ z,s.getLsbD z = true -> z < t.attrs.length):a6 bw0 226 [t.pc,pA s] (af [pB true]):=by
 refine hpx (nt:=12) Tryz.func226 ?_;refine sx7 ?_;refine m9 0 ?_;refine w_5 ?_;refine rq rfl rfl rfl rfl rfl ?_ (hp:=⟨by show (0:Int) <= _;exact sw s,by show _ <= (18446744073709551615:Int);have:=a6t s;omega⟩);refine v_7 ?_;exact ⟨ccb (decide_eq_true (bm8 hn hs)),trivial⟩
def bnl (t:Tbl) (s:AS) (hT:TOk t) (hs:∀ z,s.getLsbD z = true -> z < t.attrs.length):a6 bw0 227 [t.pc,pA s] (af [(akr t s).pc]):=by
 refine hpx (nt:=57) Tryz.func227 ?_;have hna:=hT.na;have hnr:=hT.nr;have hm32:(aj s).length <= 32:=by unfold aj;exact bs4 (btb _ _) (by rw [bv5];exact brd _)
 refine sx7 ?_;refine m9 0 ?_;refine m9 1 ?_;refine w_4 ?_;refine qcx a8l (awx s) ?_;refine w_7 ?_;refine m9 2 ?_;refine j3 ?_;refine br (ka 2 (ka 4 (ka 5 (ka 21 (ka 22 kn))))) (kb 0 (kb 1 km)) (fun i=>⟨[(6,some (.v (.one (.ref 2 t.rows.length)))),(23,some (vI i))],[(2,some (.arr true 1 9 t.rows.length (lf ac0 (tg t s i))))]⟩) t.rows.length ⟨⟨⟨_,rfl,(CoR.of_eq (by rw [brn]))⟩,tt⟩,⟨⟨_,rfl,(a68 bv9 fun i hi=>CoP.of_eq (by have hi2:i < t.rows.length:=bv9;show _ = PV.raw (.string ((tg t s 0).getD i default));rw [bw _ _ (by rw [tf];exact hi2)];simp [tg];rfl))⟩,trivial⟩⟩ ?_;rintro i hi;refine w_5 ?_;refine hcd (fun h0=>?_) (fun h0=>?_)
 ·
  have hir:i < t.rows.length:=by omega
  have hwi:(t.rows.getD i default).vals.length = t.attrs.length:=hT.width hir;have hok:(t.rows.getD i default).vals.all d9 = true:=(jp hT.rs _ (by rw [bw _ _ hir];exact brs hir)).2.2
  have hpos:¬ (aj s).length = 0 -> bl (se (t.rows.getD i default).vals s (aj s).length) ≠ []:=fun h=>by
   obtain ⟨q,hq⟩:∃ q,(aj s).length = q + 1:=⟨(aj s).length - 1,by omega⟩;rw [hq];refine b2d bv9 ?_;have hlt:(aj s).getD q default < (t.rows.getD i default).vals.length:=by rw [hwi];exact az3 hs bv9
   rw [bw _ _ hlt];exact bs2.1 hok _ (brs hlt)
  refine w_8 ?_;refine m9 3 ?_;refine w_5 ?_;refine m9 4 ?_;refine w_9 ?_;refine br (ka 2 (ka 4 (ka 5 (ka 6 (ka 7 (ka 8 (ka 9 (ka 21 (ka 22 (ka 23 (ka 28 (ka 29 kn)))))))))))) (kb 2 (kb 0 (kb 1 (kb 3 km)))) (fun j=>⟨[(30,some (vI j))],[(4,some (bd (decide (j = 0)) (bl (se (t.rows.getD i default).vals s j))))]⟩) ((aj s).length) ⟨tt,⟨⟨_,rfl,(CoO.refl _)⟩,trivial⟩⟩ ?_;rintro j hj;have hsz:=aj2 (l:=(t.rows.getD i default).vals) (s:=s) (j:=j);refine w_5 ?_;refine hcd (fun h1=>?_) (fun h1=>?_)
  ·
   have hjm:j < (aj s).length:=by omega
   have hlt:(aj s).getD j default < (t.rows.getD i default).vals.length:=by rw [hwi];exact az3 hs hjm
   have hkz:=a1g (v:=((t.rows.getD i default).vals.getD ((aj s).getD j default) default));refine qs ?_;refine rq rfl rfl rfl rfl rfl ?_ (hp:=⟨rfl,by omega,by first | omega | (simp only [brn];omega)⟩);refine qy ?_;refine qcx (wgx Tryz.func158) (bjm ((t.rows.getD i default).vals.getD ((aj s).getD j default) default)) ?_;refine w_8 ?_;refine fc9 bbs ((bgo 900 (decide (j = 0)) (bl (se (t.rows.getD i default).vals s j)) (tv ((t.rows.getD i default).vals.getD ((aj s).getD j default) default)) bvp).swap 900 4) uu ?_;refine w_5 ?_;exact lpx (j + 1) ⟨tt,⟨⟨_,rfl,(by rw [decide_eq_false (Nat.succ_ne_zero j),a7v hjm,bfy];exact CoO.refl _)⟩,uu⟩⟩
  obtain rfl:j = (aj s).length:=by omega
  refine w_4 ?_;refine fc9 bcb ((bg5 900 (decide ((aj s).length = 0)) (bl (se (t.rows.getD i default).vals s (aj s).length)) (fun h=>by rw [bo5 h];rfl) (fun h=>hpos (bfi h))).swap 900 4) uu ?_;refine w_7 ?_;exact lpx (i + 1) ⟨⟨⟨_,rfl,(CoR.refl _)⟩,tt⟩,⟨⟨_,rfl,(by rw [axa hir];exact vn (fun h=>h) tf.symm bv9 (by rw [tf];exact hir) (by rw [b9u,b6f bv9 (fun a ha=>by rw [hwi];exact hs a ha)];rfl))⟩,uu⟩⟩
 obtain rfl:i = t.rows.length:=by omega
 refine w_2 ?_;refine bn 6 rfl rfl rfl ?_;refine w_5 ?_;refine rc rfl rfl rfl rfl rfl rfl (wgx Tryz.func257) (bmg (tg t s t.rows.length) (by rw [tf];omega) (fun i hi=>b64 hT hi)) (⟨CoC.one (CoP.sl tf (.inl rfl) (fun h=>h) (fun _ _ _ _=>CoP.refl _)),trivial⟩) rfl rfl ?_;refine v_4 ?_;exact ⟨CoC.of_eq (by rw [b6v];rfl),trivial⟩
def blu (t:Tbl) (s:AS) (hT:TOk t) (hs:∀ z,s.getLsbD z = true -> z < t.attrs.length):a6 bw0 183 [t.pc,pA s] (af [(akr t s).pc,pI 0]):=by
 refine hpx (nt:=21) Tryz.func183 ?_;have hna:=hT.na;have htz:=nn.2 hT;refine sx7 ?_;refine m9 0 ?_;refine m9 1 ?_;refine w_6 ?_;refine qcx aef (apa hT) ?_;refine qs ?_;refine qcx (wgx Tryz.func226) (b3h t s hna hs) ?_;refine w_8 ?_;refine qcx (wgx Tryz.func227) (bnl t s hT hs) ?_;refine v_3 ?_;exact CoL.refl _
def ai0:goodFn bw0 231:=wgx Tryz.func231
def bvi {p:Prop} (h:p:=by first | omega | (simp only [brn] <;> omega)):p:=h
def afd (p:Prt) (h:kz p = true):a6 bw0 231 [p.pc] (af [pB true]):=by
 refine hpx (nt:=68) Tryz.func231 ?_;obtain ⟨hr0,hr1⟩:=qg h;have hcl:=w3 h;refine sx7 ?_;refine m9 0 ?_;refine w_9 ?_;refine aw rfl rfl (fun r0=>?_) (fun r0=>?_)
 · have h0:=tz1 r0;exfalso;omega
 have h0:=tz2 r0;(iterate 3 refine qy ?_ (hg:=(gff r0)));refine w_2 ?_;refine au _ rfl (fun r1=>?_) (fun r1=>?_)
 · have h1:=tz1 (be r0 r1);exfalso;omega
 have h1:=tz2 (be r0 r1);refine w_5 ?_;refine m9 1 ?_;refine k8 ?_;refine br (ka 1 (ka 3 (ka 22 (ka 23 kn)))) (kb 0 km) (fun k=>⟨[(4,some (vI (ag0 p k))),(24,some (vI k))],[(1,some (.arr true 1 4 p.rows.toNat (lf bC (snT p k 0))))]⟩) p.cls.length ⟨⟨⟨_,rfl,(CoR.refl _)⟩,tt⟩,⟨⟨_,rfl,(a68 bv9 fun i hi=>CoP.of_eq (by rw [b32];simp [lf,List.getD,show i < p.rows.toNat by omega];rfl))⟩,trivial⟩⟩ ?_;rintro k hk;refine w_5 ?_;refine hcd (fun h2=>?_) (fun h2=>?_)
 ·
  have hkc:k < p.cls.length:=by omega
  have hvc:=a8t h hkc;obtain ⟨hc1,hc2⟩:=arw hvc;have hc3:ag0 p k < ((((p.cls.getD k default)).getD (Int.toNat 0) default:Nat):Int):=hc2;have hrl:=agk h hkc;refine v7 ?_;refine aw rfl rfl (fun r3=>?_) (fun r3=>?_)
  · have h3:=tz1 r3;exfalso;omega
  have h3:=tz2 r3;refine qy ?_ (hg:=(gff r3));refine rq rfl rfl rfl rfl (gff r3) ?_ (hp:=⟨rfl,bvi,bvi⟩);(iterate 3 refine qy ?_ (hg:=(gff r3)));refine w_2 ?_;refine au _ rfl (fun r4=>?_) (fun r4=>?_)
  · have h4:=tz1 (be r3 r4);exfalso;omega
  have h4:=tz2 (be r3 r4);refine w_4 ?_;refine rq rfl rfl rfl rfl rfl ?_ (hp:=⟨rfl,bvi,bvi⟩);refine qs ?_;refine br (ka 1 (ka 3 (ka 4 (ka 22 (ka 23 (ka 24 (ka 41 (ka 42 kn)))))))) (kb 0 km) (fun j=>⟨[(7,some (vI (ao6 (p.cls.getD k default) j))),(43,some (vI j))],[(1,some (.arr true 1 4 p.rows.toNat (lf bC (snT p k j))))]⟩) ((p.cls.getD k default).length) kk ?_;rintro j hj;refine w_5 ?_;refine hcd (fun h5=>?_) (fun h5=>?_)
  ·
   have hjc:j < (p.cls.getD k default).length:=by omega
   obtain ⟨hj1,hj2,hj3⟩:=afs hvc hjc;have hjr:(p.cls.getD k default).getD j default < p.rows.toNat:=by omega
   have hsn:=bjl (k:=k) (j:=j) hjr;rw [decide_eq_false hj3] at hsn;refine v7 ?_;refine aw rfl rfl (fun r6=>?_) (fun r6=>?_)
   · have h6:=tz1 r6;exfalso;omega
   have h6:=tz2 r6;(iterate 4 refine qy ?_ (hg:=(gff r6)));refine w_2 ?_;refine aw rfl rfl (fun r7=>?_) (fun r7=>?_)
   · have h7:=tz1 (be r6 r7);exfalso;omega
   have h7:=tz2 (be r6 r7);(iterate 2 refine qy ?_ (hg:=(gff r7)));refine rq rfl rfl rfl rfl (gff r7) ?_ (hp:=⟨rfl,bvi,bvi⟩)
   refine qy ?_ (hg:=(gff r7));refine w_2 ?_;refine au _ rfl (fun r8=>?_) (fun r8=>?_)
   · have h8:=be r7 r8;exfalso;simp_all
   have h8:=be r7 r8;refine w_5 ?_;refine rq rfl rfl rfl rfl rfl ?_ (hp:=⟨rfl,bvi,bvi⟩);refine dc ?_;exact lpx (j + 1) ⟨⟨⟨_,rfl,(coi b0e.symm)⟩,tt⟩,⟨⟨_,rfl,(by rw [b69 hjc hj2];exact vn (fun h=>h) aha.symm (by simp only [brn]) (by rw [aha];omega) rfl)⟩,uu⟩⟩
  obtain rfl:j = (p.cls.getD k default).length:=by omega
  refine w_5 ?_;exact lpx (k + 1) ⟨⟨⟨_,rfl,(coi b03.symm)⟩,tt⟩,⟨⟨_,rfl,(by rw [<- b5k hkc];exact CoO.refl _)⟩,uu⟩⟩
 obtain rfl:k = p.cls.length:=by omega
 refine v_5 ?_;exact CoL.refl _
def b8j (p:Prt) (h:kz p = true):a6 bw0 229 [p.pc] (af [pP (zl (y6 p))]):=by
 refine hpx (nt:=44) Tryz.func229 ?_;obtain ⟨hr0,hr1⟩:=qg h;have hcl:=w3 h;refine sx7 ?_;refine m9 0 ?_;refine w_6 ?_;refine m9 1 ?_;refine dc ?_;refine br (ka 1 (ka 13 kn)) (kb 0 km) (fun i=>⟨[(3,some (.v (.one (.ref 1 p.rows.toNat)))),(14,some (vI i))],[(1,some (.arr true 1 3 p.rows.toNat (lf zC (a29 p.rows.toNat i))))]⟩) p.rows.toNat ⟨⟨⟨_,rfl,(CoR.refl _)⟩,tt⟩,⟨⟨_,rfl,(a68 bv9 fun i hi=>CoP.of_eq (by simp [lf,a29,List.getD,show i < p.rows.toNat by omega];rfl))⟩,trivial⟩⟩ ?_;rintro i hi;refine w_5 ?_;refine hcd (fun h0=>?_) (fun h0=>?_)
 ·
  have him:i < p.rows.toNat:=by omega
  refine al3 ?_;exact lpx (i + 1) ⟨⟨⟨_,rfl,(CoR.refl _)⟩,tt⟩,⟨⟨_,rfl,(by rw [ay7 him];exact vn (fun h=>h) apy.symm bv9 (by rw [apy];exact him) rfl)⟩,uu⟩⟩
 obtain rfl:i = p.rows.toNat:=by omega
 refine dc ?_;refine br (ka 3 (ka 24 (ka 25 kn))) km (fun k=>⟨[(26,some (vI k))],[(1,some (.arr true 1 3 p.rows.toNat (lf zC (u7 p k))))]⟩) p.cls.length ⟨tt,⟨⟨_,rfl,(by rw [b53];exact CoO.refl _)⟩,trivial⟩⟩ ?_;rintro k hk;refine w_5 ?_;refine hcd (fun h1=>?_) (fun h1=>?_)
 ·
  have hkc:k < p.cls.length:=by omega
  have hvc:=a8t h hkc;have hrl:=agk h hkc;refine aau ?_;refine br (ka 3 (ka 5 (ka 24 (ka 25 (ka 26 (ka 31 (ka 32 kn))))))) km (fun j=>⟨[(33,some (vI j))],[(1,some (.arr true 1 3 p.rows.toNat (lf zC (a41 p k j))))]⟩) ((p.cls.getD k default).length) ⟨tt,⟨⟨_,rfl,(by rw [ayw];exact CoO.refl _)⟩,trivial⟩⟩ ?_;rintro j hj;refine w_5 ?_;refine hcd (fun h2=>?_) (fun h2=>?_)
  ·
   have hjc:j < (p.cls.getD k default).length:=by omega
   obtain ⟨hj1,hj2,hj3⟩:=afs hvc hjc;have hjr:(p.cls.getD k default).getD j default < p.rows.toNat:=by omega
   refine kf ?_;refine rq rfl rfl rfl rfl rfl ?_ (hp:=⟨rfl,bvi,bvi⟩);refine rs rfl rfl rfl rfl rfl ?_ (hp:=⟨rfl,bvi,bvi⟩);refine w_5 ?_;exact lpx (j + 1) ⟨tt,⟨⟨_,rfl,(by rw [azr hjc];exact vn (fun h=>h) al1.symm (by simp only [brn]) (by rw [al1];omega) rfl)⟩,trivial⟩⟩
  obtain rfl:j = (p.cls.getD k default).length:=by omega
  refine w_5 ?_;exact lpx (k + 1) ⟨tt,⟨⟨_,rfl,(by rw [<- b2h];exact CoO.refl _)⟩,trivial⟩⟩
 obtain rfl:k = p.cls.length:=by omega
 refine w_2 ?_;refine bn 3 rfl rfl rfl ?_;refine v_4 ?_;exact ⟨CoC.one (CoP.sl (by unfold y6;rw [qp]) (.inl rfl) (fun h=>h) (fun _ _ _ _=>CoP.refl _)),trivial⟩
def bi7 (a b:Prt) (ha:kz a = true) (hb:kz b = true) (hr:a.rows = b.rows):a6 bw0 228 [a.pc,b.pc] (af [pI 0]):=by
 refine hpx (nt:=18) Tryz.func228 ?_;refine sx7 ?_;refine m9 0 ?_;refine m9 1 ?_;refine w_6 ?_;refine qcx ai0 (afd a ha) ?_;refine w_3 ?_;refine qcx ai0 (afd b hb) ?_;refine qs ?_;refine hcn (fun h0=>?_) (fun h0=>?_)
 · exfalso;simp_all
 refine v_5 ?_;exact CoL.refl _
def bjc (a b:Prt) (ha:kz a = true) (hb:kz b = true) (hr:a.rows = b.rows):a6 bw0 184 [a.pc,b.pc] (af [(b3g a b).pc,pI 0]):=by
 refine hpx (nt:=48) Tryz.func184 ?_;obtain ⟨hr0,hr1⟩:=qg ha;have hla:(y6 a).length = a.rows.toNat:=qp;have hlb:(y6 b).length = a.rows.toNat:=by rw [hr];exact qp
 have hca:=w3 ha;have hcb:=w3 hb;refine sx7 ?_;refine m9 0 ?_;refine m9 1 ?_;refine m9 2 ?_;refine w_7 ?_;refine qcx (wgx Tryz.func228) (bi7 a b ha hb hr) ?_;refine j4 ?_;refine qcx (wgx Tryz.func229) (b8j a ha) ?_;refine qy ?_;refine qcx (wgx Tryz.func229) (b8j b hb) ?_;refine w_8 ?_;refine m9 3 ?_;refine dc ?_;refine br (ka 2 (ka 4 (ka 7 (ka 8 (ka 26 kn))))) (kb 0 (kb 2 km)) (fun i=>⟨[(9,some (.v (.one (.ref 3 a.rows.toNat)))),(27,some (vI i))],[(3,some (.arr true 2 274 a.rows.toNat (lf k2C (pz a b i))))]⟩) a.rows.toNat ⟨⟨⟨_,rfl,(CoR.refl _)⟩,tt⟩,⟨⟨_,rfl,(asc bv9 fun i hi=>⟨CoP.of_eq (by simp [lf,pz,List.getD,show i < a.rows.toNat by omega];rfl),CoP.of_eq (by simp [lf,pz,List.getD,show i < a.rows.toNat by omega];rfl)⟩)⟩,trivial⟩⟩ ?_;rintro i hi;refine w_5 ?_;refine hcd (fun h0=>?_) (fun h0=>?_)
 ·
  have him:i < a.rows.toNat:=by omega
  refine bnv ?_;exact lpx (i + 1) ⟨⟨⟨_,rfl,(CoR.refl _)⟩,tt⟩,⟨⟨_,rfl,(by rw [ayx him];exact am8 (fun h=>h) vm.symm bv9 (by rw [vm];exact him) rfl rfl)⟩,uu⟩⟩
 obtain rfl:i = a.rows.toNat:=by omega
 refine w_2 ?_;refine bn 9 rfl rfl rfl ?_;refine w_4 ?_;refine rc rfl rfl rfl rfl rfl rfl (wgx Tryz.func230) (bml (pz a b a.rows.toNat) (by rw [vm];omega) (bgq ha hb hr)) (⟨CoC.one (CoP.sl vm (.inl rfl) (fun h=>h) (fun _ _ _ _=>CoP.refl _)),trivial⟩) rfl rfl ?_;refine v_5 ?_;exact ⟨CoC.of_eq (by rw [b47];rfl),CoC.refl _,trivial⟩
def bge (p:Prt) (h:kz p = true):a6 bw0 185 [p.pc] (af [pI (av9 p)]):=by
 refine hpx (nt:=25) Tryz.func185 ?_;obtain ⟨hr0,hr1⟩:=qg h;have hcl:=w3 h;refine sx7 ?_;refine m9 0 ?_;refine w_6 ?_;refine qcx ai0 (afd p h) ?_;refine ahc ?_;refine br (ka 12 (ka 13 kn)) km (fun k=>⟨[(3,some (vI (zw p k))),(14,some (vI k))],[]⟩) p.cls.length kk ?_;rintro k hk;refine w_5 ?_;refine hcd (fun h0=>?_) (fun h0=>?_)
 ·
  have hkc:k < p.cls.length:=by omega
  have hrl:=agk h hkc;have hb1:=axg h (Nat.le_of_lt hkc);have hb2:=axg h (show k + 1 <= _ from hkc);have hst:=aic hkc;have hrl2:(p.cls.getD ((k:Int)).toNat default).length <= 1000:=hrl;have hst2:zw p (k + 1) = zw p k - (((p.cls.getD ((k:Int)).toNat default).length:Int) - 1):=hst;refine a4l ?_;exact lpx (k + 1) ⟨⟨⟨_,rfl,(coi hst.symm)⟩,tt⟩,trivial⟩
 obtain rfl:k = p.cls.length:=by omega
 refine v_6 ?_;exact CoL.refl _
end
section
open Go.Proofs
def bpb (n:Int) (l:List Fd) (i:Nat):Bool:=((k7 n l).take i).any (it n l)
section
variable {n:Int} {l:List Fd}
end
section
variable {d:Dps}
end
end
section
section
variable {cl:List AS} {n:Int} {s:AS}
def a9f (h4:¬ asI s = asI (aa n)) (h5:¬ asI (vq n cl s cl.length) = asI s):a1z n cl s = true:=by
 unfold a1z;rw [brk,decide_eq_true_eq,decide_eq_true_eq];exact ⟨fun e=>h4 (by rw [e]),fun e=>h5 (by rw [e])⟩
def a3s (h5:asI (vq n cl s cl.length) = asI s):a1z n cl s = false:=by
 unfold a1z;rw [dj.1 h5];simp
def a3l (h4:asI s = asI (aa n)):a1z n cl s = false:=by
 unfold a1z;rw [dj.1 h4];simp
def bk5 {i:Nat} (h:i < 10):PV.raw (.string (Utf8.encode (97 + (i:Int)))) = .raw (.string (awl i)):=by
 have:∀ i:Fin 10,Utf8.encode (97 + (i.val:Int)) = awl i.val:=by decide +kernel
 exact congrArg (fun x=>PV.raw (.string x)) (this ⟨i,h⟩)
def bj5 {j:Nat} (h:j < 32):cn .and .u32 ((asI s).fdiv (2 ^ (min j IntKind.u32.bits))) 1 = 0 <-> s.getLsbD j = false:=by
 have e1:(asI s).fdiv (2 ^ (min j IntKind.u32.bits)) = asI (s >>> j):=by
  rw [show min j IntKind.u32.bits = j from bsh (show j <= 32 by omega)];show ((s.toNat:Int)).fdiv _ = (((s >>> j).toNat:Nat):Int);rw [show (2:Int) ^ j = ((2 ^ j:Nat):Int) by simp,bul _ (btf _),<- Int.natCast_ediv,bu5,btz]
 rw [e1,show (1:Int) = asI 1 from rfl,tn];constructor
 · intro h
   have h2:(s >>> j) &&& 1 = 0:=dj.1 (h.trans (show (0:Int) = asI 0 from rfl));have h3:=congrArg (fun x:AS=>x.getLsbD 0) h2;simpa using h3
 intro hb
 have:(s >>> j) &&& 1 = 0:=by
  apply bt0;intro i hi;have hone:=lb 0 i hi;rw [show (1:AS) <<< 0 = 1 from rfl] at hone;rw [brv,hone];by_cases e:i = 0
  · subst e;simp [hb]
  simp [e]
 rw [this];rfl
variable {k:Nat}
def ayc {j:Nat} (h:j < 32) (hb:cn .and .u32 ((asI s).fdiv (2 ^ (min j IntKind.u32.bits))) 1 = 0):PV.raw (.int .i64 (k:Int)) = .raw (.int .i64 (ai5 s k j).num):=by
 unfold ai5;rw [if_neg (by rw [(bj5 h).1 hb];simp)]
def az7 {j:Nat} (h:j < 32) (hb:¬ cn .and .u32 ((asI s).fdiv (2 ^ (min j IntKind.u32.bits))) 1 = 0):PV.raw (.int .i64 0) = .raw (.int .i64 (ai5 s k j).num):=by
 unfold ai5;rw [if_pos (by rw [bj5 h] at hb;simpa using hb)]
def auj {a b:AS}:cn .and .u32 (asI a) (asI b) = asI b <-> sub b a:=by
 rw [tn,aq];constructor
 · intro h i hi hb
   have h2:=dj.1 h;rw [<- h2,brv,brk] at hb;exact hb.1
 intro h;refine congrArg asI ?_;apply bt0;intro i hi;rw [brv]
 cases hb:b.getLsbD i with
 | true=>rw [h i hi hb];rfl
 | false=>simp
def av2 (hk:k < cl.length) (h2:¬ asI (cl.getD k default) = asI s) (h3:cn .and .u32 (asI (cl.getD k default)) (asI s) = asI s):
 CoR (.v (.one (.p (.raw (.int .u32 (cn .and .u32 (asI (vq n cl s k)) (asI (cl.getD k default)))))))) (vA (vq n cl s (k + 1))) :=
 oi (by rw [tn,a7z hk,am7,if_pos ⟨fun e=>h2 (by rw [e]),auj.1 h3⟩])
def amr (hk:k < cl.length) (h3:¬ cn .and .u32 (asI (cl.getD k default)) (asI s) = asI s):CoR (vA (vq n cl s k)) (vA (vq n cl s (k + 1))) :=
 oi (by rw [a7z hk,am7,if_neg fun e=>h3 (auj.2 e.2)])
def ao0 (hk:k < cl.length) (h2:asI (cl.getD k default) = asI s):CoR (vA (vq n cl s k)) (vA (vq n cl s (k + 1))) :=
 oi (by rw [a7z hk,am7,if_neg fun e=>e.1 (dj.1 h2)])
def a09 {α:Type} [Inhabited α] {wr wr':Bool} {e:TypeId} {c:α -> Nat -> PV} {l l':List α} {x:α} {g:Nat -> Nat -> PV} (h:l' = l ++ [x]) (h0:CoP (g 0 0) (c x 0)) (h1:CoP (g 0 1) (c x 1)) (h2:CoP (g 0 2) (c x 2)) (hw:wr' = true -> wr = true:=by exact fun h=>h) :
 CoO (.arr wr 3 e (l.length + 1) (f8 l.length (lf c l) g)) (.arr wr' 3 e l'.length (lf c l')) :=
 w5 h (fun j hj=>by
  rcases (by omega:j = 0 \/ j = 1 \/ j = 2) with rfl | rfl | rfl
  · exact h0
  · exact h1
  exact h2) rfl hw
def b4c {α:Type} [Inhabited α] {e:TypeId} {c:α -> Nat -> PV} {x:α} {l:List α} {f:Nat -> Nat -> PV} (h:CoP (f 0 0) (c x 0)):CoO (.arr true 1 e (1 + l.length) (f8 1 f (lf c l))) (.arr true 1 e (x :: l).length (lf c (x :: l))) :=
 a68 (by rw [bs6,Nat.add_comm]) fun i hi=>by
  unfold f8
  cases i with
  | zero=>rw [if_pos bv9];exact h
  | succ i =>
   rw [if_neg bv9,Nat.add_sub_cancel];exact CoP.of_eq rfl
end
end
end Go.Hx
