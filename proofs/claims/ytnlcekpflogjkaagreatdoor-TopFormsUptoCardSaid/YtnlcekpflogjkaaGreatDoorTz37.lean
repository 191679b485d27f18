/- A part of the proof: Bd3 Tb3 Tb4 Kw3 Cs43 Kb4. -/
import Derived.Test.YtnlcekpflogjkaaGreatDoorTz33
import Derived.Test.YtnlcekpflogjkaaGreatDoorTz35
import Derived.Test.YtnlcekpflogjkaaGreatDoorTz36
set_option linter.all false
set_option maxRecDepth 100000
set_option maxHeartbeats 1000000
namespace Go.Hx
section
open Go.Shelf Go.RowKit Go.Proofs
abbrev tB:TypeId:=297
abbrev tC:TypeId:=5
abbrev bd(fr:Bool)(l:List UInt8):aa:=.bld fr tB tC (Lib.byteCells l)
def bd3:goodFn Tryz.prog 255:=⟨Tryz.f255,Tryz.func255,by kernel_rfl,by kernel_rfl⟩
def bae:goodFn Tryz.prog 256:=⟨Tryz.f256,Tryz.func256,by kernel_rfl,by kernel_rfl⟩
def ak4 {v:Value} (h:∃a m c,v=.slice a m c):v.ownBlock=ct v:=by
 obtain⟨a,m,c,rfl⟩:=h;cases a<;>rfl
def akr (l:List UInt8) (s:ByteArray):Lib.byteCells l++Lib.strCells s=Lib.byteCells (l++s.data.toList):=by
 simp[Lib.byteCells,Lib.strCells]
def apu {c:Ctx} {w:World} {id:Nat} {fr:Bool} {T e:TypeId} {l:List Value} (h:b7o 0 c w id fr T e l) :
 ∃b p v,c.own id=.pointer (some ⟨b,0,none⟩)/\BAt T e b p v l w/\(p=.pointer none\/p=.pointer (some ⟨b,0,none⟩))/\(∀k,c.blk id k<->k=b\/v.ownBlock=some k)/\(fr=true->p=.pointer none/\v=.slice none 0 0):=by
 obtain⟨b,p,v,h1,_,h3,h4,h5,h6,h7,h8⟩:=h;have e:=ak4 (agt h5).1;exact⟨b,p,v,h1,⟨h3,h5,by rw[e];exact h6⟩,h4,fun k=>by rw[e];exact h7 k,h8⟩
def b41{c:Ctx}{w w':World}{id b:Nat}{fr:Bool}{T e:TypeId}{v v':Value}{l l':List Value}{r:Value}{res:HR}(hM:Mem c (lk [(id, .bld fr T e l)]) w)(hown:c.own id=.pointer (some ⟨b,0,none⟩))(hblk:∀k,c.blk id k<->k=b\/v.ownBlock=some k)
 (hB':BAt T e b (.pointer (some ⟨b,0,none⟩)) v' l' w') (hbel:Below 0 w w') (hfr:∀k,k<w.heap.size->k≠b->v.ownBlock≠some k->w'.heap[k]? = w.heap[k]?) (hv':∀k,v'.ownBlock=some k->v.ownBlock=some k\/w.heap.size<=k)
 (hres:∀c' o',aq c' o' res r) :
 ∃ v2 c',Ending.returned r=.returned v2/\aq c' (lk [(id, .bld false T e l')]) res v2/\Mem c' (lk [(id, .bld false T e l')]) w'/\Below 0 w w' /\
  (∀b,b<w.heap.size->(∀id' ob,lk [(id, .bld fr T e l)] id'=some ob->¬c.blk id' b)->w'.heap[b]? = w.heap[b]?/\c'.imm b=c.imm b) /\
  (∀id' ob b,lk [(id, .bld false T e l')] id'=some ob->c'.blk id' b->w.heap.size<=b\/∃id0 ob0,lk [(id, .bld fr T e l)] id0=some ob0/\c.blk id0 b) /\
  (∀id'∈[id],Evo c (lk [(id, .bld fr T e l)]) c' (lk [(id, .bld false T e l')]) id'):=by
 have hl1:lk [(id,aa.bld fr T e l)] id=some (.bld fr T e l):=by simp[lk]
 have hl2:lk [(id,aa.bld false T e l')] id=some (.bld false T e l'):=by simp[lk]
 have one:∀{x:aa} {id':Nat} {ob:aa},lk [(id,x)] id'=some ob->id'=id/\ob=x:=fun {x id' ob} h=>⟨(ji h).1,(ji h).2⟩;have sep:∀k,k=b\/v.ownBlock=some k->c.imm k=none:=fun k hk=>hM.sep id _ k hl1 ((hblk k).2 hk);have lt:∀k ob,c.imm k=some ob->k<w.heap.size:=fun k ob hk=>(bt5.1 (hM.imm k ob hk)).1;have e':=ak4 (agt hB'.own).1;refine⟨r,{ c with blk:=fun k=>if k=id then(fun x=>x=b\/v'.ownBlock=some x)else c.blk k },rfl,hres _ _,⟨fun id' ob h=>?_,fun i i' ob ob' k h h' _ _=>?_,fun k ob hk=>?_,fun id' ob k h hk=>?_⟩,hbel,fun k hk hn=>?_,fun id' ob k h hk=>?_,fun id' hid=>?_⟩
 · obtain ⟨rfl,rfl⟩:=one h
   exact⟨b,_,v',hown,bt6 _,hB'.heap, .inr rfl,hB'.own,by rw[<- e'];exact hB'.ne,fun k=>by simp[e'],fun h=>by cases h⟩
 · rw[(one h).1,(one h').1]
 · have hk':=lt k ob hk
   refine(hfr k hk' (fun e=>?_) fun e=>?_).trans (hM.imm k ob hk)
   · have:=sep k (.inl e);have hk2:c.imm k=some ob:=hk;rw[hk2]at this;cases this
   have:=sep k (.inr e);have hk2:c.imm k=some ob:=hk;rw[hk2]at this;cases this
 · obtain ⟨rfl,rfl⟩:=one h
   simp only[if_true]at hk
   rcases hk with rfl|hk
   · exact sep _ (.inl rfl)
   rcases hv' k hk with h1|h1
   · exact sep k (.inr h1)
   show c.imm k=none
   cases hi:c.imm k with
   |none=>rfl
   |some ob=>have:=lt k ob hi;omega
 · have hn':=fun h=>hn id _ hl1 ((hblk k).2 h)
   exact⟨hfr k hk (fun e=>hn' (.inl e)) fun e=>hn' (.inr e),rfl⟩
 · obtain ⟨rfl,rfl⟩:=one h
   simp only[if_true]at hk
   rcases hk with rfl|hk
   · exact .inr ⟨_,_,hl1,(hblk _).2 (.inl rfl)⟩
   rcases hv' k hk with h1|h1
   · exact .inr ⟨_,_,hl1,(hblk k).2 (.inr h1)⟩
   exact .inl h1
 rw[btu.1 hid];exact .inr (.inr ⟨_,_,0,1,0,0,hl1,rfl,hl2,rfl,bt2 _,fun _=>rfl,fun _ _ _ _ _ _ _ h=>by cases h⟩)
def bk7 (id:Nat) (fr:Bool) (l:List UInt8) (s:ByteArray) (hlen:l.length+s.size<=140737488355328):dv Tryz.prog 255 [.one (.ref id 0), .one (.p (.raw (.string s)))] [(id,bd fr l)] (.tup [.one (.p (.raw (.int .i64 (s.size:Int)))), .one (.p (.raw .nilIface))]) [(id,bd false (l++s.data.toList))] [id]:=by
 intro w c us hM hus
 match us,hus with
 | [u,v],⟨hu,hv,_⟩ =>
  obtain⟨rfl,_⟩:=hv;have hl1:lk [(id,bd fr l)] id=some (bd fr l):=by simp[lk]
  have hu2:u=c.own id:=(hu.2.2 _ _ _ _ hl1 rfl).2 rfl;subst hu2;obtain⟨b,p,v0,hown,hB,hp,hblk,_⟩:=apu (hM.objs id _ hl1);rw[hown];refine(akx (P:=Tryz.prog) (ρ:=Tryz.lays166_ren) Tryz.lays166 Tryz.Builder_Extra_166 b p v0 _ s w hp hB (by rw[Lib.byteCells_length];exact hlen)).mono ?_;rintro e w' ⟨rfl,hbel,v',hB',hfr,hv'⟩;rw[akr]at hB';exact b41 hM hown hblk hB' hbel hfr hv' fun c' o'=>⟨_,rfl,⟨rfl,rfl⟩,⟨rfl,rfl⟩,trivial⟩
def bob (id:Nat) (fr:Bool) (l:List UInt8) (h0:l≠[]):dv Tryz.prog 256 [.one (.ref id 0)] [(id,bd fr l)] (.v (.one (.p (.raw (.string ⟨l.toArray⟩))))) [] []:=by
 intro w c us hM hus
 match us,hus with
 | [u],⟨hu,_⟩ =>
  have hl1:lk [(id,bd fr l)] id=some (bd fr l):=by simp[lk]
  have hu2:u=c.own id:=(hu.2.2 _ _ _ _ hl1 rfl).2 rfl;subst hu2;obtain⟨b,p,v0,hown,hB,hp,hblk,_⟩:=apu (hM.objs id _ hl1);rw[hown];refine(b5j (P:=Tryz.prog) (ρ:=Tryz.lays169_ren) Tryz.lays169 Tryz.Builder_Extra_169 b p v0 l w hB h0).mono ?_;rintro e w' ⟨rfl,hbel,hfr⟩;refine⟨_,c,rfl,⟨rfl,rfl⟩,⟨(fun id' ob h=>by cases h),(fun i i' ob ob' k h=>by cases h),fun k ob hk=>?_,(fun id' ob k h=>by cases h)⟩,hbel,fun k hk hn=>⟨hfr k fun e=>hn id _ hl1 ((hblk k).2 (.inr e)),rfl⟩,(fun id' ob k h=>by cases h),(fun id' hid=>by cases hid)⟩;refine(hfr k fun e=>?_).trans (hM.imm k ob hk);have:=hM.sep id _ k hl1 ((hblk k).2 (.inr e));rw[hk]at this;cases this
set_option maxHeartbeats 1000000 in
def ax0 {P:Program} {ρ:Ren} (L:Lays.n169 P ρ) (X:Builder.Extra P ρ) (b:Nat) (p:Value) (w:World) (hbk:w.heap[b]? = some (.cells #[p, .slice none 0 0] (ρ.t 72) (0,0))) :
 Calls P (ρ.f 169) #[.pointer (some ⟨b,0,none⟩)] w fun e w'=>e=.returned (.string ⟨#[]⟩)/\Below 0 w w'/\∀k:Nat,w'.heap[k]? = w.heap[k]?:=by
 have hUS:=Any.unsafeString_none L X
 have c1:w.drew.cell? ⟨b,1,none⟩=some (.slice none 0 0):=by
  have:w.drew.heap[b]? = some (.cells #[p, .slice none 0 0] (ρ.t 72) (0,0)):=hbk;rw[Lib.cell_of_heap this];rfl
 have hSD:(Builtin.unsafeSliceData_ #[(ρ.t 37)] (ρ.t 127) #[.slice none 0 0]).run P w.drew=.ok (.pointer none) w.drew:=rfl;have mixed:=L.mixed;have t72:=L.t72;have a72:=L.a72;have z72:=L.z72;have v72:=L.v72;have u72:=run_underlying L.t72;have t70:=L.t70;have a70:=L.a70;have z70:=L.z70;have v70:=L.v70;have u70:=run_underlying L.t70;have t37:=L.t37;have a37:=L.a37;have z37:=L.z37;have v37:=L.v37;have u37:=run_underlying L.t37;have t127:=L.t127;have a127:=L.a127;have z127:=L.z127;have v127:=L.v127;have u127:=run_underlying L.t127;have t3:=L.t3;have a3:=L.a3;have z3:=L.z3;have v3:=L.v3;have u3:=run_underlying L.t3;have t9:=L.t9;have a9:=L.a9;have z9:=L.z9;have v9:=L.v9;have u9:=run_underlying L.t9;have t5:=X.t5;have a5:=X.a5;have z5:=X.z5;have v5:=X.v5;have u5:=run_underlying X.t5
 go_enter L.f169,Body.n169_ntmps ρ
 go_wp2
 go_region_o
 all_goals (go_wp2;go_ret;exact⟨rfl,Below.drew (Below.refl 0 w),fun k=>rfl⟩)
def bh0 (id:Nat):dv Tryz.prog 256 [.one (.ref id 0)] [(id,bd true [])] (.v (.one (.p (.raw (.string ⟨#[]⟩))))) [] []:=by
 intro w c us hM hus
 match us,hus with
 | [u],⟨hu,_⟩ =>
  have hl1:lk [(id,bd true [])] id=some (bd true []):=by simp[lk]
  have hu2:u=c.own id:=(hu.2.2 _ _ _ _ hl1 rfl).2 rfl;subst hu2;obtain⟨b,p,v0,hown,hB,hp,hblk,hfr⟩:=apu (hM.objs id _ hl1);obtain⟨_,rfl⟩:=hfr rfl;rw[hown];refine(ax0 (P:=Tryz.prog) (ρ:=Tryz.lays169_ren) Tryz.lays169 Tryz.Builder_Extra_169 b p w hB.heap).mono ?_;rintro e w' ⟨rfl,hbel,hfr⟩;exact⟨_,c,rfl,⟨rfl,rfl⟩,⟨(fun id' ob h=>by cases h),(fun i i' ob ob' k h=>by cases h),fun k ob hk=>(hfr k).trans (hM.imm k ob hk),(fun id' ob k h=>by cases h)⟩,hbel,fun k hk hn=>⟨hfr k,rfl⟩,(fun id' ob k h=>by cases h),(fun id' hid=>by cases hid)⟩
end
section
open Go.Proofs
def bxm{p:Prop}(h:p:=by assumption):p:=h
def bi9(s:ByteArray):a7 bxr 149 [pS s] (ae [pB (mt s)]):=by
 refine hpx (nt:=58) Tryz.func149 ?_;refine cr ?_;refine al rfl rfl ?_ ?_<;>intro r0
 ·
  have h0:=tz1 r0;(iterate 3 refine k9 (gtf r0) ?_);refine w_2 ?_;(iterate 2 refine k9 rfl ?_);refine w_7 ?_
  exact hx8 rfl rfl rfl (⟨ccb (by first|exact(aiu (a17.2 bxm)).symm|exact(ac6 bx5).symm|exact(a6p bxm).symm),trivial⟩)
 have h0:=tz2 r0;(iterate 3 refine qy ?_ (hg:=(gff r0)));refine w_2 ?_;refine al rfl rfl ?_ ?_<;>intro r1
 ·
  have h1:=tz1 (bn r0 r1);(iterate 2 refine k9 (gtf r1) ?_);refine w_7 ?_
  exact hx8 rfl rfl rfl (⟨ccb (by first|exact(aiu (a17.2 bxm)).symm|exact(ac6 bx5).symm|exact(a6p bxm).symm),trivial⟩)
 have h1:=tz2 (bn r0 r1);(iterate 2 refine qy ?_ (hg:=(gff r1)));refine w_2 ?_;refine ax _ rfl ?_ ?_<;>intro r2
 · have h2:=tz1 (bn r1 r2);refine v_4 ?_;exact⟨ccb (by first|exact(aiu (a17.2 bxm)).symm|exact(ac6 bx5).symm|exact(a6p bxm).symm),trivial⟩
 have h2:=tz2 (bn r1 r2);refine fk ?_;refine dp (ι:=Unit) kn km (fun _i=>⟨[],[]⟩) (fun _i=>mt s=true) ?_ ?_
 ·
  refine w_7 ?_;refine am (ι:=Nat) (ka 0 (ka 18 kn)) km (fun i=>⟨[(19,some (vI i))],[]⟩) (fun i=>i<=s.size/\(∀j,j<i->(ltr (cw s j)||dig (cw s j))=true)/\(0<i->ltr (cw s 0)=true)) (fun i=>s.size-i) (0) (⟨bt6 _,d5,fun h=>by omega⟩) kk ?_;rintro i ⟨hi,hI,hz⟩;refine w_5 ?_;refine hcd ?_ ?_<;>intro h3
  ·
   refine jk ?_;refine a1y (ka 0 (ka 3 (ka 4 (ka 18 (ka 19 kn))))) km ⟨[(5,some (vB (ltr (cw s i))))],[]⟩ ?_ ?_
   ·
    refine w_4 ?_;refine al rfl rfl ?_ ?_<;>intro r4
    ·
     have h4:=tz1 r4;(iterate 2 refine qy ?_ (hg:=(gtt r4)));refine w_2 ?_;refine al rfl rfl ?_ ?_<;>intro r5
     ·
      have h5:=tz1 (br r4 r5);(iterate 3 refine k9 (gtf r5) ?_);(iterate 2 refine k9 rfl ?_);refine k9 (gtf r5) ?_;refine w_2 ?_;(iterate 2 refine k9 rfl ?_);refine w_3 ?_
      exact⟨⟨⟨_,rfl,(cob (by simp[ltr, *]))⟩,tt⟩,trivial⟩
     have h5:=tz2 (br r4 r5);(iterate 3 refine qy ?_ (hg:=(gff r5)));refine al rfl rfl ?_ ?_<;>intro r6
     ·
      have h6:=tz1 r6;(iterate 2 refine qy ?_ (hg:=(gtt r6)));refine qy ?_ (hg:=(gff r5));refine w_2 ?_;refine al rfl rfl ?_ ?_<;>intro r7
      ·
       have h7:=tz1 (br r6 (bn r5 r7));(iterate 2 refine k9 (gtf r7) ?_);refine w_3 ?_
       exact⟨⟨⟨_,rfl,(cob (by simp[ltr, *]))⟩,tt⟩,trivial⟩
      have h7:=tz2 (br r6 (bn r5 r7));(iterate 2 refine qy ?_ (hg:=(gff r7)));refine w_3 ?_
      exact⟨⟨⟨_,rfl,(cob (by simp[ltr, *]))⟩,tt⟩,trivial⟩
     have h6:=tz2 r6;(iterate 2 refine k9 (gft r6) ?_);refine rq rfl rfl rfl rfl (gff r5) ?_ (hp:=r6);refine w_2 ?_;(iterate 2 refine rq rfl rfl rfl rfl (gff (aqe r5 rfl)) ?_);refine w_3 ?_
     exact⟨⟨⟨_,rfl,(cob (by simp[ltr, *]))⟩,tt⟩,trivial⟩
    have h4:=tz2 r4;(iterate 2 refine k9 (gft r4) ?_);refine w_5 ?_;refine al rfl rfl ?_ ?_<;>intro r8
    ·
     have h8:=tz1 r8;(iterate 2 refine qy ?_ (hg:=(gtt r8)));refine w_3 ?_;refine al rfl rfl ?_ ?_<;>intro r9
     ·
      have h9:=tz1 (br r8 r9);(iterate 2 refine k9 (gtf r9) ?_);refine w_3 ?_
      exact⟨⟨⟨_,rfl,(cob (by simp[ltr, *]))⟩,tt⟩,trivial⟩
     have h9:=tz2 (br r8 r9);(iterate 2 refine qy ?_ (hg:=(gff r9)));refine w_3 ?_
     exact⟨⟨⟨_,rfl,(cob (by simp[ltr, *]))⟩,tt⟩,trivial⟩
    have h8:=tz2 r8;(iterate 2 refine k9 (gft r8) ?_);refine w_3 ?_;(iterate 2 refine rq rfl rfl rfl rfl (gff (aqe rfl rfl)) ?_);refine w_3 ?_
    exact⟨⟨⟨_,rfl,(cob (by simp[ltr, *]))⟩,tt⟩,trivial⟩
   refine w_5 ?_;refine al rfl rfl ?_ ?_<;>intro r10
   ·
    have h10:=cj r10;(iterate 3 refine qy ?_ (hg:=(gtt r10)));refine al rfl rfl ?_ ?_<;>intro r11
    ·
     have h11:=tz1 r11;(iterate 2 refine k9 (gtf r11) ?_);refine rq rfl rfl rfl rfl (gtt r10) ?_ (hp:=r11);refine qy ?_ (hg:=(gtt r10));(iterate 2 refine k9 rfl ?_);refine qy ?_ (hg:=(gtt r10));refine w_2 ?_
     refine ax _ rfl (fun _=>?_) (fun e=>Bool.noConfusion ((rt r10 rfl).symm.trans e));refine v_4 ?_;exact⟨ccb (by first|exact(a7h (i:=i) bxm bxm).symm|exact(a83 (i:=i) bx5 bxm (by simp[dig, *]<;>omega)).symm),trivial⟩
    have h11:=tz2 r11;(iterate 2 refine qy ?_ (hg:=(gff r11)));(iterate 2 refine qy ?_ (hg:=(gtt r10)));refine al rfl rfl ?_ ?_<;>intro r12
    ·
     have h12:=tz1 (bn r11 r12);(iterate 2 refine k9 (gtf r12) ?_);refine rq rfl rfl rfl rfl (gtt r10) ?_ (hp:=r12);refine w_2 ?_;refine ax _ rfl (fun _=>?_) (fun e=>Bool.noConfusion ((rt r10 rfl).symm.trans e));refine w_4 ?_
     exact hx8 rfl rfl rfl (⟨ccb (by first|exact(a7h (i:=i) bxm bxm).symm|exact(a83 (i:=i) bx5 bxm (by simp[dig, *]<;>omega)).symm),trivial⟩)
    have h12:=tz2 (bn r11 r12);(iterate 2 refine qy ?_ (hg:=(gff r12)));refine qy ?_ (hg:=(gtt r10));refine w_2 ?_;refine ax _ rfl ?_ ?_<;>intro r13
    · have h13:=tz1 (bn r12 (br r10 r13));refine v_4 ?_;exact⟨ccb (by first|exact(a7h (i:=i) bxm bxm).symm|exact(a83 (i:=i) bx5 bxm (by simp[dig, *]<;>omega)).symm),trivial⟩
    have h13:=tz2 (bn r12 (br r10 r13));refine w_5 ?_;refine lpz (i+1) kk ?_;exact⟨by omega,c6 hI (by simp_all [dig]<;>omega),fun _=>bk8 hz (fun e=>by first|assumption|(exfalso;omega))⟩
   have h10:=cn r10;(iterate 3 refine k9 (gft r10) ?_);(iterate 2 refine k9 rfl ?_);(iterate 2 refine k9 (gft r10) ?_);(iterate 2 refine k9 rfl ?_);refine k9 (gft r10) ?_;refine w_8 ?_;refine lpz (i+1) kk ?_
   exact⟨by omega,c6 hI (by simp_all [dig]<;>omega),fun _=>bk8 hz (fun e=>by first|assumption|(exfalso;omega))⟩
  refine ek ?_;refine⟨(), ?_, ?_⟩
  · exact bh2 (fun e=>absurd ((a17 (s:=s)).1 e) bxm) bx5 (hz (Nat.pos_of_ne_zero (fun e=>absurd ((a17 (s:=s)).1 bx5) bxm))) bxm (fun j hj=>hI j bx5)
  exact⟨trivial,trivial⟩
 rintro _ hj;refine v_4 ?_;exact⟨ccb hj.symm,trivial⟩
def bpy(l:List ByteArray)(s:ByteArray):a7 bxr 200 [pP (am2 l),pS s] (ae [pI (agd l s)]):=by
 refine hpx (nt:=19) Tryz.func200 ?_;refine e9 0 rfl (fun hn=>?_);refine w_4 ?_;refine dp (ι:=Unit) kn km (fun _i=>⟨[],[]⟩) (fun _i=>agd l s=-1) ?_ ?_
 ·
  refine w_7 ?_;refine am (ι:=Nat) (ka 0 (ka 1 (ka 7 kn))) km (fun i=>⟨[(8,some (vI i))],[]⟩) (fun i=>i<=l.length/\∀j,j<i->decide (l.getD j default=s)=false) (fun i=>l.length-i) (0) (⟨bt6 _,d5⟩) kk ?_;rintro i ⟨hi,hI⟩;refine w_5 ?_;refine hcd ?_ ?_<;>intro h0
  ·
   refine a2y ?_;refine hcd ?_ ?_<;>intro h1
   · refine v_5 ?_;exact⟨cci (vd (p:=fun x=>decide (x=s)) (i:=i) bx5 hI (decide_eq_true h1.symm)).symm,trivial⟩
   refine w_5 ?_;refine lpz (i+1) kk ?_;exact⟨by omega,c6 hI (decide_eq_false fun e=>h1 e.symm)⟩
  refine ek ?_;refine⟨(), ?_, ?_⟩
  · exact vq (p:=fun x=>decide (x=s)) fun j hj=>hI j bx5
  exact⟨trivial,trivial⟩
 rintro _ hj;refine v_4 ?_;exact⟨cci hj.symm,trivial⟩
def bpb (l:List ByteArray) (s:ByteArray):a7 bxr 150 [pP (am2 l),pS s] (ae [pB (decide (0<=agd l s))]):=by
 refine hpx (nt:=9) Tryz.func150 ?_;refine w_8 ?_;refine qcx (wgx Tryz.func200) (bpy _ _) ?_;refine v_3 ?_;exact CoL.refl _
def bpr(l:List Val)(g k:Nat)(caps:Nat->PV)(V:Val->Bool)(hg:goodFn bxr g)(hV:∀i,i<l.length->a7 bxr g ((l.getD i default).pc::ic caps k 0) (ae [pB (V (l.getD i default))])):a7 bxr 236 [pP (vals l),pP (.fn g k caps)] (ae [pI (idx V l)]):=by
 refine hpx (nt:=19) Tryz.func236 ?_;refine e9 0 rfl (fun hn=>?_);refine w_4 ?_;refine dp (ι:=Unit) kn km (fun _i=>⟨[],[]⟩) (fun _i=>idx V l=-1) ?_ ?_
 ·
  refine w_7 ?_;refine am (ι:=Nat) (ka 0 (ka 1 (ka 7 kn))) km (fun i=>⟨[(8,some (vI i))],[]⟩) (fun i=>i<=l.length/\∀j,j<i->V (l.getD j default)=false) (fun i=>l.length-i) (0) (⟨bt6 _,d5⟩) kk ?_;rintro i ⟨hi,hI⟩;refine w_5 ?_;refine hcd ?_ ?_<;>intro h0
  ·
   refine jk ?_;refine rc rfl rfl rfl rfl rfl rfl hg (hV i bx5) (CoL.refl _) rfl rfl ?_;refine dq ?_;refine hcb ?_ ?_<;>intro h1
   · refine v_5 ?_;exact⟨cci (vd (i:=i) bx5 hI h1).symm,trivial⟩
   refine w_5 ?_;refine lpz (i+1) kk ?_;exact⟨by omega,c6 hI (h1)⟩
  refine ek ?_;refine⟨(), ?_, ?_⟩
  · exact vq fun j hj=>hI j bx5
  exact⟨trivial,trivial⟩
 rintro _ hj;refine v_4 ?_;exact⟨cci hj.symm,trivial⟩
def bpo (l:List Val) (g k:Nat) (caps:Nat->PV) (V:Val->Bool) (hg:goodFn bxr g) (hV:∀i,i<l.length->a7 bxr g ((l.getD i default).pc::ic caps k 0) (ae [pB (V (l.getD i default))])):a7 bxr 201 [pP (vals l),pP (.fn g k caps)] (ae [pB (l.any V)]):=by
 refine hpx (nt:=9) Tryz.func201 ?_;refine w_8 ?_;refine qcx (wgx Tryz.func236) (bpr l g k caps V hg hV) ?_;refine v_3 ?_;exact⟨ccb ass,trivial⟩
def bpv (v:Val):a7 bxr 202 [v.pc] (ae [pB (!dy v)]):=by
 refine hpx (nt:=6) Tryz.func202 ?_;refine sx7 ?_;refine m9 0 ?_;refine w_5 ?_;refine qcx (wgx Tryz.func203) (c76 _) ?_;refine v_3 ?_;exact CoL.refl _
def c93 (l:List Val):a7 bxr 151 [pP (vals l)] (ae [pB (l.all dy)]):=by
 refine hpx (nt:=6) Tryz.func151 ?_;refine w_7 ?_;refine qcx (wgx Tryz.func201) (bpo l 202 0 (fun _=>.any) (fun v=>!dy v) (wgx Tryz.func202) (fun i _=>bpv _)) ?_;refine v_3 ?_;exact⟨ccb ard,trivial⟩
end
section
open Go.Proofs
abbrev vpL(ps:List PV):PV:=.vp ps.length fun j=>ps.getD j .any
def rE{n:Nat}{l:List Row}{i:Nat}{b e:Int}(hi:i<l.length)(h:i6 n b (l.drop i)=e):(if(l.getD i default).id<=b then 1 else if(l.getD i default).vals.length≠n then 6 else if((l.getD i default).vals.all dy)=false then 1 else i6 n (l.getD i default).id (l.drop (i+1)))=e:=by rw[<- apt hi];exact h
def tE {t:Tbl} {e:Int} (h0:mt t.name=true) (h1:¬16<t.attrs.length) (h2:¬1000<t.rows.length) (h3:aed t.attrs=true) (h:i6 t.attrs.length 0 t.rows=e):ey t=e:=by
 have:¬(16<t.attrs.length\/1000<t.rows.length):=by omega
 simp[ey,h0,h3,h,this]
def tE1{t:Tbl}(h0:mt t.name=false):ey t=1:=by simp[ey,h0]
def tE3{t:Tbl}(h0:mt t.name=true)(h1:16<t.attrs.length\/1000<t.rows.length):ey t=3:=by simp[ey,h0,h1]
def tE2 {t:Tbl} (h0:mt t.name=true) (h1:¬16<t.attrs.length) (h2:¬1000<t.rows.length) (h3:aed t.attrs=false):ey t=1:=by
 have:¬(16<t.attrs.length\/1000<t.rows.length):=by omega
 simp[ey,h0,h3,this]
def ao1:goodFn bxr 99:=wgx Tryz.func99
def c88(t:Tbl):a7 bxr 99 [t.pc] (ae [pI (ey t)]):=by
 refine hpx (nt:=70) Tryz.func99 ?_;refine sx7 ?_;refine m9 0 ?_;refine w_7 ?_;refine qcx (wgx Tryz.func149) (bi9 _) ?_;refine w_2 ?_;refine hcv ?_ ?_<;>intro h0
 · refine v_4 ?_;exact⟨cci (tE1 bxm).symm,trivial⟩
 refine w_9 ?_;refine al rfl rfl ?_ ?_<;>intro r1
 ·
  have h1:=tz1 r1;(iterate 4 refine k9 (gtf r1) ?_);refine w_7 ?_
  exact hx8 rfl rfl rfl (⟨cci (tE3 bxm bx5).symm,trivial⟩)
 have h1:=tz2 r1;(iterate 4 refine qy ?_ (hg:=(gff r1)));refine w_2 ?_;refine ax _ rfl ?_ ?_<;>intro r2
 · have h2:=tz1 (bn r1 r2);refine v_4 ?_;exact⟨cci (tE3 bxm bx5).symm,trivial⟩
 have h2:=tz2 (bn r1 r2);refine fk ?_;refine dp (ι:=Unit) (ka 1 kn) (kb 0 km) (fun _i=>⟨[],[]⟩) (fun _i=>aed t.attrs=true) ?_ ?_
 ·
  refine w_8 ?_;refine am (ι:=Nat) (ka 1 (ka 23 (ka 24 kn))) (kb 0 km) (fun i=>⟨[(25,some (vI i))],[]⟩) (fun i=>i<=t.attrs.length/\∀j,j<i->a4k t.attrs j=true) (fun i=>t.attrs.length-i) (0) (⟨bt6 _,d5⟩) kk ?_;rintro i ⟨hi,hI⟩;refine w_5 ?_;refine hcd ?_ ?_<;>intro h3
  ·
   refine qb ?_;refine qcx (wgx Tryz.func149) (bi9 _) ?_;refine w_2 ?_;refine al rfl rfl ?_ ?_<;>intro r4
   ·
    have h4:=cj r4;(iterate 6 refine k9 (gtf r4) ?_);refine w_7 ?_
    exact hx8 rfl rfl rfl (⟨cci (tE2 bxm bx5 bx5 (a2v (i:=i) bx5 (by first|(unfold a4k;simp_all;done)|(unfold a4k;rw[bwi];right;exact decide_eq_false bx5)))).symm,trivial⟩)
   have h4:=cn r4;(iterate 5 refine qy ?_ (hg:=(gff r4)));refine rc rfl rfl rfl rfl rfl rfl (wgx Tryz.func150) (bpb (t.attrs.take i) (t.attrs.getD i default)) (⟨CoC.one (au9 (k:=i) bx5),CoC.refl _,trivial⟩) rfl (gff r4) ?_
   refine w_2 ?_;refine ax _ rfl ?_ ?_<;>intro r5
   · have h5:=bn r4 r5;refine v_4 ?_;exact⟨cci (tE2 bxm bx5 bx5 (a2v (i:=i) bx5 (by first|(unfold a4k;simp_all;done)|(unfold a4k;rw[bwi];right;exact decide_eq_false bx5)))).symm,trivial⟩
   have h5:=bn r4 r5;have hM:=b3d h5;refine w_5 ?_;refine lpz (i+1) kk ?_;exact⟨by omega,c6 hI (by simp only[a4k,bt3,decide_eq_true_eq];exact⟨by assumption,by simp_all⟩)⟩
  refine ek ?_;refine⟨(), ?_, ?_⟩
  · exact abg fun j hj=>hI j bx5
  exact kk
 rintro _ hnm;refine w_4 ?_;refine dp (ι:=Unit) kn km (fun _i=>⟨[],[]⟩) (fun _i=>i6 t.attrs.length 0 t.rows=0) ?_ ?_
 ·
  refine w_8 ?_;refine am (ι:=(Nat×Int)) (ka 1 (ka 43 (ka 44 kn))) (kb 0 km) (fun x=>⟨[(5,some (vI x.2)),(45,some (vI x.1))],[]⟩) (fun x=>x.1<=t.rows.length/\i6 t.attrs.length x.2 (t.rows.drop x.1)=i6 t.attrs.length 0 t.rows) (fun x=>t.rows.length-x.1) ((0,0)) (⟨bt6 _,rfl⟩) kk ?_;rintro⟨i,b⟩ ⟨hi,hI⟩;dsimp only at hi hI ⊢;refine w_5 ?_;refine hcd ?_ ?_<;>intro h6
  ·
   refine w_7 ?_;refine m9 1 ?_;refine gh ?_;refine hcd ?_ ?_<;>intro h7
   · refine w_4 ?_;refine hrr ?_;have hs:=rE bx5 hI;rw[if_pos bx5]at hs;exact f9 rfl rfl (⟨cci (tE bxm bx5 bx5 bxm hs.symm).symm,trivial⟩)
   refine gv ?_;refine hcn ?_ ?_<;>intro h8
   · refine w_4 ?_;refine hrr ?_;have hs:=rE bx5 hI;rw[if_neg bx5,if_pos bx5]at hs;exact f9 rfl rfl (⟨cci (tE bxm bx5 bx5 bxm hs.symm).symm,trivial⟩)
   refine w_4 ?_;refine qcx (wgx Tryz.func151) (c93 _) ?_;refine w_3 ?_;refine hcv ?_ ?_<;>intro h9
   · refine w_4 ?_;refine hrr ?_;have hs:=rE bx5 hI;rw[if_neg bx5,if_neg bx5,if_pos bxm]at hs;exact f9 rfl rfl (⟨cci (tE bxm bx5 bx5 bxm hs.symm).symm,trivial⟩)
   refine cr ?_;refine lpz (i+1,(t.rows.getD i default).id) kk ?_;refine⟨by dsimp only;omega, ?_⟩;have hs:=rE bx5 hI;rw[if_neg bx5,if_neg bx5,if_neg (fun e=>Bool.noConfusion (e.symm.trans (show _=true by assumption)))]at hs;exact hs
  refine ek ?_;refine⟨(), ?_, ?_⟩
  · rw[<- hI,bwf bx5];rfl
  exact⟨trivial,trivial⟩
 rintro _ hj;refine v_4 ?_;exact⟨cci (tE bxm bx5 bx5 bxm hj).symm,trivial⟩
end
section
open Go.Proofs
def bmy {s:AS} {n:Nat} (hn:n<=16) (h:∀z,s.getLsbD z=true->z<n):(asI s).fdiv (2^(min n 64))=0:=by
 rw[bua bx5]
 have h2:s>>>n=0:=b62.2 fun k _ hk=>by
  rw[btf];intro hb;have:=h k hb;omega
 have h3:s.toNat/2^n=0:=by
  have:=congrArg BitVec.toNat h2;simpa [bvw,bvq]using this
 have h4:asI s=(s.toNat:Int):=rfl;rw[h4,show(2:Int)^n=((2^n:Nat):Int) by simp,bwj _ (bv7 _),<- Int.natCast_ediv,h3];rfl
def anu {t:Tbl} (hT:TOk t):a7 bxr 99 [t.pc] (ae [pI 0]):=by
 have h:=c88 t;rw[s5.2 hT]at h;exact h
def bhh {a b:Prt} (ha:lm a=true) (hb:lm b=true) (hr:a.rows=b.rows):∀i,i<(qt a b a.rows.toNat).length->(Lit.int .i64 ((qt a b a.rows.toNat).getD i default).1).wf=true/\(Lit.int .i64 ((qt a b a.rows.toNat).getD i default).2).wf=true:=fun i hi=>by
 rw[wa]at hi;obtain⟨h0,h1⟩:=qv ha
 have e:(qt a b a.rows.toNat).getD i default=((yt a).getD i default,(yt b).getD i default):=by
  rw[dn _ _ (by rw[wa];exact hi)];simp only[qt,bvl,bvb,hi,if_true]
 have ka:=ac4 (p:=a) (m:=1000) bx5 (wn ha) i (by rw[qs];exact hi);have kb:=ac4 (p:=b) (m:=1000) bx5 (wn hb) i (by rw[qs];omega);rw[e];exact⟨biu (by show _<=(ug a a.cls.length).getD i default;omega) (by show(ug a a.cls.length).getD i default<=_;omega),biu (by show _<=(ug b b.cls.length).getD i default;omega) (by show(ug b b.cls.length).getD i default<=_;omega)⟩
def bhp (id:Nat) (fr:Bool) (l:List UInt8) (h1:fr=true->l=[]) (h0:fr=false->l≠[]):dv bxr 256 [.one (.ref id 0)] [(id,bd fr l)] (.v (.one (.p (.raw (.string ⟨l.toArray⟩))))) [] []:=by
 cases fr with
 | true =>
  rw[h1 rfl];exact bh0 id
 |false=>exact bob id false l (h0 rfl)
def b3k (t:Tbl) (s:AS) (hn:t.attrs.length<=16) (hs:∀z,s.getLsbD z=true->z<t.attrs.length):a7 bxr 226 [t.pc,pA s] (ae [pB true]):=by
 refine hpx (nt:=12) Tryz.func226 ?_;refine sx7 ?_;refine m9 0 ?_;refine w_5 ?_;refine rq rfl rfl rfl rfl rfl ?_ (hp:=⟨by show(0:Int)<=_;exact tj s,by show _<=(18446744073709551615:Int);have:=a6v s;omega⟩);refine v_7 ?_;exact⟨ccb (decide_eq_true (bmy hn hs)),trivial⟩
def bpm(t:Tbl)(s:AS)(hT:TOk t)(hs:∀z,s.getLsbD z=true->z<t.attrs.length):a7 bxr 227 [t.pc,pA s] (ae [(al4 t s).pc]):=by
 refine hpx (nt:=57) Tryz.func227 ?_;have hna:=hT.na;have hnr:=hT.nr;have hm32:(ak s).length<=32:=by unfold ak;exact bth (buo _ _) (by rw[bvz];exact bt2 _)
 refine sx7 ?_;refine m9 0 ?_;refine m9 1 ?_;refine w_4 ?_;refine qcx a3z (amf s) ?_;refine w_7 ?_;refine m9 2 ?_;refine gv ?_;refine bw (ka 2 (ka 4 (ka 5 (ka 21 (ka 22 kn))))) (kb 0 (kb 1 km)) (fun i=>⟨[(6,some (.v (.one (.ref 2 t.rows.length)))),(23,some (vI i))],[(2,some (.arr true 1 9 t.rows.length (lf awm (um t s i))))]⟩) t.rows.length ⟨⟨⟨_,rfl,(CoR.of_eq (by rw[btc]))⟩,tt⟩,⟨⟨_,rfl,(a7o bx5 fun i hi=>CoP.of_eq (by have hi2:i<t.rows.length:=bx5;show _=PV.raw (.string ((um t s 0).getD i default));rw[dn _ _ (by rw[uk];exact hi2)];simp[um];rfl))⟩,trivial⟩⟩ ?_;rintro i hi;refine w_5 ?_;refine hcd ?_ ?_<;>intro h0
 ·
  have hir:i<t.rows.length:=by omega
  have hwi:(t.rows.getD i default).vals.length=t.attrs.length:=hT.width hir;have hok:(t.rows.getD i default).vals.all dy=true:=(k6 hT.rs _ (by rw[dn _ _ hir];exact bti hir)).2.2
  have hpos:¬(ak s).length=0->bl (t6 (t.rows.getD i default).vals s (ak s).length)≠[]:=fun h=>by
   obtain⟨q,hq⟩:∃q,(ak s).length=q+1:=⟨(ak s).length-1,by omega⟩;rw[hq];refine b5m bx5 ?_;have hlt:(ak s).getD q default<(t.rows.getD i default).vals.length:=by rw[hwi];exact ayj hs bx5
   rw[dn _ _ hlt];exact btl.1 hok _ (bti hlt)
  refine w_8 ?_;refine m9 3 ?_;refine w_5 ?_;refine m9 4 ?_;refine w_9 ?_;refine bw (ka 2 (ka 4 (ka 5 (ka 6 (ka 7 (ka 8 (ka 9 (ka 21 (ka 22 (ka 23 (ka 28 (ka 29 kn)))))))))))) (kb 2 (kb 0 (kb 1 (kb 3 km)))) (fun j=>⟨[(30,some (vI j))],[(4,some (bd (decide (j=0)) (bl (t6 (t.rows.getD i default).vals s j))))]⟩) ((ak s).length) ⟨tt,⟨⟨_,rfl,(CoO.refl _)⟩,trivial⟩⟩ ?_;rintro j hj;have hsz:=ajg (l:=(t.rows.getD i default).vals) (s:=s) (j:=j);refine w_5 ?_;refine hcd ?_ ?_<;>intro h1
  ·
   have hjm:j<(ak s).length:=by omega
   have hlt:(ak s).getD j default<(t.rows.getD i default).vals.length:=by rw[hwi];exact ayj hs hjm
   have hkz:=a8a (v:=((t.rows.getD i default).vals.getD ((ak s).getD j default) default));refine qb ?_;refine rq rfl rfl rfl rfl rfl ?_ (hp:=⟨rfl,by omega,by first|omega|(simp only[btc];omega)⟩);refine qy ?_;refine qcx (wgx Tryz.func158) (bqm ((t.rows.getD i default).vals.getD ((ak s).getD j default) default)) ?_;refine w_8 ?_;refine fc9 bd3 ((bk7 900 (decide (j=0)) (bl (t6 (t.rows.getD i default).vals s j)) (vk ((t.rows.getD i default).vals.getD ((ak s).getD j default) default)) (by rw[a1b];omega)).swap 900 4) uu ?_;refine w_5 ?_;exact lpx (j+1) ⟨tt,⟨⟨_,rfl,(by rw[decide_eq_false (Nat.succ_ne_zero j),a79 hjm,bjf];exact CoO.refl _)⟩,uu⟩⟩
  obtain rfl:j=(ak s).length:=by omega
  refine w_4 ?_;refine fc9 bae ((bhp 900 (decide ((ak s).length=0)) (bl (t6 (t.rows.getD i default).vals s (ak s).length)) (fun h=>by rw[bje h];rfl) (fun h=>hpos (b3d h))).swap 900 4) uu ?_;refine w_7 ?_;exact lpx (i+1) ⟨⟨⟨_,rfl,(CoR.refl _)⟩,tt⟩,⟨⟨_,rfl,(by rw[azb hir];exact vb (fun h=>h) uk.symm bx5 (by rw[uk];exact hir) (by rw[bb8,b7d bx5 (fun a ha=>by rw[hwi];exact hs a ha)];rfl))⟩,uu⟩⟩
 obtain rfl:i=t.rows.length:=by omega
 refine w_2 ?_;refine bj 6 rfl rfl rfl ?_;refine w_5 ?_;refine rc rfl rfl rfl rfl rfl rfl (wgx Tryz.func257) (bnv (um t s t.rows.length) (by rw[uk];omega) (fun i hi=>b2m hT hi)) (⟨CoC.one (CoP.sl uk (.inl rfl) (fun h=>h) (fun _ _ _ _=>CoP.refl _)),trivial⟩) rfl rfl ?_;refine v_4 ?_;exact⟨CoC.of_eq (by rw[b2r];rfl),trivial⟩
def bmu (t:Tbl) (s:AS) (hT:TOk t) (hs:∀z,s.getLsbD z=true->z<t.attrs.length):a7 bxr 183 [t.pc,pA s] (ae [(al4 t s).pc,pI 0]):=by
 refine hpx (nt:=21) Tryz.func183 ?_;have hna:=hT.na;have htz:=s5.2 hT;refine sx7 ?_;refine m9 0 ?_;refine m9 1 ?_;refine w_6 ?_;refine qcx ao1 (anu hT) ?_;refine qb ?_;refine qcx (wgx Tryz.func226) (b3k t s hna hs) ?_;refine w_8 ?_;refine qcx (wgx Tryz.func227) (bpm t s hT hs) ?_;refine v_3 ?_;exact CoL.refl _
def agw:goodFn bxr 231:=wgx Tryz.func231
def bxd{p:Prop}(h:p:=by first|omega|(simp only[btc]<;>omega)):p:=h
def aim(p:Prt)(h:lm p=true):a7 bxr 231 [p.pc] (ae [pB true]):=by
 refine hpx (nt:=68) Tryz.func231 ?_;obtain⟨hr0,hr1⟩:=qv h;have hcl:=wn h;refine sx7 ?_;refine m9 0 ?_;refine w_9 ?_;refine al rfl rfl ?_ ?_<;>intro r0
 · have h0:=tz1 r0;exfalso;omega
 have h0:=tz2 r0;(iterate 3 refine qy ?_ (hg:=(gff r0)));refine w_2 ?_;refine ax _ rfl ?_ ?_<;>intro r1
 · have h1:=tz1 (bn r0 r1);exfalso;omega
 have h1:=tz2 (bn r0 r1);refine w_5 ?_;refine m9 1 ?_;refine jk ?_;refine bw (ka 1 (ka 3 (ka 22 (ka 23 kn)))) (kb 0 km) (fun k=>⟨[(4,some (vI (ai6 p k))),(24,some (vI k))],[(1,some (.arr true 1 4 p.rows.toNat (lf bC (snT p k 0))))]⟩) p.cls.length ⟨⟨⟨_,rfl,(CoR.refl _)⟩,tt⟩,⟨⟨_,rfl,(a7o bx5 fun i hi=>CoP.of_eq (by rw[b4k];simp[lf,List.getD,show i<p.rows.toNat by omega];rfl))⟩,trivial⟩⟩ ?_;rintro k hk;refine w_5 ?_;refine hcd ?_ ?_<;>intro h2
 ·
  have hkc:k<p.cls.length:=by omega
  have hvc:=a91 h hkc;obtain⟨hc1,hc2⟩:=asw hvc;have hc3:ai6 p k<((((p.cls.getD k default)).getD (Int.toNat 0) default:Nat):Int):=hc2;have hrl:=ah5 h hkc;refine ss ?_;refine al rfl rfl ?_ ?_<;>intro r3
  · have h3:=tz1 r3;exfalso;omega
  have h3:=tz2 r3;refine qy ?_ (hg:=(gff r3));refine rq rfl rfl rfl rfl (gff r3) ?_ (hp:=⟨rfl,bxd,bxd⟩);(iterate 3 refine qy ?_ (hg:=(gff r3)));refine w_2 ?_;refine ax _ rfl ?_ ?_<;>intro r4
  · have h4:=tz1 (bn r3 r4);exfalso;omega
  have h4:=tz2 (bn r3 r4);refine w_4 ?_;refine rq rfl rfl rfl rfl rfl ?_ (hp:=⟨rfl,bxd,bxd⟩);refine qb ?_;refine bw (ka 1 (ka 3 (ka 4 (ka 22 (ka 23 (ka 24 (ka 41 (ka 42 kn)))))))) (kb 0 km) (fun j=>⟨[(7,some (vI (anb (p.cls.getD k default) j))),(43,some (vI j))],[(1,some (.arr true 1 4 p.rows.toNat (lf bC (snT p k j))))]⟩) ((p.cls.getD k default).length) kk ?_;rintro j hj;refine w_5 ?_;refine hcd ?_ ?_<;>intro h5
  ·
   have hjc:j<(p.cls.getD k default).length:=by omega
   obtain⟨hj1,hj2,hj3⟩:=ai4 hvc hjc;have hjr:(p.cls.getD k default).getD j default<p.rows.toNat:=by omega
   have hsn:=bhe (k:=k) (j:=j) hjr;rw[decide_eq_false hj3]at hsn;refine ss ?_;refine al rfl rfl ?_ ?_<;>intro r6
   · have h6:=tz1 r6;exfalso;omega
   have h6:=tz2 r6;(iterate 4 refine qy ?_ (hg:=(gff r6)));refine w_2 ?_;refine al rfl rfl ?_ ?_<;>intro r7
   · have h7:=tz1 (bn r6 r7);exfalso;omega
   have h7:=tz2 (bn r6 r7);(iterate 2 refine qy ?_ (hg:=(gff r7)));refine rq rfl rfl rfl rfl (gff r7) ?_ (hp:=⟨rfl,bxd,bxd⟩)
   refine qy ?_ (hg:=(gff r7));refine w_2 ?_;refine ax _ rfl ?_ ?_<;>intro r8
   · have h8:=bn r7 r8;exfalso;simp_all
   have h8:=bn r7 r8;refine w_5 ?_;refine rq rfl rfl rfl rfl rfl ?_ (hp:=⟨rfl,bxd,bxd⟩);refine cr ?_;exact lpx (j+1) ⟨⟨⟨_,rfl,(coi azm.symm)⟩,tt⟩,⟨⟨_,rfl,(by rw[b6r hjc hj2];exact vb (fun h=>h) aho.symm (by simp only[btc]) (by rw[aho];omega) rfl)⟩,uu⟩⟩
  obtain rfl:j=(p.cls.getD k default).length:=by omega
  refine w_5 ?_;exact lpx (k+1) ⟨⟨⟨_,rfl,(coi b0o.symm)⟩,tt⟩,⟨⟨_,rfl,(by rw[<- b4m hkc];exact CoO.refl _)⟩,uu⟩⟩
 obtain rfl:k=p.cls.length:=by omega
 refine v_5 ?_;exact CoL.refl _
def b7z(p:Prt)(h:lm p=true):a7 bxr 229 [p.pc] (ae [pP (zl (yt p))]):=by
 refine hpx (nt:=44) Tryz.func229 ?_;obtain⟨hr0,hr1⟩:=qv h;have hcl:=wn h;refine sx7 ?_;refine m9 0 ?_;refine w_6 ?_;refine m9 1 ?_;refine cr ?_;refine bw (ka 1 (ka 13 kn)) (kb 0 km) (fun i=>⟨[(3,some (.v (.one (.ref 1 p.rows.toNat)))),(14,some (vI i))],[(1,some (.arr true 1 3 p.rows.toNat (lf zC (a2p p.rows.toNat i))))]⟩) p.rows.toNat ⟨⟨⟨_,rfl,(CoR.refl _)⟩,tt⟩,⟨⟨_,rfl,(a7o bx5 fun i hi=>CoP.of_eq (by simp[lf,a2p,List.getD,show i<p.rows.toNat by omega];rfl))⟩,trivial⟩⟩ ?_;rintro i hi;refine w_5 ?_;refine hcd ?_ ?_<;>intro h0
 ·
  have him:i<p.rows.toNat:=by omega
  refine awe ?_;exact lpx (i+1) ⟨⟨⟨_,rfl,(CoR.refl _)⟩,tt⟩,⟨⟨_,rfl,(by rw[b0w him];exact vb (fun h=>h) ao5.symm bx5 (by rw[ao5];exact him) rfl)⟩,uu⟩⟩
 obtain rfl:i=p.rows.toNat:=by omega
 refine cr ?_;refine bw (ka 3 (ka 24 (ka 25 kn))) km (fun k=>⟨[(26,some (vI k))],[(1,some (.arr true 1 3 p.rows.toNat (lf zC (ug p k))))]⟩) p.cls.length ⟨tt,⟨⟨_,rfl,(by rw[b3b];exact CoO.refl _)⟩,trivial⟩⟩ ?_;rintro k hk;refine w_5 ?_;refine hcd ?_ ?_<;>intro h1
 ·
  have hkc:k<p.cls.length:=by omega
  have hvc:=a91 h hkc;have hrl:=ah5 h hkc;refine abw ?_;refine bw (ka 3 (ka 5 (ka 24 (ka 25 (ka 26 (ka 31 (ka 32 kn))))))) km (fun j=>⟨[(33,some (vI j))],[(1,some (.arr true 1 3 p.rows.toNat (lf zC (a5j p k j))))]⟩) ((p.cls.getD k default).length) ⟨tt,⟨⟨_,rfl,(by rw[ax5];exact CoO.refl _)⟩,trivial⟩⟩ ?_;rintro j hj;refine w_5 ?_;refine hcd ?_ ?_<;>intro h2
  ·
   have hjc:j<(p.cls.getD k default).length:=by omega
   obtain⟨hj1,hj2,hj3⟩:=ai4 hvc hjc;have hjr:(p.cls.getD k default).getD j default<p.rows.toNat:=by omega
   refine mq ?_;refine rq rfl rfl rfl rfl rfl ?_ (hp:=⟨rfl,bxd,bxd⟩);refine rs rfl rfl rfl rfl rfl ?_ (hp:=⟨rfl,bxd,bxd⟩);refine w_5 ?_;exact lpx (j+1) ⟨tt,⟨⟨_,rfl,(by rw[ax4 hjc];exact vb (fun h=>h) aqt.symm (by simp only[btc]) (by rw[aqt];omega) rfl)⟩,trivial⟩⟩
  obtain rfl:j=(p.cls.getD k default).length:=by omega
  refine w_5 ?_;exact lpx (k+1) ⟨tt,⟨⟨_,rfl,(by rw[<- b3f];exact CoO.refl _)⟩,trivial⟩⟩
 obtain rfl:k=p.cls.length:=by omega
 refine w_2 ?_;refine bj 3 rfl rfl rfl ?_;refine v_4 ?_;exact⟨CoC.one (CoP.sl (by unfold yt;rw[qs]) (.inl rfl) (fun h=>h) (fun _ _ _ _=>CoP.refl _)),trivial⟩
def bh7 (a b:Prt) (ha:lm a=true) (hb:lm b=true) (hr:a.rows=b.rows):a7 bxr 228 [a.pc,b.pc] (ae [pI 0]):=by
 refine hpx (nt:=18) Tryz.func228 ?_;refine sx7 ?_;refine m9 0 ?_;refine m9 1 ?_;refine w_6 ?_;refine qcx agw (aim a ha) ?_;refine w_3 ?_;refine qcx agw (aim b hb) ?_;refine qb ?_;refine hcn ?_ ?_<;>intro h0
 · exfalso;simp_all
 refine v_5 ?_;exact CoL.refl _
def bkb (a b:Prt) (ha:lm a=true) (hb:lm b=true) (hr:a.rows=b.rows):a7 bxr 184 [a.pc,b.pc] (ae [(b33 a b).pc,pI 0]):=by
 refine hpx (nt:=48) Tryz.func184 ?_;obtain⟨hr0,hr1⟩:=qv ha;have hla:(yt a).length=a.rows.toNat:=qs;have hlb:(yt b).length=a.rows.toNat:=by rw[hr];exact qs
 have hca:=wn ha;have hcb:=wn hb;refine sx7 ?_;refine m9 0 ?_;refine m9 1 ?_;refine m9 2 ?_;refine w_7 ?_;refine qcx (wgx Tryz.func228) (bh7 a b ha hb hr) ?_;refine gh ?_;refine qcx (wgx Tryz.func229) (b7z a ha) ?_;refine qy ?_;refine qcx (wgx Tryz.func229) (b7z b hb) ?_;refine w_8 ?_;refine m9 3 ?_;refine cr ?_;refine bw (ka 2 (ka 4 (ka 7 (ka 8 (ka 26 kn))))) (kb 0 (kb 2 km)) (fun i=>⟨[(9,some (.v (.one (.ref 3 a.rows.toNat)))),(27,some (vI i))],[(3,some (.arr true 2 274 a.rows.toNat (lf k2C (qt a b i))))]⟩) a.rows.toNat ⟨⟨⟨_,rfl,(CoR.refl _)⟩,tt⟩,⟨⟨_,rfl,(asf bx5 fun i hi=>⟨CoP.of_eq (by simp[lf,qt,List.getD,show i<a.rows.toNat by omega];rfl),CoP.of_eq (by simp[lf,qt,List.getD,show i<a.rows.toNat by omega];rfl)⟩)⟩,trivial⟩⟩ ?_;rintro i hi;refine w_5 ?_;refine hcd ?_ ?_<;>intro h0
 ·
  have him:i<a.rows.toNat:=by omega
  refine bqa ?_;exact lpx (i+1) ⟨⟨⟨_,rfl,(CoR.refl _)⟩,tt⟩,⟨⟨_,rfl,(by rw[b17 him];exact amc (fun h=>h) wa.symm bx5 (by rw[wa];exact him) rfl rfl)⟩,uu⟩⟩
 obtain rfl:i=a.rows.toNat:=by omega
 refine w_2 ?_;refine bj 9 rfl rfl rfl ?_;refine w_4 ?_;refine rc rfl rfl rfl rfl rfl rfl (wgx Tryz.func230) (bo8 (qt a b a.rows.toNat) (by rw[wa];omega) (bhh ha hb hr)) (⟨CoC.one (CoP.sl wa (.inl rfl) (fun h=>h) (fun _ _ _ _=>CoP.refl _)),trivial⟩) rfl rfl ?_;refine v_5 ?_;exact⟨CoC.of_eq (by rw[b4o];rfl),CoC.refl _,trivial⟩
def bhc (p:Prt) (h:lm p=true):a7 bxr 185 [p.pc] (ae [pI (awa p)]):=by
 refine hpx (nt:=25) Tryz.func185 ?_;obtain⟨hr0,hr1⟩:=qv h;have hcl:=wn h;refine sx7 ?_;refine m9 0 ?_;refine w_6 ?_;refine qcx agw (aim p h) ?_;refine a5u ?_;refine bw (ka 12 (ka 13 kn)) km (fun k=>⟨[(3,some (vI (a0i p k))),(14,some (vI k))],[]⟩) p.cls.length kk ?_;rintro k hk;refine w_5 ?_;refine hcd ?_ ?_<;>intro h0
 ·
  have hkc:k<p.cls.length:=by omega
  have hrl:=ah5 h hkc;have hb1:=ayp h (Nat.le_of_lt hkc);have hb2:=ayp h (show k+1<=_ from hkc);have hst:=aji hkc;have hrl2:(p.cls.getD ((k:Int)).toNat default).length<=1000:=hrl;have hst2:a0i p (k+1)=a0i p k-(((p.cls.getD ((k:Int)).toNat default).length:Int)-1):=hst;refine am9 ?_;exact lpx (k+1) ⟨⟨⟨_,rfl,(coi hst.symm)⟩,tt⟩,trivial⟩
 obtain rfl:k=p.cls.length:=by omega
 refine v_6 ?_;exact CoL.refl _
end
section
open Go.Proofs
def brb(n:Int)(l:List Fd)(i:Nat):Bool:=((an5 n l).take i).any (f0 n l)
section
variable {n:Int}{l:List Fd}
end
section
variable {d:Dps}
end
end
section
section
variable {cl:List AS}{n:Int}{s:AS}
def a9e (h4:¬asI s=asI (a6 n)) (h5:¬asI (xc n cl s cl.length)=asI s):a2z n cl s=true:=by
 unfold a2z;rw[bt3,decide_eq_true_eq,decide_eq_true_eq];exact⟨fun e=>h4 (by rw[e]),fun e=>h5 (by rw[e])⟩
def a3j (h5:asI (xc n cl s cl.length)=asI s):a2z n cl s=false:=by
 unfold a2z;rw[cb.1 h5];simp
def a44 (h4:asI s=asI (a6 n)):a2z n cl s=false:=by
 unfold a2z;rw[cb.1 h4];simp
def bm1 {i:Nat} (h:i<10):PV.raw (.string (Utf8.encode (97+(i:Int))))=.raw (.string (aw5 i)):=by
 have:∀i:Fin 10,Utf8.encode (97+(i.val:Int))=aw5 i.val:=by decide +kernel
 exact congrArg (fun x=>PV.raw (.string x)) (this ⟨i,h⟩)
def bhx{j:Nat}(h:j<32):bu .and .u32 ((asI s).fdiv (2^(min j IntKind.u32.bits))) 1=0<->s.getLsbD j=false:=by
 have e1:(asI s).fdiv (2^(min j IntKind.u32.bits))=asI (s>>>j):=by
  rw[show min j IntKind.u32.bits=j from bua (show j<=32 by omega)];show((s.toNat:Int)).fdiv _=(((s>>>j).toNat:Nat):Int);rw[show(2:Int)^j=((2^j:Nat):Int) by simp,bwj _ (bv7 _),<- Int.natCast_ediv,bvw,bvq]
 rw[e1,show(1:Int)=asI 1 from rfl,it];constructor
 · intro h
   have h2:(s>>>j)&&&1=0:=cb.1 (h.trans (show(0:Int)=asI 0 from rfl));have h3:=congrArg (fun x:AS=>x.getLsbD 0) h2;simpa using h3
 intro hb
 have:(s>>>j)&&&1=0:=by
  apply bu7;intro i hi;have hone:=er 0 i hi;rw[show(1:AS)<<<0=1 from rfl]at hone;rw[bta,hone];by_cases e:i=0
  · subst e;simp[hb]
  simp[e]
 rw[this];rfl
variable {k:Nat}
def ay1 {j:Nat} (h:j<32) (hb:bu .and .u32 ((asI s).fdiv (2^(min j IntKind.u32.bits))) 1=0):PV.raw (.int .i64 (k:Int))=.raw (.int .i64 (ag9 s k j).num):=by
 unfold ag9;rw[if_neg (by rw[(bhx h).1 hb];simp)]
def ay4 {j:Nat} (h:j<32) (hb:¬bu .and .u32 ((asI s).fdiv (2^(min j IntKind.u32.bits))) 1=0):PV.raw (.int .i64 0)=.raw (.int .i64 (ag9 s k j).num):=by
 unfold ag9;rw[if_pos (by rw[bhx h]at hb;simpa using hb)]
def ase{a b:AS}:bu .and .u32 (asI a) (asI b)=asI b<->sub b a:=by
 rw[it,ai];constructor
 · intro h i hi hb
   have h2:=cb.1 h;rw[<- h2,bta,bt3]at hb;exact hb.1
 intro h;refine congrArg asI ?_;apply bu7;intro i hi;rw[bta]
 cases hb:b.getLsbD i with
 |true=>rw[h i hi hb];rfl
 |false=>simp
def av6 (hk:k<cl.length) (h2:¬asI (cl.getD k default)=asI s) (h3:bu .and .u32 (asI (cl.getD k default)) (asI s)=asI s):
 CoR (.v (.one (.p (.raw (.int .u32 (bu .and .u32 (asI (xc n cl s k)) (asI (cl.getD k default)))))))) (vA (xc n cl s (k+1))) :=
 df (by rw[it,a8s hk,ang,if_pos ⟨fun e=>h2 (by rw[e]),ase.1 h3⟩])
def ap5 (hk:k<cl.length) (h3:¬bu .and .u32 (asI (cl.getD k default)) (asI s)=asI s):CoR (vA (xc n cl s k)) (vA (xc n cl s (k+1))) :=
 df (by rw[a8s hk,ang,if_neg fun e=>h3 (ase.2 e.2)])
def ape (hk:k<cl.length) (h2:asI (cl.getD k default)=asI s):CoR (vA (xc n cl s k)) (vA (xc n cl s (k+1))) :=
 df (by rw[a8s hk,ang,if_neg fun e=>e.1 (cb.1 h2)])
def a0x {α:Type} [Inhabited α] {wr wr':Bool} {e:TypeId} {c:α->Nat->PV} {l l':List α} {x:α} {g:Nat->Nat->PV} (h:l'=l++[x]) (h0:CoP (g 0 0) (c x 0)) (h1:CoP (g 0 1) (c x 1)) (h2:CoP (g 0 2) (c x 2)) (hw:wr'=true->wr=true:=by exact fun h=>h) :
 CoO (.arr wr 3 e (l.length+1) (iw l.length (lf c l) g)) (.arr wr' 3 e l'.length (lf c l')) :=
 aaa h (fun j hj=>by
  rcases(by omega:j=0\/j=1\/j=2)with rfl|rfl|rfl
  · exact h0
  · exact h1
  exact h2) rfl hw
def b5w{α:Type}[Inhabited α]{e:TypeId}{c:α->Nat->PV}{x:α}{l:List α}{f:Nat->Nat->PV}(h:CoP (f 0 0) (c x 0)):CoO (.arr true 1 e (1+l.length) (iw 1 f (lf c l))) (.arr true 1 e (x::l).length (lf c (x::l))) :=
 a7o (by rw[bud,Nat.add_comm]) fun i hi=>by
  unfold iw
  cases i with
  |zero=>rw[if_pos bx5];exact h
  | succ i =>
   rw[if_neg bx5,Nat.add_sub_cancel];exact CoP.of_eq rfl
end
end
end Go.Hx
