/- A part of the proof: Bd3 Tb3 Tb4 Kw3 Cs43. -/
import Derived.Test.YtnlcekpflogjkaaGreatDoorTy30
import Derived.Test.YtnlcekpflogjkaaGreatDoorTy32
import Derived.Test.YtnlcekpflogjkaaGreatDoorTy33
set_option linter.all false
set_option maxRecDepth 100000
set_option maxHeartbeats 1000000
namespace Go.Hx
section
open Go.Shelf Go.RowKit Go.Proofs
abbrev tB:TypeId:=297
abbrev tC:TypeId:=5
abbrev bd(fr:Bool)(l:List UInt8):a7:=.bld fr tB tC (Lib.byteCells l)
def ban:goodFn Tryz.prog 255:=⟨Tryz.f255,Tryz.func255,by kernel_rfl,by kernel_rfl⟩
def bco:goodFn Tryz.prog 256:=⟨Tryz.f256,Tryz.func256,by kernel_rfl,by kernel_rfl⟩
def akl {v:Value} (h:∃a m c,v=.slice a m c):v.ownBlock=cu v:=by
 obtain⟨a,m,c,rfl⟩:=h;cases a<;>rfl
def akr (l:List UInt8) (s:ByteArray):Lib.byteCells l++Lib.strCells s=Lib.byteCells (l++s.data.toList):=by
 simp[Lib.byteCells,Lib.strCells]
def alv {c:Ctx} {w:World} {id:Nat} {fr:Bool} {T e:TypeId} {l:List Value} (h:b8h 0 c w id fr T e l) :
 ∃b p v,c.own id=.pointer (some ⟨b,0,none⟩)/\BAt T e b p v l w/\(p=.pointer none\/p=.pointer (some ⟨b,0,none⟩))/\(∀k,c.blk id k<->k=b\/v.ownBlock=some k)/\(fr=true->p=.pointer none/\v=.slice none 0 0):=by
 obtain⟨b,p,v,h1,_,h3,h4,h5,h6,h7,h8⟩:=h;have e:=akl (agm h5).1;exact⟨b,p,v,h1,⟨h3,h5,by rw[e];exact h6⟩,h4,fun k=>by rw[e];exact h7 k,h8⟩
def b78{c:Ctx}{w w':World}{id b:Nat}{fr:Bool}{T e:TypeId}{v v':Value}{l l':List Value}{r:Value}{res:HR}(hM:Mem c (lk [(id, .bld fr T e l)]) w)(hown:c.own id=.pointer (some ⟨b,0,none⟩))(hblk:∀k,c.blk id k<->k=b\/v.ownBlock=some k)
 (hB':BAt T e b (.pointer (some ⟨b,0,none⟩)) v' l' w') (hbel:Below 0 w w') (hfr:∀k,k<w.heap.size->k≠b->v.ownBlock≠some k->w'.heap[k]? = w.heap[k]?) (hv':∀k,v'.ownBlock=some k->v.ownBlock=some k\/w.heap.size<=k)
 (hres:∀c' o',ar c' o' res r) :
 ∃ v2 c',Ending.returned r=.returned v2/\ar c' (lk [(id, .bld false T e l')]) res v2/\Mem c' (lk [(id, .bld false T e l')]) w'/\Below 0 w w' /\
  (∀b,b<w.heap.size->(∀id' ob,lk [(id, .bld fr T e l)] id'=some ob->¬c.blk id' b)->w'.heap[b]? = w.heap[b]?/\c'.imm b=c.imm b) /\
  (∀id' ob b,lk [(id, .bld false T e l')] id'=some ob->c'.blk id' b->w.heap.size<=b\/∃id0 ob0,lk [(id, .bld fr T e l)] id0=some ob0/\c.blk id0 b) /\
  (∀id'∈[id],Evo c (lk [(id, .bld fr T e l)]) c' (lk [(id, .bld false T e l')]) id'):=by
 have hl1:lk [(id,a7.bld fr T e l)] id=some (.bld fr T e l):=by simp[lk]
 have hl2:lk [(id,a7.bld false T e l')] id=some (.bld false T e l'):=by simp[lk]
 have one:∀{x:a7} {id':Nat} {ob:a7},lk [(id,x)] id'=some ob->id'=id/\ob=x:=fun {x id' ob} h=>⟨(fy h).1,(fy h).2⟩;have sep:∀k,k=b\/v.ownBlock=some k->c.imm k=none:=fun k hk=>hM.sep id _ k hl1 ((hblk k).2 hk);have lt:∀k ob,c.imm k=some ob->k<w.heap.size:=fun k ob hk=>(bt3.1 (hM.imm k ob hk)).1;have e':=akl (agm hB'.own).1;refine⟨r,{ c with blk:=fun k=>if k=id then(fun x=>x=b\/v'.ownBlock=some x)else c.blk k },rfl,hres _ _,⟨fun id' ob h=>?_,fun i i' ob ob' k h h' _ _=>?_,fun k ob hk=>?_,fun id' ob k h hk=>?_⟩,hbel,fun k hk hn=>?_,fun id' ob k h hk=>?_,fun id' hid=>?_⟩
 · obtain ⟨rfl,rfl⟩:=one h
   exact⟨b,_,v',hown,bsx _,hB'.heap, .inr rfl,hB'.own,by rw[<- e'];exact hB'.ne,fun k=>by simp[e'],fun h=>by cases h⟩
 · rw[(one h).1,(one h').1]
 · have hk':=lt k ob hk
   refine(hfr k hk' (fun e=>?_) fun e=>?_).trans (hM.imm k ob hk)
   · have:=sep k (.inl e);have hk2:c.imm k=some ob:=hk;rw[hk2]at this;cases this
   have:=sep k (.inr e);have hk2:c.imm k=some ob:=hk;rw[hk2]at this;cases this
 · obtain ⟨rfl,rfl⟩:=one h
   simp only[if_true]at hk
   rcases hk with rfl|hk
   · exact sep _ (.inl rfl)
   rcases hv' k hk with h1|h1
   · exact sep k (.inr h1)
   show c.imm k=none
   cases hi:c.imm k with
   |none=>rfl
   |some ob=>have:=lt k ob hi;omega
 · have hn':=fun h=>hn id _ hl1 ((hblk k).2 h)
   exact⟨hfr k hk (fun e=>hn' (.inl e)) fun e=>hn' (.inr e),rfl⟩
 · obtain ⟨rfl,rfl⟩:=one h
   simp only[if_true]at hk
   rcases hk with rfl|hk
   · exact .inr ⟨_,_,hl1,(hblk _).2 (.inl rfl)⟩
   rcases hv' k hk with h1|h1
   · exact .inr ⟨_,_,hl1,(hblk k).2 (.inr h1)⟩
   exact .inl h1
 rw[bte.1 hid];exact .inr (.inr ⟨_,_,0,1,0,0,hl1,rfl,hl2,rfl,bsw _,fun _=>rfl,fun _ _ _ _ _ _ _ h=>by cases h⟩)
def bgm (id:Nat) (fr:Bool) (l:List UInt8) (s:ByteArray) (hlen:l.length+s.size<=140737488355328):d9 Tryz.prog 255 [.one (.ref id 0), .one (.p (.raw (.string s)))] [(id,bd fr l)] (.tup [.one (.p (.raw (.int .i64 (s.size:Int)))), .one (.p (.raw .nilIface))]) [(id,bd false (l++s.data.toList))] [id]:=by
 intro w c us hM hus
 match us,hus with
 | [u,v],⟨hu,hv,_⟩ =>
  obtain⟨rfl,_⟩:=hv;have hl1:lk [(id,bd fr l)] id=some (bd fr l):=by simp[lk]
  have hu2:u=c.own id:=(hu.2.2 _ _ _ _ hl1 rfl).2 rfl;subst hu2;obtain⟨b,p,v0,hown,hB,hp,hblk,_⟩:=alv (hM.objs id _ hl1);rw[hown];refine(akw (P:=Tryz.prog) (ρ:=Tryz.lays166_ren) Tryz.lays166 Tryz.Builder_Extra_166 b p v0 _ s w hp hB (by rw[Lib.byteCells_length];exact hlen)).mono ?_;rintro e w' ⟨rfl,hbel,v',hB',hfr,hv'⟩;rw[akr]at hB';exact b78 hM hown hblk hB' hbel hfr hv' fun c' o'=>⟨_,rfl,⟨rfl,rfl⟩,⟨rfl,rfl⟩,trivial⟩
def bm9 (id:Nat) (fr:Bool) (l:List UInt8) (h0:l≠[]):d9 Tryz.prog 256 [.one (.ref id 0)] [(id,bd fr l)] (.v (.one (.p (.raw (.string ⟨l.toArray⟩))))) [] []:=by
 intro w c us hM hus
 match us,hus with
 | [u],⟨hu,_⟩ =>
  have hl1:lk [(id,bd fr l)] id=some (bd fr l):=by simp[lk]
  have hu2:u=c.own id:=(hu.2.2 _ _ _ _ hl1 rfl).2 rfl;subst hu2;obtain⟨b,p,v0,hown,hB,hp,hblk,_⟩:=alv (hM.objs id _ hl1);rw[hown];refine(b4b (P:=Tryz.prog) (ρ:=Tryz.lays169_ren) Tryz.lays169 Tryz.Builder_Extra_169 b p v0 l w hB h0).mono ?_;rintro e w' ⟨rfl,hbel,hfr⟩;refine⟨_,c,rfl,⟨rfl,rfl⟩,⟨(fun id' ob h=>by cases h),(fun i i' ob ob' k h=>by cases h),fun k ob hk=>?_,(fun id' ob k h=>by cases h)⟩,hbel,fun k hk hn=>⟨hfr k fun e=>hn id _ hl1 ((hblk k).2 (.inr e)),rfl⟩,(fun id' ob k h=>by cases h),(fun id' hid=>by cases hid)⟩;refine(hfr k fun e=>?_).trans (hM.imm k ob hk);have:=hM.sep id _ k hl1 ((hblk k).2 (.inr e));rw[hk]at this;cases this
set_option maxHeartbeats 1000000 in
def awi {P:Program} {ρ:Ren} (L:Lays.n169 P ρ) (X:Builder.Extra P ρ) (b:Nat) (p:Value) (w:World) (hbk:w.heap[b]? = some (.cells #[p, .slice none 0 0] (ρ.t 72) (0,0))) :
 Calls P (ρ.f 169) #[.pointer (some ⟨b,0,none⟩)] w fun e w'=>e=.returned (.string ⟨#[]⟩)/\Below 0 w w'/\∀k:Nat,w'.heap[k]? = w.heap[k]?:=by
 have hUS:=Any.unsafeString_none L X
 have c1:w.drew.cell? ⟨b,1,none⟩=some (.slice none 0 0):=by
  have:w.drew.heap[b]? = some (.cells #[p, .slice none 0 0] (ρ.t 72) (0,0)):=hbk;rw[Lib.cell_of_heap this];rfl
 have hSD:(Builtin.unsafeSliceData_ #[(ρ.t 37)] (ρ.t 127) #[.slice none 0 0]).run P w.drew=.ok (.pointer none) w.drew:=rfl;have mixed:=L.mixed;have t72:=L.t72;have a72:=L.a72;have z72:=L.z72;have v72:=L.v72;have u72:=run_underlying L.t72;have t70:=L.t70;have a70:=L.a70;have z70:=L.z70;have v70:=L.v70;have u70:=run_underlying L.t70;have t37:=L.t37;have a37:=L.a37;have z37:=L.z37;have v37:=L.v37;have u37:=run_underlying L.t37;have t127:=L.t127;have a127:=L.a127;have z127:=L.z127;have v127:=L.v127;have u127:=run_underlying L.t127;have t3:=L.t3;have a3:=L.a3;have z3:=L.z3;have v3:=L.v3;have u3:=run_underlying L.t3;have t9:=L.t9;have a9:=L.a9;have z9:=L.z9;have v9:=L.v9;have u9:=run_underlying L.t9;have t5:=X.t5;have a5:=X.a5;have z5:=X.z5;have v5:=X.v5;have u5:=run_underlying X.t5
 go_enter L.f169,Body.n169_ntmps ρ
 go_wp2
 go_region_o
 all_goals (go_wp2;go_ret;exact⟨rfl,Below.drew (Below.refl 0 w),fun k=>rfl⟩)
def bit (id:Nat):d9 Tryz.prog 256 [.one (.ref id 0)] [(id,bd true [])] (.v (.one (.p (.raw (.string ⟨#[]⟩))))) [] []:=by
 intro w c us hM hus
 match us,hus with
 | [u],⟨hu,_⟩ =>
  have hl1:lk [(id,bd true [])] id=some (bd true []):=by simp[lk]
  have hu2:u=c.own id:=(hu.2.2 _ _ _ _ hl1 rfl).2 rfl;subst hu2;obtain⟨b,p,v0,hown,hB,hp,hblk,hfr⟩:=alv (hM.objs id _ hl1);obtain⟨_,rfl⟩:=hfr rfl;rw[hown];refine(awi (P:=Tryz.prog) (ρ:=Tryz.lays169_ren) Tryz.lays169 Tryz.Builder_Extra_169 b p w hB.heap).mono ?_;rintro e w' ⟨rfl,hbel,hfr⟩;exact⟨_,c,rfl,⟨rfl,rfl⟩,⟨(fun id' ob h=>by cases h),(fun i i' ob ob' k h=>by cases h),fun k ob hk=>(hfr k).trans (hM.imm k ob hk),(fun id' ob k h=>by cases h)⟩,hbel,fun k hk hn=>⟨hfr k,rfl⟩,(fun id' ob k h=>by cases h),(fun id' hid=>by cases hid)⟩
end
section
open Go.Proofs
def bfz(c:Int):a6 bxn 163 [pU8 c] (ae [pB (ltr c)]):=by
 refine hpx (nt:=21) Tryz.func163 ?_;refine w_9 ?_;refine ak rfl rfl ?_ ?_<;>intro r0
 ·
  have h0:=tz1 r0;(iterate 2 refine qy ?_ (hg:=(gtt r0)));refine w_2 ?_;refine ak rfl rfl ?_ ?_<;>intro r1
  ·
   have h1:=tz1 (c5 r0 r1);(iterate 3 refine k9 (gtf r1) ?_);(iterate 2 refine k9 rfl ?_);refine k9 (gtf r1) ?_;refine w_2 ?_;(iterate 2 refine k9 rfl ?_);refine w_3 ?_
   exact hx8 rfl rfl rfl (⟨ccb (by simp[ltr, *]),trivial⟩)
  have h1:=tz2 (c5 r0 r1);(iterate 3 refine qy ?_ (hg:=(gff r1)));refine ak rfl rfl ?_ ?_<;>intro r2
  ·
   have h2:=tz1 r2;(iterate 2 refine qy ?_ (hg:=(gtt r2)));refine qy ?_ (hg:=(gff r1));refine w_2 ?_;refine ak rfl rfl ?_ ?_<;>intro r3
   ·
    have h3:=tz1 (c5 r2 (ax r1 r3));(iterate 2 refine k9 (gtf r3) ?_);refine w_3 ?_
    exact hx8 rfl rfl rfl (⟨ccb (by simp[ltr, *]),trivial⟩)
   have h3:=tz2 (c5 r2 (ax r1 r3));(iterate 2 refine qy ?_ (hg:=(gff r3)));refine w_3 ?_
   exact hx8 rfl rfl rfl (⟨ccb (by simp[ltr, *]),trivial⟩)
  have h2:=tz2 r2;(iterate 2 refine k9 (gft r2) ?_);refine rq rfl rfl rfl rfl (gff r1) ?_ (hp:=r2);refine w_2 ?_;(iterate 2 refine rq rfl rfl rfl rfl (gff (a7a r1 rfl)) ?_);refine w_3 ?_
  exact hx8 rfl rfl rfl (⟨ccb (by simp[ltr, *]),trivial⟩)
 have h0:=tz2 r0;(iterate 2 refine k9 (gft r0) ?_);refine w_5 ?_;refine ak rfl rfl ?_ ?_<;>intro r4
 ·
  have h4:=tz1 r4;(iterate 2 refine qy ?_ (hg:=(gtt r4)));refine w_3 ?_;refine ak rfl rfl ?_ ?_<;>intro r5
  ·
   have h5:=tz1 (c5 r4 r5);(iterate 2 refine k9 (gtf r5) ?_);refine w_3 ?_
   exact hx8 rfl rfl rfl (⟨ccb (by simp[ltr, *]),trivial⟩)
  have h5:=tz2 (c5 r4 r5);(iterate 2 refine qy ?_ (hg:=(gff r5)));refine w_3 ?_
  exact hx8 rfl rfl rfl (⟨ccb (by simp[ltr, *]),trivial⟩)
 have h4:=tz2 r4;(iterate 2 refine k9 (gft r4) ?_);refine w_3 ?_;(iterate 2 refine rq rfl rfl rfl rfl (gff (a7a rfl rfl)) ?_);refine w_3 ?_
 exact hx8 rfl rfl rfl (⟨ccb (by simp[ltr, *]),trivial⟩)
def bxh{p:Prop}(h:p:=by assumption):p:=h
def bgq(s:ByteArray):a6 bxn 108 [pS s] (ae [pB (jy s)]):=by
 refine hpx (nt:=45) Tryz.func108 ?_;refine ig ?_;refine ak rfl rfl ?_ ?_<;>intro r0
 ·
  have h0:=tz1 r0;(iterate 3 refine k9 (gtf r0) ?_);refine w_2 ?_;(iterate 4 refine k9 rfl ?_);refine w_2 ?_;(iterate 2 refine k9 rfl ?_);refine w_7 ?_
  exact hx8 rfl rfl rfl (⟨ccb (by first|exact(wl bww).symm|exact(tx bww).symm|exact(zz bxh).symm|exact(qk bxh).symm),trivial⟩)
 have h0:=tz2 r0;(iterate 3 refine qy ?_ (hg:=(gff r0)));refine w_2 ?_;refine ak rfl rfl ?_ ?_<;>intro r1
 ·
  have h1:=tz1 (ax r0 r1);(iterate 4 refine k9 (gtf r1) ?_);refine w_2 ?_;(iterate 2 refine k9 rfl ?_);refine w_7 ?_
  exact hx8 rfl rfl rfl (⟨ccb (by first|exact(wl bww).symm|exact(tx bww).symm|exact(zz bxh).symm|exact(qk bxh).symm),trivial⟩)
 have h1:=tz2 (ax r0 r1);(iterate 2 refine qy ?_ (hg:=(gff r1)));refine qcx (wgx Tryz.func163) (bfz _) ?_ (hg:=(gff r1));refine qy ?_ (hg:=(gff r1));refine w_2 ?_;refine ak rfl rfl ?_ ?_<;>intro r2
 ·
  have h2:=dt (ax r1 r2);(iterate 2 refine k9 (gtf r2) ?_);refine w_7 ?_
  exact hx8 rfl rfl rfl (⟨ccb (by first|exact(wl bww).symm|exact(tx bww).symm|exact(zz bxh).symm|exact(qk bxh).symm),trivial⟩)
 have h2:=du (ax r1 r2);(iterate 2 refine qy ?_ (hg:=(gff r2)));refine w_2 ?_;refine al _ rfl ?_ ?_<;>intro r3
 · have h3:=tz1 (ax r2 r3);refine v_4 ?_;exact⟨ccb (by first|exact(wl bww).symm|exact(tx bww).symm|exact(zz bxh).symm|exact(qk bxh).symm),trivial⟩
 have h3:=tz2 (ax r2 r3);refine dn ?_;refine cg (ι:=Unit) kn km (fun _i=>⟨[],[]⟩) (fun _i=>jy s=true) ?_ ?_
 ·
  refine w_5 ?_;refine ai (ι:=Nat) (ka 0 kn) km (fun i=>⟨[(3,some (vI i))],[]⟩) (fun i=>i<=s.size/\∀j,j<i->(ltr (ce s j)||dig (ce s j))=true) (fun i=>s.size-i) (0) (⟨bsx _,bv⟩) kk ?_;rintro i ⟨hi,hI⟩;refine w_8 ?_;refine hcd ?_ ?_<;>intro h4
  ·
   refine w_8 ?_;refine qcx (wgx Tryz.func163) (bfz _) ?_;refine w_2 ?_;refine ak rfl rfl ?_ ?_<;>intro r5
   ·
    have h5:=dt r5;(iterate 5 refine qy ?_ (hg:=(gtt r5)));refine ak rfl rfl ?_ ?_<;>intro r6
    ·
     have h6:=tz1 r6;(iterate 4 refine k9 (gtf r6) ?_);refine rq rfl rfl rfl rfl (gtt r5) ?_ (hp:=r6);refine w_2 ?_;refine al _ rfl (fun _=>?_) (fun e=>Bool.noConfusion ((t8 r5 rfl).symm.trans e));refine w_4 ?_
     exact hx8 rfl rfl rfl (⟨ccb (xj (i:=i) bww bxh (by simp_all [dig]<;>omega)).symm,trivial⟩)
    have h6:=tz2 r6;(iterate 4 refine qy ?_ (hg:=(gff r6)));refine qy ?_ (hg:=(gtt r5));refine w_2 ?_;refine al _ rfl ?_ ?_<;>intro r7
    · have h7:=tz1 (ax r6 (c5 r5 r7));refine v_4 ?_;exact⟨ccb (xj (i:=i) bww bxh (by simp_all [dig]<;>omega)).symm,trivial⟩
    have h7:=tz2 (ax r6 (c5 r5 r7));refine w_6 ?_;refine lpz (i+1) kk ?_;exact⟨by omega,bc hI (by simp_all [dig]<;>omega)⟩
   have h5:=du r5;(iterate 5 refine k9 (gft r5) ?_);(iterate 4 refine k9 rfl ?_);refine k9 (gft r5) ?_;refine w_9 ?_;refine lpz (i+1) kk ?_
   exact⟨by omega,bc hI (by simp_all [dig]<;>omega)⟩
  refine ck ?_;refine⟨(), ?_, ?_⟩
  · exact ayg bww bww bxh bxh (fun j hj=>hI j bww)
  exact⟨trivial,trivial⟩
 rintro _ hj;refine v_4 ?_;exact⟨ccb hj.symm,trivial⟩
def bpu(l:List ByteArray)(s:ByteArray):a6 bxn 164 [pP (ya l),pS s] (ae [pI (a6y l s)]):=by
 refine hpx (nt:=19) Tryz.func164 ?_;refine cw 0 rfl (fun hn=>?_);refine w_4 ?_;refine cg (ι:=Unit) kn km (fun _i=>⟨[],[]⟩) (fun _i=>a6y l s=-1) ?_ ?_
 ·
  refine w_5 ?_;refine ai (ι:=Nat) (ka 0 (ka 1 kn)) km (fun i=>⟨[(5,some (vI i))],[]⟩) (fun i=>i<=l.length/\∀j,j<i->decide (l.getD j default=s)=false) (fun i=>l.length-i) (0) (⟨bsx _,bv⟩) kk ?_;rintro i ⟨hi,hI⟩;refine w_8 ?_;refine hcd ?_ ?_<;>intro h0
  ·
   refine fh ?_;refine hcd ?_ ?_<;>intro h1
   · refine v_5 ?_;exact⟨cci (tn (p:=fun x=>decide (x=s)) (i:=i) bww hI (decide_eq_true h1)).symm,trivial⟩
   refine w_6 ?_;refine lpz (i+1) kk ?_;exact⟨by omega,bc hI (decide_eq_false h1)⟩
  refine ck ?_;refine⟨(), ?_, ?_⟩
  · exact tj (p:=fun x=>decide (x=s)) fun j hj=>hI j bww
  exact⟨trivial,trivial⟩
 rintro _ hj;refine v_4 ?_;exact⟨cci hj.symm,trivial⟩
def bpg(l:List ByteArray):a6 bxn 109 [pP (ya l)] (ae [pB (a1l l)]):=by
 refine hpx (nt:=27) Tryz.func109 ?_;refine cw 0 rfl (fun hn=>?_);refine w_4 ?_;refine cg (ι:=Unit) kn km (fun _i=>⟨[],[]⟩) (fun _i=>a1l l=true) ?_ ?_
 ·
  refine w_5 ?_;refine ai (ι:=Nat) (ka 0 kn) km (fun i=>⟨[(3,some (vI i))],[]⟩) (fun i=>i<=l.length/\∀j,j<i->s8 l j=true) (fun i=>l.length-i) (0) (⟨bsx _,bv⟩) kk ?_;rintro i ⟨hi,hI⟩;refine w_8 ?_;refine hcd ?_ ?_<;>intro h0
  ·
   refine w_9 ?_;refine qcx (wgx Tryz.func108) (bgq _) ?_;refine w_2 ?_;refine ak rfl rfl ?_ ?_<;>intro r1
   ·
    have h1:=dt r1;(iterate 9 refine k9 (gtf r1) ?_);refine w_8 ?_
    exact hx8 rfl rfl rfl (⟨ccb (jk (i:=i) bww (by first|(unfold s8;simp_all;done)|(unfold s8;rw[bw7];right;exact decide_eq_false bww))).symm,trivial⟩)
   have h1:=du r1;(iterate 7 refine qy ?_ (hg:=(gff r1)));refine rc rfl rfl rfl rfl rfl rfl (wgx Tryz.func164) (bpu (l.take i) (l.getD i default)) (⟨CoC.one (a9v (k:=i) bww),CoC.refl _,trivial⟩) rfl (gff r1) ?_
   refine qy ?_ (hg:=(gff r1));refine w_3 ?_;refine al _ rfl ?_ ?_<;>intro r2
   · have h2:=tz1 (ax r1 r2);refine v_4 ?_;exact⟨ccb (jk (i:=i) bww (by first|(unfold s8;simp_all;done)|(unfold s8;rw[bw7];right;exact decide_eq_false bww))).symm,trivial⟩
   have h2:=tz2 (ax r1 r2);refine w_6 ?_;refine lpz (i+1) kk ?_;exact⟨by omega,bc hI (by simp only[s8,bt5,decide_eq_true_eq];exact⟨by assumption,by omega⟩)⟩
  refine ck ?_;refine⟨(), ?_, ?_⟩
  · exact mt fun j hj=>hI j bww
  exact⟨trivial,trivial⟩
 rintro _ hj;refine v_4 ?_;exact⟨ccb hj.symm,trivial⟩
def bh6(s:ByteArray):a6 bxn 149 [pS s] (ae [pB (jy s)]):=by
 refine hpx (nt:=58) Tryz.func149 ?_;refine da ?_;refine ak rfl rfl ?_ ?_<;>intro r0
 ·
  have h0:=tz1 r0;(iterate 3 refine k9 (gtf r0) ?_);refine w_2 ?_;(iterate 2 refine k9 rfl ?_);refine w_7 ?_
  exact hx8 rfl rfl rfl (⟨ccb (by first|exact(wl (a0b.2 bxh)).symm|exact(tx bww).symm|exact(qk bxh).symm),trivial⟩)
 have h0:=tz2 r0;(iterate 3 refine qy ?_ (hg:=(gff r0)));refine w_2 ?_;refine ak rfl rfl ?_ ?_<;>intro r1
 ·
  have h1:=tz1 (ax r0 r1);(iterate 2 refine k9 (gtf r1) ?_);refine w_7 ?_
  exact hx8 rfl rfl rfl (⟨ccb (by first|exact(wl (a0b.2 bxh)).symm|exact(tx bww).symm|exact(qk bxh).symm),trivial⟩)
 have h1:=tz2 (ax r0 r1);(iterate 2 refine qy ?_ (hg:=(gff r1)));refine w_2 ?_;refine al _ rfl ?_ ?_<;>intro r2
 · have h2:=tz1 (ax r1 r2);refine v_4 ?_;exact⟨ccb (by first|exact(wl (a0b.2 bxh)).symm|exact(tx bww).symm|exact(qk bxh).symm),trivial⟩
 have h2:=tz2 (ax r1 r2);refine dn ?_;refine cg (ι:=Unit) kn km (fun _i=>⟨[],[]⟩) (fun _i=>jy s=true) ?_ ?_
 ·
  refine w_7 ?_;refine ai (ι:=Nat) (ka 0 (ka 18 kn)) km (fun i=>⟨[(19,some (vI i))],[]⟩) (fun i=>i<=s.size/\(∀j,j<i->(ltr (ce s j)||dig (ce s j))=true)/\(0<i->ltr (ce s 0)=true)) (fun i=>s.size-i) (0) (⟨bsx _,bv,fun h=>by omega⟩) kk ?_;rintro i ⟨hi,hI,hz⟩;refine w_5 ?_;refine hcd ?_ ?_<;>intro h3
  ·
   refine j5 ?_;refine a1f (ka 0 (ka 3 (ka 4 (ka 18 (ka 19 kn))))) km ⟨[(5,some (vB (ltr (ce s i))))],[]⟩ ?_ ?_
   ·
    refine w_4 ?_;refine ak rfl rfl ?_ ?_<;>intro r4
    ·
     have h4:=tz1 r4;(iterate 2 refine qy ?_ (hg:=(gtt r4)));refine w_2 ?_;refine ak rfl rfl ?_ ?_<;>intro r5
     ·
      have h5:=tz1 (c5 r4 r5);(iterate 3 refine k9 (gtf r5) ?_);(iterate 2 refine k9 rfl ?_);refine k9 (gtf r5) ?_;refine w_2 ?_;(iterate 2 refine k9 rfl ?_);refine w_3 ?_
      exact⟨⟨⟨_,rfl,(cob (by simp[ltr, *]))⟩,tt⟩,trivial⟩
     have h5:=tz2 (c5 r4 r5);(iterate 3 refine qy ?_ (hg:=(gff r5)));refine ak rfl rfl ?_ ?_<;>intro r6
     ·
      have h6:=tz1 r6;(iterate 2 refine qy ?_ (hg:=(gtt r6)));refine qy ?_ (hg:=(gff r5));refine w_2 ?_;refine ak rfl rfl ?_ ?_<;>intro r7
      ·
       have h7:=tz1 (c5 r6 (ax r5 r7));(iterate 2 refine k9 (gtf r7) ?_);refine w_3 ?_
       exact⟨⟨⟨_,rfl,(cob (by simp[ltr, *]))⟩,tt⟩,trivial⟩
      have h7:=tz2 (c5 r6 (ax r5 r7));(iterate 2 refine qy ?_ (hg:=(gff r7)));refine w_3 ?_
      exact⟨⟨⟨_,rfl,(cob (by simp[ltr, *]))⟩,tt⟩,trivial⟩
     have h6:=tz2 r6;(iterate 2 refine k9 (gft r6) ?_);refine rq rfl rfl rfl rfl (gff r5) ?_ (hp:=r6);refine w_2 ?_;(iterate 2 refine rq rfl rfl rfl rfl (gff (a7a r5 rfl)) ?_);refine w_3 ?_
     exact⟨⟨⟨_,rfl,(cob (by simp[ltr, *]))⟩,tt⟩,trivial⟩
    have h4:=tz2 r4;(iterate 2 refine k9 (gft r4) ?_);refine w_5 ?_;refine ak rfl rfl ?_ ?_<;>intro r8
    ·
     have h8:=tz1 r8;(iterate 2 refine qy ?_ (hg:=(gtt r8)));refine w_3 ?_;refine ak rfl rfl ?_ ?_<;>intro r9
     ·
      have h9:=tz1 (c5 r8 r9);(iterate 2 refine k9 (gtf r9) ?_);refine w_3 ?_
      exact⟨⟨⟨_,rfl,(cob (by simp[ltr, *]))⟩,tt⟩,trivial⟩
     have h9:=tz2 (c5 r8 r9);(iterate 2 refine qy ?_ (hg:=(gff r9)));refine w_3 ?_
     exact⟨⟨⟨_,rfl,(cob (by simp[ltr, *]))⟩,tt⟩,trivial⟩
    have h8:=tz2 r8;(iterate 2 refine k9 (gft r8) ?_);refine w_3 ?_;(iterate 2 refine rq rfl rfl rfl rfl (gff (a7a rfl rfl)) ?_);refine w_3 ?_
    exact⟨⟨⟨_,rfl,(cob (by simp[ltr, *]))⟩,tt⟩,trivial⟩
   refine w_5 ?_;refine ak rfl rfl ?_ ?_<;>intro r10
   ·
    have h10:=dt r10;(iterate 3 refine qy ?_ (hg:=(gtt r10)));refine ak rfl rfl ?_ ?_<;>intro r11
    ·
     have h11:=tz1 r11;(iterate 2 refine k9 (gtf r11) ?_);refine rq rfl rfl rfl rfl (gtt r10) ?_ (hp:=r11);refine qy ?_ (hg:=(gtt r10));(iterate 2 refine k9 rfl ?_);refine qy ?_ (hg:=(gtt r10));refine w_2 ?_
     refine al _ rfl (fun _=>?_) (fun e=>Bool.noConfusion ((t8 r10 rfl).symm.trans e));refine v_4 ?_;exact⟨ccb (by first|exact(a7e (i:=i) bxh bxh).symm|exact(xj (i:=i) bww bxh (by simp[dig, *]<;>omega)).symm),trivial⟩
    have h11:=tz2 r11;(iterate 2 refine qy ?_ (hg:=(gff r11)));(iterate 2 refine qy ?_ (hg:=(gtt r10)));refine ak rfl rfl ?_ ?_<;>intro r12
    ·
     have h12:=tz1 (ax r11 r12);(iterate 2 refine k9 (gtf r12) ?_);refine rq rfl rfl rfl rfl (gtt r10) ?_ (hp:=r12);refine w_2 ?_;refine al _ rfl (fun _=>?_) (fun e=>Bool.noConfusion ((t8 r10 rfl).symm.trans e));refine w_4 ?_
     exact hx8 rfl rfl rfl (⟨ccb (by first|exact(a7e (i:=i) bxh bxh).symm|exact(xj (i:=i) bww bxh (by simp[dig, *]<;>omega)).symm),trivial⟩)
    have h12:=tz2 (ax r11 r12);(iterate 2 refine qy ?_ (hg:=(gff r12)));refine qy ?_ (hg:=(gtt r10));refine w_2 ?_;refine al _ rfl ?_ ?_<;>intro r13
    · have h13:=tz1 (ax r12 (c5 r10 r13));refine v_4 ?_;exact⟨ccb (by first|exact(a7e (i:=i) bxh bxh).symm|exact(xj (i:=i) bww bxh (by simp[dig, *]<;>omega)).symm),trivial⟩
    have h13:=tz2 (ax r12 (c5 r10 r13));refine w_5 ?_;refine lpz (i+1) kk ?_;exact⟨by omega,bc hI (by simp_all [dig]<;>omega),fun _=>bhx hz (fun e=>by first|assumption|(exfalso;omega))⟩
   have h10:=du r10;(iterate 3 refine k9 (gft r10) ?_);(iterate 2 refine k9 rfl ?_);(iterate 2 refine k9 (gft r10) ?_);(iterate 2 refine k9 rfl ?_);refine k9 (gft r10) ?_;refine w_8 ?_;refine lpz (i+1) kk ?_
   exact⟨by omega,bc hI (by simp_all [dig]<;>omega),fun _=>bhx hz (fun e=>by first|assumption|(exfalso;omega))⟩
  refine ck ?_;refine⟨(), ?_, ?_⟩
  · exact ayg (fun e=>absurd ((a0b (s:=s)).1 e) bxh) bww (hz (Nat.pos_of_ne_zero (fun e=>absurd ((a0b (s:=s)).1 bww) bxh))) bxh (fun j hj=>hI j bww)
  exact⟨trivial,trivial⟩
 rintro _ hj;refine v_4 ?_;exact⟨ccb hj.symm,trivial⟩
def bpa(l:List ByteArray)(s:ByteArray):a6 bxn 200 [pP (ya l),pS s] (ae [pI (a6y l s)]):=by
 refine hpx (nt:=19) Tryz.func200 ?_;refine cw 0 rfl (fun hn=>?_);refine w_4 ?_;refine cg (ι:=Unit) kn km (fun _i=>⟨[],[]⟩) (fun _i=>a6y l s=-1) ?_ ?_
 ·
  refine w_7 ?_;refine ai (ι:=Nat) (ka 0 (ka 1 (ka 7 kn))) km (fun i=>⟨[(8,some (vI i))],[]⟩) (fun i=>i<=l.length/\∀j,j<i->decide (l.getD j default=s)=false) (fun i=>l.length-i) (0) (⟨bsx _,bv⟩) kk ?_;rintro i ⟨hi,hI⟩;refine w_5 ?_;refine hcd ?_ ?_<;>intro h0
  ·
   refine sv ?_;refine hcd ?_ ?_<;>intro h1
   · refine v_5 ?_;exact⟨cci (tn (p:=fun x=>decide (x=s)) (i:=i) bww hI (decide_eq_true h1.symm)).symm,trivial⟩
   refine w_5 ?_;refine lpz (i+1) kk ?_;exact⟨by omega,bc hI (decide_eq_false fun e=>h1 e.symm)⟩
  refine ck ?_;refine⟨(), ?_, ?_⟩
  · exact tj (p:=fun x=>decide (x=s)) fun j hj=>hI j bww
  exact⟨trivial,trivial⟩
 rintro _ hj;refine v_4 ?_;exact⟨cci hj.symm,trivial⟩
def bok (l:List ByteArray) (s:ByteArray):a6 bxn 150 [pP (ya l),pS s] (ae [pB (decide (0<=a6y l s))]):=by
 refine hpx (nt:=9) Tryz.func150 ?_;refine w_8 ?_;refine qcx (wgx Tryz.func200) (bpa _ _) ?_;refine v_3 ?_;exact CoL.refl _
def bps(l:List Val)(g k:Nat)(caps:Nat->PV)(V:Val->Bool)(hg:goodFn bxn g)(hV:∀i,i<l.length->a6 bxn g ((l.getD i default).pc::gq caps k 0) (ae [pB (V (l.getD i default))])):a6 bxn 236 [pP (vals l),pP (.fn g k caps)] (ae [pI (idx V l)]):=by
 refine hpx (nt:=19) Tryz.func236 ?_;refine cw 0 rfl (fun hn=>?_);refine w_4 ?_;refine cg (ι:=Unit) kn km (fun _i=>⟨[],[]⟩) (fun _i=>idx V l=-1) ?_ ?_
 ·
  refine w_7 ?_;refine ai (ι:=Nat) (ka 0 (ka 1 (ka 7 kn))) km (fun i=>⟨[(8,some (vI i))],[]⟩) (fun i=>i<=l.length/\∀j,j<i->V (l.getD j default)=false) (fun i=>l.length-i) (0) (⟨bsx _,bv⟩) kk ?_;rintro i ⟨hi,hI⟩;refine w_5 ?_;refine hcd ?_ ?_<;>intro h0
  ·
   refine j5 ?_;refine rc rfl rfl rfl rfl rfl rfl hg (hV i bww) (CoL.refl _) rfl rfl ?_;refine cj ?_;refine hcb ?_ ?_<;>intro h1
   · refine v_5 ?_;exact⟨cci (tn (i:=i) bww hI h1).symm,trivial⟩
   refine w_5 ?_;refine lpz (i+1) kk ?_;exact⟨by omega,bc hI (h1)⟩
  refine ck ?_;refine⟨(), ?_, ?_⟩
  · exact tj fun j hj=>hI j bww
  exact⟨trivial,trivial⟩
 rintro _ hj;refine v_4 ?_;exact⟨cci hj.symm,trivial⟩
def bqc (l:List Val) (g k:Nat) (caps:Nat->PV) (V:Val->Bool) (hg:goodFn bxn g) (hV:∀i,i<l.length->a6 bxn g ((l.getD i default).pc::gq caps k 0) (ae [pB (V (l.getD i default))])):a6 bxn 201 [pP (vals l),pP (.fn g k caps)] (ae [pB (l.any V)]):=by
 refine hpx (nt:=9) Tryz.func201 ?_;refine w_8 ?_;refine qcx (wgx Tryz.func236) (bps l g k caps V hg hV) ?_;refine v_3 ?_;exact⟨ccb auv,trivial⟩
def bq7 (v:Val):a6 bxn 202 [v.pc] (ae [pB (!ci v)]):=by
 refine hpx (nt:=6) Tryz.func202 ?_;refine sx7 ?_;refine m9 0 ?_;refine w_5 ?_;refine qcx (wgx Tryz.func203) (c76 _) ?_;refine v_3 ?_;exact CoL.refl _
def c93 (l:List Val):a6 bxn 151 [pP (vals l)] (ae [pB (l.all ci)]):=by
 refine hpx (nt:=6) Tryz.func151 ?_;refine w_7 ?_;refine qcx (wgx Tryz.func201) (bqc l 202 0 (fun _=>.any) (fun v=>!ci v) (wgx Tryz.func202) (fun i _=>bq7 _)) ?_;refine v_3 ?_;exact⟨ccb as1,trivial⟩
end
section
open Go.Proofs
abbrev vpL(ps:List PV):PV:=.vp ps.length fun j=>ps.getD j .any
def rE{n:Nat}{l:List Row}{i:Nat}{b e:Int}(hi:i<l.length)(h:f3 n b (l.drop i)=e):(if(l.getD i default).id<=b then 1 else if(l.getD i default).vals.length≠n then 6 else if((l.getD i default).vals.all ci)=false then 1 else f3 n (l.getD i default).id (l.drop (i+1)))=e:=by rw[<- ane hi];exact h
def tE {t:Tbl} {e:Int} (h0:jy t.name=true) (h1:¬16<t.attrs.length) (h2:¬1000<t.rows.length) (h3:a1l t.attrs=true) (h:f3 t.attrs.length 0 t.rows=e):dg t=e:=by
 have:¬(16<t.attrs.length\/1000<t.rows.length):=by omega
 simp[dg,h0,h3,h,this]
def tE1{t:Tbl}(h0:jy t.name=false):dg t=1:=by simp[dg,h0]
def tE3{t:Tbl}(h0:jy t.name=true)(h1:16<t.attrs.length\/1000<t.rows.length):dg t=3:=by simp[dg,h0,h1]
def tE2 {t:Tbl} (h0:jy t.name=true) (h1:¬16<t.attrs.length) (h2:¬1000<t.rows.length) (h3:a1l t.attrs=false):dg t=1:=by
 have:¬(16<t.attrs.length\/1000<t.rows.length):=by omega
 simp[dg,h0,h3,this]
def c82(t:Tbl):a6 bxn 50 [t.pc] (ae [pI (dg t)]):=by
 refine hpx (nt:=53) Tryz.func50 ?_;refine sx7 ?_;refine m9 0 ?_;refine w_7 ?_;refine qcx (wgx Tryz.func108) (bgq _) ?_;refine w_2 ?_;refine hcv ?_ ?_<;>intro h0
 · refine v_4 ?_;exact⟨cci (tE1 bxh).symm,trivial⟩
 refine w_9 ?_;refine ak rfl rfl ?_ ?_<;>intro r1
 ·
  have h1:=tz1 r1;(iterate 4 refine k9 (gtf r1) ?_);refine w_7 ?_
  exact hx8 rfl rfl rfl (⟨cci (tE3 bxh bww).symm,trivial⟩)
 have h1:=tz2 r1;(iterate 4 refine qy ?_ (hg:=(gff r1)));refine w_2 ?_;refine al _ rfl ?_ ?_<;>intro r2
 · have h2:=tz1 (ax r1 r2);refine v_4 ?_;exact⟨cci (tE3 bxh bww).symm,trivial⟩
 have h2:=tz2 (ax r1 r2);refine w_6 ?_;refine qcx (wgx Tryz.func109) (bpg _) ?_;refine w_2 ?_;refine hcv ?_ ?_<;>intro h3
 · refine v_4 ?_;exact⟨cci (tE2 bxh bww bww bxh).symm,trivial⟩
 refine w_5 ?_;refine cg (ι:=Unit) kn km (fun _i=>⟨[],[]⟩) (fun _i=>f3 t.attrs.length 0 t.rows=0) ?_ ?_
 ·
  refine w_5 ?_;refine ai (ι:=(Nat×Int)) (ka 1 kn) (kb 0 km) (fun x=>⟨[(3,some (vI x.2)),(4,some (vI x.1))],[]⟩) (fun x=>x.1<=t.rows.length/\f3 t.attrs.length x.2 (t.rows.drop x.1)=f3 t.attrs.length 0 t.rows) (fun x=>t.rows.length-x.1) ((0,0)) (⟨bsx _,rfl⟩) kk ?_;rintro⟨i,b⟩ ⟨hi,hI⟩;dsimp only at hi hI ⊢;refine w_9 ?_;refine hcd ?_ ?_<;>intro h4
  ·
   refine da ?_;refine m9 1 ?_;refine da ?_;refine hcd ?_ ?_<;>intro h5
   · refine w_4 ?_;refine hrr ?_;have hs:=rE bww hI;rw[if_pos bww]at hs;exact f9 rfl rfl (⟨cci (tE bxh bww bww bxh hs.symm).symm,trivial⟩)
   refine a4l ?_;refine hcn ?_ ?_<;>intro h6
   · refine w_4 ?_;refine hrr ?_;have hs:=rE bww hI;rw[if_neg bww,if_pos bww]at hs;exact f9 rfl rfl (⟨cci (tE bxh bww bww bxh hs.symm).symm,trivial⟩)
   refine w_5 ?_;refine qcx (wgx Tryz.func110) (c83 _) ?_;refine w_2 ?_;refine hcv ?_ ?_<;>intro h7
   · refine w_4 ?_;refine hrr ?_;have hs:=rE bww hI;rw[if_neg bww,if_neg bww,if_pos bxh]at hs;exact f9 rfl rfl (⟨cci (tE bxh bww bww bxh hs.symm).symm,trivial⟩)
   refine w_6 ?_;refine lpz (i+1,(t.rows.getD i default).id) kk ?_;refine⟨by dsimp only;omega, ?_⟩;have hs:=rE bww hI;rw[if_neg bww,if_neg bww,if_neg (fun e=>Bool.noConfusion (e.symm.trans (show _=true by assumption)))]at hs;exact hs
  refine ck ?_;refine⟨(), ?_, ?_⟩
  · rw[<- hI,bvw bww];rfl
  exact⟨trivial,trivial⟩
 rintro _ hj;refine v_4 ?_;exact⟨cci (tE bxh bww bww bxh hj).symm,trivial⟩
def af7:goodFn bxn 99:=wgx Tryz.func99
def c88(t:Tbl):a6 bxn 99 [t.pc] (ae [pI (dg t)]):=by
 refine hpx (nt:=70) Tryz.func99 ?_;refine sx7 ?_;refine m9 0 ?_;refine w_7 ?_;refine qcx (wgx Tryz.func149) (bh6 _) ?_;refine w_2 ?_;refine hcv ?_ ?_<;>intro h0
 · refine v_4 ?_;exact⟨cci (tE1 bxh).symm,trivial⟩
 refine w_9 ?_;refine ak rfl rfl ?_ ?_<;>intro r1
 ·
  have h1:=tz1 r1;(iterate 4 refine k9 (gtf r1) ?_);refine w_7 ?_
  exact hx8 rfl rfl rfl (⟨cci (tE3 bxh bww).symm,trivial⟩)
 have h1:=tz2 r1;(iterate 4 refine qy ?_ (hg:=(gff r1)));refine w_2 ?_;refine al _ rfl ?_ ?_<;>intro r2
 · have h2:=tz1 (ax r1 r2);refine v_4 ?_;exact⟨cci (tE3 bxh bww).symm,trivial⟩
 have h2:=tz2 (ax r1 r2);refine dn ?_;refine cg (ι:=Unit) (ka 1 kn) (kb 0 km) (fun _i=>⟨[],[]⟩) (fun _i=>a1l t.attrs=true) ?_ ?_
 ·
  refine w_8 ?_;refine ai (ι:=Nat) (ka 1 (ka 23 (ka 24 kn))) (kb 0 km) (fun i=>⟨[(25,some (vI i))],[]⟩) (fun i=>i<=t.attrs.length/\∀j,j<i->s8 t.attrs j=true) (fun i=>t.attrs.length-i) (0) (⟨bsx _,bv⟩) kk ?_;rintro i ⟨hi,hI⟩;refine w_5 ?_;refine hcd ?_ ?_<;>intro h3
  ·
   refine mz ?_;refine qcx (wgx Tryz.func149) (bh6 _) ?_;refine w_2 ?_;refine ak rfl rfl ?_ ?_<;>intro r4
   ·
    have h4:=dt r4;(iterate 6 refine k9 (gtf r4) ?_);refine w_7 ?_
    exact hx8 rfl rfl rfl (⟨cci (tE2 bxh bww bww (jk (i:=i) bww (by first|(unfold s8;simp_all;done)|(unfold s8;rw[bw7];right;exact decide_eq_false bww)))).symm,trivial⟩)
   have h4:=du r4;(iterate 5 refine qy ?_ (hg:=(gff r4)));refine rc rfl rfl rfl rfl rfl rfl (wgx Tryz.func150) (bok (t.attrs.take i) (t.attrs.getD i default)) (⟨CoC.one (a9v (k:=i) bww),CoC.refl _,trivial⟩) rfl (gff r4) ?_
   refine w_2 ?_;refine al _ rfl ?_ ?_<;>intro r5
   · have h5:=ax r4 r5;refine v_4 ?_;exact⟨cci (tE2 bxh bww bww (jk (i:=i) bww (by first|(unfold s8;simp_all;done)|(unfold s8;rw[bw7];right;exact decide_eq_false bww)))).symm,trivial⟩
   have h5:=ax r4 r5;have hM:=bko h5;refine w_5 ?_;refine lpz (i+1) kk ?_;exact⟨by omega,bc hI (by simp only[s8,bt5,decide_eq_true_eq];exact⟨by assumption,by simp_all⟩)⟩
  refine ck ?_;refine⟨(), ?_, ?_⟩
  · exact mt fun j hj=>hI j bww
  exact kk
 rintro _ hnm;refine w_4 ?_;refine cg (ι:=Unit) kn km (fun _i=>⟨[],[]⟩) (fun _i=>f3 t.attrs.length 0 t.rows=0) ?_ ?_
 ·
  refine w_8 ?_;refine ai (ι:=(Nat×Int)) (ka 1 (ka 43 (ka 44 kn))) (kb 0 km) (fun x=>⟨[(5,some (vI x.2)),(45,some (vI x.1))],[]⟩) (fun x=>x.1<=t.rows.length/\f3 t.attrs.length x.2 (t.rows.drop x.1)=f3 t.attrs.length 0 t.rows) (fun x=>t.rows.length-x.1) ((0,0)) (⟨bsx _,rfl⟩) kk ?_;rintro⟨i,b⟩ ⟨hi,hI⟩;dsimp only at hi hI ⊢;refine w_5 ?_;refine hcd ?_ ?_<;>intro h6
  ·
   refine w_7 ?_;refine m9 1 ?_;refine fh ?_;refine hcd ?_ ?_<;>intro h7
   · refine w_4 ?_;refine hrr ?_;have hs:=rE bww hI;rw[if_pos bww]at hs;exact f9 rfl rfl (⟨cci (tE bxh bww bww bxh hs.symm).symm,trivial⟩)
   refine ig ?_;refine hcn ?_ ?_<;>intro h8
   · refine w_4 ?_;refine hrr ?_;have hs:=rE bww hI;rw[if_neg bww,if_pos bww]at hs;exact f9 rfl rfl (⟨cci (tE bxh bww bww bxh hs.symm).symm,trivial⟩)
   refine w_4 ?_;refine qcx (wgx Tryz.func151) (c93 _) ?_;refine w_3 ?_;refine hcv ?_ ?_<;>intro h9
   · refine w_4 ?_;refine hrr ?_;have hs:=rE bww hI;rw[if_neg bww,if_neg bww,if_pos bxh]at hs;exact f9 rfl rfl (⟨cci (tE bxh bww bww bxh hs.symm).symm,trivial⟩)
   refine da ?_;refine lpz (i+1,(t.rows.getD i default).id) kk ?_;refine⟨by dsimp only;omega, ?_⟩;have hs:=rE bww hI;rw[if_neg bww,if_neg bww,if_neg (fun e=>Bool.noConfusion (e.symm.trans (show _=true by assumption)))]at hs;exact hs
  refine ck ?_;refine⟨(), ?_, ?_⟩
  · rw[<- hI,bvw bww];rfl
  exact⟨trivial,trivial⟩
 rintro _ hj;refine v_4 ?_;exact⟨cci (tE bxh bww bww bxh hj).symm,trivial⟩
end
section
open Go.Proofs
def bo8 {s:AS} {n:Nat} (hn:n<=16) (h:∀z,s.getLsbD z=true->z<n):(asI s).fdiv (2^(min n 64))=0:=by
 rw[btz bww]
 have h2:s>>>n=0:=b41.2 fun k _ hk=>by
  rw[btb];intro hb;have:=h k hb;omega
 have h3:s.toNat/2^n=0:=by
  have:=congrArg BitVec.toNat h2;simpa [bvq,bvm]using this
 have h4:asI s=(s.toNat:Int):=rfl;rw[h4,show(2:Int)^n=((2^n:Nat):Int) by simp,bw9 _ (bv4 _),<- Int.natCast_ediv,h3];rfl
def alu {t:Tbl} (hT:TOk t):a6 bxn 99 [t.pc] (ae [pI 0]):=by
 have h:=c88 t;rw[mc.2 hT]at h;exact h
def bib {a b:Prt} (ha:ke a=true) (hb:ke b=true) (hr:a.rows=b.rows):∀i,i<(qo a b a.rows.toNat).length->(Lit.int .i64 ((qo a b a.rows.toNat).getD i default).1).wf=true/\(Lit.int .i64 ((qo a b a.rows.toNat).getD i default).2).wf=true:=fun i hi=>by
 rw[vv]at hi;obtain⟨h0,h1⟩:=qf ha
 have e:(qo a b a.rows.toNat).getD i default=((yc a).getD i default,(yc b).getD i default):=by
  rw[c4 _ _ (by rw[vv];exact hi)];simp only[qo,bvj,bv9,hi,if_true]
 have ka:=abk (p:=a) (m:=1000) bww (w4 ha) i (by rw[qr];exact hi);have kb:=abk (p:=b) (m:=1000) bww (w4 hb) i (by rw[qr];omega);rw[e];exact⟨bgz (by show _<=(ud a a.cls.length).getD i default;omega) (by show(ud a a.cls.length).getD i default<=_;omega),bgz (by show _<=(ud b b.cls.length).getD i default;omega) (by show(ud b b.cls.length).getD i default<=_;omega)⟩
def bg4 (id:Nat) (fr:Bool) (l:List UInt8) (h1:fr=true->l=[]) (h0:fr=false->l≠[]):d9 bxn 256 [.one (.ref id 0)] [(id,bd fr l)] (.v (.one (.p (.raw (.string ⟨l.toArray⟩))))) [] []:=by
 cases fr with
 | true =>
  rw[h1 rfl];exact bit id
 |false=>exact bm9 id false l (h0 rfl)
def b6a (t:Tbl) (s:AS) (hn:t.attrs.length<=16) (hs:∀z,s.getLsbD z=true->z<t.attrs.length):a6 bxn 226 [t.pc,pA s] (ae [pB true]):=by
 refine hpx (nt:=12) Tryz.func226 ?_;refine sx7 ?_;refine m9 0 ?_;refine w_5 ?_;refine rq rfl rfl rfl rfl rfl ?_ (hp:=⟨by show(0:Int)<=_;exact t6 s,by show _<=(18446744073709551615:Int);have:=a7y s;omega⟩);refine v_7 ?_;exact⟨ccb (decide_eq_true (bo8 hn hs)),trivial⟩
def bp0(t:Tbl)(s:AS)(hT:TOk t)(hs:∀z,s.getLsbD z=true->z<t.attrs.length):a6 bxn 227 [t.pc,pA s] (ae [(ald t s).pc]):=by
 refine hpx (nt:=57) Tryz.func227 ?_;have hna:=hT.na;have hnr:=hT.nr;have hm32:(am s).length<=32:=by unfold am;exact btc (buj _ _) (by rw[bwq];exact bsw _)
 refine sx7 ?_;refine m9 0 ?_;refine m9 1 ?_;refine w_4 ?_;refine qcx a3h (aob s) ?_;refine w_7 ?_;refine m9 2 ?_;refine ig ?_;refine br (ka 2 (ka 4 (ka 5 (ka 21 (ka 22 kn))))) (kb 0 (kb 1 km)) (fun i=>⟨[(6,some (.v (.one (.ref 2 t.rows.length)))),(23,some (vI i))],[(2,some (.arr true 1 9 t.rows.length (lf ac4 (tw t s i))))]⟩) t.rows.length ⟨⟨⟨_,rfl,(CoR.of_eq (by rw[bt8]))⟩,tt⟩,⟨⟨_,rfl,(a81 bww fun i hi=>CoP.of_eq (by have hi2:i<t.rows.length:=bww;show _=PV.raw (.string ((tw t s 0).getD i default));rw[c4 _ _ (by rw[tu];exact hi2)];simp[tw];rfl))⟩,trivial⟩⟩ ?_;rintro i hi;refine w_5 ?_;refine hcd ?_ ?_<;>intro h0
 ·
  have hir:i<t.rows.length:=by omega
  have hwi:(t.rows.getD i default).vals.length=t.attrs.length:=hT.width hir;have hok:(t.rows.getD i default).vals.all ci=true:=(jn hT.rs _ (by rw[c4 _ _ hir];exact bta hir)).2.2
  have hpos:¬(am s).length=0->bl (sh (t.rows.getD i default).vals s (am s).length)≠[]:=fun h=>by
   obtain⟨q,hq⟩:∃q,(am s).length=q+1:=⟨(am s).length-1,by omega⟩;rw[hq];refine b63 bww ?_;have hlt:(am s).getD q default<(t.rows.getD i default).vals.length:=by rw[hwi];exact ayh hs bww
   rw[c4 _ _ hlt];exact btl.1 hok _ (bta hlt)
  refine w_8 ?_;refine m9 3 ?_;refine w_5 ?_;refine m9 4 ?_;refine w_9 ?_;refine br (ka 2 (ka 4 (ka 5 (ka 6 (ka 7 (ka 8 (ka 9 (ka 21 (ka 22 (ka 23 (ka 28 (ka 29 kn)))))))))))) (kb 2 (kb 0 (kb 1 (kb 3 km)))) (fun j=>⟨[(30,some (vI j))],[(4,some (bd (decide (j=0)) (bl (sh (t.rows.getD i default).vals s j))))]⟩) ((am s).length) ⟨tt,⟨⟨_,rfl,(CoO.refl _)⟩,trivial⟩⟩ ?_;rintro j hj;have hsz:=aja (l:=(t.rows.getD i default).vals) (s:=s) (j:=j);refine w_5 ?_;refine hcd ?_ ?_<;>intro h1
  ·
   have hjm:j<(am s).length:=by omega
   have hlt:(am s).getD j default<(t.rows.getD i default).vals.length:=by rw[hwi];exact ayh hs hjm
   have hkz:=a1x (v:=((t.rows.getD i default).vals.getD ((am s).getD j default) default));refine mz ?_;refine rq rfl rfl rfl rfl rfl ?_ (hp:=⟨rfl,by omega,by first|omega|(simp only[bt8];omega)⟩);refine qy ?_;refine qcx (wgx Tryz.func158) (bg2 ((t.rows.getD i default).vals.getD ((am s).getD j default) default)) ?_;refine w_8 ?_;refine fc9 ban ((bgm 900 (decide (j=0)) (bl (sh (t.rows.getD i default).vals s j)) (ub ((t.rows.getD i default).vals.getD ((am s).getD j default) default)) bxe).swap 900 4) uu ?_;refine w_5 ?_;exact lpx (j+1) ⟨tt,⟨⟨_,rfl,(by rw[decide_eq_false (Nat.succ_ne_zero j),a73 hjm,bhq];exact CoO.refl _)⟩,uu⟩⟩
  obtain rfl:j=(am s).length:=by omega
  refine w_4 ?_;refine fc9 bco ((bg4 900 (decide ((am s).length=0)) (bl (sh (t.rows.getD i default).vals s (am s).length)) (fun h=>by rw[bp2 h];rfl) (fun h=>hpos (bko h))).swap 900 4) uu ?_;refine w_7 ?_;exact lpx (i+1) ⟨⟨⟨_,rfl,(CoR.refl _)⟩,tt⟩,⟨⟨_,rfl,(by rw[b1n hir];exact vu (fun h=>h) tu.symm bww (by rw[tu];exact hir) (by rw[bcn,b5y bww (fun a ha=>by rw[hwi];exact hs a ha)];rfl))⟩,uu⟩⟩
 obtain rfl:i=t.rows.length:=by omega
 refine w_2 ?_;refine bh 6 rfl rfl rfl ?_;refine w_5 ?_;refine rc rfl rfl rfl rfl rfl rfl (wgx Tryz.func257) (bn2 (tw t s t.rows.length) (by rw[tu];omega) (fun i hi=>b3s hT hi)) (⟨CoC.one (CoP.sl tu (.inl rfl) (fun h=>h) (fun _ _ _ _=>CoP.refl _)),trivial⟩) rfl rfl ?_;refine v_4 ?_;exact⟨CoC.of_eq (by rw[b3u];rfl),trivial⟩
def bmy (t:Tbl) (s:AS) (hT:TOk t) (hs:∀z,s.getLsbD z=true->z<t.attrs.length):a6 bxn 183 [t.pc,pA s] (ae [(ald t s).pc,pI 0]):=by
 refine hpx (nt:=21) Tryz.func183 ?_;have hna:=hT.na;have htz:=mc.2 hT;refine sx7 ?_;refine m9 0 ?_;refine m9 1 ?_;refine w_6 ?_;refine qcx af7 (alu hT) ?_;refine mz ?_;refine qcx (wgx Tryz.func226) (b6a t s hna hs) ?_;refine w_8 ?_;refine qcx (wgx Tryz.func227) (bp0 t s hT hs) ?_;refine v_3 ?_;exact CoL.refl _
def aia:goodFn bxn 231:=wgx Tryz.func231
def bx5{p:Prop}(h:p:=by first|omega|(simp only[bt8]<;>omega)):p:=h
def ahw(p:Prt)(h:ke p=true):a6 bxn 231 [p.pc] (ae [pB true]):=by
 refine hpx (nt:=68) Tryz.func231 ?_;obtain⟨hr0,hr1⟩:=qf h;have hcl:=w4 h;refine sx7 ?_;refine m9 0 ?_;refine w_9 ?_;refine ak rfl rfl ?_ ?_<;>intro r0
 · have h0:=tz1 r0;exfalso;omega
 have h0:=tz2 r0;(iterate 3 refine qy ?_ (hg:=(gff r0)));refine w_2 ?_;refine al _ rfl ?_ ?_<;>intro r1
 · have h1:=tz1 (ax r0 r1);exfalso;omega
 have h1:=tz2 (ax r0 r1);refine w_5 ?_;refine m9 1 ?_;refine j5 ?_;refine br (ka 1 (ka 3 (ka 22 (ka 23 kn)))) (kb 0 km) (fun k=>⟨[(4,some (vI (agr p k))),(24,some (vI k))],[(1,some (.arr true 1 4 p.rows.toNat (lf bC (snT p k 0))))]⟩) p.cls.length ⟨⟨⟨_,rfl,(CoR.refl _)⟩,tt⟩,⟨⟨_,rfl,(a81 bww fun i hi=>CoP.of_eq (by rw[b4i];simp[lf,List.getD,show i<p.rows.toNat by omega];rfl))⟩,trivial⟩⟩ ?_;rintro k hk;refine w_5 ?_;refine hcd ?_ ?_<;>intro h2
 ·
  have hkc:k<p.cls.length:=by omega
  have hvc:=aac h hkc;obtain⟨hc1,hc2⟩:=asy hvc;have hc3:agr p k<((((p.cls.getD k default)).getD (Int.toNat 0) default:Nat):Int):=hc2;have hrl:=aif h hkc;refine ov ?_;refine ak rfl rfl ?_ ?_<;>intro r3
  · have h3:=tz1 r3;exfalso;omega
  have h3:=tz2 r3;refine qy ?_ (hg:=(gff r3));refine rq rfl rfl rfl rfl (gff r3) ?_ (hp:=⟨rfl,bx5,bx5⟩);(iterate 3 refine qy ?_ (hg:=(gff r3)));refine w_2 ?_;refine al _ rfl ?_ ?_<;>intro r4
  · have h4:=tz1 (ax r3 r4);exfalso;omega
  have h4:=tz2 (ax r3 r4);refine w_4 ?_;refine rq rfl rfl rfl rfl rfl ?_ (hp:=⟨rfl,bx5,bx5⟩);refine mz ?_;refine br (ka 1 (ka 3 (ka 4 (ka 22 (ka 23 (ka 24 (ka 41 (ka 42 kn)))))))) (kb 0 km) (fun j=>⟨[(7,some (vI (am1 (p.cls.getD k default) j))),(43,some (vI j))],[(1,some (.arr true 1 4 p.rows.toNat (lf bC (snT p k j))))]⟩) ((p.cls.getD k default).length) kk ?_;rintro j hj;refine w_5 ?_;refine hcd ?_ ?_<;>intro h5
  ·
   have hjc:j<(p.cls.getD k default).length:=by omega
   obtain⟨hj1,hj2,hj3⟩:=ahe hvc hjc;have hjr:(p.cls.getD k default).getD j default<p.rows.toNat:=by omega
   have hsn:=bjq (k:=k) (j:=j) hjr;rw[decide_eq_false hj3]at hsn;refine ov ?_;refine ak rfl rfl ?_ ?_<;>intro r6
   · have h6:=tz1 r6;exfalso;omega
   have h6:=tz2 r6;(iterate 4 refine qy ?_ (hg:=(gff r6)));refine w_2 ?_;refine ak rfl rfl ?_ ?_<;>intro r7
   · have h7:=tz1 (ax r6 r7);exfalso;omega
   have h7:=tz2 (ax r6 r7);(iterate 2 refine qy ?_ (hg:=(gff r7)));refine rq rfl rfl rfl rfl (gff r7) ?_ (hp:=⟨rfl,bx5,bx5⟩)
   refine qy ?_ (hg:=(gff r7));refine w_2 ?_;refine al _ rfl ?_ ?_<;>intro r8
   · have h8:=ax r7 r8;exfalso;simp_all
   have h8:=ax r7 r8;refine w_5 ?_;refine rq rfl rfl rfl rfl rfl ?_ (hp:=⟨rfl,bx5,bx5⟩);refine da ?_;exact lpx (j+1) ⟨⟨⟨_,rfl,(coi azt.symm)⟩,tt⟩,⟨⟨_,rfl,(by rw[b35 hjc hj2];exact vu (fun h=>h) agx.symm (by simp only[bt8]) (by rw[agx];omega) rfl)⟩,uu⟩⟩
  obtain rfl:j=(p.cls.getD k default).length:=by omega
  refine w_5 ?_;exact lpx (k+1) ⟨⟨⟨_,rfl,(coi az0.symm)⟩,tt⟩,⟨⟨_,rfl,(by rw[<- b4g hkc];exact CoO.refl _)⟩,uu⟩⟩
 obtain rfl:k=p.cls.length:=by omega
 refine v_5 ?_;exact CoL.refl _
def b9d(p:Prt)(h:ke p=true):a6 bxn 229 [p.pc] (ae [pP (zl (yc p))]):=by
 refine hpx (nt:=44) Tryz.func229 ?_;obtain⟨hr0,hr1⟩:=qf h;have hcl:=w4 h;refine sx7 ?_;refine m9 0 ?_;refine w_6 ?_;refine m9 1 ?_;refine da ?_;refine br (ka 1 (ka 13 kn)) (kb 0 km) (fun i=>⟨[(3,some (.v (.one (.ref 1 p.rows.toNat)))),(14,some (vI i))],[(1,some (.arr true 1 3 p.rows.toNat (lf zC (a2m p.rows.toNat i))))]⟩) p.rows.toNat ⟨⟨⟨_,rfl,(CoR.refl _)⟩,tt⟩,⟨⟨_,rfl,(a81 bww fun i hi=>CoP.of_eq (by simp[lf,a2m,List.getD,show i<p.rows.toNat by omega];rfl))⟩,trivial⟩⟩ ?_;rintro i hi;refine w_5 ?_;refine hcd ?_ ?_<;>intro h0
 ·
  have him:i<p.rows.toNat:=by omega
  refine ahd ?_;exact lpx (i+1) ⟨⟨⟨_,rfl,(CoR.refl _)⟩,tt⟩,⟨⟨_,rfl,(by rw[b1q him];exact vu (fun h=>h) apk.symm bww (by rw[apk];exact him) rfl)⟩,uu⟩⟩
 obtain rfl:i=p.rows.toNat:=by omega
 refine da ?_;refine br (ka 3 (ka 24 (ka 25 kn))) km (fun k=>⟨[(26,some (vI k))],[(1,some (.arr true 1 3 p.rows.toNat (lf zC (ud p k))))]⟩) p.cls.length ⟨tt,⟨⟨_,rfl,(by rw[b4t];exact CoO.refl _)⟩,trivial⟩⟩ ?_;rintro k hk;refine w_5 ?_;refine hcd ?_ ?_<;>intro h1
 ·
  have hkc:k<p.cls.length:=by omega
  have hvc:=aac h hkc;have hrl:=aif h hkc;refine a4l ?_;refine br (ka 3 (ka 5 (ka 24 (ka 25 (ka 26 (ka 31 (ka 32 kn))))))) km (fun j=>⟨[(33,some (vI j))],[(1,some (.arr true 1 3 p.rows.toNat (lf zC (a4t p k j))))]⟩) ((p.cls.getD k default).length) ⟨tt,⟨⟨_,rfl,(by rw[azp];exact CoO.refl _)⟩,trivial⟩⟩ ?_;rintro j hj;refine w_5 ?_;refine hcd ?_ ?_<;>intro h2
  ·
   have hjc:j<(p.cls.getD k default).length:=by omega
   obtain⟨hj1,hj2,hj3⟩:=ahe hvc hjc;have hjr:(p.cls.getD k default).getD j default<p.rows.toNat:=by omega
   refine jo ?_;refine rq rfl rfl rfl rfl rfl ?_ (hp:=⟨rfl,bx5,bx5⟩);refine rs rfl rfl rfl rfl rfl ?_ (hp:=⟨rfl,bx5,bx5⟩);refine w_5 ?_;exact lpx (j+1) ⟨tt,⟨⟨_,rfl,(by rw[az8 hjc];exact vu (fun h=>h) aq3.symm (by simp only[bt8]) (by rw[aq3];omega) rfl)⟩,trivial⟩⟩
  obtain rfl:j=(p.cls.getD k default).length:=by omega
  refine w_5 ?_;exact lpx (k+1) ⟨tt,⟨⟨_,rfl,(by rw[<- b5c];exact CoO.refl _)⟩,trivial⟩⟩
 obtain rfl:k=p.cls.length:=by omega
 refine w_2 ?_;refine bh 3 rfl rfl rfl ?_;refine v_4 ?_;exact⟨CoC.one (CoP.sl (by unfold yc;rw[qr]) (.inl rfl) (fun h=>h) (fun _ _ _ _=>CoP.refl _)),trivial⟩
def bgw (a b:Prt) (ha:ke a=true) (hb:ke b=true) (hr:a.rows=b.rows):a6 bxn 228 [a.pc,b.pc] (ae [pI 0]):=by
 refine hpx (nt:=18) Tryz.func228 ?_;refine sx7 ?_;refine m9 0 ?_;refine m9 1 ?_;refine w_6 ?_;refine qcx aia (ahw a ha) ?_;refine w_3 ?_;refine qcx aia (ahw b hb) ?_;refine mz ?_;refine hcn ?_ ?_<;>intro h0
 · exfalso;simp_all
 refine v_5 ?_;exact CoL.refl _
def bfy (a b:Prt) (ha:ke a=true) (hb:ke b=true) (hr:a.rows=b.rows):a6 bxn 184 [a.pc,b.pc] (ae [(b49 a b).pc,pI 0]):=by
 refine hpx (nt:=48) Tryz.func184 ?_;obtain⟨hr0,hr1⟩:=qf ha;have hla:(yc a).length=a.rows.toNat:=qr;have hlb:(yc b).length=a.rows.toNat:=by rw[hr];exact qr
 have hca:=w4 ha;have hcb:=w4 hb;refine sx7 ?_;refine m9 0 ?_;refine m9 1 ?_;refine m9 2 ?_;refine w_7 ?_;refine qcx (wgx Tryz.func228) (bgw a b ha hb hr) ?_;refine fh ?_;refine qcx (wgx Tryz.func229) (b9d a ha) ?_;refine qy ?_;refine qcx (wgx Tryz.func229) (b9d b hb) ?_;refine w_8 ?_;refine m9 3 ?_;refine da ?_;refine br (ka 2 (ka 4 (ka 7 (ka 8 (ka 26 kn))))) (kb 0 (kb 2 km)) (fun i=>⟨[(9,some (.v (.one (.ref 3 a.rows.toNat)))),(27,some (vI i))],[(3,some (.arr true 2 274 a.rows.toNat (lf k2C (qo a b i))))]⟩) a.rows.toNat ⟨⟨⟨_,rfl,(CoR.refl _)⟩,tt⟩,⟨⟨_,rfl,(at6 bww fun i hi=>⟨CoP.of_eq (by simp[lf,qo,List.getD,show i<a.rows.toNat by omega];rfl),CoP.of_eq (by simp[lf,qo,List.getD,show i<a.rows.toNat by omega];rfl)⟩)⟩,trivial⟩⟩ ?_;rintro i hi;refine w_5 ?_;refine hcd ?_ ?_<;>intro h0
 ·
  have him:i<a.rows.toNat:=by omega
  refine bpo ?_;exact lpx (i+1) ⟨⟨⟨_,rfl,(CoR.refl _)⟩,tt⟩,⟨⟨_,rfl,(by rw[aye him];exact arb (fun h=>h) vv.symm bww (by rw[vv];exact him) rfl rfl)⟩,uu⟩⟩
 obtain rfl:i=a.rows.toNat:=by omega
 refine w_2 ?_;refine bh 9 rfl rfl rfl ?_;refine w_4 ?_;refine rc rfl rfl rfl rfl rfl rfl (wgx Tryz.func230) (bmr (qo a b a.rows.toNat) (by rw[vv];omega) (bib ha hb hr)) (⟨CoC.one (CoP.sl vv (.inl rfl) (fun h=>h) (fun _ _ _ _=>CoP.refl _)),trivial⟩) rfl rfl ?_;refine v_5 ?_;exact⟨CoC.of_eq (by rw[b5p];rfl),CoC.refl _,trivial⟩
def bjt (p:Prt) (h:ke p=true):a6 bxn 185 [p.pc] (ae [pI (awo p)]):=by
 refine hpx (nt:=25) Tryz.func185 ?_;obtain⟨hr0,hr1⟩:=qf h;have hcl:=w4 h;refine sx7 ?_;refine m9 0 ?_;refine w_6 ?_;refine qcx aia (ahw p h) ?_;refine air ?_;refine br (ka 12 (ka 13 kn)) km (fun k=>⟨[(3,some (vI (a05 p k))),(14,some (vI k))],[]⟩) p.cls.length kk ?_;rintro k hk;refine w_5 ?_;refine hcd ?_ ?_<;>intro h0
 ·
  have hkc:k<p.cls.length:=by omega
  have hrl:=aif h hkc;have hb1:=azw h (Nat.le_of_lt hkc);have hb2:=azw h (show k+1<=_ from hkc);have hst:=ako hkc;have hrl2:(p.cls.getD ((k:Int)).toNat default).length<=1000:=hrl;have hst2:a05 p (k+1)=a05 p k-(((p.cls.getD ((k:Int)).toNat default).length:Int)-1):=hst;refine a5y ?_;exact lpx (k+1) ⟨⟨⟨_,rfl,(coi hst.symm)⟩,tt⟩,trivial⟩
 obtain rfl:k=p.cls.length:=by omega
 refine v_6 ?_;exact CoL.refl _
end
section
open Go.Proofs
def brb(n:Int)(l:List Fd)(i:Nat):Bool:=((aq1 n l).take i).any (oz n l)
section
variable {n:Int}{l:List Fd}
end
section
variable {d:Dps}
end
end
end Go.Hx
