/- A part of the proof: Bd3 Kw3 Kx1 Tw1 Kx5 Kx4 Hx37. -/
import Derived.Shelf.Spec.BitsCarry
import Derived.Test.YtmoggbnlhllhaaaGreatDoorUx27
import Derived.Test.YtmoggbnlhllhaaaGreatDoorUx29
import Derived.Test.YtmoggbnlhllhaaaGreatDoorUx30
set_option linter.all false
set_option maxRecDepth 100000
set_option maxHeartbeats 1000000
namespace Go.Hx
section
open Go.Shelf Go.RowKit Go.Proofs
abbrev tB:TypeId:=172
abbrev tC:TypeId:=5
abbrev bd(fr:Bool)(l:List UInt8):aa:=.bld fr tB tC (Lib.byteCells l)
def bce:a6 Tryz.prog 90:=⟨Tryz.f90,Tryz.func90,by kernel_rfl,by kernel_rfl⟩
def ba2:a6 Tryz.prog 91:=⟨Tryz.f91,Tryz.func91,by kernel_rfl,by kernel_rfl⟩
def afm {v:Value} (h:∃a m c,v=.slice a m c):v.ownBlock=cg v:=by
 obtain⟨a,m,c,rfl⟩:=h;cases a<;>rfl
def agy (l:List UInt8) (s:ByteArray):Lib.byteCells l++Lib.strCells s=Lib.byteCells (l++s.data.toList):=by
 simp[Lib.byteCells,Lib.strCells]
def ajx {c:Ctx} {w:World} {id:Nat} {fr:Bool} {T e:TypeId} {l:List Value} (h:b1v 0 c w id fr T e l) :
 ∃b p v,c.own id=.pointer (some ⟨b,0,none⟩)/\BAt T e b p v l w/\(p=.pointer none\/p=.pointer (some ⟨b,0,none⟩))/\(∀k,c.blk id k<->k=b\/v.ownBlock=some k)/\(fr=true->p=.pointer none/\v=.slice none 0 0):=by
 obtain⟨b,p,v,h1,_,h3,h4,h5,h6,h7,h8⟩:=h;have e:=afm (aed h5).1;exact⟨b,p,v,h1,⟨h3,h5,by rw[e];exact h6⟩,h4,fun k=>by rw[e];exact h7 k,h8⟩
def axs{c:Ctx}{w w':World}{id b:Nat}{fr:Bool}{T e:TypeId}{v v':Value}{l l':List Value}{r:Value}{res:HR}(hM:Mem c (lk [(id, .bld fr T e l)]) w)(hown:c.own id=.pointer (some ⟨b,0,none⟩))(hblk:∀k,c.blk id k<->k=b\/v.ownBlock=some k)
 (hB':BAt T e b (.pointer (some ⟨b,0,none⟩)) v' l' w') (hbel:Below 0 w w') (hfr:∀k,k<w.heap.size->k≠b->v.ownBlock≠some k->w'.heap[k]? = w.heap[k]?) (hv':∀k,v'.ownBlock=some k->v.ownBlock=some k\/w.heap.size<=k)
 (hres:∀c' o',ak c' o' res r) :
 ∃ v2 c',Ending.returned r=.returned v2/\ak c' (lk [(id, .bld false T e l')]) res v2/\Mem c' (lk [(id, .bld false T e l')]) w'/\Below 0 w w' /\
  (∀b,b<w.heap.size->(∀id' ob,lk [(id, .bld fr T e l)] id'=some ob->¬c.blk id' b)->w'.heap[b]? = w.heap[b]?/\c'.imm b=c.imm b) /\
  (∀id' ob b,lk [(id, .bld false T e l')] id'=some ob->c'.blk id' b->w.heap.size<=b\/∃id0 ob0,lk [(id, .bld fr T e l)] id0=some ob0/\c.blk id0 b) /\
  (∀id'∈[id],Evo c (lk [(id, .bld fr T e l)]) c' (lk [(id, .bld false T e l')]) id'):=by
 have hl1:lk [(id,aa.bld fr T e l)] id=some (.bld fr T e l):=by simp[lk]
 have hl2:lk [(id,aa.bld false T e l')] id=some (.bld false T e l'):=by simp[lk]
 have one:∀{x:aa} {id':Nat} {ob:aa},lk [(id,x)] id'=some ob->id'=id/\ob=x:=fun {x id' ob} h=>⟨(lq h).1,(lq h).2⟩;have sep:∀k,k=b\/v.ownBlock=some k->c.imm k=none:=fun k hk=>hM.sep id _ k hl1 ((hblk k).2 hk);have lt:∀k ob,c.imm k=some ob->k<w.heap.size:=fun k ob hk=>(bm5.1 (hM.imm k ob hk)).1;have e':=afm (aed hB'.own).1;refine⟨r,{ c with blk:=fun k=>if k=id then(fun x=>x=b\/v'.ownBlock=some x)else c.blk k },rfl,hres _ _,⟨fun id' ob h=>?_,fun i i' ob ob' k h h' _ _=>?_,fun k ob hk=>?_,fun id' ob k h hk=>?_⟩,hbel,fun k hk hn=>?_,fun id' ob k h hk=>?_,fun id' hid=>?_⟩
 · obtain ⟨rfl,rfl⟩:=one h
   exact⟨b,_,v',hown,bm3 _,hB'.heap, .inr rfl,hB'.own,by rw[<- e'];exact hB'.ne,fun k=>by simp[e'],fun h=>by cases h⟩
 · rw[(one h).1,(one h').1]
 · have hk':=lt k ob hk
   refine(hfr k hk' (fun e=>?_) fun e=>?_).trans (hM.imm k ob hk)
   · have:=sep k (.inl e);have hk2:c.imm k=some ob:=hk;rw[hk2]at this;cases this
   have:=sep k (.inr e);have hk2:c.imm k=some ob:=hk;rw[hk2]at this;cases this
 · obtain ⟨rfl,rfl⟩:=one h
   simp only[if_true]at hk
   rcases hk with rfl|hk
   · exact sep _ (.inl rfl)
   rcases hv' k hk with h1|h1
   · exact sep k (.inr h1)
   show c.imm k=none
   cases hi:c.imm k with
   |none=>rfl
   |some ob=>have:=lt k ob hi;omega
 · have hn':=fun h=>hn id _ hl1 ((hblk k).2 h)
   exact⟨hfr k hk (fun e=>hn' (.inl e)) fun e=>hn' (.inr e),rfl⟩
 · obtain ⟨rfl,rfl⟩:=one h
   simp only[if_true]at hk
   rcases hk with rfl|hk
   · exact .inr ⟨_,_,hl1,(hblk _).2 (.inl rfl)⟩
   rcases hv' k hk with h1|h1
   · exact .inr ⟨_,_,hl1,(hblk k).2 (.inr h1)⟩
   exact .inl h1
 rw[bmu.1 hid];exact .inr (.inr ⟨_,_,0,1,0,0,hl1,rfl,hl2,rfl,bm1 _,fun _=>rfl,fun _ _ _ _ _ _ _ h=>by cases h⟩)
def b8z (id:Nat) (fr:Bool) (l:List UInt8) (s:ByteArray) (hlen:l.length+s.size<=140737488355328):dg Tryz.prog 90 [.one (.ref id 0), .one (.p (.raw (.string s)))] [(id,bd fr l)] (.tup [.one (.p (.raw (.int .i64 (s.size:Int)))), .one (.p (.raw .nilIface))]) [(id,bd false (l++s.data.toList))] [id]:=by
 intro w c us hM hus
 match us,hus with
 | [u,v],⟨hu,hv,_⟩ =>
  obtain⟨rfl,_⟩:=hv;have hl1:lk [(id,bd fr l)] id=some (bd fr l):=by simp[lk]
  have hu2:u=c.own id:=(hu.2.2 _ _ _ _ hl1 rfl).2 rfl;subst hu2;obtain⟨b,p,v0,hown,hB,hp,hblk,_⟩:=ajx (hM.objs id _ hl1);rw[hown];refine(agz (P:=Tryz.prog) (ρ:=Tryz.lays166_ren) Tryz.lays166 Tryz.Builder_Extra_166 b p v0 _ s w hp hB (by rw[Lib.byteCells_length];exact hlen)).mono ?_;rintro e w' ⟨rfl,hbel,v',hB',hfr,hv'⟩;rw[agy]at hB';exact axs hM hown hblk hB' hbel hfr hv' fun c' o'=>⟨_,rfl,⟨rfl,rfl⟩,⟨rfl,rfl⟩,trivial⟩
def bf7 (id:Nat) (fr:Bool) (l:List UInt8) (h0:l≠[]):dg Tryz.prog 91 [.one (.ref id 0)] [(id,bd fr l)] (.v (.one (.p (.raw (.string ⟨l.toArray⟩))))) [] []:=by
 intro w c us hM hus
 match us,hus with
 | [u],⟨hu,_⟩ =>
  have hl1:lk [(id,bd fr l)] id=some (bd fr l):=by simp[lk]
  have hu2:u=c.own id:=(hu.2.2 _ _ _ _ hl1 rfl).2 rfl;subst hu2;obtain⟨b,p,v0,hown,hB,hp,hblk,_⟩:=ajx (hM.objs id _ hl1);rw[hown];refine(ayr (P:=Tryz.prog) (ρ:=Tryz.lays169_ren) Tryz.lays169 Tryz.Builder_Extra_169 b p v0 l w hB h0).mono ?_;rintro e w' ⟨rfl,hbel,hfr⟩;refine⟨_,c,rfl,⟨rfl,rfl⟩,⟨(fun id' ob h=>by cases h),(fun i i' ob ob' k h=>by cases h),fun k ob hk=>?_,(fun id' ob k h=>by cases h)⟩,hbel,fun k hk hn=>⟨hfr k fun e=>hn id _ hl1 ((hblk k).2 (.inr e)),rfl⟩,(fun id' ob k h=>by cases h),(fun id' hid=>by cases hid)⟩;refine(hfr k fun e=>?_).trans (hM.imm k ob hk);have:=hM.sep id _ k hl1 ((hblk k).2 (.inr e));rw[hk]at this;cases this
set_option maxHeartbeats 1000000 in
def as8 {P:Program} {ρ:Ren} (L:Lays.n169 P ρ) (X:Builder.Extra P ρ) (b:Nat) (p:Value) (w:World) (hbk:w.heap[b]? = some (.cells #[p, .slice none 0 0] (ρ.t 72) (0,0))) :
 Calls P (ρ.f 169) #[.pointer (some ⟨b,0,none⟩)] w fun e w'=>e=.returned (.string ⟨#[]⟩)/\Below 0 w w'/\∀k:Nat,w'.heap[k]? = w.heap[k]?:=by
 have hUS:=Any.unsafeString_none L X
 have c1:w.drew.cell? ⟨b,1,none⟩=some (.slice none 0 0):=by
  have:w.drew.heap[b]? = some (.cells #[p, .slice none 0 0] (ρ.t 72) (0,0)):=hbk;rw[Lib.cell_of_heap this];rfl
 have hSD:(Builtin.unsafeSliceData_ #[(ρ.t 37)] (ρ.t 127) #[.slice none 0 0]).run P w.drew=.ok (.pointer none) w.drew:=rfl;have mixed:=L.mixed;have t72:=L.t72;have a72:=L.a72;have z72:=L.z72;have v72:=L.v72;have u72:=run_underlying L.t72;have t70:=L.t70;have a70:=L.a70;have z70:=L.z70;have v70:=L.v70;have u70:=run_underlying L.t70;have t37:=L.t37;have a37:=L.a37;have z37:=L.z37;have v37:=L.v37;have u37:=run_underlying L.t37;have t127:=L.t127;have a127:=L.a127;have z127:=L.z127;have v127:=L.v127;have u127:=run_underlying L.t127;have t3:=L.t3;have a3:=L.a3;have z3:=L.z3;have v3:=L.v3;have u3:=run_underlying L.t3;have t9:=L.t9;have a9:=L.a9;have z9:=L.z9;have v9:=L.v9;have u9:=run_underlying L.t9;have t5:=X.t5;have a5:=X.a5;have z5:=X.z5;have v5:=X.v5;have u5:=run_underlying X.t5
 go_enter L.f169,Body.n169_ntmps ρ
 go_wp2
 go_region_o
 all_goals (go_wp2;go_ret;exact⟨rfl,Below.drew (Below.refl 0 w),fun k=>rfl⟩)
def baw (id:Nat):dg Tryz.prog 91 [.one (.ref id 0)] [(id,bd true [])] (.v (.one (.p (.raw (.string ⟨#[]⟩))))) [] []:=by
 intro w c us hM hus
 match us,hus with
 | [u],⟨hu,_⟩ =>
  have hl1:lk [(id,bd true [])] id=some (bd true []):=by simp[lk]
  have hu2:u=c.own id:=(hu.2.2 _ _ _ _ hl1 rfl).2 rfl;subst hu2;obtain⟨b,p,v0,hown,hB,hp,hblk,hfr⟩:=ajx (hM.objs id _ hl1);obtain⟨_,rfl⟩:=hfr rfl;rw[hown];refine(as8 (P:=Tryz.prog) (ρ:=Tryz.lays169_ren) Tryz.lays169 Tryz.Builder_Extra_169 b p w hB.heap).mono ?_;rintro e w' ⟨rfl,hbel,hfr⟩;exact⟨_,c,rfl,⟨rfl,rfl⟩,⟨(fun id' ob h=>by cases h),(fun i i' ob ob' k h=>by cases h),fun k ob hk=>(hfr k).trans (hM.imm k ob hk),(fun id' ob k h=>by cases h)⟩,hbel,fun k hk hn=>⟨hfr k,rfl⟩,(fun id' ob k h=>by cases h),(fun id' hid=>by cases hid)⟩
end
section
open Go.Proofs
def beg {s:AS} {n:Nat} (hn:n<=16) (h:∀z,s.getLsbD z=true->z<n):(asI s).fdiv (2^(min n 64))=0:=by
 rw[bne bpw]
 have h2:s>>>n=0:=ayf.2 fun k _ hk=>by
  rw[bmh];intro hb;have:=h k hb;omega
 have h3:s.toNat/2^n=0:=by
  have:=congrArg BitVec.toNat h2;simpa [boi,boc]using this
 have h4:asI s=(s.toNat:Int):=rfl;rw[h4,show(2:Int)^n=((2^n:Nat):Int) by simp,bop _ (bni _),<- bpu,h3];rfl
def a1l {t:Tbl} (hT:TOk t):a7 bqh 30 [t.pc] (af [pI 0]):=by
 have h:=c88 t;rw[pz.2 hT]at h;exact h
def baf {a b:Prt} (ha:jk a=true) (hb:jk b=true) (hr:a.rows=b.rows):∀i,i<(pi a b a.rows.toNat).length->(Lit.int .i64 ((pi a b a.rows.toNat).getD i default).1).wf=true/\(Lit.int .i64 ((pi a b a.rows.toNat).getD i default).2).wf=true:=fun i hi=>by
 rw[v7]at hi;obtain⟨h0,h1⟩:=ph ha
 have e:(pi a b a.rows.toNat).getD i default=((uh a).getD i default,(uh b).getD i default):=by
  rw[al _ _ (by rw[v7];exact hi)];simp only[pi,bo7,bny,hi,if_true]
 have ka:=a9j (p:=a) (m:=1000) bpw (un ha) i (by rw[pn];exact hi);have kb:=a9j (p:=b) (m:=1000) bpw (un hb) i (by rw[pn];omega);rw[e];exact⟨arb (by show _<=(rj a a.cls.length).getD i default;omega) (by show(rj a a.cls.length).getD i default<=_;omega),arb (by show _<=(rj b b.cls.length).getD i default;omega) (by show(rj b b.cls.length).getD i default<=_;omega)⟩
def bbj (id:Nat) (fr:Bool) (l:List UInt8) (h1:fr=true->l=[]) (h0:fr=false->l≠[]):dg bqh 91 [.one (.ref id 0)] [(id,bd fr l)] (.v (.one (.p (.raw (.string ⟨l.toArray⟩))))) [] []:=by
 cases fr with
 | true =>
  rw[h1 rfl];exact baw id
 |false=>exact bf7 id false l (h0 rfl)
def b9a:a6 bqh 31:=wgx Tryz.func31
def aym (t:Tbl) (s:AS) (hn:t.attrs.length<=16) (hs:∀z,s.getLsbD z=true->z<t.attrs.length):a7 bqh 31 [t.pc,pA s] (af [pB true]):=by
 refine hpx (nt:=12) Tryz.func31 ?_;refine sx7 ?_;refine m9 0 ?_;refine w_5 ?_;refine rq rfl rfl rfl rfl rfl ?_ (hp:=⟨by show(0:Int)<=_;exact qo s,by show _<=(18446744073709551615:Int);have:=a6m s;omega⟩);refine v_7 ?_;exact⟨ccb (decide_eq_true (beg hn hs)),trivial⟩
def bcd:a6 bqh 33:=wgx Tryz.func33
def bgt(t:Tbl)(s:AS)(hT:TOk t)(hs:∀z,s.getLsbD z=true->z<t.attrs.length):a7 bqh 33 [t.pc,pA s] (af [(a6w t s).pc]):=by
 refine hpx (nt:=57) Tryz.func33 ?_;have hna:=hT.na;have hnr:=hT.nr;have hm32:(bc s).length<=32:=by unfold bc;exact bme (bnm _ _) (by rw[bpc];exact bm1 _)
 refine sx7 ?_;refine m9 0 ?_;refine m9 1 ?_;refine w_4 ?_;refine qcx ajk (axy s) ?_;refine w_7 ?_;refine m9 2 ?_;refine jb ?_;refine c7 (ka 2 (ka 4 (ka 5 (ka 21 (ka 22 kn))))) (kb 0 (kb 1 km)) (fun i=>⟨[(6,some (.v (.one (.ref 2 t.rows.length)))),(23,some (vI i))],[(2,some (.arr true 1 9 t.rows.length (lf ar8 (sc t s i))))]⟩) t.rows.length ⟨⟨⟨_,rfl,(CoR.of_eq (by rw[bmc]))⟩,tt⟩,⟨⟨_,rfl,(a56 bpw fun i hi=>CoP.of_eq (by have hi2:i<t.rows.length:=bpw;show _=PV.raw (.string ((sc t s 0).getD i default));rw[al _ _ (by rw[s8];exact hi2)];simp[sc];rfl))⟩,trivial⟩⟩ ?_;rintro i hi;refine w_5 ?_;refine hcd ?_ ?_<;>intro h0
 ·
  have hir:i<t.rows.length:=by omega
  have hwi:(t.rows.getD i default).vals.length=t.attrs.length:=hT.width hir;have hok:(t.rows.getD i default).vals.all d8=true:=(j5 hT.rs _ (by rw[al _ _ hir];exact bma hir)).2.2
  have hpos:¬(bc s).length=0->bl (qh (t.rows.getD i default).vals s (bc s).length)≠[]:=fun h=>by
   obtain⟨q,hq⟩:∃q,(bc s).length=q+1:=⟨(bc s).length-1,by omega⟩;rw[hq];refine awk bpw ?_;have hlt:(bc s).getD q default<(t.rows.getD i default).vals.length:=by rw[hwi];exact av8 hs bpw
   rw[al _ _ hlt];exact bms.1 hok _ (bma hlt)
  refine w_8 ?_;refine m9 3 ?_;refine w_5 ?_;refine m9 4 ?_;refine w_9 ?_;refine c7 (ka 2 (ka 4 (ka 5 (ka 6 (ka 7 (ka 8 (ka 9 (ka 21 (ka 22 (ka 23 (ka 28 (ka 29 kn)))))))))))) (kb 2 (kb 0 (kb 1 (kb 3 km)))) (fun j=>⟨[(30,some (vI j))],[(4,some (bd (decide (j=0)) (bl (qh (t.rows.getD i default).vals s j))))]⟩) ((bc s).length) ⟨tt,⟨⟨_,rfl,(CoO.refl _)⟩,trivial⟩⟩ ?_;rintro j hj;have hsz:=agk (l:=(t.rows.getD i default).vals) (s:=s) (j:=j);refine w_5 ?_;refine hcd ?_ ?_<;>intro h1
  ·
   have hjm:j<(bc s).length:=by omega
   have hlt:(bc s).getD j default<(t.rows.getD i default).vals.length:=by rw[hwi];exact av8 hs hjm
   have hkz:=a4s (v:=((t.rows.getD i default).vals.getD ((bc s).getD j default) default));refine nc ?_;refine rq rfl rfl rfl rfl rfl ?_ (hp:=⟨rfl,by omega,by first|omega|(simp only[bmc];omega)⟩);refine qy ?_;refine qcx b7u (bh8 ((t.rows.getD i default).vals.getD ((bc s).getD j default) default)) ?_;refine w_8 ?_;refine fc9 bce ((b8z 900 (decide (j=0)) (bl (qh (t.rows.getD i default).vals s j)) (tc ((t.rows.getD i default).vals.getD ((bc s).getD j default) default)) (by rw[y5];omega)).swap 900 4) uu ?_;refine w_5 ?_;exact lpx (j+1) ⟨tt,⟨⟨_,rfl,(by rw[decide_eq_false (Nat.succ_ne_zero j),a6c hjm,b7m];exact CoO.refl _)⟩,uu⟩⟩
  obtain rfl:j=(bc s).length:=by omega
  refine w_4 ?_;refine fc9 ba2 ((bbj 900 (decide ((bc s).length=0)) (bl (qh (t.rows.getD i default).vals s (bc s).length)) (fun h=>by rw[aqb h];rfl) (fun h=>hpos (aro h))).swap 900 4) uu ?_;refine w_7 ?_;exact lpx (i+1) ⟨⟨⟨_,rfl,(CoR.refl _)⟩,tt⟩,⟨⟨_,rfl,(by rw[at8 hir];exact xu (fun h=>h) s8.symm bpw (by rw[s8];exact hir) (by rw[b54,aw9 bpw (fun a ha=>by rw[hwi];exact hs a ha)];rfl))⟩,uu⟩⟩
 obtain rfl:i=t.rows.length:=by omega
 refine w_2 ?_;refine be 6 rfl rfl rfl ?_;refine w_5 ?_;refine rc rfl rfl rfl rfl rfl rfl b9v (beu (sc t s t.rows.length) (by rw[s8];omega) (fun i hi=>awo hT hi)) (⟨CoC.one (CoP.sl s8 (.inl rfl) (fun h=>h) (fun _ _ _ _=>CoP.refl _)),trivial⟩) rfl rfl ?_;refine v_4 ?_;exact⟨CoC.of_eq (by rw[ayh];rfl),trivial⟩
def bcu:a6 bqh 11:=wgx Tryz.func11
def bcy (t:Tbl) (s:AS) (hT:TOk t) (hs:∀z,s.getLsbD z=true->z<t.attrs.length):a7 bqh 11 [t.pc,pA s] (af [(a6w t s).pc,pI 0]):=by
 refine hpx (nt:=21) Tryz.func11 ?_;have hna:=hT.na;have htz:=pz.2 hT;refine sx7 ?_;refine m9 0 ?_;refine m9 1 ?_;refine w_6 ?_;refine qcx a16 (a1l hT) ?_;refine nc ?_;refine qcx b9a (aym t s hna hs) ?_;refine w_8 ?_;refine qcx bcd (bgt t s hT hs) ?_;refine v_3 ?_;exact CoL.refl _
def aj1:a6 bqh 99:=wgx Tryz.func99
def bq5{p:Prop}(h:p:=by first|omega|(simp only[bmc]<;>omega)):p:=h
def ad8(p:Prt)(h:jk p=true):a7 bqh 99 [p.pc] (af [pB true]):=by
 refine hpx (nt:=68) Tryz.func99 ?_;obtain⟨hr0,hr1⟩:=ph h;have hcl:=un h;refine sx7 ?_;refine m9 0 ?_;refine w_9 ?_;refine am rfl rfl ?_ ?_<;>intro r0
 · have h0:=tz1 r0;exfalso;omega
 have h0:=tz2 r0;(iterate 3 refine qy ?_ (hg:=(gff r0)));refine w_2 ?_;refine aw _ rfl ?_ ?_<;>intro r1
 · have h1:=tz1 (ca r0 r1);exfalso;omega
 have h1:=tz2 (ca r0 r1);refine w_5 ?_;refine m9 1 ?_;refine jd ?_;refine c7 (ka 1 (ka 3 (ka 22 (ka 23 kn)))) (kb 0 km) (fun k=>⟨[(4,some (vI (ae6 p k))),(24,some (vI k))],[(1,some (.arr true 1 4 p.rows.toNat (lf bC (snT p k 0))))]⟩) p.cls.length ⟨⟨⟨_,rfl,(CoR.refl _)⟩,tt⟩,⟨⟨_,rfl,(a56 bpw fun i hi=>CoP.of_eq (by rw[awy];simp[lf,List.getD,show i<p.rows.toNat by omega];rfl))⟩,trivial⟩⟩ ?_;rintro k hk;refine w_5 ?_;refine hcd ?_ ?_<;>intro h2
 ·
  have hkc:k<p.cls.length:=by omega
  have hvc:=a7m h hkc;obtain⟨hc1,hc2⟩:=aoj hvc;have hc3:ae6 p k<((((p.cls.getD k default)).getD (Int.toNat 0) default:Nat):Int):=hc2;have hrl:=aem h hkc;refine tg ?_;refine am rfl rfl ?_ ?_<;>intro r3
  · have h3:=tz1 r3;exfalso;omega
  have h3:=tz2 r3;refine qy ?_ (hg:=(gff r3));refine rq rfl rfl rfl rfl (gff r3) ?_ (hp:=⟨rfl,bq5,bq5⟩);(iterate 3 refine qy ?_ (hg:=(gff r3)));refine w_2 ?_;refine aw _ rfl ?_ ?_<;>intro r4
  · have h4:=tz1 (ca r3 r4);exfalso;omega
  have h4:=tz2 (ca r3 r4);refine w_4 ?_;refine rq rfl rfl rfl rfl rfl ?_ (hp:=⟨rfl,bq5,bq5⟩);refine nc ?_;refine c7 (ka 1 (ka 3 (ka 4 (ka 22 (ka 23 (ka 24 (ka 41 (ka 42 kn)))))))) (kb 0 km) (fun j=>⟨[(7,some (vI (ai2 (p.cls.getD k default) j))),(43,some (vI j))],[(1,some (.arr true 1 4 p.rows.toNat (lf bC (snT p k j))))]⟩) ((p.cls.getD k default).length) kk ?_;rintro j hj;refine w_5 ?_;refine hcd ?_ ?_<;>intro h5
  ·
   have hjc:j<(p.cls.getD k default).length:=by omega
   obtain⟨hj1,hj2,hj3⟩:=ad1 hvc hjc;have hjr:(p.cls.getD k default).getD j default<p.rows.toNat:=by omega
   have hsn:=b99 (k:=k) (j:=j) hjr;rw[decide_eq_false hj3]at hsn;refine tg ?_;refine am rfl rfl ?_ ?_<;>intro r6
   · have h6:=tz1 r6;exfalso;omega
   have h6:=tz2 r6;(iterate 4 refine qy ?_ (hg:=(gff r6)));refine w_2 ?_;refine am rfl rfl ?_ ?_<;>intro r7
   · have h7:=tz1 (ca r6 r7);exfalso;omega
   have h7:=tz2 (ca r6 r7);(iterate 2 refine qy ?_ (hg:=(gff r7)));refine rq rfl rfl rfl rfl (gff r7) ?_ (hp:=⟨rfl,bq5,bq5⟩)
   refine qy ?_ (hg:=(gff r7));refine w_2 ?_;refine aw _ rfl ?_ ?_<;>intro r8
   · have h8:=ca r7 r8;exfalso;simp_all
   have h8:=ca r7 r8;refine w_5 ?_;refine rq rfl rfl rfl rfl rfl ?_ (hp:=⟨rfl,bq5,bq5⟩);refine eu ?_;exact lpx (j+1) ⟨⟨⟨_,rfl,(coi atg.symm)⟩,tt⟩,⟨⟨_,rfl,(by rw[awz hjc hj2];exact xu (fun h=>h) aev.symm (by simp only[bmc]) (by rw[aev];omega) rfl)⟩,uu⟩⟩
  obtain rfl:j=(p.cls.getD k default).length:=by omega
  refine w_5 ?_;exact lpx (k+1) ⟨⟨⟨_,rfl,(coi atp.symm)⟩,tt⟩,⟨⟨_,rfl,(by rw[<- awg hkc];exact CoO.refl _)⟩,uu⟩⟩
 obtain rfl:k=p.cls.length:=by omega
 refine v_5 ?_;exact CoL.refl _
def aso:a6 bqh 41:=wgx Tryz.func41
def b1e(p:Prt)(h:jk p=true):a7 bqh 41 [p.pc] (af [pP (zl (uh p))]):=by
 refine hpx (nt:=44) Tryz.func41 ?_;obtain⟨hr0,hr1⟩:=ph h;have hcl:=un h;refine sx7 ?_;refine m9 0 ?_;refine w_6 ?_;refine m9 1 ?_;refine eu ?_;refine c7 (ka 1 (ka 13 kn)) (kb 0 km) (fun i=>⟨[(3,some (.v (.one (.ref 1 p.rows.toNat)))),(14,some (vI i))],[(1,some (.arr true 1 3 p.rows.toNat (lf zC (a0b p.rows.toNat i))))]⟩) p.rows.toNat ⟨⟨⟨_,rfl,(CoR.refl _)⟩,tt⟩,⟨⟨_,rfl,(a56 bpw fun i hi=>CoP.of_eq (by simp[lf,a0b,List.getD,show i<p.rows.toNat by omega];rfl))⟩,trivial⟩⟩ ?_;rintro i hi;refine w_5 ?_;refine hcd ?_ ?_<;>intro h0
 ·
  have him:i<p.rows.toNat:=by omega
  refine as1 ?_;exact lpx (i+1) ⟨⟨⟨_,rfl,(CoR.refl _)⟩,tt⟩,⟨⟨_,rfl,(by rw[aul him];exact xu (fun h=>h) aif.symm bpw (by rw[aif];exact him) rfl)⟩,uu⟩⟩
 obtain rfl:i=p.rows.toNat:=by omega
 refine eu ?_;refine c7 (ka 3 (ka 24 (ka 25 kn))) km (fun k=>⟨[(26,some (vI k))],[(1,some (.arr true 1 3 p.rows.toNat (lf zC (rj p k))))]⟩) p.cls.length ⟨tt,⟨⟨_,rfl,(by rw[b01];exact CoO.refl _)⟩,trivial⟩⟩ ?_;rintro k hk;refine w_5 ?_;refine hcd ?_ ?_<;>intro h1
 ·
  have hkc:k<p.cls.length:=by omega
  have hvc:=a7m h hkc;have hrl:=aem h hkc;refine aam ?_;refine c7 (ka 3 (ka 5 (ka 24 (ka 25 (ka 26 (ka 31 (ka 32 kn))))))) km (fun j=>⟨[(33,some (vI j))],[(1,some (.arr true 1 3 p.rows.toNat (lf zC (a2v p k j))))]⟩) ((p.cls.getD k default).length) ⟨tt,⟨⟨_,rfl,(by rw[atf];exact CoO.refl _)⟩,trivial⟩⟩ ?_;rintro j hj;refine w_5 ?_;refine hcd ?_ ?_<;>intro h2
  ·
   have hjc:j<(p.cls.getD k default).length:=by omega
   obtain⟨hj1,hj2,hj3⟩:=ad1 hvc hjc;have hjr:(p.cls.getD k default).getD j default<p.rows.toNat:=by omega
   refine l5 ?_;refine rq rfl rfl rfl rfl rfl ?_ (hp:=⟨rfl,bq5,bq5⟩);refine rs rfl rfl rfl rfl rfl ?_ (hp:=⟨rfl,bq5,bq5⟩);refine w_5 ?_;exact lpx (j+1) ⟨tt,⟨⟨_,rfl,(by rw[aus hjc];exact xu (fun h=>h) aht.symm (by simp only[bmc]) (by rw[aht];omega) rfl)⟩,trivial⟩⟩
  obtain rfl:j=(p.cls.getD k default).length:=by omega
  refine w_5 ?_;exact lpx (k+1) ⟨tt,⟨⟨_,rfl,(by rw[<- ax5];exact CoO.refl _)⟩,trivial⟩⟩
 obtain rfl:k=p.cls.length:=by omega
 refine w_2 ?_;refine be 3 rfl rfl rfl ?_;refine v_4 ?_;exact⟨CoC.one (CoP.sl (by unfold uh;rw[pn]) (.inl rfl) (fun h=>h) (fun _ _ _ _=>CoP.refl _)),trivial⟩
def b8u:a6 bqh 40:=wgx Tryz.func40
def b7g (a b:Prt) (ha:jk a=true) (hb:jk b=true) (hr:a.rows=b.rows):a7 bqh 40 [a.pc,b.pc] (af [pI 0]):=by
 refine hpx (nt:=18) Tryz.func40 ?_;refine sx7 ?_;refine m9 0 ?_;refine m9 1 ?_;refine w_6 ?_;refine qcx aj1 (ad8 a ha) ?_;refine w_3 ?_;refine qcx aj1 (ad8 b hb) ?_;refine nc ?_;refine hcn ?_ ?_<;>intro h0
 · exfalso;simp_all
 refine v_5 ?_;exact CoL.refl _
def b2x:a6 bqh 196:=wgx Tryz.func196
def b87 (a b:Prt) (ha:jk a=true) (hb:jk b=true) (hr:a.rows=b.rows):a7 bqh 196 [a.pc,b.pc] (af [(awx a b).pc,pI 0]):=by
 refine hpx (nt:=48) Tryz.func196 ?_;obtain⟨hr0,hr1⟩:=ph ha;have hla:(uh a).length=a.rows.toNat:=pn;have hlb:(uh b).length=a.rows.toNat:=by rw[hr];exact pn
 have hca:=un ha;have hcb:=un hb;refine sx7 ?_;refine m9 0 ?_;refine m9 1 ?_;refine m9 2 ?_;refine w_7 ?_;refine qcx b8u (b7g a b ha hb hr) ?_;refine l6 ?_;refine qcx aso (b1e a ha) ?_;refine qy ?_;refine qcx aso (b1e b hb) ?_;refine w_8 ?_;refine m9 3 ?_;refine eu ?_;refine c7 (ka 2 (ka 4 (ka 7 (ka 8 (ka 26 kn))))) (kb 0 (kb 2 km)) (fun i=>⟨[(9,some (.v (.one (.ref 3 a.rows.toNat)))),(27,some (vI i))],[(3,some (.arr true 2 301 a.rows.toNat (lf k2C (pi a b i))))]⟩) a.rows.toNat ⟨⟨⟨_,rfl,(CoR.refl _)⟩,tt⟩,⟨⟨_,rfl,(aot bpw fun i hi=>⟨CoP.of_eq (by simp[lf,pi,List.getD,show i<a.rows.toNat by omega];rfl),CoP.of_eq (by simp[lf,pi,List.getD,show i<a.rows.toNat by omega];rfl)⟩)⟩,trivial⟩⟩ ?_;rintro i hi;refine w_5 ?_;refine hcd ?_ ?_<;>intro h0
 ·
  have him:i<a.rows.toNat:=by omega
  refine bgr ?_;exact lpx (i+1) ⟨⟨⟨_,rfl,(CoR.refl _)⟩,tt⟩,⟨⟨_,rfl,(by rw[auk him];exact al1 (fun h=>h) v7.symm bpw (by rw[v7];exact him) rfl rfl)⟩,uu⟩⟩
 obtain rfl:i=a.rows.toNat:=by omega
 refine w_2 ?_;refine be 9 rfl rfl rfl ?_;refine w_4 ?_;refine rc rfl rfl rfl rfl rfl rfl b58 (bdv (pi a b a.rows.toNat) (by rw[v7];omega) (baf ha hb hr)) (⟨CoC.one (CoP.sl v7 (.inl rfl) (fun h=>h) (fun _ _ _ _=>CoP.refl _)),trivial⟩) rfl rfl ?_;refine v_5 ?_;exact⟨CoC.of_eq (by rw[b0j];rfl),CoC.refl _,trivial⟩
def b21:a6 bqh 197:=wgx Tryz.func197
def b7b (p:Prt) (h:jk p=true):a7 bqh 197 [p.pc] (af [pI (asi p)]):=by
 refine hpx (nt:=25) Tryz.func197 ?_;obtain⟨hr0,hr1⟩:=ph h;have hcl:=un h;refine sx7 ?_;refine m9 0 ?_;refine w_6 ?_;refine qcx aj1 (ad8 p h) ?_;refine bh4 ?_;refine c7 (ka 12 (ka 13 kn)) km (fun k=>⟨[(3,some (vI (yn p k))),(14,some (vI k))],[]⟩) p.cls.length kk ?_;rintro k hk;refine w_5 ?_;refine hcd ?_ ?_<;>intro h0
 ·
  have hkc:k<p.cls.length:=by omega
  have hrl:=aem h hkc;have hb1:=avg h (Nat.le_of_lt hkc);have hb2:=avg h (show k+1<=_ from hkc);have hst:=agn hkc;have hrl2:(p.cls.getD ((k:Int)).toNat default).length<=1000:=hrl;have hst2:yn p (k+1)=yn p k-(((p.cls.getD ((k:Int)).toNat default).length:Int)-1):=hst;refine aqu ?_;exact lpx (k+1) ⟨⟨⟨_,rfl,(coi hst.symm)⟩,tt⟩,trivial⟩
 obtain rfl:k=p.cls.length:=by omega
 refine v_6 ?_;exact CoL.refl _
end
section
open Go.Proofs
def bdm(l:List Nat)(g k:Nat)(caps:Nat->PV)(V:Nat->Bool)(hg:a6 bqh g)(hV:∀x∈l,a7 bqh g (pI (x:Nat)::er caps k 0) (af [pB (V x)])):a7 bqh 146 [pP (il l),pP (.fn g k caps)] (af [pI (idx V l)]):=by
 refine hpx (nt:=19) Tryz.func146 ?_;refine eq ?_;refine fp 0 rfl fun hn=>?_;refine w_3 ?_;refine dn (ι:=Unit) kn km (fun _i=>⟨[],[]⟩) (fun _i=>idx V l=-1) ?_ ?_
 ·
  refine w_7 ?_;refine ar (ι:=Nat) (ka 0 (ka 1 (ka 7 kn))) km (fun i=>⟨[(8,some (vI i))],[]⟩) (fun i=>i<=l.length/\(∀j,j<i->V (l.getD j default)=false)) (fun i=>l.length-i) (0) (⟨bm3 _,e9⟩) kk ?_;rintro i ⟨hi,hIi⟩;refine w_5 ?_;refine hcd ?_ ?_<;>intro h0
  ·
   refine jd ?_;refine rc rfl rfl rfl rfl rfl rfl hg (hV (l.getD i default) (by rw[al _ _ bpw];exact bma _)) (CoL.refl _) rfl rfl ?_;refine d5 ?_;refine hcb ?_ ?_<;>intro h1
   · refine v_5 ?_;exact⟨cci (qx (i:=i) bpw hIi bpx).symm,trivial⟩
   refine w_5 ?_;refine lpz (i+1) kk ?_;exact⟨by show i+1<=_;omega,da hIi bpx⟩
  refine dz ?_;refine⟨(), ?_, ?_⟩
  · exact qv fun j hj=>hIi j bpw
  exact⟨trivial,trivial⟩
 rintro _ hj;refine v_4 ?_;exact⟨cci hj.symm,trivial⟩
def bey (l:List Nat) (g k:Nat) (caps:Nat->PV) (V:Nat->Bool) (hg:a6 bqh g) (hV:∀x∈l,a7 bqh g (pI (x:Nat)::er caps k 0) (af [pB (V x)])):a7 bqh 86 [pP (il l),pP (.fn g k caps)] (af [pB (l.any V)]):=by
 refine hpx (nt:=9) Tryz.func86 ?_;refine w_8 ?_;refine qcx b4f (bdm l g k caps V hg hV) ?_;refine v_3 ?_;exact⟨ccb vw,trivial⟩
end
section
open Go.Proofs
abbrev wj(X Y:List Nat):PC:=.agg [il X,il Y]
abbrev odV(X Y:List Nat):PV:=.vp 2 fun j=>[il X,il Y].getD j .any
def b5y {n:Nat} {l:List Nat} (h:∀a∈l,a<n):(l.any fun a=>decide (n<=a))=false:=by
 rw[boa];intro x hx;have:=h x hx;simp;omega
section
variable {X Y:List Nat}
def bdk {t:Tbl} {i k:Nat} (hik:i<k) (hk:k<t.rows.length) (h:¬knd X Y (t.rows.getD i default) (t.rows.getD k default)=0):odB t X Y=false:=by
 unfold odB;rw[bo1];refine⟨k,bmm.2 hk, ?_⟩;rw[Bool.not_eq_true,bo1];exact⟨i,bmm.2 hik,by simpa using h⟩
def bg6 {t:Tbl} (h:∀i,i<t.rows.length->∀k,i<k->k<t.rows.length->knd X Y (t.rows.getD i default) (t.rows.getD k default)=0):odB t X Y=true:=by
 unfold odB;simp only[bms,bmm,decide_eq_true_eq];exact fun k hk i hik=>h i bpw k hik hk
def bfh{a b:Row}(h1:bh a b X=0)(h2:¬bh a b Y=0):knd X Y a b=1:=if_pos ⟨h1,h2⟩
def b1h{a b:Row}(h1:¬(bh a b X=0/\¬bh a b Y=0))(h2:bh a b X*bh a b Y<0):knd X Y a b=2:=by unfold knd;rw[if_neg h1,if_pos h2]
def b0r{a b:Row}(h1:¬(bh a b X=0/\¬bh a b Y=0))(h2:¬bh a b X*bh a b Y<0):knd X Y a b=0:=by unfold knd;rw[if_neg h1,if_neg h2]
def a28{t:Tbl}(hT:TOk t){l:List Nat}(h:∀a∈l,a<t.attrs.length){i:Nat}(hi:i<t.rows.length):∀a∈l,a<(t.rows.getD i default).vals.length:=fun a ha=>by rw[hT.width hi];exact h a ha
def b2n:a6 bqh 171:=wgx Tryz.func171
def b7p (a n:Nat):a7 bqh 171 [pI a,pP (bx (.raw (.int .i64 n)))] (af [pB (decide (n<=a))]):=by
 refine hpx (nt:=11) Tryz.func171 ?_;refine w_9 ?_;refine am rfl rfl ?_ ?_<;>intro r0
 · have h0:=tz1 r0;exfalso;omega
 have h0:=tz2 r0;(iterate 3 refine qy ?_ (hg:=(gff r0)));refine w_3 ?_
 exact hx8 rfl rfl rfl (⟨ccb bqa,trivial⟩)
def anl:a6 bqh 104:=wgx Tryz.func104
def b1q (n:Nat) (l:List Nat) (h:∀a∈l,a<n) (h8:l.length<=8):a7 bqh 104 [pI n,pP (il l)] (af [pB true]):=by
 refine hpx (nt:=14) Tryz.func104 ?_;refine sx7 ?_;refine m9 0 ?_;refine w_3 ?_;refine c8 2 rfl rfl rfl ?_;refine w_5 ?_;refine am rfl rfl ?_ ?_<;>intro r0
 ·
  have h0:=tz1 r0;(iterate 2 refine qy ?_ (hg:=(gtt r0)));refine qcx b7z (bey l 171 1 (fun j=>[bx (.raw (.int .i64 (n:Int)))].getD j .any) (fun a=>decide (n<=a)) b2n (fun a ha=>b7p a n)) ?_ (hg:=(gtt r0))
  refine qy ?_ (hg:=(gtt r0));refine v_3 ?_;exact⟨ccb (by rw[b5y h];simp;omega),trivial⟩
 have h0:=tz2 r0;exfalso;omega
def a4x:a6 bqh 51:=wgx Tryz.func51
def aay (n:Nat) (X Y:List Nat) (hX:∀a∈X,a<n) (hY:∀a∈Y,a<n) (hX8:X.length<=8) (hY8:Y.length<=8):a7 bqh 51 [pI n,wj X Y] (af [pB true]):=by
 refine hpx (nt:=15) Tryz.func51 ?_;refine sx7 ?_;refine m9 0 ?_;refine w_7 ?_;refine qcx anl (b1q n X hX hX8) ?_;refine w_4 ?_;refine qcx anl (b1q n Y hY hY8) ?_;refine v_3 ?_;exact CoL.refl _
def ahh:a6 bqh 49:=wgx Tryz.func49
def aqg (t:Tbl) (g k:Nat) (caps:Nat->PV) (hg:a6 bqh g) (hT:TOk t) (hV:a7 bqh g (pI (t.attrs.length:Nat)::er caps k 0) (af [pB true])):a7 bqh 49 [t.pc,pP (.fn g k caps)] (af [pI 0]):=by
 refine hpx (nt:=17) Tryz.func49 ?_;refine sx7 ?_;refine m9 0 ?_;refine w_6 ?_;refine qcx a16 (a1l hT) ?_;refine tg ?_;refine rc rfl rfl rfl rfl rfl rfl hg (hV) (CoL.refl _) rfl rfl ?_;refine v_8 ?_;exact CoL.refl _
def adb:a6 bqh 172:=wgx Tryz.func172
def ar0 (a b:Row) (l:List Nat) (ha:∀i∈l,i<a.vals.length) (hb:∀i∈l,i<b.vals.length):a7 bqh 172 [a.pc,b.pc,pP (il l)] (af [pI (bh a b l)]):=by
 refine hpx (nt:=31) Tryz.func172 ?_;refine sx7 ?_;refine m9 0 ?_;refine m9 1 ?_;refine w_4 ?_;refine fp 2 rfl fun hn=>?_;refine w_6 ?_;refine ar (ι:=Nat) (ka 3 (ka 4 (ka 10 (ka 11 kn)))) (kb 0 (kb 1 km)) (fun i=>⟨[(12,some (vI i))],[]⟩) (fun i=>i<=l.length/\bh a b (l.take i)=0) (fun i=>l.length-i) (0) (⟨bm3 _,rfl⟩) kk ?_;rintro i ⟨hi,hz0⟩;refine w_5 ?_;refine hcd ?_ ?_<;>intro h0
 ·
  have hil:i<l.length:=by omega
  have hm:(l.getD i default)∈l:=by rw[al _ _ hil];exact bma _
  have hai:=ha _ hm;have hbi:=hb _ hm;have htk:=ao4 (a:=a) (b:=b) hil;refine nc ?_;refine rq rfl rfl rfl rfl rfl ?_ (hp:=⟨rfl,bni _,bos.2 hai⟩);refine w_4 ?_;refine rq rfl rfl rfl rfl rfl ?_ (hp:=⟨rfl,bni _,bos.2 hbi⟩);refine qy ?_;refine qcx xq (xk (a.vals.getD (l.getD i default) default) (b.vals.getD (l.getD i default) default)) ?_;refine w_8 ?_;refine hcn ?_ ?_<;>intro h1
  · have hq:¬cmA a b (l.getD i default)=0:=h1;refine v_5 ?_;exact⟨cci (a1e hil hz0 hq).symm,trivial⟩
  have hq:cmA a b (l.getD i default)=0:=h1;refine w_5 ?_;refine lpz (i+1) kk ?_;exact⟨by show i+1<=_;omega,by show bh a b (l.take (i+1))=0;rw[htk,if_pos hz0];exact hq⟩
 obtain rfl:i=l.length:=by omega
 rw[bmd]at hz0;refine v_5 ?_;exact⟨cci hz0.symm,trivial⟩
def b5t:a6 bqh 106:=wgx Tryz.func106
def bd4 (a b:Row) (X Y:List Nat) (hXa:∀i∈X,i<a.vals.length) (hXb:∀i∈X,i<b.vals.length) (hYa:∀i∈Y,i<a.vals.length) (hYb:∀i∈Y,i<b.vals.length):a7 bqh 106 [a.pc,b.pc,wj X Y] (af [pI (knd X Y a b)]):=by
 refine hpx (nt:=31) Tryz.func106 ?_;refine sx7 ?_;refine m9 0 ?_;refine m9 1 ?_;refine m9 2 ?_;refine w_8 ?_;refine qcx adb (ar0 a b X hXa hXb) ?_;refine w_4 ?_;refine qcx adb (ar0 a b Y hYa hYb) ?_;refine jb ?_;refine am rfl rfl ?_ ?_<;>intro r0
 ·
  have h0:=tz1 r0;(iterate 2 refine qy ?_ (hg:=(gtt r0)));refine w_3 ?_;refine aw _ rfl ?_ ?_<;>intro r1
  · have h1:=tz2 (dc (bp r0 r1));have hq:bh a b X=0/\¬bh a b Y=0:=⟨by first|assumption|simp_all,by first|assumption|simp_all⟩;refine v_4 ?_;exact⟨cci (bfh hq.1 hq.2).symm,trivial⟩
  have h1:=tz1 (df (bp r0 r1));have hq:¬(bh a b X=0/\¬bh a b Y=0):=by simp_all
  refine w_4 ?_;refine rq rfl rfl rfl rfl rfl ?_ (hp:=(by show inR .i64 (bh a b X*bh a b Y);rcases a6s (s7 (a:=a) (b:=b) (l:=X)) (s7 (a:=a) (b:=b) (l:=Y))with h|h|h<;>rw[h]<;>(simp only[inR,l8,ml];omega)));refine w_3 ?_;refine hcd ?_ ?_<;>intro h2
  · have hm:bh a b X*bh a b Y<0:=h2;refine v_4 ?_;exact⟨cci (b1h hq hm).symm,trivial⟩
  have hm:¬bh a b X*bh a b Y<0:=h2;refine v_5 ?_;exact⟨cci (b0r hq hm).symm,trivial⟩
 have h0:=tz2 r0;have hq:¬(bh a b X=0/\¬bh a b Y=0):=by simp_all
 (iterate 2 refine k9 (gft r0) ?_);refine w_8 ?_
 refine rq rfl rfl rfl rfl rfl ?_ (hp:=(by show inR .i64 (bh a b X*bh a b Y);rcases a6s (s7 (a:=a) (b:=b) (l:=X)) (s7 (a:=a) (b:=b) (l:=Y))with h|h|h<;>rw[h]<;>(simp only[inR,l8,ml];omega)));refine w_3 ?_;refine hcd ?_ ?_<;>intro h3
 · have hm:bh a b X*bh a b Y<0:=h3;refine v_4 ?_;exact⟨cci (b1h hq hm).symm,trivial⟩
 have hm:¬bh a b X*bh a b Y<0:=h3;refine v_5 ?_;exact⟨cci (b0r hq hm).symm,trivial⟩
def b34:a6 bqh 105:=wgx Tryz.func105
def bcb (n:Nat) (X Y:List Nat) (hX:∀a∈X,a<n) (hY:∀a∈Y,a<n) (hX8:X.length<=8) (hY8:Y.length<=8):a7 bqh 105 [pI n,pP (odV X Y)] (af [pB true]):=by
 refine hpx (nt:=7) Tryz.func105 ?_;refine w_8 ?_;refine qcx a4x (aay n X Y hX hY hX8 hY8) ?_;refine v_2 ?_;exact CoL.refl _
def bc4:a6 bqh 50:=wgx Tryz.func50
def bbv (n:Nat) (X Y:List Nat) (hX:∀a∈X,a<n) (hY:∀a∈Y,a<n) (hX8:X.length<=8) (hY8:Y.length<=8):a7 bqh 50 [pI n,pP (odV X Y)] (af [pB true]):=by
 refine hpx (nt:=7) Tryz.func50 ?_;refine w_8 ?_;refine qcx a4x (aay n X Y hX hY hX8 hY8) ?_;refine v_2 ?_;exact CoL.refl _
def b8x:a6 bqh 52:=wgx Tryz.func52
def bga(t:Tbl)(X Y:List Nat)(hT:TOk t)(hX:∀a∈X,a<t.attrs.length)(hY:∀a∈Y,a<t.attrs.length)(hX8:X.length<=8)(hY8:Y.length<=8):a7 bqh 52 [t.pc,wj X Y] (af [pP .any,pP .any,pP .any,pB (!odB t X Y)]):=by
 refine hpx (nt:=48) Tryz.func52 ?_;have hnr:=hT.nr;have hna:=hT.na;refine sx7 ?_;refine m9 0 ?_;refine m9 1 ?_;refine w_7 ?_;refine c8 2 rfl rfl rfl ?_;refine c8 3 rfl rfl rfl ?_;refine w_3 ?_;refine qcx ahh (aqg t 105 1 (fun j=>[odV X Y].getD j .any) b34 hT (bcb t.attrs.length X Y hX hY hX8 hY8)) ?_;refine l5 ?_;refine ar (ι:=Nat) (ka 2 (ka 3 (ka 18 (ka 19 kn)))) km (fun i=>⟨[(20,some (vI i))],[]⟩) (fun i=>i<=t.rows.length/\∀p,p<i->∀q,p<q->q<t.rows.length->knd X Y (t.rows.getD p default) (t.rows.getD q default)=0) (fun i=>t.rows.length-i) (0) (⟨bm3 _,fun p hp=>absurd hp (bm6 p)⟩) kk ?_;rintro i ⟨hi,hI⟩;refine w_5 ?_;refine hcd ?_ ?_<;>intro h0
 ·
  have hir:i<t.rows.length:=by omega
  refine w_8 ?_;refine m9 2 ?_;refine nc ?_;refine ar (ι:=Nat) (ka 2 (ka 3 (ka 9 (ka 18 (ka 19 (ka 20 (ka 29 (ka 30 kn)))))))) (kb 2 km) (fun k=>⟨[(31,some (vI k))],[]⟩) (fun k=>k<=t.rows.length/\∀q,q<k->i+1+q<t.rows.length->knd X Y (t.rows.getD i default) (t.rows.getD (i+1+q) default)=0) (fun k=>t.rows.length-k) (0) (⟨bm3 _,fun q hq=>absurd hq (bm6 q)⟩) kk ?_;rintro k ⟨hk,hK⟩;refine w_5 ?_;refine hcd ?_ ?_<;>intro h1
  ·
   have hkr:i+1+k<t.rows.length:=by have hz:=h1;simp only[eo,c5]at hz;omega
   refine w_7 ?_;refine m9 3 ?_;refine w_7 ?_;refine qcx b5t (bd4 (t.rows.getD i default) (t.rows.getD (i+1+k) default) X Y (a28 hT hX hir) (a28 hT hX hkr) (a28 hT hY hir) (a28 hT hY hkr)) ?_;refine w_7 ?_;refine hcn ?_ ?_<;>intro h2
   · have hq:¬(knd X Y (t.rows.getD i default) (t.rows.getD (i+1+k) default))=0:=h2;refine l5 ?_;exact hx8 rfl rfl rfl (⟨CoP.any_of,CoP.any_of,CoP.any_of,ccb (by rw[bdk bpw hkr hq];rfl),trivial⟩)
   have hq:(knd X Y (t.rows.getD i default) (t.rows.getD (i+1+k) default))=0:=h2;refine w_5 ?_;refine lpz (k+1) kk ?_;refine⟨by show k+1<=_;omega,fun q hqk hqr=>?_⟩;by_cases hqi:q<k
   · exact hK q hqi hqr
   obtain rfl:q=k:=by omega
   exact hq
  have hke:t.rows.length<=i+1+k:=by have hz:=h1;simp only[eo,c5]at hz;omega
  refine w_5 ?_;refine lpz (i+1) kk ?_;refine⟨by show i+1<=_;omega,fun p hp q hpq hq=>?_⟩;by_cases hpi:p<i
  · exact hI p hpi q hpq hq
  obtain rfl:p=i:=by omega
  have:=hK (q-(p+1)) bpw;rw[show p+1+(q-(p+1))=q by omega]at this;exact this hq
 obtain rfl:i=t.rows.length:=by omega
 refine v_8 ?_;exact⟨CoP.any_of,CoP.any_of,CoP.any_of,ccb (by rw[bg6 hI];rfl),trivial⟩
def bap:a6 bqh 17:=wgx Tryz.func17
def b68 (t:Tbl) (X Y:List Nat) (hT:TOk t) (hX:∀a∈X,a<t.attrs.length) (hY:∀a∈Y,a<t.attrs.length) (hX8:X.length<=8) (hY8:Y.length<=8):a7 bqh 17 [t.pc,wj X Y] (af [pB (odB t X Y),pI 0]):=by
 refine hpx (nt:=27) Tryz.func17 ?_;refine sx7 ?_;refine m9 0 ?_;refine m9 1 ?_;refine w_5 ?_;refine c8 2 rfl rfl rfl ?_;refine c8 3 rfl rfl rfl ?_;refine w_3 ?_;refine qcx ahh (aqg t 50 1 (fun j=>[odV X Y].getD j .any) bc4 hT (bbv t.attrs.length X Y hX hY hX8 hY8)) ?_;refine l5 ?_;refine qcx b8x (bga t X Y hT hX hY hX8 hY8) ?_;refine sb ?_;exact hx8 rfl rfl rfl (⟨ccb bpz,CoC.refl _,trivial⟩)
end
end
section
open Go.Proofs
abbrev u6(n:Nat):PV:=.raw (.int .u64 (n:Int))
end
section
open Go.Proofs
def b50 (b:ByteArray) (i:Nat):inR .i64 (0+ce b i):=by
 have h:(b.data.toList.getD i 0).toNat<256:=UInt8.toNat_lt _;unfold ce;simp only[inR,l8,ml];omega
def b9h{n k k1 k2:Nat}{e:TypeId}{L:List Int}{x y:PV}(hn:n=L.length)(hk:0<k)(hl:k<L.length)(h1:k1=k)(h2:k2=k-1)(hx:x=zC (L.getD (k-1) default) 0)(hy:y=zC (L.getD k default) 0) :
 CoO (.arr true 1 e n (kg (kg (lf zC L) k1 0 [x]) k2 0 [y])) (.arr true 1 e n (lf zC (swL L k))):=by
 subst h1 h2 hx hy;refine⟨fun h=>h,rfl,rfl,rfl,fun i j hi hj=>CoP.of_eq ?_⟩;obtain rfl:j=0:=by omega
 unfold kg lf;rw[jv hk hl];by_cases a:i=k1-1
 · simp[a]
 by_cases b:i=k1
 · subst b
   rw[if_neg bpw,if_neg a,if_pos rfl,if_pos ⟨rfl,by omega,by simp⟩];rfl
 rw[if_neg bpw,if_neg a,if_neg b,if_neg bpw]
def b6h:a6 bqh 161:=wgx Tryz.func161
def bch (n:Nat) (h:n<256):a7 bqh 161 [pP (u6 n)] (af [pP .any]):=by
 refine hpx (nt:=25) Tryz.func161 ?_;refine eu ?_;refine hcd ?_ ?_<;>intro h0
 · exfalso;omega
 refine w_7 ?_;refine hcd ?_ ?_<;>intro h1
 · exfalso;omega
 refine w_7 ?_;refine hcd ?_ ?_<;>intro h2
 · exfalso;omega
 refine w_5 ?_;refine qy ?_ (hp:=(by simp only[j4,inR,l8,ml];omega));refine rq rfl rfl rfl rfl rfl ?_ (hp:=⟨by omega,by show(n:Int)<256;omega⟩);refine qy ?_;refine rq rfl rfl rfl rfl rfl ?_ (hp:=b50 _ _);refine v_2 ?_;exact⟨CoP.any_of,trivial⟩
def b8s:a6 bqh 94:=wgx Tryz.func94
def bd0 (n:Nat) (h:n<256):a7 bqh 94 [pP (u6 n)] (af [pP .any]):=by
 refine hpx (nt:=8) Tryz.func94 ?_;refine eu ?_;refine qcx b6h (bch n h) ?_;refine v_2 ?_;exact CoL.refl _
end
section
open Go.RowKit
def avk{st:HSt}{P:Program}{nt:Nat}{Q:Exit->HSt->Prop}{ι:Type}{g:Operand}{p0:Tmp}{assign body:Code}{gf:FuncId}{k:Nat}{caps:Nat->PV}{n:Nat}{xs0:Nat->PC}(r:Nat->Nat)(hr:∀k,r (r k)=k)
 (hg:ev st.den g=some (.v (.one (.p (.fn gf k caps))))) (hf:a6 P gf) (hit:b1d P gf (er caps k 0) n fun i=>[xs0 i])
 (T:List (Nat×Option HR)) (O:ι->List (Nat×aa)) (p:Nat->ι->Prop) (x0:ι) (hx0:p 0 x0) (hsub:Sub ⟨T,kf (O x0)⟩ st) (fx:List Nat)
 (hB:∀x y,rgB r T (O x) (O y) fx=true) (hp0:Nat.blt p0 nt=true)
 (hround:∀(l i:Nat) (x:ι),i<n->p i x->HW (ro:=some l) P nt assign ⟨(p0,some (.v (xs0 i).toH))::yk r T,kf (j8 r (O x))⟩
  (bgg P nt l body fun st2=>∃y,p (i+1) y/\aeh (j8 r (O y)) st2.den.o))
 (hdone:∀y,p n y->Q .normal ⟨T,kf (O y)⟩):HW (ro:=none) P nt (.rangeFunc g #[p0] assign body) st Q:=by
 classical
 intro w0 m0 a w hrel;obtain⟨c0,hold0,h0⟩:=hrel;obtain⟨cs,e1,hcl,hcr⟩:=ae h0 hg;have hsT:∀x:ι,(HSt.den ⟨T,kf (O x)⟩).o=lk (O x):=fun x=>xe _;have h1:=h0.relax (HSt.den ⟨T,kf (O x0)⟩) (fun d x hx=>wd hsub.1 d x hx) (fun d x hx=>zw hsub.2 d x hx)
 have hcaps:bz c0.imm (er caps k 0) cs:=by
  have:=t7 (m:=c0.imm) (caps:=caps) k 0 cs bpw (fun j hj=>by
   obtain⟨x,hx,hr⟩:=hcr j bpw
   exact⟨x,hx,hr⟩)
  simpa using this
 obtain⟨fg,hfg,hname,hbody⟩:=hf
 have eg:∀args (w:World),(callFunc gf args).run P w=.ok (.enter gf args) w:=fun args w=>by
  simp only[callFunc,bmz,run_program,bmf,hfg,hname,hbody];simp
 refine wpIn_rangeFunc ?_;intro fn hfn;obtain⟨rec,hrec⟩:∃rec:LoopState->Option Code->Loop,rec=fun st pe=>{ state:=st,pending:=pe,fn,tmps:=a.tmps,params:=#[p0],assign,body,defers:=w.heap.size }:=⟨_,rfl⟩;obtain⟨W1,hW1⟩:∃W1,(w.alloc (.deferred (some []))).alloc (.loop (rec .ready none))=W1:=⟨_,rfl⟩
 have hL1:W1.heap[w.heap.size+1]? = some (.loop (rec .ready none)):=by
  rw[<- hW1];have:=World.alloc_heap_new (w.alloc (.deferred (some []))) (.loop (rec .ready none));rwa [World.size_alloc]at this
 have hK1:W1.heap[w.heap.size]? = some (.deferred (some [])):=by
  rw[<- hW1];exact(Below.heap_alloc _ _ _ bpz).trans (World.alloc_heap_new w _)
 have hb1:Below w.heap.size w W1:=by
  rw[<- hW1];exact(((Below.refl _ w).alloc (bm1 _) _).alloc bpz _)
 obtain⟨l,hl⟩:∃l,l=w.heap.size+1:=⟨_,rfl⟩;rw[<- hl]at hL1
 have hnew:∀b,w.heap.size<=b->c0.imm b=none/\c0.frm b=none:=fun b hb=>by
  refine⟨?_, ?_⟩
  · cases hi:c0.imm b with
    |none=>rfl
    |some ob=>have:=(bm5.1 (h0.imm b ob hi)).1;omega
  cases hi:c0.frm b with
  |none=>rfl
  |some ob=>have:=(bm5.1 (h0.frm b ob hi)).1;omega
 have hfl:m0.2.1 l=none:=by rw[<- hold0];exact(hnew l bpw).2
 let aM:Act:={ a with defers:=[{ target:=.collected w.heap.size,args:=#[] }]++a.defers }
 have hM:ag w0 nt c0 (HSt.den ⟨T,kf (O x0)⟩) aM W1:=by
  have h2:=h1.later W1 hb1 c0.imm (fun _ _=>rfl) (fun b ob hb=>(hb1.block b (bm5.1 (h1.imm b ob hb)).1).trans (h1.imm b ob hb));refine⟨⟨bmn.2 ⟨fun d hd e=>?_,h2.defers.1⟩,fun d hd=>?_⟩,h2.size,h2.below,h2.tmps,h2.objs,h2.inj,h2.imm,h2.sep,h2.was,h2.frm,h2.fsep,h2.fixed⟩
  · obtain ⟨D,e2,g1,_⟩:=h1.defers.2 d hd
    rw[<- e]at e2;simp only[Deferred.mk.injEq,Target.collected.injEq,and_true]at e2;have:=(bm5.1 g1).1;omega
  rcases bm9.1 hd with rfl|hd
  · exact⟨w.heap.size,rfl,hK1,(hnew _ (bm1 _)).1,(hnew _ (bm1 _)).2,h0.below.size⟩
  exact h2.defers.2 d hd
 let J:Nat->World->Prop:=fun i A=>∃x c,p i x/\c.old=m0/\Imm.le c0.imm c.imm/\c.imm l=none/\ag w0 nt c (HSt.den ⟨T,kf (O x)⟩) aM A/\A.heap[l]? = some (.loop (rec .ready none))
 refine⟨l,[{ target:=.collected w.heap.size,args:=#[] }],W1,{ target:=.fn (.func gf) cs.toArray,args:=#[.func (.yield l) #[] #[]] },W1,gf,#[.func (.yield l) #[] #[]]++cs.toArray,W1, ?_, ?_,fun _ _=>trivial, ?_,fun hh=>absurd hh (by simp[rf]), ?_⟩
 · rw[<- hW1,hrec,hl];exact run_enterLoop_outer _ _ _ _ _
 · simp only [resolve,e1]
   simp[go_sem]
 · simp[invoke,go_sem,eg]
 have hJ0:J 0 W1:=⟨x0,c0,hx0,hold0,Imm.le.refl _,(hnew l bpw).1,hM,hL1⟩;have hnd:∀(st:LoopState) (pe:Option Code),so (Obj.loop (rec st pe))=false/\∀ds,Obj.loop (rec st pe)≠.deferred ds:=fun st pe=>⟨rfl,(fun _ e=>by cases e)⟩;refine(hit c0.imm c0.tab cs W1 l J hcaps (fun i A ⟨x,c,_,_,hle,_,hR,_⟩ b ob hb=>hR.imm b ob (hle b ob hb)) (fun i A A' ⟨x,c,hp,ho,hle,hil,hR,hA⟩ hb=>?_) (fun i A vs hi hJ hvs=>?_) hJ0).mono ?_
 · refine⟨x,_,hp,ho,hle,hil,hR.later A' hb c.imm (fun _ _=>rfl) (fun b ob hb'=>(hb.block b (bm5.1 (hR.imm b ob hb')).1).trans (hR.imm b ob hb')),(hb.block l (bm5.1 hA).1).trans hA⟩
 · obtain ⟨x,c,hp,ho,hle,hil,hR,hA⟩:=hJ
   obtain ⟨v0,rfl,hv0⟩:∃v0,vs=[v0]/\jm c0.imm (xs0 i) v0:=by
    match vs,hvs with
    | [v0],⟨q0,_⟩=>exact⟨v0,rfl,q0⟩
   refine⟨fn,a.tmps.setIfInBounds p0 v0,assign,body, ?_, ?_⟩
   · have:=run_yield (P:=P) (l:=l) (r:=rec .ready none) (args:=#[v0]) hA (by rw[hrec];rfl)
     rw[this,hrec];simp
   have hmem:Mem c (lk (O x)) A:=by
    have:=hR;rw[<- hsT x];exact⟨hR.objs,hR.inj,hR.imm,hR.sep⟩
   have hmemR:Mem (c.ren r) (lk (j8 r (O x))) A:=(Mem.ren hr (qn hr (O x))).2 (by rw[Ctx.ren_ren hr];exact hmem)
   let own2:Nat->Prop:=fun b=>∃id ob,lk (j8 r (O x)) id=some ob/\(c.ren r).blk id b
   let frmR:Imm:=fun b=>if own2 b then none else A.heap[b]?
   let oldR:Old:=(c.imm,frmR,(c.ren r).own,lk (j8 r (O x)),(c.ren r).rows)
   let cR:Ctx:={ old:=oldR,imm:=c.imm,tab:=c.tab,own:=(c.ren r).own,blk:=(c.ren r).blk,rows:=(c.ren r).rows }
   have hsR:(HSt.den ⟨yk r T,kf (j8 r (O x))⟩).o=lk (j8 r (O x)):=xe _
   have hround0:ag A nt cR (HSt.den ⟨yk r T,kf (j8 r (O x))⟩) { tmps:=a.tmps,defers:=[] } A:=by
    refine⟨py.nil _ _ _ _,hR.size,Below.refl _ _,fun d y hy=>?_,fun id ob hob=>?_,fun id id' ob ob' b hob hob'=>?_,hR.imm,fun id ob b hob=>?_,fun b _=>rfl,fun b ob hbo=>?_,fun id ob b hob hbb=>?_,fun id _=>Evo.of_same (congrFun hsR id) rfl⟩
    · have hy:b6 (yk r T) d=some y:=hy
      rw[a59]at hy
      cases hd:b6 T d with
      |none=>rw[hd]at hy;cases hy
      | some z =>
       rw[hd]at hy;simp only[bmq,bly]at hy;subst hy;have hz:=hR.tmps d z hd;rw[hsT x]at hz;rw[hsR];have:=(ak.ren (c:=c.ren r) (r:=r) (qn hr (O x)) (x:=z) (u:=aM.tmps.getD d undef)).2 (by rw[Ctx.ren_ren hr];exact hz);exact ak.evo (c:=c.ren r) (o:=lk (j8 r (O x))) (Imm.le.refl c.imm) (fun _ _=>Evo.of_same rfl rfl) this
    · rw [hsR]at hob ⊢
      exact(hmemR.objs id ob hob).keep (Imm.le.refl c.imm) rfl rfl (fun _ _=>Evo.of_same rfl rfl) fun _ _=>rfl
    · rw [hsR]at hob hob'
      exact hmemR.inj id id' ob ob' b hob hob'
    · rw [hsR]at hob
      exact hmemR.sep id ob b hob
    · have hbo:frmR b=some ob:=hbo
      simp only[frmR]at hbo;split at hbo
      · cases hbo
      exact hbo
    rw[hsR]at hob;show frmR b=none;simp only[frmR];rw[if_pos ⟨id,ob,hob,hbb⟩]
   have hround1:=hround0.put p0 (by simpa [bob]using hp0) (some (.v (xs0 i).toH)) v0 (fun y hy=>by cases hy;exact ey.of_P (c:=cR) (jm.mono hle hv0))
   have hst:(HSt.den ⟨yk r T,kf (j8 r (O x))⟩).put p0 (some (.v (xs0 i).toH))=HSt.den ⟨(p0,some (.v (xs0 i).toH))::yk r T,kf (j8 r (O x))⟩:=by
    unfold HSt.den S.put;simp[az]
   rw[hst]at hround1
   have hown_l:¬own2 l:=fun⟨id,ob,q1,q2⟩=>by
    obtain⟨x1,hcc,hdt⟩:=(hmemR.objs id ob q1).data q2;rw[hA]at hcc;cases hcc;cases hdt
   have hfl1:oldR.2.1 l=some (.loop (rec .ready none)):=by
    show frmR l=_;simp only[frmR];rw[if_neg hown_l];exact hA
   refine roundIn_of_wpIn (P:=P) (F:=rf none) (n:=0) trivial ?_;refine wpIn_mono (hround l i x hi hp A oldR _ A ⟨cR,rfl,hround1⟩) ?_;rintro e a1 w1 ⟨st1,⟨rfl,hbody1⟩,⟨c1,hold1,hR1⟩⟩;have hfrm1:c1.frm l=some (.loop (rec .ready none)):=by show c1.old.2.1 l=_;rw[hold1];exact hfl1
   have hl1:w1.heap[l]? = some (.loop (rec .ready none)):=hR1.frm l _ hfrm1;have hi1:c1.imm l=none:=by rw[hR1.was l (by rw[hfrm1];simp),hold1];exact hil
   refine⟨_,run_beginRound hl1 (by rw[hrec]), ?_⟩;have hready:({ rec .ready none with state:=.busy }:Loop)=rec .busy none:=by rw[hrec]
   rw[hready];have hRb:=hR1.turn (.loop (rec .busy none)) (some (.loop (rec .busy none))) hl1 (hnd _ _).1 (hnd _ _).2 hi1 (fun _=>by rw[hold1];exact hil) (.inr rfl)
   let oldB:Old:=(oldR.1,fun b=>if b=l then some (.loop (rec .busy none))else oldR.2.1 b,oldR.2.2)
   have hRb':Rel A oldB nt st1.den a1 (w1.putObj l (.loop (rec .busy none))):=⟨_,by
    show((c1.old.1,(fun b=>if b=l then some (Obj.loop (rec .busy none))else c1.old.2.1 b),c1.old.2.2):Old)=oldB
    rw[hold1],hRb⟩
   refine wpIn_mono (hbody1 A oldB a1 _ hRb') ?_;rintro e a2 w2 ⟨st2,⟨rfl,y,hpy,hsub2⟩,⟨c2,hold2,hR2⟩⟩;have hfrm2:c2.frm l=some (.loop (rec .busy none)):=by show c2.old.2.1 l=_;rw[hold2];show(if l=l then _ else _)=_;rw[if_pos rfl]
   have hl2:w2.heap[l]? = some (.loop (rec .busy none)):=hR2.frm l _ hfrm2;have hi2:c2.imm l=none:=by rw[hR2.was l (by rw[hfrm2];simp),hold2];exact hil
   refine⟨_,_,run_endRound none hl2,by simp, ?_⟩;have hready2:({ rec .busy none with state:=if(none:Option Code).isNone then .ready else .done,pending:=none }:Loop)=rec .ready none:=by rw[hrec];simp
   rw[hready2];have hR3:=(hR2.relax ⟨fun _=>none,lk (j8 r (O y))⟩ (fun d x hx=>by cases hx) (ze hsub2)).turn (.loop (rec .ready none)) none hl2 (hnd _ _).1 (hnd _ _).2 hi2 (fun e=>absurd rfl e) (.inl rfl);have hw3:(w2.putObj l (.loop (rec .ready none))).heap[l]? = some (.loop (rec .ready none)):=afu hl2;obtain⟨bB1,bB2,bB3⟩:=az1 (hB x y);have hmem3:Mem (c2.ren r) (lk (O y)) (w2.putObj l (.loop (rec .ready none))):=(Mem.ren hr (qn hr (O y))).1 ⟨fun id ob hob=>(hR3.objs id ob hob).keep (Imm.le.refl c2.imm) rfl rfl (fun _ _=>Evo.of_same rfl rfl) fun _ _=>rfl,hR3.inj,hR3.imm,hR3.sep⟩
   have forth:∀(q:List (Nat×aa)) id ob,lk (j8 r q) id=some ob->∃ob',lk q (r id)=some ob'/\ob=ob'.ren r:=fun q id ob h=>by
    have:=qn hr q (r id);rw[hr,h]at this
    cases hid:lk q (r id) with
    |none=>rw[hid]at this;cases this
    |some ob'=>rw[hid]at this;exact⟨ob',rfl,by simpa using this⟩
   have back:∀(q:List (Nat×aa)) id ob,lk q id=some ob->lk (j8 r q) (r id)=some (ob.ren r):=fun q id ob h=>by rw[qn hr,h];rfl
   have hfr2:∀b,c2.frm b=if b=l then some (.loop (rec .busy none))else frmR b:=fun b=>by show c2.old.2.1 b=_;rw[hold2]
   have hnot:∀b,b<A.heap.size->¬own2 b->(w2.putObj l (.loop (rec .ready none))).heap[b]? = A.heap[b]?/\c2.imm b=c.imm b:=fun b hb hno=>by
    by_cases e:b=l
    · subst e
      exact⟨hw3.trans hA.symm,hi2.trans hil.symm⟩
    have e2:c2.frm b=some A.heap[b]:=by
     rw[hfr2,if_neg e];simp only[frmR];rw[if_neg hno];exact bno hb
    refine⟨(w6 e).trans ?_, ?_⟩
    · rw[hR2.frm b _ e2,bno hb]
    rw[hR2.was b (by rw[e2];simp),hold2]
   have hsO:∀id ob,lk (O x) id=some ob->∃ob',(HSt.den ⟨T,kf (O x)⟩).o id=some ob'/\CoO ob' ob:=fun id ob h=>⟨ob,by rw[hsT x];exact h,CoO.refl ob⟩
   have hnoO:∀b,(∀id ob,lk (O x) id=some ob->¬c.blk id b)->¬own2 b:=fun b hno ⟨id,ob,q1,q2⟩=>by
    obtain⟨ob',q3,_⟩:=forth _ _ _ q1;exact hno (r id) ob' q3 q2
   obtain ⟨c4,hc4,hc4i,hR4,_⟩:=hR.fcall (o1:=O x) (o2:=O y) (fx:=fx) hsO (fun id h2 h1=>by
    rw[hsT x]
    cases hid:lk (O x) id with
    |none=>rfl
    |some ob=>exact absurd (a0v hid) h1)
    (fun id h2 hor=>⟨yc (bB2 id h2 hor).2,fun id' ob' hni ho'=>by
     rw[hsT x]at ho'
     exact absurd (bmi _ (a0v ho')) hni,(bB2 id h2 hor).1⟩)
    bB3 (w':=w2.putObj l (.loop (rec .ready none))) (c':=c2.ren r) hmem3
    (by
     have hb:=hR3.below
     exact⟨hb.os,hb.tape,hb.output,hb.size,fun k hk=>absurd hk (bm6 k),hb.drawn⟩)
    (fun b hb hno=>hnot b hb (hnoO b hno))
    (fun id ob b hid hbk=>by
     have hid':=back _ _ _ hid;have e:=hR3.fsep (r id) _ b hid' hbk;have e:(if b=l then none else c2.frm b)=none:=e
     have hbl:b≠l:=fun e2=>by
      obtain⟨x1,hcc,hdt⟩:=(hR3.objs (r id) _ hid').data hbk;rw[e2,hw3]at hcc;cases hcc;cases hdt
     rw[if_neg hbl,hfr2,if_neg hbl]at e;simp only[frmR]at e;by_cases ho2:own2 b
     · obtain ⟨id0,ob0,q1,q2⟩:=ho2
       obtain⟨ob',q3,_⟩:=forth _ _ _ q1;exact .inr ⟨r id0,ob',q3,q2⟩
     rw[if_neg ho2]at e
     exact .inl (bpt fun hlt=>by simp[hlt]at e))
    (fun id hid=>by
     have e:=hR3.fixed (r id) (bB1 id hid)
     have e2:∀(o:Old) (ho:c2.old=o) (ht:qs o.1),Evo { old:=o,imm:=o.1,tab:=ht,own:=o.2.2.1,blk:=c2.blk,rows:=o.2.2.2.2 } o.2.2.2.1 c2 (lk (j8 r (O y))) (r id):=by
      intro o ho ht;subst ho;exact e
     have e2:=e2 oldB hold2 c.tab
     have e3:Evo cR (lk (j8 r (O x))) c2 (lk (j8 r (O y))) (r id):=by
      rcases e2 with q|⟨l1,l2,q1,q2,q3⟩|⟨oa,ob,sz,et,n1,n2,q1,q2,q3,q4,q5,q6,q7⟩
      · exact .inl q
      · exact .inr (.inl ⟨l1,l2,q1,q2,q3⟩)
      exact .inr (.inr ⟨oa,ob,sz,et,n1,n2,q1,q2,q3,q4,q5,q6,q7⟩)
     rcases e3 with q|⟨l1,l2,q1,q2,q3⟩|⟨oa,ob,sz,et,n1,n2,q1,q2,q3,q4,q5,q6,q7⟩
     · left
       cases hid2:lk (O y) id with
       |none=>rfl
       |some ob=>rw[back _ _ _ hid2]at q;cases q
     · obtain ⟨ob1,g1,g2⟩:=forth _ _ _ q1
       obtain⟨ob2,g3,g4⟩:=forth _ _ _ q2;rw[hr]at g1 g3
       have hbx:∀{ob:aa} {l1:List HV},aa.box l1=ob.ren r->∃l0,ob=.box l0:=fun {ob l1} h=>by
        cases ob with
        |box l0=>exact⟨l0,rfl⟩
        |mp kk n f=>cases h
        |bld fr T e l=>cases h
        |ex d v b x=>cases h
        |bun B=>cases h
        |opq s e n R=>cases h
        |nest e et es n m g pd=>cases pd<;>cases h
        |arr wr s e n f=>cases h
        |arrh s e n ms f=>cases h
       obtain⟨l3,rfl⟩:=hbx g2;obtain⟨l4,rfl⟩:=hbx g4;refine .inr (.inl ⟨l3,l4,g1,g3, ?_⟩);show c2.own (r id)=c.own id;rw[q3];show c.own (r (r id))=c.own id;rw[hr]
     obtain⟨ob1,g1,rfl⟩:=forth _ _ _ q1;obtain⟨ob2,g3,rfl⟩:=forth _ _ _ q3;rw[hr]at g1 g3;rw[aa.ren_dim]at q2 q4;refine .inr (.inr ⟨ob1,ob2,sz,et,n1,n2,g1,q2,g3,q4,q5,fun hn=>?_,fun ea et2 es na ma ga pd hb=>?_⟩)
     · show c2.own (r id)=c.own id
       rw[q6 hn];show c.own (r (r id))=c.own id;rw[hr]
     obtain⟨e0,et0,n0,m0,g0,pd0,t1,t2,t3⟩:=(dt.unren q7) ea et2 es na ma ga pd hb;refine⟨e0,et0,n0,m0,g0,pd0,t1,t2,fun i hi=>⟨(t3 i hi).1,fun hm=>?_⟩⟩;have t4:=(t3 i hi).2 hm;have t5:c2.rows (r id) i=c.rows (r (r id)) i:=t4;rw[hr]at t5
     exact t5)
   have hnl:∀id ob,lk (O x) id=some ob->¬c.blk id l:=fun id ob hid hbk=>by
    obtain⟨x1,hcc,hdt⟩:=(hmem.objs id ob hid).data hbk;rw[hA]at hcc;cases hcc;cases hdt
   refine⟨y,c4,hpy,hc4.trans ho,fun b ob hb=>?_, ?_, ?_,hw3⟩
   · rw [hc4i]
     show c2.imm b=some ob;have hb':=hle b ob hb;have hlt:=(bm5.1 (hR.imm b ob hb')).1
     rw [(hnot b hlt (hnoO b fun id ob2 hid hbk=>by
      rw[hmem.sep id ob2 b hid hbk]at hb';cases hb')).2]
     exact hb'
   · rw[hc4i];exact hi2
   refine hR4.weaken _ (fun d z hz=>hz) (fun id ob hob=>?_);rw[hsT y]at hob;show(match gn (ww (O x) (O y)) id with|some q=>q|none=>_)=some ob;rw[ach,hob]
 rintro e W3 ⟨⟨v,rfl⟩,x,c,hp,ho,hle,hil,hR,hA⟩;refine⟨_,_,run_endLoop hA (by rw[hrec];simp), ?_⟩;have hpe:(rec .ready none).pending=none:=by rw[hrec]
 rw[hpe];refine⟨_,hdone x hp,c,ho, ?_⟩;exact hR.turn0 _ hA (hnd _ _).1 (hnd _ _).2 hil (by show c.old.2.1 l=none;rw[ho];exact hfl)
end
end Go.Hx
