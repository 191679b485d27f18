/- A part of the proof: Bd3 Kw3 Kx1 Kx2 Kx3 Kx5 Kx6. -/
import Derived.Shelf.Spec.BitsCarry
import Derived.Test.YtmoggbnlhllhaaaGreatDoorTx27
import Derived.Test.YtmoggbnlhllhaaaGreatDoorTx29
import Derived.Test.YtmoggbnlhllhaaaGreatDoorTx30
set_option linter.all false
set_option maxRecDepth 100000
set_option maxHeartbeats 1000000
namespace Go.Hx
section
open Go.Shelf Go.RowKit Go.Proofs
abbrev tB:TypeId:=172
abbrev tC:TypeId:=5
abbrev bd(fr:Bool)(l:List UInt8):ae:=.bld fr tB tC (Lib.byteCells l)
def b6c:a6 Tryz.prog 90:=⟨Tryz.f90,Tryz.func90,by kernel_rfl,by kernel_rfl⟩
def b92:a6 Tryz.prog 91:=⟨Tryz.f91,Tryz.func91,by kernel_rfl,by kernel_rfl⟩
def ae5 {v:Value} (h:∃a m c,v=.slice a m c):v.ownBlock=c6 v:=by
 obtain⟨a,m,c,rfl⟩:=h;cases a<;>rfl
def afb (l:List UInt8) (s:ByteArray):Lib.byteCells l++Lib.strCells s=Lib.byteCells (l++s.data.toList):=by
 simp[Lib.byteCells,Lib.strCells]
def agq {c:Ctx} {w:World} {id:Nat} {fr:Bool} {T e:TypeId} {l:List Value} (h:ayr 0 c w id fr T e l) :
 ∃b p v,c.own id=.pointer (some ⟨b,0,none⟩)/\BAt T e b p v l w/\(p=.pointer none\/p=.pointer (some ⟨b,0,none⟩))/\(∀k,c.blk id k<->k=b\/v.ownBlock=some k)/\(fr=true->p=.pointer none/\v=.slice none 0 0):=by
 obtain⟨b,p,v,h1,_,h3,h4,h5,h6,h7,h8⟩:=h;have e:=ae5 (ac0 h5).1;exact⟨b,p,v,h1,⟨h3,h5,by rw[e];exact h6⟩,h4,fun k=>by rw[e];exact h7 k,h8⟩
def awy{c:Ctx}{w w':World}{id b:Nat}{fr:Bool}{T e:TypeId}{v v':Value}{l l':List Value}{r:Value}{res:HR}(hM:Mem c (lk [(id, .bld fr T e l)]) w)(hown:c.own id=.pointer (some ⟨b,0,none⟩))(hblk:∀k,c.blk id k<->k=b\/v.ownBlock=some k)
 (hB':BAt T e b (.pointer (some ⟨b,0,none⟩)) v' l' w') (hbel:Below 0 w w') (hfr:∀k,k<w.heap.size->k≠b->v.ownBlock≠some k->w'.heap[k]? = w.heap[k]?) (hv':∀k,v'.ownBlock=some k->v.ownBlock=some k\/w.heap.size<=k)
 (hres:∀c' o',al c' o' res r) :
 ∃ v2 c',Ending.returned r=.returned v2/\al c' (lk [(id, .bld false T e l')]) res v2/\Mem c' (lk [(id, .bld false T e l')]) w'/\Below 0 w w' /\
  (∀b,b<w.heap.size->(∀id' ob,lk [(id, .bld fr T e l)] id'=some ob->¬c.blk id' b)->w'.heap[b]? = w.heap[b]?/\c'.imm b=c.imm b) /\
  (∀id' ob b,lk [(id, .bld false T e l')] id'=some ob->c'.blk id' b->w.heap.size<=b\/∃id0 ob0,lk [(id, .bld fr T e l)] id0=some ob0/\c.blk id0 b) /\
  (∀id'∈[id],Evo c (lk [(id, .bld fr T e l)]) c' (lk [(id, .bld false T e l')]) id'):=by
 have hl1:lk [(id,ae.bld fr T e l)] id=some (.bld fr T e l):=by simp[lk]
 have hl2:lk [(id,ae.bld false T e l')] id=some (.bld false T e l'):=by simp[lk]
 have one:∀{x:ae} {id':Nat} {ob:ae},lk [(id,x)] id'=some ob->id'=id/\ob=x:=fun {x id' ob} h=>⟨(l6 h).1,(l6 h).2⟩;have sep:∀k,k=b\/v.ownBlock=some k->c.imm k=none:=fun k hk=>hM.sep id _ k hl1 ((hblk k).2 hk);have lt:∀k ob,c.imm k=some ob->k<w.heap.size:=fun k ob hk=>(biu.1 (hM.imm k ob hk)).1;have e':=ae5 (ac0 hB'.own).1;refine⟨r,{ c with blk:=fun k=>if k=id then(fun x=>x=b\/v'.ownBlock=some x)else c.blk k },rfl,hres _ _,⟨fun id' ob h=>?_,fun i i' ob ob' k h h' _ _=>?_,fun k ob hk=>?_,fun id' ob k h hk=>?_⟩,hbel,fun k hk hn=>?_,fun id' ob k h hk=>?_,fun id' hid=>?_⟩
 · obtain ⟨rfl,rfl⟩:=one h
   exact⟨b,_,v',hown,bio _,hB'.heap, .inr rfl,hB'.own,by rw[<- e'];exact hB'.ne,fun k=>by simp[e'],fun h=>by cases h⟩
 · rw[(one h).1,(one h').1]
 · have hk':=lt k ob hk
   refine(hfr k hk' (fun e=>?_) fun e=>?_).trans (hM.imm k ob hk)
   · have:=sep k (.inl e);have hk2:c.imm k=some ob:=hk;rw[hk2]at this;cases this
   have:=sep k (.inr e);have hk2:c.imm k=some ob:=hk;rw[hk2]at this;cases this
 · obtain ⟨rfl,rfl⟩:=one h
   simp only[if_true]at hk
   rcases hk with rfl|hk
   · exact sep _ (.inl rfl)
   rcases hv' k hk with h1|h1
   · exact sep k (.inr h1)
   show c.imm k=none
   cases hi:c.imm k with
   |none=>rfl
   |some ob=>have:=lt k ob hi;omega
 · have hn':=fun h=>hn id _ hl1 ((hblk k).2 h)
   exact⟨hfr k hk (fun e=>hn' (.inl e)) fun e=>hn' (.inr e),rfl⟩
 · obtain ⟨rfl,rfl⟩:=one h
   simp only[if_true]at hk
   rcases hk with rfl|hk
   · exact .inr ⟨_,_,hl1,(hblk _).2 (.inl rfl)⟩
   rcases hv' k hk with h1|h1
   · exact .inr ⟨_,_,hl1,(hblk k).2 (.inr h1)⟩
   exact .inl h1
 rw[bjb.1 hid];exact .inr (.inr ⟨_,_,0,1,0,0,hl1,rfl,hl2,rfl,bil _,fun _=>rfl,fun _ _ _ _ _ _ _ h=>by cases h⟩)
def b7l (id:Nat) (fr:Bool) (l:List UInt8) (s:ByteArray) (hlen:l.length+s.size<=140737488355328):dv Tryz.prog 90 [.one (.ref id 0), .one (.p (.raw (.string s)))] [(id,bd fr l)] (.tup [.one (.p (.raw (.int .i64 (s.size:Int)))), .one (.p (.raw .nilIface))]) [(id,bd false (l++s.data.toList))] [id]:=by
 intro w c us hM hus
 match us,hus with
 | [u,v],⟨hu,hv,_⟩ =>
  obtain⟨rfl,_⟩:=hv;have hl1:lk [(id,bd fr l)] id=some (bd fr l):=by simp[lk]
  have hu2:u=c.own id:=(hu.2.2 _ _ _ _ hl1 rfl).2 rfl;subst hu2;obtain⟨b,p,v0,hown,hB,hp,hblk,_⟩:=agq (hM.objs id _ hl1);rw[hown];refine(afj (P:=Tryz.prog) (ρ:=Tryz.lays166_ren) Tryz.lays166 Tryz.Builder_Extra_166 b p v0 _ s w hp hB (by rw[Lib.byteCells_length];exact hlen)).mono ?_;rintro e w' ⟨rfl,hbel,v',hB',hfr,hv'⟩;rw[afb]at hB';exact awy hM hown hblk hB' hbel hfr hv' fun c' o'=>⟨_,rfl,⟨rfl,rfl⟩,⟨rfl,rfl⟩,trivial⟩
def bcm (id:Nat) (fr:Bool) (l:List UInt8) (h0:l≠[]):dv Tryz.prog 91 [.one (.ref id 0)] [(id,bd fr l)] (.v (.one (.p (.raw (.string ⟨l.toArray⟩))))) [] []:=by
 intro w c us hM hus
 match us,hus with
 | [u],⟨hu,_⟩ =>
  have hl1:lk [(id,bd fr l)] id=some (bd fr l):=by simp[lk]
  have hu2:u=c.own id:=(hu.2.2 _ _ _ _ hl1 rfl).2 rfl;subst hu2;obtain⟨b,p,v0,hown,hB,hp,hblk,_⟩:=agq (hM.objs id _ hl1);rw[hown];refine(avh (P:=Tryz.prog) (ρ:=Tryz.lays169_ren) Tryz.lays169 Tryz.Builder_Extra_169 b p v0 l w hB h0).mono ?_;rintro e w' ⟨rfl,hbel,hfr⟩;refine⟨_,c,rfl,⟨rfl,rfl⟩,⟨(fun id' ob h=>by cases h),(fun i i' ob ob' k h=>by cases h),fun k ob hk=>?_,(fun id' ob k h=>by cases h)⟩,hbel,fun k hk hn=>⟨hfr k fun e=>hn id _ hl1 ((hblk k).2 (.inr e)),rfl⟩,(fun id' ob k h=>by cases h),(fun id' hid=>by cases hid)⟩;refine(hfr k fun e=>?_).trans (hM.imm k ob hk);have:=hM.sep id _ k hl1 ((hblk k).2 (.inr e));rw[hk]at this;cases this
set_option maxHeartbeats 1000000 in
def apj {P:Program} {ρ:Ren} (L:Lays.n169 P ρ) (X:Builder.Extra P ρ) (b:Nat) (p:Value) (w:World) (hbk:w.heap[b]? = some (.cells #[p, .slice none 0 0] (ρ.t 72) (0,0))) :
 Calls P (ρ.f 169) #[.pointer (some ⟨b,0,none⟩)] w fun e w'=>e=.returned (.string ⟨#[]⟩)/\Below 0 w w'/\∀k:Nat,w'.heap[k]? = w.heap[k]?:=by
 have hUS:=Any.unsafeString_none L X
 have c1:w.drew.cell? ⟨b,1,none⟩=some (.slice none 0 0):=by
  have:w.drew.heap[b]? = some (.cells #[p, .slice none 0 0] (ρ.t 72) (0,0)):=hbk;rw[Lib.cell_of_heap this];rfl
 have hSD:(Builtin.unsafeSliceData_ #[(ρ.t 37)] (ρ.t 127) #[.slice none 0 0]).run P w.drew=.ok (.pointer none) w.drew:=rfl;have mixed:=L.mixed;have t72:=L.t72;have a72:=L.a72;have z72:=L.z72;have v72:=L.v72;have u72:=run_underlying L.t72;have t70:=L.t70;have a70:=L.a70;have z70:=L.z70;have v70:=L.v70;have u70:=run_underlying L.t70;have t37:=L.t37;have a37:=L.a37;have z37:=L.z37;have v37:=L.v37;have u37:=run_underlying L.t37;have t127:=L.t127;have a127:=L.a127;have z127:=L.z127;have v127:=L.v127;have u127:=run_underlying L.t127;have t3:=L.t3;have a3:=L.a3;have z3:=L.z3;have v3:=L.v3;have u3:=run_underlying L.t3;have t9:=L.t9;have a9:=L.a9;have z9:=L.z9;have v9:=L.v9;have u9:=run_underlying L.t9;have t5:=X.t5;have a5:=X.a5;have z5:=X.z5;have v5:=X.v5;have u5:=run_underlying X.t5
 go_enter L.f169,Body.n169_ntmps ρ
 go_wp2
 go_region_o
 all_goals (go_wp2;go_ret;exact⟨rfl,Below.drew (Below.refl 0 w),fun k=>rfl⟩)
def b5o (id:Nat):dv Tryz.prog 91 [.one (.ref id 0)] [(id,bd true [])] (.v (.one (.p (.raw (.string ⟨#[]⟩))))) [] []:=by
 intro w c us hM hus
 match us,hus with
 | [u],⟨hu,_⟩ =>
  have hl1:lk [(id,bd true [])] id=some (bd true []):=by simp[lk]
  have hu2:u=c.own id:=(hu.2.2 _ _ _ _ hl1 rfl).2 rfl;subst hu2;obtain⟨b,p,v0,hown,hB,hp,hblk,hfr⟩:=agq (hM.objs id _ hl1);obtain⟨_,rfl⟩:=hfr rfl;rw[hown];refine(apj (P:=Tryz.prog) (ρ:=Tryz.lays169_ren) Tryz.lays169 Tryz.Builder_Extra_169 b p w hB.heap).mono ?_;rintro e w' ⟨rfl,hbel,hfr⟩;exact⟨_,c,rfl,⟨rfl,rfl⟩,⟨(fun id' ob h=>by cases h),(fun i i' ob ob' k h=>by cases h),fun k ob hk=>(hfr k).trans (hM.imm k ob hk),(fun id' ob k h=>by cases h)⟩,hbel,fun k hk hn=>⟨hfr k,rfl⟩,(fun id' ob k h=>by cases h),(fun id' hid=>by cases hid)⟩
end
section
open Go.Proofs
def azm {s:AS} {n:Nat} (hn:n<=16) (h:∀z,s.getLsbD z=true->z<n):(asI s).fdiv (2^(min n 64))=0:=by
 rw[bjw bmq]
 have h2:s>>>n=0:=auc.2 fun k _ hk=>by
  rw[bj5];intro hb;have:=h k hb;omega
 have h3:s.toNat/2^n=0:=by
  have:=congrArg BitVec.toNat h2;simpa [bl3,bky]using this
 have h4:asI s=(s.toNat:Int):=rfl;rw[h4,show(2:Int)^n=((2^n:Nat):Int) by simp,bkb _ (bjp _),<- bli,h3];rfl
def a3m {t:Tbl} (hT:TOk t):aa bnb 30 [t.pc] (ag [pI 0]):=by
 have h:=c88 t;rw[om.2 hT]at h;exact h
def b7c {a b:Prt} (ha:f7 a=true) (hb:f7 b=true) (hr:a.rows=b.rows):∀i,i<(o9 a b a.rows.toNat).length->(Lit.int .i64 ((o9 a b a.rows.toNat).getD i default).1).wf=true/\(Lit.int .i64 ((o9 a b a.rows.toNat).getD i default).2).wf=true:=fun i hi=>by
 rw[tn]at hi;obtain⟨h0,h1⟩:=l7 ha
 have e:(o9 a b a.rows.toNat).getD i default=((ap a).getD i default,(ap b).getD i default):=by
  rw[ah _ _ (by rw[tn];exact hi)];simp only[o9,bkw,bkl,hi,if_true]
 have ka:=xa (p:=a) (m:=1000) bmq (mc ha) i (by rw[gu];exact hi);have kb:=xa (p:=b) (m:=1000) bmq (mc hb) i (by rw[gu];omega);rw[e];exact⟨ap8 (by show _<=(gl a a.cls.length).getD i default;omega) (by show(gl a a.cls.length).getD i default<=_;omega),ap8 (by show _<=(gl b b.cls.length).getD i default;omega) (by show(gl b b.cls.length).getD i default<=_;omega)⟩
def b7b (id:Nat) (fr:Bool) (l:List UInt8) (h1:fr=true->l=[]) (h0:fr=false->l≠[]):dv bnb 91 [.one (.ref id 0)] [(id,bd fr l)] (.v (.one (.p (.raw (.string ⟨l.toArray⟩))))) [] []:=by
 cases fr with
 | true =>
  rw[h1 rfl];exact b5o id
 |false=>exact bcm id false l (h0 rfl)
def ati:a6 bnb 31:=wgx Tryz.func31
def ai7 (t:Tbl) (s:AS) (hn:t.attrs.length<=16) (hs:∀z,s.getLsbD z=true->z<t.attrs.length):aa bnb 31 [t.pc,pA s] (ag [pB true]):=by
 refine hpx (nt:=12) Tryz.func31 ?_;refine sx7 ?_;refine m9 0 ?_;refine w_5 ?_;refine rq rfl rfl rfl rfl rfl ?_ (hp:=⟨by show(0:Int)<=_;exact oi s,by show _<=(18446744073709551615:Int);have:=a08 s;omega⟩);refine v_7 ?_;exact⟨ccb (decide_eq_true (azm hn hs)),trivial⟩
def age:a6 bnb 33:=wgx Tryz.func33
def aui(t:Tbl)(s:AS)(hT:TOk t)(hs:∀z,s.getLsbD z=true->z<t.attrs.length):aa bnb 33 [t.pc,pA s] (ag [(a7 t s).pc]):=by
 refine hpx (nt:=57) Tryz.func33 ?_;have hna:=hT.na;have hnr:=hT.nr;have hm32:(bc s).length<=32:=by unfold bc;exact bj2 (bk9 _ _) (by rw[blc];exact bil _)
 refine sx7 ?_;refine m9 0 ?_;refine m9 1 ?_;refine w_4 ?_;refine qcx aij (axm s) ?_;refine w_7 ?_;refine m9 2 ?_;refine ip ?_;refine bp (ka 2 (ka 4 (ka 5 (ka 21 (ka 22 kn))))) (kb 0 (kb 1 km)) (fun i=>⟨[(6,some (.v (.one (.ref 2 t.rows.length)))),(23,some (vI i))],[(2,some (.arr true 1 9 t.rows.length (lf a8q (qg t s i))))]⟩) t.rows.length ⟨⟨⟨_,rfl,(CoR.of_eq (by rw[bit]))⟩,tt⟩,⟨⟨_,rfl,(a0m bmq fun i hi=>CoP.of_eq (by have hi2:i<t.rows.length:=bmq;show _=PV.raw (.string ((qg t s 0).getD i default));rw[ah _ _ (by rw[qa];exact hi2)];simp[qg];rfl))⟩,trivial⟩⟩ ?_;rintro i hi;refine w_5 ?_;refine hcd ?_ ?_<;>intro h0
 ·
  have hir:i<t.rows.length:=by omega
  have hwi:(t.rows.getD i default).vals.length=t.attrs.length:=hT.width hir;have hok:(t.rows.getD i default).vals.all cj=true:=(fk hT.rs _ (by rw[ah _ _ hir];exact bin hir)).2.2
  have hpos:¬(bc s).length=0->bl (ov (t.rows.getD i default).vals s (bc s).length)≠[]:=fun h=>by
   obtain⟨q,hq⟩:∃q,(bc s).length=q+1:=⟨(bc s).length-1,by omega⟩;rw[hq];refine avb bmq ?_;have hlt:(bc s).getD q default<(t.rows.getD i default).vals.length:=by rw[hwi];exact atd hs bmq
   rw[ah _ _ hlt];exact bjr.1 hok _ (bin hlt)
  refine w_8 ?_;refine m9 3 ?_;refine w_5 ?_;refine m9 4 ?_;refine w_9 ?_;refine bp (ka 2 (ka 4 (ka 5 (ka 6 (ka 7 (ka 8 (ka 9 (ka 21 (ka 22 (ka 23 (ka 28 (ka 29 kn)))))))))))) (kb 2 (kb 0 (kb 1 (kb 3 km)))) (fun j=>⟨[(30,some (vI j))],[(4,some (bd (decide (j=0)) (bl (ov (t.rows.getD i default).vals s j))))]⟩) ((bc s).length) ⟨tt,⟨⟨_,rfl,(CoO.refl _)⟩,trivial⟩⟩ ?_;rintro j hj;have hsz:=aej (l:=(t.rows.getD i default).vals) (s:=s) (j:=j);refine w_5 ?_;refine hcd ?_ ?_<;>intro h1
  ·
   have hjm:j<(bc s).length:=by omega
   have hlt:(bc s).getD j default<(t.rows.getD i default).vals.length:=by rw[hwi];exact atd hs hjm
   have hkz:=a5g (v:=((t.rows.getD i default).vals.getD ((bc s).getD j default) default));refine mf ?_;refine rq rfl rfl rfl rfl rfl ?_ (hp:=⟨rfl,by omega,by first|omega|(simp only[bit];omega)⟩);refine qy ?_;refine qcx b6l (bej ((t.rows.getD i default).vals.getD ((bc s).getD j default) default)) ?_;refine w_8 ?_;refine fc9 b6c ((b7l 900 (decide (j=0)) (bl (ov (t.rows.getD i default).vals s j)) (s5 ((t.rows.getD i default).vals.getD ((bc s).getD j default) default)) (by rw[wv];omega)).swap 900 4) uu ?_;refine w_5 ?_;exact lpx (j+1) ⟨tt,⟨⟨_,rfl,(by rw[decide_eq_false (Nat.succ_ne_zero j),a4j hjm,b8r];exact CoO.refl _)⟩,uu⟩⟩
  obtain rfl:j=(bc s).length:=by omega
  refine w_4 ?_;refine fc9 b92 ((b7b 900 (decide ((bc s).length=0)) (bl (ov (t.rows.getD i default).vals s (bc s).length)) (fun h=>by rw[aw8 h];rfl) (fun h=>hpos (auv h))).swap 900 4) uu ?_;refine w_7 ?_;exact lpx (i+1) ⟨⟨⟨_,rfl,(CoR.refl _)⟩,tt⟩,⟨⟨_,rfl,(by rw[ath hir];exact qo (fun h=>h) qa.symm bmq (by rw[qa];exact hir) (by rw[b3y,aw6 bmq (fun a ha=>by rw[hwi];exact hs a ha)];rfl))⟩,uu⟩⟩
 obtain rfl:i=t.rows.length:=by omega
 refine w_2 ?_;refine bh 6 rfl rfl rfl ?_;refine w_5 ?_;refine rc rfl rfl rfl rfl rfl rfl b5i (bbb (qg t s t.rows.length) (by rw[qa];omega) (fun i hi=>awq hT hi)) (⟨CoC.one (CoP.sl qa (.inl rfl) (fun h=>h) (fun _ _ _ _=>CoP.refl _)),trivial⟩) rfl rfl ?_;refine v_4 ?_;exact⟨CoC.of_eq (by rw[axi];rfl),trivial⟩
def a3c:a6 bnb 11:=wgx Tryz.func11
def aav (t:Tbl) (s:AS) (hT:TOk t) (hs:∀z,s.getLsbD z=true->z<t.attrs.length):aa bnb 11 [t.pc,pA s] (ag [(a7 t s).pc,pI 0]):=by
 refine hpx (nt:=21) Tryz.func11 ?_;have hna:=hT.na;have htz:=om.2 hT;refine sx7 ?_;refine m9 0 ?_;refine m9 1 ?_;refine w_6 ?_;refine qcx a48 (a3m hT) ?_;refine mf ?_;refine qcx ati (ai7 t s hna hs) ?_;refine w_8 ?_;refine qcx age (aui t s hT hs) ?_;refine v_3 ?_;exact CoL.refl _
def aga:a6 bnb 99:=wgx Tryz.func99
def bmt{p:Prop}(h:p:=by first|omega|(simp only[bit]<;>omega)):p:=h
def acs(p:Prt)(h:f7 p=true):aa bnb 99 [p.pc] (ag [pB true]):=by
 refine hpx (nt:=68) Tryz.func99 ?_;obtain⟨hr0,hr1⟩:=l7 h;have hcl:=mc h;refine sx7 ?_;refine m9 0 ?_;refine w_9 ?_;refine be rfl rfl ?_ ?_<;>intro r0
 · have h0:=tz1 r0;exfalso;omega
 have h0:=tz2 r0;(iterate 3 refine qy ?_ (hg:=(gff r0)));refine w_2 ?_;refine az _ rfl ?_ ?_<;>intro r1
 · have h1:=tz1 (ck r0 r1);exfalso;omega
 have h1:=tz2 (ck r0 r1);refine w_5 ?_;refine m9 1 ?_;refine ic ?_;refine bp (ka 1 (ka 3 (ka 22 (ka 23 kn)))) (kb 0 km) (fun k=>⟨[(4,some (vI (a8y p k))),(24,some (vI k))],[(1,some (.arr true 1 4 p.rows.toNat (lf bC (snT p k 0))))]⟩) p.cls.length ⟨⟨⟨_,rfl,(CoR.refl _)⟩,tt⟩,⟨⟨_,rfl,(a0m bmq fun i hi=>CoP.of_eq (by rw[ay6];simp[lf,List.getD,show i<p.rows.toNat by omega];rfl))⟩,trivial⟩⟩ ?_;rintro k hk;refine w_5 ?_;refine hcd ?_ ?_<;>intro h2
 ·
  have hkc:k<p.cls.length:=by omega
  have hvc:=ss h hkc;obtain⟨hc1,hc2⟩:=an7 hvc;have hc3:a8y p k<((((p.cls.getD k default)).getD (Int.toNat 0) default:Nat):Int):=hc2;have hrl:=tk h hkc;refine xk ?_;refine be rfl rfl ?_ ?_<;>intro r3
  · have h3:=tz1 r3;exfalso;omega
  have h3:=tz2 r3;refine qy ?_ (hg:=(gff r3));refine rq rfl rfl rfl rfl (gff r3) ?_ (hp:=⟨rfl,bmt,bmt⟩);(iterate 3 refine qy ?_ (hg:=(gff r3)));refine w_2 ?_;refine az _ rfl ?_ ?_<;>intro r4
  · have h4:=tz1 (ck r3 r4);exfalso;omega
  have h4:=tz2 (ck r3 r4);refine w_4 ?_;refine rq rfl rfl rfl rfl rfl ?_ (hp:=⟨rfl,bmt,bmt⟩);refine mf ?_;refine bp (ka 1 (ka 3 (ka 4 (ka 22 (ka 23 (ka 24 (ka 41 (ka 42 kn)))))))) (kb 0 km) (fun j=>⟨[(7,some (vI (acu (p.cls.getD k default) j))),(43,some (vI j))],[(1,some (.arr true 1 4 p.rows.toNat (lf bC (snT p k j))))]⟩) ((p.cls.getD k default).length) kk ?_;rintro j hj;refine w_5 ?_;refine hcd ?_ ?_<;>intro h5
  ·
   have hjc:j<(p.cls.getD k default).length:=by omega
   obtain⟨hj1,hj2,hj3⟩:=vw hvc hjc;have hjr:(p.cls.getD k default).getD j default<p.rows.toNat:=by omega
   have hsn:=b8z (k:=k) (j:=j) hjr;rw[decide_eq_false hj3]at hsn;refine xk ?_;refine be rfl rfl ?_ ?_<;>intro r6
   · have h6:=tz1 r6;exfalso;omega
   have h6:=tz2 r6;(iterate 4 refine qy ?_ (hg:=(gff r6)));refine w_2 ?_;refine be rfl rfl ?_ ?_<;>intro r7
   · have h7:=tz1 (ck r6 r7);exfalso;omega
   have h7:=tz2 (ck r6 r7);(iterate 2 refine qy ?_ (hg:=(gff r7)));refine rq rfl rfl rfl rfl (gff r7) ?_ (hp:=⟨rfl,bmt,bmt⟩)
   refine qy ?_ (hg:=(gff r7));refine w_2 ?_;refine az _ rfl ?_ ?_<;>intro r8
   · have h8:=ck r7 r8;exfalso;simp_all
   have h8:=ck r7 r8;refine w_5 ?_;refine rq rfl rfl rfl rfl rfl ?_ (hp:=⟨rfl,bmt,bmt⟩);refine db ?_;exact lpx (j+1) ⟨⟨⟨_,rfl,(coi asj.symm)⟩,tt⟩,⟨⟨_,rfl,(by rw[av3 hjc hj2];exact qo (fun h=>h) adl.symm (by simp only[bit]) (by rw[adl];omega) rfl)⟩,uu⟩⟩
  obtain rfl:j=(p.cls.getD k default).length:=by omega
  refine w_5 ?_;exact lpx (k+1) ⟨⟨⟨_,rfl,(coi ar5.symm)⟩,tt⟩,⟨⟨_,rfl,(by rw[<- aut hkc];exact CoO.refl _)⟩,uu⟩⟩
 obtain rfl:k=p.cls.length:=by omega
 refine v_5 ?_;exact CoL.refl _
def aa2:a6 bnb 41:=wgx Tryz.func41
def afy(p:Prt)(h:f7 p=true):aa bnb 41 [p.pc] (ag [pP (zl (ap p))]):=by
 refine hpx (nt:=44) Tryz.func41 ?_;obtain⟨hr0,hr1⟩:=l7 h;have hcl:=mc h;refine sx7 ?_;refine m9 0 ?_;refine w_6 ?_;refine m9 1 ?_;refine db ?_;refine bp (ka 1 (ka 13 kn)) (kb 0 km) (fun i=>⟨[(3,some (.v (.one (.ref 1 p.rows.toNat)))),(14,some (vI i))],[(1,some (.arr true 1 3 p.rows.toNat (lf zC (va p.rows.toNat i))))]⟩) p.rows.toNat ⟨⟨⟨_,rfl,(CoR.refl _)⟩,tt⟩,⟨⟨_,rfl,(a0m bmq fun i hi=>CoP.of_eq (by simp[lf,va,List.getD,show i<p.rows.toNat by omega];rfl))⟩,trivial⟩⟩ ?_;rintro i hi;refine w_5 ?_;refine hcd ?_ ?_<;>intro h0
 ·
  have him:i<p.rows.toNat:=by omega
  refine akm ?_;exact lpx (i+1) ⟨⟨⟨_,rfl,(CoR.refl _)⟩,tt⟩,⟨⟨_,rfl,(by rw[ae1 him];exact qo (fun h=>h) a29.symm bmq (by rw[a29];exact him) rfl)⟩,uu⟩⟩
 obtain rfl:i=p.rows.toNat:=by omega
 refine db ?_;refine bp (ka 3 (ka 24 (ka 25 kn))) km (fun k=>⟨[(26,some (vI k))],[(1,some (.arr true 1 3 p.rows.toNat (lf zC (gl p k))))]⟩) p.cls.length ⟨tt,⟨⟨_,rfl,(by rw[ahd];exact CoO.refl _)⟩,trivial⟩⟩ ?_;rintro k hk;refine w_5 ?_;refine hcd ?_ ?_<;>intro h1
 ·
  have hkc:k<p.cls.length:=by omega
  have hvc:=ss h hkc;have hrl:=tk h hkc;refine a4m ?_;refine bp (ka 3 (ka 5 (ka 24 (ka 25 (ka 26 (ka 31 (ka 32 kn))))))) km (fun j=>⟨[(33,some (vI j))],[(1,some (.arr true 1 3 p.rows.toNat (lf zC (x6 p k j))))]⟩) ((p.cls.getD k default).length) ⟨tt,⟨⟨_,rfl,(by rw[af0];exact CoO.refl _)⟩,trivial⟩⟩ ?_;rintro j hj;refine w_5 ?_;refine hcd ?_ ?_<;>intro h2
  ·
   have hjc:j<(p.cls.getD k default).length:=by omega
   obtain⟨hj1,hj2,hj3⟩:=vw hvc hjc;have hjr:(p.cls.getD k default).getD j default<p.rows.toNat:=by omega
   refine kg ?_;refine rq rfl rfl rfl rfl rfl ?_ (hp:=⟨rfl,bmt,bmt⟩);refine rs rfl rfl rfl rfl rfl ?_ (hp:=⟨rfl,bmt,bmt⟩);refine w_5 ?_;exact lpx (j+1) ⟨tt,⟨⟨_,rfl,(by rw[aeo hjc];exact qo (fun h=>h) a30.symm (by simp only[bit]) (by rw[a30];omega) rfl)⟩,trivial⟩⟩
  obtain rfl:j=(p.cls.getD k default).length:=by omega
  refine w_5 ?_;exact lpx (k+1) ⟨tt,⟨⟨_,rfl,(by rw[<- aja];exact CoO.refl _)⟩,trivial⟩⟩
 obtain rfl:k=p.cls.length:=by omega
 refine w_2 ?_;refine bh 3 rfl rfl rfl ?_;refine v_4 ?_;exact⟨CoC.one (CoP.sl (by unfold ap;rw[gu]) (.inl rfl) (fun h=>h) (fun _ _ _ _=>CoP.refl _)),trivial⟩
def ahb:a6 bnb 40:=wgx Tryz.func40
def ak4 (a b:Prt) (ha:f7 a=true) (hb:f7 b=true) (hr:a.rows=b.rows):aa bnb 40 [a.pc,b.pc] (ag [pI 0]):=by
 refine hpx (nt:=18) Tryz.func40 ?_;refine sx7 ?_;refine m9 0 ?_;refine m9 1 ?_;refine w_6 ?_;refine qcx aga (acs a ha) ?_;refine w_3 ?_;refine qcx aga (acs b hb) ?_;refine mf ?_;refine hcn ?_ ?_<;>intro h0
 · exfalso;simp_all
 refine v_5 ?_;exact CoL.refl _
def b4f:a6 bnb 196:=wgx Tryz.func196
def b4u (a b:Prt) (ha:f7 a=true) (hb:f7 b=true) (hr:a.rows=b.rows):aa bnb 196 [a.pc,b.pc] (ag [(aw3 a b).pc,pI 0]):=by
 refine hpx (nt:=48) Tryz.func196 ?_;obtain⟨hr0,hr1⟩:=l7 ha;have hla:(ap a).length=a.rows.toNat:=gu;have hlb:(ap b).length=a.rows.toNat:=by rw[hr];exact gu
 have hca:=mc ha;have hcb:=mc hb;refine sx7 ?_;refine m9 0 ?_;refine m9 1 ?_;refine m9 2 ?_;refine w_7 ?_;refine qcx ahb (ak4 a b ha hb hr) ?_;refine gz ?_;refine qcx aa2 (afy a ha) ?_;refine qy ?_;refine qcx aa2 (afy b hb) ?_;refine w_8 ?_;refine m9 3 ?_;refine db ?_;refine bp (ka 2 (ka 4 (ka 7 (ka 8 (ka 26 kn))))) (kb 0 (kb 2 km)) (fun i=>⟨[(9,some (.v (.one (.ref 3 a.rows.toNat)))),(27,some (vI i))],[(3,some (.arr true 2 301 a.rows.toNat (lf k2C (o9 a b i))))]⟩) a.rows.toNat ⟨⟨⟨_,rfl,(CoR.refl _)⟩,tt⟩,⟨⟨_,rfl,(amb bmq fun i hi=>⟨CoP.of_eq (by simp[lf,o9,List.getD,show i<a.rows.toNat by omega];rfl),CoP.of_eq (by simp[lf,o9,List.getD,show i<a.rows.toNat by omega];rfl)⟩)⟩,trivial⟩⟩ ?_;rintro i hi;refine w_5 ?_;refine hcd ?_ ?_<;>intro h0
 ·
  have him:i<a.rows.toNat:=by omega
  refine beu ?_;exact lpx (i+1) ⟨⟨⟨_,rfl,(CoR.refl _)⟩,tt⟩,⟨⟨_,rfl,(by rw[ar3 him];exact ain (fun h=>h) tn.symm bmq (by rw[tn];exact him) rfl rfl)⟩,uu⟩⟩
 obtain rfl:i=a.rows.toNat:=by omega
 refine w_2 ?_;refine bh 9 rfl rfl rfl ?_;refine w_4 ?_;refine rc rfl rfl rfl rfl rfl rfl b3s (bbq (o9 a b a.rows.toNat) (by rw[tn];omega) (b7c ha hb hr)) (⟨CoC.one (CoP.sl tn (.inl rfl) (fun h=>h) (fun _ _ _ _=>CoP.refl _)),trivial⟩) rfl rfl ?_;refine v_5 ?_;exact⟨CoC.of_eq (by rw[aw0];rfl),CoC.refl _,trivial⟩
def b1s:a6 bnb 197:=wgx Tryz.func197
def b5h (p:Prt) (h:f7 p=true):aa bnb 197 [p.pc] (ag [pI (ap4 p)]):=by
 refine hpx (nt:=25) Tryz.func197 ?_;obtain⟨hr0,hr1⟩:=l7 h;have hcl:=mc h;refine sx7 ?_;refine m9 0 ?_;refine w_6 ?_;refine qcx aga (acs p h) ?_;refine b58 ?_;refine bp (ka 12 (ka 13 kn)) km (fun k=>⟨[(3,some (vI (wz p k))),(14,some (vI k))],[]⟩) p.cls.length kk ?_;rintro k hk;refine w_5 ?_;refine hcd ?_ ?_<;>intro h0
 ·
  have hkc:k<p.cls.length:=by omega
  have hrl:=tk h hkc;have hb1:=ata h (Nat.le_of_lt hkc);have hb2:=ata h (show k+1<=_ from hkc);have hst:=af6 hkc;have hrl2:(p.cls.getD ((k:Int)).toNat default).length<=1000:=hrl;have hst2:wz p (k+1)=wz p k-(((p.cls.getD ((k:Int)).toNat default).length:Int)-1):=hst;refine ay2 ?_;exact lpx (k+1) ⟨⟨⟨_,rfl,(coi hst.symm)⟩,tt⟩,trivial⟩
 obtain rfl:k=p.cls.length:=by omega
 refine v_6 ?_;exact CoL.refl _
end
section
open Go.Proofs
def bbg(l:List (List Nat))(g k:Nat)(caps:Nat->PV)(V:(List Nat)->Bool)(hg:a6 bnb g)(hV:∀x∈l,aa bnb g (pP (il x)::i7 caps k 0) (ag [pB (V x)])):aa bnb 145 [pP (ill l),pP (.fn g k caps)] (ag [pI (idx V l)]):=by
 refine hpx (nt:=19) Tryz.func145 ?_;refine f4 ?_;refine j4 0 rfl fun hn=>?_;refine w_3 ?_;refine dn (ι:=Unit) kn km (fun _i=>⟨[],[]⟩) (fun _i=>idx V l=-1) ?_ ?_
 ·
  refine w_7 ?_;refine b7 (ι:=Nat) (ka 0 (ka 1 (ka 7 kn))) km (fun i=>⟨[(8,some (vI i))],[]⟩) (fun i=>i<=l.length/\(∀j,j<i->V (l.getD j default)=false)) (fun i=>l.length-i) (0) (⟨bio _,gt⟩) kk ?_;rintro i ⟨hi,hIi⟩;refine w_5 ?_;refine hcd ?_ ?_<;>intro h0
  ·
   refine ic ?_;refine rc rfl rfl rfl rfl rfl rfl hg (hV (l.getD i default) (by rw[ah _ _ bmq];exact bin _)) (CoL.refl _) rfl rfl ?_;refine ce ?_;refine hcb ?_ ?_<;>intro h1
   · refine v_5 ?_;exact⟨cci (vh (i:=i) bmq hIi bmr).symm,trivial⟩
   refine w_5 ?_;refine lpz (i+1) kk ?_;exact⟨by show i+1<=_;omega,f5 hIi bmr⟩
  refine eg ?_;refine⟨(), ?_, ?_⟩
  · exact ve fun j hj=>hIi j bmq
  exact⟨trivial,trivial⟩
 rintro _ hj;refine v_4 ?_;exact⟨cci hj.symm,trivial⟩
def bd2 (l:List (List Nat)) (g k:Nat) (caps:Nat->PV) (V:(List Nat)->Bool) (hg:a6 bnb g) (hV:∀x∈l,aa bnb g (pP (il x)::i7 caps k 0) (ag [pB (V x)])):aa bnb 84 [pP (ill l),pP (.fn g k caps)] (ag [pB (l.any V)]):=by
 refine hpx (nt:=9) Tryz.func84 ?_;refine w_8 ?_;refine qcx anj (bbg l g k caps V hg hV) ?_;refine v_3 ?_;exact⟨ccb a4l,trivial⟩
def bct(l:List Nat)(g k:Nat)(caps:Nat->PV)(V:Nat->Bool)(hg:a6 bnb g)(hV:∀x∈l,aa bnb g (pI (x:Nat)::i7 caps k 0) (ag [pB (V x)])):aa bnb 146 [pP (il l),pP (.fn g k caps)] (ag [pI (idx V l)]):=by
 refine hpx (nt:=19) Tryz.func146 ?_;refine f4 ?_;refine j4 0 rfl fun hn=>?_;refine w_3 ?_;refine dn (ι:=Unit) kn km (fun _i=>⟨[],[]⟩) (fun _i=>idx V l=-1) ?_ ?_
 ·
  refine w_7 ?_;refine b7 (ι:=Nat) (ka 0 (ka 1 (ka 7 kn))) km (fun i=>⟨[(8,some (vI i))],[]⟩) (fun i=>i<=l.length/\(∀j,j<i->V (l.getD j default)=false)) (fun i=>l.length-i) (0) (⟨bio _,gt⟩) kk ?_;rintro i ⟨hi,hIi⟩;refine w_5 ?_;refine hcd ?_ ?_<;>intro h0
  ·
   refine ic ?_;refine rc rfl rfl rfl rfl rfl rfl hg (hV (l.getD i default) (by rw[ah _ _ bmq];exact bin _)) (CoL.refl _) rfl rfl ?_;refine ce ?_;refine hcb ?_ ?_<;>intro h1
   · refine v_5 ?_;exact⟨cci (vh (i:=i) bmq hIi bmr).symm,trivial⟩
   refine w_5 ?_;refine lpz (i+1) kk ?_;exact⟨by show i+1<=_;omega,f5 hIi bmr⟩
  refine eg ?_;refine⟨(), ?_, ?_⟩
  · exact ve fun j hj=>hIi j bmq
  exact⟨trivial,trivial⟩
 rintro _ hj;refine v_4 ?_;exact⟨cci hj.symm,trivial⟩
def bal (l:List Nat) (g k:Nat) (caps:Nat->PV) (V:Nat->Bool) (hg:a6 bnb g) (hV:∀x∈l,aa bnb g (pI (x:Nat)::i7 caps k 0) (ag [pB (V x)])):aa bnb 86 [pP (il l),pP (.fn g k caps)] (ag [pB (l.any V)]):=by
 refine hpx (nt:=9) Tryz.func86 ?_;refine w_8 ?_;refine qcx b2g (bct l g k caps V hg hV) ?_;refine v_3 ?_;exact⟨ccb a4l,trivial⟩
def b5g:a6 bnb 87:=wgx Tryz.func87
def bc1 (l:List Int) (c:List Nat) (i:Nat) (hi:i<l.length) (hn:0<c.length) (h0:c.getD 0 default<l.length):aa bnb 87 [pI i,pP (bx (zl l)),pP (bx (il c))] (ag [pB (decide (¬(l.getD i default)=(l.getD (c.getD 0 default) default)))]):=by
 refine hpx (nt:=16) Tryz.func87 ?_;refine w_8 ?_;refine rq rfl rfl rfl rfl rfl ?_ (hp:=⟨rfl,bmt,bmt⟩);refine w_3 ?_;refine rq rfl rfl rfl rfl rfl ?_ (hp:=⟨rfl,bmt,bmt⟩);refine qy ?_;refine rq rfl rfl rfl rfl rfl ?_ (hp:=⟨rfl,bjp _,bkm.2 h0⟩);refine v_5 ?_;exact⟨ccb decide_not.symm,trivial⟩
def b9i:a6 bnb 85:=wgx Tryz.func85
def bb7 (l:List Int) (c:List Nat) (hc:∀i∈c,i<l.length):aa bnb 85 [pP (il c),pP (bx (zl l))] (ag [pB (c.any (fun i=>decide (¬(l.getD i default)=(l.getD (c.getD 0 default) default))))]):=by
 refine hpx (nt:=7) Tryz.func85 ?_;refine sx7 ?_;refine m9 0 ?_;refine w_3 ?_;refine ja 2 rfl rfl rfl ?_;refine w_3 ?_;refine qcx b8t (bal c 87 2 (fun j=>[bx (zl l),bx (il c)].getD j .any) (fun i=>decide (¬(l.getD i default)=(l.getD (c.getD 0 default) default))) b5g (fun i hi=>bc1 l c i (hc i hi) (List.length_pos_of_mem hi) (hc _ (aol (List.ne_nil_of_mem hi))))) ?_;refine v_2 ?_;exact CoL.refl _
def b8x {p:Prt} {l:List Int}:(!(p.cls.any fun c=>c.any fun i=>decide (¬l.getD i default=l.getD (c.getD 0 default) default)))=rfB p l:=by
 unfold rfB;rw[List.not_any_eq_all_not];congr 1;funext c;rw[List.not_any_eq_all_not];congr 1;funext i;rw[decide_not,Bool.not_not]
def b02 {a b:Prt} (ha:f7 a=true) (hr:a.rows=b.rows):∀c∈a.cls,∀i∈c,i<(ap b).length:=fun c hc i hi=>by
 obtain⟨k,hk,rfl⟩:=bj7 hc;obtain⟨j,hj,rfl⟩:=bj7 hi;have e1:a.cls.getD k default=a.cls[k]:=ah _ _ hk;have h3:=vw (ss ha hk) (j:=j) (by rw[e1];exact hj);rw[e1,ah _ _ hj]at h3;have h0:=(l7 ha).1;have h4:(ap b).length=b.rows.toNat:=gu;rw[h4,<- hr];omega
def b9r:a6 bnb 32:=wgx Tryz.func32
def axg (a b:Prt) (ha:f7 a=true) (hb:f7 b=true) (hr:a.rows=b.rows):aa bnb 32 [a.pc,b.pc] (ag [pB (rfB a (ap b))]):=by
 refine hpx (nt:=17) Tryz.func32 ?_;refine sx7 ?_;refine m9 0 ?_;refine m9 1 ?_;refine w_7 ?_;refine qcx ahb (ak4 a b ha hb hr) ?_;refine w_7 ?_;refine qcx aa2 (afy b hb) ?_;refine m9 2 ?_;refine w_2 ?_;refine ja 5 rfl rfl rfl ?_;refine w_5 ?_;refine qcx b7z (bd2 a.cls 85 1 (fun j=>[bx (zl (ap b))].getD j .any) (fun c=>c.any fun i=>decide (¬(ap b).getD i default=(ap b).getD (c.getD 0 default) default)) b9i (fun c hc=>bb7 (ap b) c (b02 ha hr c hc))) ?_;refine v_3 ?_;exact⟨ccb b8x,trivial⟩
def azh:a6 bnb 8:=wgx Tryz.func8
def amg (t:Tbl) (d:Fd) (hT:TOk t) (he:EOk t) (hl:∀z,d.lhs.getLsbD z=true->z<t.attrs.length) (hrr:∀z,d.rhs.getLsbD z=true->z<t.attrs.length):aa bnb 8 [t.pc,d.pc] (ag [pB (vc t d),pI 0]):=by
 refine hpx (nt:=29) Tryz.func8 ?_;have hna:=hT.na
 have hor:∀z,(d.lhs|||d.rhs).getLsbD z=true->z<t.attrs.length:=fun z hz=>by
  rw[bl5,bjx]at hz;exact hz.elim (hl z) (hrr z)
 refine sx7 ?_;refine m9 0 ?_;refine m9 1 ?_;refine w_7 ?_;refine qcx a48 (a3m hT) ?_;refine a4m ?_;refine rc rfl rfl rfl rfl rfl rfl ati (ai7 t (d.lhs|||d.rhs) hna hor) (⟨CoC.refl _,cci (bOr _ _),trivial⟩) rfl rfl ?_;refine w_9 ?_;refine qcx age (aui t d.lhs hT hl) ?_;refine w_3 ?_;refine qcx age (aui t d.rhs hT hrr) ?_;refine qcx b9r (axg (a7 t d.lhs) (a7 t d.rhs) (a6a hT) (a6a hT) rfl) ?_;refine v_4 ?_;exact⟨ccb (b7k hT he),CoC.refl _,trivial⟩
end
section
open Go.Proofs
def b1w:a6 bnb 100:=wgx Tryz.func100
def bdi (g:List (List Nat)) (h1:gsz g<=1000) (h2:g.length<=1000):aa bnb 100 [pP (ill g)] (ag [pI (gsz g:Nat)]):=by
 refine hpx (nt:=18) Tryz.func100 ?_;refine xk ?_;refine bp (ka 6 (ka 7 kn)) km (fun i=>⟨[(3,some (vI (gsT g i:Nat))),(8,some (vI i))],[]⟩) g.length kk ?_;rintro i hi;refine w_5 ?_;refine hcd ?_ ?_<;>intro h0
 ·
  have hig:i<g.length:=by omega
  have hs:=ay1 hig;have hle:=at8 (g:=g) (j:=i+1);have hs2:gsT g (i+1)=gsT g i+(g.getD ((i:Int)).toNat default).length:=hs;refine akm ?_;exact lpx (i+1) ⟨⟨⟨_,rfl,(coi (by rw[hs];simp only[bit];omega))⟩,tt⟩,trivial⟩
 obtain rfl:i=g.length:=by omega
 refine v_6 ?_;exact⟨cci (by rw[b0i]),trivial⟩
def atc:a6 bnb 36:=wgx Tryz.func36
def art (g:List (List Nat)) (h0:0<g.length) (h2:g.length<=1000):aa bnb 36 [pP (ill g)] (ag [pI (gb g:Nat)]):=by
 refine hpx (nt:=24) Tryz.func36 ?_;refine xk ?_;refine bp (ka 0 (ka 6 (ka 7 kn))) km (fun i=>⟨[(3,some (vI (gbT g i:Nat))),(8,some (vI i))],[]⟩) g.length kk ?_;rintro i hi;refine w_5 ?_;refine hcd ?_ ?_<;>intro h0
 ·
  have hig:i<g.length:=by omega
  have hs:=air (g:=g) (i:=i);have hk:=(a2z (g:=g) (i:=i)).1;refine avg ?_;refine hcd ?_ ?_<;>intro h1
  · have hb:(g.getD (gbT g i) default).length<(g.getD i default).length:=bkm.1 h1;rw[if_pos hb]at hs;refine w_8 ?_;exact lpx (i+1) ⟨⟨⟨_,rfl,(coi (by rw[hs]))⟩,tt⟩,trivial⟩
  have hb:¬(g.getD (gbT g i) default).length<(g.getD i default).length:=fun hx=>h1 (bkm.2 hx);rw[if_neg hb]at hs;refine w_5 ?_;exact lpx (i+1) ⟨⟨⟨_,rfl,(coi (by rw[hs]))⟩,tt⟩,trivial⟩
 obtain rfl:i=g.length:=by omega
 refine v_6 ?_;exact⟨cci rfl,trivial⟩
def b5e:a6 bnb 42:=wgx Tryz.func42
def bc5 (m:Int) (h:m=1\/m=2\/m=3):aa bnb 42 [pI m] (ag [pB true]):=by
 refine hpx (nt:=9) Tryz.func42 ?_;refine w_9 ?_;refine be rfl rfl ?_ ?_<;>intro r0
 ·
  have h0:=tz1 r0;(iterate 2 refine qy ?_ (hg:=(gtt r0)));refine w_3 ?_
  exact hx8 rfl rfl rfl (⟨ccb (by rcases h with rfl|rfl|rfl<;>first|rfl|(exfalso;omega)),trivial⟩)
 have h0:=tz2 r0;(iterate 2 refine k9 (gft r0) ?_);refine w_3 ?_
 exact hx8 rfl rfl rfl (⟨ccb (by rcases h with rfl|rfl|rfl<;>first|rfl|(exfalso;omega)),trivial⟩)
def as1:a6 bnb 34:=wgx Tryz.func34
def at1 (t:Tbl) (d:Fd) (hT:TOk t) (hl:∀z,d.lhs.getLsbD z=true->z<t.attrs.length) (hrr:∀z,d.rhs.getLsbD z=true->z<t.attrs.length):aa bnb 34 [t.pc,pP (fdl [d])] (ag [pI 0]):=by
 refine hpx (nt:=31) Tryz.func34 ?_;have hna:=hT.na
 have hor:∀z,(d.lhs|||d.rhs).getLsbD z=true->z<t.attrs.length:=fun z hz=>by
  rw[bl5,bjx]at hz;exact hz.elim (hl z) (hrr z)
 have hl1:([d]:List Fd).length=1:=rfl;refine sx7 ?_;refine m9 0 ?_;refine w_6 ?_;refine qcx a48 (a3m hT) ?_;refine za ?_;refine bp (ka 2 (ka 13 (ka 14 kn))) (kb 0 km) (fun i=>⟨[(15,some (vI i))],[]⟩) ([d].length) kk ?_;rintro i hi;refine w_5 ?_;refine hcd ?_ ?_<;>intro h0
 ·
  have hi0:i=0:=by omega
  refine w_7 ?_;refine m9 1 ?_;refine w_9 ?_;refine rq rfl rfl rfl rfl rfl ?_ (hp:=⟨by show(0:Int)<=_;rw[bOr];exact oi _,by show _<=(18446744073709551615:Int);rw[bOr];exact Int.le_trans (Int.le_of_lt (a08 _)) bmx⟩);refine w_6 ?_;refine hcn ?_ ?_<;>intro h1
  · exfalso;subst hi0;exact h1 ((congrArg (fun z=>Int.fdiv z _) (bOr d.lhs d.rhs)).trans (azm hna hor))
  refine w_5 ?_;exact lpx (i+1) kk
 obtain rfl:i=[d].length:=by omega
 refine v_5 ?_;exact CoL.refl _
end
section
open Go.Proofs
set_option maxHeartbeats 2000000
def atv:a6 bnb 35:=wgx Tryz.func35
def azr(t:Tbl)(d:Fd)(hT:TOk t)(hl:∀z,d.lhs.getLsbD z=true->z<t.attrs.length)(hrr:∀z,d.rhs.getLsbD z=true->z<t.attrs.length):aa bnb 35 [t.pc,d.pc] (ag [pP (ax2 (fj t d))]):=by
 refine hpx (nt:=129) Tryz.func35 ?_;have hna:=hT.na;have hnr:=hT.nr
 have hor:∀z,(d.lhs|||d.rhs).getLsbD z=true->z<t.attrs.length:=fun z hz=>by
  rw[bl5,bjx]at hz;exact hz.elim (hl z) (hrr z)
 have hvp:=a6a hT (s:=d.lhs);have hvq:=a6a hT (s:=d.lhs|||d.rhs);have hcp:=mc hvp;have hcq:=mc hvq;have hal:=a9c (t:=t) (d:=d);have hlq:(ap (a7 t (d.lhs|||d.rhs))).length=t.rows.length:=gu;refine sx7 ?_;refine m9 0 ?_;refine m9 1 ?_;refine w_7 ?_;refine qcx a3c (aav t d.lhs hT hl) ?_;refine w_3 ?_;refine m9 2 ?_;refine ip ?_;refine rc rfl rfl rfl rfl rfl rfl a3c (aav t (d.lhs|||d.rhs) hT hor) (⟨CoC.refl _,cci (bOr _ _),trivial⟩) rfl rfl ?_;refine w_3 ?_;refine m9 3 ?_;refine w_8 ?_;refine m9 4 ?_;refine db ?_;refine bp (ka 5 (ka 7 (ka 46 kn))) (kb 2 (kb 3 km)) (fun i=>⟨[(9,some (.v (.one (.ref 4 t.rows.length)))),(47,some (vI i))],[(4,some (.arr true 1 3 t.rows.length (lf zC (va t.rows.length i))))]⟩) t.rows.length ⟨⟨⟨_,rfl,(CoR.refl _)⟩,tt⟩,⟨⟨_,rfl,(a0m bmq fun i hi=>CoP.of_eq (by simp[lf,va,List.getD,show i<t.rows.length by omega];rfl))⟩,trivial⟩⟩ ?_;rintro i hi;refine w_5 ?_;refine hcd ?_ ?_<;>intro h0
 ·
  have him:i<t.rows.length:=by omega
  refine akm ?_;exact lpx (i+1) ⟨⟨⟨_,rfl,(CoR.refl _)⟩,tt⟩,⟨⟨_,rfl,(by rw[ae1 him];exact qo (fun h=>h) a29.symm bmq (by rw[a29];exact him) rfl)⟩,uu⟩⟩
 obtain rfl:i=t.rows.length:=by omega
 refine db ?_;refine bp (ka 5 (ka 9 (ka 57 (ka 58 kn)))) (kb 2 km) (fun k=>⟨[(59,some (vI k))],[(4,some (.arr true 1 3 t.rows.length (lf zC (gl (a7 t (d.lhs|||d.rhs)) k))))]⟩) ((a7 t (d.lhs|||d.rhs)).cls.length) ⟨tt,⟨⟨_,rfl,(by rw[ahd];exact CoO.refl _)⟩,trivial⟩⟩ ?_;rintro k hk;refine w_5 ?_;refine hcd ?_ ?_<;>intro h1
 ·
  have hkc:k<(a7 t (d.lhs|||d.rhs)).cls.length:=by omega
  have hvc:=ss hvq hkc;have hrl:=tk hvq hkc;refine w_6 ?_;refine rq rfl rfl rfl rfl rfl ?_ (hp:=⟨rfl,bmt,bmt⟩);refine ip ?_;refine bp (ka 5 (ka 9 (ka 11 (ka 57 (ka 58 (ka 59 (ka 64 (ka 65 kn)))))))) (kb 2 km) (fun j=>⟨[(66,some (vI j))],[(4,some (.arr true 1 3 t.rows.length (lf zC (x6 (a7 t (d.lhs|||d.rhs)) k j))))]⟩) (((a7 t (d.lhs|||d.rhs)).cls.getD k default).length) ⟨tt,⟨⟨_,rfl,(by rw[af0];exact CoO.refl _)⟩,trivial⟩⟩ ?_;rintro j hj;refine w_5 ?_;refine hcd ?_ ?_<;>intro h2
  ·
   have hjc:j<((a7 t (d.lhs|||d.rhs)).cls.getD k default).length:=by omega
   obtain⟨hj1,hj2,hj3⟩:=vw hvc hjc;have hjr:((a7 t (d.lhs|||d.rhs)).cls.getD k default).getD j default<t.rows.length:=bkm.1 hj2;refine akm ?_;exact lpx (j+1) ⟨tt,⟨⟨_,rfl,(by rw[aeo hjc];exact qo (fun h=>h) (show t.rows.length=(x6 (a7 t (d.lhs|||d.rhs)) k j).length from (a30 (p:=(a7 t (d.lhs|||d.rhs)))).symm) (by first|rfl|omega) (by rw[a30];exact hjr) rfl)⟩,uu⟩⟩
  obtain rfl:j=((a7 t (d.lhs|||d.rhs)).cls.getD k default).length:=by omega
  refine w_5 ?_;exact lpx (k+1) ⟨tt,⟨⟨_,rfl,(by rw[<- aja];exact CoO.refl _)⟩,uu⟩⟩
 obtain rfl:k=(a7 t (d.lhs|||d.rhs)).cls.length:=by omega
 refine w_2 ?_;refine bh 9 rfl rfl rfl ?_;refine gz ?_;refine d4 15 905 true 1 102 (lf aq2 []) bmx rfl (CoP.sl rfl (.inr rfl) (fun h=>h) (fun i j hi _=>absurd hi (bip i))) (.inr rfl) rfl ?_;refine bp (ka 9 (ka 77 (ka 78 kn))) km (fun k=>⟨[(15,some (.v (.one (.ref 905 ((fj t d).take k).length)))),(79,some (vI k))],[(905,some (.arr true 1 102 ((fj t d).take k).length (lf aq2 ((fj t d).take k))))]⟩) ((a7 t d.lhs).cls.length) kk ?_;rintro k hk;have hlen:((fj t d).take k).length<=k:=bkx _ _;refine w_5 ?_;refine hcd ?_ ?_<;>intro h3
 ·
  have hkc:k<(a7 t d.lhs).cls.length:=by omega
  have hcm:((a7 t d.lhs).cls.getD k default)∈(a7 t d.lhs).cls:=by rw[ah _ _ hkc];exact bin _
  have hrl:=tk hvp hkc;refine w_5 ?_;refine rq rfl rfl rfl rfl rfl ?_ (hp:=⟨rfl,bmt,bmt⟩);refine w_8 ?_;refine cr [] [0,1] rfl ?_;refine wu (k:=0) (L:=[1]) 901 rfl (fun bg=>?_);refine ct (E:=cq) (L1:=[1]) (L2:=[]) ca ?_;refine w_2 ?_;refine f0 ?_;refine w_8 ?_;refine a4i 18 900 57 3 1 (fun _=>0) (fun _ _ _=>.any) bmx rfl rfl ?_;refine b7 (ι:=Nat×Array MapEntry×Nat) (ka 9 (ka 15 (ka 19 (ka 77 (ka 78 (ka 79 (ka 84 (ka 85 kn)))))))) (kb 905 km) (fun x=>⟨[(18,some (.v (.one (.ref 900 (pgT (ap (a7 t (d.lhs|||d.rhs))) ((a7 t d.lhs).cls.getD k default) x.1).length)))),(86,some (vI x.1))],[(900,some (grN 57 3 (pgT (ap (a7 t (d.lhs|||d.rhs))) ((a7 t d.lhs).cls.getD k default) x.1))),(901,some (mpO bg x.2.1 x.2.2))]⟩) (fun x=>x.1<=((a7 t d.lhs).cls.getD k default).length/\AtI bnb 3 (Value.int .i64) x.2.1 x.2.2 (pgT (ap (a7 t (d.lhs|||d.rhs))) ((a7 t d.lhs).cls.getD k default) x.1)) (fun x=>((a7 t d.lhs).cls.getD k default).length-x.1) ((0,#[],0)) (⟨bio _,AtI.nil⟩) ⟨tt,⟨⟨_,rfl,(ajq rfl)⟩,uu⟩⟩ ?_;rintro⟨j,es,clock⟩ ⟨hj,hA⟩;dsimp only at hj hA ⊢;have hgl:=b31 (l:=(ap (a7 t (d.lhs|||d.rhs)))) (c:=((a7 t d.lhs).cls.getD k default)) (j:=j);refine w_5 ?_;refine hcd ?_ ?_<;>intro h4
  ·
   have hjc:j<((a7 t d.lhs).cls.getD k default).length:=by omega
   have hjr:(((a7 t d.lhs).cls.getD k default).getD j default)<t.rows.length:=o6 hcm (by rw[ah _ _ hjc];exact bin _);have hsm:=xa (p:=(a7 t (d.lhs|||d.rhs))) (m:=1000) (k:=(a7 t (d.lhs|||d.rhs)).cls.length) (by show(t.rows.length:Int).toNat<=1000;rw[bit];exact hnr) hcq (((a7 t d.lhs).cls.getD k default).getD j default) (by rw[gu];exact hjr);have hwf:(Lit.int .i64 ((ap (a7 t (d.lhs|||d.rhs))).getD (((a7 t d.lhs).cls.getD k default).getD j default) default)).wf=true:=ap8 (by show _<=(gl (a7 t (d.lhs|||d.rhs)) (a7 t (d.lhs|||d.rhs)).cls.length).getD (((a7 t d.lhs).cls.getD k default).getD j default) default;omega) (by show(gl (a7 t (d.lhs|||d.rhs)) (a7 t (d.lhs|||d.rhs)).cls.length).getD (((a7 t d.lhs).cls.getD k default).getD j default) default<=_;omega);refine w_5 ?_;refine rq rfl rfl rfl rfl rfl ?_ (hp:=⟨rfl,bmt,bmt⟩);refine w_4 ?_;refine cr [] [0,1,2,3,4,5,6,7,8,9,10] rfl ?_;refine ct (E:=cq) (L1:=[0,1,2,3,4]) (L2:=[5,6,7,8,9,10]) ca ?_;refine w_3 ?_;refine rq rfl rfl rfl rfl rfl ?_ (hp:=⟨rfl,bjp _,bkm.2 (hlq▸hjr)⟩);refine w_2 ?_;refine a1o (mid:=901) (k:=5) (L:=[6,7,8,9,10]) rfl Tryz.underlying113 (Go.Maps.int_keyed Tryz.underlying3) Tryz.zeroValue3 rfl hA.mx (Go.Maps.keyOf_int_mk Tryz.underlying3 hwf) rfl (fun ok v hy hn1=>?_)
   obtain ⟨nv,rfl⟩:∃nv:Int,v=.int .i64 nv:=by
    cases ok with
    | true =>
     obtain⟨e,he,hk,rfl⟩:=hy rfl;obtain⟨r,_,_,h3⟩:=hA.to e he;exact⟨_,h3⟩
    |false=>exact⟨0,(hn1 rfl).1⟩
   refine ct (E:=cq) (L1:=[6,7,8,9,10]) (L2:=[]) ca ?_;refine w_6 ?_;refine f0 ?_;refine dn (ι:=Array MapEntry×Nat) (ka 9 (ka 15 (ka 19 (ka 21 (ka 77 (ka 78 (ka 79 (ka 84 (ka 85 (ka 86 kn)))))))))) (kb 905 km) (fun y=>⟨[(18,some (.v (.one (.ref 900 (bv (pgT (ap (a7 t (d.lhs|||d.rhs))) ((a7 t d.lhs).cls.getD k default) j) ((ap (a7 t (d.lhs|||d.rhs))).getD (((a7 t d.lhs).cls.getD k default).getD j default) default)).length)))),(22,some (vI (ci (pgT (ap (a7 t (d.lhs|||d.rhs))) ((a7 t d.lhs).cls.getD k default) j) ((ap (a7 t (d.lhs|||d.rhs))).getD (((a7 t d.lhs).cls.getD k default).getD j default) default))))],[(900,some (grN 57 3 (bv (pgT (ap (a7 t (d.lhs|||d.rhs))) ((a7 t d.lhs).cls.getD k default) j) ((ap (a7 t (d.lhs|||d.rhs))).getD (((a7 t d.lhs).cls.getD k default).getD j default) default)))),(901,some (mpO bg y.1 y.2))]⟩) (fun y=>AtJ bnb 3 (Value.int .i64) (bv (pgT (ap (a7 t (d.lhs|||d.rhs))) ((a7 t d.lhs).cls.getD k default) j) ((ap (a7 t (d.lhs|||d.rhs))).getD (((a7 t d.lhs).cls.getD k default).getD j default) default)) y) ?_ ?_
   ·
    refine ajv ?_;refine w_5 ?_;refine az _ rfl ?_ ?_<;>intro r5
    ·
     have h5:=iu r5;have hok1:ok=false:=by simpa using r5
     subst hok1;obtain⟨hz0,hno⟩:=hn1 rfl;have hab:(ci (pgT (ap (a7 t (d.lhs|||d.rhs))) ((a7 t d.lhs).cls.getD k default) j) ((ap (a7 t (d.lhs|||d.rhs))).getD (((a7 t d.lhs).cls.getD k default).getD j default) default))=(pgT (ap (a7 t (d.lhs|||d.rhs))) ((a7 t d.lhs).cls.getD k default) j).length:=hA.absent hno;refine w_7 ?_;refine cr [] [0,1,2,3,4,5,6] rfl ?_;refine ct (E:=cq) (L1:=[0,1,2,3,4,5]) (L2:=[6]) ca ?_;refine w_3 ?_;refine rq rfl rfl rfl rfl rfl ?_ (hp:=⟨rfl,bjp _,bkm.2 (hlq▸hjr)⟩);refine w_3 ?_;refine wo (mid:=901) (k:=6) (L:=[]) rfl Tryz.underlying113 (Go.Maps.int_keyed Tryz.underlying3) hA.mx (by have:=hA.size;unfold maxLen;omega) (Go.Maps.keyOf_int_mk Tryz.underlying3 hwf) rfl rfl (fun es3 clock3 hX3 hP=>?_);refine f0 ?_;have hA1:AtJ bnb 3 (Value.int .i64) (bv (pgT (ap (a7 t (d.lhs|||d.rhs))) ((a7 t d.lhs).cls.getD k default) j) ((ap (a7 t (d.lhs|||d.rhs))).getD (((a7 t d.lhs).cls.getD k default).getD j default) default)) (es3,clock3):=hA.put hab hX3 hP;refine cr [0,1] [2,3] rfl ?_;refine ct (E:=cq) ca ?_;refine qy ?_;refine m9 5 ?_;refine ce ?_;refine sd ?_;refine ux (n2:=1) 5 0 904 true 1 3 (lf iC []) bmx rfl bmx rfl (CoP.sl rfl (.inr rfl) (fun h=>h) (fun i j hi _=>absurd hi (bip i))) (.inr rfl) rfl rfl ?_;refine fu ?_;refine ct (E:=cq) (L1:=[2,3]) (L2:=[]) ca ?_;refine r9 6 true ?_;refine w_2 ?_;refine f0 ?_;show HE _ _ _
     first|refine rg 900 904 rfl rfl ?_|skip
     refine fu ?_;exact⟨_,hA1,⟨⟨⟨_,rfl,(by first|(rw[show(bv (pgT (ap (a7 t (d.lhs|||d.rhs))) ((a7 t d.lhs).cls.getD k default) j) ((ap (a7 t (d.lhs|||d.rhs))).getD (((a7 t d.lhs).cls.getD k default).getD j default) default)).length=(pgT (ap (a7 t (d.lhs|||d.rhs))) ((a7 t d.lhs).cls.getD k default) j).length+1 by unfold bv;rw[if_neg bmq];simp];exact CoR.refl _)|(rw[show(bv (pgT (ap (a7 t (d.lhs|||d.rhs))) ((a7 t d.lhs).cls.getD k default) j) ((ap (a7 t (d.lhs|||d.rhs))).getD (((a7 t d.lhs).cls.getD k default).getD j default) default)).length=(pgT (ap (a7 t (d.lhs|||d.rhs))) ((a7 t d.lhs).cls.getD k default) j).length by unfold bv;rw[if_pos hlt]];exact CoR.refl _))⟩,⟨_,rfl,(by first|(rw[hab];exact CoR.refl _)|exact CoR.refl _)⟩,tt⟩,⟨⟨_,rfl,(by first|exact a1e bmq|exact vz hlt)⟩,uu⟩⟩⟩
    have h5:=iz r5;have hok1:ok=true:=by simpa using r5
    obtain⟨e0,he0,hk0,hv0⟩:=hy hok1;obtain⟨hlt,hv1⟩:=hA.found (fun a b e=>(Value.int.inj e).2) bb8 he0 hk0;have hnv:nv=_:=(Value.int.inj (hv0.trans hv1)).2;have hA1:AtJ bnb 3 (Value.int .i64) (bv (pgT (ap (a7 t (d.lhs|||d.rhs))) ((a7 t d.lhs).cls.getD k default) j) ((ap (a7 t (d.lhs|||d.rhs))).getD (((a7 t d.lhs).cls.getD k default).getD j default) default)) (es,clock):=hA.keep hlt;obtain rfl:=hnv;refine eu ?_;show HE _ _ _
    first|refine rg 900 904 rfl rfl ?_|skip
    refine fu ?_;exact⟨_,hA1,⟨⟨⟨_,rfl,(by first|(rw[show(bv (pgT (ap (a7 t (d.lhs|||d.rhs))) ((a7 t d.lhs).cls.getD k default) j) ((ap (a7 t (d.lhs|||d.rhs))).getD (((a7 t d.lhs).cls.getD k default).getD j default) default)).length=(pgT (ap (a7 t (d.lhs|||d.rhs))) ((a7 t d.lhs).cls.getD k default) j).length+1 by unfold bv;rw[if_neg bmq];simp];exact CoR.refl _)|(rw[show(bv (pgT (ap (a7 t (d.lhs|||d.rhs))) ((a7 t d.lhs).cls.getD k default) j) ((ap (a7 t (d.lhs|||d.rhs))).getD (((a7 t d.lhs).cls.getD k default).getD j default) default)).length=(pgT (ap (a7 t (d.lhs|||d.rhs))) ((a7 t d.lhs).cls.getD k default) j).length by unfold bv;rw[if_pos hlt]];exact CoR.refl _))⟩,⟨_,rfl,(by first|(rw[hab];exact CoR.refl _)|exact CoR.refl _)⟩,tt⟩,⟨⟨_,rfl,(by first|exact a1e bmq|exact vz hlt)⟩,uu⟩⟩⟩
   rintro⟨es2,clock2⟩ hA2;dsimp only at hA2 ⊢;have hr1:(ci (pgT (ap (a7 t (d.lhs|||d.rhs))) ((a7 t d.lhs).cls.getD k default) j) ((ap (a7 t (d.lhs|||d.rhs))).getD (((a7 t d.lhs).cls.getD k default).getD j default) default))<(bv (pgT (ap (a7 t (d.lhs|||d.rhs))) ((a7 t d.lhs).cls.getD k default) j) ((ap (a7 t (d.lhs|||d.rhs))).getD (((a7 t d.lhs).cls.getD k default).getD j default) default)).length:=acp;have hrl2:=b1d hr1;refine a7u 900 (ci (pgT (ap (a7 t (d.lhs|||d.rhs))) ((a7 t d.lhs).cls.getD k default) j) ((ap (a7 t (d.lhs|||d.rhs))).getD (((a7 t d.lhs).cls.getD k default).getD j default) default)) 906 907 rfl hr1 agh (fun hd B hbf=>?_) rfl rfl rfl rfl;refine w_6 ?_;refine rq (out:=Out.mk _ (.v (.one (.ref 906 ((bv (pgT (ap (a7 t (d.lhs|||d.rhs))) ((a7 t d.lhs).cls.getD k default) j) ((ap (a7 t (d.lhs|||d.rhs))).getD (((a7 t d.lhs).cls.getD k default).getD j default) default)).getD (ci (pgT (ap (a7 t (d.lhs|||d.rhs))) ((a7 t d.lhs).cls.getD k default) j) ((ap (a7 t (d.lhs|||d.rhs))).getD (((a7 t d.lhs).cls.getD k default).getD j default) default)) default).2.length)))) rfl rfl rfl (congrArg (fun z=>some (Out.mk _ (HR.v (HC.one z)))) (uk hd 906 (ci (pgT (ap (a7 t (d.lhs|||d.rhs))) ((a7 t d.lhs).cls.getD k default) j) ((ap (a7 t (d.lhs|||d.rhs))).getD (((a7 t d.lhs).cls.getD k default).getD j default) default)) ((bv (pgT (ap (a7 t (d.lhs|||d.rhs))) ((a7 t d.lhs).cls.getD k default) j) ((ap (a7 t (d.lhs|||d.rhs))).getD (((a7 t d.lhs).cls.getD k default).getD j default) default)).getD (ci (pgT (ap (a7 t (d.lhs|||d.rhs))) ((a7 t d.lhs).cls.getD k default) j) ((ap (a7 t (d.lhs|||d.rhs))).getD (((a7 t d.lhs).cls.getD k default).getD j default) default)) default).2.length 0)) rfl ?_;refine qy ?_;refine m9 7 ?_;refine r9 8 true ?_;refine w_3 ?_
   refine dw ⟨[(9,some _),(15,some _),(18,some _),(19,some _),(77,some _),(78,some _),(79,some _),(84,some _),(85,some _),(86,some _)],[(905,some _),(900,some _),(901,some _),(906,some _),(907,some _)]⟩ kk ?_;refine a8x 18 900 906 907 908 hbf rfl rfl rfl rfl hr1 (by first|exact uk _ _ _ _ _|exact aib) (fun b _ hne=>by first|exact a02 hne|exact aig hne) ?_;refine dw ⟨[(9,some _),(15,some _),(18,some _),(19,some _),(77,some _),(78,some _),(79,some _),(84,some _),(85,some _),(86,some _)],[(905,some _),(901,some _),(908,some _)]⟩ kk ?_;refine ac2 18 908 900 rfl rfl ?_;refine w_4 ?_;refine lpz (j+1,es2,clock2) ⟨⟨⟨_,rfl,(by rw[show(pgT (ap (a7 t (d.lhs|||d.rhs))) ((a7 t d.lhs).cls.getD k default) (j+1)).length=(bv (pgT (ap (a7 t (d.lhs|||d.rhs))) ((a7 t d.lhs).cls.getD k default) j) ((ap (a7 t (d.lhs|||d.rhs))).getD (((a7 t d.lhs).cls.getD k default).getD j default) default)).length by rw[a7t hjc,n8,wn]];exact CoR.refl _)⟩,tt⟩,⟨⟨_,rfl,(acw (by rw[a7t hjc,n8];simp only[bit]) hr1 (bn rfl (CoP.refl _)))⟩,uu⟩⟩ ?_;exact⟨by show j+1<=_;omega,hA2.modify (by rw[a7t hjc,n8])⟩
  obtain rfl:j=((a7 t d.lhs).cls.getD k default).length:=by omega
  refine eg ?_;refine acy 900 rfl ?_;refine dw ⟨[(9,some _),(15,some _),(77,some _),(78,some _),(79,some _),(18,some (.v (.one (.ref 900 (pgs (ap (a7 t (d.lhs|||d.rhs))) ((a7 t d.lhs).cls.getD k default)).length))))],[(905,some _),(900,some (.arr true 1 57 (pgs (ap (a7 t (d.lhs|||d.rhs))) ((a7 t d.lhs).cls.getD k default)).length (lf ilC (pgs (ap (a7 t (d.lhs|||d.rhs))) ((a7 t d.lhs).cls.getD k default)))))]⟩ ⟨⟨c9,c9,c9,c9,c9,⟨_,rfl,by rw[<- alv,bjf];exact CoR.refl _⟩,trivial⟩,⟨u9,⟨_,rfl,by rw[<- alv];exact acn⟩,trivial⟩⟩ ?_;refine bh 18 rfl rfl rfl ?_;refine w_3 ?_;refine m9 9 ?_;refine r9 10 true ?_;refine w_6 ?_;exact lpx (k+1) ⟨⟨⟨_,rfl,(bq (ar bmq))⟩,tt⟩,⟨⟨_,rfl,(bn (ar bmq) (CoP.of_eq (by unfold aq2 fj;rw[se hkc];rfl)))⟩,trivial⟩⟩
 obtain rfl:k=(a7 t d.lhs).cls.length:=by omega
 refine w_2 ?_;refine bh 15 rfl rfl rfl ?_;refine v_4 ?_;exact⟨CoC.one (CoP.of_eq (by rw[bln bmq];rfl)),trivial⟩
end
section
open Go.Proofs
abbrev u6(n:Nat):PV:=.raw (.int .u64 (n:Int))
def b9l {m:Imm} {x y c:Nat} {us:List Value} (h:bw m [.one (u6 x), .one (u6 y), .one (u6 c)] us):us=[.int .u64 (x:Int), .int .u64 (y:Int), .int .u64 (c:Int)]:=by
 match us,h with
 | [a,b,d],⟨h1,h2,h3,_⟩=>rw[h1.1,h2.1,h3.1]
def amr{m:Imm}{a b:Nat}:my m (ag [.one (u6 a), .one (u6 b)]) (.tuple #[.int .u64 (a:Int), .int .u64 (b:Int)]):=⟨[.int .u64 (a:Int), .int .u64 (b:Int)],rfl,⟨rfl,rfl⟩,⟨rfl,rfl⟩,trivial⟩
def b6a (x y c:Nat) (hc:c<=1) (h:x+y+c<18446744073709551616):ak7 bnb 230 [.one (u6 x), .one (u6 y), .one (u6 c)] (ag [.one (u6 (x+y+c)), .one (u6 0)]):=fun m us w hus=>by
 rw[b9l hus];refine⟨.tuple #[.int .u64 ((x+y+c:Nat):Int), .int .u64 ((0:Nat):Int)], ?_,amr⟩;show(callFunc 230 #[.int .u64 (x:Int), .int .u64 (y:Int), .int .u64 (c:Int)]).run bnb w=_;rw[run_callFunc_extern Tryz.func230 bn1 bn1 bn1 (e:=add64Entry) bn1,run_add64 x y c bmq bmq bmq bmq,show((x:Int)+y+c)%18446744073709551616=((x+y+c:Nat):Int) by omega,show((x:Int)+y+c)/18446744073709551616=((0:Nat):Int) by omega];rfl
def b9p (x y b:Nat) (hb:b<=1) (hx:x<18446744073709551616) (h:y+b<=x):ak7 bnb 231 [.one (u6 x), .one (u6 y), .one (u6 b)] (ag [.one (u6 (x-y-b)), .one (u6 0)]):=fun m us w hus=>by
 rw[b9l hus];refine⟨.tuple #[.int .u64 ((x-y-b:Nat):Int), .int .u64 ((0:Nat):Int)], ?_,amr⟩;show(callFunc 231 #[.int .u64 (x:Int), .int .u64 (y:Int), .int .u64 (b:Int)]).run bnb w=_;rw[run_callFunc_extern Tryz.func231 bn1 bn1 bn1 (e:=sub64Entry) bn1,run_sub64 x y b hb,if_neg bmq,show(x+18446744073709551616-y-b)%18446744073709551616=x-y-b by omega];rfl
end
section
open Go.Proofs
abbrev pW(n:Nat):PC:=.agg [.raw (.int .u64 0),u6 n]
abbrev pRt(a b:Int):PC:=.agg [.raw (.int .i64 a), .raw (.int .i64 b)]
def pu{x:Int}{n:Nat}(h:x=(n:Int)):CoP (.raw (.int .u64 x)) (u6 n):=by rw[h];exact CoP.refl _
def ru{x:Int}{n:Nat}(h:x=(n:Int)):CoR (.v (.one (.p (.raw (.int .u64 x))))) (.v (.one (.p (u6 n)))):=by rw[h];exact CoR.refl _
def cu{x:Int}{n:Nat}(h:x=(n:Int)):CoC (.one (.raw (.int .u64 x))) (.one (u6 n)):=by rw[h];exact CoC.refl _
def aj6{a b:Nat}:Nat.gcd b (a%b)=Nat.gcd a b:=by rw[Nat.gcd_comm a b,Nat.gcd_rec b a,Nat.gcd_comm]
def agk{s r:Nat}(hr:0<r):0<Nat.gcd s r:=bm7 _ hr
def b24{s r:Nat}(hr:0<r):Nat.gcd s r<=r:=Nat.gcd_le_right _ hr
def amx:a6 bnb 166:=wgx Tryz.func166
def azq (n:Nat) (h:n<4294967296):aa bnb 166 [pI n] (ag [pP (u6 n)]):=by
 refine hpx (nt:=10) Tryz.func166 ?_;refine db ?_;refine hcd ?_ ?_<;>intro h0
 · exfalso;omega
 refine v_7 ?_;exact⟨cu (by first|rfl|exact b4m bmq),trivial⟩
def b1m:a6 bnb 167:=wgx Tryz.func167
def bcj (s r:Nat) (h1:s<4294967296) (h2:r<4294967296):aa bnb 167 [pP (u6 s),pP (u6 r)] (ag [pP (u6 (Nat.gcd s r))]):=by
 refine hpx (nt:=12) Tryz.func167 ?_;refine w_6 ?_;refine b7 (ι:=Nat×Nat) kn km (fun x=>⟨[(0,some (.v (.one (.p (u6 x.1))))),(1,some (.v (.one (.p (u6 x.2)))))],[]⟩) (fun x=>Nat.gcd x.1 x.2=Nat.gcd s r/\x.1<4294967296/\x.2<4294967296) (fun x=>x.2) ((s,r)) (⟨rfl,h1,h2⟩) ⟨⟨⟨_,rfl,(CoR.refl _)⟩,⟨_,rfl,(CoR.refl _)⟩,trivial⟩,trivial⟩ ?_;rintro x ⟨hg,hb1,hb2⟩;refine w_6 ?_;refine hcd ?_ ?_<;>intro h0
 ·
  have hx2:0<x.2:=by omega
  have hm:x.1%x.2<x.2:=bl9 _ hx2;have hmi:(x.1:Int)%(x.2:Int)=((x.1%x.2:Nat):Int):=(Int.natCast_emod _ _).symm;refine ip ?_;refine⟨(x.2,x.1%x.2), ?_, ?_, ?_⟩
  · exact⟨aj6.trans hg,hb2,by show x.1%x.2<_;omega⟩
  · show x.1%x.2<x.2;exact hm
  exact⟨⟨⟨_,rfl,(CoR.refl _)⟩,⟨_,rfl,(ru (by first|exact hmi|(rw[<- hmi];first|rfl|exact Int.tmod_eq_emod_of_nonneg bmq)))⟩,trivial⟩,trivial⟩
 have hx0:x.2=0:=by omega
 refine v_6 ?_;exact⟨cu (by rw[<- hg,hx0,Nat.gcd_zero_right]),trivial⟩
def b3b:a6 bnb 168:=wgx Tryz.func168
def bdd (s r:Nat) (h1:s<4294967296) (h2:r<4294967296):aa bnb 168 [pB false,pP (u6 s),pP (u6 r)] (ag [pRt s r,pI 0]):=by
 refine hpx (nt:=27) Tryz.func168 ?_;refine sx7 ?_;refine m9 0 ?_;refine w_8 ?_;refine be rfl rfl ?_ ?_<;>intro r0
 · have h0:=tz1 r0;exfalso;omega
 have h0:=tz2 r0;(iterate 2 refine qy ?_ (hg:=(gff r0)));refine w_2 ?_;refine az _ rfl ?_ ?_<;>intro r1
 · have h1:=tz1 (ck r0 r1);exfalso;omega
 have h1:=tz2 (ck r0 r1);refine w_8 ?_;refine m9 1 ?_;refine w_7 ?_;refine az _ rfl ?_ ?_<;>intro r2
 · have h2:=r2;exfalso;exact absurd r2 bmx
 have h2:=r2;refine v_7 ?_;exact⟨CoC.of_eq rfl,CoC.refl _,trivial⟩
def a0w:a6 bnb 46:=wgx Tryz.func46
def a0e (n:Nat) (h:n<4294967296):aa bnb 46 [pI n] (ag [pW n]):=by
 refine hpx (nt:=12) Tryz.func46 ?_;refine sx7 ?_;refine m9 0 ?_;refine w_7 ?_;refine hcd ?_ ?_<;>intro h0
 · exfalso;omega
 refine v_8 ?_;exact⟨CoC.of_eq rfl,trivial⟩
def b2e:a6 bnb 169:=wgx Tryz.func169
def b83 (n:Nat):aa bnb 169 [pW n] (ag [pB (decide (n=0))]):=by
 refine hpx (nt:=11) Tryz.func169 ?_;refine sx7 ?_;refine m9 0 ?_;refine w_8 ?_;refine be rfl rfl ?_ ?_<;>intro r0
 ·
  have h0:=tz1 r0;(iterate 3 refine qy ?_ (hg:=(gtt r0)));refine w_3 ?_
  exact hx8 rfl rfl rfl (⟨ccb bmu,trivial⟩)
 have h0:=tz2 r0;exfalso
 first|omega|simp_all
def a0j:a6 bnb 47:=wgx Tryz.func47
def a0y (a b:Nat):aa bnb 47 [pW a,pW b] (ag [pB (decide (a<b))]):=by
 refine hpx (nt:=24) Tryz.func47 ?_;refine sx7 ?_;refine m9 0 ?_;refine m9 1 ?_;refine db ?_;refine be rfl rfl ?_ ?_<;>intro r0
 ·
  have h0:=tz1 r0;exfalso
  first|omega|simp_all
 have h0:=tz2 r0;(iterate 6 refine qy ?_ (hg:=(gff r0)));refine be rfl rfl ?_ ?_<;>intro r1
 ·
  have h1:=tz1 r1;(iterate 5 refine qy ?_ (hg:=(gtt r1)));refine qy ?_ (hg:=(gff r0));refine w_3 ?_
  exact hx8 rfl rfl rfl (⟨ccb bmu,trivial⟩)
 have h1:=tz2 r1;exfalso
 first|omega|simp_all
def am1:a6 bnb 101:=wgx Tryz.func101
def as2 (s r:Nat) (hr:0<r) (h1:s<4294967296) (h2:r<4294967296):aa bnb 101 [pI s,pI r] (ag [pRt (rtN s r) (rtD s r),pI 0]):=by
 refine hpx (nt:=33) Tryz.func101 ?_;have hg:=agk (s:=s) hr;have hgl:=b24 (s:=s) hr;have hqs:=ass (s:=s) (r:=r);have hqr:=asc (s:=s) (r:=r);have hgi:((Nat.gcd s r:Nat):Int)≠0:=by omega
 refine sx7 ?_;refine m9 0 ?_;refine w_8 ?_;refine hcd ?_ ?_<;>intro h0
 · exfalso;omega
 refine w_4 ?_;refine qcx amx (azq s h1) ?_;refine qy ?_;refine qcx amx (azq r h2) ?_;refine w_7 ?_;refine qcx b1m (bcj s r h1 h2) ?_;refine ic ?_;refine rc rfl rfl rfl rfl rfl rfl b3b (bdd (rtN s r) (rtD s r) bmq bmq) (⟨ccb (by rw[decide_eq_false (show ¬(s:Int)<0 by omega),decide_eq_false (show ¬(r:Int)<0 by omega)];rfl),cu (bli s _).symm,cu (bli r _).symm,trivial⟩) rfl rfl ?_;refine v_6 ?_;exact CoL.refl _
def a63:a6 bnb 210:=wgx Tryz.func210
def abe (a b:Nat) (h:a+b<9223372036854775808):aa bnb 210 [pW a,pW b] (ag [pW (a+b)]):=by
 refine hpx (nt:=29) Tryz.func210 ?_;refine sx7 ?_;refine m9 0 ?_;refine m9 1 ?_;refine m9 2 ?_;refine w_7 ?_;refine rcx rfl rfl rfl rfl rfl rfl (b6a a b 0 bmq bmq) (CoL.refl _) rfl rfl ?_;refine kg ?_;refine rcx rfl rfl rfl rfl rfl rfl (b6a 0 0 0 bmq bmq) (CoL.refl _) rfl rfl ?_;refine kg ?_;exact hx8 rfl rfl rfl (CoL.refl _)
def amd:a6 bnb 211:=wgx Tryz.func211
def ane (a b:Nat) (h:b<=a) (ha:a<9223372036854775808):aa bnb 211 [pW a,pW b] (ag [pW (a-b)]):=by
 refine hpx (nt:=29) Tryz.func211 ?_;refine sx7 ?_;refine m9 0 ?_;refine m9 1 ?_;refine m9 2 ?_;refine w_7 ?_;refine rcx rfl rfl rfl rfl rfl rfl (b9p a b 0 bmq bmq bmq) (CoL.refl _) rfl rfl ?_;refine kg ?_;refine rcx rfl rfl rfl rfl rfl rfl (b9p 0 0 0 bmq bmq bmq) (CoL.refl _) rfl rfl ?_;refine kg ?_;exact hx8 rfl rfl rfl (CoL.refl _)
end
end Go.Hx
