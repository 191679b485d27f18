/- A part of the proof: Tw11 Jrw3 Kx6 Kx12 Kx13 Kx15 Hx35 Kb9 Kw10. -/
import Derived.Test.YtmoggbnlhllhaaaGreatDoorUx34
set_option linter.all false
set_option maxRecDepth 100000
set_option maxHeartbeats 1000000
namespace Go.Hx
section
open Go.Proofs
def an2:a6 bqh 124:=wgx Tryz.func124
def ald(n:Nat)(c:Bool)(f:Nat->Nat->PV)(hn:n<=4398046511104) :
 dg bqh 124 [.one (.p (.sl n 2 c f))] [] (.v (.one (.ref 0 n))) [(0, .arr true 2 106 n f)] []:=by
 refine hfx (nt:=8) Tryz.func124 ?_;refine sx7 ?_;refine fb true rfl rfl rfl rfl rfl trivial ?_;refine d5 ?_;refine aen (ι:=Bool) (fun c=>⟨[(0,some (br (.sl n 2 c f)))],[]⟩) (fun _=>True) ?_ fun c _=>?_
 · rcases bnp n with hz|h0
   · subst hz
     refine hw_exact' 0 rfl fun ad cap hcap=>?_;refine sx7 ?_;(iterate 2 refine fb true rfl rfl rfl rfl rfl trivial ?_);refine d5 ?_;refine aw ad.isNone rfl ?_ ?_<;>intro hc
     · refine sx7 ?_
       refine fb true rfl rfl rfl rfl rfl trivial ?_;refine d5 ?_;refine cr 2 0 true 2 106 f bq4 rfl (CoP.sl rfl (.inr rfl) (fun h=>h) fun i j hi _=>absurd hi (bm6 i)) (.inr rfl) rfl ?_;refine hrr ?_;exact⟨_,_,rfl,trivial,CoR.refl _,uu⟩
     refine ej ?_;exact⟨false,trivial,⟨⟨_,rfl,CoP.raw_sl hcap⟩,trivial⟩,trivial⟩
   refine sx7 ?_;refine fb true rfl rfl rfl rfl rfl trivial ?_;refine fb true rfl rfl rfl rfl rfl h0 ?_;refine d5 ?_;refine aw false rfl (fun hc=>by cases hc) (fun hc=>?_);refine ej ?_;exact⟨c,trivial,tt,trivial⟩
 refine sx7 ?_;refine a7k 0 rfl rfl rfl rfl rfl rfl trivial ?_;refine fb true rfl rfl rfl rfl rfl trivial ?_;refine acb 0 true rfl rfl rfl rfl rfl rfl ⟨trivial,rfl,rfl,rfl, .inl rfl,by show 0+n<=9223372036854775807;omega,by show(0+n)*32<=140737488355328;omega,fun _=>.inl rfl⟩ ?_;refine fb true rfl rfl rfl rfl rfl trivial ?_;refine d5 ?_;refine hrr ?_;refine⟨_,_,rfl,trivial,CoR.of_eq (by show HR.v (.one (.ref 0 (0+n)))=_;rw[bn9]),⟨⟨_,rfl, ?_⟩,trivial⟩⟩;exact⟨fun h=>h,rfl,rfl,(bn9 n).symm,fun i j _ _=>CoP.of_eq (by simp[f3])⟩
def aob:a6 bqh 123:=wgx Tryz.func123
def auc (x r:Row):a7 bqh 123 [x.pc,pP (.vp 2 fun j=>[r.c 0,r.c 1].getD j .any)] (af [pB (decide (x.id=r.id))]):=by
 refine hpx (nt:=9) Tryz.func123 ?_;refine sx7 ?_;refine m9 0 ?_;refine jb ?_;exact hx8 rfl rfl rfl (CoL.refl _)
def b8t:a6 bqh 67:=wgx Tryz.func67
def beo (l:List Row):a7 bqh 67 [pP (rows l)] (af [pB false]):=by
 refine hpx (nt:=3) Tryz.func67 ?_;refine v_8 ?_;exact CoL.refl _
section
variable {l:List Atm}
def ayy {t:Tbl} {r:Row} {i:Nat} (hi:i<t.rows.length) (h1:¬r.id=(t.rows.getD i default).id) (h2:j0 [r,t.rows.getD i default] l=true):qz t l r=false:=by
 unfold qz;rw[bo1];exact⟨t.rows.getD i default,by rw[al _ _ hi];exact bma _,by rw[h2,decide_eq_false h1];exact Bool.false_ne_true⟩
def av6 {t:Tbl} {r:Row} (h:∀j,j<t.rows.length->(decide (r.id=(t.rows.getD j default).id)||!j0 [r,t.rows.getD j default] l)=true):qz t l r=true:=by
 unfold qz;rw[bms];intro x hx;obtain⟨j,hj,rfl⟩:=bmj hx;have:=h j hj;rwa [al _ _ hj]at this
def bb4 {t:Tbl} {i:Nat} (hi:i<t.rows.length) (h:qz t l (t.rows.getD i default)=false):dnB t l=false:=by
 unfold dnB;rw[bo1];exact⟨t.rows.getD i default,by rw[al _ _ hi];exact bma _,by rw[h];exact Bool.false_ne_true⟩
def b3d {t:Tbl} (h:∀j,j<t.rows.length->qz t l (t.rows.getD j default)=true):dnB t l=true:=by
 unfold dnB;rw[bms];intro x hx;obtain⟨j,hj,rfl⟩:=bmj hx;have:=h j hj;rwa [al _ _ hj]at this
def bg4 {n:Nat} {r s:Row} (hr:r.vals.length=n) (hs:s.vals.length=n):∀i,i<[r,s].length->([r,s].getD i default).vals.length=n:=fun i hi=>by
 match i,hi with
 |0,_=>exact hr
 |1,_=>exact hs
 |i+2,hi=>exact absurd hi bpz
def aox {cl:Bool} {l:List Row} {x:Row} {f g:Nat->Nat->PV} (hf:∀i j,i<l.length->j<2->CoP (f i j) (lf Row.c l i j)) (h0:CoP (g 0 0) (x.c 0)) (h1:CoP (g 0 1) (x.c 1)):CoP (.sl (l.length+1) 2 cl (f3 l.length f g)) (rows (l++[x])) :=
 ap3 (l':=[x]) rfl rfl hf (fun i j hi hj=>by
  obtain rfl:i=0:=by omega
  revert j
  exact lt2 h0 h1)
def ak4:a6 bqh 66:=wgx Tryz.func66
def b4i (t:Tbl) (l:List Atm) (hT:TOk t) (hok:∀x∈l,uk t.attrs.length 2 x) (r s:Row) (hr:r.vals.length=t.attrs.length) (hs:s.vals.length=t.attrs.length):a7 bqh 66 [t.pc,a7r l,pP (rows [r,s]),pP (.fn 67 0 fun _=>.any)] (af [pB (!j0 [r,s] l)]):=by
 refine hpx (nt:=47) Tryz.func66 ?_;refine sx7 ?_;refine m9 0 ?_;refine m9 1 ?_;refine sb ?_;refine qcx b3t (bfn t.attrs.length [r,s] l bpz (bg4 hr hs) hok) ?_;refine w_2 ?_;refine am rfl rfl ?_ ?_<;>intro r0
 ·
  have h0:=dc r0;(iterate 3 refine k9 (gtf r0) ?_);refine w_3 ?_
  exact hx8 rfl rfl rfl (⟨ccb (by simp_all),trivial⟩)
 have h0:=df r0;(iterate 2 refine qy ?_ (hg:=(gff r0)));refine qcx b8t (beo [r,s]) ?_ (hg:=(gff r0));refine w_3 ?_
 exact hx8 rfl rfl rfl (⟨ccb (by simp_all),trivial⟩)
def b51(t:Tbl)(l:List Atm)(hT:TOk t)(hok:∀x∈l,uk t.attrs.length 2 x)(r:Row)(hr:r.vals.length=t.attrs.length):a7 bqh 66 [t.pc,a7r l,pP (rows [r]),pP (.fn 67 0 fun _=>.any)] (af [pB (qz t l r)]):=by
 refine hpx (nt:=47) Tryz.func66 ?_;have hnr:=hT.nr;refine sx7 ?_;refine m9 0 ?_;refine m9 1 ?_;refine arw ?_;refine ar (ι:=Nat) (ka 2 (ka 3 (ka 4 (ka 5 (ka 27 (ka 28 kn)))))) (kb 0 (kb 1 km)) (fun i=>⟨[(29,some (vI i))],[]⟩) (fun i=>i<=t.rows.length/\(∀j,j<i->(decide (r.id=(t.rows.getD j default).id)||!j0 [r,t.rows.getD j default] l)=true)) (fun i=>t.rows.length-i) (0) (⟨bm3 _,e9⟩) kk ?_;rintro i ⟨hi,hIi⟩;refine w_5 ?_;refine hcd ?_ ?_<;>intro h0
 ·
  have hir:i<t.rows.length:=by omega
  refine w_7 ?_;refine m9 2 ?_;refine w_4 ?_;refine c8 10 rfl rfl rfl ?_;refine w_3 ?_;refine qcx aoa (b1s [r] 123 1 (fun j=>[PV.vp 2 fun j=>[(t.rows.getD i default).c 0,(t.rows.getD i default).c 1].getD j .any].getD j .any) (fun x=>decide (x.id=(t.rows.getD i default).id)) aob (fun x=>auc x (t.rows.getD i default))) ?_;refine d5 ?_;refine aw _ rfl ?_ ?_<;>intro r1
  ·
   have h1:=r1;have hq:(decide (r.id=(t.rows.getD i default).id)||!j0 [r,(t.rows.getD i default)] l)=true:=by have hz:=r1;simp at hz;simp[hz]
   refine w_5 ?_;refine lpz (i+1) kk ?_;exact⟨by show i+1<=_;omega,da hIi (by first|exact hq|(simp_all;done))⟩
  have h1:=r1;have hid:¬r.id=(t.rows.getD i default).id:=by have hz:=r1;simpa using hz
  refine w_6 ?_;refine fc9 an2 ((ald 1 false (lf Row.c [r]) bpw).swap 0 905) trivial ?_;refine qy ?_;refine m9 3 ?_;refine rz9 4 true ?_;refine qy ?_;refine rc rfl rfl rfl rfl rfl rfl ak4 (b4i t l hT hok r (t.rows.getD i default) hr (hT.width hir)) (⟨CoC.refl _,CoC.refl _,CoC.one (aox (l:=[r]) (fun i j hi hj=>CoP.refl _) (CoP.refl _) (CoP.refl _)),CoC.refl _,trivial⟩) rfl rfl ?_;refine w_3 ?_;refine aw _ rfl ?_ ?_<;>intro r2
  ·
   have h2:=dc r2;have hq:j0 [r,(t.rows.getD i default)] l=true:=by simpa using r2
   refine v_4 ?_;exact⟨ccb (ayy hir hid hq).symm,trivial⟩
  have h2:=df r2;have hz2:j0 [r,(t.rows.getD i default)] l=false:=by simpa using r2
  have hq:(decide (r.id=(t.rows.getD i default).id)||!j0 [r,(t.rows.getD i default)] l)=true:=by rw[hz2];simp
  refine w_5 ?_;refine lpz (i+1) kk ?_;exact⟨by show i+1<=_;omega,da hIi (by first|exact hq|(simp_all;done))⟩
 obtain rfl:i=t.rows.length:=by omega
 refine v_5 ?_;exact⟨ccb (av6 hIi).symm,trivial⟩
def b26(t:Tbl)(l:List Atm)(hT:TOk t)(hok:∀x∈l,uk t.attrs.length 2 x):a7 bqh 66 [t.pc,a7r l,pP (rows []),pP (.fn 67 0 fun _=>.any)] (af [pB (dnB t l)]):=by
 refine hpx (nt:=47) Tryz.func66 ?_;have hnr:=hT.nr;refine sx7 ?_;refine m9 0 ?_;refine m9 1 ?_;refine arw ?_;refine ar (ι:=Nat) (ka 2 (ka 3 (ka 4 (ka 5 (ka 27 (ka 28 kn)))))) (kb 0 (kb 1 km)) (fun i=>⟨[(29,some (vI i))],[]⟩) (fun i=>i<=t.rows.length/\(∀j,j<i->qz t l (t.rows.getD j default)=true)) (fun i=>t.rows.length-i) (0) (⟨bm3 _,e9⟩) kk ?_;rintro i ⟨hi,hIi⟩;refine w_5 ?_;refine hcd ?_ ?_<;>intro h0
 ·
  have hir:i<t.rows.length:=by omega
  refine w_7 ?_;refine m9 2 ?_;refine w_4 ?_;refine c8 10 rfl rfl rfl ?_;refine w_3 ?_;refine qcx aoa (b1s [] 123 1 (fun j=>[PV.vp 2 fun j=>[(t.rows.getD i default).c 0,(t.rows.getD i default).c 1].getD j .any].getD j .any) (fun x=>decide (x.id=(t.rows.getD i default).id)) aob (fun x=>auc x (t.rows.getD i default))) ?_;refine d5 ?_;refine aw _ rfl ?_ ?_<;>intro r1
  · have h1:=r1;exfalso;exact absurd r1 bpz
  have h1:=r1;refine w_6 ?_;refine fc9 an2 ((ald 0 false (lf Row.c []) bpw).swap 0 905) trivial ?_;refine qy ?_;refine m9 3 ?_;refine rz9 4 true ?_;refine qy ?_;refine rc rfl rfl rfl rfl rfl rfl ak4 (b51 t l hT hok (t.rows.getD i default) (hT.width hir)) (⟨CoC.refl _,CoC.refl _,CoC.one (aox (l:=[]) (fun i j hi hj=>CoP.refl _) (CoP.refl _) (CoP.refl _)),CoC.refl _,trivial⟩) rfl rfl ?_;refine w_3 ?_;refine aw _ rfl ?_ ?_<;>intro r2
  ·
   have h2:=dc r2;have hq:qz t l (t.rows.getD i default)=false:=by simpa using r2
   refine v_4 ?_;exact⟨ccb (bb4 hir hq).symm,trivial⟩
  have h2:=df r2;have hq:qz t l (t.rows.getD i default)=true:=by simpa using r2
  refine w_5 ?_;refine lpz (i+1) kk ?_;exact⟨by show i+1<=_;omega,da hIi (by first|exact hq|(simp_all;done))⟩
 obtain rfl:i=t.rows.length:=by omega
 refine v_5 ?_;exact⟨ccb (b3d hIi).symm,trivial⟩
def baq:a6 bqh 21:=wgx Tryz.func21
def b6k (t:Tbl) (l:List Atm) (hT:TOk t) (hl:l.length<=20) (hok:∀x∈l,uk t.attrs.length 2 x):a7 bqh 21 [t.pc,a7r l] (af [pB (dnB t l),pI 0]):=by
 refine hpx (nt:=16) Tryz.func21 ?_;refine sx7 ?_;refine m9 0 ?_;refine m9 1 ?_;refine w_8 ?_;refine qcx bb8 (bg9 t l hT hl hok) ?_;refine l5 ?_;refine rc rfl rfl rfl rfl rfl rfl ak4 (b26 t l hT hok) (⟨CoC.refl _,CoC.refl _,CoC.one (CoP.sl rfl (.inr rfl) (fun _=>rfl) (fun i j hi _=>absurd hi (bm6 i))),CoC.refl _,trivial⟩) rfl rfl ?_;refine v_3 ?_;exact CoL.refl _
end
end
section
open Go.Proofs
def a9m(x:jw)(n:Int):Bool:=decide (¬(x.rows.length:Int) > n)
def ahr(x:jw)(n:Nat):Tbl:=if x.rows.length > n then T0 else a3l x (x.attrs.toNat%6)
def b94:a6 bqh 22:=wgx Tryz.func22
def c36(x:jw)(n:Nat)(hn:n<=8)(hx:x.rows.length<=68719476736):a7 bqh 22 [x.pc,pI n] (af [(a3l x n).pc]):=by
 refine hpx (nt:=67) Tryz.func22 ?_;refine sx7 ?_;refine m9 0 ?_;refine m9 1 ?_;refine w_3 ?_;refine m9 2 ?_;refine m9 3 ?_;refine qy ?_;refine as6 rfl rfl rfl rfl rfl ?_;refine rz9 4 true ?_;refine qy ?_;refine m9 5 ?_;refine w_2 ?_;refine j2 5 1 rfl rfl rfl rfl rfl ?_;refine w_6 ?_;refine ik 5 2 100 true 2 106 (lf Row.c (mc x n)) bq4 rfl rfl (CoP.sl rfl (.inr rfl) (fun h=>h) (fun i j hi _=>absurd hi (bm6 i))) (.inr rfl) rfl rfl ?_;refine c7 (ka 1 (ka 2 (ka 4 (ka 5 kn)))) (kb 0 (kb 1 km)) (fun i=>⟨[(6,some (vI i))],[(5,some (.box [.p (.raw (.string ⟨#[114]⟩)), .p (aan (me.take n)), .ref 100 i])),(100,some (.arr true 2 106 i (lf Row.c (mc x n))))]⟩) x.rows.length ⟨tt,⟨⟨_,rfl,⟨CoH.refl _,bgd hn,CoH.refl _,trivial⟩⟩,uu⟩⟩ ?_;rintro i hi;refine w_9 ?_;refine hcd ?_ ?_<;>intro h0
 ·
  refine w_4 ?_;have hgl:=bat (g:=x.gap) (i:=i);refine eu ?_;refine m9 6 ?_;refine w_8 ?_;refine ik 6 1 101 true 3 141 (lf Val.c (ol (x.rows.getD i default) n)) bq4 rfl rfl (CoP.sl rfl (.inr rfl) (fun h=>h) (fun i j hi _=>absurd hi (bm6 i))) (.inr rfl) rfl rfl ?_;refine c7 (ka 1 (ka 2 (ka 4 (ka 5 (ka 6 (ka 7 kn)))))) (kb 5 (kb 100 (kb 0 (kb 1 km)))) (fun k=>⟨[(8,some (vI k))],[(6,some (.box [.p (.raw (.int .i64 (1+(i:Int)*(1+(x.gap.toNat:Int)%3)))), .ref 101 k])),(101,some (.arr true 3 141 k (lf Val.c (ol (x.rows.getD i default) n))))]⟩) n kk ?_;rintro k hk;refine w_7 ?_;refine hcd ?_ ?_<;>intro h1
  ·
   refine w_7 ?_;refine yy (ka 1 (ka 2 (ka 4 (ka 5 (ka 6 (ka 7 (ka 8 kn))))))) (kb 6 (kb 101 (kb 5 (kb 100 (kb 0 (kb 1 km)))))) ⟨[(9,some (.v (.one (.p (.raw (.int .u8 ((((x.rows.getD i default).getD k default).toNat:Nat):Int)))))))],[]⟩ ?_ ?_
   ·
    refine eq ?_;refine bfa 0 2 rfl rfl (fun hb=>?_);refine eu ?_;refine hcd ?_ ?_<;>intro h2
    · refine jb ?_;exact⟨⟨⟨_,rfl,(by first|exact CoR.refl _|exact CoR.of_eq (by rw[aes bpw];rfl))⟩,tt⟩,uu⟩
    refine ej ?_;exact⟨⟨⟨_,rfl,(by first|exact CoR.refl _|exact CoR.of_eq (by rw[aes bpw];rfl))⟩,tt⟩,uu⟩
   refine w_4 ?_;refine qcx b72 (c49 ((((x.rows.getD i default).getD k default).toNat:Nat):Int) bpw) ?_;refine m9 7 ?_;refine rz9 8 true ?_;refine w_9 ?_;refine lpz (k+1) ⟨tt,⟨u9,⟨_,rfl,(apj (fun h=>h) (by first|(intro j hj;rw[aun bpw];revert j;exact lt3 (CoP.refl _) (CoP.refl _) (CoP.refl _))|(intro j hj;rw[aun bpw,aes bpw];revert j;exact lt3 (CoP.refl _) (CoP.refl _) (CoP.refl _))))⟩,uu⟩⟩ ?_;show k+1<=_;omega
  obtain rfl:k=n:=by omega
  refine dz ?_;refine j2 6 1 rfl rfl rfl rfl rfl ?_;refine w_4 ?_;refine m9 9 ?_;refine rz9 10 true ?_;refine w_8 ?_;refine lpz (i+1) ⟨tt,⟨u9,⟨_,rfl,(apj (fun h=>h) (by intro j hj;rw[b85 bpw];revert j;exact lt2 (CoP.refl _) (CoP.sl auf (.inl rfl) (fun h=>h) (fun _ _ _ _=>CoP.refl _))))⟩,uu⟩⟩ ?_;show i+1<=_;omega
 obtain rfl:i=x.rows.length:=by omega
 refine v_6 ?_;exact⟨CoC.agg ⟨CoP.refl _,CoP.refl _,CoP.sl alp (.inl rfl) (fun h=>h) (fun _ _ _ _=>CoP.refl _),trivial⟩,trivial⟩
end
section
open Go.Proofs
abbrev pW(n:Nat):PC:=.agg [.raw (.int .u64 0),u6 n]
abbrev pRt(a b:Int):PC:=.agg [.raw (.int .i64 a), .raw (.int .i64 b)]
def pu{x:Int}{n:Nat}(h:x=(n:Int)):CoP (.raw (.int .u64 x)) (u6 n):=by rw[h];exact CoP.refl _
end
section
open Go.Proofs
def rmQ(g:List (List Nat))(j q:Nat):List Nat:=if j=gb g then rmJ g j else rmJ g j++(g.getD j default).take q
abbrev idT(t:Tbl)(i:Nat):Int:=(t.rows.getD i default).id
def bk5(t:Tbl)(A:List (List (List Nat)))(k:Nat):List Int:=(rmT A k).map (idT t)
def bk8(t:Tbl)(A:List (List (List Nat)))(k j:Nat):List Int:=(rmT A k++rmJ (A.getD k default) j).map (idT t)
def blu(t:Tbl)(A:List (List (List Nat)))(k j q:Nat):List Int:=(rmT A k++rmQ (A.getD k default) j q).map (idT t)
variable {t:Tbl}{A:List (List (List Nat))}{k j q:Nat}
end
section
open Go.Proofs
def bgm(ids:List Int)(r:Row):Bool:=decide (r.id∈ids)
def kpI(t:Tbl)(ids:List Int):Tbl:={ t with rows:=t.rows.filter (bgm ids) }
def nIn(g:List Int)(r:Row):Bool:=!decide (r.id∈g)
def bjl(t:Tbl)(g:List Int)(i:Nat):List Int:=((t.rows.take i).filter (nIn g)).map (·.id)
end
section
open Go.Proofs
def bkj(x y:Nat):Int:=if x<y then -1 else if y<x then 1 else 0
end
section
open Go.RowKit
abbrev gq:=Value->(Nat->Prop)->(Nat->Option Obj)->Prop
noncomputable def rst (bk:Nat->Prop) (h:Nat->Option Obj):Nat->Option Obj:=fun b=>by classical exact if bk b then h b else none
section
variable {bk:Nat->Prop}{h:Nat->Option Obj}
def ac9{b:Nat}(hb:bk b):rst bk h b=h b:=by unfold rst;exact if_pos hb
theorem act {bk1:Nat->Prop} {w:World} (hs:∀b,bk1 b->bk b):rst bk1 (onB bk w)=onB bk1 w:=by
 funext b;by_cases hb:bk1 b
 · rw[ac9 hb,a23 hb,a23 (hs b hb)]
 unfold rst onB
 grind
theorem a0z {bk1:Nat->Prop} (hs:∀b,bk1 b->bk b):rst bk1 (rst bk h)=rst bk1 h:=by
 funext b;by_cases hb:bk1 b
 · rw[ac9 hb,ac9 hb,ac9 (hs b hb)]
 unfold rst
 grind
def Bag:List (Value×gq)->(Nat->Prop)->(Nat->Option Obj)->Prop
 | [],bk,_=>∀b,¬bk b
 |(v,R)::L,bk,h=>v.oneCell'=true/\∃bk1 bk2:Nat->Prop,(∀b,bk b<->bk1 b\/bk2 b)/\(∀b,bk1 b->bk2 b->False)/\R v bk1 (rst bk1 h)/\Bag L bk2 (rst bk2 h)
def oi(v:Value)(R:gq):gq:=fun u bk h=>u=v/\R u bk h
def ic(L:List (Value×gq)):gq:=fun _ bk h=>Bag L bk h
theorem Bag.swap {x y:Value×gq} {L:List (Value×gq)} (hb:Bag (x::y::L) bk h):Bag (y::x::L) bk h:=by
 obtain⟨v,R⟩:=x;obtain⟨v2,R2⟩:=y;obtain⟨h1,b1,b2,i1,d1,r1,h2,b3,b4,i2,d2,r2,hL⟩:=hb;have s3:∀b,b3 b->b2 b:=fun b hb=>(i2 b).2 (.inl hb);have s4:∀b,b4 b->b2 b:=fun b hb=>(i2 b).2 (.inr hb);rw[a0z s3]at r2;rw[a0z s4]at hL;refine⟨h2,b3,fun b=>b1 b\/b4 b,fun b=>?_,fun b hb3 hb=>?_,r2,h1,b1,b4,fun b=>Iff.rfl,fun b hb1 hb4=>d1 b hb1 (s4 b hb4), ?_, ?_⟩
 · grind
 · grind
 · rw[a0z fun b hb=>.inl hb];exact r1
 rw[a0z fun b hb=>.inr hb];exact hL
theorem Bag.snoc {x:Value×gq}:∀{L:List (Value×gq)} {bk:Nat->Prop} {h:Nat->Option Obj},Bag (x::L) bk h->Bag (L++[x]) bk h
 | [],_,_,hb=>hb
 | y::L,bk,h,hb=>by
  obtain⟨v,R⟩:=y;obtain⟨h1,b1,b2,i1,d1,r1,hL⟩:=hb.swap;exact⟨h1,b1,b2,i1,d1,r1,Bag.snoc hL⟩
end
section
variable {w0:World}{nt:Nat}{c:Ctx}{s:S}{a:Act}{w:World}
section
variable {e1:TypeId}{id n1 s1:Nat}
theorem ag.bagIn (h:ag w0 nt c s a w) {idb s2 n2:Nat} {e2:TypeId} {v:Value} {R:gq} {L:List (Value×gq)} (ho:s.o id=some (.opq s1 e1 n1 (oi v R))) (hob:s.o idb=some (.opq s2 e2 n2 (ic L))) (hne:idb≠id) (hid:id<1000) (hidb:idb<1000):
 ∃c',c'.old=c.old/\ag w0 nt c' ⟨s.t,fun q=>if q=id then none else if q=idb then some (.opq s2 e2 n2 (ic (L++[(v,R)])))else s.o q⟩ a w:=by
 obtain⟨a1,a2,a3,a4⟩:=h.objs id _ ho;obtain⟨b1,b2,b3⟩:=h.objs idb _ hob
 let bk:Nat->Prop:=fun b=>c.blk id b\/c.blk idb b
 let o':ap:=fun q=>if q=id then none else if q=idb then some (.opq s2 e2 n2 (ic (L++[(v,R)])))else s.o q
 have ob1:o' id=none:=if_pos rfl;have ob2:o' idb=some (.opq s2 e2 n2 (ic (L++[(v,R)]))):=(if_neg hne).trans (if_pos rfl);refine⟨{ old:=c.old,imm:=c.imm,tab:=c.tab,own:=c.own,blk:=fun q=>if q=idb then bk else c.blk q,rows:=c.rows },rfl,h.redo (fun q=>q=id\/q=idb) _ _ _ o' ?_ ?_ ?_ ?_ ?_ ?_⟩
 · grind
 · grind
 · rintro q (rfl|rfl)
   · exact .inr (.inl ob1)
   exact .inr (.inr (.inr ⟨_,_,s2,e2,n2,n2,hob,rfl,ob2,rfl,bm1 _,fun _=>rfl,fun _ _ _ _ _ _ _ hb=>by cases hb⟩))
 · rintro q ob (rfl|rfl) hq
   · grind
   rw[ob2]at hq;cases hq;have hbk:(fun q'=>if q'=q then bk else c.blk q') q=bk:=if_pos rfl;refine⟨?_,b2, ?_⟩
   · grind
   show ic _ _ ((fun q'=>if q'=q then bk else c.blk q') q) (onB ((fun q'=>if q'=q then bk else c.blk q') q) w);rw[hbk];refine Bag.snoc ⟨by rw[<- a3];exact a2,c.blk id,c.blk q,fun b=>Iff.rfl,fun b hb1 hb2=>hne (h.inj _ _ _ _ b hob ho hb2 hb1), ?_, ?_⟩
   · rw[act fun b hb=>.inl hb,<- a3];exact a4
   rw[act fun b hb=>.inr hb];exact b3
 · rintro q ob b (rfl|rfl) hq hb
   · grind
   grind
 grind
theorem ag.bagOut (h:ag w0 nt c s a w) {idb s2 n2:Nat} {e2:TypeId} (s1 n1:Nat) (e1:TypeId) {v:Value} {R:gq} {L:List (Value×gq)} (hob:s.o idb=some (.opq s2 e2 n2 (ic ((v,R)::L)))) (hidb:idb<1000) (hm:NM s id) (hn:s.o id=none):
 ∃c',c'.old=c.old/\ag w0 nt c' ⟨s.t,fun q=>if q=id then some (.opq s1 e1 n1 (oi v R))else if q=idb then some (.opq s2 e2 n2 (ic L))else s.o q⟩ a w:=by
 have hne:idb≠id:=by rintro rfl;rw[hob]at hn;cases hn
 obtain⟨b1,b2,hv1,k1,k2,ki,kd,kR,kL⟩:=h.objs idb _ hob;have s1':∀b,k1 b->c.blk idb b:=fun b hb=>(ki b).2 (.inl hb);have s2':∀b,k2 b->c.blk idb b:=fun b hb=>(ki b).2 (.inr hb);rw[act s1']at kR;rw[act s2']at kL
 let o':ap:=fun q=>if q=id then some (.opq s1 e1 n1 (oi v R))else if q=idb then some (.opq s2 e2 n2 (ic L))else s.o q
 have ob1:o' id=some (.opq s1 e1 n1 (oi v R)):=if_pos rfl;have ob2:o' idb=some (.opq s2 e2 n2 (ic L)):=(if_neg hne).trans (if_pos rfl)
 let blk':Nat->Nat->Prop:=fun q=>if q=id then k1 else if q=idb then k2 else c.blk q
 let own':Nat->Value:=fun q=>if q=id then v else c.own q
 have bk1:blk' id=k1:=if_pos rfl;have bk2:blk' idb=k2:=(if_neg hne).trans (if_pos rfl);have ow1:own' id=v:=if_pos rfl;have ow2:own' idb=c.own idb:=if_neg hne;refine⟨{ old:=c.old,imm:=c.imm,tab:=c.tab,own:=own',blk:=blk',rows:=c.rows },rfl,h.redo (fun q=>q=id\/q=idb) own' blk' c.rows o' ?_ ?_ ?_ ?_ ?_ ?_⟩
 · rintro q (rfl|rfl)
   · exact hm.2.2
   exact hidb
 · grind
 · rintro q (rfl|rfl)
   · exact .inl ⟨hm.1,fun id0 ob _ h0=>hm.2.1 id0 ob h0⟩
   exact .inr (.inr (.inr ⟨_,_,s2,e2,n2,n2,hob,rfl,ob2,rfl,bm1 _,fun _=>ow2,fun _ _ _ _ _ _ _ hb=>by cases hb⟩))
 · rintro q ob (rfl|rfl) hq
   · rw [ob1]at hq
     cases hq;refine⟨?_, ?_, ?_⟩
     · grind
     · grind
     show oi v R (own' q) (blk' q) (onB (blk' q) w);rw[bk1,ow1];exact⟨rfl,kR⟩
   rw[ob2]at hq;cases hq;refine⟨?_, ?_, ?_⟩
   · grind
   · grind
   show ic L (own' q) (blk' q) (onB (blk' q) w);rw[bk2];exact kL
 · grind
 grind
theorem ag.pin (h:ag w0 nt c s a w) {R:gq} (ho:s.o id=some (.opq s1 e1 n1 R)) (hid:id<1000):
 (c.own id).oneCell'=true/\ag w0 nt c ⟨s.t,fun q=>if q=id then some (.opq s1 e1 n1 (oi (c.own id) R))else s.o q⟩ a w:=by
 obtain⟨a1,a2,a3⟩:=h.objs id _ ho;have ob1:(fun q=>if q=id then some (aa.opq s1 e1 n1 (oi (c.own id) R))else s.o q) id=some (.opq s1 e1 n1 (oi (c.own id) R)):=if_pos rfl;refine⟨a2,h.redo (fun q=>q=id) c.own c.blk c.rows _ ?_ ?_ ?_ ?_ ?_ ?_⟩
 · grind
 · grind
 · rintro q rfl
   exact .inr (.inr (.inr ⟨_,_,s1,e1,n1,n1,ho,rfl,ob1,rfl,bm1 _,fun _=>rfl,fun _ _ _ _ _ _ _ hb=>by cases hb⟩))
 · rintro q ob rfl hq
   rw[if_pos rfl]at hq;cases hq;exact⟨a1,a2,rfl,a3⟩
 · grind
 grind
def JSl (s:Nat) (e:TypeId) (m:Nat) (g:Nat->Nat->PV):gq:=fun v bk h=>(m=0/\(∃a,v=.slice a 0 0)/\∀b,¬bk b) \/
 ∃b cap cur,v=.slice (some ⟨b,0,none⟩) m cap/\0<cap/\(∀b',bk b'<->b'=b)/\h b=some (.cells cur e (0,0))/\m<=cap/\cap<=maxLen/\cur.size=cap*s/\∀i j,i<m->j<s->∃x,cur[i*s+j]? = some x/\aq (fun _=>none) (g i j) x
def aef:PV->Bool
 | .raw _=>true
 | .any=>true
 |_=>false
def alv {m m':Imm} {x:PV} {u:Value} (h:aef x=true) (hr:aq m x u):aq m' x u:=by
 cases x<;>first|exact hr|cases h
theorem ag.arrOpq (h:ag w0 nt c s a w) {f:Nat->Nat->PV} (ho:s.o id=some (.arr true s1 e1 n1 f)) (hf:∀i j,i<n1->j<s1->aef (f i j)=true) (hid:id<1000):
 ∃c',c'.old=c.old/\ag w0 nt c' ⟨s.t,fun q=>if q=id then some (.opq s1 e1 n1 (JSl s1 e1 n1 f))else s.o q⟩ a w:=by
 obtain⟨a1,a2,a3⟩:=h.objs id _ ho
 have key:∃bk:Nat->Prop,(∀b,bk b->c.blk id b)/\(∀b,bk b->0<=b/\∃x,w.heap[b]? = some x/\so x=true)/\(c.own id).oneCell'=true/\JSl s1 e1 n1 f (c.own id) bk (onB bk w):=by
  rcases a3 with⟨hblk,xs,hrow,hcell⟩|⟨hz,hb,hsl⟩
  · rcases fh hrow with⟨hm0,a0,hv⟩|⟨b,cap,hv,hcb⟩
    · exact⟨fun _=>False,fun _ hb=>hb.elim,fun _ hb=>hb.elim,by rw[hv];rfl, .inl ⟨hm0,⟨a0,hv⟩,fun _ hb=>hb⟩⟩
    have hcap:0<cap:=by
     rcases bnp cap with h0|h0
     · subst h0;rw[hv]at hcb;simp[au]at hcb
     exact h0
    rcases hrow.2 with⟨hv',_⟩|⟨b',cap',cur,hv',_,hh,q1,q2,q3,q4⟩
    · grind
    rw[hv]at hv';simp only[Value.slice.injEq,bly,Addr.mk.injEq,and_true,true_and]at hv';obtain⟨rfl,rfl⟩:=hv';refine⟨fun b''=>b''=b,fun b'' hb=>by subst hb;rw[hblk,hv];rfl,fun b'' hb=>by subst hb;exact⟨bm3 _,_,hh,rfl⟩,by rw[hv];rfl, .inr ⟨b,cap,cur,hv,hcap,fun _=>Iff.rfl,by rw[a23 (bk:=fun b''=>b''=b) rfl];exact hh,q1,q2,q3,fun i j hi hj=>?_⟩⟩;obtain⟨x,hx,hr⟩:=hcell i j hi hj
    have hlt:i*s1+j<n1*s1:=by
     grind
    rw[<- q4,bnb,if_pos hlt,bpa]at hx;exact⟨x,hx,alv (hf i j hi hj) hr⟩
  obtain rfl:n1=0:=by rcases hz with hz|hz;cases hz;exact hz
  obtain⟨a0,cap,e1,_,_,e2,_⟩:=hsl;obtain rfl:=e2 rfl;exact⟨fun _=>False,fun _ hb=>hb.elim,fun _ hb=>hb.elim,by rw[e1];rfl, .inl ⟨rfl,⟨a0,e1⟩,fun _ hb=>hb⟩⟩
 obtain⟨bk,k1,k2,k3,k4⟩:=key;have ob1:(fun q=>if q=id then some (aa.opq s1 e1 n1 (JSl s1 e1 n1 f))else s.o q) id=some (.opq s1 e1 n1 (JSl s1 e1 n1 f)):=if_pos rfl;refine⟨{ old:=c.old,imm:=c.imm,tab:=c.tab,own:=c.own,blk:=fun q=>if q=id then bk else c.blk q,rows:=c.rows },rfl,h.redo (fun q=>q=id) _ _ _ _ ?_ ?_ ?_ ?_ ?_ ?_⟩
 · grind
 · grind
 · rintro q rfl
   exact .inr (.inr (.inr ⟨_,_,s1,e1,n1,n1,ho,rfl,ob1,rfl,bm1 _,fun _=>rfl,fun _ _ _ _ _ _ _ hb=>by cases hb⟩))
 · rintro q ob rfl hq
   rw[if_pos rfl]at hq;cases hq;have hbk:(fun q'=>if q'=q then bk else c.blk q') q=bk:=if_pos rfl;refine⟨?_,k3, ?_⟩
   · grind
   grind
 · grind
 grind
theorem ag.opqArr(h:ag w0 nt c s a w){f:Nat->Nat->PV}(ho:s.o id=some (.opq s1 e1 n1 (JSl s1 e1 n1 f)))(hs:0<s1)(hmax:n1<=maxLen)(hid:id<1000)(hf:∀i j,i<n1->j<s1->aef (f i j)=true):
 ag w0 nt c ⟨s.t,fun q=>if q=id then some (.arr true s1 e1 n1 f)else s.o q⟩ a w:=by
 obtain⟨a1,a2,a3⟩:=h.objs id _ ho;have ob1:(fun q=>if q=id then some (aa.arr true s1 e1 n1 f)else s.o q) id=some (.arr true s1 e1 n1 f):=if_pos rfl;refine h.redo (fun q=>q=id) c.own c.blk c.rows _ ?_ ?_ ?_ ?_ ?_ ?_
 · grind
 · grind
 · rintro q rfl
   exact .inr (.inr (.inr ⟨_,_,s1,e1,n1,n1,ho,rfl,ob1,rfl,bm1 _,fun _=>rfl,fun _ _ _ _ _ _ _ hb=>by cases hb⟩))
 · rintro q ob rfl hq
   rw[if_pos rfl]at hq;cases hq;refine⟨hs,hmax, ?_⟩
   rcases a3 with⟨h0,⟨a0,hv⟩,hb⟩|⟨b,cap,cur,hv,h0,hbk,hh,h3,h4,h5,h6⟩
   · refine .inr ⟨.inr h0, ?_, ?_⟩
     · show c.blk q=noB
       funext b;exact propext ⟨fun hx=>(hb b hx).elim,fun hx=>hx.elim⟩
     show aq c.imm _ (c.own q);rw[hv];subst h0;exact⟨a0,0,rfl,bm1 _,bm3 _,fun _=>rfl,fun hx=>absurd hx (boj _)⟩
   rw[a23 ((hbk b).2 rfl)]at hh;refine .inl ⟨?_,cur.toList.take (n1*s1), ?_,fun i j hi hj=>?_⟩
   · show c.blk q=ep (c.own q)
     funext b';rw[hv];exact propext ((hbk b').trans (by simp[ep,cg,eq_comm]))
   · show w.ownsRow 0 e1 s1 (c.own q) n1 _
     refine⟨?_, .inr ⟨b,cap,cur,hv,bm3 _,hh,h3,h4,h5,rfl⟩⟩;simp_all
   obtain⟨x,hx,hr⟩:=h6 i j hi hj
   have hlt:i*s1+j<n1*s1:=by
    have:(i+1)*s1<=n1*s1:=bmb _ bpw
    grind
   exact⟨x,by rw[bnb,if_pos hlt,bpa];exact hx,alv (hf i j hi hj) hr⟩
 · grind
 grind
def JP (s:Nat) (e:TypeId) (n:Nat) (P:(Nat->Nat->PV)->List (Value×gq)->Prop):gq:=fun v bk h=>∃f L,P f L/\(∀i j,i<n->j<s->aef (f i j)=true) /\
 ∃bk1 bk2:Nat->Prop,(∀b,bk b<->bk1 b\/bk2 b)/\(∀b,bk1 b->bk2 b->False)/\JSl s e n f v bk1 (rst bk1 h)/\Bag L bk2 (rst bk2 h)
theorem ag.bagNew (h:ag w0 nt c s a w) {idb:Nat} (hm:NM s idb) (hn:s.o idb=none):∃c',c'.old=c.old/\ag w0 nt c' ⟨s.t,fun q=>if q=idb then some (.opq 0 0 0 (ic []))else s.o q⟩ a w:=by
 refine⟨{ old:=c.old,imm:=c.imm,tab:=c.tab,own:=fun q=>if q=idb then .bool false else c.own q,blk:=fun q=>if q=idb then noB else c.blk q,rows:=c.rows },rfl,h.redo (fun q=>q=idb) _ _ _ _ ?_ ?_ ?_ ?_ ?_ ?_⟩
 · rintro q rfl;exact hm.2.2
 · grind
 · rintro q rfl
   exact .inl ⟨hm.1,fun id0 ob _ h0=>hm.2.1 id0 ob h0⟩
 · rintro q ob rfl hq
   rw[if_pos rfl]at hq;cases hq;have hbk:(fun q'=>if q'=q then noB else c.blk q') q=noB:=if_pos rfl;have how:(fun q'=>if q'=q then Value.bool false else c.own q') q=.bool false:=if_pos rfl;refine⟨?_, ?_, ?_⟩
   · show ∀b,(fun q'=>if q'=q then noB else c.blk q') q b->_
     rw[hbk];exact fun b hb=>hb.elim
   · show ((fun q'=>if q'=q then Value.bool false else c.own q') q).oneCell'=true
     rw[how];rfl
   show ic [] _ ((fun q'=>if q'=q then noB else c.blk q') q) _;rw[hbk];exact fun b hb=>hb
 · rintro q ob b rfl hq hb
   rw[if_pos rfl]at hb;exact hb.elim
 grind
end
end
def v8(o:ap)(x y:HV):Prop:=x=y\/∃id s n e v R,o id=some (.opq s e n (oi v R))/\((x=.ref id n/\y=.p (.raw v))\/(x=.p (.raw v)/\y=.ref id n))
def a7i (o:ap):List HV->List HV->Prop
 | [],[]=>True
 |x::xs,y::ys=>v8 o x y/\a7i o xs ys
 |_,_=>False
def bew (o:ap):HC->HC->Prop
 | .one x, .one y=>v8 o x y
 | .agg l, .agg m=>a7i o l m
 |_,_=>False
def ar2 (o:ap):HR->HR->Prop
 | .v x, .v y=>bew o x y
 |_,_=>False
def v8.to{o:ap}{id s n:Nat}{e:TypeId}{v:Value}{R:gq}(h:o id=some (.opq s e n (oi v R))):v8 o (.ref id n) (.p (.raw v)):=.inr ⟨id,s,n,e,v,R,h, .inl ⟨rfl,rfl⟩⟩
def v8.from{o:ap}{id s n:Nat}{e:TypeId}{v:Value}{R:gq}(h:o id=some (.opq s e n (oi v R))):v8 o (.p (.raw v)) (.ref id n):=.inr ⟨id,s,n,e,v,R,h, .inr ⟨rfl,rfl⟩⟩
section
variable {w0:World}{nt:Nat}{c:Ctx}{s:S}{a:Act}{w:World}
theorem v8.rep (h:ag w0 nt c s a w) {x y:HV} {u:Value} (hs:v8 s.o x y) (hr:b9 c s.o x u):b9 c s.o y u:=by
 rcases hs with rfl|⟨id,s1,n,e,v,R,ho,⟨rfl,rfl⟩|⟨rfl,rfl⟩⟩
 · exact hr
 · obtain ⟨_,h1,h2,_⟩:=h.objs id _ ho
   obtain⟨h3,_,h4⟩:=hr;have h5:=(h4 _ _ _ _ ho rfl).2 rfl;exact⟨h5.trans h2,by rw[<- h2];exact h1⟩
 obtain⟨_,h1,h2,_⟩:=h.objs id _ ho;obtain⟨h3,_⟩:=hr;refine⟨by rw[h3,<- h2];exact h1,fun l hl=>(by rw[ho]at hl;cases hl),fun ob2 s2 e2 n2 ho2 hd2=>?_⟩;rw[ho]at ho2;cases ho2;simp only[aa.dim,bly,bm4]at hd2
 grind
def a7i.rep (h:ag w0 nt c s a w):∀{x y:List HV} {u:List Value},a7i s.o x y->b7 c s.o x u->b7 c s.o y u
 | [],[],_,_,hr=>hr
 |_::_,_::_,_::_,hs,hr=>⟨hs.1.rep h hr.1,a7i.rep h hs.2 hr.2⟩
 | [],_::_,_,hs,_=>hs.elim
 |_::_,[],_,hs,_=>hs.elim
 |_::_,_::_,[],_,hr=>hr.elim
def ar2.rep (h:ag w0 nt c s a w) {x y:HR} {u:Value} (hs:ar2 s.o x y) (hr:ak c s.o x u):ak c s.o y u:=by
 match x,y,hs with
 | .v (.one x), .v (.one y),hs=>exact v8.rep h hs hr
 | .v (.agg l), .v (.agg m),hs =>
  obtain⟨us,e,hl⟩:=hr;exact⟨us,e,a7i.rep h hs hl⟩
end
section
variable {w0:World}{nt:Nat}{c:Ctx}{s:S}{a:Act}{w:World}
end
section
variable {ro:Option Nat}{P:Program}{nt:Nat}{co:Code}{st:HSt}{Q:HSt->Prop}
def a7l (d:Nat) {x:HR} (y:HR) (hx:b6 st.t d=some x) (hs:ar2 st.den.o x y) (h:HE nt ⟨(d,some y)::st.t,st.o⟩ Q):HE nt st Q :=
 ahf st d y (fun w0 m0 a w hr0=>by
  obtain⟨cc,hold,hrr⟩:=hr0
  exact⟨cc,hold,hrr,hs.rep hrr (hrr.tmps d x hx)⟩) h
def avh (idb:Nat) (h:HE nt ⟨st.t,(idb,some (.opq 0 0 0 (ic [])))::st.o⟩ Q) (hn:jz idb st=true:=by exact rfl):HE nt st Q:=fun w0 m0 a w hr0=>by
 obtain⟨cc,hold,hrr⟩:=hr0;obtain⟨hm,hn⟩:=ed hn;obtain⟨c',q1,q2⟩:=hrr.bagNew hm hn;refine h w0 m0 a w ⟨c',q1.trans hold, ?_⟩;rw[om (o':=fun q=>if q=idb then some (.opq 0 0 0 (ic []))else st.den.o q) (fun q=>by simp only[az];rfl)];exact q2
section
variable {e1:TypeId}{n1 s1:Nat}
def akj (id idb:Nat) {s2 n2:Nat} {e2:TypeId} {v:Value} {R:gq} {L:List (Value×gq)} (ho:b6 st.o id=some (.opq s1 e1 n1 (oi v R))) (hob:b6 st.o idb=some (.opq s2 e2 n2 (ic L))) (h:HE nt ⟨st.t,(id,none)::(idb,some (.opq s2 e2 n2 (ic (L++[(v,R)]))))::st.o⟩ Q) (hid:(Nat.blt id 1000&&Nat.blt idb 1000&&!Nat.beq idb id)=true:=by exact rfl):HE nt st Q:=fun w0 m0 a w hr0=>by
 obtain⟨cc,hold,hrr⟩:=hr0;simp only[bm8,bob,bn8]at hid;obtain⟨c',q1,q2⟩:=hrr.bagIn ho hob (fun e=>by subst e;simp at hid) hid.1.1 hid.1.2;refine h w0 m0 a w ⟨c',q1.trans hold, ?_⟩;rw[om (o':=fun q=>if q=id then none else if q=idb then some (.opq s2 e2 n2 (ic (L++[(v,R)])))else st.den.o q) (fun q=>by simp only[az];rfl)];exact q2
def agj (id idb s1 n1:Nat) (e1:TypeId) {s2 n2:Nat} {e2:TypeId} {v:Value} {R:gq} {L:List (Value×gq)} (hob:b6 st.o idb=some (.opq s2 e2 n2 (ic ((v,R)::L))))
 (h:HE nt ⟨st.t,(id,some (.opq s1 e1 n1 (oi v R)))::(idb,some (.opq s2 e2 n2 (ic L)))::st.o⟩ Q) (hid:Nat.blt idb 1000=true:=by exact rfl) (hn:jz id st=true:=by exact rfl):HE nt st Q:=fun w0 m0 a w hr0=>by
 obtain⟨cc,hold,hrr⟩:=hr0;simp only[bob]at hid;obtain⟨hm,hn⟩:=ed hn;obtain⟨c',q1,q2⟩:=hrr.bagOut s1 n1 e1 hob hid hm hn;refine h w0 m0 a w ⟨c',q1.trans hold, ?_⟩;rw[om (o':=fun q=>if q=id then some (.opq s1 e1 n1 (oi v R))else if q=idb then some (.opq s2 e2 n2 (ic L))else st.den.o q) (fun q=>by simp only[az];rfl)];exact q2
def aux (id:Nat) {R:gq} (ho:b6 st.o id=some (.opq s1 e1 n1 R)) (h:∀v,v.oneCell'=true->HE nt ⟨st.t,(id,some (.opq s1 e1 n1 (oi v R)))::st.o⟩ Q) (hid:Nat.blt id 1000=true:=by exact rfl):HE nt st Q:=fun w0 m0 a w hr0=>by
 obtain⟨cc,hold,hrr⟩:=hr0;simp only[bob]at hid;obtain⟨q1,q2⟩:=hrr.pin ho hid;refine h (cc.own id) q1 w0 m0 a w ⟨cc,hold, ?_⟩;rw[om (o':=fun q=>if q=id then some (.opq s1 e1 n1 (oi (cc.own id) R))else st.den.o q) (fun q=>by simp only[az];rfl)];exact q2
def afw (id:Nat) {f:Nat->Nat->PV} (ho:b6 st.o id=some (.arr true s1 e1 n1 f)) (hf:∀i j,i<n1->j<s1->aef (f i j)=true) (h:HE nt ⟨st.t,(id,some (.opq s1 e1 n1 (JSl s1 e1 n1 f)))::st.o⟩ Q) (hid:Nat.blt id 1000=true:=by exact rfl):HE nt st Q:=fun w0 m0 a w hr0=>by
 obtain⟨cc,hold,hrr⟩:=hr0;simp only[bob]at hid;obtain⟨c',q1,q2⟩:=hrr.arrOpq ho hf hid;refine h w0 m0 a w ⟨c',q1.trans hold, ?_⟩;rw[om (o':=fun q=>if q=id then some (.opq s1 e1 n1 (JSl s1 e1 n1 f))else st.den.o q) (fun q=>by simp only[az];rfl)];exact q2
def afo (id:Nat) {f:Nat->Nat->PV} (ho:b6 st.o id=some (.opq s1 e1 n1 (JSl s1 e1 n1 f))) (hs:0<s1) (hmax:n1<=maxLen) (hf:∀i j,i<n1->j<s1->aef (f i j)=true) (h:HE nt ⟨st.t,(id,some (.arr true s1 e1 n1 f))::st.o⟩ Q) (hid:Nat.blt id 1000=true:=by exact rfl):HE nt st Q:=fun w0 m0 a w hr0=>by
 obtain⟨cc,hold,hrr⟩:=hr0;simp only[bob]at hid;have q2:=hrr.opqArr ho hs hmax hid hf;refine h w0 m0 a w ⟨cc,hold, ?_⟩;rw[om (o':=fun q=>if q=id then some (.arr true s1 e1 n1 f)else st.den.o q) (fun q=>by simp only[az];rfl)];exact q2
end
end
theorem Bag.mem {v:Value} {R:gq}:∀{L:List (Value×gq)} {bk:Nat->Prop} {h:Nat->Option Obj},Bag L bk h->(v,R)∈L->∃bk1:Nat->Prop,(∀b,bk1 b->bk b)/\R v bk1 (rst bk1 h)
 | [],_,_,_,hm=>by cases hm
 | (v',R')::L,bk,h,hb,hm=>by
  obtain⟨_,b1,b2,hi,_,hR,hL⟩:=hb
  rcases bm9.1 hm with e|hm
  · grind
  obtain⟨b3,q1,q2⟩:=Bag.mem hL hm;refine⟨b3,fun b hx=>(hi b).2 (.inr (q1 b hx)), ?_⟩;rw[a0z q1]at q2;exact q2
theorem JSl.rep {s m:Nat} {e:TypeId} {g:Nat->Nat->PV} {v:Value} {bk:Nat->Prop} {h:Nat->Option Obj} {im:Imm} (hj:JSl s e m g v bk h) (hi:∀b x,bk b->h b=some x->im b=some x):aq im (.sl m s false g) v:=by
 rcases hj with⟨h0,⟨a,hv⟩,_⟩|⟨b,cap,cur,hv,h0,hbk,hh,h3,h4,h5,h6⟩
 · subst h0
   exact⟨a,0,hv,bm1 _,bm3 _,(fun hx=>by cases hx),fun hx=>absurd hx (boj _)⟩
 refine⟨some ⟨b,0,none⟩,cap,hv,h3,h4,(fun hx=>by cases hx),fun _=>⟨b,0,rfl,fun i j hi' hj'=>?_⟩⟩;obtain⟨x,hx,hr⟩:=h6 i j hi' hj';refine⟨x, ?_,aq.mono (fun b x hb=>by cases hb) hr⟩;unfold gw
 grind
section
variable {w0:World}{nt:Nat}{c:Ctx}{s:S}{a:Act}{w:World}
end
section
variable {ro:Option Nat}{P:Program}{nt:Nat}{co:Code}{st:HSt}{Q:HSt->Prop}
end
end
section
open Go.RowKit
def qq{nt:Nat}{st:HSt}{Q:HSt->Prop}(x:Nat)(ob':aa){ob:aa}(ho:b6 st.o x=some ob)(hc:CoO ob ob')(h:HE nt ⟨st.t,(x,some ob')::st.o⟩ Q):HE nt st Q:=fun w0 m0 a w hr=>by
 obtain⟨cc,hold,hrr⟩:=hr;refine h w0 m0 a w ⟨cc,hold,hrr.relax _ (fun d y hy=>⟨y,hy,CoR.refl _⟩) fun id ob2 ho2=>?_⟩;simp only[HSt.den,az]at ho2;by_cases hk:id=x
 · subst hk
   rw[if_pos rfl]at ho2;simp only[bly]at ho2;subst ho2;exact⟨ob,ho,hc⟩
 rw[if_neg hk]at ho2;exact⟨ob2,ho2,CoO.refl _⟩
def a17 {nt:Nat} {st:HSt} {Q:HSt->Prop} (d:Nat) (y:HR) {x:HR} (hx:b6 st.t d=some x) (hc:CoR x y) (h:HE nt ⟨(d,some y)::st.t,st.o⟩ Q):HE nt st Q :=
 ahf st d y (fun w0 m0 a w hr=>by
  obtain⟨cc,hold,hrr⟩:=hr
  exact⟨cc,hold,hrr,ak.co hc (hrr.tmps d x hx)⟩) h
def ao5:CoR (.v (.one (.p (.raw (.slice none 0 0))))) (br (.sl 0 0 true fun _ _=>.any)):=by
 show CoP _ _;intro m u h;obtain⟨e,_⟩:=h;subst e;exact m7 m (.slice none 0 0) rfl
section
variable {v:Value}
def b35 (h:v.oneCell'=true):vHC v=.one (.p (.raw v)):=by
 cases v<;>first|rfl|(simp[Value.oneCell']at h)
variable {L':List (Value×gq)}
theorem Bag.perm {L:List (Value×gq)} (hp:L.Perm L'):∀{bk:Nat->Prop} {h:Nat->Option Obj},Bag L bk h->Bag L' bk h:=by
 induction hp with
 |nil=>exact fun hb=>hb
 | cons x _ ih =>
  intro bk h hb;obtain⟨v,R⟩:=x;obtain⟨h1,b1,b2,i1,d1,r1,hL⟩:=hb;exact⟨h1,b1,b2,i1,d1,r1,ih hL⟩
 |swap x y l=>exact fun hb=>hb.swap
 |trans _ _ ih1 ih2=>exact fun hb=>ih2 (ih1 hb)
def alj{L:List (Value×gq)}(hp:L.Perm L'):CoO (.opq 0 0 0 (ic L)) (.opq 0 0 0 (ic L')):=⟨rfl,rfl,rfl,fun v bk h hb=>Bag.perm hp hb⟩
def atw{s n:Nat}{e:TypeId}{R:gq}:CoO (.opq s e n (oi v R)) (.opq s e n R):=⟨rfl,rfl,rfl,fun u bk h hb=>hb.2⟩
abbrev BP:=List (AS×List Nat)
abbrev BG:=List (AS×List Nat×Value)
def lkP(s:AS)(H:BP):List Nat:=((H.find? fun h=>decide (h.1=s)).map (·.2)).getD []
def erP(s:AS)(H:BP):BP:=H.filter fun h=>!decide (h.1=s)
def upP(a:Nat)(H:BP)(s:AS):BP:=erP s H++[(s,lkP s H++[a])]
def bdJ(a:Nat)(l:List AS)(H:BP)(j:Nat):BP:=(l.take j).foldl (upP a) H
def bdT(q:List Int)(n a:Nat):BP:=(List.range a).foldl (fun H b=>bdJ b (mnL q n b) H (mnL q n b).length) []
def mkF(s:AS)(a:Nat):Fd:=⟨s,(1:AS)<<<a⟩
def bdX(x:BP×List Fd)(s:AS):BP×List Fd:=(erP s x.1,x.2++(lkP s x.1).map (mkF s))
def bdR(H:BP)(l:List AS)(i:Nat):BP×List Fd:=(l.take i).foldl bdX (H,[])
def bcc(q:List Int)(n:Nat):List Fd:=(bdR (bdT q n n) (ord (fmS q n n)) (ord (fmS q n n)).length).2
variable {a:Nat}{l:List AS}
def aki {j:Nat} {H:BP} (hj:j<l.length):bdJ a l H (j+1)=upP a (bdJ a l H j) (l.getD j default):=by
 unfold bdJ;rw[ax hj,bmo];rfl
def aze {q:List Int} {n:Nat}:bdT q n (a+1)=bdJ a (mnL q n a) (bdT q n a) (mnL q n a).length:=by
 unfold bdT;rw[bmk,bmo];rfl
def ui {H:BP} {i:Nat} (hi:i<l.length):bdR H l (i+1)=bdX (bdR H l i) (l.getD i default):=by
 unfold bdR;rw[ax hi,bmo];rfl
def aho {q:List Int} {n:Nat}:fmS q n (a+1)=fmS q n a++mnL q n a:=by
 unfold fmS;rw[bmk,bmo];rfl
def prG(G:BG):BP:=G.map fun g=>(g.1,g.2.1)
def erG(s:AS)(G:BG):BG:=G.filter fun g=>!decide (g.1=s)
def wl(G:BG):List (Value×gq):=G.map fun g=>(g.2.2,JSl 1 3 g.2.1.length (lf iC g.2.1))
variable {G:BG}{s:AS}
def asg:prG (erG s G)=erP s (prG G):=by
 unfold prG erG erP;rw[List.filter_map];rfl
def an0 (h:∀g∈G,g.1≠s):erG s G=G:=by
 unfold erG;refine List.filter_eq_self.2 fun g hg=>?_;simp[h g hg]
theorem b4v (h:∀g∈G,g.1≠s):lkP s (prG G)=[]:=by
 unfold lkP prG;rw[List.find?_eq_none.2 fun x hx=>?_]
 · rfl
 grind
theorem b4k {g:AS×List Nat×Value} (hn:(G.map (·.1)).Nodup) (hg:g∈G):G.Perm (g::erG g.1 G)/\lkP g.1 (prG G)=g.2.1:=by
 induction G with
 |nil=>cases hg
 | cons x G ih =>
  rw[bnr,List.nodup_cons]at hn;obtain⟨h1,h2⟩:=hn;by_cases e:x.1=g.1
  · have hx:g=x:=by
     grind
    subst hx;have hno:∀y∈G,y.1≠g.1:=fun y hy e2=>h1 (bml.2 ⟨y,hy,e2⟩);refine⟨?_, ?_⟩
    · unfold erG
      rw[bnv,if_neg bpz];rw[show G.filter (fun y=>!decide (y.1=g.1))=G from an0 hno]
    unfold lkP prG
    grind
  have hg2:g∈G:=by
   grind
  obtain⟨p1,p2⟩:=ih h2 hg2;refine⟨?_, ?_⟩
  · unfold erG
    rw[bnv,if_pos (by simp[e])];exact(p1.cons x).trans (List.Perm.swap _ _ _)
  unfold lkP prG at p2 ⊢
  grind
def awe (hn:l.Nodup) {i:Nat} (hi:i<l.length):¬l.getD i default∈l.take i:=by
 rw[al _ _ hi];intro hm;obtain⟨j,hj,e⟩:=bmj hm;rw[bmw]at hj;rw[List.getElem_take]at e;have:=(List.getElem_inj hn).1 e;omega
theorem ake {i:Nat} (hi:i<l.length) {x:AS} (hx:¬x∈l.take (i+1)):¬x∈l.take i/\x≠l.getD i default:=by
 rw[ax hi]at hx
 grind
def a7u {o:List Fd} {l:List Nat} {k:Nat} (hk:k<l.length):o++(l.take (k+1)).map (mkF s)=(o++(l.take k).map (mkF s))++[mkF s (l.getD k default)]:=by
 rw[ax hk,bn7,<- bn6];rfl
structure BIn (P:Program) (es:Array MapEntry) (clock:Nat) (G:BG) (K:AS->Prop) (B:Nat):Prop where
 mx:lb P 35 es clock
 to:∀e∈es.toList,∀s,e.key=mkS s->K s->∃g∈G,g.1=s/\e.val=g.2.2
 at_:∀g∈G,∃e∈es.toList,e.key=mkS g.1/\e.val=g.2.2
 nd:(G.map (·.1)).Nodup
 one:∀g∈G,g.2.2.oneCell'=true/\g.2.1.length<=B
 sz:es.size<=B
variable {B clock:Nat}{K:AS->Prop}{P:Program}
theorem BIn.nil:BIn P #[] clock [] K B:=⟨lb.nil,(fun e he=>by simp at he),(fun g hg=>by cases hg),List.nodup_nil,(fun g hg=>by cases hg),bm3 _⟩
variable {es:Array MapEntry}
theorem BIn.absent (h:BIn P es clock G K B) (hn:∀e∈es.toList,e.key≠mkS s):lkP s (prG G)=[]/\erG s G=G:=by
 have hno:∀g∈G,g.1≠s:=fun g hg e=>by
  obtain⟨x,hx,hk,_⟩:=h.at_ g hg
  grind
 exact⟨b4v hno,an0 hno⟩
theorem BIn.found (h:BIn P es clock G K B) {e:MapEntry} (he:e∈es.toList) (hk:e.key=mkS s) (hK:K s):
 ∃v,e.val=v/\vHC v=.one (.p (.raw v))/\(wl G).Perm ((v,JSl 1 3 (lkP s (prG G)).length (lf iC (lkP s (prG G))))::wl (erG s G))/\(lkP s (prG G)).length<=B:=by
 obtain⟨g,hg,rfl,hv⟩:=h.to e he s hk hK;obtain⟨p1,p2⟩:=b4k h.nd hg;refine⟨g.2.2,hv,b35 (h.one g hg).1, ?_,by rw[p2];exact(h.one g hg).2⟩;rw[p2];exact p1.map _
theorem BIn.take {K':AS->Prop} (h:BIn P es clock G K B) (hK:∀x,K' x->K x/\x≠s):BIn P es clock (erG s G) K' B:=by
 have hs:∀g∈erG s G,g∈G/\g.1≠s:=fun g hg=>by
  obtain⟨h1,h2⟩:=bnl.1 hg
  grind
 refine⟨h.mx,fun e he x hx hk=>?_,fun g hg=>h.at_ g (hs g hg).1, ?_,fun g hg=>h.one g (hs g hg).1,h.sz⟩
 · obtain ⟨g,hg,e1,e2⟩:=h.to e he x hx (hK x hk).1
   refine⟨g,bnl.2 ⟨hg, ?_⟩,e1,e2⟩
   grind
 exact h.nd.sublist (List.filter_sublist.map _)
theorem BIn.put {es':Array MapEntry} {clock':Nat} (h:BIn P es clock G (fun _=>True) B) (hv:v.oneCell'=true) (hl:(lkP s (prG G)).length<=B) (hX:lb P 35 es' clock') (hP:ada es es' (mkS s) v):
 BIn P es' clock' (erG s G++[(s,lkP s (prG G)++[a],v)]) (fun _=>True) (B+1):=by
 have hs:∀g∈erG s G,g∈G/\g.1≠s:=fun g hg=>by
  obtain⟨h1,h2⟩:=bnl.1 hg
  grind
 refine⟨hX,fun e he x hx _=>?_,fun g hg=>?_, ?_,fun g hg=>?_,by have:=hP.sz;have:=h.sz;omega⟩
 · rcases hP.to e he with⟨h1,h2⟩|⟨h1,h2⟩
   · obtain ⟨g,hg,e1,e2⟩:=h.to e h1 x hx trivial
     refine⟨g,bmi _ (bnl.2 ⟨hg, ?_⟩),e1,e2⟩
     grind
   have:x=s:=aei (hx.symm.trans h1);simp_all
 · rcases bmg.1 hg with hg|hg
   · obtain ⟨g1,g2⟩:=hs g hg
     obtain⟨e,he,hk,hv⟩:=h.at_ g g1;have hne:e.key≠mkS s:=fun e2=>g2 (aei (hk.symm.trans e2));obtain⟨y,y1,y2,y3⟩:=hP.old e he hne
     grind
   obtain rfl:=bmu.1 hg;obtain⟨y,y1,y2,y3⟩:=hP.at_
   grind
 · rw [bn7,List.nodup_append]
   refine⟨h.nd.sublist (List.filter_sublist.map _),by simp,fun x hx y hy e=>?_⟩
   grind
 rcases bmg.1 hg with hg|hg
 · obtain ⟨q1,q2⟩:=h.one g (hs g hg).1
   grind
 grind
theorem BIn.mono{B':Nat}(h:BIn P es clock G K B)(hb:B<=B'):BIn P es clock G K B':=⟨h.mx,h.to,h.at_,h.nd,fun g hg=>⟨(h.one g hg).1,bme (h.one g hg).2 hb⟩,bme h.sz hb⟩
theorem BIn.keys{K':AS->Prop}(h:BIn P es clock G K B)(hk:∀x,K' x->K x):BIn P es clock G K' B:=⟨h.mx,fun e he x hx q=>h.to e he x hx (hk x q),h.at_,h.nd,h.one,h.sz⟩
theorem b0w:prG (erG s G++[(s,lkP s (prG G)++[a],v)])=upP a (prG G) s:=by
 unfold upP;rw[<- asg];unfold prG
 grind
theorem ato {l:List Nat}:wl (erG s G++[(s,l,v)])=wl (erG s G)++[(v,JSl 1 3 l.length (lf iC l))]:=by
 unfold wl
 grind
end
end
section
open Go.Proofs
def bc3:a6 bqh 76:=wgx Tryz.func76
def b4r(t:Tbl)(hT:TOk t)(h10:t.attrs.length<=10)(h200:t.rows.length<=200)(hg:∀k,k<2^t.attrs.length->jk (jl t k)=true/\(jl t k).rows=t.rows.length)(h1:∀a,a<=t.attrs.length->(fmS (aj t) t.attrs.length a).length<=100)(h2:∀a,a<t.attrs.length->(mnL (aj t) t.attrs.length a).length<=100)(h3:∀i,i<=(ord (fmS (aj t) t.attrs.length t.attrs.length)).length->((bdR (bdT (aj t) t.attrs.length t.attrs.length) (ord (fmS (aj t) t.attrs.length t.attrs.length)) i).2).length<=100):a7 bqh 76 [t.pc,pI 16] (af [pP (fdl (bcc (aj t) t.attrs.length)),pI 0]):=by
 refine hpx (nt:=82) Tryz.func76 ?_;have hna:=hT.na;have hrk:(aj t).length=2^t.attrs.length:=by unfold aj;exact axr
 have hol:=xx (fmS (aj t) t.attrs.length t.attrs.length);have hfn:=h1 t.attrs.length (bm1 _);refine sx7 ?_;refine m9 0 ?_;refine w_7 ?_;refine qcx b6d (beb t hT h10 h200) ?_;refine as1 ?_;refine qcx b47 (b8m t hT hg) ?_;refine m9 1 ?_;refine w_3 ?_;refine db [] [0,1] rfl ?_;refine yx (k:=0) (L:=[1]) 901 rfl (fun bg=>?_);refine xg ?_;refine avh 905 ?_;refine gl ?_;refine d9 (E:=ci) (L1:=[1]) (L2:=[]) bw ?_;refine w_2 ?_;refine gk ?_;refine l6 ?_;refine cr 9 900 true 1 35 (lf sC []) bq4 rfl (CoP.sl rfl (.inr rfl) (fun h=>h) (fun i j hi _=>absurd hi (bm6 i))) (.inr rfl) rfl ?_;refine ar (ι:=Nat×Array MapEntry×Nat×BG) (ka 1 (ka 7 (ka 8 (ka 30 kn)))) (kb 1 km) (fun x=>⟨[(9,some (.v (.one (.ref 900 (fmS (aj t) t.attrs.length x.1).length)))),(31,some (vI x.1))],[(900,some (.arr true 1 35 (fmS (aj t) t.attrs.length x.1).length (lf sC (fmS (aj t) t.attrs.length x.1)))),(901,some (mpO bg x.2.1 x.2.2.1)),(905,some (.opq 0 0 0 (ic (wl x.2.2.2))))]⟩) (fun x=>x.1<=t.attrs.length/\BIn bqh x.2.1 x.2.2.1 x.2.2.2 (fun _=>True) (100*x.1)/\prG x.2.2.2=bdT (aj t) t.attrs.length x.1) (fun x=>t.attrs.length-x.1) ((0,#[],0,[])) (⟨bm3 _,BIn.nil,rfl⟩) kk ?_;rintro⟨a,es,clock,G⟩ ⟨ha,hB,hp⟩;dsimp only at ha hB hp ⊢;refine w_5 ?_;refine hcd ?_ ?_<;>intro h0
 ·
  have han:a<t.attrs.length:=by omega
  have hml:=h2 a han;have hfa:=h1 a bpw;refine l5 ?_;refine qcx b5e (bdi (aj t) t.attrs.length a hna hrk bpw) ?_;refine w_6 ?_;refine rz9 2 true ?_;refine w_9 ?_;refine ar (ι:=Nat×Array MapEntry×Nat×BG) (ka 1 (ka 7 (ka 8 (ka 9 (ka 10 (ka 30 (ka 31 (ka 41 (ka 42 kn))))))))) (kb 900 (kb 1 km)) (fun y=>⟨[(43,some (vI y.1))],[(901,some (mpO bg y.2.1 y.2.2.1)),(905,some (.opq 0 0 0 (ic (wl y.2.2.2))))]⟩) (fun y=>y.1<=(mnL (aj t) t.attrs.length a).length/\BIn bqh y.2.1 y.2.2.1 y.2.2.2 (fun _=>True) (100*a+y.1)/\prG y.2.2.2=bdJ a (mnL (aj t) t.attrs.length a) (bdT (aj t) t.attrs.length a) y.1) (fun y=>(mnL (aj t) t.attrs.length a).length-y.1) ((0,es,clock,G)) (⟨bm3 _,hB,hp⟩) kk ?_;rintro⟨j,es,clock,G⟩ ⟨hj,hB,hp⟩;dsimp only at hj hB hp ⊢;refine w_5 ?_;refine hcd ?_ ?_<;>intro h1
  ·
   have hjl:j<(mnL (aj t) t.attrs.length a).length:=by omega
   refine w_9 ?_;refine db [] [0,1,2,3,4,5,6,7,8] rfl ?_;refine d9 (E:=ci) (L1:=[0,1,2,3]) (L2:=[4,5,6,7,8]) bw ?_;refine w_5 ?_;refine a9k (mid:=901) (k:=4) (L:=[5,6,7,8]) rfl Tryz.underlying216 (Go.Maps.int_keyed Tryz.underlying35) Tryz.zeroValue57 rfl hB.mx (Go.Maps.keyOf_int_mk Tryz.underlying35 (wfA _)) rfl (fun hno=>?_) (fun e he hk=>?_)
   ·
    obtain⟨hl0,her⟩:=hB.absent (s:=((mnL (aj t) t.attrs.length a).getD j default)) hno;have hlb:(lkP ((mnL (aj t) t.attrs.length a).getD j default) (prG G)).length<=100*a+j:=by rw[hl0];exact bm3 _
    refine xg ?_;refine a17 51 (br (.sl 0 0 true fun _ _=>.any)) rfl ao5 ?_;refine ajq 51 903 true 1 3 (lf iC []) bq4 rfl (CoP.sl rfl (.inr rfl) (fun h=>h) (fun i j hi _=>absurd hi (bm6 i))) (.inr rfl) rfl ?_;refine qq 903 (.arr true 1 3 (lkP ((mnL (aj t) t.attrs.length a).getD j default) (prG G)).length (lf iC (lkP ((mnL (aj t) t.attrs.length a).getD j default) (prG G)))) rfl (bf (l:=[]) hl0) ?_;refine a17 51 (.v (.one (.ref 903 (lkP ((mnL (aj t) t.attrs.length a).getD j default) (prG G)).length))) rfl (bo (l:=([]:List Nat)) hl0) ?_;refine qq 905 (.opq 0 0 0 (ic (wl (erG ((mnL (aj t) t.attrs.length a).getD j default) G)))) rfl (CoO.of_eq (by rw[her])) ?_;refine gl ?_;refine d9 (E:=ci) (L1:=[5,6,7]) (L2:=[8]) bw ?_;refine qy ?_;refine m9 3 ?_;refine rz9 4 true ?_;refine d5 ?_;refine xg ?_;refine qq 903 (.arr true 1 3 ((lkP ((mnL (aj t) t.attrs.length a).getD j default) (prG G))++[a]).length (lf iC ((lkP ((mnL (aj t) t.attrs.length a).getD j default) (prG G))++[a]))) rfl (bm rfl (CoP.refl _)) ?_;refine a17 54 (.v (.one (.ref 903 ((lkP ((mnL (aj t) t.attrs.length a).getD j default) (prG G))++[a]).length))) rfl (bj rfl) ?_;refine afw 903 rfl (fun _ _ _ _=>rfl) ?_;refine aux 903 rfl (fun v1 hv1=>?_);refine a7l 54 (.v (.one (.p (.raw v1)))) rfl (v8.to rfl) ?_;refine akj 903 905 rfl rfl ?_;refine gl ?_;refine xo (mid:=901) (k:=8) (L:=[]) rfl Tryz.underlying216 (Go.Maps.int_keyed Tryz.underlying35) hB.mx (by have:=hB.sz;unfold maxLen;omega) (Go.Maps.keyOf_int_mk Tryz.underlying35 (wfA _)) rfl rfl (fun es3 clock3 hX3 hP=>?_);refine gk ?_;have hB3:=hB.put (s:=((mnL (aj t) t.attrs.length a).getD j default)) (a:=a) hv1 hlb hX3 hP;refine w_4 ?_;refine lpz (j+1,es3,clock3,erG ((mnL (aj t) t.attrs.length a).getD j default) G++[(((mnL (aj t) t.attrs.length a).getD j default),((lkP ((mnL (aj t) t.attrs.length a).getD j default) (prG G))++[a]),v1)]) ⟨tt,⟨u9,⟨_,rfl,(CoO.of_eq (by rw[ato]))⟩,uu⟩⟩ ?_;exact⟨by show j+1<=_;omega,hB3,by rw[b0w,hp,aki hjl]⟩
   obtain⟨v0,hv0,hvc,hperm,hlb0⟩:=hB.found (s:=((mnL (aj t) t.attrs.length a).getD j default)) he hk trivial;have hlb:(lkP ((mnL (aj t) t.attrs.length a).getD j default) (prG G)).length<=100*a+j:=hlb0;rw[hv0,hvc];refine xg ?_;refine qq 905 (.opq 0 0 0 (ic ((v0,JSl 1 3 (lkP ((mnL (aj t) t.attrs.length a).getD j default) (prG G)).length (lf iC (lkP ((mnL (aj t) t.attrs.length a).getD j default) (prG G))))::wl (erG ((mnL (aj t) t.attrs.length a).getD j default) G)))) rfl (alj hperm) ?_;refine agj 903 905 1 (lkP ((mnL (aj t) t.attrs.length a).getD j default) (prG G)).length 3 rfl ?_;refine a7l 51 (.v (.one (.ref 903 (lkP ((mnL (aj t) t.attrs.length a).getD j default) (prG G)).length))) rfl (v8.from rfl) ?_;refine qq 903 (.opq 1 3 (lkP ((mnL (aj t) t.attrs.length a).getD j default) (prG G)).length (JSl 1 3 (lkP ((mnL (aj t) t.attrs.length a).getD j default) (prG G)).length (lf iC (lkP ((mnL (aj t) t.attrs.length a).getD j default) (prG G))))) rfl atw ?_;refine afo 903 rfl bq4 (by unfold maxLen;omega) (fun _ _ _ _=>rfl) ?_;refine gl ?_;refine d9 (E:=ci) (L1:=[5,6,7]) (L2:=[8]) bw ?_;refine qy ?_;refine m9 5 ?_;refine rz9 6 true ?_;refine d5 ?_;refine xg ?_;refine qq 903 (.arr true 1 3 ((lkP ((mnL (aj t) t.attrs.length a).getD j default) (prG G))++[a]).length (lf iC ((lkP ((mnL (aj t) t.attrs.length a).getD j default) (prG G))++[a]))) rfl (bm rfl (CoP.refl _)) ?_;refine a17 54 (.v (.one (.ref 903 ((lkP ((mnL (aj t) t.attrs.length a).getD j default) (prG G))++[a]).length))) rfl (bj rfl) ?_;refine afw 903 rfl (fun _ _ _ _=>rfl) ?_;refine aux 903 rfl (fun v1 hv1=>?_);refine a7l 54 (.v (.one (.p (.raw v1)))) rfl (v8.to rfl) ?_;refine akj 903 905 rfl rfl ?_;refine gl ?_;refine xo (mid:=901) (k:=8) (L:=[]) rfl Tryz.underlying216 (Go.Maps.int_keyed Tryz.underlying35) hB.mx (by have:=hB.sz;unfold maxLen;omega) (Go.Maps.keyOf_int_mk Tryz.underlying35 (wfA _)) rfl rfl (fun es3 clock3 hX3 hP=>?_);refine gk ?_
   have hB3:=hB.put (s:=((mnL (aj t) t.attrs.length a).getD j default)) (a:=a) hv1 hlb hX3 hP;refine w_4 ?_;refine lpz (j+1,es3,clock3,erG ((mnL (aj t) t.attrs.length a).getD j default) G++[(((mnL (aj t) t.attrs.length a).getD j default),((lkP ((mnL (aj t) t.attrs.length a).getD j default) (prG G))++[a]),v1)]) ⟨tt,⟨u9,⟨_,rfl,(CoO.of_eq (by rw[ato]))⟩,uu⟩⟩ ?_;exact⟨by show j+1<=_;omega,hB3,by rw[b0w,hp,aki hjl]⟩
  obtain rfl:j=(mnL (aj t) t.attrs.length a).length:=by omega
  refine w_5 ?_;refine lpz (a+1,es,clock,G) ⟨⟨⟨_,rfl,(CoR.of_eq (by rw[aho,bm2]))⟩,tt⟩,⟨⟨_,rfl,(by rw[aho];exact a1t _ (fun h=>h) rfl fun _ _ _ _=>CoP.refl _)⟩,uu⟩⟩ ?_;exact⟨by show a+1<=_;omega,hB.mono bpw,by rw[aze];exact hp⟩
 obtain rfl:a=t.attrs.length:=by omega
 refine w_7 ?_;refine be 9 rfl rfl rfl ?_;refine w_2 ?_;refine fc9 a0t ((ap1 (fmS (aj t) t.attrs.length t.attrs.length) bpw).swap 901 906) trivial ?_;refine w_4 ?_;refine cr 14 902 true 2 37 (lf Fd.c []) bq4 rfl (CoP.sl rfl (.inr rfl) (fun h=>h) (fun i j hi _=>absurd hi (bm6 i))) (.inr rfl) rfl ?_;refine ar (ι:=Nat×BG) (ka 8 (ka 58 (ka 59 kn))) (kb 901 (kb 906 km)) (fun z=>⟨[(14,some (.v (.one (.ref 902 ((bdR (bdT (aj t) t.attrs.length t.attrs.length) (ord (fmS (aj t) t.attrs.length t.attrs.length)) z.1).2).length)))),(60,some (vI z.1))],[(902,some (.arr true 2 37 ((bdR (bdT (aj t) t.attrs.length t.attrs.length) (ord (fmS (aj t) t.attrs.length t.attrs.length)) z.1).2).length (lf Fd.c ((bdR (bdT (aj t) t.attrs.length t.attrs.length) (ord (fmS (aj t) t.attrs.length t.attrs.length)) z.1).2)))),(905,some (.opq 0 0 0 (ic (wl z.2))))]⟩) (fun z=>z.1<=(ord (fmS (aj t) t.attrs.length t.attrs.length)).length/\BIn bqh es clock z.2 (fun s=>¬s∈(ord (fmS (aj t) t.attrs.length t.attrs.length)).take z.1) (100*t.attrs.length)/\prG z.2=(bdR (bdT (aj t) t.attrs.length t.attrs.length) (ord (fmS (aj t) t.attrs.length t.attrs.length)) z.1).1) (fun z=>(ord (fmS (aj t) t.attrs.length t.attrs.length)).length-z.1) ((0,G)) (⟨bm3 _,hB.keys (fun _ _=>trivial),hp⟩) kk ?_;rintro⟨i,G⟩ ⟨hi,hB,hp⟩;dsimp only at hi hB hp ⊢;refine w_5 ?_;refine hcd ?_ ?_<;>intro h2
 ·
  have hil:i<(ord (fmS (aj t) t.attrs.length t.attrs.length)).length:=by omega
  have ho3:=h3 i bpw;have hKs:¬((ord (fmS (aj t) t.attrs.length t.attrs.length)).getD i default)∈(ord (fmS (aj t) t.attrs.length t.attrs.length)).take i:=awe (aud _) hil;refine eu ?_;refine db [] [0,1,2,3,4] rfl ?_;refine d9 (E:=ci) (L1:=[0,1]) (L2:=[2,3,4]) bw ?_;refine w_3 ?_;refine a9k (mid:=901) (k:=2) (L:=[3,4]) rfl Tryz.underlying216 (Go.Maps.int_keyed Tryz.underlying35) Tryz.zeroValue57 rfl hB.mx (Go.Maps.keyOf_int_mk Tryz.underlying35 (wfA _)) rfl (fun hno=>?_) (fun e he hk=>?_)
  ·
   obtain⟨hl0,her⟩:=hB.absent (s:=((ord (fmS (aj t) t.attrs.length t.attrs.length)).getD i default)) hno;have hlb:(lkP ((ord (fmS (aj t) t.attrs.length t.attrs.length)).getD i default) (prG G)).length<=100*t.attrs.length:=by rw[hl0];exact bm3 _
   refine xg ?_;refine a17 66 (br (.sl 0 0 true fun _ _=>.any)) rfl ao5 ?_;refine ajq 66 903 true 1 3 (lf iC []) bq4 rfl (CoP.sl rfl (.inr rfl) (fun h=>h) (fun i j hi _=>absurd hi (bm6 i))) (.inr rfl) rfl ?_;refine qq 903 (.arr true 1 3 (lkP ((ord (fmS (aj t) t.attrs.length t.attrs.length)).getD i default) (prG G)).length (lf iC (lkP ((ord (fmS (aj t) t.attrs.length t.attrs.length)).getD i default) (prG G)))) rfl (bf (l:=[]) hl0) ?_;refine a17 66 (.v (.one (.ref 903 (lkP ((ord (fmS (aj t) t.attrs.length t.attrs.length)).getD i default) (prG G)).length))) rfl (bo (l:=([]:List Nat)) hl0) ?_;refine qq 905 (.opq 0 0 0 (ic (wl (erG ((ord (fmS (aj t) t.attrs.length t.attrs.length)).getD i default) G)))) rfl (CoO.of_eq (by rw[her])) ?_;refine gl ?_;refine d9 (E:=ci) (L1:=[3,4]) (L2:=[]) bw ?_;refine w_3 ?_;refine gk ?_;refine a2c ?_
   refine c7 (ka 8 (ka 16 (ka 58 (ka 59 (ka 60 (ka 66 (ka 67 kn))))))) (kb 905 (kb 901 (kb 906 (kb 903 km)))) (fun k=>⟨[(14,some (.v (.one (.ref 902 ((bdR (bdT (aj t) t.attrs.length t.attrs.length) (ord (fmS (aj t) t.attrs.length t.attrs.length)) i).2++((lkP ((ord (fmS (aj t) t.attrs.length t.attrs.length)).getD i default) (prG G)).take k).map (mkF ((ord (fmS (aj t) t.attrs.length t.attrs.length)).getD i default))).length)))),(68,some (vI k))],[(902,some (.arr true 2 37 ((bdR (bdT (aj t) t.attrs.length t.attrs.length) (ord (fmS (aj t) t.attrs.length t.attrs.length)) i).2++((lkP ((ord (fmS (aj t) t.attrs.length t.attrs.length)).getD i default) (prG G)).take k).map (mkF ((ord (fmS (aj t) t.attrs.length t.attrs.length)).getD i default))).length (lf Fd.c ((bdR (bdT (aj t) t.attrs.length t.attrs.length) (ord (fmS (aj t) t.attrs.length t.attrs.length)) i).2++((lkP ((ord (fmS (aj t) t.attrs.length t.attrs.length)).getD i default) (prG G)).take k).map (mkF ((ord (fmS (aj t) t.attrs.length t.attrs.length)).getD i default))))))]⟩) ((lkP ((ord (fmS (aj t) t.attrs.length t.attrs.length)).getD i default) (prG G)).length) ⟨⟨⟨_,rfl,(bo bpz)⟩,tt⟩,⟨⟨_,rfl,(bf bpz)⟩,trivial⟩⟩ ?_;rintro k hk;have htl:((bdR (bdT (aj t) t.attrs.length t.attrs.length) (ord (fmS (aj t) t.attrs.length t.attrs.length)) i).2++((lkP ((ord (fmS (aj t) t.attrs.length t.attrs.length)).getD i default) (prG G)).take k).map (mkF ((ord (fmS (aj t) t.attrs.length t.attrs.length)).getD i default))).length<=1800:=by rw[bm2,bn0,bmw];omega
   refine w_5 ?_;refine hcd ?_ ?_<;>intro h3
   ·
    have hkl:k<(lkP ((ord (fmS (aj t) t.attrs.length t.attrs.length)).getD i default) (prG G)).length:=by omega
    refine jd ?_;refine m9 7 ?_;refine rz9 8 true ?_;refine w_6 ?_;exact lpx (k+1) ⟨⟨⟨_,rfl,(bj (a7u hkl))⟩,tt⟩,⟨⟨_,rfl,(p8 (a7u hkl) (CoP.refl _) (CoP.of_eq (congrArg (fun z=>PV.raw (.int .u32 z)) (a30 1 _))))⟩,uu⟩⟩
   obtain rfl:k=(lkP ((ord (fmS (aj t) t.attrs.length t.attrs.length)).getD i default) (prG G)).length:=by omega
   refine w_5 ?_;refine lpz (i+1,erG ((ord (fmS (aj t) t.attrs.length t.attrs.length)).getD i default) G) ⟨⟨⟨_,rfl,(bo (by rw[ui hil,bmd,hp];rfl))⟩,tt⟩,⟨⟨_,rfl,(bf (by rw[ui hil,bmd,hp];rfl))⟩,uu⟩⟩ ?_;exact⟨by show i+1<=_;omega,hB.take (fun x hx=>ake hil hx),by rw[ui hil,asg,hp];rfl⟩
  obtain⟨v0,hv0,hvc,hperm,hlb0⟩:=hB.found (s:=((ord (fmS (aj t) t.attrs.length t.attrs.length)).getD i default)) he hk hKs;have hlb:(lkP ((ord (fmS (aj t) t.attrs.length t.attrs.length)).getD i default) (prG G)).length<=100*t.attrs.length:=hlb0;rw[hv0,hvc];refine xg ?_;refine qq 905 (.opq 0 0 0 (ic ((v0,JSl 1 3 (lkP ((ord (fmS (aj t) t.attrs.length t.attrs.length)).getD i default) (prG G)).length (lf iC (lkP ((ord (fmS (aj t) t.attrs.length t.attrs.length)).getD i default) (prG G))))::wl (erG ((ord (fmS (aj t) t.attrs.length t.attrs.length)).getD i default) G)))) rfl (alj hperm) ?_;refine agj 903 905 1 (lkP ((ord (fmS (aj t) t.attrs.length t.attrs.length)).getD i default) (prG G)).length 3 rfl ?_;refine a7l 66 (.v (.one (.ref 903 (lkP ((ord (fmS (aj t) t.attrs.length t.attrs.length)).getD i default) (prG G)).length))) rfl (v8.from rfl) ?_;refine qq 903 (.opq 1 3 (lkP ((ord (fmS (aj t) t.attrs.length t.attrs.length)).getD i default) (prG G)).length (JSl 1 3 (lkP ((ord (fmS (aj t) t.attrs.length t.attrs.length)).getD i default) (prG G)).length (lf iC (lkP ((ord (fmS (aj t) t.attrs.length t.attrs.length)).getD i default) (prG G))))) rfl atw ?_;refine afo 903 rfl bq4 (by unfold maxLen;omega) (fun _ _ _ _=>rfl) ?_;refine gl ?_;refine d9 (E:=ci) (L1:=[3,4]) (L2:=[]) bw ?_;refine w_3 ?_;refine gk ?_;refine a2c ?_
  refine c7 (ka 8 (ka 16 (ka 58 (ka 59 (ka 60 (ka 66 (ka 67 kn))))))) (kb 905 (kb 901 (kb 906 (kb 903 km)))) (fun k=>⟨[(14,some (.v (.one (.ref 902 ((bdR (bdT (aj t) t.attrs.length t.attrs.length) (ord (fmS (aj t) t.attrs.length t.attrs.length)) i).2++((lkP ((ord (fmS (aj t) t.attrs.length t.attrs.length)).getD i default) (prG G)).take k).map (mkF ((ord (fmS (aj t) t.attrs.length t.attrs.length)).getD i default))).length)))),(68,some (vI k))],[(902,some (.arr true 2 37 ((bdR (bdT (aj t) t.attrs.length t.attrs.length) (ord (fmS (aj t) t.attrs.length t.attrs.length)) i).2++((lkP ((ord (fmS (aj t) t.attrs.length t.attrs.length)).getD i default) (prG G)).take k).map (mkF ((ord (fmS (aj t) t.attrs.length t.attrs.length)).getD i default))).length (lf Fd.c ((bdR (bdT (aj t) t.attrs.length t.attrs.length) (ord (fmS (aj t) t.attrs.length t.attrs.length)) i).2++((lkP ((ord (fmS (aj t) t.attrs.length t.attrs.length)).getD i default) (prG G)).take k).map (mkF ((ord (fmS (aj t) t.attrs.length t.attrs.length)).getD i default))))))]⟩) ((lkP ((ord (fmS (aj t) t.attrs.length t.attrs.length)).getD i default) (prG G)).length) ⟨⟨⟨_,rfl,(bo bpz)⟩,tt⟩,⟨⟨_,rfl,(bf bpz)⟩,trivial⟩⟩ ?_;rintro k hk;have htl:((bdR (bdT (aj t) t.attrs.length t.attrs.length) (ord (fmS (aj t) t.attrs.length t.attrs.length)) i).2++((lkP ((ord (fmS (aj t) t.attrs.length t.attrs.length)).getD i default) (prG G)).take k).map (mkF ((ord (fmS (aj t) t.attrs.length t.attrs.length)).getD i default))).length<=1800:=by rw[bm2,bn0,bmw];omega
  refine w_5 ?_;refine hcd ?_ ?_<;>intro h4
  ·
   have hkl:k<(lkP ((ord (fmS (aj t) t.attrs.length t.attrs.length)).getD i default) (prG G)).length:=by omega
   refine jd ?_;refine m9 9 ?_;refine rz9 10 true ?_;refine w_6 ?_;exact lpx (k+1) ⟨⟨⟨_,rfl,(bj (a7u hkl))⟩,tt⟩,⟨⟨_,rfl,(p8 (a7u hkl) (CoP.refl _) (CoP.of_eq (congrArg (fun z=>PV.raw (.int .u32 z)) (a30 1 _))))⟩,uu⟩⟩
  obtain rfl:k=(lkP ((ord (fmS (aj t) t.attrs.length t.attrs.length)).getD i default) (prG G)).length:=by omega
  refine w_5 ?_;refine lpz (i+1,erG ((ord (fmS (aj t) t.attrs.length t.attrs.length)).getD i default) G) ⟨⟨⟨_,rfl,(bo (by rw[ui hil,bmd,hp];rfl))⟩,tt⟩,⟨⟨_,rfl,(bf (by rw[ui hil,bmd,hp];rfl))⟩,uu⟩⟩ ?_;exact⟨by show i+1<=_;omega,hB.take (fun x hx=>ake hil hx),by rw[ui hil,asg,hp];rfl⟩
 obtain rfl:i=(ord (fmS (aj t) t.attrs.length t.attrs.length)).length:=by omega
 refine w_2 ?_;refine be 14 rfl rfl rfl ?_;refine v_5 ?_;exact⟨CoC.one (CoP.refl _),CoC.refl _,trivial⟩
end
end Go.Hx
