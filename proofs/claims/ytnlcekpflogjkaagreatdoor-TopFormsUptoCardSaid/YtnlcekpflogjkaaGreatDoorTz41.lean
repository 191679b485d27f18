/- A part of the proof: LyV Jw2 Kw7 Ls7 Ls8 Ls9 Jn2 Ch22 Ch25 Cc4 Jn3 Jn5 Jo2 Jr1 Jp1 Jp2 Jb1 Jp3 Bz6 Ch15 Bz7 Bz8. -/
import Derived.Shelf.SlLaysF0
import Derived.Shelf.SlSortCmp.NoneTotal
import Derived.Test.YtnlcekpflogjkaaGreatDoorProg
import Derived.Test.YtnlcekpflogjkaaGreatDoorTz38
import Derived.Test.YtnlcekpflogjkaaGreatDoorTz40
set_option linter.all false
set_option maxRecDepth 100000
set_option maxHeartbeats 1000000
section
namespace Go.Proofs
open Go.Shelf
def Tryz.laysSortV_ren:Go.Shelf.Ren:=⟨fun|6=>100|15=>153|14=>152|28=>212|29=>213|20=>204|21=>205|22=>206|23=>207|24=>208|25=>209|26=>210|27=>211|46=>237|47=>238|48=>239|49=>240|50=>241|57=>269|n=>n,fun|22=>79|24=>84|25=>160|3=>3|39=>208|0=>0|53=>49|55=>262|4=>4|46=>255|45=>254|50=>259|5=>5|9=>9|66=>281|70=>285|76=>312|77=>313|n=>n,fun|n=>n⟩
end Go.Proofs
end
namespace Go.Hx
section
open Go.Proofs
def bdo {α:Type} [Inhabited α] {cl:Bool} {c:α->Nat->PV} {x y z:α} {f:Nat->Nat->PV} (h0:CoP (f 0 0) (c x 0)) (h1:CoP (f 1 0) (c y 0)) (h2:CoP (f 2 0) (c z 0)):CoP (.sl 3 1 cl f) (psl 1 c [x,y,z]) :=
 CoP.sl rfl (.inl rfl) (fun h=>by cases h) fun i j hi hj=>by
  obtain rfl:j=0:=by omega
  match i,hi with
  |0,_=>exact h0
  |1,_=>exact h1
  |2,_=>exact h2
def bck(a b:Val):orF [gq a.kind b.kind,gq a.num b.num,a4b a.str b.str]=a2t a b:=by
 have e:∀x y:Int,sgn x y=gq x y:=fun _ _=>rfl;unfold a2t orF;rw[e,e];by_cases h1:gq a.kind b.kind=0
 · by_cases h2:gq a.num b.num=0
   · by_cases h3:a4b a.str b.str=0
     · simp[h1,h2,h3]
     simp[h1,h2,h3]
   simp[h1,h2]
 simp[h1]
def azh (a:Int):a7 bxr 215 [pI a] (ae [pB false]):=by
 refine hpx (nt:=6) Tryz.func215 ?_;refine gv ?_;exact hx8 rfl rfl rfl (⟨ccb bx8,trivial⟩)
def bjd (a b:Int):a7 bxr 156 [pI a,pI b] (ae [pI (gq a b)]):=by
 refine hpx (nt:=20) Tryz.func156 ?_;refine w_7 ?_;refine qcx (wgx Tryz.func215) (azh _) ?_;refine w_5 ?_;refine qcx (wgx Tryz.func215) (azh _) ?_;refine b6f ?_;refine hcd ?_ ?_<;>intro h0
 · refine v_4 ?_;exact⟨cci bxk,trivial⟩
 refine w_8 ?_;refine hcd ?_ ?_<;>intro h1
 · refine v_4 ?_;exact⟨cci bxk,trivial⟩
 refine v_5 ?_;exact⟨cci bxk,trivial⟩
def bdx (a b:ByteArray):a7 bxr 157 [pS a,pS b] (ae [pI (a4b a b)]):=by
 refine hpx (nt:=8) Tryz.func157 ?_;refine w_8 ?_;refine qcx b9d (bdf _ _) ?_;refine v_2 ?_;exact CoL.refl _
def bdy (a b:Val):a7 bxr 101 [a.pc,b.pc] (ae [pI (a2t a b)]):=by
 refine hpx (nt:=22) Tryz.func101 ?_;refine sx7 ?_;refine m9 0 ?_;refine m9 1 ?_;refine w_8 ?_;refine qcx ah3 (awr _ _) ?_;refine w_4 ?_;refine qcx (wgx Tryz.func156) (bjd _ _) ?_;refine w_4 ?_;refine qcx (wgx Tryz.func157) (bdx _ _) ?_;refine m9 2 ?_;refine rc rfl rfl rfl rfl rfl rfl (wgx Tryz.func154) (cOr [gq a.kind b.kind,gq a.num b.num,a4b a.str b.str]) (⟨CoC.one (bdo (CoP.refl _) (CoP.refl _) (CoP.refl _)),trivial⟩) rfl rfl ?_;refine v_3 ?_;exact⟨cci (bck a b),trivial⟩
abbrev bsi(v:Val):List Value:=[.int .i64 v.kind, .int .i64 v.num, .string v.str]
end
section
open Go.Proofs
def bad (t:Tbl) (hT:TOk t) (h12:t.attrs.length<=12) (h200:t.rows.length<=200):a7 bxr 85 [t.pc,pA 0,pB true] (ae [pI 0]):=by
 refine hpx (nt:=34) Tryz.func85 ?_;have hna:=hT.na;have h0f:∀m:Int,(asI 0).fdiv m=0:=fun m=>Int.zero_fdiv m;refine sx7 ?_;refine m9 0 ?_;refine w_6 ?_;refine qcx ao1 (anu hT) ?_;refine bp3 ?_;refine al rfl rfl ?_ ?_<;>intro r0
 ·
  have h0:=tz1 r0;(iterate 2 refine k9 (gtf r0) ?_);(iterate 2 refine k9 rfl ?_);refine k9 (gtf r0) ?_;refine w_8 ?_;refine hrr ?_
  omega
 have h0:=tz2 r0;(iterate 2 refine qy ?_ (hg:=(gff r0)));refine al rfl rfl ?_ ?_<;>intro r1
 ·
  have h1:=r1;(iterate 2 refine qy ?_ (hg:=(gtt r1)));refine qy ?_ (hg:=(gff r0));refine w_3 ?_;refine ax _ rfl ?_ ?_<;>intro r2
  · have h2:=tz1 (br r1 (bn r0 r2));refine w_4 ?_;refine hrr ?_;omega
  have h2:=tz2 (br r1 (bn r0 r2));refine w_8 ?_;refine hcn ?_ ?_<;>intro h3
  · refine w_4 ?_;refine hrr ?_;simp_all
  refine v_5 ?_;exact CoL.refl _
 have h1:=r1;(iterate 2 refine k9 (gft r1) ?_);refine rq rfl rfl rfl rfl (gff r0) ?_ (hp:=r1);refine w_3 ?_;refine ax _ rfl (fun e=>Bool.noConfusion ((aqe r0 rfl).symm.trans e)) (fun _=>?_);refine w_8 ?_
 refine hcn ?_ ?_<;>intro h4
 · refine w_4 ?_;refine hrr ?_;simp_all
 refine v_5 ?_;exact CoL.refl _
def b9q(a b:Row)(ha:a.vals.length<=16)(hb:b.vals.length=a.vals.length):a7 bxr 139 [a.pc,b.pc] (ae [pA (agR a b)]):=by
 refine hpx (nt:=30) Tryz.func139 ?_;refine sx7 ?_;refine m9 0 ?_;refine m9 1 ?_;refine jk ?_;refine bw (ka 3 (ka 9 (ka 10 kn))) (kb 1 km) (fun i=>⟨[(5,some (vA (agT a b i))),(11,some (vI i))],[]⟩) a.vals.length kk ?_;rintro i hi;refine w_5 ?_;refine hcd ?_ ?_<;>intro h0
 ·
  have hil:i<a.vals.length:=by omega
  refine w_8 ?_;refine m9 2 ?_;refine gv ?_;refine qcx (wgx Tryz.func101) (bdy (a.vals.getD i default) (b.vals.getD i default)) ?_;refine w_3 ?_;refine hcd ?_ ?_<;>intro h1
  ·
   refine gv ?_
   first | (refine lpz (i+1) ⟨⟨⟨_, rfl, (df (by rw[show IntKind.wrap .u32 (1*2^(min ((i : Int)).toNat IntKind.u32.bits))=asI ((1 : AS)<<<i) from a0j 1 i, bOr, b8p bx6]))⟩, tt⟩, uu⟩ ?_; show i+1<=_; omega)
         |(refine lpz (i+1) ⟨⟨⟨_,rfl,(df (by rw[b8s bx6]))⟩,tt⟩,uu⟩ ?_;show i+1<=_;omega)
  refine w_5 ?_
  first | (refine lpz (i+1) ⟨⟨⟨_, rfl, (df (by rw[show IntKind.wrap .u32 (1*2^(min ((i : Int)).toNat IntKind.u32.bits))=asI ((1 : AS)<<<i) from a0j 1 i, bOr, b8p bx6]))⟩, tt⟩, uu⟩ ?_; show i+1<=_; omega)
        |(refine lpz (i+1) ⟨⟨⟨_,rfl,(df (by rw[b8s bx6]))⟩,tt⟩,uu⟩ ?_;show i+1<=_;omega)
 obtain rfl:i=a.vals.length:=by omega
 refine v_6 ?_;exact CoL.refl _
def bow (y z:AS):a7 bxr 137 [pA y,pP (bx (asC z))] (ae [pB (decide (sub z y))]):=by
 refine hpx (nt:=8) Tryz.func137 ?_;refine gh ?_;exact hx8 rfl rfl rfl (⟨ccb (decide_eq_decide.2 ep),trivial⟩)
def bpl (y z:AS):a7 bxr 138 [pA y,pP (bx (asC z))] (ae [pB (decide (sub y z))]):=by
 refine hpx (nt:=8) Tryz.func138 ?_;refine gh ?_;exact hx8 rfl rfl rfl (⟨ccb (decide_eq_decide.2 ep),trivial⟩)
def boh(l:List AS)(z:AS):a7 bxr 67 [pP (asl l),pP (.fn 137 1 (fun j=>[bx (asC z)].getD j .any))] (ae [pB (l.any fun y=>decide (sub z y))]):=aa6 l 137 1 _ _ (wgx Tryz.func137) fun y=>bow y z
def bnb(l:List AS)(z:AS):a7 bxr 67 [pP (asl l),pP (.fn 138 1 (fun j=>[bx (asC z)].getD j .any))] (ae [pB (l.any fun y=>decide (sub y z))]):=aa6 l 138 1 _ _ (wgx Tryz.func138) fun y=>bpl y z
def bnp(n:Nat)(av:List AS)(hn:n<=16):a7 bxr 86 [pI (n:Int),pP (asl av)] (ae [pP (asl (bgo n av))]):=by
 refine hpx (nt:=37) Tryz.func86 ?_;have hsl:=rj (a6 (n:Int));have h0z:(0:Int)<=(n:Int):=by omega
 have h1z:(n:Int)<=16:=by omega
 refine mq ?_;refine rq rfl rfl rfl rfl rfl ?_ (hp:=⟨om h0z h1z,nf h0z h1z⟩);refine rc rfl rfl rfl rfl rfl rfl a6n (al7 (a6 (n:Int))) (⟨cci (og h0z h1z),trivial⟩) rfl rfl ?_;refine w_4 ?_;refine d8 5 900 true 1 50 (lf sC []) bxc rfl (CoP.sl rfl (.inr rfl) (fun h=>h) (fun i j hi _=>absurd hi (bt9 i))) (.inr rfl) rfl ?_;refine bw (ka 1 (ka 13 (ka 14 kn))) km (fun i=>⟨[(5,some (.v (.one (.ref 900 (ru n av i).length)))),(15,some (vI i))],[(900,some (.arr true 1 50 (ru n av i).length (lf sC (ru n av i))))]⟩) ((b6 (a6 (n:Int))).length) kk ?_;rintro i hi;have hul:=b3s (n:=n) (av:=av) (i:=i);refine w_5 ?_;refine hcd ?_ ?_<;>intro h0
 ·
  have hil:i<(b6 (a6 (n:Int))).length:=by omega
  refine w_7 ?_;refine m9 0 ?_;refine w_2 ?_;refine ci 7 rfl rfl rfl ?_;refine w_4 ?_;refine qcx a3i (boh av ((b6 (a6 (n:Int))).getD i default)) ?_;refine w_6 ?_;refine qcx a3i (bnb (ru n av i) ((b6 (a6 (n:Int))).getD i default)) ?_;refine w_7 ?_;refine al rfl rfl ?_ ?_<;>intro r1
  ·
   have h1:=cj r1;(iterate 2 refine qy ?_ (hg:=(gtt r1)));refine w_2 ?_;refine ax _ rfl ?_ ?_<;>intro r2
   ·
    have h2:=cj (br r1 r2);refine w_3 ?_;refine m9 1 ?_;refine r9 2 true ?_;refine w_6 ?_
    first | (refine lpz (i+1) ⟨⟨⟨_, rfl, (bo (a3c hil bx6 bx6))⟩, tt⟩, ⟨⟨_, rfl, (bq (a3c hil bx6 bx6) (CoP.refl _))⟩, trivial⟩⟩ ?_; show i+1<=_; omega)
          |(refine lpz (i+1) ⟨⟨⟨_,rfl,(be (by first|exact a0e hil bx6|exact a06 hil bx6))⟩,tt⟩,⟨⟨_,rfl,(az (by first|exact a0e hil bx6|exact a06 hil bx6))⟩,trivial⟩⟩ ?_;show i+1<=_;omega)
   have h2:=cn (br r1 r2);refine w_5 ?_
   first | (refine lpz (i+1) ⟨⟨⟨_, rfl, (bo (a3c hil bx6 bx6))⟩, tt⟩, ⟨⟨_, rfl, (bq (a3c hil bx6 bx6) (CoP.refl _))⟩, trivial⟩⟩ ?_; show i+1<=_; omega)
         |(refine lpz (i+1) ⟨⟨⟨_,rfl,(be (by first|exact a0e hil bx6|exact a06 hil bx6))⟩,tt⟩,⟨⟨_,rfl,(az (by first|exact a0e hil bx6|exact a06 hil bx6))⟩,trivial⟩⟩ ?_;show i+1<=_;omega)
  have h1:=cn r1;(iterate 2 refine k9 (gft r1) ?_);refine w_8 ?_
  first | (refine lpz (i+1) ⟨⟨⟨_, rfl, (bo (a3c hil bx6 bx6))⟩, tt⟩, ⟨⟨_, rfl, (bq (a3c hil bx6 bx6) (CoP.refl _))⟩, trivial⟩⟩ ?_; show i+1<=_; omega)
        |(refine lpz (i+1) ⟨⟨⟨_,rfl,(be (by first|exact a0e hil bx6|exact a06 hil bx6))⟩,tt⟩,⟨⟨_,rfl,(az (by first|exact a0e hil bx6|exact a06 hil bx6))⟩,trivial⟩⟩ ?_;show i+1<=_;omega)
 obtain rfl:i=(b6 (a6 (n:Int))).length:=by omega
 refine w_2 ?_;refine bj 5 rfl rfl rfl ?_;refine v_4 ?_;exact⟨CoC.one (CoP.refl _),trivial⟩
def bqk(t:Tbl)(hT:TOk t):a7 bxr 88 [t.pc] (ae [pP (psl 3 wC (dl (ig (prs t.rows))))]):=by
 refine hpx (nt:=80) Tryz.func88 ?_;have hna:=hT.na;have hnr:=hT.nr;have hpb:=b0f hnr;have hml:=ak9 (l:=ig (prs t.rows));refine sx7 ?_;refine m9 0 ?_;refine w_3 ?_;refine fl [] [0,1] rfl ?_;refine a65 (k:=0) (L:=[1]) 901 rfl (fun bg=>?_);refine fj (E:=d4) (L1:=[1]) (L2:=[]) ca ?_;refine w_2 ?_;refine kc ?_;refine mq ?_;refine d8 4 900 true 1 50 (lf sC []) bxc rfl (CoP.sl rfl (.inr rfl) (fun h=>h) (fun i j hi _=>absurd hi (bt9 i))) (.inr rfl) rfl ?_;refine am (ι:=Nat×Array MapEntry×Nat) (ka 1 (ka 3 (ka 17 (ka 18 kn)))) (kb 0 km) (fun x=>⟨[(4,some (.v (.one (.ref 900 (ig (lh t.rows x.1 (x.1+1))).length)))),(19,some (vI x.1))],[(900,some (.arr true 1 50 (ig (lh t.rows x.1 (x.1+1))).length (lf sC (ig (lh t.rows x.1 (x.1+1)))))),(901,some (mpO bg x.2.1 x.2.2))]⟩) (fun x=>x.1<=t.rows.length/\WIn bxr x.2.1 x.2.2 (ig (lh t.rows x.1 (x.1+1)))) (fun x=>t.rows.length-x.1) ((0,#[],0)) (⟨bt6 _,WIn.nil⟩) kk ?_;rintro⟨i,es,clock⟩ ⟨hi,hW⟩;dsimp only at hi hW ⊢;refine w_5 ?_;refine hcd ?_ ?_<;>intro h0
 ·
  have hir:i<t.rows.length:=by omega
  have hwi:(t.rows.getD i default).vals.length=t.attrs.length:=hT.width hir;have hls:iu (bv t.rows.length none) (some ((i:Int)+1))=t.rows.length-(i+1):=rfl;refine w_8 ?_;refine m9 1 ?_;refine qb ?_;refine am (ι:=Nat×Array MapEntry×Nat) (ka 1 (ka 3 (ka 6 (ka 17 (ka 18 (ka 19 (ka 28 (ka 29 kn)))))))) (kb 0 (kb 1 km)) (fun y=>⟨[(4,some (.v (.one (.ref 900 (ig (lh t.rows i (i+1+y.1))).length)))),(30,some (vI y.1))],[(900,some (.arr true 1 50 (ig (lh t.rows i (i+1+y.1))).length (lf sC (ig (lh t.rows i (i+1+y.1)))))),(901,some (mpO bg y.2.1 y.2.2))]⟩) (fun y=>y.1<=t.rows.length-(i+1)/\WIn bxr y.2.1 y.2.2 (ig (lh t.rows i (i+1+y.1)))) (fun y=>t.rows.length-(i+1)-y.1) ((0,es,clock)) (⟨bt6 _,hW⟩) kk ?_;rintro⟨j,es,clock⟩ ⟨hj,hW⟩;dsimp only at hj hW ⊢;have hbd:=bbo (k:=i+1+j) hir hnr;refine w_5 ?_;refine hcd ?_ ?_<;>intro h1
  ·
   have hkr:i+1+j<t.rows.length:=by omega
   have hjk:((i:Int)+1).toNat+j=i+1+j:=by omega
   have hwk:(t.rows.getD (((i:Int)+1).toNat+j) default).vals.length=t.attrs.length:=by rw[hjk];exact hT.width hkr
   refine w_7 ?_;refine m9 2 ?_;refine w_6 ?_;refine qcx (wgx Tryz.func139) (b9q (t.rows.getD i default) (t.rows.getD (((i:Int)+1).toNat+j) default) (by rw[hwi];exact hna) (by rw[hwi,hwk])) ?_;refine w_3 ?_;refine fl [] [0,1,2,3,4,5,6,7,8] rfl ?_;refine fj (E:=d4) (L1:=[0,1]) (L2:=[2,3,4,5,6,7,8]) ca ?_;refine w_3 ?_;refine adb (mid:=901) (k:=2) (L:=[3,4,5,6,7,8]) rfl Tryz.underlying193 (Go.Maps.int_keyed Tryz.underlying50) Tryz.zeroValue195 rfl hW.mx (Go.Maps.keyOf_int_mk Tryz.underlying50 (wfA _)) rfl (fun ok v hy hn1=>?_)
   obtain ⟨a0,b0,rfl⟩:∃a0 b0:Int,v=.agg #[.int .i64 a0, .int .i64 b0]:=by
    cases ok with
    | true =>
     obtain⟨e,he,hk,rfl⟩:=hy rfl;exact hW.vl e he
    |false=>exact⟨0,0,(hn1 rfl).1⟩
   refine fj (E:=d4) (L1:=[3,4,5,6,7,8]) (L2:=[]) ca ?_;refine w_3 ?_;refine m9 3 ?_;refine w_3 ?_;refine kc ?_;refine w_5 ?_;refine ax _ rfl ?_ ?_<;>intro r2
   ·
    have h2:=cj r2;have hok1:ok=false:=by simpa using r2
    subst hok1;obtain⟨_,hno⟩:=hn1 rfl;have hab:=hW.absent hno;refine dt ?_;refine fl [] [0,1,2,3,4,5,6,7] rfl ?_;refine fj (E:=d4) (L1:=[0,1,2,3,4,5,6]) (L2:=[7]) ca ?_;refine w_8 ?_;refine a33 (mid:=901) (k:=7) (L:=[]) rfl Tryz.underlying193 (Go.Maps.int_keyed Tryz.underlying50) hW.mx (by have:=hW.sz;unfold maxLen;omega) (Go.Maps.keyOf_int_mk Tryz.underlying50 (wfA _)) rfl rfl (fun es3 clock3 hX3 hP=>?_);refine kc ?_;refine w_3 ?_;refine m9 4 ?_;refine r9 5 true ?_;refine w_6 ?_
    first | (refine lpz (j+1, es3, clock3) ⟨⟨⟨_, rfl, (bo (by rw[j1 hkr hjk, a96 hab]))⟩, tt⟩, ⟨⟨_, rfl, (bq (by rw[j1 hkr hjk, a96 hab]) (CoP.refl _))⟩, uu⟩⟩ ?_; exact⟨by show j+1<=_; omega, by rw[j1 hkr hjk, a96 hab]; exact hW.put hX3 hP⟩)
          |(refine lpz (j+1,es,clock) ⟨⟨⟨_,rfl,(be (by rw[j1 hkr hjk,a9y hfd]))⟩,tt⟩,⟨⟨_,rfl,(az (by rw[j1 hkr hjk,a9y hfd]))⟩,uu⟩⟩ ?_;exact⟨by show j+1<=_;omega,by rw[j1 hkr hjk,a9y hfd];exact hW⟩)
   have h2:=cn r2;have hok1:ok=true:=by simpa using r2
   obtain⟨e0,he0,hk0,_⟩:=hy hok1;have hfd:=hW.found he0 hk0;refine w_5 ?_
   first | (refine lpz (j+1, es3, clock3) ⟨⟨⟨_, rfl, (bo (by rw[j1 hkr hjk, a96 hab]))⟩, tt⟩, ⟨⟨_, rfl, (bq (by rw[j1 hkr hjk, a96 hab]) (CoP.refl _))⟩, uu⟩⟩ ?_; exact⟨by show j+1<=_; omega, by rw[j1 hkr hjk, a96 hab]; exact hW.put hX3 hP⟩)
         |(refine lpz (j+1,es,clock) ⟨⟨⟨_,rfl,(be (by rw[j1 hkr hjk,a9y hfd]))⟩,tt⟩,⟨⟨_,rfl,(az (by rw[j1 hkr hjk,a9y hfd]))⟩,uu⟩⟩ ?_;exact⟨by show j+1<=_;omega,by rw[j1 hkr hjk,a9y hfd];exact hW⟩)
  obtain rfl:j=t.rows.length-(i+1):=by omega
  refine w_5 ?_;refine lpz (i+1,es,clock) ⟨⟨⟨_,rfl,(be (by rw[<- a5w hir]))⟩,tt⟩,⟨⟨_,rfl,(az (by rw[<- a5w hir]))⟩,uu⟩⟩ ?_;exact⟨by show i+1<=_;omega,by rw[<- a5w hir];exact hW⟩
 obtain rfl:i=t.rows.length:=by omega
 refine w_7 ?_;refine bj 4 rfl rfl rfl ?_;refine w_2 ?_;refine rc rfl rfl rfl rfl rfl rfl ao7 (adi (ig (prs t.rows)) bx5) (⟨CoC.of_eq (by rw[am4];rfl),trivial⟩) rfl rfl ?_;refine w_4 ?_;refine d8 12 902 true 3 192 (lf wC []) bxc rfl (CoP.sl rfl (.inr rfl) (fun h=>h) (fun i j hi _=>absurd hi (bt9 i))) (.inr rfl) rfl ?_;refine bw (ka 3 (ka 59 (ka 60 kn))) (kb 901 km) (fun i=>⟨[(12,some (.v (.one (.ref 902 ((dl (ig (prs t.rows))).take i).length)))),(61,some (vI i))],[(902,some (.arr true 3 192 ((dl (ig (prs t.rows))).take i).length (lf wC ((dl (ig (prs t.rows))).take i))))]⟩) ((dl (ig (prs t.rows))).length) kk ?_;rintro i hi;have htl:((dl (ig (prs t.rows))).take i).length=i:=by rw[btp];omega
 refine w_5 ?_;refine hcd ?_ ?_<;>intro h3
 ·
  have him:i<(dl (ig (prs t.rows))).length:=by omega
  refine w_9 ?_;refine fl [] [0,1,2,3,4,5,6,7,8,9,10,11,12,13] rfl ?_;refine fj (E:=d4) (L1:=[0,1,2,3]) (L2:=[4,5,6,7,8,9,10,11,12,13]) ca ?_;refine w_5 ?_;refine aod (mid:=901) (k:=4) (L:=[5,6,7,8,9,10,11,12,13]) rfl Tryz.underlying193 (Go.Maps.int_keyed Tryz.underlying50) Tryz.zeroValue195 hW (Go.Maps.keyOf_int_mk Tryz.underlying50 (wfA _)) rfl (fun a4 b4=>?_);refine ajz 0 (k:=5) (L:=[6,7,8,9,10,11,12,13]) rfl Tryz.underlying195 (show w5 bxr 2=some ⟨.int .i64,1,8,some [.int .i64 0],false,false,true⟩ by kernel_rfl) rfl rfl bxc ?_;refine fj (E:=d4) (L1:=[6,7]) (L2:=[8,9,10,11,12,13]) ca ?_;refine w_3 ?_;refine aod (mid:=901) (k:=8) (L:=[9,10,11,12,13]) rfl Tryz.underlying193 (Go.Maps.int_keyed Tryz.underlying50) Tryz.zeroValue195 hW (Go.Maps.keyOf_int_mk Tryz.underlying50 (wfA _)) rfl (fun a8 b8=>?_);refine ajz 1 (k:=9) (L:=[10,11,12,13]) rfl Tryz.underlying195 (show w5 bxr 2=some ⟨.int .i64,1,8,some [.int .i64 0],false,false,true⟩ by kernel_rfl) rfl rfl bxc ?_;refine fj (E:=d4) (L1:=[10,11,12,13]) (L2:=[]) ca ?_;refine qy ?_;refine m9 6 ?_;refine r9 7 true ?_;refine w_2 ?_;refine kc ?_;refine w_4 ?_;exact lpx (i+1) ⟨⟨⟨_,rfl,(bo (aj him))⟩,tt⟩,⟨⟨_,rfl,(a0x (aj him) (CoP.refl _) CoP.any_of CoP.any_of)⟩,uu⟩⟩
 obtain rfl:i=(dl (ig (prs t.rows))).length:=by omega
 refine w_2 ?_;refine bj 12 rfl rfl rfl ?_;refine v_4 ?_;exact⟨CoC.one (by rw[btb];exact CoP.refl _),trivial⟩
def bg4 (l:List AS) (hl:l.length<=2000000):a7 bxr 87 [pP (psl 3 wC l)] (ae [pP (asl l)]):=by
 refine hpx (nt:=19) Tryz.func87 ?_;refine cr ?_;refine e9 0 rfl fun hn=>?_;refine w_6 ?_;refine d8 3 900 true 1 50 (lf sC []) bxc rfl (CoP.sl rfl (.inr rfl) (fun h=>h) (fun i j hi _=>absurd hi (bt9 i))) (.inr rfl) rfl ?_;refine bw (ka 6 (ka 7 kn)) km (fun i=>⟨[(3,some (.v (.one (.ref 900 (l.take i).length)))),(8,some (vI i))],[(900,some (.arr true 1 50 (l.take i).length (lf sC (l.take i))))]⟩) l.length kk ?_;rintro i hi;have htl:(l.take i).length=i:=by rw[btp];omega
 refine w_5 ?_;refine hcd ?_ ?_<;>intro h0
 ·
  have hil:i<l.length:=by omega
  refine w_7 ?_;refine m9 0 ?_;refine w_6 ?_;refine m9 1 ?_;refine r9 2 true ?_;refine w_6 ?_;exact lpx (i+1) ⟨⟨⟨_,rfl,(bo (aj hil))⟩,tt⟩,⟨⟨_,rfl,(bq (aj hil) (CoP.refl _))⟩,trivial⟩⟩
 obtain rfl:i=l.length:=by omega
 refine w_2 ?_;refine bj 3 rfl rfl rfl ?_;refine v_4 ?_;exact⟨CoC.one (by rw[btb];exact CoP.refl _),trivial⟩
def bg3 (t:Tbl) (hT:TOk t) (h12:t.attrs.length<=12) (h200:t.rows.length<=200):a7 bxr 32 [t.pc] (ae [pP (asl (b83 t)),pI 0]):=by
 refine hpx (nt:=17) Tryz.func32 ?_;have hna:=hT.na;refine sx7 ?_;refine m9 0 ?_;refine w_7 ?_;refine rc rfl rfl rfl rfl rfl rfl (wgx Tryz.func85) (bad t hT h12 h200) (⟨CoC.refl _,CoC.refl _,CoC.refl _,trivial⟩) rfl rfl ?_;refine jk ?_;refine qcx (wgx Tryz.func88) (bqk t hT) ?_;refine qcx (wgx Tryz.func87) (bg4 (dl (ig (prs t.rows))) (bth ak9 (b0f hT.nr))) ?_;refine qcx (wgx Tryz.func86) (bnp t.attrs.length (dl (ig (prs t.rows))) hna) ?_;refine v_4 ?_;exact⟨CoC.refl _,CoC.refl _,trivial⟩
end
section
section
variable {n:Int}{l:List Fd}
section
variable {ps:List AS}
def az4 {s q:AS} (h:q∈o3 n l ps s):q∈ps:=by
 unfold o3 at h;split at h
 · exact List.mem_of_mem_eraseIdx h
 exact h
variable {p0:List AS}
def ajr:∀{j:Nat} {q:AS},q∈a5h n l p0 j->q∈p0
 |0,q,h=>h
 |j+1,q,h=>ajr (j:=j) (az4 h)
def b2o {s:AS} (h:ps.Nodup):(o3 n l ps s).Nodup:=by
 unfold o3;split
 · exact h.sublist (List.eraseIdx_sublist _ _)
 exact h
def aq5 (h:p0.Nodup):∀j,(a5h n l p0 j).Nodup
 |0=>h
 |j+1=>b2o (aq5 h j)
def awg {s:AS} (h:lj n l ps=true):lj n l (o3 n l ps s)=true:=by
 unfold o3;split
 · rename_i e;exact e
 exact h
def aev (h:lj n l p0=true):∀j,lj n l (a5h n l p0 j)=true
 |0=>h
 |j+1=>awg (aev h j)
def bc3 (hv:aw n l=0) {a b:AS} (h:f0 n l a=true) (hs:sub a b) (hb:sub b (a6 n)):f0 n l b=true:=by
 obtain⟨_,_,h3⟩:=of_decide_eq_true h;refine decide_eq_true ⟨hv,hb,d7 (ol hv hb) ?_⟩;rw[<- h3];exact wc hs
def bkr(hv:aw n l=0):∀(k:Nat) (s:AS),bsz s<=k->f0 n l s=true->∃q,kp n l q=true:=by
 intro k
 induction k with
 | zero =>
  intro s hs h;refine⟨s,at8 h fun a ha=>?_⟩;rw[bwi];left;rw[btf];intro hb;have h0:sub (noA s a) s:=a3a
  have hne:noA s a≠s:=fun e=>by
   have h1:(noA s a).getLsbD a=true:=by rw[e];exact hb
   unfold noA at h1
   have ha32:a<32:=by
    apply Classical.byContradiction;intro hn;rw[BitVec.getLsbD_of_ge s a bx5]at hb;cases hb
   rw[bta,bu9,er a a ha32]at h1;simp at h1
  have:=ady h0 hne;omega
 | succ k ih =>
  intro s hs h;by_cases hk:∀a,a<n.toNat->(s.getLsbD a&&f0 n l (noA s a))=false
  · exact⟨s,at8 h hk⟩
  obtain⟨a,ha⟩:=Classical.not_forall.1 hk;obtain⟨ha,hb⟩:=Classical.not_imp.1 ha;rw[Bool.not_eq_false,bt3]at hb;obtain⟨hb,hc⟩:=hb
  have hne:noA s a≠s:=fun e=>by
   have h1:(noA s a).getLsbD a=true:=by rw[e];exact hb
   unfold noA at h1
   have ha32:a<32:=by
    apply Classical.byContradiction;intro hn;rw[BitVec.getLsbD_of_ge s a bx5]at hb;cases hb
   rw[bta,bu9,er a a ha32]at h1;simp at h1
  have:=ady (a3a) hne;exact ih (noA s a) bx5 hc
def atj (h8:fb n l 8=0) {q:AS} (h:q∈dj n l):sub q (a6 n)/\dx l q=false:=by
 rw[anm h8,buw]at h;refine⟨aj2 h.1, ?_⟩;have:=h.2;rw[btv]at this;exact this
def b1n {L:List AS} {t:AS} (h:a9w l (dl L) t):a9w l L t:=fun p hp=>by
 obtain⟨y,hy,hpy⟩:=aih hp;refine bz (mh ?_ ?_) (h y hy)
 · exact bz gc (wc (mh gc (bz lw hpy)))
 exact bz lw hpy
def azz {L:List AS} (h:j0 l L=true):j0 l (dl L)=true:=by
 rw[adh]at h ⊢;intro f hf;have:=of_decide_eq_true (h f hf);refine decide_eq_true (bz this (ai1 (b1n (ac5 l (dl L) f.lhs)) aae))
def bof(h8:fb n l 8=0)(hall:j0 l (dj n l)=true):lj n l (dl (dj n l))=true:=by
 obtain⟨hv,hn8⟩:=pk h8;obtain⟨h0,h16,_⟩:=d9 hv;have hin:∀q,q∈dl (dj n l)->sub q (a6 n):=fun q hq=>(atj h8 (abp.1 hq).1).1
 have e1:orL (dl (dj n l))=a6 n:=by
  refine d7 (ayg hin) (ai.2 fun i hi hb=>?_)
  have hsub:sub ((1:AS)<<<i) (a6 n):=ai.2 fun k hk hbk=>by
   rw[er i k hk]at hbk;rw[of_decide_eq_true hbk];exact hb
  obtain⟨y,hy,hiy⟩:=aih (alh h8 hsub b3r);refine ai.1 (aiv hy) i hi (ai.1 hiy i hi ?_);rw[er i i hi];simp
 have e2:=azz hall;have hfull:f0 n l (a6 n)=true:=decide_eq_true ⟨hv,dw _,d7 (ol hv (dw _)) jf⟩;obtain⟨k,hk⟩:=bkr hv _ (a6 n) (bt2 _) hfull
 have hks:f0 n l k=true:=by
  unfold kp at hk;rw[bt3]at hk;exact hk.1
 obtain⟨_,hksub,_⟩:=of_decide_eq_true hks;obtain⟨y,hy,hky⟩:=aih (alh h8 hksub (b49 bx5 hk));have e3:(dl (dj n l)).any (f0 n l)=true:=bue.2 ⟨y,hy,bc3 hv hks hky (hin y hy)⟩;unfold lj;rw[e2,e3,decide_eq_true e1];rfl
def b75 (h:lj n l ps=true):orL ps=a6 n/\j0 l ps=true/\∃k,k∈ps/\f0 n l k=true:=by
 unfold lj at h;rw[bt3,bt3]at h;obtain⟨k,hk,hs⟩:=bue.1 h.2;exact⟨of_decide_eq_true h.1.1,h.1.2,k,hk,hs⟩
def bcv (h8:fb n l 8=0) (h6:n<=6) (hp:ml n l=true):lsC n (jg n l) l []=0/\a5t n l (jg n l)=true/\j0 l (jg n l)=true:=by
 obtain⟨hv,_⟩:=pk h8;obtain⟨h0,h16,_⟩:=d9 hv
 have hall:a01 n l=true:=by
  unfold ml at hp;rw[decide_eq_true h8,bu0]at hp;exact hp
 have e:=(b0g h8 hall).1;have hg:lj n l (jg n l)=true:=by rw[e];exact aev (bof h8 hall) _
 have hmem:∀q,q∈jg n l->sub q (a6 n)/\dx l q=false:=fun q hq=>by
  rw[e]at hq;exact atj h8 (abp.1 (ajr hq)).1
 obtain⟨g1,g2,k,hk,g3⟩:=b75 hg;have hlv:lvE n (jg n l)=0:=bn0 h0 h6 (by rw[e];exact aq5 (a5f _) _) (fun q hq=>(hmem q hq).1) (List.length_pos_of_mem hk) (by rw[g1];exact dw _);obtain⟨c1,c2⟩:=bc1 hlv (b5g hv);obtain⟨_,_,hkey⟩:=of_decide_eq_true g3;refine⟨c1, ?_,g2⟩;unfold a5t;rw[c2.2 (al2 h0 h16 hk hkey g2),bu0,btv,buu];intro q hq;rw[(hmem q hq).2];decide
end
end
end
section
def boo(l:List Fd)(p:AS)(k:Nat):List Fd:=(((List.range k).map (BitVec.ofNat 32)).filter fun s=>decide (sub s p)).map fun s=>⟨s,clo l s&&&p⟩
def bsm(l:List Fd)(ps:List AS)(i:Nat):List Fd:=(ps.take i).flatMap fun p=>boo l p (p.toNat+1)
def bsp(a b:List Fd):Bool:=b.any fun f=>!imp a f
def abv(n:Int)(l:List Fd)(ps:List AS):Int:=if aw n l=0 then lsC n ps l []else aw n l
def a0z(n:Int)(l:List Fd)(ps:List AS):Bool:=decide (aw n l=0)&&(lsB n ps l []&&j0 l ps&&ps.all (ew l))
section
variable {n:Int}{l:List Fd}{ps:List AS}
def bo5(h:¬aw n l=0):abv n l ps=aw n l/\a0z n l ps=false:=⟨if_neg h,by unfold a0z;rw[decide_eq_false h];rfl⟩
def boj (h:aw n l=0) (h2:¬lvE n ps=0):abv n l ps=lvE n ps/\a0z n l ps=false:=by
 obtain⟨e1,e2⟩:=bn3 (p:=l) (m:=[]) h2;exact⟨(if_pos h).trans e1,by unfold a0z;rw[e2];simp⟩
def bnl (h:aw n l=0) (h2:¬lsC n ps l []=0):abv n l ps=lsC n ps l []/\a0z n l ps=false:=by
 refine⟨if_pos h, ?_⟩;have:lsB n ps l []=false:=by unfold lsB;rw[decide_eq_false h2];rfl
 unfold a0z;rw[this];simp
def bmj (h:aw n l=0) (h2:lsC n ps l []=0):abv n l ps=0/\a0z n l ps=(lsB n ps l []&&j0 l ps&&ps.all (ew l)):=by
 refine⟨(if_pos h).trans h2, ?_⟩;unfold a0z;rw[decide_eq_true h,bu0]
end
end
section
def bri(l0:List Fd)(x:Fd)(a:Nat):Prop:=x.lhs.getLsbD a=true->imp l0 (aqg x a)=false
def bst(l:List Fd):Prop:=∀f∈l,∃k:Nat,f.rhs=(1:AS)<<<k
section
variable {n:Int}{l:List Fd}
end
end
section
def boz(R:List Row)(a:Nat):List Val:=R.map fun r=>r.vals.getD a default
def b5u(R:List Row)(a:Nat):List Val:=ja (biv a2t (boz R a))
def b8o(R:List Row)(n:Nat):List (List Val):=(List.range n).map (b5u R)
def br9(R:List Row)(n a:Nat):List (List Val):=(List.range n).map fun i=>if i<a then b5u R i else[]
def vlC(l:List Val):Nat->PV:=fun _=>vals l
abbrev br0(l:List (List Val)):PV:=psl 1 vlC l
def awt(R:List Row)(s:AS)(k:Nat)(e:ByteArray):Bool:=R.any fun r=>decide (wg (r.vals.take k) s=e)
def bnc (R:List Row) (s:AS) (k:Nat):MK->Option PV
 | .s b=>if awt R s k b=true then some (.raw (.bool true))else none
 | .i _ _=>none
def mpC(N:Nat)(R:List Row)(s:AS)(k:Nat):PV:=mpP .str N (bnc R s k)
def lvF(R:List Row)(s:AS):Nat->Nat->PV:=fun k _=>mpC R.length R s k
def lvC(R:List Row)(n:Nat)(s:AS):Nat->PV:=fun _=>.sl (n+1) 1 false (lvF R s)
def lvT(R:List Row)(s:AS)(a:Nat):Nat->Nat->PV:=fun k _=>if k<a then mpC R.length R s k else .raw (.map none)
def bmx(R:List Row)(vs:List Val)(m:Nat)(s:AS):Bool:=decide (1000<m)||!awt R s vs.length (wg vs s)
def b7h(R:List Row)(ps:List AS)(vs:List Val)(m:Nat):Bool:=ps.any (bmx R vs m)
def b6b (R:List Row) (ps:List AS) (cols:List (List Val)):Nat->List Val->List (List Val)->List (List Val)
 |0,vs,acc=>if b7h R ps vs acc.length=true then acc else acc++[vs]
 |d+1,vs,acc=>if b7h R ps vs acc.length=true then acc else(cols.getD vs.length default).foldl (fun acc v=>b6b R ps cols d (vs++[v]) acc) acc
def b8x(R:List Row)(ps:List AS)(n:Nat):List (List Val):=b6b R ps (b8o R n) n [] []
def bk0(l:List (List Val)):List Row:=(List.range l.length).map fun(i:Nat)=>⟨(i:Int)+1,l.getD i []⟩
def bm8 (t:Tbl) (ps:List AS):Int :=
 if ey t≠0 then ey t else if lvE t.attrs.length ps≠0 then lvE t.attrs.length ps else if 1000<(b8x t.rows ps t.attrs.length).length then 3 else 0
def brk(t:Tbl)(ps:List AS):Tbl:=if bm8 t ps=0 then⟨t.name,t.attrs,bk0 (b8x t.rows ps t.attrs.length)⟩else T0
def bse (R:List Row) (ps:List AS) (cols:List (List Val)) (d:Nat) (vs:List Val) (acc:List (List Val)) (i:Nat):List (List Val) :=
 ((cols.getD vs.length default).take i).foldl (fun acc v=>b6b R ps cols d (vs++[v]) acc) acc
end
section
structure Rcp where
 n:BitVec 8
 f:List Dp
 m:List Dp
 p:List (BitVec 8)
deriving Inhabited
def Rcp.num(d:Rcp)(k:Nat):Int:=1+((d.n.toNat%k:Nat):Int)
abbrev Rcp.pc(d:Rcp):PC:=.agg [.raw (.int .u8 (d.n.toNat:Int)),dpl d.f,dpl d.m,psl 1 u8C d.p]
def u8S(n:Int)(b:BitVec 8):AS:=b.setWidth 32&&&a6 n
end
section
def stQ(x y:St):Bool:=(x.1==y.1)&&(decide ((x.2.1:Int)=(y.2.1:Int))&&(decide ((x.2.2.1:Int)=(y.2.2.1:Int))&&decide ((x.2.2.2:Int)=(y.2.2.2:Int))))
end
section
open Go.Proofs
abbrev Rcp.fs(d:Rcp)(k:Nat):List Fd:=d.f.map (Dp.fd (d.num k))
abbrev Rcp.ms(d:Rcp)(k:Nat):List Fd:=d.m.map (Dp.fd (d.num k))
abbrev Rcp.ps(d:Rcp)(k:Nat):List AS:=d.p.map (u8S (d.num k))
abbrev Rcp.t0(d:Rcp)(k:Nat):List Rw:=ck (cq (d.num k) (d.ps k))
section
variable {n:Int}{p m:List Fd}{l0 l:List Rw}
end
end
section
abbrev bmw:PV:=.sl 0 3 true (lf Val.c [])
def brn(R:List Row)(a:Nat):Nat->Nat->PV:=fun i _=>if i<a then vals (b5u R i)else bmw
end
section
abbrev RSt:=Bool×Int×Int×Int
abbrev RSt.c(s:RSt):Nat->PV:=fun j=>[.raw (.bool s.1), .raw (.int .i64 s.2.1), .raw (.int .i64 s.2.2.1), .raw (.int .i64 s.2.2.2)].getD j .any
abbrev RSt.pc(s:RSt):PC:=.agg [.raw (.bool s.1), .raw (.int .i64 s.2.1), .raw (.int .i64 s.2.2.1), .raw (.int .i64 s.2.2.2)]
abbrev bso(l:List RSt):PV:=psl 4 RSt.c l
def St.r(s:St):RSt:=(s.1,(s.2.1:Int),(s.2.2.1:Int),(s.2.2.2:Int))
abbrev b3n(a:Int)(l:List Rw)(p m:List Fd)(s:RSt):Int×List Rw×Int:=bg1 a l p m s.1 s.2.1 s.2.2.1 s.2.2.2
def acb (n:Int) (p m:List Fd):Int->List Rw->List RSt->Bool
 |_,l,[]=>av9 n l
 |a,l,s::r=>if(b3n a l p m s).2.2=0 then acb n p m (b3n a l p m s).1 (b3n a l p m s).2.1 r else false
def bs0(n:Int)(ps:List AS)(p m:List Fd)(sts:List RSt):Bool:=decide (lvE n ps=0)&&(decide (eo n p m=0)&&acb n p m n (ck (cq n ps)) sts)
structure awu (n:Int) (ps:List AS) (p m:List Fd) (sts:List RSt) (x:Nat×Int×List Rw×Int):Prop where
 le:x.1<=sts.length
 ok:x.2.2.2=0->acb n p m n (ck (cq n ps)) sts=acb n p m x.2.1 x.2.2.1 (sts.drop x.1)
 no:¬x.2.2.2=0->acb n p m n (ck (cq n ps)) sts=false
section
variable {n:Int}{ps:List AS}{p m:List Fd}{sts:List RSt}
def awu.start:awu n ps p m sts (0,n,ck (cq n ps),0):=⟨bt6 _,fun _=>rfl,fun h=>absurd rfl h⟩
def awu.fin {x:Nat×Int×List Rw×Int} (h:awu n ps p m sts x) (hi:¬x.1<sts.length) (h0:x.2.2.2=0):acb n p m n (ck (cq n ps)) sts=av9 n x.2.2.1:=by
 rw[h.ok h0,List.drop_of_length_le bx5,acb]
end
def bop(r:Rw):List Val:=r.map fun z=>⟨1,z,emp⟩
def bot(l:List Rw):List Row:=(List.range l.length).map fun(i:Nat)=>⟨(i:Int)+1,bop (l.getD i default)⟩
def bpn(n:Int)(ps:List AS)(p m:List Fd):Int:=if lsC n ps p m≠0 then lsC n ps p m else if av9 n (lsT n ps p m).2.1.2=true then 10 else 0
def bsx(n:Int)(ps:List AS)(p m:List Fd):Tbl:=if bpn n ps p m=0 then⟨⟨#[116]⟩,ad4.take n.toNat,bot (lsT n ps p m).2.1.2⟩else T0
section
variable {n:Int}{ps:List AS}{p m:List Fd}
end
def brs(n:Int)(a b:AS)(l:List Fd):Bool:=decide (aw n l=0)&&(decide (a|||b=a6 n)&&(decide (sub a (clo l (a&&&b)))||decide (sub b (clo l (a&&&b)))))
end
section
section
variable {α:Type}[DecidableEq α]{c:α->α->Int}
def bfr (c:α->α->Int) (x:α):List α->List α
 | []=>[x]
 |y::l=>if c x y<0 then x::y::l else if c x y=0 then y::l else y::bfr c x l
def bs3(c:α->α->Int)(l:List α):List α:=l.foldr (bfr c) []
end
def awR:List Row:=[⟨1,[⟨1,0,emp⟩,⟨1,1,emp⟩,⟨1,5,emp⟩]⟩,⟨2,[⟨1,6,emp⟩,⟨1,1,emp⟩,⟨1,2,emp⟩]⟩]
def awT:Tbl:=⟨⟨#[116]⟩,ad4.take 3,awR⟩
end
section
def bm3(l:List Row)(v:List Val):Bool:=l.any fun r=>decide (r.vals=v)
def b77 (s:AS):Nat->List Val->List Val
 |_,[]=>[]
 |a,v::l=>if en s (a:Int)=true then v::b77 s (a+1) l else b77 s (a+1) l
def sel(l:List Val)(s:AS):List Val:=b77 s 0 l
def ahj(a b:Row)(s:AS):Bool:=decide (sel a.vals s=sel b.vals s)
def bqu(t:Tbl)(q:AS)(r:Row)(n:Int):Bool:=t.rows.any fun x=>ahj x r (q&&&a6 n)
def bh4(a b:List Row):Bool:=a.all fun r=>bm3 b r.vals
def br4(a b:Tbl):Bool:=decide (a.attrs=b.attrs)&&(bh4 a.rows b.rows&&bh4 b.rows a.rows)
def bm9(a b:Tbl)(r s:Row)(i:Nat):Bool:=decide (agd a.attrs (b.attrs.getD i default)<0)||decide (a2t (r.vals.getD (agd a.attrs (b.attrs.getD i default)).toNat default) (s.vals.getD i default)=0)
def bq8(a b:Tbl)(r s:Row):Bool:=(List.range b.attrs.length).all (bm9 a b r s)
def brd(a b:Tbl):Bool:=b.rows.all fun s=>a.rows.any fun r=>bq8 a b r s
def bip(t:Tbl)(d:Fd)(i k:Nat):Bool:=!ahj (t.rows.getD i default) (t.rows.getD k default) d.lhs||ahj (t.rows.getD i default) (t.rows.getD k default) d.rhs
def fdB(t:Tbl)(d:Fd):Bool:=(List.range t.rows.length).all fun i=>(List.range i).all fun k=>bip t d i k
def blq(t:Tbl)(a b:Row)(left:AS):Bool:=t.rows.any fun x=>ahj x a left&&ahj x b (a6 t.attrs.length&&&~~~left)
def bpt(t:Tbl)(d:Fd)(i k:Nat):Bool:=!ahj (t.rows.getD i default) (t.rows.getD k default) d.lhs||blq t (t.rows.getD i default) (t.rows.getD k default) (d.lhs|||d.rhs)
def mvB(t:Tbl)(d:Fd):Bool:=(List.range t.rows.length).all fun i=>(List.range t.rows.length).all fun k=>bpt t d i k
end
section
def boq(n:Int):Prop:=-9223372036854775808<=n/\n<=9223372036854775807
def b8(l:List Int):List UInt8:=l.map fun n=>UInt8.ofNat n.toNat
def bra(v:Val):Prop:=dy v=true/\boq v.num
def byR(l:List Int):Prop:=∀x∈l,0<=x/\x<256
def bii (s:AS):Nat->List Val->List Int
 |_,[]=>[]
 |a,v::vs=>if s.getLsbD a=true then w4 v++bii s (a+1) vs else bii s (a+1) vs
end
section
section
variable {R:List Row}{ps:List AS}{cols:List (List Val)}{s:AS}{n:Nat}
def okJ(R:List Row)(ps:List AS)(vs:List Val):Bool:=ps.all fun s=>awt R s vs.length (wg vs s)
def bfi (R:List Row) (ps:List AS) (cols:List (List Val)):Nat->List Val->List (List Val)
 |0,vs=>if okJ R ps vs=true then[vs] else[]
 |d+1,vs=>if okJ R ps vs=true then(cols.getD vs.length default).flatMap fun v=>bfi R ps cols d (vs++[v]) else[]
def bru(R:List Row)(ps:List AS)(n:Nat):List (List Val):=bfi R ps (b8o R n) n []
end
end
section
section
variable {n:Int}{ps:List AS}{p m:List Fd}
end
def sgB(n:Int)(c:AS)(z:Int):Int:=if en c (z%n)=true then z%n else z
section
variable {n:Int}{P Q:AS}{p:List Fd}
end
end
section
section
variable {t:Tbl}{d:Fd}
end
section
variable {n:Int}{ps:List AS}{p m:List Fd}
end
def sgT(n:Nat)(w:List Val)(f:Nat->Row)(z:Int):Val:=if z<(n:Int)then w.getD z.toNat default else(f (z/n-1).toNat).vals.getD (z%n).toNat default
end
section
def fdP(d:Fd)(r k:AS):Option AS:=if(r ^^^ k)&&&d.lhs=0 then(if(r ^^^ k)&&&d.rhs=0 then none else some ((r ^^^ k)&&&d.rhs))else none
def fdQ(d:Fd)(T:List AS)(r:AS):Option AS:=T.findSome? (fdP d r)
def fdT(d:Fd)(T:List AS):Option AS:=T.findSome? (fdQ d T)
section
variable {T:List AS}{d:Fd}
def b31{s:AS}(h:fdT d T=some s):∃r∈T,∃k∈T,agB d r k=true/\s=(r ^^^ k)&&&d.rhs/\s≠0:=by
 unfold fdT at h;obtain⟨r,hr,h⟩:=bw5 h;unfold fdQ at h;obtain⟨k,hk,h⟩:=bw5 h;unfold fdP at h;split at h
 · rename_i h1
   split at h
   · cases h
   rename_i h2;cases h;exact⟨r,hr,k,hk,decide_eq_true h1,rfl,h2⟩
 cases h
theorem a1k (h:T.Nodup):T.length<=4294967296:=by
 have h1:(T.map BitVec.toNat).Nodup:=List.Pairwise.map _ (fun a b hab e=>hab (bu2 e)) h
 have h2:∀x∈T.map BitVec.toNat,x<4294967296:=by
  intro x hx;obtain⟨a,_,rfl⟩:=bto.1 hx;exact a.isLt
 have hlen:(T.map BitVec.toNat).length=T.length:=btw _;rw[<- hlen]
 have key:∀(N:Nat) (l:List Nat),l.Nodup->(∀x∈l,x<N)->l.length<=N:=by
  intro N
  induction N with
  | zero =>
   intro l _ hl
   cases l with
   |nil=>exact bt2 _
   |cons a l=>exact absurd (hl a bx8) (bt9 _)
  | succ N ih =>
   intro l hn hl
   have h3:=ih (l.filter fun x=>!decide (x=N)) (hn.filter _) fun x hx=>by
    grind
   have h4:l.length<=(l.filter fun x=>!decide (x=N)).length+1:=by
    have h5:∀l:List Nat,l.length=(l.filter fun x=>!decide (x=N)).length+l.countP fun x=>decide (x=N):=by
     intro l
     induction l with
     |nil=>rfl
     | cons a l ih =>
      grind
    have h6:=h5 l
    have h7:(l.countP fun x=>decide (x=N))<=1:=by
     have:=hn.count (a:=N)
     grind
    omega
   omega
 exact key _ _ h1 h2
def xe {i:Nat} (hi:i<32):(orL T).getLsbD i=T.any fun r=>r.getLsbD i:=by
 unfold orL
 have:∀(T:List AS) (o:AS),(T.foldl (·|||·) o).getLsbD i=(o.getLsbD i||T.any fun r=>r.getLsbD i):=by
  intro T
  induction T with
  |nil=>intro o;simp
  |cons a T ih=>intro o;rw[bw1,ih,buy,List.any_cons,Bool.or_assoc]
 rw[this];simp
theorem bfd {s:AS}:orL (ud T s)=orL T&&&~~~s:=by
 apply t8;intro i hi;rw[xe hi,db hi,xe hi]
 cases hs:s.getLsbD i with
 | true =>
  simp only[bwx,Bool.and_false];rw[buu];intro z hz;obtain⟨r,hr,rfl⟩:=acp.1 hz
  grind
 | false =>
  simp only[bw8,Bool.and_true];rw[bv5,bue,bue];constructor
  · rintro ⟨z,hz,hb⟩
    obtain⟨r,hr,rfl⟩:=acp.1 hz
    grind
  rintro⟨r,hr,hb⟩;exact⟨r&&&~~~s,acp.2 ⟨r,hr,rfl⟩,by rw[db hi,hb,hs];rfl⟩
theorem ahv {s:AS} (h:fdT d T=some s):(orL (ud T s)).toNat<(orL T).toNat:=by
 obtain⟨r,hr,k,hk,_,rfl,hz⟩:=b31 h;rw[bfd];refine vz gc fun e=>?_;obtain⟨i,hi,hb⟩:=apf hz;have h1:=congrArg (fun z:AS=>z.getLsbD i) e;simp only[db hi,hb,bwx,Bool.and_false]at h1;have h1:(orL T).getLsbD i=false:=h1.symm;rw[xe hi,buu]at h1
 grind
def sx (d:Fd):Nat->List AS->List AS
 |0,T=>T
 | f+1,T=>match fdT d T with
  |none=>T
  |some s=>sx d f (ud T s)
def mvS(d:Fd)(T:List AS)(i k:Nat):List AS:=if agB d (T.getD i default) (T.getD k default)=true then sw T (a2h d (T.getD i default) (T.getD k default))else T
def mvI (d:Fd):Nat->List AS->Nat->Nat->List AS
 |0,T,_,_=>T
 |f+1,T,i,k=>if k<T.length then mvI d f (mvS d T i k) i (k+1)else T
def mvO (d:Fd):Nat->List AS->Nat->List AS
 |0,T,_=>T
 |f+1,T,i=>if i<T.length then mvO d f (mvI d 8589934592 T i 0) (i+1)else T
theorem aa3 (d:Fd) (T:List AS) (i k:Nat):T <+: mvS d T i k:=by
 unfold mvS sw
 grind
theorem a90 (d:Fd):∀(f:Nat) (T:List AS) (i k:Nat),T <+: mvI d f T i k
 |0,T,_,_=>List.prefix_refl _
 | f+1,T,i,k=>by
  unfold mvI;split
  · exact(aa3 d T i k).trans (a90 d f _ i (k+1))
  grind
theorem atf (d:Fd):∀(f:Nat) (T:List AS) (i:Nat),T <+: mvO d f T i
 |0,T,_=>List.prefix_refl _
 | f+1,T,i=>by
  unfold mvO;split
  · exact(a90 d _ T i 0).trans (atf d f _ (i+1))
  grind
def azt {i k:Nat} (h:T.Nodup):(mvS d T i k).Nodup:=by
 unfold mvS;split
 · exact zf h
 exact h
def anr:∀{f:Nat} {T:List AS} {i k:Nat},T.Nodup->(mvI d f T i k).Nodup
 |0,T,_,_,h=>h
 | f+1,T,i,k,h=>by
  unfold mvI;split
  · exact anr (azt h)
  exact h
def aop:∀{f:Nat} {T:List AS} {i:Nat},T.Nodup->(mvO d f T i).Nodup
 |0,T,_,h=>h
 | f+1,T,i,h=>by
  unfold mvO;split
  · exact aop (anr h)
  exact h
abbrev TC:=List AS×Bool
def FU2:Nat:=8589934592
def fdR(x:TC)(d:Fd):TC:=(sx d FU2 x.1,x.2||(fdT d x.1).isSome)
def mvR(x:TC)(d:Fd):TC:=(mvO d FU2 x.1 0,x.2||decide (x.1.length<(mvO d FU2 x.1 0).length))
def yy(fs ms:List Fd)(T:List AS):TC:=ms.foldl mvR (fs.foldl fdR (T,false))
def chF (fs ms:List Fd):Nat->List AS->List AS
 |0,T=>T
 |f+1,T=>if(yy fs ms T).2=true then chF fs ms f (yy fs ms T).1 else(yy fs ms T).1
def muT(T:List AS):Nat:=(orL T).toNat*FU2+(4294967296-T.length)
def a1v {f:Nat} {s:AS} (h:fdT d T=some s):sx d (f+1) T=sx d f (ud T s):=by
 show(match fdT d T with|none=>T|some s=>sx d f (ud T s))=_;rw[h]
def a8k {f:Nat} (h:fdT d T=none):sx d f T=T:=by
 cases f with
 |zero=>rfl
 | succ f =>
  show(match fdT d T with|none=>T|some s=>sx d f (ud T s))=_;rw[h]
variable {P:List AS->Prop}
def amq (hP:∀T s,P T->fdT d T=some s->P (ud T s)):∀(f:Nat) (T:List AS),P T->P (sx d f T)
 |0,T,h=>h
 | f+1,T,h=>by
  cases hq:fdT d T with
  |none=>rw[a8k hq];exact h
  |some s=>rw[a1v hq];exact amq hP f _ (hP T s h hq)
theorem at3 (hP:∀T r k,P T->r∈T->k∈T->agB d r k=true->P (sw T (a2h d r k))):∀(f:Nat) (T:List AS) (i k:Nat),i<T.length->P T->P (mvI d f T i k)
 |0,T,_,_,_,h=>h
 | f + 1,T,i,k,hi,h=>by
  unfold mvI;split
  · rename_i hk
    refine at3 hP f _ i (k+1) (bvt hi (aa3 d T i k).length_le) ?_;unfold mvS
    grind
  exact h
def ah6(hP:∀T r k,P T->r∈T->k∈T->agB d r k=true->P (sw T (a2h d r k))):∀(f:Nat) (T:List AS) (i:Nat),P T->P (mvO d f T i)
 |0,T,_,h=>h
 | f + 1,T,i,h=>by
  unfold mvO;split
  · rename_i hi
    exact ah6 hP f _ (i+1) (at3 hP _ T i 0 hi h)
  exact h
variable {fs:List Fd}
def ahf (hP:∀d∈fs,∀T s,P T->fdT d T=some s->P (ud T s)):∀(ds:List Fd) (x:TC),(∀d∈ds,d∈fs)->P x.1->P (ds.foldl fdR x).1
 | [],x,_,h=>h
 |d::ds,x,hd,h=>ahf hP ds (fdR x d) (fun e he=>hd e (by simp[he])) (amq (hP d (hd d bx8)) _ _ h)
variable {ms:List Fd}
def asr (hP:∀d∈ms,∀T r k,P T->r∈T->k∈T->agB d r k=true->P (sw T (a2h d r k))):∀(ds:List Fd) (x:TC),(∀d∈ds,d∈ms)->P x.1->P (ds.foldl mvR x).1
 | [],x,_,h=>h
 |d::ds,x,hd,h=>asr hP ds (mvR x d) (fun e he=>hd e (by simp[he])) (ah6 (hP d (hd d bx8)) _ _ _ h)
def bah (h1:∀d∈fs,∀T s,P T->fdT d T=some s->P (ud T s)) (h2:∀d∈ms,∀T r k,P T->r∈T->k∈T->agB d r k=true->P (sw T (a2h d r k))) (h:P T):P (yy fs ms T).1 :=
 asr h2 ms _ (fun _ h=>h) (ahf h1 fs (T,false) (fun _ h=>h) h)
def b8l:∀d∈fs,∀(T:List AS) (s:AS),T.Nodup->fdT d T=some s->(ud T s).Nodup:=fun _ _ T s _ _=>aeh T s
def bnm:∀d∈ms,∀(T:List AS) (r k:AS),T.Nodup->r∈T->k∈T->agB d r k=true->(sw T (a2h d r k)).Nodup:=fun _ _ _ _ _ h _ _ _=>zf h
def b27 {A B:List AS} (h:(orL B).toNat<(orL A).toNat):muT B<muT A:=by
 unfold muT;have h1:((orL B).toNat+1)*FU2<=(orL A).toNat*FU2:=bte _ h;rw[buh]at h1;have:FU2=8589934592:=rfl;omega
theorem b9m {A B:List AS} (hp:A <+: B) (ho:(orL B).toNat=(orL A).toNat) (hB:B.length<=4294967296):muT B<=muT A/\(A.length<B.length->muT B<muT A):=by
 unfold muT;rw[ho]
 grind
theorem b9v {r k:AS} (hr:r∈T) (hk:k∈T):orL (sw T (a2h d r k))=orL T:=by
 apply t8;intro i hi;rw[xe hi,xe hi,bv5,bue,bue];constructor
 · rintro ⟨z,hz,hb⟩
   rcases ach.1 hz with hz|rfl
   · grind
   rw[b71 hi]at hb
   grind
 rintro⟨z,hz,hb⟩;exact⟨z,ach.2 (.inl hz),hb⟩
def bb1 {f:Nat} {i:Nat}:orL (mvO d f T i)=orL T :=
 ah6 (P:=fun X=>orL X=orL T) (fun X r k h hr hk _=>(b9v hr hk).trans h) f T i rfl
theorem ati {T0:List AS} (f:Nat):∀(T:List AS),muT T<=muT T0->muT (sx d f T)<=muT T0:=by
 induction f with
 |zero=>intro T h;exact h
 | succ f ih =>
  intro T h
  cases hq:fdT d T with
  |none=>rw[a8k hq];exact h
  | some s =>
   rw[a1v hq];have h1:=b27 (ahv hq)
   grind
def bja (x:TC) (d:Fd):muT (fdR x d).1<=muT x.1/\(x.2=false->(fdR x d).2=true->muT (fdR x d).1<muT x.1):=by
 refine⟨ati _ _ (bt2 _),fun h1 h2=>?_⟩;unfold fdR at h2 ⊢;rw[h1,Bool.false_or,Option.isSome_iff_exists]at h2;obtain⟨s,hs⟩:=h2;show muT (sx d FU2 x.1)<_;rw[show FU2=8589934591+1 from rfl,a1v hs];exact Nat.lt_of_le_of_lt (ati _ _ (bt2 _)) (b27 (ahv hs))
theorem bhw {x:TC} (hn:x.1.Nodup) (d:Fd):muT (mvR x d).1<=muT x.1/\(x.2=false->(mvR x d).2=true->muT (mvR x d).1<muT x.1):=by
 have h:=b9m (atf d FU2 x.1 0) (congrArg BitVec.toNat bb1) (a1k (aop hn));refine⟨h.1,fun h1 h2=>h.2 ?_⟩;unfold mvR at h2
 grind
theorem ast:∀(ds:List Fd) (x:TC),muT (ds.foldl fdR x).1<=muT x.1/\(x.2=false->(ds.foldl fdR x).2=true->muT (ds.foldl fdR x).1<muT x.1)
 | [],x=>⟨bt2 _,fun h k=>by simp only[List.foldl_nil]at k;rw[h]at k;cases k⟩
 | d::ds,x=>by
  obtain⟨a1,a2⟩:=bja x d;obtain⟨b1,b2⟩:=ast ds (fdR x d)
  grind
theorem aun:∀(ds:List Fd) (x:TC),x.1.Nodup->muT (ds.foldl mvR x).1<=muT x.1/\(x.2=false->(ds.foldl mvR x).2=true->muT (ds.foldl mvR x).1<muT x.1)
 | [],x,_=>⟨bt2 _,fun h k=>by simp only[List.foldl_nil]at k;rw[h]at k;cases k⟩
 | d::ds,x,hn=>by
  obtain⟨a1,a2⟩:=bhw hn d;obtain⟨b1,b2⟩:=aun ds (mvR x d) (aop hn)
  grind
theorem bhg (hn:T.Nodup) (h:(yy fs ms T).2=true):muT (yy fs ms T).1<muT T:=by
 unfold yy at h ⊢;obtain⟨a1,a2⟩:=ast fs (T,false);have hn2:(fs.foldl fdR (T,false)).1.Nodup:=ahf b8l fs (T,false) (fun _ h=>h) hn;obtain⟨b1,b2⟩:=aun ms (fs.foldl fdR (T,false)) hn2
 grind
def MU:Nat:=73786976294838206464
def bgt (T:List AS):muT T<MU:=by
 unfold muT;have h:=(orL T).isLt;have h1:((orL T).toNat+1)*FU2<=4294967296*FU2:=bte _ h;rw[buh]at h1;have e:FU2=8589934592:=rfl;have e2:MU=73786976294838206464:=rfl;omega
def b53(rest:AS):List AS:=sw [0] rest
def chT(fs ms:List Fd)(rest:AS):List AS:=chF fs ms MU (b53 rest)
def bn7(rest:AS):(b53 rest).Nodup:=zf bx8
end
end
section
open Go.Proofs
def sT:List Rw:=[[0,1,5],[0,7,2]]
def fdX:List Fd:=[⟨1,2⟩]
end
section
structure MvO (d:Fd) (T0:List AS) (x:Nat×List AS×Nat):Prop where
 nd:x.2.1.Nodup
 pre:T0 <+: x.2.1
 res:mvO d x.1 x.2.1 x.2.2=mvO d FU2 T0 0
 le:x.2.2<=x.2.1.length
 fuel:4294967296<x.1+x.2.2
structure MvI (d:Fd) (T:List AS) (i:Nat) (x:Nat×List AS×Nat):Prop where
 nd:x.2.1.Nodup
 pre:T <+: x.2.1
 res:mvI d x.1 x.2.1 i x.2.2=mvI d 8589934592 T i 0
 le:x.2.2<=x.2.1.length
 fuel:4294967296<x.1+x.2.2
section
variable {d:Fd}{T0 T:List AS}{i f k:Nat}
theorem MvO.start(h:T.Nodup):MvO d T (FU2,T,0):=⟨h,List.prefix_refl _,rfl,bt6 _,by show 4294967296<8589934592+0;omega⟩
theorem MvI.start(h:T.Nodup):MvI d T i (8589934592,T,0):=⟨h,List.prefix_refl _,rfl,bt6 _,by show 4294967296<8589934592+0;omega⟩
theorem MvO.pos (h:MvO d T0 (f,T,i)):0<f/\T.length<=4294967296:=by
 have h1:=a1k h.nd;have h2:=h.le;have h3:=h.fuel;dsimp only at h1 h2 h3;omega
section
variable {U:List AS}
theorem MvI.pos (h:MvI d T i (f,U,k)):0<f/\U.length<=4294967296:=by
 have h1:=a1k h.nd;have h2:=h.le;have h3:=h.fuel;dsimp only at h1 h2 h3;omega
theorem MvO.done (h:MvO d T0 (f,T,i)) (hi:¬i<T.length):T=mvO d FU2 T0 0:=by
 have hp:=h.pos.1;have hr:mvO d f T i=mvO d FU2 T0 0:=h.res;obtain⟨g,rfl⟩:∃g,f=g+1:=⟨f-1,by omega⟩;unfold mvO at hr;rw[if_neg hi]at hr;exact hr
theorem MvI.done (h:MvI d T i (f,U,k)) (hk:¬k<U.length):U=mvI d 8589934592 T i 0:=by
 have hp:=h.pos.1;have hr:mvI d f U i k=mvI d 8589934592 T i 0:=h.res;obtain⟨g,rfl⟩:∃g,f=g+1:=⟨f-1,by omega⟩;unfold mvI at hr;rw[if_neg hk]at hr;exact hr
theorem MvI.next (h:MvI d T i (f,U,k)) (hk:k<U.length):MvI d T i (f-1,mvS d U i k,k+1):=by
 have hp:=h.pos.1;have hr:mvI d f U i k=mvI d 8589934592 T i 0:=h.res;obtain⟨g,rfl⟩:∃g,f=g+1:=⟨f-1,by omega⟩;unfold mvI at hr;rw[if_pos hk]at hr;have hf:4294967296<g+1+k:=h.fuel;exact⟨azt h.nd,h.pre.trans (aa3 d U i k),hr,bth hk (aa3 d U i k).length_le,by show 4294967296<g+(k+1);omega⟩
theorem MvO.next (h:MvO d T0 (f,T,i)) (hi:i<T.length) (hU:U=mvI d 8589934592 T i 0):MvO d T0 (f-1,U,i+1):=by
 subst hU;have hp:=h.pos.1;have hr:mvO d f T i=mvO d FU2 T0 0:=h.res;obtain⟨g,rfl⟩:∃g,f=g+1:=⟨f-1,by omega⟩;unfold mvO at hr;rw[if_pos hi]at hr;have hf:4294967296<g+1+i:=h.fuel;exact⟨anr h.nd,h.pre.trans (a90 d _ T i 0),hr,bth hi (a90 d _ T i 0).length_le,by show 4294967296<g+(i+1);omega⟩
end
end
end
section
structure ChI (l m:List Fd) (R:List AS) (x:Nat×List AS×Bool):Prop where
 nd:x.2.1.Nodup
 t:x.2.2=true->chF l m x.1 x.2.1=R/\muT x.2.1<x.1
 f:x.2.2=false->x.2.1=R
def bss(x:Nat×List AS×Bool):Nat:=x.1+(bif x.2.2 then 1 else 0)
theorem ChI.start(l m:List Fd)(rest:AS):ChI l m (chT l m rest) (MU,b53 rest,true):=⟨bn7 rest,fun _=>⟨rfl,bgt _⟩,fun h=>by cases h⟩
theorem ChI.next {l m:List Fd} {R T:List AS} {f:Nat} (h:ChI l m R (f,T,true)):ChI l m R (f-1,(yy l m T).1,(yy l m T).2)/\0<f:=by
 obtain⟨h1,h2⟩:=h.t rfl;have h2:muT T<f:=h2;have h1:chF l m f T=R:=h1;have hn:T.Nodup:=h.nd;obtain⟨g,rfl⟩:∃g,f=g+1:=⟨f-1,by omega⟩;unfold chF at h1;refine⟨⟨bah b8l bnm hn,fun hc=>?_,fun hc=>?_⟩,by omega⟩
 · have hc:(yy l m T).2=true:=hc
   rw[if_pos hc]at h1;have:=bhg hn hc;exact⟨h1,by show muT (yy l m T).1<g;omega⟩
 have hc:(yy l m T).2=false:=hc;rw[if_neg (by rw[hc];decide)]at h1;exact h1
def bro(l:List Fd)(T:List AS)(i:Nat):TC:=(l.take i).foldl fdR (T,false)
def mvX(m:List Fd)(x:TC)(i:Nat):TC:=(m.take i).foldl mvR x
structure FdI (d:Fd) (U0:List AS) (x:Nat×List AS×Bool):Prop where
 nd:x.2.1.Nodup
 res:sx d x.1 x.2.1=sx d FU2 U0
 fuel:(orL x.2.1).toNat<x.1
 f:x.2.2=false->x.2.1=U0
 t:x.2.2=true->(fdT d U0).isSome=true
section
variable {d:Fd}{U0 U:List AS}{g:Nat}{b c:Bool}{s:AS}
theorem FdI.start(h:U0.Nodup):FdI d U0 (FU2,U0,false):=⟨h,rfl,bvt (orL U0).isLt (show 2^32<=FU2 by decide),fun _=>rfl,fun h=>by cases h⟩
theorem FdI.len(h:FdI d U0 (g,U,b)):U.length<=8589934592:=bth (a1k (show U.Nodup from h.nd)) bxc
theorem FdI.next (h:FdI d U0 (g,U,b)) (hq:fdT d U=some s):FdI d U0 (g-1,ud U s,true)/\0<g:=by
 have h3:(orL U).toNat<g:=h.fuel;have h2:sx d g U=sx d FU2 U0:=h.res;obtain⟨k,rfl⟩:∃k,g=k+1:=⟨g-1,by omega⟩;rw[a1v hq]at h2;have h4:=ahv hq;refine⟨⟨aeh U s,h2,(by show(orL (ud U s)).toNat<k;omega),(fun hc=>by cases hc),fun _=>?_⟩,by omega⟩
 cases hb:b with
 |true=>exact h.t hb
 | false =>
  have e:U=U0:=h.f hb;rw[<- e,hq];rfl
theorem FdI.done (h:FdI d U0 (g,U,b)) (hq:fdT d U=none):(U,c||b)=fdR (U0,c) d:=by
 have h2:sx d g U=sx d FU2 U0:=h.res;rw[a8k hq]at h2;unfold fdR;rw[<- h2]
 cases hb:b with
 |true=>rw[h.t hb]
 | false =>
  have e:U=U0:=h.f hb;rw[<- e,hq];rfl
end
end
end Go.Hx
