/- A part of the proof: Bd3 Bd4 Jw1 Jrw1 Jrw2 Sp5 Jrw3 Hx22 Hx41 Da6 Ew1 Da8 LyS SrS Ew5 Ew2. -/
import Derived.Shelf.Slices.In.SortNone
import Derived.Shelf.Sort.Plain
import Derived.Test.YtcepfnkhagkdeaaGreatDoorProg
import Derived.Test.YtcepfnkhagkdeaaGreatDoorUx19
import Derived.Test.YtcepfnkhagkdeaaGreatDoorUx21
import Derived.Test.YtcepfnkhagkdeaaGreatDoorUx22
set_option linter.all false
open Go.Proofs.Tryz
set_option maxRecDepth 100000
set_option maxHeartbeats 1000000
namespace Go.Hx
section
open Go.Shelf Go.RowKit Go.Proofs
abbrev tB:TypeId:=114
abbrev tC:TypeId:=5
abbrev bd(fr:Bool)(l:List UInt8):a8:=.bld fr tB tC (Lib.byteCells l)
def qp:goodFn Tryz.prog 59:=⟨Tryz.f59,func59,by kernel_rfl,by kernel_rfl⟩
def IH:goodFn Tryz.prog 62:=⟨Tryz.f62,func62,by kernel_rfl,by kernel_rfl⟩
def P7:goodFn Tryz.prog 99:=⟨Tryz.f99,func99,by kernel_rfl,by kernel_rfl⟩
def pV {v:Value} (h:∃a m c,v=.slice a m c):v.ownBlock=d5 v:=by
 obtain⟨a,m,c,rfl⟩:=h;cases a<;>rfl
def aks (l:List UInt8) (s:ByteArray):Lib.byteCells l++Lib.strCells s=Lib.byteCells (l++s.data.toList):=by
 simp[Lib.byteCells,Lib.strCells]
def ND {c:Pc} {w:World} {id:Nat} {fr:Bool} {T e:TypeId} {l:List Value} (h:UN 0 c w id fr T e l) :
 ∃b p v,c.own id=.pointer (some ⟨b,0,none⟩)/\Sp T e b p v l w/\(p=.pointer none\/p=.pointer (some ⟨b,0,none⟩))/\(∀k,c.blk id k<->k=b\/v.ownBlock=some k)/\(fr=true->p=.pointer none/\v=.slice none 0 0):=by
 obtain⟨b,p,v,h1,_,h3,h4,h5,h6,h7,h8⟩:=h;have e:=pV (pJ h5).1;exact⟨b,p,v,h1,⟨h3,h5,by rw[e];exact h6⟩,h4,λk=>by rw[e];exact h7 k,h8⟩
def MS{c:Pc}{w w':World}{id b:Nat}{fr:Bool}{T e:TypeId}{v v':Value}{l l':List Value}{r:Value}{res:HR}(hM:Ll c (lk [(id, .bld fr T e l)]) w)(hown:c.own id=.pointer (some ⟨b,0,none⟩))(hblk:∀k,c.blk id k<->k=b\/v.ownBlock=some k)
 (hB':Sp T e b (.pointer (some ⟨b,0,none⟩)) v' l' w') (hbel:Below 0 w w') (hfr:∀k,k<w.heap.size->k≠b->v.ownBlock≠some k->w'.heap[k]? = w.heap[k]?) (hv':∀k,v'.ownBlock=some k->v.ownBlock=some k\/w.heap.size<=k)
 (hres:∀c' o',ap c' o' res r) :
 ∃ v2 c',Ending.returned r=.returned v2/\ap c' (lk [(id, .bld false T e l')]) res v2/\Ll c' (lk [(id, .bld false T e l')]) w'/\Below 0 w w' /\
  (∀b,b<w.heap.size->(∀id' ob,lk [(id, .bld fr T e l)] id'=some ob->¬c.blk id' b)->w'.heap[b]? = w.heap[b]?/\c'.imm b=c.imm b) /\
  (∀id' ob b,lk [(id, .bld false T e l')] id'=some ob->c'.blk id' b->w.heap.size<=b\/∃id0 ob0,lk [(id, .bld fr T e l)] id0=some ob0/\c.blk id0 b) /\
  (∀id'∈[id],Vc c (lk [(id, .bld fr T e l)]) c' (lk [(id, .bld false T e l')]) id'):=by
 have hl1:lk [(id,a8.bld fr T e l)] id=some (.bld fr T e l):=by simp[lk]
 have hl2:lk [(id,a8.bld false T e l')] id=some (.bld false T e l'):=by simp[lk]
 have one:∀{x:a8} {id':Nat} {ob:a8},lk [(id,x)] id'=some ob->id'=id/\ob=x:=λ{x id' ob} h=>⟨(fu h).1,(fu h).2⟩;have sep:∀k,k=b\/v.ownBlock=some k->c.imm k=none:=λk hk=>hM.sep id _ k hl1 ((hblk k).2 hk);have lt:∀k ob,c.imm k=some ob->k<w.heap.size:=λk ob hk=>(Le.1 (hM.imm k ob hk)).1;have e':=pV (pJ hB'.own).1;refine⟨r,{ c with blk:=λk=>if k=id then(λx=>x=b\/v'.ownBlock=some x)else c.blk k },rfl,hres _ _,⟨λid' ob h=>?_,λi i' ob ob' k h h' _ _=>?_,λk ob hk=>?_,λid' ob k h hk=>?_⟩,hbel,λk hk hn=>?_,λid' ob k h hk=>?_,λid' hid=>?_⟩
 .obtain ⟨rfl,rfl⟩:=one h
  exact⟨b,_,v',hown,Zb _,hB'.heap, .inr rfl,hB'.own,by rw[<- e'];exact hB'.ne,λk=>by simp[e'],λh=>by cases h⟩
 .rw[(one h).1,(one h').1]
 .have hk':=lt k ob hk
  refine(hfr k hk' (λe=>?_) λe=>?_).trans (hM.imm k ob hk)
  .have:=sep k (.inl e);have hk2:c.imm k=some ob:=hk;rw[hk2]at this;cases this
  have:=sep k (.inr e);have hk2:c.imm k=some ob:=hk;rw[hk2]at this;cases this
 .obtain ⟨rfl,rfl⟩:=one h
  simp only[Ma]at hk
  rcases hk with rfl|hk
  .exact sep _ (.inl rfl)
  rcases hv' k hk with h1|h1
  .exact sep k (.inr h1)
  show c.imm k=none
  cases hi:c.imm k with
  |none=>rfl
  |some ob=>have:=lt k ob hi;omega
 .have hn':=λh=>hn id _ hl1 ((hblk k).2 h)
  exact⟨hfr k hk (λe=>hn' (.inl e)) λe=>hn' (.inr e),rfl⟩
 .obtain ⟨rfl,rfl⟩:=one h
  simp only[Ma]at hk
  rcases hk with rfl|hk
  .exact .inr ⟨_,_,hl1,(hblk _).2 (.inl rfl)⟩
  rcases hv' k hk with h1|h1
  .exact .inr ⟨_,_,hl1,(hblk k).2 (.inr h1)⟩
  exact .inl h1
 rw[Bf.1 hid];exact .inr (.inr ⟨_,_,0,1,0,0,hl1,rfl,hl2,rfl,Yb _,λ_=>rfl,λ_ _ _ _ _ _ _ h=>by cases h⟩)
def rh (id:Nat) (fr:Bool) (l:List UInt8) (s:ByteArray) (hlen:l.length+s.size<=140737488355328):dn Tryz.prog 59 [.one (.ref id 0), .one (.p (.raw (.string s)))] [(id,bd fr l)] (.tup [.one (.p (.raw (.int .i64 (s.size:Int)))), .one (.p (.raw .nilIface))]) [(id,bd false (l++s.data.toList))] [id]:=by
 intro w c us hM hus
 match us,hus with
 | [u,v],⟨hu,hv,_⟩ =>
  obtain⟨rfl,_⟩:=hv;have hl1:lk [(id,bd fr l)] id=some (bd fr l):=by simp[lk]
  have hu2:u=c.own id:=(hu.2.2 _ _ _ _ hl1 rfl).2 rfl;subst hu2;obtain⟨b,p,v0,hown,hB,hp,hblk,_⟩:=ND (hM.objs id _ hl1);rw[hown];refine(akq (P:=Tryz.prog) (ρ:=Tryz.lays156_ren) { Tryz.lays156 with } Tryz.Builder_Extra_156 b p v0 _ s w hp hB (by rw[Lib.byteCells_length];exact hlen)).mono ?_;rintro e w' ⟨rfl,hbel,v',hB',hfr,hv'⟩;rw[aks]at hB';exact MS hM hown hblk hB' hbel hfr hv' λc' o'=>⟨_,rfl,⟨rfl,rfl⟩,⟨rfl,rfl⟩,Aa⟩
def KZ (id:Nat) (n:Nat) (hn:n<=281474976710656):dn Tryz.prog 99 [.one (.ref id 0), .one (.p (.raw (.int .i64 (n:Int))))] [(id,bd true [])] (.tup []) [(id,bd false [])] [id]:=by
 intro w c us hM hus
 match us,hus with
 | [u,v],⟨hu,hv,_⟩ =>
  obtain⟨rfl,_⟩:=hv;have hl1:lk [(id,bd true [])] id=some (bd true []):=by simp[lk]
  have hu2:u=c.own id:=(hu.2.2 _ _ _ _ hl1 rfl).2 rfl;subst hu2;obtain⟨b,p,v0,hown,hB,hp,hblk,hf⟩:=ND (hM.objs id _ hl1);obtain⟨rfl,rfl⟩:=hf rfl;rw[hown];refine(T7 (P:=Tryz.prog) (ρ:=Tryz.lays156_ren) { Tryz.lays156 with } Tryz.Builder_Extra_156 b n w hB.heap hn).mono ?_;rintro e w' ⟨rfl,hbel,⟨v',hB',hv'⟩,hfr⟩;exact MS hM hown hblk hB' hbel (λk hk hkb _=>hfr k hk hkb) (λk hk=>.inr (hv' k hk)) λc' o'=>⟨[],rfl,Aa⟩
def KG (id:Nat) (fr:Bool) (l:List UInt8) (h0:l≠[]):dn Tryz.prog 62 [.one (.ref id 0)] [(id,bd fr l)] (.v (.one (.p (.raw (.string ⟨l.toArray⟩))))) [] []:=by
 intro w c us hM hus
 match us,hus with
 | [u],⟨hu,_⟩ =>
  have hl1:lk [(id,bd fr l)] id=some (bd fr l):=by simp[lk]
  have hu2:u=c.own id:=(hu.2.2 _ _ _ _ hl1 rfl).2 rfl;subst hu2;obtain⟨b,p,v0,hown,hB,hp,hblk,_⟩:=ND (hM.objs id _ hl1);rw[hown];refine(b4y (P:=Tryz.prog) (ρ:=Tryz.lays169_ren) Tryz.lays169 Tryz.Builder_Extra_169 b p v0 l w hB h0).mono ?_;rintro e w' ⟨rfl,hbel,hfr⟩;refine⟨_,c,rfl,⟨rfl,rfl⟩,⟨(λid' ob h=>by cases h),(λi i' ob ob' k h=>by cases h),λk ob hk=>?_,(λid' ob k h=>by cases h)⟩,hbel,λk hk hn=>⟨hfr k λe=>hn id _ hl1 ((hblk k).2 (.inr e)),rfl⟩,(λid' ob k h=>by cases h),(λid' hid=>by cases hid)⟩;refine(hfr k λe=>?_).trans (hM.imm k ob hk);have:=hM.sep id _ k hl1 ((hblk k).2 (.inr e));rw[hk]at this;cases this
end
section
open Go.Shelf Go.RowKit Go.Proofs
variable {P:Program}{ρ:Ren}
set_option maxHeartbeats 2000000 in
def avh (L:Lays.n169 P ρ) (X:Builder.Extra P ρ) (b:Nat) (p:Value) (w:World) (hbk:w.heap[b]? = some (.cells #[p, .slice none 0 0] (ρ.t 72) (0,0))) :
 Calls P (ρ.f 169) #[.pointer (some ⟨b,0,none⟩)] w λe w'=>e=.returned (.string ⟨#[]⟩)/\Hx.Below 0 w w'/\w'.heap=w.heap:=by
 have hend:Hx.Below 0 w w.drew/\w.drew.heap=w.heap:=⟨Below.drew (Below.refl 0 w),rfl⟩;have hUS:=Any.unsafeString_none L X
 have c1:w.drew.cell? ⟨b,1,none⟩=some (.slice none 0 0):=by
  have hd:w.drew.heap[b]? = some (.cells #[p, .slice none 0 0] (ρ.t 72) (0,0)):=hbk;rw[Lib.cell_of_heap hd];rfl
 have hSD:(Builtin.unsafeSliceData_ #[(ρ.t 37)] (ρ.t 127) #[.slice none 0 0]).run P w.drew=.ok (.pointer none) w.drew:=rfl;have mixed:=L.mixed;have t72:=L.t72;have a72:=L.a72;have z72:=L.z72;have v72:=L.v72;have u72:=run_underlying L.t72;have t70:=L.t70;have a70:=L.a70;have z70:=L.z70;have v70:=L.v70;have u70:=run_underlying L.t70;have t37:=L.t37;have a37:=L.a37;have z37:=L.z37;have v37:=L.v37;have u37:=run_underlying L.t37;have t127:=L.t127;have a127:=L.a127;have z127:=L.z127;have v127:=L.v127;have u127:=run_underlying L.t127;have t3:=L.t3;have a3:=L.a3;have z3:=L.z3;have v3:=L.v3;have u3:=run_underlying L.t3;have t9:=L.t9;have a9:=L.a9;have z9:=L.z9;have v9:=L.v9;have u9:=run_underlying L.t9;have t5:=X.t5;have a5:=X.a5;have z5:=X.z5;have v5:=X.v5;have u5:=run_underlying X.t5
 go_enter L.f169,Body.n169_ntmps ρ
 go_wp2
 go_region_o
 all_goals (go_wp2;go_ret;exact⟨rfl,hend⟩)
def P6 (id:Nat) (fr:Bool) (l:List UInt8) (h:l=[]->fr=true):dn Tryz.prog 62 [.one (.ref id 0)] [(id,bd fr l)] (.v (.one (.p (.raw (.string ⟨l.toArray⟩))))) [] []:=by
 by_cases h0:l=[]
 rotate_left
 .exact KG id fr l h0
 have hfr:=h h0;subst h0 hfr;intro w c us hM hus
 match us,hus with
 | [u],⟨hu,_⟩ =>
  have hl1:lk [(id,bd true [])] id=some (bd true []):=by simp[lk]
  have hu2:u=c.own id:=(hu.2.2 _ _ _ _ hl1 rfl).2 rfl;subst hu2;obtain⟨b,p,v0,hown,hB,hp,hblk,hf⟩:=ND (hM.objs id _ hl1);obtain⟨rfl,rfl⟩:=hf rfl;rw[hown];refine(avh (P:=Tryz.prog) (ρ:=Tryz.lays169_ren) Tryz.lays169 Tryz.Builder_Extra_169 b _ w hB.heap).mono ?_;rintro e w' ⟨rfl,hbel,hh⟩;refine⟨_,c,rfl,⟨rfl,rfl⟩,⟨(λid' ob h=>by cases h),(λi i' ob ob' k h=>by cases h),λk ob hk=>?_,(λid' ob k h=>by cases h)⟩,hbel,λk hk hn=>⟨by rw[hh],rfl⟩,(λid' ob k h=>by cases h),(λid' hid=>by cases hid)⟩;rw[hh];exact hM.imm k ob hk
end
section
open Go.Proofs
def xR (l:List Int) (n:Int) (hl:l.length<=1000000):dn Ab 126 [.one (.ref 1000 l.length), .one (.p (.raw (.int .i64 n)))] [(1000, .arr true 1 5 l.length (lf Fq l))] (.v (.one (.ref 1000 (l++yx n).length))) [(1000, .arr true 1 5 (l++yx n).length (lf Fq (l++yx n)))] [1000]:=by
 refine Eg (nt:=22) func126 ?_;refine Jb ?_;refine Vr rfl rfl rfl rfl rfl ?_;refine Cc ?_;refine bz (ka 5 kn) km (λi=>⟨[(0,some (.v (.one (.ref 1000 (l++xc n i).length)))),(6,some (vI (56-8*(i:Int))))],[(1000,some (.arr true 1 5 (l++xc n i).length (lf Fq (l++xc n i))))]⟩) 8 ⟨⟨⟨_,rfl,(dy (by simp[xc]))⟩,⟨_,rfl,(Hd (by first|rfl|omega))⟩,Aa⟩,⟨⟨_,rfl,(be (by simp[xc]))⟩,Aa⟩⟩ ?_;rintro i hi;have hlen:(l++xc n i).length=l.length+i:=by simp[xc]
 refine Mb ?_;refine Kb ?_ ?_<;>intro h0
 .refine Wb ?_;refine Vr rfl rfl rfl rfl rfl ?_;refine m9 0 ?_;refine Ed 1 true ?_;refine Jb ?_;exact Ld (i+1) ⟨⟨⟨_,rfl,(d6 tT)⟩,⟨_,rfl,(Hd (by first|omega|(dsimp only;omega)))⟩,tt⟩,⟨⟨_,rfl,(cr tT (Va (by dsimp only;rw[show((56:Int)-8*(i:Int)).toNat=56-8*i by omega];rfl)))⟩,Aa⟩⟩
 obtain rfl:i=8:=by omega
 refine Mb ?_;refine Db ?_;exact⟨_,_,rfl,Uf,ey (by rw[BS]),⟨⟨_,rfl,be (by rw[BS])⟩,Aa⟩⟩
def Cz{p:Prop}(h:p:=by first|exact .inl Gb|exact .inr Gb):p:=h
def fC{p:Prop}(h:p:=by first|exact ey (by rw[(uq Cz)])|exact ey (by rw[uz Gb,Uc];rfl)|exact ey (by rw[(un Gb Gb Gb)];rfl)):p:=h
def tZ(v:Lb):a6 Ab 79 [v.pc] (a7 [pS (py v),pI (tG v)]):=by
 refine Nb (nt:=51) func79 ?_;refine Rc ?_;refine m9 0 ?_;refine Jb ?_;refine Fb (Ib func115) (pM v) ?_;refine Cb ?_;refine Xd ?_ ?_<;>intro h0
 .refine Dd ?_;exact⟨Ob.one (by rw[b9h Gb];exact Ra),Sb (bc8 Gb).symm,Aa⟩
 have hs:=mL h0;refine Eb ?_;refine Vr rfl rfl rfl rfl rfl ?_;refine m9 1 ?_;refine Cb ?_;refine m7 kn (kb 0 km) ⟨[(4,some (.v (.one (.ref 1 (kp v).length))))],[(1,some (.arr true 1 5 (kp v).length (lf Fq (kp v))))]⟩ ?_ ?_
 ·
  refine fy ?_;refine aj _ rfl ?_ ?_<;>intro r1
  .have h1:=Bc r1;refine dj ?_;refine aj _ rfl (λ_=>?_) (λe=>Bool.noConfusion (r1.symm.trans e));refine Mc ?_;refine Ke (Ib func126) ((xR [kB v] v.num l9).swap 1000 1) ⟨⟨_,rfl,lj Ra⟩,Aa⟩ ?_;refine Cb ?_;exact⟨⟨⟨_,rfl,fC⟩,Aa⟩,⟨⟨_,rfl,(by first|exact be (uq Cz)|exact iF (uz Gb) Ra Ra|(rw[(un Gb Gb Gb)];exact lj Ra))⟩,uu⟩⟩
  have h1:=Ac r1;refine Mc ?_;refine Kb ?_ ?_<;>intro h2
  .refine Mc ?_;refine Ke (Ib func126) ((xR [kB v] v.num l9).swap 1000 1) ⟨⟨_,rfl,lj Ra⟩,Aa⟩ ?_;refine Cb ?_;exact⟨⟨⟨_,rfl,fC⟩,Aa⟩,⟨⟨_,rfl,(by first|exact be (uq Cz)|exact iF (uz Gb) Ra Ra|(rw[(un Gb Gb Gb)];exact lj Ra))⟩,uu⟩⟩
  refine Eb ?_;refine Kb ?_ ?_<;>intro h3
  ·
   refine Cc ?_;refine bz (ka 1 (ka 26 kn)) (kb 0 km) (λi=>⟨[(4,some (.v (.one (.ref 1 (wa v i).length)))),(27,some (vI i))],[(1,some (.arr true 1 5 (wa v i).length (lf Fq (wa v i))))]⟩) v.str.size ⟨⟨⟨_,rfl,Ua⟩,tt⟩,⟨⟨_,rfl,(lj Ra)⟩,Aa⟩⟩ ?_;rintro i hi;have hlen:=b9g (v:=v) (i:=i);refine Eb ?_;refine Kb ?_ ?_<;>intro h4
   ·
    refine jz ?_;refine m9 2 ?_;refine Ed 3 true ?_;refine ce ?_;refine Kb ?_ ?_<;>intro h5
    ·
     refine Cb ?_;refine m9 4 ?_;refine Ed 5 true ?_;refine Mb ?_
     first | (refine Rb (i+1) ⟨⟨⟨_, rfl, (by rw[jD Za Gb]; simp only[Uc]; exact Ua)⟩, tt⟩, ⟨⟨_, rfl, (by rw[jD Za Gb]; exact SU rfl Ra Ra)⟩, uu⟩⟩ ?_; show i+1<=_; omega)
           |(refine Rb (i+1) ⟨⟨⟨_,rfl,(d6 (dD Za Gb))⟩,tt⟩,⟨⟨_,rfl,(cr (dD Za Gb) Ra)⟩,uu⟩⟩ ?_;show i+1<=_;omega)
    refine Eb ?_
    first | (refine Rb (i+1) ⟨⟨⟨_, rfl, (by rw[jD Za Gb]; simp only[Uc]; exact Ua)⟩, tt⟩, ⟨⟨_, rfl, (by rw[jD Za Gb]; exact SU rfl Ra Ra)⟩, uu⟩⟩ ?_; show i+1<=_; omega)
          |(refine Rb (i+1) ⟨⟨⟨_,rfl,(d6 (dD Za Gb))⟩,tt⟩,⟨⟨_,rfl,(cr (dD Za Gb) Ra)⟩,uu⟩⟩ ?_;show i+1<=_;omega)
   obtain rfl:i=v.str.size:=by omega
   refine Tb ?_;refine m9 6 ?_;refine Ed 7 true ?_;refine Cb ?_;exact⟨⟨⟨_,rfl,fC⟩,Aa⟩,⟨⟨_,rfl,(by first|exact be (uq Cz)|exact iF (uz Gb) Ra Ra|(rw[(un Gb Gb Gb)];exact lj Ra))⟩,uu⟩⟩
  refine dj ?_;exact⟨⟨⟨_,rfl,fC⟩,Aa⟩,⟨⟨_,rfl,(by first|exact be (uq Cz)|exact iF (uz Gb) Ra Ra|(rw[(un Gb Gb Gb)];exact lj Ra))⟩,uu⟩⟩
 refine cw ?_;refine b5 4 rfl rfl rfl ?_;refine Cb ?_;refine rq rfl rfl rfl rfl rfl ?_ (hp:=⟨rfl,λi hi=>⟨_,rfl⟩⟩);refine Ef ?_;exact⟨Ob.one (by rw[baz Gb,<- ba3];exact Ra),Sb (bcq Gb).symm,Aa⟩
def Z8 (l:List Xb) (v:List Lb) (hl:sw l) (hv:pj v):a6 Ab 73 [pP (rows l),pP (vals v)] (a7 [pB (ni l v)]):=by
 refine Nb (nt:=19) func73 ?_;refine Mb ?_;refine cj 0 rfl λhn=>?_;refine Mc ?_;refine aa (ι:=Nat) (ka 0 (ka 1 kn)) km (λi=>⟨[(5,some (vI i))],[]⟩) (λi=>i<=l.length/\(∀j,j<i->decide ((l.getD j default).vals=v)=false)) (λi=>l.length-i) (0) (⟨Zb _,aw⟩) kk ?_;rintro i ⟨hi,hIi⟩;refine Wb ?_;refine Kb ?_ ?_<;>intro h0
 ·
  refine dg ?_;refine Fb VD (eC (l.getD i default).vals v (hl i Za).2 hv) ?_;refine cn ?_;refine We ?_ ?_<;>intro h1
  .refine Kc ?_;exact⟨Vb (Ax (p:=λr:Xb=>decide (r.vals=v)) (i:=i) Za Gb).symm,Aa⟩
  refine Mb ?_;refine Rb (i+1) kk ?_;exact⟨by show i+1<=_;omega,al hIi Gb⟩
 obtain rfl:i=l.length:=by omega
 refine Dd ?_;exact⟨Vb (Kw (p:=λr:Xb=>decide (r.vals=v)) hIi).symm,Aa⟩
def mH:goodFn Ab 72:=Ib func72
def MI(r:Xb)(s:AS)(hl:r.vals.length<=68719476736):a6 Ab 72 [r.pc,pA s] (a7 [pP (vals (Wc r.vals s))]):=by
 refine Nb (nt:=26) func72 ?_;refine Rc ?_;refine m9 0 ?_;refine fy ?_;refine d9 5 900 true 3 100 (lf Lb.c []) Zc rfl Ya (.inr rfl) rfl ?_;refine bz (ka 1 (ka 2 kn)) (kb 0 km) (λi=>⟨[(5,some (.v (.one (.ref 900 (Wc (r.vals.take i) s).length)))),(6,some (vI i))],[(900,some (.arr true 3 100 (Wc (r.vals.take i) s).length (lf Lb.c (Wc (r.vals.take i) s))))]⟩) r.vals.length ⟨⟨⟨_,rfl,Ua⟩,tt⟩,uu⟩ ?_;rintro i hi;have hlen:(Wc (r.vals.take i) s).length<=i:=Nd mE (by rw[Ae];omega);refine Cc ?_;refine Kb ?_ ?_<;>intro h0
 ·
  refine Jb ?_;refine Fb Gu (Dt s i) ?_;refine cn ?_;refine aj _ rfl ?_ ?_<;>intro r1
  ·
   have h1:=r1;have hh:bw s (i:Int)=true:=r1;refine Jb ?_;refine m9 1 ?_;refine Ed 2 true ?_;refine Jb ?_
   first | (refine Rb (i+1) ⟨⟨⟨_, rfl, (d6 (zh Za hh))⟩, tt⟩, ⟨⟨_, rfl, (o7 (zh Za hh) (Kp Ra Ra Ra))⟩, uu⟩⟩ ?_; show i+1<=_; omega)
         |(refine Rb (i+1) ⟨⟨⟨_,rfl,(dy (zd Za hh))⟩,tt⟩,⟨⟨_,rfl,(be (zd Za hh))⟩,uu⟩⟩ ?_;show i+1<=_;omega)
  have h1:=r1;have hh:bw s (i:Int)=false:=r1;refine Mb ?_
  first | (refine Rb (i+1) ⟨⟨⟨_, rfl, (d6 (zh Za hh))⟩, tt⟩, ⟨⟨_, rfl, (o7 (zh Za hh) (Kp Ra Ra Ra))⟩, uu⟩⟩ ?_; show i+1<=_; omega)
        |(refine Rb (i+1) ⟨⟨⟨_,rfl,(dy (zd Za hh))⟩,tt⟩,⟨⟨_,rfl,(be (zd Za hh))⟩,uu⟩⟩ ?_;show i+1<=_;omega)
 obtain rfl:i=r.vals.length:=by omega
 rw[show r.vals.take r.vals.length=r.vals from Id];refine Cb ?_;refine b5 5 rfl rfl rfl ?_;refine Kc ?_;exact Ta
def YA:goodFn Ab 35:=Ib func35
def uA (a b:Xb) (s:AS) (ha:a.ok) (hb:b.ok):a6 Ab 35 [a.pc,b.pc,pA s] (a7 [pB (sv a b s)]):=by
 refine Nb (nt:=14) func35 ?_;refine Rc ?_;refine m9 0 ?_;refine m9 1 ?_;refine Mb ?_;refine Fb mH (MI a s ha.1) ?_;refine Cb ?_;refine Fb mH (MI b s hb.1) ?_;refine Fb VD (eC (Wc a.vals s) (Wc b.vals s) (DD ha.2) (DD hb.2)) ?_;refine Ef ?_;exact Ta
def vQ (a b:List Xb) (ha:sw a) (hb:sw b):a6 Ab 83 [pP (rows a),pP (rows b)] (a7 [pB (BC a b)]):=by
 refine Nb (nt:=20) func83 ?_;refine Mb ?_;refine cj 0 rfl λhn=>?_;refine Mc ?_;refine aa (ι:=Nat) (ka 0 (ka 1 kn)) km (λi=>⟨[(5,some (vI i))],[]⟩) (λi=>i<=a.length/\(∀j,j<i->ni b (a.getD j default).vals=true)) (λi=>a.length-i) (0) (⟨Zb _,aw⟩) kk ?_;rintro i ⟨hi,hIi⟩;refine Wb ?_;refine Kb ?_ ?_<;>intro h0
 ·
  refine dg ?_;refine Fb (Ib func73) (Z8 b (a.getD i default).vals hb (ha i Za).2) ?_;refine Cb ?_;refine Xd ?_ ?_<;>intro h1
  .refine Kc ?_;exact⟨Vb (Tt (p:=λr:Xb=>ni b r.vals) (i:=i) Za Qg).symm,Aa⟩
  refine Mb ?_;refine Rb (i+1) kk ?_;exact⟨by show i+1<=_;omega,al hIi Qg⟩
 obtain rfl:i=a.length:=by omega
 refine Dd ?_;exact⟨Vb (Zq (p:=λr:Xb=>ni b r.vals) hIi).symm,Aa⟩
def O7(a b:ac)(ha:a.ok)(hb:b.ok):a6 Ab 47 [a.pc,b.pc] (a7 [pB (Rt a b)]):=by
 refine Nb (nt:=24) func47 ?_;refine Rc ?_;refine m9 0 ?_;refine m9 1 ?_;refine Wb ?_;refine Fb (Ib func33) (qM a.attrs b.attrs) ?_;refine qy ?_;refine af rfl rfl ?_ ?_<;>intro r0
 ·
  have h0:=r0;(iterate 4 refine qy ?_ (hg:=(Lc r0)));refine Fb (Ib func83) (vQ a.rows b.rows ha.2.2 hb.2.2) ?_ (hg:=(Lc r0));refine Cb ?_;refine af rfl rfl ?_ ?_<;>intro r1
  ·
   have h1:=bp r0 r1;(iterate 4 refine qy ?_ (hg:=(Lc r1)));refine Fb (Ib func83) (vQ b.rows a.rows hb.2.2 ha.2.2) ?_ (hg:=(Lc r1));refine Tb ?_
   exact Nc rfl rfl rfl (⟨Vb (by unfold Rt;simp_all),Aa⟩)
  have h1:=bp r0 r1;(iterate 5 refine k9 (Vd r1) ?_);refine Tb ?_
  exact Nc rfl rfl rfl (⟨Vb (by unfold Rt;simp_all),Aa⟩)
 have h0:=r0;(iterate 5 refine k9 (Vd r0) ?_);refine Cb ?_;(iterate 5 refine k9 rfl ?_);refine Tb ?_
 exact Nc rfl rfl rfl (⟨Vb (by unfold Rt;simp_all),Aa⟩)
def C2(t:ac)(a b:Xb)(s:AS)(ht:t.ok)(ha:a.ok)(hb:b.ok):a6 Ab 37 [t.pc,a.pc,b.pc,pA s] (a7 [pB (aD t a b s)]):=by
 refine Nb (nt:=40) func37 ?_;have hrl:=ht.2.1;refine Rc ?_;refine m9 0 ?_;refine m9 1 ?_;refine m9 2 ?_;refine Wb ?_;refine aa (ι:=Nat) (ka 3 (ka 4 (ka 5 (ka 6 kn)))) (kb 0 (kb 1 (kb 2 km))) (λi=>⟨[(9,some (vI i))],[]⟩) (λi=>i<=t.rows.length/\(∀j,j<i->(sv (t.rows.getD j default) a s&&sv (t.rows.getD j default) b (ak t.attrs.length&&&~~~s))=false)) (λi=>t.rows.length-i) (0) (⟨Zb _,aw⟩) kk ?_;rintro i ⟨hi,hIi⟩;refine Cc ?_;refine Kb ?_ ?_<;>intro h0
 ·
  refine fy ?_;refine Fb YA (uA (t.rows.getD i default) a s (ht.2.2 i Za) ha) ?_;refine qy ?_;refine af rfl rfl ?_ ?_<;>intro r1
  ·
   have h1:=r1;(iterate 9 refine qy ?_ (hg:=(Lc r1)));refine Fb vq (ve (t.attrs.length:Int)) ?_ (hg:=(Lc r1));(iterate 2 refine qy ?_ (hg:=(Lc r1)))
   refine rc rfl rfl rfl rfl rfl rfl YA (uA (t.rows.getD i default) b (ak t.attrs.length&&&~~~s) (ht.2.2 i Za) hb) (⟨Sa,Sa,Sb (by first|exact k8 _ _|rfl),Aa⟩) rfl (Lc r1) ?_;refine Tb ?_;refine aj _ rfl ?_ ?_<;>intro r2
   .have h2:=bp r1 r2;refine Kc ?_;exact⟨Vb (Ax (p:=λx:Xb=>sv x a s&&sv x b (ak t.attrs.length&&&~~~s)) (i:=i) Za Qg).symm,Aa⟩
   have h2:=bp r1 r2;refine Mb ?_;refine Rb (i+1) kk ?_;exact⟨by show i+1<=_;omega,al hIi Qg⟩
  have h1:=r1;(iterate 13 refine k9 (Vd r1) ?_);refine ce ?_;refine Rb (i+1) kk ?_
  exact⟨by show i+1<=_;omega,al hIi Qg⟩
 obtain rfl:i=t.rows.length:=by omega
 refine Dd ?_;exact⟨Vb (Kw (p:=λx:Xb=>sv x a s&&sv x b (ak t.attrs.length&&&~~~s)) hIi).symm,Aa⟩
def W8(t:ac)(d:Fd)(ht:Ri t)(hd:sub (d.lhs|||d.rhs) (ak t.attrs.length)):a6 Ab 14 [t.pc,d.pc] (a7 [pB (Cn t d),pI 0]):=by
 refine Nb (nt:=75) func14 ?_;have hok:=ht.ok;have hrl:=hok.2.1;have htz:=k6.2 ht;refine Rc ?_;refine m9 0 ?_;refine m9 1 ?_;refine Jb ?_;refine Fb rD (cC t) ?_;refine Jb ?_;refine Sc ?_ ?_<;>intro h0
 .exfalso;omega
 refine qh ?_;refine rc rfl rfl rfl rfl rfl rfl GH (AI (t.attrs.length:Int) (d.lhs|||d.rhs)) (⟨Sa,Sb (Dh _ _),Aa⟩) rfl rfl ?_;refine Cb ?_;refine Xd ?_ ?_<;>intro h1
 .exfalso;simp_all
 refine qd ?_;refine aa (ι:=Nat) (ka 2 (ka 3 (ka 8 kn))) (kb 0 (kb 1 km)) (λi=>⟨[(9,some (vI i))],[]⟩) (λi=>i<=t.rows.length/\(∀j,j<i->((List.range t.rows.length).all λk=>Wn t d j k)=true)) (λi=>t.rows.length-i) (0) (⟨Zb _,aw⟩) kk ?_;rintro i ⟨hi,hIi⟩;refine Cc ?_;refine Kb ?_ ?_<;>intro h2
 ·
  refine Wb ?_;refine aa (ι:=Nat) (ka 2 (ka 3 (ka 8 (ka 9 kn)))) (kb 0 (kb 1 km)) (λk=>⟨[(10,some (vI k))],[]⟩) (λk=>k<=t.rows.length/\(∀j,j<k->Wn t d i j=true)) (λk=>t.rows.length-k) (0) (⟨Zb _,aw⟩) kk ?_;rintro k ⟨hk,hIk⟩;refine Cc ?_;refine Kb ?_ ?_<;>intro h3
  ·
   refine qh ?_;refine Fb YA (uA (t.rows.getD i default) (t.rows.getD k default) d.lhs (hok.2.2 i Za) (hok.2.2 k Za)) ?_;refine qy ?_;refine af rfl rfl ?_ ?_<;>intro r4
   ·
    have h4:=r4;(iterate 12 refine qy ?_ (hg:=(Lc r4)));refine rc rfl rfl rfl rfl rfl rfl (Ib func37) (C2 t (t.rows.getD i default) (t.rows.getD k default) (d.lhs|||d.rhs) hok (hok.2.2 i Za) (hok.2.2 k Za)) (⟨Sa,Sa,Sa,Sb (Dh _ _),Aa⟩) rfl (Lc r4) ?_;refine qy ?_ (hg:=(Lc r4));refine Tb ?_;refine aj _ rfl ?_ ?_<;>intro r5
    .have h5:=ct (bp r4 r5);refine Dd ?_;exact⟨Vb (jx (p:=λi=>(List.range t.rows.length).all λk=>Wn t d i k) (i:=i) Za (jx (p:=λk=>Wn t d i k) (i:=k) Za (by unfold Wn;simp_all))).symm,Sa,Aa⟩
    have h5:=cu (bp r4 r5);refine Mb ?_;refine Rb (k+1) kk ?_;exact⟨by show k+1<=_;omega,al hIk (by unfold Wn;simp_all)⟩
   have h4:=r4;(iterate 14 refine k9 (Vd r4) ?_);refine ce ?_;refine Rb (k+1) kk ?_
   exact⟨by show k+1<=_;omega,al hIk (by unfold Wn;simp_all)⟩
  obtain rfl:k=t.rows.length:=by omega
  refine Mb ?_;refine Rb (i+1) kk ?_;exact⟨by show i+1<=_;omega,al hIi (n9 hIk)⟩
 obtain rfl:i=t.rows.length:=by omega
 refine Eh ?_;exact⟨Vb (n9 (p:=λi=>(List.range t.rows.length).all λk=>Wn t d i k) hIi).symm,Sa,Aa⟩
end
section
def lK {r x:Xb}:∀{l:List Xb},x∈yl r l<->x=r\/x∈l
 | []=>by simp[yl]
 | y::l=>by
  simp only[yl];split
  .simp
  simp only[Jd,lK (l:=l)];constructor
  .rintro(h|h|h)<;>simp[h]
  rintro(h|h|h)<;>simp[h]
def BW{r:Xb}:∀{l:List Xb},mz l->(∀x∈l,x.id≠r.id)->mz (yl r l)
 | [],_,_=>by simp[yl,mz]
 | y :: l,hs,hn=>by
  have hs':=hs;unfold mz at hs';rw[Hh]at hs';simp only[yl];split
  .rename_i h
   refine List.Pairwise.cons (λx hx=>?_) hs
   rcases Jd.1 hx with rfl|hx
   .exact h
   have:=hs'.1 x hx;omega
  rename_i h;refine List.Pairwise.cons (λx hx=>?_) (BW hs'.2 λx hx=>hn x (by simp[hx]))
  rcases lK.1 hx with rfl|hx
  .have:=hn y Ec;omega
  exact hs'.1 x hx
section
variable {l:List Xb}
def ax6 {id:Int} (h:ic l id<0):∀x∈l,x.id≠id:=by
 intro x hx e;have h2:=Qy (p:=λr:Xb=>decide (r.id=id)) (l:=l);have h3:(l.any λr=>decide (r.id=id))=true:=by rw[Yf];exact⟨x,hx,by simp[e]⟩
 rw[h3]at h2;simp only[Ja]at h2;unfold ic at h;omega
variable {t:ac}
def K6 {r:Xb} (h:Iu t r=0):Ri (LC t r):=by
 obtain⟨h1,h2,h3,h4,h5,h6⟩:=b3k h;have hT:=k6.1 h1;rw[bb1 h];refine⟨hT.nm,hT.na,by show(yl r t.rows).length<=1000;rw[zT];omega,hT.nms, ?_⟩;refine ov (λx hx=>?_) (BW (f7 hT.rs) (ax6 h5))
 rcases lK.1 hx with rfl|hx
 .exact⟨h3,h2,h4⟩
 exact jw hT.rs x hx
def b63 {i:Int} (h:Gx t i=0):eo t=0/\0<=ic t.rows i:=by
 unfold Gx at h;split at h
 .omega
 split at h
 .exact⟨by omega,by assumption⟩
 omega
def Z3 {i:Int} (h:Gx t i=0):Ri (wC t i):=by
 have hT:=k6.1 (b63 h).1;rw[beh h];have hsub:=List.eraseIdx_sublist t.rows (ic t.rows i).toNat;refine⟨hT.nm,hT.na,by have:=hsub.length_le;have:=hT.nr;show(t.rows.eraseIdx _).length<=1000;omega,hT.nms, ?_⟩;exact ov (λx hx=>jw hT.rs x (hsub.subset hx)) (List.Pairwise.sublist hsub (f7 hT.rs))
def bfg {i a:Int} {v:Lb} (h:Lt t i a v=0):eo t=0/\0<=ic t.rows i/\0<=a/\a<t.attrs.length/\cz v=true:=by
 unfold Lt at h;split at h
 .omega
 split at h
 .omega
 split at h
 .omega
 split at h
 .omega
 rename_i h1 h2 h3 h4;exact⟨by omega,by omega,by omega,by omega,by simpa using h4⟩
def b72{i k:Nat}{v:Lb}(hi:i<l.length):(Uq l i k v).map Xb.id=l.map Xb.id:=by
 unfold Uq;apply No;intro j;rw[Pe,Pe,List.getElem?_set];split
 .rename_i h
  subst h;rw[Hc hi];simp[List.getD,Hc hi]
 rfl
def eW:mz l<->(l.map Xb.id).Pairwise (·<·):=by
 rw[Av]
def F8{i a:Int}{v:Lb}(h:Lt t i a v=0):Ri (GC t i a v):=by
 obtain⟨h1,h2,h3,h4,h5⟩:=bfg h;have hT:=k6.1 h1;have hix:(ic t.rows i).toNat<t.rows.length:=by have:=C8 h2;rwa [show max (ic t.rows i) 0=ic t.rows i from by omega]at this
 rw[b9j h];refine⟨hT.nm,hT.na,by show(Uq _ _ _ _).length<=1000;rw[b6k];exact hT.nr,hT.nms, ?_⟩;refine ov (λx hx=>?_) (by rw[eW,b72 hix,<- eW];exact f7 hT.rs);have hold:=jw hT.rs _ (De hix);have hgd:=cq _ _ hix;unfold Uq at hx
 rcases List.mem_or_eq_of_mem_set hx with hx|rfl
 .exact jw hT.rs x hx
 refine⟨by show 0<(t.rows.getD _ default).id;rw[hgd];exact hold.1,by show(List.set _ _ _).length=_;rw[Ni,hgd];exact hold.2.1, ?_⟩;rw[Ze];intro y hy
 rcases List.mem_or_eq_of_mem_set hy with hy|rfl
 .rw [hgd]at hy
  exact Ze.1 hold.2.2 y hy
 exact h5
def M7 {c:Df} (h:FD t c=0):Ri (At t c):=by
 unfold FD at h;unfold At;split at h
 .rename_i h2;rw[Ba h2];exact K6 h
 rename_i h2;rw[Ca h2];split at h
 .omega
 split at h
 .omega
 split at h
 .rename_i h3;rw[Ba h3];exact Z3 h
 rename_i h3;rw[Ca h3];exact F8 h
def Q1{d:DB}{c:Df}(hd:Gn d):Gn (Gp d c):=by
 by_cases he:lx d c=0
 .unfold lx at he
  split at he
  .rename_i h1
   split at he
   .omega
   obtain⟨g1,g2,g3⟩:=baf he;have he':lx d c=0:=by rw[aE2 h1 Qg];exact he
   rw[aD1 he' h1];refine⟨by simp;omega,λj hj=>?_⟩;by_cases h:j<d.length
   .rw [show(d++[c.table]).getD j default=d.getD j default from by simp[List.getD,Ul h]]
    exact hd.2 j h
   obtain rfl:j=d.length:=by simp at hj;omega
   rw[show(d++[c.table]).getD d.length default=c.table from by simp[List.getD]];exact g1
  rename_i h1;split at he
  .omega
  split at he
  .omega
  rename_i h2 h3;have he':lx d c=0:=by rw[aE5 Za h3];exact he
  rw[aD2 he' h1 rfl];refine⟨by rw[Ni];exact hd.1,λj hj=>?_⟩;rw[Ni]at hj;by_cases h:j=(ml d c.name).toNat
  .subst h
   rw[show(d.set (ml d c.name).toNat (At (xk d c.name) c)).getD (ml d c.name).toNat default=At (xk d c.name) c from by simp[List.getD,hj]];exact k6.2 (M7 he)
  rw[show(d.set (ml d c.name).toNat (At (xk d c.name) c)).getD j default=d.getD j default from by simp only[List.getD,List.getElem?_set_ne (Ne.symm h)]];exact hd.2 j hj
 rw[N6 rfl he];exact hd
def Gn.ok{d:DB}(h:Gn d):OY d:=⟨by have:=h.1;omega,λj hj=>azg (h.2 j hj)⟩
def JR:Gn []:=⟨by simp,λj hj=>by simp at hj⟩
def KP:∀{l:List Df} {d:DB},Gn d->Gn (XC d l)
 | [],d,h=>h
 | c::l,d,h=>by
  simp only[XC];split
  .exact JR
  exact KP (Q1 h)
variable {n:Nat}
def uZ (hn:n<=8) {f:Nat->Nat->PV}:Fc (.sl (0+n) 1 false (ek 0 f (λi j=>[PV.raw (.string ⟨#[97]⟩), .raw (.string ⟨#[98]⟩), .raw (.string ⟨#[99]⟩), .raw (.string ⟨#[100]⟩), .raw (.string ⟨#[101]⟩), .raw (.string ⟨#[102]⟩), .raw (.string ⟨#[103]⟩), .raw (.string ⟨#[104]⟩)].getD (i*1+j) .any))) (qv (og.take n)):=by
 refine Wa (by simp[og];omega) (.inl rfl) (λh=>h) λi j hi hj=>Va ?_;obtain rfl:j=0:=by omega
 have hi8:i<n:=by omega
 simp only[ek,Ud,Na,Ho,Zj,Fi,lf,List.getD,Ih,hi8,Ma];have:i<8:=by omega
 match i,this with
 |0,_=>rfl
 |1,_=>rfl
 |2,_=>rfl
 |3,_=>rfl
 |4,_=>rfl
 |5,_=>rfl
 |6,_=>rfl
 |7,_=>rfl
def eI{α:Type}[Inhabited α]{l:List α}{k:Nat}(h:l.length<=k):l.getD k default=default:=by simp[List.getD,h]
def R3 {g:UInt8} {i:Nat}:0<=(i:Int)*(1+(g.toNat:Int)%3)/\(i:Int)*(1+(g.toNat:Int)%3)<=3*i:=by
 have h:(g.toNat:Int)%3=0\/(g.toNat:Int)%3=1\/(g.toNat:Int)%3=2:=by omega
 rcases h with h|h|h<;>rw[h]<;>omega
def lQ{l:List UInt8}:(rj l n).length=n:=by simp[rj]
def NH{x:jm}:(lm x n).length=x.rows.length:=by simp[lm]
def SO {l:List UInt8} {k j:Nat} (h:k<n):lf Lb.c (rj l n) k j=Lb.c (As (l.getD k default)) j:=by
 unfold lf rj;rw[bV _ _ _ h]
def Z6 {x:jm} {i j:Nat} (h:i<x.rows.length):lf Xb.c (lm x n) i j=Xb.c ⟨1+(i:Int)*(1+(x.gap.toNat:Int)%3),rj (x.rows.getD i default) n⟩ j:=by
 unfold lf lm;rw[bV _ _ _ h]
def jr(s:Mk):List Df:=s.done.flatten++s.now
def Ov(s:Mk):DB:=XC [] (jr s)
def bu3 (s:Mk) (x:Ok):Df :=
 let k:=x.kind.toNat%9
 if k=0 then { (default:Df)with kind:=1,name:=Mv x,table:=mO x }
 else if ml (Ov s) (Mv x)<0 then default
 else
  let t:=xk (Ov s) (Mv x)
  if k=1 then { (default:Df)with kind:=2,name:=t.name,row:=pO x }
  else if ¬0<=ic t.rows x.id then default
  else if k=2 then { (default:Df)with kind:=3,name:=t.name,row:=t.rows.getD (max (ic t.rows x.id) 0).toNat default }
  else { (default:Df)with kind:=4,name:=t.name,row:=t.rows.getD (max (ic t.rows x.id) 0).toNat default,attr:=x.attr,value:=As x.value }
def bt0 (s:Mk) (x:Ok):Int :=
 let k:=x.kind.toNat%9
 if k=0 then tA (Ov s) (mO x)
 else if ml (Ov s) (Mv x)<0 then 4
 else
  let t:=xk (Ov s) (Mv x)
  if k=1 then Iu t (pO x)
  else if ¬0<=ic t.rows x.id then 4
  else if k=2 then 0
  else Lt t x.id x.attr (As x.value)
structure lN (s:Mk):Prop where
 ld:s.done.flatten.length<=68719476736
 ln:s.now.length<=68719476736
 lt:s.done.length<=68719476736
 lu:s.undone.length<=68719476736
 ok:L8 (jr s)
structure btf (x:Ok):Prop where
 lv:x.vals.length<=68719476736
 lr:x.t.rows.length<=68719476736
def lN.V{s:Mk}(_:lN s):Gn (Ov s):=KP JR
end
end
section
open Go.Proofs
def Zs(x:jm)(n:Int):Bool:=decide (¬(x.rows.length:Int) > n)
def Zz(x:jm)(n:Nat):ac:=if x.rows.length > n then T0 else d4 x (x.attrs.toNat%6)
def QX(x:jm)(n:Nat)(hn:n<=8)(hx:x.rows.length<=68719476736):a6 Ab 18 [x.pc,pI n] (a7 [(d4 x n).pc]):=by
 refine Nb (nt:=67) func18 ?_;refine Rc ?_;refine m9 0 ?_;refine m9 1 ?_;refine Tb ?_;refine m9 2 ?_;refine m9 3 ?_;refine qy ?_;refine JC rfl rfl rfl rfl rfl ?_;refine Ed 4 true ?_;refine qy ?_;refine m9 5 ?_;refine Cb ?_;refine f8 5 1 rfl rfl rfl rfl rfl ?_;refine Mb ?_;refine ej 5 2 100 true 2 82 (lf Xb.c (lm x n)) Zc rfl rfl Ya (.inr rfl) rfl rfl ?_;refine bz (ka 1 (ka 2 (ka 4 (ka 5 kn)))) (kb 0 (kb 1 km)) (λi=>⟨[(6,some (vI i))],[(5,some (.box [.p (.raw (.string ⟨#[114]⟩)), .p (qv (og.take n)), .ref 100 i])),(100,some (.arr true 2 82 i (lf Xb.c (lm x n))))]⟩) x.rows.length ⟨tt,⟨⟨_,rfl,⟨Tg.refl _,uZ hn,Tg.refl _,Aa⟩⟩,uu⟩⟩ ?_;rintro i hi;refine Cc ?_;refine Kb ?_ ?_<;>intro h0
 ·
  refine Mc ?_;have hgl:=R3 (g:=x.gap) (i:=i);refine ce ?_;refine m9 6 ?_;refine Wb ?_;refine ej 6 1 101 true 3 100 (lf Lb.c (rj (x.rows.getD i default) n)) Zc rfl rfl Ya (.inr rfl) rfl rfl ?_;refine bz (ka 1 (ka 2 (ka 4 (ka 5 (ka 6 (ka 7 kn)))))) (kb 5 (kb 100 (kb 0 (kb 1 km)))) (λk=>⟨[(8,some (vI k))],[(6,some (.box [.p (.raw (.int .i64 (1+(i:Int)*(1+(x.gap.toNat:Int)%3)))), .ref 101 k])),(101,some (.arr true 3 100 k (lf Lb.c (rj (x.rows.getD i default) n))))]⟩) n kk ?_;rintro k hk;refine Jb ?_;refine Kb ?_ ?_<;>intro h1
  ·
   refine Jb ?_;refine m7 (ka 1 (ka 2 (ka 4 (ka 5 (ka 6 (ka 7 (ka 8 kn))))))) (kb 6 (kb 101 (kb 5 (kb 100 (kb 0 (kb 1 km)))))) ⟨[(9,some (.v (.one (.p (.raw (.int .u8 ((((x.rows.getD i default).getD k default).toNat:Nat):Int)))))))],[]⟩ ?_ ?_
   ·
    refine cw ?_;refine DG 0 2 rfl rfl (λhb=>?_);refine ce ?_;refine Kb ?_ ?_<;>intro h2
    .refine dg ?_;exact⟨⟨⟨_,rfl,(by first|exact Ua|exact Xa (by rw[eI Za];rfl))⟩,tt⟩,uu⟩
    refine dj ?_;exact⟨⟨⟨_,rfl,(by first|exact Ua|exact Xa (by rw[eI Za];rfl))⟩,tt⟩,uu⟩
   refine Mc ?_;refine Fb (Ib func48) (OX ((((x.rows.getD i default).getD k default).toNat:Nat):Int) Za) ?_;refine m9 7 ?_;refine Ed 8 true ?_;refine Cc ?_;refine Rb (k+1) ⟨tt,⟨u9,⟨_,rfl,(o0 (λh=>h) (by first|(intro j hj;rw[SO Za];revert j;exact iM Ra Ra Ra)|(intro j hj;rw[SO Za,eI Za];revert j;exact iM Ra Ra Ra)))⟩,uu⟩⟩ ?_;show k+1<=_;omega
  obtain rfl:k=n:=by omega
  refine cg ?_;refine f8 6 1 rfl rfl rfl rfl rfl ?_;refine Mc ?_;refine m9 9 ?_;refine Ed 10 true ?_;refine Wb ?_;refine Rb (i+1) ⟨tt,⟨u9,⟨_,rfl,(o0 (λh=>h) (by intro j hj;rw[Z6 Za];revert j;exact BX Ra (Wa lQ (.inl rfl) (λh=>h) (λ_ _ _ _=>Ra))))⟩,uu⟩⟩ ?_;show i+1<=_;omega
 obtain rfl:i=x.rows.length:=by omega
 refine Eh ?_;exact⟨Ob.agg ⟨Ra,Ra,Wa NH (.inl rfl) (λh=>h) (λ_ _ _ _=>Ra),Aa⟩,Aa⟩
def bO (x:jm) (n:Nat) (hx:x.rows.length<=68719476736):a6 Ab 4 [x.pc,pI n] (a7 [(Zz x n).pc,pB (Zs x n)]):=by
 refine Nb (nt:=18) func4 ?_;refine Rc ?_;refine m9 0 ?_;refine m9 1 ?_;refine dg ?_;refine Kb ?_ ?_<;>intro h0
 .refine Eh ?_;exact⟨by rw[show Zz x n=T0 from Ba Za];exact Ob.agg ⟨Ra,Wa rfl (.inr rfl) (λ_=>rfl) (λi j hi _=>Ea hi (Ud i)),Wa rfl (.inr rfl) (λ_=>rfl) (λi j hi _=>Ea hi (Ud i)),Aa⟩,Vb (by unfold Zs;simp;omega),Aa⟩
 refine Wb ?_;refine rc rfl rfl rfl rfl rfl rfl (Ib func18) (QX x (x.attrs.toNat%6) Za (by first|exact hx|omega|assumption)) (⟨Sa,Sb Za,Aa⟩) rfl rfl ?_;refine Ef ?_;exact⟨Ob.of_eq (by rw[show Zz x n=d4 x (x.attrs.toNat%6) from Ca Za]),Vb (by unfold Zs;simp;omega),Aa⟩
end
section
open Go.Proofs Go.Lib Go.RowKit
universe u in
def bst(m i:Nat)(F G:Nat->Nat->PV):Nat->Nat->PV:=λk j=>if k<i then F k j else if k<i+m then G (k-i) j else F (k-m) j
def azu{imm:Dc}{m s:Nat}{clip:Bool}{G:Nat->Nat->PV}{u:Value}(hm:0<m)(hs:0<s)(h:aq imm (.sl m s clip G) u) :
 ∃ vb vo vc vcs tv fz,∃vs:List Value,u=.slice (some ⟨vb,vo,none⟩) m vc/\m<=vc/\vc<=maxLen/\imm vb=some (.cells vcs tv fz)/\vs.length=m*s /\
  (∀q x,vs[q]? = some x->vcs[vo+q]? = some x)/\∀k j,k<m->j<s->∃x,vs[k*s+j]? = some x/\aq imm (G k j) x:=by
 obtain⟨a,vc,rfl,h1,h2,_,h3⟩:=h;obtain⟨vb,vo,rfl,hc⟩:=h3 hm
 obtain ⟨vcs,tv,fz,hb⟩:∃vcs tv fz,imm vb=some (.cells vcs tv fz):=by
  obtain⟨x,hx,_⟩:=hc 0 0 hm hs;unfold gz at hx;split at hx
  .exact⟨_,_,_,by assumption⟩
  cases hx
 have hcell:∀k j,k<m->j<s->∃x,vcs[vo+(k*s+j)]? = some x/\aq imm (G k j) x:=λk j hk hj=>by
  obtain⟨x,hx,hr⟩:=hc k j hk hj;rw[gz,hb]at hx;exact⟨x,hx,hr⟩
 have hsz:vo+m*s<=vcs.size:=by
  obtain⟨x,hx,_⟩:=hcell (m-1) (s-1) Za Za;have:=(Le.1 hx).1;obtain⟨p,rfl⟩:∃p,m=p+1:=⟨m-1,by omega⟩;rw[Mf,Nat.one_mul];rw[Nat.add_sub_cancel]at this;omega
 have hlen:((vcs.toList.drop vo).take (m*s)).length=m*s:=by rw[Ae,Ck,Zh];omega
 have hget:∀q,q<m*s->((vcs.toList.drop vo).take (m*s))[q]? = vcs[vo+q]?:=λq hq=>by
  rw[Ih,Ba hq,Qo];simp
 refine⟨vb,vo,vc,vcs,tv,fz,_,rfl,h1,h2,hb,hlen,λq x hx=>?_,λk j hk hj=>?_⟩
 .rw [<- hget q (by rw[<- hlen];exact(On.1 hx).1)]
  exact hx
 have hq:k*s+j<m*s:=by
  have:(k+1)*s<=m*s:=Ve _ Za;rw[Mf,Nat.one_mul]at this;omega
 rw[hget _ hq];exact hcell k j hk hj
structure bs5 (w w':World) (T s:Nat) (own v:Value) (N:Nat) (xs:List Value):Prop where
 row:w'.ownsRow 0 T s v N xs
 bl:Below 0 w w'
 out:∀g,g<w.heap.size->d5 own≠some g->w'.heap[g]? = w.heap[g]?
 at_:∀g,d5 v=some g->w.heap.size<=g\/d5 own=some g
structure bsd (c:Pc) (w w':World) (T s a:Nat) (v:Value) (N:Nat) (ys:List Value):Prop where
 row:w'.ownsRow 0 T s v N ys
 bl:Below 0 w w'
 out:∀g,g<w.heap.size->¬c.blk a g->w'.heap[g]? = w.heap[g]?
 at_:∀g,d5 v=some g->w.heap.size<=g\/c.blk a g
end
section
open Go.RowKit Go.Proofs
def a6s {P:Program} (w:World) (tD tS ty elem:TypeId) (size:Nat) (hu:P.underlying tD=some (.slice elem)) (hs:(P.info? elem).map (·.size)=some size) (p q:Option Addr) (dL dC c:Nat) :
 (Builtin.copy_ #[tD,tS] ty #[.slice p dL dC, .slice q 0 c]).run P w=.ok (goInt 0) w:=by
 cases hq:P.info? elem with
 |none=>simp[hq]at hs
 | some i =>
  cases p<;>cases q<;>simp[Builtin.copy_,run_underlying hu,Builtin.lenOf,Builtin.firstCells,sizeOf,typeInfo,hq,loadCells,loadCellsFrom,storeCells]
section
variable {P:Program}{nt:Nat}{ops:Array Oper}{st:Qb}{k:Nat}{o:Oper}{L:List Nat}{Q:Qb->Prop}{x y:Operand}
def b5q{cl:Call}{tD tS elem e:TypeId}{id s m n:Nat}{clip:Bool}{F f:Nat->Nat->PV}(hi:ops[k]? = some o)(hu:P.underlying tD=some (.slice elem))(hs:(P.info? elem).map (·.size)=some s)(hnm:n<=m)
 (h:RN P nt ops L ⟨(match o.dst with|some d=>[(d,none)]|none=>[])++st.t,(id,some (.arr true s e m λi j=>if i<n then f i j else F i j))::st.o⟩ Q)
 (hg:o.guard=none:=by exact rfl) (ho:o.op=.call cl:=by exact rfl) (hcl:cl.callee=.builtin .copy:=by exact rfl) (har:cl.args=#[x,y]:=by exact rfl) (hat:cl.argTypes=#[tD,tS]:=by exact rfl) (hdn:dc nt o.dst=true:=by exact rfl)
 (hx:ev st.den x=some (.v (.one (.ref id m))):=by exact rfl) (hm:bo st.o id=some (.arr true s e m F):=by exact rfl) (hy:ev st.den y=some (.v (.one (.p (.sl n s clip f)))):=by exact rfl):RN P nt ops (k::L) st Q:=by
 refine CP hi hg hdn (λc hc=>by rw[hc]at ho;cases ho) λw0 a w c Db=>?_;have q1:bc c st.den.o (.ref id m) (a.eval x):=ae Db hx;have e1:a.eval x=c.own id:=(q1.2.2 _ _ _ _ hm rfl).2 rfl;have r2:aq c.imm (.sl n s clip f) (a.eval y):=ae Db hy;obtain⟨hs0,hmax,hrow⟩:=Db.objs id _ hm
 have hex:∀{v:Value} {w':World},(Builtin.copy_ #[tD,tS] o.type #[c.own id,a.eval y]).run P w=.ok v w'->(execOp a.eval o).run P w=.ok (.value v) w':=λ{v w'} hrun=>by
  cases cl with
  | mk ca ar at' =>
   simp only at hcl har hat;subst hcl har hat;simp[execOp,ho,resolve,invoke,builtin,e1,hrun,Result.andThen]
 rcases Mj n with hn0|hpos
 .subst hn0
  have hF:(λi j=>if i<0 then f i j else F i j)=F:=by
   funext i j;simp
  obtain⟨ad,cap,e2,_⟩:=r2
  have hform:∃p d q,c.own id=.slice p d q:=by
   rcases hrow with⟨_,xs,hr,_⟩|⟨_,_,p,q,hv,_⟩
   .rcases hr.2 with⟨hv,_⟩|⟨g,q,cur,hv,_⟩
    .exact⟨_,_,_,hv⟩
    exact⟨_,_,_,hv⟩
   exact⟨_,_,_,hv⟩
  obtain⟨p,d,q,e3⟩:=hform;refine⟨.value (goInt 0),w,_,c,rfl,hex (by rw[e2,e3];exact a6s w tD tS _ elem s hu hs p ad d q cap), .inr ⟨_,rfl⟩, ?_,h⟩;rw[hF];refine Db.relax _ (λd y hy=>⟨y,hy,Ua⟩) λid2 ob2 ho2=>?_;simp only[Qb.den,b9]at ho2;by_cases hk:id2=id
  .subst hk
   rw[Ba rfl]at ho2;exact⟨ob2,by rw[<- ho2];exact hm,Ic.refl _⟩
  rw[Ca hk]at ho2;exact⟨ob2,ho2,Ic.refl _⟩
 obtain⟨vb,vo,vc,vcs,tv,fz,vs,e2,hvc,hvm,himm,hvl,hcs,rvs⟩:=azu hpos hs0 r2
 rcases hrow with⟨hbk,xs,⟨hlen,hown⟩,hreps⟩|⟨h6|h6,_⟩
 rotate_left
 .cases h6
 .omega
 rcases hown with⟨_,hz⟩|⟨g,cap,cur,hv,hbase,hheap,hnc,hcm,hcsz,htake⟩
 .omega
 have hg2:=Db.imm vb _ himm;have hmul:n*s<=m*s:=Ve _ hnm;have hmul2:m*s<=cap*s:=Ve _ hnc
 have hrun:=akp (P:=P) w tD tS o.type elem g 0 m cap ⟨vb,vo,none⟩ n vc s cur e vs hu hs hheap (by rw[hvl,show Nat.min n m=n from Gi hnm]) (λj u hj=>by
  rw[Addr.add_lit,World.cell?,hg2]
  exact hcs j u hj) Za (bav hs0 hvl rvs)
 rw[Oe,List.take_zero,Kn]at hrun
 have hblk:c.blk id g:=by
  rw[hbk,hv];rfl
 have hheap2:(w.setRow g (vs++cur.toList.drop vs.length).toArray).heap[g]? = some (.cells (vs++cur.toList.drop vs.length).toArray e (0,0)):=setRow_heap w g cur _ e (0,0) hheap
 have hw:=Db.write id _ hm (.arr true s e m λi j=>if i<n then f i j else F i j) (w.setRow g (vs++cur.toList.drop vs.length).toArray) (c.own id) (c.blk id) (some g)
  ⟨⟨rfl,rfl,rfl,by simp,λi _ hi=>setRow_other w g i _ λe=>hi (by rw[e])⟩,Yb _⟩ (λb hb=>by cases hb;exact hblk)
  (.inr (.inr ⟨_, .arr true s e m λi j=>if i<n then f i j else F i j,s,e,m,m,hm,rfl,by simp[S.setO],rfl,Yb _,λ_=>by simp,λ_ _ _ _ _ _ _ hb=>by cases hb⟩)) (λb hb=>.inl hb)
  ⟨hs0,hmax, .inl ⟨by simpa using hbk,vs++xs.drop (n*s),⟨by rw[Uc,Ck,hlen,hvl];omega, .inr ⟨g,cap,(vs++cur.toList.drop vs.length).toArray,by simpa using hv,hbase,hheap2,hnc,hcm,by
   have h1:cur.toList.length=cap*s:=by rw[Zh];exact hcsz
   rw[Pi,Uc,Ck,h1,hvl]
   omega,by
   show(vs++cur.toList.drop vs.length).take (m*s)=_
   rw[<- htake,hvl,List.drop_take,List.take_append,Oz Za,hvl]⟩⟩,λi j hi hj=>by
   have hij:i*s+j<m*s:=by
    have:(i+1)*s<=m*s:=Ve _ hi;rw[Mf,Nat.one_mul]at this;omega
   by_cases hin:i<n
   .obtain ⟨x,hx,hr⟩:=rvs i j hin hj
    have hij2:i*s+j<n*s:=by
     have:(i+1)*s<=n*s:=Ve _ hin;rw[Mf,Nat.one_mul]at this;omega
    refine⟨x,by rw[Ul Za];exact hx, ?_⟩;have e3:(if i<n then f i j else F i j)=f i j:=Ba hin;show aq c.imm (if i<n then f i j else F i j) x;rw[e3];exact hr
   obtain⟨x,hx,hr⟩:=hreps i j hi hj
   have hij2:n*s<=i*s+j:=by
    have:n*s<=i*s:=Ve _ Za;omega
   refine⟨x,by rw[Jk Za,Qo,hvl];rw[<- hx];congr 1;omega, ?_⟩;have e3:(if i<n then f i j else F i j)=F i j:=Ca hin;show aq c.imm (if i<n then f i j else F i j) x;rw[e3]
   exact hr⟩⟩
 rw[<- ip]at hw;exact⟨.value _,_,_,_,by exact rfl,hex (by rw[e2,hv];exact hrun), .inr ⟨_,rfl⟩,hw,h⟩
def QS {z kv:Value} {kl:Lit} {kx:HR} {t kt et:TypeId} {ix:Operand} {d mid b clock:Nat} {es:Array MapEntry} (hi:ops[k]? = some o) (ht:P.underlying t=some (.map kt et)) (K:Go.Maps.Keyed P kt) (hz:∀w,(zeroValue et).run P w=.ok z w) (hzo:Sr z=true) (hX:tq P kt es clock)
 (hkey:keyOf P kt kv=some kl) (hkv:Su kx=some kv)
 (h:∀(ok:Bool) (v:Value),(ok=true->∃e∈es.toList,e.key=kv/\v=e.val)->(ok=false->v=z/\∀e∈es.toList,e.key≠kv)->RN P nt ops L ⟨(d,some (.v (Fk v)))::st.t,st.o⟩ Q)
 (hg:o.guard=none:=by exact rfl) (ho:o.op=.lookup t x ix false:=by exact rfl) (hd:o.dst=some d:=by exact rfl) (hdn:dc nt (some d)=true:=by exact rfl)
 (hx:ev st.den x=some (.v (.one (.ref mid 0))):=by exact rfl) (hm:st.den.o mid=some (Hk b es clock):=by exact rfl) (hk:ev st.den ix=some kx:=by exact rfl):RN P nt ops (k::L) st Q :=
 b4a hi ht K hz hzo hX hkey hkv (λhno=>h false z (λe=>by cases e) λ_=>⟨rfl,hno⟩) (λe he hk=>h true e.val (λ_=>⟨e,he,hk,rfl⟩) λe=>by cases e) hg ho hd hdn hx hm hk
end
end
section
def Yo(n:Nat):ByteArray:=⟨#[UInt8.ofNat (48+n)]⟩
def Kk(s:ByteArray)(i:Nat):ByteArray:=s++(⟨#[95]⟩:ByteArray)++Yo (i+1)
def Vg(t:ac)(ps:List AS)(i:Nat):ac:={ Tw t (ps.getD i default)with name:=Kk t.name i }
def Oj(t:ac)(ps:List AS):Int:=if Sd t.attrs.length ps≠0 then Sd t.attrs.length ps else if 24<t.name.size+2 then 3 else 0
def Ng(t:ac)(ps:List AS):List ac:=if Oj t ps=0 then(List.range ps.length).map (Vg t ps) else[]
def TJ (s:ByteArray) (i:Nat):(Kk s i).size=s.size+2:=by
 unfold Kk;rw[ByteArray.size_append,ByteArray.size_append];rfl
def Bu {t:ac} {ps:List AS} (h:Oj t ps=0):Ng t ps=(List.range ps.length).map (Vg t ps)/\Sd t.attrs.length ps=0/\t.name.size+2<=24:=by
 refine⟨Ba h, ?_⟩;unfold Oj at h;split at h
 .omega
 split at h
 .omega
 omega
def jF (l:List ac):Nat->ac
 |0=>l.getD 0 default
 |i+1=>Xp (jF l i) (l.getD (i+1) default)
def Fl(A T:List ByteArray)(r:Xb):Xb:=⟨r.id,T.map λx=>r.vals.getD (j0 A x).toNat default⟩
def Yr(j t:ac):ac:=⟨t.name,t.attrs,j.rows.map (Fl j.attrs t.attrs)⟩
def XE {l:List ByteArray} (hn:l.Nodup) {x:ByteArray} (hx:x∈l):(j0 l x).toNat=Fs l x/\0<=j0 l x:=by
 have h0:0<=j0 l x:=by
  have h3:=Qy (p:=λy=>decide (y=x)) (l:=l);have h4:(l.any λy=>decide (y=x))=true:=Yf.2 ⟨x,hx,Fa rfl⟩;rw[h4]at h3;exact Ga h3
 have h0':0<=Ee (λy=>decide (y=x)) l:=h0;obtain⟨h1,h2⟩:=wT (p:=λy=>decide (y=x)) (l:=l) h0';refine⟨?_,h0⟩;have h2:=Ga h2;unfold j0;generalize (Ee (λy=>decide (y=x)) l).toNat=k at h1 h2;rw[<- h2];exact(qu hn h1).symm
section
variable {t:ac}{ps:List AS}(hT:TE t)(hE:Oj t ps=0)(h3:ps.length<=3)(h8:t.rows.length<=8)
include hT hE
theorem D4 (i:Nat) (hi:i<9):gq (Kk t.name i)=true:=by
 obtain⟨_,_,hs⟩:=Bu hE;have h:=hT.ok.nm;unfold gq at h;simp only[Od,Ja]at h;obtain⟨⟨⟨⟨h1,h2⟩,h4⟩,h5⟩,h6⟩:=h;have hsz:=TJ t.name i
 have hat:∀j,j<t.name.size->c5 (Kk t.name i) j=c5 t.name j:=λj hj=>by
  have e:(bl (Kk t.name i)).getD j 0=(bl t.name).getD j 0:=by
   unfold Kk;rw[Ex,Ex,Ug,Oc,Oc,Ul hj]
  exact Da (λu:UInt8=>(u.toNat:Int)) e
 have hlast:c5 (Kk t.name i) t.name.size=95/\c5 (Kk t.name i) (t.name.size+1)=49+i:=by
  have e:bl (Kk t.name i)=bl t.name++[95,UInt8.ofNat (48+(i+1))]:=by
   unfold Kk Yo;rw[Ex,Ex,Ug];rfl
  have hl:(bl t.name).length=t.name.size:=rfl;have e0:(bl (Kk t.name i)).getD t.name.size 0=95:=by rw[e,Oc,Jk Za,hl];simp
  have e1:(bl (Kk t.name i)).getD (t.name.size+1) 0=UInt8.ofNat (48+(i+1)):=by rw[e,Oc,Jk Za,hl];simp
  refine⟨Da (λu:UInt8=>(u.toNat:Int)) e0,(Da (λu:UInt8=>(u.toNat:Int)) e1).trans ?_⟩
  have:(UInt8.ofNat (48+(i+1))).toNat=48+(i+1):=by
   rw[UInt8.toNat_ofNat'];omega
  rw[this];omega
 unfold gq;simp only[Od,Ja];refine⟨⟨⟨⟨by omega,by omega⟩, ?_⟩, ?_⟩, ?_⟩
 .rw [hat 0 Za]
  exact h4
 .intro e
  have h7:=Da (λs=>c5 s (t.name.size+1)) e;rw[hlast.2]at h7;have h8:t.name.size+2=4:=by rw[<- hsz,e];rfl
  have h9:t.name.size+1=3:=by omega
  rw[h9]at h7;have h10:c5 pD 3=108:=by decide
  rw[h10]at h7;omega
 unfold PA;rw[Ze];intro j hj;have hj:=Fe.1 hj;rw[hsz]at hj;unfold PA at h6;rw[Ze]at h6
 rcases Cv j t.name.size with h|h|h
 .rw [hat j h]
  exact h6 j (Fe.2 h)
 .rw [h,hlast.1]
  decide
 obtain rfl:j=t.name.size+1:=by omega
 rw[hlast.2];unfold Ik;have a1:decide (48<=(49+(i:Int)))=true:=Fa Za;have a2:decide ((49+(i:Int))<=57)=true:=Fa Za;rw[a1,a2];simp
omit hE in
theorem bdg {s:AS}:TE (Tw t s) :=
 ⟨baw hT.ok,λr hr v hv=>by
  obtain⟨h1,_⟩:=qr (s:=s) (f7 hT.ok.rs) t.rows.length (Yb _);obtain⟨k,hk,_,e⟩:=h1 r hr;rw[e]at hv
  exact hT.en _ (by rw[cq _ _ hk];exact De hk) v (u6 hv)⟩
section
variable {i:Nat}
theorem zH (hi:i<9):TE (Vg t ps i) :=
 have h:=bdg hT (s:=ps.getD i default)
 ⟨⟨D4 hT hE i hi,h.ok.na,h.ok.nr,h.ok.nms,h.ok.rs⟩,h.en⟩
omit hE in
theorem FQ:(Vg t ps i).rows.length<=t.rows.length:=by
 obtain⟨_,_,_,h4⟩:=qr (s:=ps.getD i default) (f7 hT.ok.rs) t.rows.length (Yb _);exact h4
omit hT in
theorem XA (hi:i<ps.length):(Ng t ps).getD i default=Vg t ps i:=by
 rw[(Bu hE).1,Oc,Pe,Hi hi];rfl
structure JI (t:ac) (ps:List AS) (i:Nat) (j:ac):Prop where
 te:TE j
 jn:JN t.attrs (t.rows.map Xb.vals) ((ps.take (i+1)).map λs=>gk s t.attrs t.attrs.length) j.attrs (j.rows.map Xb.vals)
 le:j.rows.length<=8^(i+1)
 sub:∀x∈j.attrs,x∈t.attrs
omit hE in
theorem IR {w:List Lb}:w∈(Vg t ps i).rows.map Xb.vals<->Lp t.attrs (t.rows.map Xb.vals) (gk (ps.getD i default) t.attrs t.attrs.length) w:=by
 rw[oR hT.ok.nod λr hr=>hT.ok.wid hr];exact awp (f7 hT.ok.rs)
include h8
theorem bdu (h0:0<ps.length):JI t ps 0 (jF (Ng t ps) 0):=by
 have e:jF (Ng t ps) 0=Vg t ps 0:=XA hE h0;rw[e]
 have e1:ps.take 1=[ps.getD 0 default]:=by
  rw[YF h0,gD h0];rfl
 refine⟨zH hT hE Za, ?_, ?_,λx hx=>TT hx⟩
 .rw [e1]
  exact JN.base (JV hT.ok.nod) λw=>IR hT
 have:=FQ hT (ps:=ps) (i:=0);omega
include h3
theorem bas (hi:i+1<ps.length) (h:JI t ps i (jF (Ng t ps) i)):
 TE (Vg t ps (i+1))/\(jF (Ng t ps) i).rows.length*(Vg t ps (i+1)).rows.length<=1000/\(Qc (jF (Ng t ps) i).attrs (Vg t ps (i+1)).attrs).length<=16/\JI t ps (i+1) (jF (Ng t ps) (i+1)):=by
 have e:jF (Ng t ps) (i+1)=Xp (jF (Ng t ps) i) (Vg t ps (i+1)):=Da (Xp _) (XA hE hi);have hb:=zH hT hE (ps:=ps) (i:=i+1) Za;have hbl:=FQ hT (ps:=ps) (i:=i+1);have hle:=h.le;have hi2:i=0\/i=1:=by omega
 have hm:(jF (Ng t ps) i).rows.length*(Vg t ps (i+1)).rows.length<=8^(i+1)*8:=Nat.mul_le_mul hle Za
 have hm2:(8:Nat)^(i+1)*8<=1000:=by rcases hi2 with rfl|rfl<;>decide
 have hsub:∀x∈Qc (jF (Ng t ps) i).attrs (Vg t ps (i+1)).attrs,x∈t.attrs:=λx hx=>by
  rcases sc.1 hx with hx|hx
  .exact h.sub x hx
  exact TT hx
 have h16:(Qc (jF (Ng t ps) i).attrs (Vg t ps (i+1)).attrs).length<=16 :=
  Nd ((uk h.te.ok.nod).length_le_of_subset hsub) hT.ok.na
 refine⟨hb,Nd hm hm2,h16, ?_⟩;rw[e];refine⟨F5 h.te hb h16 (Nd hm hm2), ?_, ?_,hsub⟩
 .have e1:(ps.take (i+1+1)).map (λs=>gk s t.attrs t.attrs.length)=(ps.take (i+1)).map (λs=>gk s t.attrs t.attrs.length)++[gk (ps.getD (i+1) default) t.attrs t.attrs.length]:=by
   rw[YF hi,Mi,gD hi];rfl
  rw[e1];exact h.jn.step (rows':=(Vg t ps (i+1)).rows.map Xb.vals) (JV hT.ok.nod) (λw=>IR hT) λw=>b3w h.te hb
 show(ir _).length<=_;rw[tL,PE];exact Nd uJ (by rw[Nat.pow_succ];exact hm)
theorem b18 {p m:List Fd} (h0:0<ps.length) (hc:Zd t.attrs.length ps p m=0) (hl:Te t.attrs.length ps p m=true) (hF:∀d∈p,En t d=true) (hM:∀d∈m,Cn t d=true) {j:ac} (h:JI t ps (ps.length-1) j) :
 j.attrs.length=t.attrs.length/\(∀x∈t.attrs,x∈j.attrs)/\Rt (Yr j t) t=true:=by
 have hw:∀r∈t.rows,r.vals.length=t.attrs.length:=λr hr=>hT.ok.wid hr;have hall:ps.take (ps.length-1+1)=ps:=Oz Za;have hjn:=h.jn;rw[hall]at hjn;have hor:Qd ps=ak t.attrs.length:=(jl (Bu hE).2.1).2.2.2.2
 have hTA:∀x∈t.attrs,x∈j.attrs:=λx hx=>by
  obtain⟨i,hi,e⟩:=Fg hx;have hn16:=hT.ok.na
  have hbit:(Qd ps).getLsbD i=true:=by
   rw[hor,aU Za Za Za];exact Fa Za
  rw[ue Za,Yf]at hbit;obtain⟨s,hs,hb⟩:=hbit;refine(hjn.nm x).2 ⟨_,Ad.2 ⟨s,hs,rfl⟩, ?_⟩;unfold gk;refine Ad.2 ⟨i,dB.2 ⟨hi, ?_⟩, ?_⟩
  .rw [j6 Za]
   exact hb
  rw[cq _ _ hi,e]
 have hlen:j.attrs.length=t.attrs.length:=Nat.le_antisymm (h.te.ok.nod.length_le_of_subset h.sub) (hT.ok.nod.length_le_of_subset hTA);refine⟨hlen,hTA, ?_⟩
 have hfin:=λ(w:List Lb)=>hjn.final (w:=w) hTA (λr hr=>by
  obtain⟨q,hq,rfl⟩:=Ad.1 hr
  exact GQ hT.ok.nod (hw q hq)) (λf hf=>b36 hT.ok.na hT.ok.nod hw hc hl hF hM hf)
 have hre:∀r:Xb,(Fl j.attrs t.attrs r).vals=t.attrs.map λx=>r.vals.getD (Fs j.attrs x) default:=λr=>Mn λx hx=>by rw[(XE h.te.ok.nod (hTA x hx)).1]
 unfold Rt BC;rw[Od,Od];refine⟨Fa rfl,Ze.2 λr hr=>?_,Ze.2 λr hr=>?_⟩
 .obtain ⟨q,hq,rfl⟩:=Ad.1 hr
  have h1:=(hfin (Fl j.attrs t.attrs q).vals).1 ⟨q.vals,Ad.2 ⟨q,hq,rfl⟩,hre q⟩;obtain⟨u,hu,e⟩:=Ad.1 h1;exact Yf.2 ⟨u,hu,Fa e⟩
 obtain⟨v,hv,e⟩:=(hfin r.vals).2 (Ad.2 ⟨r,hr,rfl⟩);obtain⟨q,hq,rfl⟩:=Ad.1 hv;exact Yf.2 ⟨Fl j.attrs t.attrs q,Ad.2 ⟨q,hq,rfl⟩,Fa (by rw[hre q,e])⟩
end
end
end
section
open Go.Proofs
def xO(l:List Lb)(hl:l.length<=16)(hok:∀v∈l,cz v=true):dn Ab 42 [.one (.ref 1000 l.length)] [(1000, .arr true 3 100 l.length (lf Lb.c l))] (.v (.one (.p (.raw (.string (Md l)))))) [(1000, .arr true 3 100 l.length (lf Lb.c l))] [1000]:=by
 refine Eg (nt:=23) func42 ?_;refine Mb ?_;refine m9 0 ?_;refine Cc ?_;refine bz (ka 3 (ka 8 (ka 9 kn))) (kb 1000 km) (λi=>⟨[(10,some (vI i))],[(0,some (bd (decide (i=0)) (bl (Md (l.take i)))))]⟩) l.length kk ?_;rintro i hi;refine Eb ?_;refine Kb ?_ ?_<;>intro h0
 ·
  have hil:i<l.length:=by omega
  have hsz:(bl (Md (l.take i))).length+(py (l.getD i default)).size<=140737488355328:=by
   have h1:=AB (l:=l.take i);have h2:=LU (v:=(l.getD i default));have h3:(bl (Md (l.take i))).length=(Md (l.take i)).size:=rfl;rw[Ae]at h1;omega
  refine Jb ?_;refine m9 1 ?_;refine Eb ?_;refine Fb (Ib func79) (tZ (l.getD i default)) ?_;refine Wb ?_;refine Ke qp (rh 0 (decide (i=0)) (bl (Md (l.take i))) (py (l.getD i default)) hsz) uu ?_;refine Eb ?_;exact Ld (i+1) ⟨tt,⟨⟨_,rfl,(Ic.of_eq (by rw[b4x hil];rfl))⟩,uu⟩⟩
 obtain rfl:i=l.length:=by omega
 refine Tb ?_;refine Ke IH (P6 0 _ (bl (Md (l.take l.length))) (bcc hok)) uu ?_;refine Cb ?_;refine Db ?_;exact⟨_,_,rfl,Uf,(by show Fc (.raw (.string _)) (.raw (.string _));rw[Id,eD];exact Ra),uu⟩
section
variable {a b:List Lb}{n:Nat}{pl:List Nat}
def sE (h:a.length<=n):∀{i:Nat} {w:List Lb},Je a b pl n i=some w->w.length=n
 | 0,w,e=>by
  unfold Je at e;obtain rfl:=Option.some.inj e;rw[Uc,List.length_replicate];omega
 | i+1,w,e=>by
  unfold Je at e;split at e
  .cases e
  rename_i o ho;split at e
  .cases e
  obtain rfl:=Option.some.inj e;rw[Ni];exact sE h ho
def LT{i:Nat}(h:Je a b pl n (i+1)=none):∀{m:Nat},i<m->Je a b pl n m=none
 | m + 1,hm=>by
  rcases Io i m with h1|h1
  .have:=LT h h1
   unfold Je;rw[this]
  obtain rfl:m=i:=by omega
  exact h
def S0 {w:List Lb} {i:Nat} (h:Je a b pl n i=some w) (h1:pl.getD i default<a.length) (h2:¬a.getD (pl.getD i default) default=b.getD i default):Je a b pl n (i+1)=none:=by
 unfold Je;rw[h];exact Ba ⟨h1,h2⟩
def AO {w:List Lb} {i:Nat} (h:Je a b pl n i=some w) (h1:pl.getD i default<a.length->a.getD (pl.getD i default) default=b.getD i default):Je a b pl n (i+1)=some (w.set (pl.getD i default) (b.getD i default)):=by
 unfold Je;rw[h];exact Ca λh2=>h2.2 (h1 h2.1)
def b3g{e:TypeId}{F:Nat->Nat->PV}(h:a.length<=n)(hF:∀i j,a.length<=i->i<n->j<3->Fc (F i j) (Lb.c default j)):Ic (.arr true 3 e n λi j=>if i<a.length then lf Lb.c a i j else F i j) (.arr true 3 e n (lf Lb.c (a++List.replicate (n-a.length) default))):=by
 refine⟨λh=>h,rfl,rfl,rfl,λi j hi hj=>?_⟩;dsimp only;split
 .rename_i hlt
  show Fc (Lb.c (a.getD i default) j) (Lb.c ((a++List.replicate (n-a.length) default).getD i default) j);rw[Oc,Oc,Ul hlt];exact Ra
 rename_i hge;show Fc (F i j) (Lb.c ((a++List.replicate (n-a.length) default).getD i default) j)
 have e:(a++List.replicate (n-a.length) default).getD i default=(default:Lb):=by
  rw[Oc,Jk Za,List.getElem?_replicate];split<;>rfl
 rw[e];exact hF i j Za hi hj
def D1(a b:List Lb)(pl:List Nat)(n:Nat)(ha:a.length<=n)(hn:n<=16)(hb:b.length=pl.length)(hp:∀i,i<pl.length->pl.getD i default<n):dn Ab 41 [.one (.p (vals a)), .one (.p (vals b)), .one (.p (il pl)), .one (.p (.raw (.int .i64 (n:Int))))] [] (.tup [.one (.ref 0 ((Je a b pl n pl.length).getD []).length), .one (.p (.raw (.bool (Je a b pl n pl.length).isSome)))]) [(0, .arr true 3 100 ((Je a b pl n pl.length).getD []).length (lf Lb.c ((Je a b pl n pl.length).getD [])))] []:=by
 refine Eg (nt:=49) func41 ?_;refine Wb ?_;refine m9 0 ?_;refine Tb ?_;refine i9 [] [0,1,2] rfl ?_;refine jy (E:=ig) (L1:=[0,1]) (L2:=[2]) gi ?_;refine Tb ?_;refine b5q (id:=0) (k:=2) (L:=[]) rfl underlying80 Ol ha ?_;refine nu ?_;refine Cb ?_;refine cj 2 rfl λhpn=>?_;refine Mb ?_;refine aa (ι:=Nat×List Lb) (ka 0 (ka 1 (ka 10 (ka 18 (ka 19 kn))))) km (λx=>⟨[(20,some (vI x.1))],[(0,some (.arr true 3 100 n (lf Lb.c x.2)))]⟩) (λx=>x.1<=pl.length/\(Je a b pl n x.1)=some x.2) (λx=>pl.length-x.1) ((0,a++List.replicate (n-a.length) default)) (⟨Zb _,rfl⟩) ⟨tt,⟨⟨_,rfl,(b3g ha λi j _ _ hj=>by revert j;exact Kp Ra Ra Ra)⟩,Aa⟩⟩ ?_;rintro x ⟨hi,hJ⟩;refine Eb ?_;refine Kb ?_ ?_<;>intro h0
 ·
  have hil:x.1<pl.length:=by omega
  have hpi:(pl.getD x.1 default)<n:=hp x.1 hil;have hwl:=sE ha hJ;refine Sq ?_;refine af rfl rfl ?_ ?_<;>intro r1
  ·
   have h1:=Bc r1;have hlt:(pl.getD x.1 default)<a.length:=by have hz:=h1;omega
   (iterate 9 refine qy ?_ (hg:=(Lc r1)));refine Tb ?_;refine aj _ rfl ?_ ?_<;>intro r2
   .have h2:=bp r1 r2;have hno:Je a b pl n (x.1+1)=none:=S0 hJ hlt (λe=>by rw[Lb.eq_iff]at e;simp_all);have hnn:=LT hno hil;refine Eb ?_;refine pF ⟨[(8,some _),(9,some _)],[]⟩ kk ?_;refine d9 8 0 true 3 100 (lf Lb.c []) Zc rfl Ya (.inr rfl) rfl ?_;refine Db ?_;exact⟨_,_,rfl,Uf,(by rw[hnn];exact Ua),⟨⟨_,rfl,(by rw[hnn];exact Ic.refl _)⟩,Aa⟩⟩
   have h2:=bp r1 r2;have hnx:=AO hJ (λ_=>Lb.eq_iff.2 Qg);refine Wb ?_;refine rq rfl rfl rfl rfl rfl ?_ (hp:=⟨rfl,rfl,Sl _,Is.2 hpi⟩);refine Mb ?_;refine Rb (x.1+1,x.2.set (pl.getD x.1 default) (b.getD x.1 default)) ⟨tt,⟨⟨_,rfl,(jU (λh=>h) hwl.symm rfl Za rfl)⟩,Aa⟩⟩ ?_;exact⟨by show x.1+1<=_;omega,hnx⟩
  have h1:=Ac r1;have hnx:=AO hJ (λh=>Ea h (by have hz:=h1;omega));(iterate 9 refine k9 (Vd r1) ?_);refine fy ?_;refine rq rfl rfl rfl rfl rfl ?_ (hp:=⟨rfl,rfl,Sl _,Is.2 hpi⟩);refine Mb ?_
  refine Rb (x.1+1,x.2.set (pl.getD x.1 default) (b.getD x.1 default)) ⟨tt,⟨⟨_,rfl,(jU (λh=>h) hwl.symm rfl Za rfl)⟩,Aa⟩⟩ ?_;exact⟨by show x.1+1<=_;omega,hnx⟩
 obtain he:x.1=pl.length:=by omega
 rw[he]at hJ;refine Jb ?_;refine Db ?_;have hwe:=sE ha hJ;exact⟨_,_,rfl,Uf,(by rw[hJ];exact⟨Da (HV.ref 0) hwe.symm,Ra,Aa⟩),⟨⟨_,rfl,(by rw[hJ];exact⟨λh=>h,rfl,rfl,hwe,λ_ _ _ _=>Ra⟩)⟩,Aa⟩⟩
def I7 (n:Nat) (hn1:1<=n) (hn3:n<=3):a6 Ab 165 [pI n] (a7 [pS (Yo n)]):=by
 refine Nb (nt:=15) func165 ?_;refine ce ?_;refine Kb ?_ ?_<;>intro h0
 .refine Eb ?_;refine rq rfl rfl rfl rfl rfl ?_ (hp:=⟨⟨by omega,by show(n:Int)<=((((n:Int)+1).toNat:Nat):Int);omega⟩,⟨by omega,by show(n:Int)+1<=36;omega⟩,Aa⟩);refine Tf ?_;exact⟨oM (by rcases(show n=1\/n=2\/n=3 by omega)with rfl|rfl|rfl<;>rfl),Aa⟩
 exfalso;omega
def T1 (n:Nat) (hn1:1<=n) (hn3:n<=3):a6 Ab 116 [pI n,pI 10] (a7 [pS (Yo n)]):=by
 refine Nb (nt:=54) func116 ?_;refine qh ?_;refine af rfl rfl ?_ ?_<;>intro r0
 ·
  have h0:=Bc r0;(iterate 2 refine qy ?_ (hg:=(Lc r0)));refine Cb ?_;refine aj _ rfl ?_ ?_<;>intro r1
  .have h1:=Bc (bp r0 r1);refine Tb ?_;refine Fb (Ib func165) (I7 n hn1 hn3) ?_;refine Tf ?_;exact Ta
  have h1:=Ac (bp r0 r1);exfalso;omega
 have h0:=Ac r0;exfalso;omega
def B4 (n:Nat) (hn1:1<=n) (hn3:n<=3):a6 Ab 67 [pI n] (a7 [pS (Yo n)]):=by
 refine Nb (nt:=5) func67 ?_;refine Jb ?_;refine Fb (Ib func116) (T1 n hn1 hn3) ?_;refine Tf ?_;exact Ta
def S2 (n:Nat) (hn1:1<=n) (hn3:n<=3):a6 Ab 28 [pI n] (a7 [pS (Yo n)]):=by
 refine Nb (nt:=5) func28 ?_;refine Jb ?_;refine Fb (Ib func67) (B4 n hn1 hn3) ?_;refine Tf ?_;exact Ta
def bab (n:Nat) (hn1:1<=n) (hn3:n<=3):a6 Ab 32 [pI n] (a7 [pS (Yo n)]):=by
 refine Nb (nt:=24) func32 ?_;refine ce ?_;refine Kb ?_ ?_<;>intro h0
 .exfalso;omega
 refine Jb ?_;refine Kb ?_ ?_<;>intro h1
 .exfalso;omega
 refine Jb ?_;refine Kb ?_ ?_<;>intro h2
 .refine Eb ?_;refine rq rfl rfl rfl rfl rfl ?_ (hp:=⟨⟨by omega,by show(n:Int)<=((((n:Int)+1).toNat:Nat):Int);omega⟩,⟨by omega,by show(n:Int)+1<=10;omega⟩,Aa⟩);refine Tf ?_;exact⟨oM (by rcases(show n=1\/n=2\/n=3 by omega)with rfl|rfl|rfl<;>rfl),Aa⟩
 exfalso;omega
end
end
section
open Go.RowKit
def Hw(a b:ac)(r s:Xb):Option (List Lb):=Je r.vals s.vals (Pd a.attrs b.attrs) (Qc a.attrs b.attrs).length (Pd a.attrs b.attrs).length
def cR{A B:List ByteArray}:(Pd A B).length=B.length:=by simp[Pd]
def Hp(a b:ac)(i:Nat):List (List Lb):=(a.rows.take i).flatMap λr=>b.rows.filterMap (Hw a b r)
def mc(a b:ac)(i k:Nat):List (List Lb):=Hp a b i++(b.rows.take k).filterMap (Hw a b (a.rows.getD i default))
section
variable {a b:ac}{i k:Nat}{w:List Lb}
def WU (hi:i<a.rows.length):Hp a b (i+1)=mc a b i b.rows.length:=by
 unfold mc Hp;rw[au hi,Ro,Id];simp
def dS:Hp a b a.rows.length=Gg a b:=by
 unfold Hp Gg Hw;rw[Id,cR]
def ayz:mc a b i 0=Hp a b i:=by simp[mc]
def bcd (hk:k<b.rows.length) (h:Hw a b (a.rows.getD i default) (b.rows.getD k default)=none):mc a b i (k+1)=mc a b i k:=by
 unfold mc;rw[au hk,List.filterMap_append,List.filterMap_cons,h];simp
def b2m (hk:k<b.rows.length) (h:Hw a b (a.rows.getD i default) (b.rows.getD k default)=some w):mc a b i (k+1)=mc a b i k++[w]:=by
 unfold mc;rw[au hk,List.filterMap_append,List.filterMap_cons,h];simp
def b4u (hi:i<a.rows.length):mc a b i k <+: mc a b i b.rows.length:=by
 unfold mc;refine List.prefix_append_right_inj _ |>.2 ?_
 rw[Id];exact(List.take_prefix k b.rows).filterMap _
def b2t:Hp a b i <+: Gg a b:=by
 rw[<- dS];unfold Hp;rw[Id];obtain⟨t,ht⟩:=List.take_prefix i a.rows;refine⟨t.flatMap λr=>b.rows.filterMap (Hw a b r), ?_⟩;rw[<- Ro,ht]
def rT (hi:i<a.rows.length):mc a b i k <+: Gg a b:=by
 have h:=b2t (a:=a) (b:=b) (i:=i+1);rw[WU hi]at h;exact(b4u hi).trans h
def OT(hi:i<a.rows.length):(mc a b i k).length<=a.rows.length*b.rows.length:=Nd (rT hi).length_le sJ
def b59(hi:i<a.rows.length)(h:w∈mc a b i k):w∈Gg a b:=(rT hi).subset h
end
abbrev GV:=List (List Lb×Value)
def Pv(G:GV):List (Value×kc):=G.map λg=>(g.2,Al 3 100 g.1.length (lf Lb.c g.1))
def PU {G:GV} {w:List Lb} {v:Value}:Pv (G++[(w,v)])=Pv G++[(v,Al 3 100 w.length (lf Lb.c w))]:=by
 unfold Pv;rw[Mi];rfl
def b2x {l:List Lb}:∀i j,i<l.length->j<3->Vz (lf Lb.c l i j)=true:=λi j _ hj=>by
 rcases j with _|_|_|j
 .rfl
 .rfl
 .rfl
 omega
abbrev VL(G:GV):List Lb->Value->Prop:=λw v=>(w,v)∈G
structure Pp (a b:ac) (G:GV):Prop where
 inn:∀g∈G,g.1∈Gg a b
 one:∀g∈G,g.2.oneCell'=true
theorem Pp.nil{a b:ac}:Pp a b []:=⟨λg hg=>(by cases hg),λg hg=>(by cases hg)⟩
theorem Pp.snoc {a b:ac} {G:GV} {w:List Lb} {v:Value} (h:Pp a b G) (hw:w∈Gg a b) (hv:v.oneCell'=true):Pp a b (G++[(w,v)]) :=
 ⟨λg hg=>by
  rcases Af.1 hg with hg|hg
  .exact h.inn g hg
  .rw[Bf.1 hg];exact hw,λg hg=>by
  rcases Af.1 hg with hg|hg
  .exact h.one g hg
  rw[Bf.1 hg];exact hv⟩
abbrev ZR:=Int×List Lb×Value
def TB (z:ZR):Nat->PV
 |0=>.raw (.int .i64 z.1)
 |1=>.raw z.2.2
 |_=>.any
structure Nr (a b:ac) (G:GV) (Z:List ZR) (i:Nat):Prop where
 len:Z.length=i
 at_:∀q,q<i->(Z.getD q default).1=(q:Int)+1/\(Z.getD q default).2∈G/\Md (Z.getD q default).2.1=(Hf a b).getD q default
section
variable {a b:ac}{G:GV}{Z:List ZR}{i:Nat}
theorem Nr.nil:Nr a b G [] 0:=⟨rfl,λq hq=>Ea hq (Ud q)⟩
theorem Nr.snoc (h:Nr a b G Z i) {g:List Lb×Value} (hg:g∈G) (hk:Md g.1=(Hf a b).getD i default):Nr a b G (Z++[((i:Int)+1,g)]) (i+1) :=
 ⟨by rw[Uc,h.len];rfl,λq hq=>by
  by_cases hqi:q<i
  .have e:(Z++[((i:Int)+1,g)]).getD q default=Z.getD q default:=by rw[Oc,Oc,Ul (by rw[h.len];exact hqi)]
   rw[e];exact h.at_ q hqi
  obtain rfl:q=i:=by omega
  have e:(Z++[((q:Int)+1,g)]).getD q default=((q:Int)+1,g):=by rw[Oc,Jk (by rw[h.len];exact Yb _),h.len];simp
  rw[e]
  exact⟨rfl,hg,hk⟩⟩
def b07 {L:List (List Lb)} {i:Nat} (hi:i<L.length):(ir L).getD i default=⟨(i:Int)+1,L.getD i default⟩:=by
 unfold ir;rw[Oc,Pe,Hi hi];rfl
def I6 (ha:TE a) (hb:TE b) {q:Nat} (hq:q<(Hf a b).length) {w:List Lb} (hw:w∈Gg a b) (hk:Md w=(Hf a b).getD q default):(Gj (Gg a b) (Hf a b)).getD q default=w:=by
 have e:(Gj (Gg a b) (Hf a b)).getD q default=((Gg a b).find? λl=>decide (Md l=(Hf a b).getD q default)).getD []:=by
  unfold Gj;rw[Oc,Pe,Oc,Hc hq];rfl
 rw[e]
 cases hf:(Gg a b).find? λl=>decide (Md l=(Hf a b).getD q default) with
 |none=>exact Ea (Fa hk) (Oo.1 hf w hw)
 | some x =>
  have hx:=Pz hf;have e2:Md x=(Hf a b).getD q default:=by simpa using Xu hf
  obtain⟨l1,v1⟩:=yh ha hb hx;obtain⟨l2,v2⟩:=yh ha hb hw;exact HI (l1.trans l2.symm) v1 v2 (e2.trans hk.symm)
def P1(ha:TE a)(hb:TE b)(h:Nr a b G Z (Hf a b).length)(hG:Pp a b G):∀i j,i<Z.length->j<2 ->
 Fc (lf TB Z i j) (lf Xb.c (ir (Gj (Gg a b) (Hf a b))) i j)\/∃v sz e m g,(v,Al sz e m g)∈Pv G/\lf TB Z i j=.raw v/\lf Xb.c (ir (Gj (Gg a b) (Hf a b))) i j=.sl m sz false g:=λi j hi hj=>by
 rw[h.len]at hi;obtain⟨h1,h2,h3⟩:=h.at_ i hi
 have hr:(ir (Gj (Gg a b) (Hf a b))).getD i default=⟨(i:Int)+1,(Z.getD i default).2.1⟩:=by
  rw[b07 (by rw[PE];exact hi),I6 ha hb hi (hG.inn _ h2) h3]
 rcases j with _|_|j
 .left
  show Fc (.raw (.int .i64 (Z.getD i default).1)) (.raw (.int .i64 ((ir (Gj (Gg a b) (Hf a b))).getD i default).id));rw[hr,h1];exact Ra
 .right
  refine⟨(Z.getD i default).2.2,3,100,(Z.getD i default).2.1.length,lf Lb.c (Z.getD i default).2.1,Ad.2 ⟨_,h2,rfl⟩,rfl, ?_⟩;show vals ((ir (Gj (Gg a b) (Hf a b))).getD i default).vals=_;rw[hr];rfl
 omega
end
section
variable {A B:List ByteArray}{i:Nat}
def bb4 {X Y:List ByteArray}:Qc A (X++Y)=Qc (Qc A X) Y:=by
 unfold Qc;rw[Oi]
def dR:Qc A (B.take i) <+: Qc A B:=by
 have h:Qc A B=Qc (Qc A (B.take i)) (B.drop i):=by rw[<- bb4,Lz]
 rw[h];exact x6
def qP:∀{B A:List ByteArray},(Qc A B).length<=A.length+B.length
 | [],A=>Yb _
 | x :: B,A=>by
  have h:=qP (B:=B) (A:=Fj A x)
  have h2:(Fj A x).length<=A.length+1:=by
   unfold Fj;split
   .omega
   simp
  show(Qc (Fj A x) B).length<=A.length+(B.length+1);omega
def b6s {l:List ByteArray} {x:ByteArray} (h:j0 l x<0):x∉l:=λhx=>by
 have h3:=Qy (p:=λy=>decide (y=x)) (l:=l);have h4:(l.any λy=>decide (y=x))=true:=Yf.2 ⟨x,hx,Fa rfl⟩;rw[h4]at h3;have:=Ga h3;unfold j0 at h;omega
def b5a {l:List ByteArray} {x:ByteArray} (h:0<=j0 l x):x∈l:=by
 have h0:0<=Ee (λy=>decide (y=x)) l:=h;obtain⟨h1,h2⟩:=wT (p:=λy=>decide (y=x)) (l:=l) h0;have h2:=Ga h2;generalize (Ee (λy=>decide (y=x)) l).toNat=k at h1 h2;rw[<- h2,gD h1];exact De h1
def b4v(hA:A.Nodup)(hi:i<B.length)(h:0<=j0 (Qc A (B.take i)) (B.getD i default)):Qc A (B.take (i+1))=Qc A (B.take i)/\j0 (Qc A (B.take i)) (B.getD i default)=(((Pd A B).getD i default:Nat):Int):=by
 have hm:=b5a h;obtain⟨h1,h2⟩:=XE (uk (B:=B.take i) hA) hm;refine⟨?_, ?_⟩
 .rw [ES hi]
  unfold Fj;rw[Ba hm]
 have h3:(Pd A B).getD i default=Fs (Qc A (B.take i)) (B.getD i default):=(RA hi).trans (jE dR hm);rw[h3,<- h1];omega
def Q7 (hA:A.Nodup) (hi:i<B.length) (h:j0 (Qc A (B.take i)) (B.getD i default)<0):Qc A (B.take (i+1))=Qc A (B.take i)++[B.getD i default]/\(((Qc A (B.take i)).length:Nat):Int)=(((Pd A B).getD i default:Nat):Int):=by
 have hm:=b6s h
 have e:Qc A (B.take (i+1))=Qc A (B.take i)++[B.getD i default]:=by
  rw[ES hi];unfold Fj;rw[Ca hm]
 refine⟨e, ?_⟩
 have hin:B.getD i default∈Qc A (B.take (i+1)):=by
  rw[e];exact Bh _ (Bf.2 rfl)
 have h3:(Pd A B).getD i default=Fs (Qc A (B.take (i+1))) (B.getD i default):=(RA hi).trans (jE dR hin);have h4:=qu (l:=Qc A (B.take (i+1))) (i:=(Qc A (B.take i)).length) (uk hA) (by rw[e,Uc,Yk];omega)
 have h5:(Qc A (B.take (i+1))).getD (Qc A (B.take i)).length default=B.getD i default:=by
  rw[e,Oc,Jk (Yb _)];simp
 rw[h5]at h4;rw[h3];exact Da (λn:Nat=>(n:Int)) h4.symm
def F4 (hi:i<B.length):(Pd A B).getD i default<(Qc A B).length:=by
 have h:(Pd A B).getD i default=Fs (Qc A B) (B.getD i default):=RA hi;rw[h];refine SR (sc.2 (.inr ?_));rw[gD hi];exact De hi
end
end
end Go.Hx
section
namespace Go.Proofs
open Go.Hx
open Go.Shelf
def Tryz.lays190_ren:Go.Shelf.Ren:=⟨λ|190=>43|125=>81|258=>80|128=>136|129=>137|302=>127|303=>128|304=>129|305=>130|306=>131|307=>132|308=>133|309=>134|310=>135|333=>179|329=>180|330=>181|334=>182|335=>183|336=>184|344=>219|n=>n,λ|31=>29|9=>9|3=>3|46=>144|0=>0|51=>47|53=>200|4=>4|183=>192|182=>191|131=>197|5=>5|218=>233|222=>237|228=>261|229=>262|n=>n,λ|n=>n⟩
theorem Tryz.lays190:Go.Proofs.Lays.n190 Tryz.prog Tryz.lays190_ren:={
 mixed:=by kernel_rfl
 f125:=func81.trans (Da some (by kernel_rfl))
 f128:=func136.trans (Da some (by kernel_rfl))
 f129:=func137.trans (Da some (by kernel_rfl))
 f190:=func43.trans (Da some (by kernel_rfl))
 f258:=func80.trans (Da some (by kernel_rfl))
 f302:=func127.trans (Da some (by kernel_rfl))
 f303:=func128.trans (Da some (by kernel_rfl))
 f304:=func129.trans (Da some (by kernel_rfl))
 f305:=func130.trans (Da some (by kernel_rfl))
 f306:=func131.trans (Da some (by kernel_rfl))
 f307:=func132.trans (Da some (by kernel_rfl))
 f308:=func133.trans (Da some (by kernel_rfl))
 f309:=func134.trans (Da some (by kernel_rfl))
 f310:=func135.trans (Da some (by kernel_rfl))
 f329:=func180.trans (Da some (by kernel_rfl))
 f330:=func181.trans (Da some (by kernel_rfl))
 f333:=func179.trans (Da some (by kernel_rfl))
 f334:=func182.trans (Da some (by kernel_rfl))
 f335:=func183.trans (Da some (by kernel_rfl))
 f336:=func184.trans (Da some (by kernel_rfl))
 f344:=func219.trans (Da some (by kernel_rfl))
 t0:=underlying0
 a0:=isAgg0
 z0:=sizeOf0
 v0:=zeroValue0
 t3:=underlying3
 a3:=isAgg3
 z3:=sizeOf3
 v3:=zeroValue3
 t4:=underlying4
 a4:=isAgg4
 z4:=sizeOf4
 v4:=zeroValue4
 t5:=underlying5
 a5:=isAgg5
 z5:=sizeOf5
 v5:=zeroValue5
 t9:=underlying9
 a9:=isAgg9
 z9:=sizeOf9
 v9:=zeroValue9
 t31:=underlying29
 a31:=isAgg29
 z31:=sizeOf29
 v31:=zeroValue29
 t46:=underlying144
 a46:=isAgg144
 z46:=sizeOf144
 v46:=zeroValue144
 t51:=underlying47
 a51:=isAgg47
 z51:=sizeOf47
 v51:=zeroValue47
 t53:=underlying200
 a53:=isAgg200
 z53:=sizeOf200
 v53:=zeroValue200
 t131:=underlying197
 a131:=isAgg197
 z131:=sizeOf197
 v131:=zeroValue197
 t182:=underlying191
 a182:=isAgg191
 z182:=sizeOf191
 v182:=zeroValue191
 t183:=underlying192
 a183:=isAgg192
 z183:=sizeOf192
 v183:=zeroValue192
 t218:=underlying233
 a218:=isAgg233
 z218:=sizeOf233
 v218:=zeroValue233
 t222:=underlying237
 a222:=isAgg237
 z222:=sizeOf237
 v222:=zeroValue237
 t228:=underlying261
 a228:=isAgg261
 z228:=sizeOf261
 v228:=zeroValue261
 t229:=underlying262
 a229:=isAgg262
 z229:=sizeOf262
 v229:=zeroValue262 }
end Go.Proofs
end
namespace Go.Hx
section
open Go.Proofs Go.RowKit Go.Sort
def aor{P:Program}{ρ:Go.Shelf.Ren}(L:Lays.n190 P ρ)(id:Nat)(e:TypeId)(l:List ByteArray)(hsz:l.length<=8589934592) :
 dn P (ρ.f 190) [.one (.ref id l.length)] [(id, .arr true 1 e l.length (lf ku l))] (.tup []) [(id, .arr true 1 e l.length (lf ku (qf l)))] [id]:=by
 intro w c us hM hus
 match us,hus with
 | [u],⟨hu,_⟩ =>
  have hl1:lk [(id,a8.arr true 1 e l.length (lf ku l))] id=some (.arr true 1 e l.length (lf ku l)):=by simp[lk]
  have hu2:=(hu.2.2 _ _ _ _ hl1 rfl).2 rfl;subst hu2;have hob:=hM.objs id _ hl1;obtain⟨h0,hmax,h5⟩:=hob;have hlen:(qf l).length=l.length:=nF
  have hev:∀f':Nat->Nat->PV,Vc c (lk [(id,a8.arr true 1 e l.length (lf ku l))]) c (lk [(id,a8.arr true 1 e l.length f')]) id:=λf' =>
   .inr (.inr ⟨_, .arr true 1 e l.length f',1,e,l.length,l.length,hl1,rfl,by simp[lk],rfl,Yb _,λ_=>rfl,λ_ _ _ _ _ _ _ h=>by cases h⟩)
  rcases Mj l.length with hz|hpos
  .have hl:l=[]:=Vl hz
   subst hl
   have hform:∃ad cap,c.own id=.slice ad 0 cap:=by
    rcases h5 with⟨_,xs,h2,_⟩|⟨_,_,ad,cap,hv,_⟩
    .rcases h2.2 with⟨hv,_⟩|⟨g,cap,cur,hv,_⟩
     .exact⟨none,0,hv⟩
     exact⟨_,cap,hv⟩
    exact⟨ad,cap,hv⟩
   obtain⟨ad,cap,hown⟩:=hform;have hms:qf ([]:List ByteArray)=[]:=by simp[qf]
   rw[hown,hms];refine(Any.slices_Sort_string_none L ad cap w).mono ?_;rintro e' w' ⟨rfl,rfl⟩
   exact ⟨_,c,rfl,⟨[],rfl,Aa⟩,hM,Below.refl _ _,λ_ _ _=>⟨rfl,rfl⟩,λid0 ob b ho hb=>.inr ⟨id0,ob,ho,hb⟩,λid0 hid=>by
    rw[Bf.1 hid]
    exact Vc.refl _ _ _⟩
  obtain ⟨h6,xs,h2,h4⟩:c.blk id=fq (c.own id)/\∃xs,w.ownsRow 0 e 1 (c.own id) l.length xs/\∀i j,i<l.length->j<1->∃x,xs[i*1+j]? = some x/\aq c.imm (lf ku l i j) x:=by
   rcases h5 with h5|⟨h6|h6,_⟩
   .exact h5
   .cases h6
   omega
  obtain⟨hxl,hrow⟩:=h2
  rcases hrow with⟨_,hz⟩|⟨b,cap,cur,hown,hbase,hheap,hnc,hcm,hcs,htake⟩
  .omega
  have hblk:c.blk id b:=by rw[h6,hown];rfl
  have hlt:b<w.heap.size:=(Le.1 hheap).1
  have hcell:∀j,(hj:j<l.length)->cur[j]? = some (encStr (bl l[j])):=λj hj=>by
   obtain⟨x,hx,hr⟩:=h4 j 0 hj Za;rw[Zj,Fi,<- htake,Ih,Ba Za,To]at hx;rw[hx];have hr:x=.string (l.getD j default)/\_:=hr;rw[hr.1,Oc,Hc hj];show some (Value.string l[j])=some (Value.string ⟨(bl l[j]).toArray⟩);rw[eD]
  have hH:Holds encStr w b 0 (l.map bl).toArray:=λj hj=>by
   have hj:j<l.length:=by simpa using hj
   rw[Oe];refine⟨?_,by simp[World.frozen?,hheap]⟩;have:(l.map bl).toArray[j]! = bl l[j]:=by rw[getElem!_pos (l.map bl).toArray j (by simpa using hj)];simp
   rw[this];simp[World.cell?,hheap,hcell j hj]
  have hS:=Any.slices_Sort_string L b 0 cap (l.map bl) w hH hlt (by rw[Yd];omega);rw[Yd]at hS;rw[hown];refine Calls.mono hS ?_;rintro e' w' ⟨rfl,m,os,rfl⟩;have hkS:qf l=((l.map bl).mergeSort Vj).map λx=>⟨x.toArray⟩:=rfl;generalize hSd:(l.map bl).mergeSort Vj=S at *;have hSl:S.length=l.length:=by rw[<- hSd,Kz,Yd]
  refine ⟨_,c,rfl,⟨[],rfl,Aa⟩,⟨λid0 ob ho=>?_,λid0 id1 ob0 ob1 b' ho0 ho1 _ _=>(fu ho0).1.trans (fu ho1).1.symm,λb' ob hb'=>?_,λid0 ob b' ho hb'=>?_⟩,iW,
   λb' hb' hno=>⟨vu hb' (λhe=>hno id _ hl1 (by rw[he];exact hblk)),rfl⟩,λid0 ob b' ho hb'=>.inr ⟨id,_,hl1,by rw[<- (fu ho).1];exact hb'⟩,λid0 hid=>by
    rw[Bf.1 hid]
    exact hev _⟩
  .obtain ⟨rfl,rfl⟩:=fu ho
   refine⟨h0,hmax, .inl ⟨h6,S.map encStr,⟨by simp[hSl], .inr ⟨b,cap,putCells encStr 0 S.toArray cur,hown,hbase,vV hheap,hnc,hcm,by simpa [putCells]using hcs, ?_⟩⟩,λi j hi hj=>?_⟩⟩
   .have:=TS (enc:=encStr) (d:=S.toArray) (cur:=cur) (by rw[Pi,hSl,hcs];omega)
    rw[Pi,hSl]at this;rw[Zj];exact this
   obtain rfl:j=0:=by omega
   have hi':i<S.length:=by rw[hSl];exact hi
   refine⟨encStr S[i], ?_, ?_⟩
   .rw [Zj,Fi,Pe,Hc hi']
    rfl
   show aq c.imm (.raw (.string ((qf l).getD i default))) _;rw[hkS,Oc,Pe,Hc hi'];exact⟨rfl,rfl⟩
  .have hne:b'≠b:=λhe=>by
    have:=hM.sep id _ b hl1 hblk;rw[<- he,hb']at this;cases this
   have hw:=hM.imm b' ob hb';exact(vu (enc:=encStr) (w:=w) (g:=b) (m:=m) (d:=S.toArray) (os:=os) (Le.1 hw).1 hne).trans hw
  have:=(fu ho).1;subst this;exact hM.sep id0 _ b' hl1 hb'
 | [],h=>exact h.elim
 |_::_::_,⟨_,h⟩=>exact h.elim
end
section
open Go.Proofs
def U3(id:Nat)(l:List ByteArray)(h:l.length<=8589934592):dn Ab 43 [.one (.ref id l.length)] [(id, .arr true 1 9 l.length (lf ku l))] (.tup []) [(id, .arr true 1 9 l.length (lf ku (qf l)))] [id]:=aor Tryz.lays190 id 9 l h
def J0(l:List ByteArray)(s:ByteArray):dn Ab 40 [.one (.ref 1000 l.length), .one (.p (.raw (.string s)))] [(1000, .arr true 1 9 l.length (lf ku l))] (.v (.one (.p (.raw (.int .i64 (j0 l s)))))) [(1000, .arr true 1 9 l.length (lf ku l))] [1000]:=by
 refine Eg (nt:=19) func40 ?_;refine cw ?_;refine Xw 1000 rfl λhn=>?_;refine Tb ?_;refine c6 (ι:=Unit) kn (kb 1000 km) (λ_i=>⟨[],[]⟩) (λ_i=>j0 l s=-1) ?_ ?_
 ·
  refine Jb ?_;refine aa (ι:=Nat) (ka 0 (ka 1 (ka 7 kn))) (kb 1000 km) (λi=>⟨[(8,some (vI i))],[]⟩) (λi=>i<=l.length/\(∀j,j<i->decide (l.getD j default=s)=false)) (λi=>l.length-i) (0) (⟨Zb _,aw⟩) kk ?_;rintro i ⟨hi,hIi⟩;refine Eb ?_;refine Kb ?_ ?_<;>intro h0
  ·
   refine qh ?_;refine Kb ?_ ?_<;>intro h1
   .refine Eb ?_;refine Db ?_;exact⟨_,_,rfl,Uf,(Hd (oi (p:=λx=>decide (x=s)) (i:=i) Za hIi (Fa Qg)).symm),uu⟩
   refine Eb ?_;refine Rb (i+1) kk ?_;exact⟨by show i+1<=_;omega,al hIi (Ha λe=>by simp_all)⟩
  refine cg ?_;refine⟨(), ?_, ?_⟩
  .exact p8 (p:=λx=>decide (x=s)) λj hj=>hIi j Za
  exact kk
 rintro _ hj;refine Mc ?_;refine Db ?_;exact⟨_,_,rfl,Uf,(Hd hj.symm),uu⟩
def U7(a b:ac)(ha:TE a)(hb:TE b)(h16:(Qc a.attrs b.attrs).length<=16)(hr:a.rows.length*b.rows.length<=1000):a6 Ab 16 [a.pc,b.pc] (a7 [(Xp a b).pc,pI 0]):=by
 refine Nb (nt:=145) func16 ?_;have hta:=k6.2 ha.ok;have htb:=k6.2 hb.ok;have hna:=ha.ok.na;have hnb:=hb.ok.na;have hra:=ha.ok.nr;have hrb:=hb.ok.nr;have hpl:=cR (A:=a.attrs) (B:=b.attrs);refine Rc ?_;refine m9 0 ?_;refine m9 1 ?_;refine m9 2 ?_;refine Mb ?_;refine Fb CD (aC a) ?_;refine Jb ?_;refine Sc ?_ ?_<;>intro h0
 .exfalso;omega
 refine Eb ?_;refine Fb CD (aC b) ?_;refine Jb ?_;refine Sc ?_ ?_<;>intro h1
 .exfalso;omega
 refine Jb ?_;refine Ke (Ib func39) ((PY a.attrs Za).swap 0 101) trivial ?_;refine qy ?_;refine m9 3 ?_;refine qd ?_;refine d9 9 100 true 1 3 (lf iC []) Zc rfl Ya (.inr rfl) rfl ?_;refine bz (ka 2 (ka 3 (ka 4 (ka 8 (ka 43 (ka 44 kn)))))) (kb 0 (kb 1 (kb 2 km))) (λi=>⟨[(9,some (.v (.one (.ref 100 ((Pd a.attrs b.attrs).take i).length)))),(45,some (vI i))],[(3,some (.box [.p (.raw (.string a.name)), .ref 101 (Qc a.attrs (b.attrs.take i)).length, .p (io (.slice none 0 0))])),(100,some (.arr true 1 3 ((Pd a.attrs b.attrs).take i).length (lf iC ((Pd a.attrs b.attrs).take i)))),(101,some (.arr true 1 9 (Qc a.attrs (b.attrs.take i)).length (lf ku (Qc a.attrs (b.attrs.take i)))))]⟩) b.attrs.length kk ?_;rintro i hi;have hlen:=qP (A:=a.attrs) (B:=b.attrs.take i);rw[Ae]at hlen;have hpll:((Pd a.attrs b.attrs).take i).length<=16:=by rw[Ae];omega
 refine Eb ?_;refine Kb ?_ ?_<;>intro h2
 ·
  have hib:i<b.attrs.length:=by omega
  refine rp ?_;refine Ke vH ((J0 (Qc a.attrs (b.attrs.take i)) (b.attrs.getD i default)).swap 1000 101) uu ?_;refine Cb ?_;refine m7 (ka 2 (ka 3 (ka 4 (ka 8 (ka 9 (ka 43 (ka 44 (ka 45 kn)))))))) (kb 0 (kb 1 (kb 2 km))) ⟨[(12,some (vI ((((Pd a.attrs b.attrs).getD i default:Nat)):Int)))],[(3,some (.box [.p (.raw (.string a.name)), .ref 101 (Qc a.attrs (b.attrs.take (i+1))).length, .p (io (.slice none 0 0))])),(100,some (.arr true 1 3 ((Pd a.attrs b.attrs).take i).length (lf iC ((Pd a.attrs b.attrs).take i)))),(101,some (.arr true 1 9 (Qc a.attrs (b.attrs.take (i+1))).length (lf ku (Qc a.attrs (b.attrs.take (i+1))))))]⟩ ?_ ?_
  ·
   refine Eb ?_;refine Kb ?_ ?_<;>intro h3
   .obtain⟨hA1,hP1⟩:=Q7 ha.ok.nod hib (by have hz:=h3;omega);refine dg ?_;refine m9 4 ?_;refine Ed 5 true ?_;refine Tb ?_;exact⟨⟨⟨_,rfl,(Hd hP1)⟩,tt⟩,⟨⟨_,rfl,⟨Ra,Da (HV.ref 101) (by first|(rw[hA1];done)|(rw[hA1,Uc];rfl)),Ra,Aa⟩⟩,u9,⟨_,rfl,(by first|exact be hA1.symm|exact be hA1|exact cr hA1 Ra)⟩,uu⟩⟩
   obtain⟨hA1,hP1⟩:=b4v ha.ok.nod hib (by have hz:=h3;omega);refine dj ?_;exact⟨⟨⟨_,rfl,(Hd hP1)⟩,tt⟩,⟨⟨_,rfl,⟨Ra,Da (HV.ref 101) (by first|(rw[hA1];done)|(rw[hA1,Uc];rfl)),Ra,Aa⟩⟩,u9,⟨_,rfl,(by first|exact be hA1.symm|exact be hA1|exact cr hA1 Ra)⟩,uu⟩⟩
  refine Tb ?_;refine m9 6 ?_;refine Ed 7 true ?_;refine Mb ?_;exact Ld (i+1) ⟨⟨⟨_,rfl,(d6 (au Za))⟩,tt⟩,⟨u9,⟨_,rfl,(cr (au Za) Ra)⟩,uu⟩⟩
 obtain rfl:i=b.attrs.length:=by omega
 refine Tb ?_;refine Ju 100 (.arr true 1 3 (Pd a.attrs b.attrs).length (lf iC (Pd a.attrs b.attrs))) rfl (be (by rw[<- hpl,Id])) ?_;refine Ju 101 (.arr true 1 9 (Qc a.attrs b.attrs).length (lf ku (Qc a.attrs b.attrs))) rfl (be (by rw[Id])) ?_;refine Ju 3 (.box [.p (.raw (.string a.name)), .ref 101 (Qc a.attrs b.attrs).length, .p (io (.slice none 0 0))]) rfl ⟨Ra,Da (HV.ref 101) (by rw[Id]),Ra,Aa⟩ ?_;refine IG (uP 9 (.v (.one (.ref 100 (Pd a.attrs b.attrs).length))) rfl (dy (by rw[<- hpl,Id])) (zx ?_));refine f8 3 1 rfl rfl rfl rfl rfl ?_;refine b5 9 rfl rfl rfl ?_;refine Mb ?_;refine Kb ?_ ?_<;>intro h4
 .exfalso;omega
 refine Cb ?_;refine i9 [] [0,1] rfl ?_;refine VT (k:=0) (L:=[1]) 901 rfl (λbg=>?_);refine OG ?_;refine b1l 905 ?_;refine zx ?_;refine jy (E:=ig) (L1:=[1]) (L2:=[]) gi ?_;refine Cb ?_;refine nu ?_;refine Cc ?_;refine aa (ι:=Nat×Array MapEntry×Nat×GV) (ka 3 (ka 4 (ka 8 (ka 9 (ka 13 (ka 76 (ka 77 kn))))))) (kb 3 (kb 1 (kb 2 km))) (λy=>⟨[(78,some (vI y.1))],[(901,some (Hk bg y.2.1 y.2.2.1)),(905,some (.opq 0 0 0 (su (Pv y.2.2.2))))]⟩) (λy=>y.1<=a.rows.length/\nn (Ab) 9 (Hp a b y.1) (VL y.2.2.2) y.2.1 y.2.2.1/\Pp a b y.2.2.2) (λy=>a.rows.length-y.1) ((0,#[],0,[])) (⟨Zb _,nn.nil,Pp.nil⟩) kk ?_;rintro⟨i,es,clock,G⟩ ⟨hi,hM,hG⟩;dsimp only at hi hM hG ⊢;refine Eb ?_;refine Kb ?_ ?_<;>intro h5
 ·
  have hia:i<a.rows.length:=by omega
  have hal:(a.rows.getD i default).vals.length<=(Qc a.attrs b.attrs).length:=by rw[ha.ok.width hia];exact(x6 (A:=a.attrs) (B:=b.attrs)).length_le
  have hpi:∀q,q<(Pd a.attrs b.attrs).length->(Pd a.attrs b.attrs).getD q default<(Qc a.attrs b.attrs).length:=λq hq=>F4 Za;refine Jb ?_;refine m9 8 ?_;refine ce ?_;refine aa (ι:=Nat×Array MapEntry×Nat×GV) (ka 3 (ka 4 (ka 8 (ka 9 (ka 13 (ka 15 (ka 76 (ka 77 (ka 78 (ka 83 (ka 84 kn))))))))))) (kb 3 (kb 1 (kb 2 (kb 8 km)))) (λx=>⟨[(85,some (vI x.1))],[(901,some (Hk bg x.2.1 x.2.2.1)),(905,some (.opq 0 0 0 (su (Pv x.2.2.2))))]⟩) (λx=>x.1<=b.rows.length/\nn (Ab) 9 (mc a b i x.1) (VL x.2.2.2) x.2.1 x.2.2.1/\Pp a b x.2.2.2) (λx=>b.rows.length-x.1) ((0,es,clock,G)) (⟨Zb _,by rw[ayz];exact hM,hG⟩) kk ?_;rintro⟨k,es,clock,G⟩ ⟨hk,hM,hG⟩;dsimp only at hk hM hG ⊢;have hlt0:=OT (k:=k) (b:=b) hia;refine Eb ?_;refine Kb ?_ ?_<;>intro h6
  ·
   have hkb:k<b.rows.length:=by omega
   have hbl:(b.rows.getD k default).vals.length=(Pd a.attrs b.attrs).length:=by rw[hb.ok.width hkb,hpl]
   have hlt1:=OT (k:=k+1) (b:=b) hia;have hjl:∀w,Je (a.rows.getD i default).vals (b.rows.getD k default).vals (Pd a.attrs b.attrs) (Qc a.attrs b.attrs).length (Pd a.attrs b.attrs).length=some w->w.length=(Qc a.attrs b.attrs).length:=λw hw=>sE hal hw;refine Jb ?_;refine m9 9 ?_;refine fy ?_;refine ke rfl rfl rfl rfl rfl rfl (Ib func41) ((D1 (a.rows.getD i default).vals (b.rows.getD k default).vals (Pd a.attrs b.attrs) (Qc a.attrs b.attrs).length hal h16 hbl hpi).swap 0 103) (⟨Ra,Ra,Ra,Ra,Aa⟩) trivial rfl rfl ?_;refine fy ?_;refine Xd ?_ ?_<;>intro h7
   ·
    have hnx:(mc a b i (k+1))=(mc a b i k):=bcd hkb (by show Je _ _ _ _ _=none;cases hj:Je (a.rows.getD i default).vals (b.rows.getD k default).vals (Pd a.attrs b.attrs) (Qc a.attrs b.attrs).length (Pd a.attrs b.attrs).length with|none=>rfl|some w=>simp_all);refine Eb ?_
    first | (refine Rb (k+1, es, clock, G) kk ?_; exact⟨by show k+1<=_; omega, by rw[hnx]; exact hM, hG⟩)
          |(refine Rb (k+1,es3,clock3,G++[(((Je (a.rows.getD i default).vals (b.rows.getD k default).vals (Pd a.attrs b.attrs) (Qc a.attrs b.attrs).length (Pd a.attrs b.attrs).length).getD []),v1)]) ⟨tt,⟨u9,⟨_,rfl,(Ic.of_eq (by rw[PU]))⟩,uu⟩⟩ ?_;exact⟨by show k+1<=_;omega,hM3,hG3⟩)
   obtain⟨w,hw⟩:∃w,Je (a.rows.getD i default).vals (b.rows.getD k default).vals (Pd a.attrs b.attrs) (Qc a.attrs b.attrs).length (Pd a.attrs b.attrs).length=some w:=by cases hj:Je (a.rows.getD i default).vals (b.rows.getD k default).vals (Pd a.attrs b.attrs) (Qc a.attrs b.attrs).length (Pd a.attrs b.attrs).length with|none=>simp_all|some w=>exact⟨w,rfl⟩
   have hWw:((Je (a.rows.getD i default).vals (b.rows.getD k default).vals (Pd a.attrs b.attrs) (Qc a.attrs b.attrs).length (Pd a.attrs b.attrs).length).getD [])=w:=by rw[hw];rfl
   have hwl:=hjl w hw;have hWl:((Je (a.rows.getD i default).vals (b.rows.getD k default).vals (Pd a.attrs b.attrs) (Qc a.attrs b.attrs).length (Pd a.attrs b.attrs).length).getD []).length<=16:=by rw[hWw];omega
   have hks:=AB (l:=((Je (a.rows.getD i default).vals (b.rows.getD k default).vals (Pd a.attrs b.attrs) (Qc a.attrs b.attrs).length (Pd a.attrs b.attrs).length).getD []));have hnx:(mc a b i (k+1))=(mc a b i k)++[((Je (a.rows.getD i default).vals (b.rows.getD k default).vals (Pd a.attrs b.attrs) (Qc a.attrs b.attrs).length (Pd a.attrs b.attrs).length).getD [])]:=by rw[hWw];exact b2m hkb hw
   have hWin:((Je (a.rows.getD i default).vals (b.rows.getD k default).vals (Pd a.attrs b.attrs) (Qc a.attrs b.attrs).length (Pd a.attrs b.attrs).length).getD [])∈Gg a b:=b59 hia (k:=k+1) (by rw[hnx];simp);refine Cb ?_;refine i9 [] [0,1,2,3,4] rfl ?_;refine jy (E:=ig) (L1:=[0,1,2,3]) (L2:=[4]) gi ?_;refine Cb ?_;refine Ke (Ib func42) ((xO ((Je (a.rows.getD i default).vals (b.rows.getD k default).vals (Pd a.attrs b.attrs) (Qc a.attrs b.attrs).length (Pd a.attrs b.attrs).length).getD []) Za λv hv=>((yh ha hb hWin).2 v hv).1).swap 1000 103) uu ?_;refine Cb ?_;refine OG ?_;refine b1t 103 rfl b2x ?_;refine H4 103 rfl (λv1 hv1=>?_);refine bdv 106 (.v (.one (.p (.raw v1)))) rfl (Sn.to rfl) ?_;refine b6g 103 905 rfl rfl ?_;refine zx ?_;refine xQ (mid:=901) (k:=4) (L:=[]) rfl underlying91 (Go.Maps.string_keyed underlying9) hM.mx (by have:=hM.size;unfold maxLen;omega) (Go.WideMaps.keyOf_string_mk underlying9 (by show(Md ((Je (a.rows.getD i default).vals (b.rows.getD k default).vals (Pd a.attrs b.attrs) (Qc a.attrs b.attrs).length (Pd a.attrs b.attrs).length).getD [])).size<=maxLen;unfold maxLen;omega)) rfl rfl (λes3 clock3 hX3 hP=>?_);refine nu ?_
   have hM3:nn (Ab) 9 (mc a b i (k+1)) (VL (G++[(((Je (a.rows.getD i default).vals (b.rows.getD k default).vals (Pd a.attrs b.attrs) (Qc a.attrs b.attrs).length (Pd a.attrs b.attrs).length).getD []),v1)])) es3 clock3:=by
    rw[hnx];exact hM.put hX3 hP (λ_ _ h=>Ig _ h) (Bh _ (Bf.2 rfl))
   have hG3:=hG.snoc hWin hv1;refine cw ?_;refine i9 [] [0,1,2] rfl ?_;refine jy (E:=ig) (L1:=[0]) (L2:=[1,2]) gi ?_;refine Cb ?_;refine b9n (mid:=901) (k:=1) (L:=[2]) rfl underlying91 hM3.mx.mx ?_;refine jy (E:=ig) (L1:=[2]) (L2:=[]) gi ?_;refine Cb ?_;refine nu ?_;refine Kb ?_ ?_<;>intro h8
   .exfalso;have hsz3:=hM3.size;omega
   refine Eb ?_
   first | (refine Rb (k+1, es, clock, G) kk ?_; exact⟨by show k+1<=_; omega, by rw[hnx]; exact hM, hG⟩)
         |(refine Rb (k+1,es3,clock3,G++[(((Je (a.rows.getD i default).vals (b.rows.getD k default).vals (Pd a.attrs b.attrs) (Qc a.attrs b.attrs).length (Pd a.attrs b.attrs).length).getD []),v1)]) ⟨tt,⟨u9,⟨_,rfl,(Ic.of_eq (by rw[PU]))⟩,uu⟩⟩ ?_;exact⟨by show k+1<=_;omega,hM3,hG3⟩)
  obtain rfl:k=b.rows.length:=by omega
  refine Eb ?_;refine Rb (i+1,es,clock,G) kk ?_;exact⟨by show i+1<=_;omega,by rw[WU hia];exact hM,hG⟩
 obtain rfl:i=a.rows.length:=by omega
 rw[dS]at hM;refine Jb ?_;refine i9 [] [0,1] rfl ?_;refine jy (E:=ig) (L1:=[0]) (L2:=[1]) gi ?_;refine Cb ?_;refine b5d (k:=1) (L:=[]) 10 rfl rfl λbi=>?_;refine nu ?_;refine aF ?_;refine d9 20 102 true 1 9 (lf ku []) Zc rfl Ya (.inr rfl) rfl ?_;refine aa (ι:=Array Nat×List ByteArray) (ka 4 (ka 8 (ka 13 (ka 114 kn)))) (kb 901 (kb 905 (kb 3 (kb 2 km)))) (λz=>⟨[(20,some (.v (.one (.ref 102 z.2.length))))],[(10,some (Yp bi bg clock z.1)),(102,some (.arr true 1 9 z.2.length (lf ku z.2)))]⟩) (λz=>Sm es z.1 z.2) (λz=>(leftOf es z.1).size) ((#[],[])) (Sm.nil) kk ?_;rintro⟨s,vs⟩ hS;dsimp only at hS ⊢;have hvl:=hS.len hM;have hjl:=sJ (a:=a) (b:=b);refine cw ?_;refine i9 [] [0,1] rfl ?_;refine b5m (mid:=901) (k:=0) (L:=[1]) rfl hM.mx (λh0=>?_) (λe he=>?_)
 ·
  refine jy (E:=ig) (L1:=[1]) (L2:=[]) gi ?_;refine Cb ?_;refine nu ?_;refine Mb ?_;refine Ke (Ib func43) (U3 102 vs Za) uu ?_;refine Tb ?_;have hKe:qf vs=Hf a b:=b56 hS.nod (hS.fin hM h0);refine Ju 102 (.arr true 1 9 (Hf a b).length (lf ku (Hf a b))) rfl ⟨λh=>h,rfl,rfl,(by rw[<- hKe,nF]),λi j _ _=>(by rw[<- hKe];exact Ra)⟩ ?_;refine IG (uP 20 (.v (.one (.ref 102 (Hf a b).length))) rfl (by rw[<- hKe,nF];exact Ua) (zx ?_));refine b5 20 rfl rfl rfl ?_;have hKl:=uJ (a:=a) (b:=b);refine Mb ?_;refine ej 3 2 104 true 2 82 (lf TB []) Zc rfl rfl Ya (.inr rfl) rfl rfl ?_;refine aa (ι:=Nat×List ZR) (ka 4 (ka 8 (ka 13 (ka 125 (ka 126 kn))))) (kb 901 (kb 905 (kb 2 km))) (λq=>⟨[(127,some (vI q.1))],[(3,some (.box [.p (.raw (.string a.name)), .p (qv (Qc a.attrs b.attrs)), .ref 104 q.2.length])),(104,some (.arr true 2 82 q.2.length (lf TB q.2)))]⟩) (λq=>q.1<=(Hf a b).length/\Nr a b G q.2 q.1) (λq=>(Hf a b).length-q.1) ((0,[])) (⟨Zb _,Nr.nil⟩) kk ?_;rintro⟨i,Z⟩ ⟨hi,hZ⟩;dsimp only at hi hZ ⊢;have hZl:=hZ.len;refine Eb ?_;refine Kb ?_ ?_<;>intro h9
  ·
   have hiK:i<(Hf a b).length:=by omega
   obtain⟨wK,hwK,hwKe⟩:=wR.1 (show(Hf a b).getD i default∈(Hf a b) by rw[cq _ _ hiK];exact De hiK);have hks:=AB (l:=wK);have hwKl:=(yh ha hb hwK).1;rw[hwKe]at hks;refine dg ?_;refine i9 [] [0,1,2,3,4,5,6,7,8,9,10,11] rfl ?_;refine jy (E:=ig) (L1:=[0,1,2,3,4,5]) (L2:=[6,7,8,9,10,11]) gi ?_;refine Jb ?_;refine QS (mid:=901) (k:=6) (L:=[7,8,9,10,11]) rfl underlying91 (Go.Maps.string_keyed underlying9) zeroValue80 rfl hM.mx (Go.WideMaps.keyOf_string_mk underlying9 (by show((Hf a b).getD i default).size<=maxLen;unfold maxLen;omega)) rfl (λok v hy hn1=>?_)
   obtain ⟨g,hg,hgk,rfl⟩:∃g∈G,Md g.1=(Hf a b).getD i default/\g.2=v:=by
    cases ok with
    | true =>
     obtain⟨e,he,hk,rfl⟩:=hy rfl;obtain⟨u,_,hu,hv⟩:=hM.found he hk;exact⟨(u,e.val),hv,hu,rfl⟩
    | false =>
     refine Ea hwKe ?_;obtain⟨e,he,hk⟩:=hM.of wK hwK;exactλh5=>Ea (hk.trans (Da Value.string h5)) ((hn1 rfl).2 e he)
   rw[LQ (hG.one g hg)];refine jy (E:=ig) (L1:=[7,8,9,10,11]) (L2:=[]) gi ?_;refine qy ?_;refine m9 11 ?_;refine Ed 12 true ?_;refine Tb ?_;refine nu ?_;refine Mc ?_;refine Rb (i+1,Z++[((i:Int)+1,g)]) ⟨tt,⟨⟨_,rfl,⟨Ra,Ra,Da (HV.ref 104) (by rw[Uc];rfl),Aa⟩⟩,⟨_,rfl,(j7 rfl Ra Ra)⟩,uu⟩⟩ ?_;exact⟨by show i+1<=_;omega,hZ.snoc hg hgk⟩
  obtain rfl:i=(Hf a b).length:=by omega
  refine Cb ?_;refine IG (an6 104 905 (lf Xb.c (ir (Gj (Gg a b) (Hf a b)))) rfl rfl (P1 ha hb hZ hG) (zx ?_));refine f8 3 2 rfl rfl rfl rfl rfl ?_;refine Dd ?_;exact⟨Ob.agg ⟨Ra,Ra,Wa (by rw[hZ.len];exact tL.trans PE) (.inl rfl) (λh=>h) (λ_ _ _ _=>Ra),Aa⟩,Sa,Aa⟩
 refine jy (E:=ig) (L1:=[1]) (L2:=[]) gi ?_;refine Cb ?_;refine nu ?_;refine Eb ?_;refine i9 [] [0,1,2] rfl ?_;refine azv (mid:=901) (k:=0) (L:=[1,2]) rfl hM.mx he ?_;obtain⟨u,hu,hku,huv⟩:=hM.to e (mem_left he).1;rw[hku,LQ (hG.one _ huv)];refine jy (E:=ig) (L1:=[1,2]) (L2:=[]) gi ?_;refine Tb ?_;refine nu ?_;refine Tb ?_;refine m9 13 ?_;refine Ed 14 true ?_;refine Cb ?_;refine⟨(s.push e.born,vs++[Md u]), ?_, ?_, ?_⟩
 .exact hS.step hM.mx he hku
 .exact left_shrinks es s e he
 exact⟨⟨⟨_,rfl,(d6 rfl)⟩,tt⟩,⟨u9,⟨_,rfl,(cr rfl Ra)⟩,uu⟩⟩
def y4 {s:AS} {l:List ByteArray} {i:Nat} (h:bw s (i:Int)=true):gk s l (i+1)=gk s l i++[l.getD i default]:=by
 unfold gk;rw[oO h,Mi];rfl
def xw {s:AS} {l:List ByteArray} {i:Nat} (h:bw s (i:Int)=false):gk s l (i+1)=gk s l i:=by
 unfold gk;rw[dO h]
def PH {s:AS} {R:List Xb} {i:Nat} (hS:mz R) (hi:i<=R.length) (h:sw R):sw (Se s R i)/\(Se s R i).length<=i:=by
 obtain⟨h1,_,_,h4⟩:=qr (s:=s) hS i hi;refine⟨λj hj=>?_,h4⟩;rw[cq _ _ hj];obtain⟨k,hk,_,e⟩:=h1 _ (De hj);have ho:=h k Za;refine⟨?_, ?_⟩
 .rw[e];exact Nd mE ho.1
 rw[e];exact DD ho.2
def b6n (l:List Xb) (v:List Lb) (hl:sw l) (hv:pj v):dn Ab 73 [.one (.ref 1000 l.length), .one (.p (vals v))] [(1000, .arr true 2 82 l.length (lf Xb.c l))] (.v (.one (.p (.raw (.bool (ni l v)))))) [(1000, .arr true 2 82 l.length (lf Xb.c l))] [1000]:=by
 refine Eg (nt:=19) func73 ?_;refine cw ?_;refine Xw 1000 rfl λhlen=>?_;refine Cc ?_;refine aa (ι:=Nat) (ka 0 (ka 1 kn)) (kb 1000 km) (λi=>⟨[(5,some (vI i))],[]⟩) (λi=>i<=l.length/\(∀j,j<i->decide ((l.getD j default).vals=v)=false)) (λi=>l.length-i) (0) (⟨Zb _,aw⟩) kk ?_;rintro i ⟨hi,hIi⟩;refine Wb ?_;refine Kb ?_ ?_<;>intro h0
 ·
  refine dg ?_;refine Fb VD (eC (l.getD i default).vals v (hl i Za).2 hv) ?_;refine cn ?_;refine We ?_ ?_<;>intro h1
  .refine Mc ?_;refine Db ?_;exact⟨_,_,rfl,Uf,(by show Fc (.raw (.bool _)) (.raw (.bool _));exact Va (Da (λz=>PV.raw (.bool z)) (Ax (p:=λr:Xb=>decide (r.vals=v)) (i:=i) Za Gb).symm)),uu⟩
  refine Mb ?_;refine Rb (i+1) kk ?_;exact⟨by show i+1<=_;omega,al hIi Gb⟩
 obtain rfl:i=l.length:=by omega
 refine Eb ?_;refine Db ?_;exact⟨_,_,rfl,Uf,(by show Fc (.raw (.bool _)) (.raw (.bool _));exact Va (Da (λz=>PV.raw (.bool z)) (Kw (p:=λr:Xb=>decide (r.vals=v)) hIi).symm)),uu⟩
def b77(t:ac)(s:AS)(hT:Ri t)(hs:sub s (ak t.attrs.length)):a6 Ab 31 [t.pc,pA s] (a7 [(Tw t s).pc,pI 0]):=by
 refine Nb (nt:=81) func31 ?_;have hok:=hT.ok;have htz:=k6.2 hT;have hna:=hT.na;have hnr:=hT.nr;have hso:=f7 hT.rs;refine Rc ?_;refine m9 0 ?_;refine m9 1 ?_;refine Mb ?_;refine Fb rD (cC t) ?_;refine Jb ?_;refine Sc ?_ ?_<;>intro h0
 .exfalso;omega
 refine Wb ?_;refine Fb vq (ve t.attrs.length) ?_;refine Tb ?_;refine Sc ?_ ?_<;>intro h1
 .exact Ea (by rw[k8,show s&&&~~~ak (t.attrs.length:Int)=0 from hs];rfl) h1
 refine Mb ?_;refine m9 2 ?_;refine Wb ?_;refine ej 2 1 100 true 1 9 (lf ku (gk s t.attrs 0)) Zc rfl rfl Ya (.inr rfl) rfl rfl ?_;refine bz (ka 1 (ka 2 (ka 4 (ka 7 kn)))) (kb 0 (kb 1 km)) (λa=>⟨[(8,some (vI a))],[(2,some (.box [.p (.raw (.string t.name)), .ref 100 (gk s t.attrs a).length, .p (io (.slice none 0 0))])),(100,some (.arr true 1 9 (gk s t.attrs a).length (lf ku (gk s t.attrs a))))]⟩) t.attrs.length kk ?_;rintro a ha;have hlen:(gk s t.attrs a).length<=a:=by rw[mK];exact zQ
 refine Cc ?_;refine Kb ?_ ?_<;>intro h2
 ·
  refine Jb ?_;refine Fb Gu (Dt s a) ?_;refine cn ?_;refine aj _ rfl ?_ ?_<;>intro r3
  ·
   have h3:=r3;have hh:bw s (a:Int)=true:=r3;refine Wb ?_;refine m9 3 ?_;refine Ed 4 true ?_;refine Cc ?_
   first | (refine Rb (a+1) ⟨tt, ⟨⟨_, rfl, ⟨Ra, Da (HV.ref 100) (by rw[y4 hh, Uc]; rfl), Ra, trivial⟩⟩, ⟨_, rfl, (cr (y4 hh) Ra)⟩, uu⟩⟩ ?_; show a+1<=_; omega)
         |(refine Rb (a+1) ⟨tt,⟨⟨_,rfl,⟨Ra,Da (HV.ref 100) (by rw[xw hh]),Ra,Aa⟩⟩,⟨_,rfl,(be (xw hh))⟩,uu⟩⟩ ?_;show a+1<=_;omega)
  have h3:=r3;have hh:bw s (a:Int)=false:=r3;refine Mb ?_
  first | (refine Rb (a+1) ⟨tt, ⟨⟨_, rfl, ⟨Ra, Da (HV.ref 100) (by rw[y4 hh, Uc]; rfl), Ra, trivial⟩⟩, ⟨_, rfl, (cr (y4 hh) Ra)⟩, uu⟩⟩ ?_; show a+1<=_; omega)
        |(refine Rb (a+1) ⟨tt,⟨⟨_,rfl,⟨Ra,Da (HV.ref 100) (by rw[xw hh]),Ra,Aa⟩⟩,⟨_,rfl,(be (xw hh))⟩,uu⟩⟩ ?_;show a+1<=_;omega)
 obtain rfl:a=t.attrs.length:=by omega
 refine Tb ?_;refine f8 2 1 rfl rfl rfl rfl rfl ?_;refine Mc ?_;refine ej 2 2 101 true 2 82 (lf Xb.c (Se s t.rows 0)) Zc rfl rfl Ya (.inr rfl) rfl rfl ?_;refine bz (ka 1 (ka 2 (ka 4 (ka 7 kn)))) (kb 0 (kb 1 km)) (λi=>⟨[(9,some (vI i))],[(2,some (.box [.p (.raw (.string t.name)), .p (qv (gk s t.attrs t.attrs.length)), .ref 101 (Se s t.rows i).length])),(101,some (.arr true 2 82 (Se s t.rows i).length (lf Xb.c (Se s t.rows i))))]⟩) t.rows.length kk ?_;rintro i hi;have hlen:=(PH (s:=s) hso hi hok.2.2).2;refine Cc ?_;refine Kb ?_ ?_<;>intro h4
 ·
  refine dg ?_;refine Fb mH (MI (t.rows.getD i default) s (hok.2.2 i Za).1) ?_;refine Jb ?_;refine Ke (Ib func73) ((b6n (Se s t.rows i) (Wc (t.rows.getD i default).vals s) (PH hso Za hok.2.2).1 (DD (hok.2.2 i Za).2)).swap 1000 101) uu ?_;refine Cb ?_;refine aj _ rfl ?_ ?_<;>intro r5
  ·
   have h5:=ct r5;have hq:ni (Se s t.rows i) (Wc (t.rows.getD i default).vals s)=false:=by simpa using r5
   have hnx:(Se s t.rows (i+1))=(Se s t.rows i)++[⟨(t.rows.getD i default).id,(Wc (t.rows.getD i default).vals s)⟩]:=eH Za hq;refine dg ?_;refine m9 5 ?_;refine Ed 6 true ?_;refine Cc ?_
   first | (refine Rb (i+1) ⟨tt, ⟨⟨_, rfl, ⟨Ra, Ra, Da (HV.ref 101) (by rw[hnx, Uc]; rfl), trivial⟩⟩, ⟨_, rfl, (j7 hnx Ra Ra)⟩, uu⟩⟩ ?_; show i+1<=_; omega)
         |(refine Rb (i+1) ⟨tt,⟨⟨_,rfl,⟨Ra,Ra,Da (HV.ref 101) (by rw[hnx]),Aa⟩⟩,⟨_,rfl,(be hnx)⟩,uu⟩⟩ ?_;show i+1<=_;omega)
  have h5:=cu r5;have hq:ni (Se s t.rows i) (Wc (t.rows.getD i default).vals s)=true:=by simpa using r5
  have hnx:(Se s t.rows (i+1))=(Se s t.rows i):=kH Za hq;refine Mb ?_
  first | (refine Rb (i+1) ⟨tt, ⟨⟨_, rfl, ⟨Ra, Ra, Da (HV.ref 101) (by rw[hnx, Uc]; rfl), trivial⟩⟩, ⟨_, rfl, (j7 hnx Ra Ra)⟩, uu⟩⟩ ?_; show i+1<=_; omega)
        |(refine Rb (i+1) ⟨tt,⟨⟨_,rfl,⟨Ra,Ra,Da (HV.ref 101) (by rw[hnx]),Aa⟩⟩,⟨_,rfl,(be hnx)⟩,uu⟩⟩ ?_;show i+1<=_;omega)
 obtain rfl:i=t.rows.length:=by omega
 refine Cb ?_;refine f8 2 2 rfl rfl rfl rfl rfl ?_;refine Dd ?_;exact⟨Ob.agg ⟨Ra,Ra,Ra,Aa⟩,Sa,Aa⟩
end
end Go.Hx
