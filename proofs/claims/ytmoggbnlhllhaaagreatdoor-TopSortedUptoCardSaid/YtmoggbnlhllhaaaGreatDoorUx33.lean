/- A part of the proof: Tw5 Tw6 Tw7 Tw8 Tw9 Tw10 Kw1. -/
import Derived.Test.YtmoggbnlhllhaaaGreatDoorUx32
set_option linter.all false
set_option maxRecDepth 100000
set_option maxHeartbeats 1000000
namespace Go.Hx
section
open Go.Proofs
def a0j(c:Can):Value:=.agg #[.int .u32 (asI c.cx), .int .i64 (c.a:Int), .int .i64 c.b]
section
variable {c:Can}
def kr.mono{n m:Nat}(h:kr n c)(hm:n<=m):kr m c:=⟨by have:=h.ha;omega,h.hb1,by have:=h.hb;omega,fun z hz=>by have:=h.cx z hz;omega⟩
def kr.cut {n:Nat} (h:kr n c) {z:Nat}:kr n (mw c z):=⟨h.ha,h.hb1,h.hb,fun y hy=>h.cx y (by
 unfold mw at hy;rw[bmy,bm8]at hy
 exact hy.1)⟩
def b1o:Go.WideMaps.KeyLaw bqh 136:=Go.deep_law (m:=2) bpw (by kernel_rfl) (by kernel_rfl) (by rw[Tryz.underlying136])
def ao6:bqh.cellsOf 136=3:=by kernel_rfl
def b75:bqh.cellsOf 35=1:=by kernel_rfl
def bfx:bqh.cellsOf 3=1:=by kernel_rfl
def b6s:bqh.keyType 136=true:=by kernel_rfl
def b2o (c:Can) (h:kr 16 c):∃ls,bqh.keyLits (bqh.types.size+1) 136 (a0j c).cells.toList=some ls:=by
 have w1:(Lit.int .u32 (asI c.cx)).wf=true:=wfA _;have w2:(Lit.int .i64 (c.a:Int)).wf=true:=arb bpw (by have:=h.ha;omega);have w3:(Lit.int .i64 c.b).wf=true:=arb (by have:=h.hb1;omega) (by have:=h.hb;omega);obtain⟨m,hm⟩:∃m,bqh.types.size+1=m+2:=⟨_,(by kernel_rfl:bqh.types.size+1=(bqh.types.size-1)+2)⟩;rw[hm];unfold Program.keyLits;simp only[Tryz.underlying136,a0j,Value.cells];rw[if_pos (by rw[ao6];exact⟨rfl,by kernel_rfl⟩)];simp[Program.keyLits,Tryz.underlying35,Tryz.underlying3,b75,bfx,w1,w2,w3]
def b9f (h:kr 16 c):∃kl,keyOf bqh 136 (a0j c)=some kl:=by
 obtain⟨ls,hl⟩:=b2o c h;unfold keyOf;simp only[Tryz.underlying136];rw[if_pos (by rw[b6s];simp[a0j,Value.formed,Tryz.underlying136,ao6]),hl];exact⟨_,rfl⟩
def ah0:Value->AS
 | .agg l=>match l.toList with
  | [.int _ x, .int _ a, .int _ b]=>BitVec.ofNat 32 (x.toNat*1024+a.toNat*32+(b+1).toNat)
  |_=>0
 |_=>0
def apt {d:Can} (hc:kr 16 c) (hd:kr 16 d) (h:ah0 (a0j c)=ah0 (a0j d)):c=d:=by
 have h1:=congrArg BitVec.toNat h;have x1:c.cx.toNat<2^16:=a78 hc.cx;have x2:d.cx.toNat<2^16:=a78 hd.cx;have a1:=hc.ha;have a2:=hd.ha;have b1:=hc.hb1;have b2:=hd.hb1;have b3:=hc.hb;have b4:=hd.hb;simp only[ah0,a0j,BitVec.toNat_ofNat,asI,bmc]at h1;rw[bpi bpw,bpi bpw]at h1;exact Can.eq_iff.2 ⟨bn3 bpw,by omega,by omega⟩
structure kz (P:Program) (kt:TypeId) (t:Tbl) (es:Array MapEntry) (clock:Nat):Prop where
 mx:lb P kt es clock
 to:∀e∈es.toList,∃c,kr 16 c/\e.key=a0j c/\e.val=.bool (fk t c)
variable {P:Program}{kt:TypeId}{t:Tbl}
def kz.nil:kz P kt t #[] 0:=⟨lb.nil,fun e he=>by simp at he⟩
variable {clock:Nat}{es:Array MapEntry}
def kz.put {es':Array MapEntry} {clock':Nat} (h:kz P kt t es clock) (hc:kr 16 c) (hX:lb P kt es' clock') (hP:ada es es' (a0j c) (.bool (fk t c))):kz P kt t es' clock' :=
 ⟨hX,fun e he=>by
  rcases hP.to e he with⟨h1,_⟩|⟨h1,h2⟩
  · exact h.to e h1
  exact⟨c,hc,h1,h2⟩⟩
def kz.found {b:Bool} {e:MapEntry} (h:kz P kt t es clock) (hc:kr 16 c) (he:e∈es.toList) (hk:e.key=a0j c) (hv:Value.bool b=e.val):b=fk t c:=by
 obtain⟨d,h1,h2,h3⟩:=h.to e he;obtain rfl:=apt hc h1 (by rw[<- hk,h2]);exact Value.bool.inj (hv.trans h3)
def kz.size (h:kz P kt t es clock):es.size<=4294967296:=by
 have hp:=((Go.MapKept.stamped_iff es clock).1 h.mx.st).2.2
 have hn:(es.toList.map fun e=>ah0 e.key).Nodup:=by
  refine List.pairwise_map.2 (hp.imp_of_mem fun {a b} ha hb hne e=>hne ?_);obtain⟨c,c1,c2,_⟩:=h.to a ha;obtain⟨d,d1,d2,_⟩:=h.to b hb;rw[c2,d2]at e ⊢;rw[apt c1 d1 e]
 have:=zg hn;simpa using this
def awu {s:AS} (hs0:s≠0) (hs:sub s c.cx) (hI:∀z,c.cx.getLsbD z=true->s.getLsbD z=false->fk t (mw c z)=false) (hf:fk t (mw c (j1 s))=false):
 sub (s&&&(s-1)) c.cx/\∀z,c.cx.getLsbD z=true->(s&&&(s-1)).getLsbD z=false->fk t (mw c z)=false:=by
 obtain⟨_,_,_,h4⟩:=uf hs0;rw[h4];refine⟨jx.2 fun z hz=>jx.1 hs z (by rw[bmy,bm8]at hz;exact hz.1),fun z h1 h2=>?_⟩;have hz32:z<32:=bpl fun hx=>by rw[bpf _ _ hx]at h1;cases h1
 rw[ank hz32,bp7]at h2
 rcases h2 with h2|h2
 · exact hI z h1 h2
 rw[decide_eq_false_iff_not,bou]at h2;rw[h2];exact hf
def avd:a6 bqh 53:=wgx Tryz.func53
def b0y (t:Tbl) (hT:TOk t) (h6:t.attrs.length<=6) (h200:t.rows.length<=200):a7 bqh 53 [t.pc] (af [pI 0]):=by
 refine hpx (nt:=19) Tryz.func53 ?_;refine sx7 ?_;refine m9 0 ?_;refine w_6 ?_;refine qcx a16 (a1l hT) ?_;refine sb ?_;refine am rfl rfl ?_ ?_<;>intro r0
 · have h0:=tz1 r0;exfalso;omega
 have h0:=tz2 r0;(iterate 4 refine qy ?_ (hg:=(gff r0)));refine w_2 ?_;refine aw _ rfl ?_ ?_<;>intro r1
 · have h1:=tz1 (ca r0 r1);exfalso;omega
 have h1:=tz2 (ca r0 r1);refine v_5 ?_;exact CoL.refl _
def aez:a6 bqh 110:=wgx Tryz.func110
def ajh(t:Tbl)(c:Can)(hT:TOk t)(hc:kr t.attrs.length c):dg bqh 110 [.agg [.p (t.c 0), .p (t.c 1), .p (t.c 2), .ref 1000 0],c.pc.toH] [(1000, .opq 0 0 0 (RMp (kz bqh 136 t)))] (.v (.one (.p (.raw (.bool (fk t c)))))) [(1000, .opq 0 0 0 (RMp (kz bqh 136 t)))] [1000]:=by
 refine hfx (nt:=28) Tryz.func110 ?_;have hna:=hT.na;have hc16:kr 16 c:=hc.mono hna;obtain⟨kl,hkl⟩:=b9f hc16;refine sx7 ?_;refine m9 0 ?_;refine m9 1 ?_;refine w_3 ?_;refine azp 1000 rfl fun bg es clock hM=>?_;refine db [] [0,1,2,3,4,5,6,7,8] rfl ?_;refine d9 (E:=ci) (L1:=[0,1,2]) (L2:=[3,4,5,6,7,8]) bw ?_;refine w_4 ?_;refine a2f (mid:=1000) (k:=3) (L:=[4,5,6,7,8]) rfl Tryz.underlying128 (Go.Maps.Keyed.of_law b1o) Tryz.zeroValue4 rfl hM.mx hkl rfl (fun ok v hy hn1=>?_)
 obtain ⟨bv,rfl⟩:∃bv,v=.bool bv:=by
  cases ok with
  | true =>
   obtain⟨e,he,hk,rfl⟩:=hy rfl;obtain⟨d,_,_,h3⟩:=hM.to e he;exact⟨_,h3⟩
  |false=>exact⟨false,(hn1 rfl).1⟩
 refine d9 (E:=ci) (L1:=[4,5,6,7,8]) (L2:=[]) bw ?_;refine w_6 ?_;refine gk ?_;refine yy kn km ⟨[(5,some (.v (.one (.p (.raw (.bool (fk t c)))))))],[(1000,some (.opq 0 0 0 (RMp (kz bqh 136 t))))]⟩ ?_ ?_
 ·
  refine ahw ?_;refine w_5 ?_;refine aw _ rfl ?_ ?_<;>intro r0
  ·
   have h0:=dc r0;have hok1:ok=false:=by simpa using r0
   subst hok1;refine w_5 ?_;refine qcx b56 (bg5 t c hT hc) ?_;refine w_5 ?_;refine db [] [0,1,2,3,4] rfl ?_;refine d9 (E:=ci) (L1:=[0,1,2,3]) (L2:=[4]) bw ?_;refine w_5 ?_;refine xo (mid:=1000) (k:=4) (L:=[]) rfl Tryz.underlying128 (Go.Maps.Keyed.of_law b1o) hM.mx (by have:=hM.size;unfold maxLen;omega) hkl rfl rfl (fun es3 clock3 hX3 hP=>?_);refine gk ?_;have hG:=hM.put hc16 hX3 hP;show HE _ _ _;refine a5q 1000 (kz bqh 136 t) rfl hG ?_;refine gl ?_;exact kk
  have h0:=df r0;have hok1:ok=true:=by simpa using r0
  obtain⟨e0,he0,hk0,hv0⟩:=hy hok1;obtain rfl:=hM.found hc16 he0 hk0 hv0;have hG:=hM;refine ej ?_;show HE _ _ _;refine a5q 1000 (kz bqh 136 t) rfl hG ?_;refine gl ?_;exact kk
 refine w_5 ?_;refine hrr ?_;exact⟨_,_,rfl,bpy,CoR.refl _,uu⟩
def ann:a6 bqh 109:=wgx Tryz.func109
def anw (t:Tbl) (c:Can) (hT:TOk t) (hc:kr t.attrs.length c):dg bqh 109 [.agg [.p (t.c 0), .p (t.c 1), .p (t.c 2), .ref 1000 0],c.pc.toH] [(1000, .opq 0 0 0 (RMp (kz bqh 136 t)))] (.v (.one (.p (.raw (.bool (ir t c)))))) [(1000, .opq 0 0 0 (RMp (kz bqh 136 t)))] [1000]:=by
 refine hfx (nt:=32) Tryz.func109 ?_;refine sx7 ?_;refine m9 0 ?_;refine m9 1 ?_;refine w_7 ?_;refine fc9 aez (ajh t c hT hc) uu ?_;refine w_2 ?_;refine aw _ rfl ?_ ?_<;>intro r0
 ·
  have h0:=dc r0;have hq:fk t c=false:=by simpa using r0
  refine w_4 ?_;refine hrr ?_;exact⟨_,_,rfl,bpy,cob (b66 hq).symm,uu⟩
 have h0:=df r0;have hq:fk t c=true:=by simpa using r0
 refine w_9 ?_;refine ar (ι:=AS) (ka 2 (ka 3 kn)) (kb 1000 (kb 0 (kb 1 km))) (fun s=>⟨[(5,some (vA s))],[]⟩) (fun s=>sub s c.cx/\∀z,c.cx.getLsbD z=true->s.getLsbD z=false->fk t (mw c z)=false) (fun s=>s.toNat) (c.cx) (⟨sub_self _,fun z h1 h2=>by rw[h1]at h2;cases h2⟩) kk ?_;rintro s ⟨hs,hI⟩;refine w_6 ?_;refine hcn ?_ ?_<;>intro h1
 ·
  have hs0:s≠0:=fun e=>h1 (by rw[e];rfl);obtain⟨hl1,hl2,_,_⟩:=uf hs0;have hcl:c.cx.getLsbD (j1 s)=true:=jx.1 hs _ hl2;refine eu ?_;refine rqw rfl rfl rfl rfl rfl ?_;refine w_7 ?_;refine nj rfl rfl rfl rfl rfl rfl aez (ajh t (mw c (j1 s)) hT hc.cut) (⟨a2m.refl _,⟨CoP.of_eq (congrArg (fun z=>PV.raw (.int .u32 z)) (by rw[bg3 s hs0 rfl,adx];rfl)),CoP.refl _,CoP.refl _,trivial⟩,trivial⟩) uu rfl rfl ?_;refine d5 ?_;refine aw _ rfl ?_ ?_<;>intro r2
  · have h2:=r2;have hv:fk t (mw c (j1 s))=true:=r2;refine w_4 ?_;refine hrr ?_;exact⟨_,_,rfl,bpy,cob (b7c hl1 hcl hv).symm,uu⟩
  have h2:=r2;have hv:fk t (mw c (j1 s))=false:=r2;refine w_4 ?_;refine rq rfl rfl rfl rfl rfl ?_ (hp:=(a2k hs0));refine w_3 ?_;refine⟨s&&&(s-1), ?_, ?_, ?_⟩
  · exact awu hs0 hs hI hv
  · exact b7w hs0
  exact⟨⟨⟨_,rfl,(nq (aji hs0))⟩,tt⟩,uu⟩
 have hz0:s=0:=d7.1 h1;subst hz0;refine w_5 ?_;refine hrr ?_;exact⟨_,_,rfl,bpy,cob (ba0 hq fun z hz hx=>hI z hx BitVec.getLsbD_zero).symm,uu⟩
end
end
section
open Go.Proofs
def b14 {s:AS} {j:Nat} (h:j<32) (hn:¬cu .and .u32 ((asI s).fdiv (2^(min j IntKind.u32.bits))) 1=0):s.getLsbD j=true:=by
 cases hx:s.getLsbD j with
 |true=>rfl
 |false=>exact absurd ((ajw h).2 hx) hn
section
variable {n:Nat}
def b02 (hn:n<=16) {z:Nat} (h:(ah (n:Int)).getLsbD z=true):z<n:=by
 have h32:z<32:=bpl fun hx=>by rw[bpf _ _ hx]at h;cases h
 rw[ain bpw bpw h32]at h;have:=aqb h;omega
variable {x:AS}
def b9c{a:Nat}(h:a<n)(hx:∀z,x.getLsbD z=true->z<n):kr n (fc x a):=⟨h,(show(-1:Int)<=-1 by omega),(show(-1:Int)<_ by omega),hx⟩
variable {i:Nat}{t:Tbl}
def an4(h:i<(cq t x n).length):(cq t x n).getD i default<n:=(aa1.1 (by rw[al _ _ h];exact bma _)).1
def prN {k:Nat} (hi:i<(cq t x n).length) (hk:k<(cq t x n).length) (hx:∀z,x.getLsbD z=true->z<n):kr n (ub x (cq t x n) i k) :=
 ⟨an4 hi,(show(-1:Int)<=((_:Nat):Int) by omega),bos.2 (an4 hk),hx⟩
variable {F:List Nat}
def au3:nf t x F i 0=[]:=rfl
def a6r{k:Nat}(h:ir t (ub x F i (i+1+k))=true):k7 t x F i++nf t x F i (k+1)=(k7 t x F i++nf t x F i k)++[ub x F i (i+1+k)]:=by rw[ba8 h,bn6]
def a7h{k:Nat}(h:ir t (ub x F i (i+1+k))=false):k7 t x F i++nf t x F i (k+1)=k7 t x F i++nf t x F i k:=by rw[b9p h]
def b6e {k:Nat} (hn:n<=16) (hi:i<=(cq t x n).length) (hk:k<=(cq t x n).length):(k7 t x (cq t x n) i++nf t x (cq t x n) i k).length<=272:=by
 have h1:=aak (t:=t) (x:=x) (F:=cq t x n) (i:=i);have h2:=akz (t:=t) (x:=x) (F:=cq t x n) (i:=i) (k:=k);have h3:=a2b (t:=t) (x:=x) (i:=n);have h4:i*(cq t x n).length<=16*16:=bp1 bpw bpw;rw[bm2];omega
def b9i:a6 bqh 55:=wgx Tryz.func55
def be2(t:Tbl)(x:AS)(hT:TOk t)(hx:∀z,x.getLsbD z=true->z<t.attrs.length):dg bqh 55 [.agg [.p (t.c 0), .p (t.c 1), .p (t.c 2), .ref 1000 0], .one (.p (asC x))] [(1000, .opq 0 0 0 (RMp (kz bqh 136 t)))] (.v (.one (.p (wo (lz t x t.attrs.length))))) [(1000, .opq 0 0 0 (RMp (kz bqh 136 t)))] [1000]:=by
 refine hfx (nt:=34) Tryz.func55 ?_;have hna:=hT.na;refine sx7 ?_;refine m9 0 ?_;refine tg ?_;refine cr 5 900 true 3 136 (lf Can.c []) bq4 rfl (CoP.sl rfl (.inr rfl) (fun h=>h) (fun i j hi _=>absurd hi (bm6 i))) (.inr rfl) rfl ?_;refine c7 (ka 1 (ka 2 (ka 11 kn))) (kb 1000 (kb 0 km)) (fun a=>⟨[(5,some (.v (.one (.ref 900 (lz t x a).length)))),(12,some (vI a))],[(900,some (.arr true 3 136 (lz t x a).length (lf Can.c (lz t x a))))]⟩) t.attrs.length kk ?_;rintro a hal0;have hlen:=aa0 (t:=t) (x:=x) (i:=a);refine w_5 ?_;refine hcd ?_ ?_<;>intro h0
 ·
  have hal:a<t.attrs.length:=by omega
  have ha32:a<32:=by omega
  have hbt:=ajw (s:=x) ha32;refine l5 ?_;refine m9 1 ?_;refine eu ?_;refine am rfl rfl ?_ ?_<;>intro r1
  ·
   have h1:=tz1 r1;have hx0:x.getLsbD a=false:=hbt.1 h1;(iterate 2 refine qy ?_ (hg:=(gtt r1)));refine fc9 ann (anw t (fc x a) hT (b9c hal hx)) uu ?_ (hg:=(gtt r1));refine w_2 ?_;refine aw _ rfl ?_ ?_<;>intro r2
   ·
    have h2:=bp r1 r2;have hq:ir t (fc x a)=true:=by simp_all
    refine w_3 ?_;refine m9 2 ?_;refine rz9 3 true ?_;refine w_6 ?_
    first | (refine lpz (a+1) ⟨⟨⟨_, rfl, (bj (a0q hx0 hq))⟩, tt⟩, ⟨⟨_, rfl, (dh (a0q hx0 hq) (CoP.refl _) (CoP.refl _) (CoP.refl _))⟩, uu⟩⟩ ?_; show a+1<=_; omega)
          |(refine lpz (a+1) ⟨⟨⟨_,rfl,(bo (a1i hq))⟩,tt⟩,⟨⟨_,rfl,(bf (a1i hq))⟩,uu⟩⟩ ?_;show a+1<=_;omega)
   have h2:=bp r1 r2;have hq:x.getLsbD a=true\/ir t (fc x a)=false:=.inr (by simp_all);refine w_5 ?_
   first | (refine lpz (a+1) ⟨⟨⟨_, rfl, (bj (a0q hx0 hq))⟩, tt⟩, ⟨⟨_, rfl, (dh (a0q hx0 hq) (CoP.refl _) (CoP.refl _) (CoP.refl _))⟩, uu⟩⟩ ?_; show a+1<=_; omega)
         |(refine lpz (a+1) ⟨⟨⟨_,rfl,(bo (a1i hq))⟩,tt⟩,⟨⟨_,rfl,(bf (a1i hq))⟩,uu⟩⟩ ?_;show a+1<=_;omega)
  have h1:=tz2 r1;have hq:x.getLsbD a=true\/ir t (fc x a)=false:=.inl (b14 ha32 h1);(iterate 3 refine k9 (gft r1) ?_);refine w_8 ?_
  first | (refine lpz (a+1) ⟨⟨⟨_, rfl, (bj (a0q hx0 hq))⟩, tt⟩, ⟨⟨_, rfl, (dh (a0q hx0 hq) (CoP.refl _) (CoP.refl _) (CoP.refl _))⟩, uu⟩⟩ ?_; show a+1<=_; omega)
        |(refine lpz (a+1) ⟨⟨⟨_,rfl,(bo (a1i hq))⟩,tt⟩,⟨⟨_,rfl,(bf (a1i hq))⟩,uu⟩⟩ ?_;show a+1<=_;omega)
 obtain rfl:a=t.attrs.length:=by omega
 refine w_2 ?_;refine be 5 rfl rfl rfl ?_;refine w_4 ?_;refine hrr ?_;exact⟨_,_,rfl,bpy,CoR.refl _,uu⟩
def b74:a6 bqh 56:=wgx Tryz.func56
def b5j(t:Tbl)(x:AS)(hT:TOk t)(hx:∀z,x.getLsbD z=true->z<t.attrs.length):dg bqh 56 [.agg [.p (t.c 0), .p (t.c 1), .p (t.c 2), .ref 1000 0], .one (.p (asC x))] [(1000, .opq 0 0 0 (RMp (kz bqh 136 t)))] (.v (.one (.p (wo (k7 t x (cq t x t.attrs.length) (cq t x t.attrs.length).length))))) [(1000, .opq 0 0 0 (RMp (kz bqh 136 t)))] [1000]:=by
 refine hfx (nt:=68) Tryz.func56 ?_;have hna:=hT.na;have hfl:=a2b (t:=t) (x:=x) (i:=t.attrs.length);refine sx7 ?_;refine m9 0 ?_;refine tg ?_;refine cr 5 900 true 1 3 (lf iC []) bq4 rfl (CoP.sl rfl (.inr rfl) (fun h=>h) (fun i j hi _=>absurd hi (bm6 i))) (.inr rfl) rfl ?_;refine c7 (ka 1 (ka 2 (ka 16 kn))) (kb 1000 (kb 0 km)) (fun a=>⟨[(5,some (.v (.one (.ref 900 (cq t x a).length)))),(17,some (vI a))],[(900,some (.arr true 1 3 (cq t x a).length (lf iC (cq t x a))))]⟩) t.attrs.length kk ?_;rintro a hal0;have hlen:=a2b (t:=t) (x:=x) (i:=a);refine w_5 ?_;refine hcd ?_ ?_<;>intro h0
 ·
  have hal:a<t.attrs.length:=by omega
  have ha32:a<32:=by omega
  have hbt:=ajw (s:=x) ha32;refine tg ?_;refine am rfl rfl ?_ ?_<;>intro r1
  ·
   have h1:=tz1 r1;have hx0:x.getLsbD a=false:=hbt.1 h1;(iterate 4 refine qy ?_ (hg:=(gtt r1)));refine fc9 aez (ajh t (fc x a) hT (b9c hal hx)) uu ?_ (hg:=(gtt r1));refine qy ?_ (hg:=(gtt r1));refine w_2 ?_;refine aw _ rfl ?_ ?_<;>intro r2
   ·
    have h2:=dc (bp r1 r2);have hq:fk t (fc x a)=false:=by simp_all
    refine w_3 ?_;refine m9 1 ?_;refine rz9 2 true ?_;refine w_6 ?_
    first | (refine lpz (a+1) ⟨⟨⟨_, rfl, (bj (a1n hx0 hq))⟩, tt⟩, ⟨⟨_, rfl, (bm (a1n hx0 hq) (CoP.refl _))⟩, uu⟩⟩ ?_; show a+1<=_; omega)
          |(refine lpz (a+1) ⟨⟨⟨_,rfl,(bo (a1j hq))⟩,tt⟩,⟨⟨_,rfl,(bf (a1j hq))⟩,uu⟩⟩ ?_;show a+1<=_;omega)
   have h2:=df (bp r1 r2);have hq:x.getLsbD a=true\/fk t (fc x a)=true:=.inr (by simp_all);refine w_5 ?_
   first | (refine lpz (a+1) ⟨⟨⟨_, rfl, (bj (a1n hx0 hq))⟩, tt⟩, ⟨⟨_, rfl, (bm (a1n hx0 hq) (CoP.refl _))⟩, uu⟩⟩ ?_; show a+1<=_; omega)
         |(refine lpz (a+1) ⟨⟨⟨_,rfl,(bo (a1j hq))⟩,tt⟩,⟨⟨_,rfl,(bf (a1j hq))⟩,uu⟩⟩ ?_;show a+1<=_;omega)
  have h1:=tz2 r1;have hq:x.getLsbD a=true\/fk t (fc x a)=true:=.inl (b14 ha32 h1);(iterate 6 refine k9 (gft r1) ?_);refine w_8 ?_
  first | (refine lpz (a+1) ⟨⟨⟨_, rfl, (bj (a1n hx0 hq))⟩, tt⟩, ⟨⟨_, rfl, (bm (a1n hx0 hq) (CoP.refl _))⟩, uu⟩⟩ ?_; show a+1<=_; omega)
        |(refine lpz (a+1) ⟨⟨⟨_,rfl,(bo (a1j hq))⟩,tt⟩,⟨⟨_,rfl,(bf (a1j hq))⟩,uu⟩⟩ ?_;show a+1<=_;omega)
 obtain rfl:a=t.attrs.length:=by omega
 refine w_2 ?_;refine be 5 rfl rfl rfl ?_;refine jb ?_;refine cr 7 901 true 3 136 (lf Can.c []) bq4 rfl (CoP.sl rfl (.inr rfl) (fun h=>h) (fun i j hi _=>absurd hi (bm6 i))) (.inr rfl) rfl ?_;refine c7 (ka 1 (ka 2 (ka 5 (ka 38 (ka 39 kn))))) (kb 1000 (kb 0 km)) (fun i=>⟨[(7,some (.v (.one (.ref 901 (k7 t x (cq t x t.attrs.length) i).length)))),(40,some (vI i))],[(901,some (.arr true 3 136 (k7 t x (cq t x t.attrs.length) i).length (lf Can.c (k7 t x (cq t x t.attrs.length) i))))]⟩) ((cq t x t.attrs.length).length) kk ?_;rintro i hi;refine w_5 ?_;refine hcd ?_ ?_<;>intro h3
 ·
  have hil:i<(cq t x t.attrs.length).length:=by omega
  refine aqu ?_;refine c7 (ka 1 (ka 2 (ka 5 (ka 9 (ka 38 (ka 39 (ka 40 (ka 48 (ka 49 kn))))))))) (kb 1000 (kb 0 km)) (fun k=>⟨[(7,some (.v (.one (.ref 901 (k7 t x (cq t x t.attrs.length) i++nf t x (cq t x t.attrs.length) i k).length)))),(50,some (vI k))],[(901,some (.arr true 3 136 (k7 t x (cq t x t.attrs.length) i++nf t x (cq t x t.attrs.length) i k).length (lf Can.c (k7 t x (cq t x t.attrs.length) i++nf t x (cq t x t.attrs.length) i k))))]⟩) ((cq t x t.attrs.length).length-(i+1)) ⟨⟨⟨_,rfl,(by rw[au3,bmv];exact CoR.refl _)⟩,tt⟩,⟨⟨_,rfl,(by rw[au3,bmv];exact CoO.refl _)⟩,trivial⟩⟩ ?_;rintro k hk;refine w_5 ?_;refine hcd ?_ ?_<;>intro h4
  ·
   have hkl:i+1+k<(cq t x t.attrs.length).length:=by have hz:=h4;simp only[eo,c5]at hz;omega
   have hpl:=b6e (t:=t) (x:=x) (i:=i) (k:=k) hna (Nat.le_of_lt hil) bpw;refine jd ?_;refine m9 3 ?_;refine w_6 ?_;refine fc9 ann (anw t (ub x (cq t x t.attrs.length) i (i+1+k)) hT (prN hil hkl hx)) uu ?_;refine d5 ?_;refine aw _ rfl ?_ ?_<;>intro r5
   ·
    have h5:=r5;have hq:ir t (ub x (cq t x t.attrs.length) i (i+1+k))=true:=r5;refine w_3 ?_;refine m9 4 ?_;refine rz9 5 true ?_;refine w_6 ?_
    first | (refine lpz (k+1) ⟨⟨⟨_, rfl, (bj (a6r hq))⟩, tt⟩, ⟨⟨_, rfl, (dh (a6r hq) (CoP.refl _) (CoP.refl _) (CoP.refl _))⟩, uu⟩⟩ ?_; show k+1<=_; omega)
          |(refine lpz (k+1) ⟨⟨⟨_,rfl,(bo (a7h hq))⟩,tt⟩,⟨⟨_,rfl,(bf (a7h hq))⟩,uu⟩⟩ ?_;show k+1<=_;omega)
   have h5:=r5;have hq:ir t (ub x (cq t x t.attrs.length) i (i+1+k))=false:=r5;refine w_5 ?_
   first | (refine lpz (k+1) ⟨⟨⟨_, rfl, (bj (a6r hq))⟩, tt⟩, ⟨⟨_, rfl, (dh (a6r hq) (CoP.refl _) (CoP.refl _) (CoP.refl _))⟩, uu⟩⟩ ?_; show k+1<=_; omega)
         |(refine lpz (k+1) ⟨⟨⟨_,rfl,(bo (a7h hq))⟩,tt⟩,⟨⟨_,rfl,(bf (a7h hq))⟩,uu⟩⟩ ?_;show k+1<=_;omega)
  obtain rfl:k=(cq t x t.attrs.length).length-(i+1):=by have hz:=h4;simp only[eo,c5]at hz;omega
  refine w_5 ?_;exact lpx (i+1) ⟨⟨⟨_,rfl,(by rw[a5l];exact CoR.refl _)⟩,tt⟩,⟨⟨_,rfl,(by rw[a5l];exact CoO.refl _)⟩,uu⟩⟩
 obtain rfl:i=(cq t x t.attrs.length).length:=by omega
 refine w_2 ?_;refine be 7 rfl rfl rfl ?_;refine w_4 ?_;refine hrr ?_;exact⟨_,_,rfl,bpy,CoR.refl _,uu⟩
end
end
section
open Go.Proofs
def b43 {t:Tbl} {S:List AS} {i:Nat} (h:i<S.length):(oc t S (i+1)).length=(oc t S i++lz t (S.getD i default) t.attrs.length).length+(k7 t (S.getD i default) (cq t (S.getD i default) t.attrs.length) (cq t (S.getD i default) t.attrs.length).length).length:=by
 rw[a5a h];exact bm2
def ba5:a6 bqh 18:=wgx Tryz.func18
def bdd (t:Tbl) (hT:TOk t) (h6:t.attrs.length<=6) (h200:t.rows.length<=200):a7 bqh 18 [t.pc] (af [pP (wo (wz t)),pI 0]):=by
 refine hpx (nt:=40) Tryz.func18 ?_;have hna:=hT.na;have h0z:(0:Int)<=((t.attrs.length:Nat):Int):=by omega
 have h1z:((t.attrs.length:Nat):Int)<=16:=by omega
 have hsc:ct (ah (t.attrs.length:Nat))=(dx (ah (t.attrs.length:Nat))):=aet (by have:=ayp (n:=((t.attrs.length:Nat):Int)) (m:=12) bpw bpw;omega);have hsl:=vz (ah (t.attrs.length:Nat));rw[hsc]at hsl;have hcS:dg bqh 54 [.one (.p (asC (ah (t.attrs.length:Nat))))] [] (.v (.one (.ref 901 (dx (ah (t.attrs.length:Nat))).length))) [(901, .arr true 1 35 (dx (ah (t.attrs.length:Nat))).length (lf sC (dx (ah (t.attrs.length:Nat)))))] []:=hsc▸bbf (ah (t.attrs.length:Nat));refine sx7 ?_;refine m9 0 ?_;refine w_7 ?_;refine qcx avd (b0y t hT h6 h200) ?_;refine eu ?_;refine db [] [0,1,2,3,4] rfl ?_;refine d9 (E:=ci) (L1:=[0]) (L2:=[1,2,3,4]) bw ?_;refine w_2 ?_;refine yx (k:=1) (L:=[2,3,4]) 903 rfl (fun bg=>?_);refine d9 (E:=ci) (L1:=[2,3,4]) (L2:=[]) bw ?_;refine qy ?_;refine m9 1 ?_;refine w_2 ?_;refine gk ?_;refine au1 903 (kz bqh 136 t) rfl kz.nil ?_;refine jb ?_;refine rq rfl rfl rfl rfl rfl ?_ (hp:=⟨uv h0z h1z,sy h0z h1z⟩);refine nj rfl rfl rfl rfl rfl rfl ak5 (hcS) (⟨CoP.of_eq (congrArg (fun z=>PV.raw (.int .u32 z)) (wa h0z h1z)),trivial⟩) trivial rfl rfl ?_;refine w_3 ?_;refine be 22 rfl rfl rfl ?_;refine a2c ?_;refine cr 6 900 true 3 136 (lf Can.c []) bq4 rfl (CoP.sl rfl (.inr rfl) (fun h=>h) (fun i j hi _=>absurd hi (bm6 i))) (.inr rfl) rfl ?_;refine c7 (ka 5 (ka 22 (ka 23 kn))) (kb 903 (kb 1 km)) (fun i=>⟨[(6,some (.v (.one (.ref 900 (oc t (dx (ah (t.attrs.length:Nat))) i).length)))),(24,some (vI i))],[(900,some (.arr true 3 136 (oc t (dx (ah (t.attrs.length:Nat))) i).length (lf Can.c (oc t (dx (ah (t.attrs.length:Nat))) i))))]⟩) ((dx (ah (t.attrs.length:Nat))).length) kk ?_;rintro i hi;refine w_5 ?_;refine hcd ?_ ?_<;>intro h0
 ·
  have hil:i<(dx (ah (t.attrs.length:Nat))).length:=by omega
  have hxs:∀z,((dx (ah (t.attrs.length:Nat))).getD i default).getLsbD z=true->z<t.attrs.length:=fun z hz=>b02 hna (jx.1 (a69.1 (by rw[al _ _ hil];exact bma _)) z hz);have hal:=ajs (t:=t) (Nat.le_of_lt hil);have hnn:t.attrs.length*t.attrs.length<=6*6:=bp1 h6 h6;have hab:i*(t.attrs.length+t.attrs.length*t.attrs.length)<=4294967296*42:=bp1 bpw bpw;have hbig:(oc t (dx (ah (t.attrs.length:Nat))) i).length<=180388626432:=bme hal hab;have hcl:=aa0 (t:=t) (x:=((dx (ah (t.attrs.length:Nat))).getD i default)) (i:=t.attrs.length);have hpl:=ahm (t:=t) (x:=((dx (ah (t.attrs.length:Nat))).getD i default));unfold a2e at hpl;rw[bm2]at hpl;have hac:((oc t (dx (ah (t.attrs.length:Nat))) i)++(lz t ((dx (ah (t.attrs.length:Nat))).getD i default) t.attrs.length)).length<=180388626500:=by rw[bm2];omega
  refine nc ?_;refine fc9 b9i ((be2 t ((dx (ah (t.attrs.length:Nat))).getD i default) hT hxs).swap 1000 903) uu ?_;refine ra 2 true rfl rfl rfl rfl rfl rfl ?_ (hp:=⟨trivial,rfl,rfl,rfl, .inl rfl,by omega,(by dsimp only;omega),fun _=>.inl rfl⟩);refine w_2 ?_;refine yt ⟨[(5,some _),(8,some _),(22,some _),(23,some _),(24,some _),(6,some (.v (.one (.ref 900 ((oc t (dx (ah (t.attrs.length:Nat))) i)++(lz t ((dx (ah (t.attrs.length:Nat))).getD i default) t.attrs.length)).length))))],[(1,some _),(903,some _),(900,some (.arr true 3 136 ((oc t (dx (ah (t.attrs.length:Nat))) i)++(lz t ((dx (ah (t.attrs.length:Nat))).getD i default) t.attrs.length)).length (lf Can.c ((oc t (dx (ah (t.attrs.length:Nat))) i)++(lz t ((dx (ah (t.attrs.length:Nat))).getD i default) t.attrs.length)))))]⟩ ⟨⟨c9,c9,c9,c9,c9,⟨_,rfl,(by rw[bm2];exact CoR.refl _)⟩,trivial⟩,⟨u9,u9,⟨_,rfl,(a1t _ (fun h=>h) rfl (fun i j hi hj=>CoP.refl _))⟩,trivial⟩⟩ ?_;refine w_4 ?_;refine fc9 b74 ((b5j t ((dx (ah (t.attrs.length:Nat))).getD i default) hT hxs).swap 1000 903) uu ?_;refine ra 3 true rfl rfl rfl rfl rfl rfl ?_ (hp:=⟨trivial,rfl,rfl,rfl, .inl rfl,by omega,(by dsimp only;omega),fun _=>.inl rfl⟩);refine w_6 ?_;exact lpx (i+1) ⟨⟨⟨_,rfl,(by rw[b43 hil];exact CoR.refl _)⟩,tt⟩,⟨⟨_,rfl,(by rw[a5a hil];exact a1t _ (fun h=>h) rfl (fun i j hi hj=>CoP.refl _))⟩,uu⟩⟩
 obtain rfl:i=(dx (ah (t.attrs.length:Nat))).length:=by omega
 refine w_2 ?_;refine be 6 rfl rfl rfl ?_;refine v_5 ?_;exact⟨CoC.refl _,CoC.refl _,trivial⟩
end
section
open Go.Proofs
def b3o:a6 bqh 117:=wgx Tryz.func117
def be1(l:List Can)(g k:Nat)(caps:Nat->PV)(V:Can->Bool)(hg:a6 bqh g)(hV:∀x∈l,a7 bqh g (x.pc::er caps k 0) (af [pB (V x)])):a7 bqh 117 [pP (wo l),pP (.fn g k caps)] (af [pI (idx V l)]):=by
 refine hpx (nt:=19) Tryz.func117 ?_;refine eq ?_;refine fp 0 rfl fun hn=>?_;refine w_3 ?_;refine dn (ι:=Unit) kn km (fun _i=>⟨[],[]⟩) (fun _i=>idx V l=-1) ?_ ?_
 ·
  refine w_7 ?_;refine ar (ι:=Nat) (ka 0 (ka 1 (ka 7 kn))) km (fun i=>⟨[(8,some (vI i))],[]⟩) (fun i=>i<=l.length/\(∀j,j<i->V (l.getD j default)=false)) (fun i=>l.length-i) (0) (⟨bm3 _,e9⟩) kk ?_;rintro i ⟨hi,hIi⟩;refine w_5 ?_;refine hcd ?_ ?_<;>intro h0
  ·
   refine jd ?_;refine rc rfl rfl rfl rfl rfl rfl hg (hV (l.getD i default) (by rw[al _ _ bpw];exact bma _)) (CoL.refl _) rfl rfl ?_;refine d5 ?_;refine hcb ?_ ?_<;>intro h1
   · refine v_5 ?_;exact⟨cci (qx (i:=i) bpw hIi bpx).symm,trivial⟩
   refine w_5 ?_;refine lpz (i+1) kk ?_;exact⟨by show i+1<=_;omega,da hIi bpx⟩
  refine dz ?_;refine⟨(), ?_, ?_⟩
  · exact qv fun j hj=>hIi j bpw
  exact⟨trivial,trivial⟩
 rintro _ hj;refine v_4 ?_;exact⟨cci hj.symm,trivial⟩
def at6:a6 bqh 58:=wgx Tryz.func58
def b10 (l:List Can) (g k:Nat) (caps:Nat->PV) (V:Can->Bool) (hg:a6 bqh g) (hV:∀x∈l,a7 bqh g (x.pc::er caps k 0) (af [pB (V x)])):a7 bqh 58 [pP (wo l),pP (.fn g k caps)] (af [pB (l.any V)]):=by
 refine hpx (nt:=9) Tryz.func58 ?_;refine w_8 ?_;refine qcx b3o (be1 l g k caps V hg hV) ?_;refine v_3 ?_;exact⟨ccb vw,trivial⟩
def aod:a6 bqh 184:=wgx Tryz.func184
def bbd(s:AS)(a:Int):a7 bqh 184 [pA s,pI a] (af [pB (io s a)]):=by
 refine hpx (nt:=18) Tryz.func184 ?_;refine w_9 ?_;refine am rfl rfl ?_ ?_<;>intro r0
 ·
  have h0:=tz1 r0;have ha0:0<=a:=by omega
  (iterate 2 refine qy ?_ (hg:=(gtt r0)));refine w_2 ?_;refine am rfl rfl ?_ ?_<;>intro r1
  ·
   have h1:=tz1 (bp r0 r1);have ha1:a<32:=by first|omega|(simp_all;done)
   have hq:decide (cu .and .u32 ((asI s).fdiv (2^(min a.toNat IntKind.u32.bits))) 1=1)=io s a:=b1r (s:=s) ha0 ha1;(iterate 5 refine qy ?_ (hg:=(gtt r1)));refine w_3 ?_
   exact hx8 rfl rfl rfl (⟨ccb (by first|exact hq|exact hq.symm|(simp_all;done)),trivial⟩)
  have h1:=tz2 (bp r0 r1);have hq:io s a=false:=akb (by first|omega|(simp_all;omega));(iterate 5 refine k9 (gft r1) ?_);refine w_3 ?_
  exact hx8 rfl rfl rfl (⟨ccb (by first|exact hq|exact hq.symm|(simp_all;done)),trivial⟩)
 have h0:=tz2 r0;have hq:=akb (s:=s) (i:=a) bpw;(iterate 2 refine k9 (gft r0) ?_);refine w_2 ?_;(iterate 5 refine k9 rfl ?_);refine w_3 ?_
 exact hx8 rfl rfl rfl (⟨ccb (by first|exact hq|exact hq.symm|(simp_all;done)),trivial⟩)
def b73{c:Can}(ha:c.a<32)(hb1:-1<=c.b)(hb:c.b<32):(io c.cx (c.a:Int)=true\/(¬c.b=-1/\((c.a:Int)=c.b\/io c.cx c.b=true)))<->dp c:=by
 unfold dp;rw[s5 ha];by_cases h:c.b=-1
 · constructor
   · rintro (h1|⟨h1,_⟩)
     · exact .inr (.inl h1)
     exact absurd h h1
   rintro(h1|h1|⟨h1,_⟩)
   · omega
   · exact .inl h1
   omega
 obtain⟨b,e⟩:∃b:Nat,c.b=b:=⟨c.b.toNat,by omega⟩;rw[e,s5 (show b<32 by omega),bmc];constructor
 · rintro (h1|⟨_,h1|h1⟩)
   · exact .inr (.inl h1)
   · exact .inl h1
   exact .inr (.inr ⟨by omega,h1⟩)
 rintro(h1|h1|⟨_,h1⟩)
 · exact .inr ⟨by omega, .inl h1⟩
 · exact .inl h1
 exact .inr ⟨by omega, .inr h1⟩
def b3q:a6 bqh 118:=wgx Tryz.func118
def bfq(c:Can)(ha:c.a<32)(hb1:-1<=c.b)(hb:c.b<32):a7 bqh 118 [c.pc] (af [pB (decide (dp c))]):=by
 refine hpx (nt:=27) Tryz.func118 ?_;have ht:=b73 ha hb1 hb;refine sx7 ?_;refine m9 0 ?_;refine w_8 ?_;refine qcx aod (bbd c.cx c.a) ?_;refine qy ?_;refine am rfl rfl ?_ ?_<;>intro r0
 ·
  have h0:=r0;(iterate 4 refine k9 (gtf r0) ?_);(iterate 12 refine k9 rfl ?_);refine k9 (gtf r0) ?_;refine w_3 ?_
  exact hx8 rfl rfl rfl (⟨ccb (bnc.2 (by rw[decide_eq_true_eq,<- ht];first|(simp_all;done)|(simp_all;omega))),trivial⟩)
 have h0:=r0;(iterate 4 refine qy ?_ (hg:=(gff r0)));refine am rfl rfl ?_ ?_<;>intro r1
 ·
  have h1:=tz2 (dc r1);(iterate 6 refine qy ?_ (hg:=(gtt r1)));refine am rfl rfl ?_ ?_<;>intro r2
  ·
   have h2:=tz1 r2;(iterate 5 refine k9 (gtf r2) ?_);refine rq rfl rfl rfl rfl (gtt r1) ?_ (hp:=r2);refine qy ?_ (hg:=(gff r0));refine w_3 ?_
   exact hx8 rfl rfl rfl (⟨ccb (bnc.2 (by rw[decide_eq_true_eq,<- ht];first|(simp_all;done)|(simp_all;omega))),trivial⟩)
  have h2:=tz2 r2;(iterate 4 refine qy ?_ (hg:=(gff r2)));refine qcx aod (bbd c.cx c.b) ?_ (hg:=(gff r2));refine qy ?_ (hg:=(gtt r1));refine qy ?_ (hg:=(gff r0));refine w_3 ?_
  exact hx8 rfl rfl rfl (⟨ccb (bnc.2 (by rw[decide_eq_true_eq,<- ht];first|(simp_all;done)|(simp_all;omega))),trivial⟩)
 have h1:=tz1 (df r1);(iterate 6 refine k9 (gft r1) ?_);(iterate 5 refine k9 rfl ?_);refine k9 (gft r1) ?_;refine rq rfl rfl rfl rfl (gff r0) ?_ (hp:=r1);refine w_3 ?_
 exact hx8 rfl rfl rfl (⟨ccb (bnc.2 (by rw[decide_eq_true_eq,<- ht];first|(simp_all;done)|(simp_all;omega))),trivial⟩)
def b2g:a6 bqh 119:=wgx Tryz.func119
def bq2{p:Prop}(h:p:=by rw[decide_eq_true_eq];unfold kw;first|(simp_all;done)|(simp_all;omega)):p:=h
def bbr(x c:Can):a7 bqh 119 [x.pc,pP (PV.vp 3 fun j=>[c.c 0,c.c 1,c.c 2].getD j .any)] (af [pB (decide (kw c x))]):=by
 refine hpx (nt:=67) Tryz.func119 ?_;have hsb:cu .andNot .u32 (asI x.cx) (asI c.cx)=0<->sub x.cx c.cx:=by rw[adx];exact(show asI (x.cx&&&~~~c.cx)=asI 0<->_ from d7)
 refine sx7 ?_;refine m9 0 ?_;refine nc ?_;refine hcn ?_ ?_<;>intro h0
 · have hs:¬sub x.cx c.cx:=fun h=>h0 (hsb.2 h);refine v_4 ?_;exact⟨ccb (bnc.2 bq2),trivial⟩
 have hs:sub x.cx c.cx:=hsb.1 h0;refine w_7 ?_;refine hcd ?_ ?_<;>intro h1
 ·
  have hcb:c.b=-1:=h1;refine w_6 ?_;refine am rfl rfl ?_ ?_<;>intro r2
  ·
   have h2:=tz1 r2;(iterate 5 refine qy ?_ (hg:=(gtt r2)));refine w_3 ?_
   exact hx8 rfl rfl rfl (⟨ccb (bnc.2 bq2),trivial⟩)
  have h2:=tz2 r2;(iterate 5 refine k9 (gft r2) ?_);refine w_3 ?_
  exact hx8 rfl rfl rfl (⟨ccb (bnc.2 bq2),trivial⟩)
 have hcb:¬c.b=-1:=h1;refine w_7 ?_;refine hcd ?_ ?_<;>intro h3
 ·
  have hxb:x.b=-1:=h3;refine w_8 ?_;refine am rfl rfl ?_ ?_<;>intro r4
  ·
   have h4:=tz1 r4;(iterate 5 refine k9 (gtf r4) ?_);refine w_3 ?_
   exact hx8 rfl rfl rfl (⟨ccb (bnc.2 bq2),trivial⟩)
  have h4:=tz2 r4;(iterate 5 refine qy ?_ (hg:=(gff r4)));refine w_3 ?_
  exact hx8 rfl rfl rfl (⟨ccb (bnc.2 bq2),trivial⟩)
 have hxb:¬x.b=-1:=h3;refine w_9 ?_;refine am rfl rfl ?_ ?_<;>intro r5
 ·
  have h5:=tz1 r5;(iterate 5 refine qy ?_ (hg:=(gtt r5)));refine w_2 ?_;refine am rfl rfl ?_ ?_<;>intro r6
  ·
   have h6:=tz1 (bp r5 r6);(iterate 6 refine k9 (gtf r6) ?_);(iterate 5 refine k9 rfl ?_);refine k9 (gtf r6) ?_;refine w_3 ?_
   exact hx8 rfl rfl rfl (⟨ccb (bnc.2 bq2),trivial⟩)
  have h6:=tz2 (bp r5 r6);(iterate 6 refine qy ?_ (hg:=(gff r6)));refine am rfl rfl ?_ ?_<;>intro r7
  ·
   have h7:=tz1 r7;(iterate 5 refine qy ?_ (hg:=(gtt r7)));refine qy ?_ (hg:=(gff r6));refine w_3 ?_
   exact hx8 rfl rfl rfl (⟨ccb (bnc.2 bq2),trivial⟩)
  have h7:=tz2 r7;(iterate 5 refine k9 (gft r7) ?_);refine rq rfl rfl rfl rfl (gff r6) ?_ (hp:=r7);refine w_3 ?_
  exact hx8 rfl rfl rfl (⟨ccb (bnc.2 bq2),trivial⟩)
 have h5:=tz2 r5;(iterate 5 refine k9 (gft r5) ?_);refine w_8 ?_;refine am rfl rfl ?_ ?_<;>intro r8
 ·
  have h8:=tz1 r8;(iterate 5 refine qy ?_ (hg:=(gtt r8)));refine w_4 ?_
  exact hx8 rfl rfl rfl (⟨ccb (bnc.2 bq2),trivial⟩)
 have h8:=tz2 r8;(iterate 5 refine k9 (gft r8) ?_);refine w_4 ?_
 exact hx8 rfl rfl rfl (⟨ccb (bnc.2 bq2),trivial⟩)
def bae:a6 bqh 60:=wgx Tryz.func60
def be8 (l:List Can) (c:Can) (ha:c.a<32) (hb1:-1<=c.b) (hb:c.b<32):a7 bqh 60 [pP (wo l),c.pc] (af [pB (a40 l c)]):=by
 refine hpx (nt:=10) Tryz.func60 ?_;refine sx7 ?_;refine m9 0 ?_;refine w_6 ?_;refine qcx b3q (bfq c ha hb1 hb) ?_;refine d5 ?_;refine aw _ rfl ?_ ?_<;>intro r0
 · have h0:=r0;have hq:decide (dp c)=true:=r0;refine v_4 ?_;exact⟨ccb (by unfold a40;rw[hq];rfl),trivial⟩
 have h0:=r0;have hq:decide (dp c)=false:=r0;refine w_2 ?_;refine c8 3 rfl rfl rfl ?_;refine w_3 ?_;refine qcx at6 (b10 l 119 1 (fun j=>[PV.vp 3 fun j=>[c.c 0,c.c 1,c.c 2].getD j .any].getD j .any) (fun x=>decide (kw c x)) b2g (fun x _=>bbr x c)) ?_;refine v_2 ?_;exact⟨ccb (by unfold a40;rw[hq];rfl),trivial⟩
def b92:a6 bqh 59:=wgx Tryz.func59
def bb7 (l:List Can) (c:Can) (ha:c.a<32) (hb1:-1<=c.b) (hb:c.b<32):a7 bqh 59 [c.pc,pP (bx (wo l))] (af [pB (!a40 l c)]):=by
 refine hpx (nt:=8) Tryz.func59 ?_;refine sx7 ?_;refine m9 0 ?_;refine w_6 ?_;refine qcx bae (be8 l c ha hb1 hb) ?_;refine v_3 ?_;exact CoL.refl _
def ahx {n:Nat} {X Y:List Nat} (hn:n<=16) (hX:∀a∈X,a<n) (hY:∀a∈Y,a<n):∀c∈wu (ai X) (ai Y) (gt (ai Y)),c.a<32/\-1<=c.b/\c.b<32:=fun c hc=>by
 obtain⟨_,h2,h3,h4,_⟩:=adg hn (fun z hz=>hX z (po.1 hz)) (fun z hz=>hY z (po.1 hz)) (fun z=>a9v) hc;omega
def b4o {l C:List Can}:(!C.any fun c=>!a40 l c)=aee l C:=by
 unfold aee;rw[List.not_any_eq_all_not];congr 1;funext c;rw[Bool.not_not]
def ban:a6 bqh 19:=wgx Tryz.func19
def awm (t:Tbl) (l:List Can) (X Y:List Nat) (hT:TOk t) (h6:t.attrs.length<=6) (h200:t.rows.length<=200) (hX:∀a∈X,a<t.attrs.length) (hY:∀a∈Y,a<t.attrs.length) (hX8:X.length<=8) (hY8:Y.length<=8):a7 bqh 19 [t.pc,pP (wo l),wj X Y] (af [pB (aee l (wu (ai X) (ai Y) (gt (ai Y)))),pI 0]):=by
 refine hpx (nt:=34) Tryz.func19 ?_;have hna:=hT.na;have hX16:∀a∈X,a<16:=fun a ha=>by have:=hX a ha;omega
 have hY16:∀a∈Y,a<16:=fun a ha=>by have:=hY a ha;omega
 refine sx7 ?_;refine m9 0 ?_;refine m9 1 ?_;refine m9 2 ?_;refine w_7 ?_;refine qcx avd (b0y t hT h6 h200) ?_;refine tg ?_;refine qcx a4x (aay t.attrs.length X Y hX hY hX8 hY8) ?_;refine w_7 ?_;refine qcx b9k (bet X Y hX16 hY16 hX8 hY8) ?_;refine jd ?_;refine c8 4 rfl rfl rfl ?_;refine w_3 ?_;refine qcx at6 (b10 (wu (ai X) (ai Y) (gt (ai Y))) 59 1 (fun j=>[bx (wo l)].getD j .any) (fun c=>!a40 l c) b92 (fun c hc=>bb7 l c (ahx hna hX hY c hc).1 (ahx hna hX hY c hc).2.1 (ahx hna hX hY c hc).2.2)) ?_;refine v_4 ?_;exact⟨ccb b4o,CoC.refl _,trivial⟩
end
section
open Go.Proofs
def Tm.c (x:Tm):Nat->PV
 |0=>.raw (.int .i64 (x.v:Int))
 |1=>.raw (.int .i64 (x.a:Int))
 |2=>.raw (.int .i64 0)
 |3=>.raw (.int .i64 0)
 |4=>.raw (.string ⟨#[]⟩)
 |_=>.any
abbrev Tm.pc(x:Tm):PC:=.agg [x.c 0,x.c 1,x.c 2,x.c 3,x.c 4]
def Atm.c (x:Atm):Nat->PV
 |0=>x.l.c 0
 |1=>x.l.c 1
 |2=>x.l.c 2
 |3=>x.l.c 3
 |4=>x.l.c 4
 |5=>.raw (.int .i64 (x.op:Int))
 |6=>x.r.c 0
 |7=>x.r.c 1
 |8=>x.r.c 2
 |9=>x.r.c 3
 |10=>x.r.c 4
 |_=>.any
abbrev Atm.pc(x:Atm):PC:=.agg [x.c 0,x.c 1,x.c 2,x.c 3,x.c 4,x.c 5,x.c 6,x.c 7,x.c 8,x.c 9,x.c 10]
abbrev a2o(l:List Atm):PV:=psl 11 Atm.c l
def aq0 (l:List Atm):Nat->PV
 |0=>.raw (.int .i64 2)
 |1=>a2o l
 |_=>.any
abbrev a7r(l:List Atm):PC:=.agg [.raw (.int .i64 2),a2o l]
abbrev b76(L:List (List Atm)):PV:=psl 2 aq0 L
def zq {α:Type} [Inhabited α] {wr wr':Bool} {e:TypeId} {c:α->Nat->PV} {l l':List α} {x:α} {g:Nat->Nat->PV} (h:l'=l++[x]) (h0:CoP (g 0 0) (c x 0)) (h1:CoP (g 0 1) (c x 1)) (h2:CoP (g 0 2) (c x 2)) (h3:CoP (g 0 3) (c x 3)) (h4:CoP (g 0 4) (c x 4)) (h5:CoP (g 0 5) (c x 5)) (h6:CoP (g 0 6) (c x 6)) (h7:CoP (g 0 7) (c x 7)) (h8:CoP (g 0 8) (c x 8)) (h9:CoP (g 0 9) (c x 9)) (h10:CoP (g 0 10) (c x 10)) (hw:wr'=true->wr=true:=by exact fun h=>h) :
 CoO (.arr wr 11 e (l.length+1) (f3 l.length (lf c l) g)) (.arr wr' 11 e l'.length (lf c l')) :=
 a7a h (fun j hj=>by
  match j,hj with
  |0,_=>exact h0
  |1,_=>exact h1
  |2,_=>exact h2
  |3,_=>exact h3
  |4,_=>exact h4
  |5,_=>exact h5
  |6,_=>exact h6
  |7,_=>exact h7
  |8,_=>exact h8
  |9,_=>exact h9
  |10,_=>exact h10
  |j+11,hj=>exact absurd hj bpw) rfl hw
def b44 {cl:Bool} {l:List Atm} {x:Atm} {g:Nat->Nat->PV} (h0:CoP (g 0 0) (x.c 0)) (h1:CoP (g 0 1) (x.c 1)) (h2:CoP (g 0 2) (x.c 2)) (h3:CoP (g 0 3) (x.c 3)) (h4:CoP (g 0 4) (x.c 4)) (h5:CoP (g 0 5) (x.c 5)) (h6:CoP (g 0 6) (x.c 6)) (h7:CoP (g 0 7) (x.c 7)) (h8:CoP (g 0 8) (x.c 8)) (h9:CoP (g 0 9) (x.c 9)) (h10:CoP (g 0 10) (x.c 10)):CoP (.sl (l.length+1) 11 cl (f3 l.length (lf Atm.c l) g)) (a2o (l++[x])) :=
 ap3 (l':=[x]) rfl rfl (fun i j hi hj=>CoP.refl _) (fun i j hi hj=>by
  obtain rfl:i=0:=by omega
  match j,hj with
  |0,_=>exact h0
  |1,_=>exact h1
  |2,_=>exact h2
  |3,_=>exact h3
  |4,_=>exact h4
  |5,_=>exact h5
  |6,_=>exact h6
  |7,_=>exact h7
  |8,_=>exact h8
  |9,_=>exact h9
  |10,_=>exact h10
  |j+11,hj=>exact absurd hj bpw)
section
variable {X Y:List Nat}{i:Nat}
def ab8{k:Nat}:oz X Y i++s6 X Y i (k+1)=(oz X Y i++s6 X Y i k)++[a0a X Y i k]:=by rw[avm,bn6]
def av5:s6 X Y i 0=[]:=rfl
def asu {k:Nat} (hi:i<=9) (hk:k<=8) (hY:Y.length<=8):(oz X Y i++s6 X Y i k).length<=80:=by
 have h1:=ahp (X:=X) (Y:=Y) (i:=i);have h2:=al4 (X:=X) (Y:=Y) (i:=i) (k:=k);have h3:i*Y.length<=9*8:=bp1 hi hY;rw[bm2];omega
def ve(X Y:List Nat)(i k:Nat):List Atm:=ta X i++(Y.take k).map a5d
def an5:ve X Y i 0=ta X i:=by simp[ve]
def abx{k:Nat}(h:k<Y.length):ve X Y i (k+1)=ve X Y i k++[a5d (Y.getD k default)]:=by unfold ve;rw[ow h,bn7,bn6];rfl
def afg{k:Nat}(hi:i<=X.length):(ve X Y i k).length<=i+1+k:=al7 hi
def ab2:a6 bqh 64:=wgx Tryz.func64
def aqx (v a:Nat):a7 bqh 64 [pI v,pI a] (af [(⟨v,a⟩:Tm).pc]):=by
 refine hpx (nt:=8) Tryz.func64 ?_;refine sx7 ?_;refine m9 0 ?_;refine v_8 ?_;exact CoL.refl _
def akq:a6 bqh 63:=wgx Tryz.func63
def ajl (op a:Nat):a7 bqh 63 [pI op,pI a] (af [(⟨⟨1,a⟩,op,⟨2,a⟩⟩:Atm).pc]):=by
 refine hpx (nt:=11) Tryz.func63 ?_;refine sx7 ?_;refine m9 0 ?_;refine w_4 ?_;refine qcx ab2 (aqx 1 a) ?_;refine w_2 ?_;refine qcx ab2 (aqx 2 a) ?_;refine v_3 ?_;exact CoL.refl _
def b8a:a6 bqh 61:=wgx Tryz.func61
def bdn (n:Nat) (hn:n<=16):a7 bqh 61 [pI n] (af [pB true]):=by
 refine hpx (nt:=9) Tryz.func61 ?_;refine w_9 ?_;refine am rfl rfl ?_ ?_<;>intro r0
 ·
  have h0:=tz1 r0;(iterate 2 refine qy ?_ (hg:=(gtt r0)));refine w_3 ?_
  exact hx8 rfl rfl rfl (⟨ccb (by simp_all;omega),trivial⟩)
 have h0:=tz2 r0;exfalso
 first|omega|(simp_all;done)|(simp_all;omega)
set_option maxHeartbeats 2000000
def b8l:a6 bqh 20:=wgx Tryz.func20
def bbg(n:Nat)(X Y:List Nat)(hn:n<=16)(hX:∀a∈X,a<n)(hY:∀a∈Y,a<n)(hX8:X.length<=8)(hY8:Y.length<=8):a7 bqh 20 [pI n,wj X Y] (af [pP (b76 (aal (ai X) (ai Y))),pI 0]):=by
 refine hpx (nt:=114) Tryz.func20 ?_;have hxl:=bme (ut (l:=X)) hX8;have hyl:=bme (ut (l:=Y)) hY8;refine sx7 ?_;refine m9 0 ?_;refine w_7 ?_;refine qcx b8a (bdn n hn) ?_;refine w_4 ?_;refine qcx a4x (aay n X Y hX hY hX8 hY8) ?_;refine w_8 ?_;refine qcx bco (bar X Y hX8 hY8) ?_;refine w_3 ?_;refine c8 3 rfl rfl rfl ?_;refine l5 ?_;refine cr 6 900 true 2 81 (lf aq0 []) bq4 rfl (CoP.sl rfl (.inr rfl) (fun h=>h) (fun i j hi _=>absurd hi (bm6 i))) (.inr rfl) rfl ?_;refine c7 (ka 3 (ka 28 kn)) km (fun i=>⟨[(6,some (.v (.one (.ref 900 (oz (ai X) (ai Y) i).length)))),(29,some (vI i))],[(900,some (.arr true 2 81 (oz (ai X) (ai Y) i).length (lf aq0 (oz (ai X) (ai Y) i))))]⟩) ((ai X).length+1) kk ?_;rintro i hi;refine w_5 ?_;refine hcd ?_ ?_<;>intro h0
 ·
  have hil:i<=(ai X).length:=by omega
  refine tg ?_;refine c7 (ka 3 (ka 7 (ka 28 (ka 29 (ka 34 kn))))) km (fun j=>⟨[(6,some (.v (.one (.ref 900 (oz (ai X) (ai Y) i++s6 (ai X) (ai Y) i j).length)))),(35,some (vI j))],[(900,some (.arr true 2 81 (oz (ai X) (ai Y) i++s6 (ai X) (ai Y) i j).length (lf aq0 (oz (ai X) (ai Y) i++s6 (ai X) (ai Y) i j))))]⟩) ((ai Y).length) ⟨⟨⟨_,rfl,(by rw[av5,bmv];exact CoR.refl _)⟩,tt⟩,⟨⟨_,rfl,(by rw[av5,bmv];exact CoO.refl _)⟩,trivial⟩⟩ ?_;rintro j hj;refine w_5 ?_;refine hcd ?_ ?_<;>intro h1
  ·
   have hjl:j<(ai Y).length:=by omega
   have htl:=asu (X:=(ai X)) (Y:=(ai Y)) (i:=i) (k:=j) bpw bpw hyl;refine jb ?_;refine m9 1 ?_;refine w_4 ?_;refine ik 1 1 901 true 11 145 (lf Atm.c []) bq4 rfl rfl (CoP.sl rfl (.inr rfl) (fun h=>h) (fun i j hi _=>absurd hi (bm6 i))) (.inr rfl) rfl rfl ?_;refine w_9 ?_;refine c7 (ka 3 (ka 6 (ka 7 (ka 8 (ka 9 (ka 28 (ka 29 (ka 34 (ka 35 (ka 42 (ka 43 kn))))))))))) (kb 900 km) (fun k=>⟨[(44,some (vI k))],[(1,some (.box [.p (.raw (.int .i64 2)), .ref 901 (uo (ai X) k).length])),(901,some (.arr true 11 145 (uo (ai X) k).length (lf Atm.c (uo (ai X) k))))]⟩) i kk ?_;rintro k hk;refine w_5 ?_;refine hcd ?_ ?_<;>intro h2
   ·
    have hki:k<i:=by have hz:=h2;simp only[eo,c5]at hz;omega
    have hkx:k<(ai X).length:=by omega
    have hdl:=aa5 (X:=(ai X)) (Nat.le_of_lt hkx);refine l5 ?_;refine qcx akq (ajl 1 ((ai X).getD k default)) ?_;refine m9 2 ?_;refine rz9 3 true ?_;refine w_8 ?_;exact lpx (k+1) ⟨tt,⟨⟨_,rfl,⟨CoP.refl _,congrArg (HV.ref 901) (by rw[ag8 hkx,bm2];rfl),trivial⟩⟩,⟨_,rfl,(zq (ag8 hkx) (CoP.refl _) (CoP.refl _) (CoP.refl _) (CoP.refl _) (CoP.refl _) (CoP.refl _) (CoP.refl _) (CoP.refl _) (CoP.refl _) (CoP.refl _) (CoP.refl _))⟩,uu⟩⟩
   obtain rfl:i=k:=by have hz:=h2;simp only[eo,c5]at hz;omega
   refine dz ?_;refine yy (ka 3 (ka 6 (ka 7 (ka 8 (ka 9 (ka 28 (ka 29 (ka 34 (ka 35 kn))))))))) (kb 900 km) ⟨[],[(1,some (.box [.p (.raw (.int .i64 2)), .ref 901 (ta (ai X) i).length])),(901,some (.arr true 11 145 (ta (ai X) i).length (lf Atm.c (ta (ai X) i))))]⟩ ?_ ?_
   ·
    refine w_8 ?_;refine hcd ?_ ?_<;>intro h3
    ·
     have hix:i<(ai X).length:=by have hz:=h3;omega
     have hd2:=bal hix;have hdl:=aa5 (X:=(ai X)) hil;refine w_8 ?_;refine qcx akq (ajl 3 ((ai X).getD i default)) ?_;refine m9 4 ?_;refine rz9 5 true ?_;refine w_4 ?_;exact⟨tt,⟨⟨_,rfl,(by first|exact⟨CoP.refl _,congrArg (HV.ref 901) (by rw[hd2,bm2];rfl),trivial⟩|(rw[hd2];exact CoO.refl _))⟩,⟨_,rfl,(by first|exact(zq (hd2) (CoP.refl _) (CoP.refl _) (CoP.refl _) (CoP.refl _) (CoP.refl _) (CoP.refl _) (CoP.refl _) (CoP.refl _) (CoP.refl _) (CoP.refl _) (CoP.refl _))|(rw[hd2];exact CoO.refl _))⟩,uu⟩⟩
    have hix:¬i<(ai X).length:=by have hz:=h3;omega
    have hd2:=b7y hix;refine ej ?_;exact⟨tt,⟨⟨_,rfl,(by first|exact⟨CoP.refl _,congrArg (HV.ref 901) (by rw[hd2,bm2];rfl),trivial⟩|(rw[hd2];exact CoO.refl _))⟩,⟨_,rfl,(by first|exact(zq (hd2) (CoP.refl _) (CoP.refl _) (CoP.refl _) (CoP.refl _) (CoP.refl _) (CoP.refl _) (CoP.refl _) (CoP.refl _) (CoP.refl _) (CoP.refl _) (CoP.refl _))|(rw[hd2];exact CoO.refl _))⟩,uu⟩⟩
   refine jb ?_;refine c7 (ka 3 (ka 6 (ka 7 (ka 8 (ka 9 (ka 28 (ka 29 (ka 34 (ka 35 (ka 75 (ka 76 kn))))))))))) (kb 900 km) (fun k=>⟨[(77,some (vI k))],[(1,some (.box [.p (.raw (.int .i64 2)), .ref 901 (ve (ai X) (ai Y) i k).length])),(901,some (.arr true 11 145 (ve (ai X) (ai Y) i k).length (lf Atm.c (ve (ai X) (ai Y) i k))))]⟩) j ⟨tt,⟨⟨_,rfl,(by rw[an5];exact CoO.refl _)⟩,⟨_,rfl,(by rw[an5];exact CoO.refl _)⟩,trivial⟩⟩ ?_;rintro k hk;refine w_5 ?_;refine hcd ?_ ?_<;>intro h4
   ·
    have hkj:k<j:=by have hz:=h4;simp only[eo,c5]at hz;omega
    have hky:k<(ai Y).length:=by omega
    have hdl:=afg (Y:=(ai Y)) (k:=k) hil;refine l5 ?_;refine qcx akq (ajl 1 ((ai Y).getD k default)) ?_;refine m9 6 ?_;refine rz9 7 true ?_;refine w_8 ?_;exact lpx (k+1) ⟨tt,⟨⟨_,rfl,⟨CoP.refl _,congrArg (HV.ref 901) (by rw[abx hky,bm2];rfl),trivial⟩⟩,⟨_,rfl,(zq (abx hky) (CoP.refl _) (CoP.refl _) (CoP.refl _) (CoP.refl _) (CoP.refl _) (CoP.refl _) (CoP.refl _) (CoP.refl _) (CoP.refl _) (CoP.refl _) (CoP.refl _))⟩,uu⟩⟩
   obtain rfl:j=k:=by have hz:=h4;simp only[eo,c5]at hz;omega
   have hdl:=afg (Y:=(ai Y)) (k:=j) hil;refine eu ?_;refine qcx ab2 (aqx 2 ((ai Y).getD j default)) ?_;refine w_5 ?_;refine qcx ab2 (aqx 1 ((ai Y).getD j default)) ?_;refine qy ?_;refine m9 8 ?_;refine rz9 9 true ?_;refine w_4 ?_;refine j2 1 1 rfl rfl rfl rfl rfl ?_;refine w_3 ?_;refine m9 10 ?_;refine rz9 11 true ?_;refine w_6 ?_;exact lpx (j+1) ⟨⟨⟨_,rfl,(bj ab8)⟩,tt⟩,⟨⟨_,rfl,(p8 ab8 (CoP.refl _) (by show CoP _ (a2o ((ve (ai X) (ai Y) i j)++[ahk ((ai Y).getD j default)]));exact b44 (CoP.refl _) (CoP.refl _) (CoP.refl _) (CoP.refl _) (CoP.refl _) (CoP.refl _) (CoP.refl _) (CoP.refl _) (CoP.refl _) (CoP.refl _) (CoP.refl _)))⟩,trivial⟩⟩
  obtain rfl:j=(ai Y).length:=by omega
  refine w_5 ?_;exact lpx (i+1) ⟨⟨⟨_,rfl,(by rw[a6g];exact CoR.refl _)⟩,tt⟩,⟨⟨_,rfl,(by rw[a6g];exact CoO.refl _)⟩,trivial⟩⟩
 obtain rfl:i=(ai X).length+1:=by omega
 refine w_2 ?_;refine be 6 rfl rfl rfl ?_;refine v_5 ?_;exact⟨CoC.refl _,CoC.refl _,trivial⟩
end
end
section
open Go.Proofs
def b4x:a6 bqh 220:=wgx Tryz.func220
def be5(l:List Atm)(g k:Nat)(caps:Nat->PV)(V:Atm->Bool)(hg:a6 bqh g)(hV:∀x∈l,a7 bqh g (x.pc::er caps k 0) (af [pB (V x)])):a7 bqh 220 [pP (a2o l),pP (.fn g k caps)] (af [pI (idx V l)]):=by
 refine hpx (nt:=19) Tryz.func220 ?_;refine eq ?_;refine fp 0 rfl fun hn=>?_;refine w_3 ?_;refine dn (ι:=Unit) kn km (fun _i=>⟨[],[]⟩) (fun _i=>idx V l=-1) ?_ ?_
 ·
  refine w_7 ?_;refine ar (ι:=Nat) (ka 0 (ka 1 (ka 7 kn))) km (fun i=>⟨[(8,some (vI i))],[]⟩) (fun i=>i<=l.length/\(∀j,j<i->V (l.getD j default)=false)) (fun i=>l.length-i) (0) (⟨bm3 _,e9⟩) kk ?_;rintro i ⟨hi,hIi⟩;refine w_5 ?_;refine hcd ?_ ?_<;>intro h0
  ·
   refine jd ?_;refine rc rfl rfl rfl rfl rfl rfl hg (hV (l.getD i default) (by rw[al _ _ bpw];exact bma _)) (CoL.refl _) rfl rfl ?_;refine d5 ?_;refine hcb ?_ ?_<;>intro h1
   · refine v_5 ?_;exact⟨cci (qx (i:=i) bpw hIi bpx).symm,trivial⟩
   refine w_5 ?_;refine lpz (i+1) kk ?_;exact⟨by show i+1<=_;omega,da hIi bpx⟩
  refine dz ?_;refine⟨(), ?_, ?_⟩
  · exact qv fun j hj=>hIi j bpw
  exact⟨trivial,trivial⟩
 rintro _ hj;refine v_4 ?_;exact⟨cci hj.symm,trivial⟩
def b29:a6 bqh 185:=wgx Tryz.func185
def bdc (l:List Atm) (g k:Nat) (caps:Nat->PV) (V:Atm->Bool) (hg:a6 bqh g) (hV:∀x∈l,a7 bqh g (x.pc::er caps k 0) (af [pB (V x)])):a7 bqh 185 [pP (a2o l),pP (.fn g k caps)] (af [pB (l.any V)]):=by
 refine hpx (nt:=9) Tryz.func185 ?_;refine w_8 ?_;refine qcx b4x (be5 l g k caps V hg hV) ?_;refine v_3 ?_;exact⟨ccb vw,trivial⟩
def aou:a6 bqh 187:=wgx Tryz.func187
def avf(n m:Nat)(x:Tm)(h1:1<=x.v)(h2:x.v<=m)(h3:x.a<n):a7 bqh 187 [pI n,pI m,x.pc] (af [pB true]):=by
 refine hpx (nt:=44) Tryz.func187 ?_;refine sx7 ?_;refine m9 0 ?_;refine w_9 ?_;refine hcd ?_ ?_<;>intro h0
 ·
  exfalso
  first|omega|(simp_all;done)|(simp_all;omega)
 refine w_7 ?_;refine am rfl rfl ?_ ?_<;>intro r1
 ·
  have h1:=tz1 r1;(iterate 4 refine qy ?_ (hg:=(gtt r1)));refine w_2 ?_;refine am rfl rfl ?_ ?_<;>intro r2
  ·
   have h2:=tz1 (bp r1 r2);(iterate 3 refine qy ?_ (hg:=(gtt r2)));refine w_2 ?_;refine am rfl rfl ?_ ?_<;>intro r3
   ·
    have h3:=tz1 (bp r2 r3);(iterate 4 refine qy ?_ (hg:=(gtt r3)));refine w_2 ?_;refine am rfl rfl ?_ ?_<;>intro r4
    ·
     have h4:=tz1 (bp r3 r4);(iterate 4 refine qy ?_ (hg:=(gtt r4)));refine w_3 ?_
     exact hx8 rfl rfl rfl (⟨ccb (by simp_all [Tm.c]),trivial⟩)
    have h4:=tz2 (bp r3 r4);exfalso
    first|omega|(simp_all;done)|(simp_all;omega)
   have h3:=tz2 (bp r2 r3);exfalso
   first|omega|(simp_all;done)|(simp_all;omega)
  have h2:=tz2 (bp r1 r2);exfalso
  first|omega|(simp_all;done)|(simp_all;omega)
 have h1:=tz2 r1;exfalso
 first|omega|(simp_all;done)|(simp_all;omega)
def b5l:a6 bqh 186:=wgx Tryz.func186
def b8n (n:Nat) (l:List Atm) (x:Atm) (h:uk n 2 x):a7 bqh 186 [x.pc,pP (bx (.raw (.int .i64 (n:Int)))),pP (PV.vp 2 fun j=>[PV.raw (.int .i64 2),a2o l].getD j .any)] (af [pB false]):=by
 refine hpx (nt:=31) Tryz.func186 ?_;obtain⟨g1,g2,⟨g3,g4,g5⟩,g6,g7,g8⟩:=h;refine sx7 ?_;refine m9 0 ?_;refine w_8 ?_;refine am rfl rfl ?_ ?_<;>intro r0
 ·
  have h0:=tz1 r0;exfalso
  first|omega|(simp_all;done)|(simp_all;omega)
 have h0:=tz2 r0;(iterate 3 refine qy ?_ (hg:=(gff r0)));refine w_2 ?_;refine am rfl rfl ?_ ?_<;>intro r1
 ·
  have h1:=tz1 (ca r0 r1);exfalso
  first|omega|(simp_all;done)|(simp_all;omega)
 have h1:=tz2 (ca r0 r1);(iterate 5 refine qy ?_ (hg:=(gff r1)));refine qcx aou (avf n 2 x.l g3 g4 g5) ?_ (hg:=(gff r1));refine qy ?_ (hg:=(gff r1));refine w_2 ?_;refine am rfl rfl ?_ ?_<;>intro r2
 ·
  have h2:=dc (ca r1 r2);exfalso
  first|omega|(simp_all;done)|(simp_all;omega)
 have h2:=df (ca r1 r2);(iterate 5 refine qy ?_ (hg:=(gff r2)));refine qcx aou (avf n 2 x.r g6 g7 g8) ?_ (hg:=(gff r2));refine qy ?_ (hg:=(gff r2));refine w_3 ?_
 exact hx8 rfl rfl rfl (⟨ccb (by simp_all),trivial⟩)
def b5f:a6 bqh 120:=wgx Tryz.func120
def bej (n:Nat) (l:List Atm) (hl:l.length<=20) (hok:∀x∈l,uk n 2 x):a7 bqh 120 [pI n,a7r l] (af [pB true]):=by
 refine hpx (nt:=24) Tryz.func120 ?_;refine sx7 ?_;refine m9 0 ?_;refine m9 1 ?_;refine as1 ?_;refine hcd ?_ ?_<;>intro h0
 ·
  exfalso
  first|omega|(simp_all;done)|(simp_all;omega)
 refine w_2 ?_;refine c8 2 rfl rfl rfl ?_;refine c8 3 rfl rfl rfl ?_;refine w_4 ?_;refine qcx b29 (bdc l 186 2 (fun j=>[bx (.raw (.int .i64 (n:Int))),PV.vp 2 fun j=>[PV.raw (.int .i64 2),a2o l].getD j .any].getD j .any) (fun _=>false) b5l (fun x hx=>b8n n l x (hok x hx))) ?_;refine v_3 ?_;exact⟨ccb bpz,trivial⟩
def bb8:a6 bqh 65:=wgx Tryz.func65
def bg9 (t:Tbl) (l:List Atm) (hT:TOk t) (hl:l.length<=20) (hok:∀x∈l,uk t.attrs.length 2 x):a7 bqh 65 [t.pc,a7r l] (af [pI 0]):=by
 refine hpx (nt:=28) Tryz.func65 ?_;refine sx7 ?_;refine m9 0 ?_;refine m9 1 ?_;refine w_6 ?_;refine qcx a16 (a1l hT) ?_;refine sb ?_;refine qcx b5f (bej t.attrs.length l hl hok) ?_;refine eu ?_;(iterate 4 refine k9 rfl ?_);refine w_9 ?_
 exact hx8 rfl rfl rfl (CoL.refl _)
def apr:a6 bqh 189:=wgx Tryz.func189
def b0l (R:List Row) (x:Tm) (h1:1<=x.v) (h2:x.v<=R.length) (hm:R.length<=1000) (h3:x.a<(R.getD (x.v-1) default).vals.length):a7 bqh 189 [pP (rows R),x.pc] (af [(mq R x).pc]):=by
 refine hpx (nt:=21) Tryz.func189 ?_;have hv:((x.v:Int)-1).toNat=x.v-1:=by omega
 have h3b:x.a<(R.getD ((x.v:Int)-1).toNat default).vals.length:=by rw[hv];exact h3
 refine sx7 ?_;refine m9 0 ?_;refine m9 1 ?_;refine w_8 ?_;refine hcd ?_ ?_<;>intro h0
 ·
  exfalso
  first|omega|(simp_all;done)|(simp_all;omega)
 refine w_6 ?_;refine rq rfl rfl rfl rfl rfl ?_ (hp:=(by show inR .i64 ((x.v:Int)-1);simp only[inR,l8,ml];omega));refine rq rfl rfl rfl rfl rfl ?_ (hp:=⟨rfl,(by show(0:Int)<=(x.v:Int)-1;omega),(by show(x.v:Int)-1<((R.length:Nat):Int);omega)⟩);refine w_4 ?_;refine rq rfl rfl rfl rfl rfl ?_ (hp:=⟨rfl,bni _,bos.2 h3b⟩);refine v_4 ?_;exact⟨CoC.of_eq (by unfold mq;rw[<- hv];rfl),trivial⟩
section
variable {R:List Row}
def abd{x:Atm}(h:x.op=1):og R x=decide (j9 (mq R x.l) (mq R x.r)=0):=if_pos h
def ac3{x:Atm}(h:x.op=2):og R x=decide (¬j9 (mq R x.l) (mq R x.r)=0):=by unfold og;rw[if_neg bpw,if_pos h]
def ac0{x:Atm}(h:x.op=3):og R x=decide (j9 (mq R x.l) (mq R x.r)<0):=by unfold og;rw[if_neg bpw,if_neg bpw,if_pos h]
def ab6{x:Atm}(h:x.op=4):og R x=decide (j9 (mq R x.l) (mq R x.r)<=0):=by unfold og;rw[if_neg bpw,if_neg bpw,if_neg bpw,if_pos h]
def b59 {l:List Atm} {i:Nat} (hi:i<l.length) (h:og R (l.getD i default)=false):j0 R l=false:=by
 unfold j0;rw[bo1];exact⟨l.getD i default,by rw[al _ _ hi];exact bma _,by rw[h];exact Bool.false_ne_true⟩
def axe {l:List Atm} (h:∀j,j<l.length->og R (l.getD j default)=true):j0 R l=true:=by
 unfold j0;rw[bms];intro x hx;obtain⟨j,hj,rfl⟩:=bmj hx;have:=h j hj;rwa [al _ _ hj]at this
def b3t:a6 bqh 121:=wgx Tryz.func121
def bfn(n:Nat)(R:List Row)(l:List Atm)(hm:R.length<=1000)(hR:∀i,i<R.length->(R.getD i default).vals.length=n)(hok:∀x∈l,uk n R.length x):a7 bqh 121 [pP (rows R),pP (a2o l)] (af [pB (j0 R l)]):=by
 refine hpx (nt:=45) Tryz.func121 ?_;refine w_6 ?_;refine fp 1 rfl fun hn=>?_;refine w_6 ?_;refine ar (ι:=Nat) (ka 0 (ka 9 (ka 10 kn))) km (fun i=>⟨[(11,some (vI i))],[]⟩) (fun i=>i<=l.length/\(∀j,j<i->og R (l.getD j default)=true)) (fun i=>l.length-i) (0) (⟨bm3 _,e9⟩) kk ?_;rintro i ⟨hi,hIi⟩;refine w_5 ?_;refine hcd ?_ ?_<;>intro h0
 ·
  have hil:i<l.length:=by omega
  obtain⟨g1,g2,⟨g3,g4,g5⟩,g6,g7,g8⟩:=hok (l.getD i default) (by rw[al _ _ bpw];exact bma _);refine w_7 ?_;refine m9 0 ?_;refine w_7 ?_;refine qcx apr (b0l R (l.getD i default).l g3 g4 hm (by rw[hR _ bpw];exact g5)) ?_;refine w_3 ?_;refine qcx apr (b0l R (l.getD i default).r g6 g7 hm (by rw[hR _ bpw];exact g8)) ?_;refine qcx xq (xk (mq R (l.getD i default).l) (mq R (l.getD i default).r)) ?_;refine w_7 ?_;refine yy (ka 0 (ka 9 (ka 10 (ka 11 kn)))) km ⟨[(8,some (.v (.one (.p (.raw (.bool (og R (l.getD i default))))))))],[]⟩ ?_ ?_
  ·
   refine jb ?_;refine hcd ?_ ?_<;>intro h1
   ·
    have ho:(l.getD i default).op=1:=by have hz:=h1;omega
    refine w_5 ?_;exact⟨⟨⟨_,rfl,(by first|exact cob (abd ho).symm|exact cob (by rw[ac3 ho];simp)|exact cob (ac0 ho).symm|exact cob (ab6 ho).symm)⟩,tt⟩,trivial⟩
   refine w_5 ?_;refine hcd ?_ ?_<;>intro h2
   ·
    have ho:(l.getD i default).op=2:=by have hz:=h2;omega
    refine w_5 ?_;exact⟨⟨⟨_,rfl,(by first|exact cob (abd ho).symm|exact cob (by rw[ac3 ho];simp)|exact cob (ac0 ho).symm|exact cob (ab6 ho).symm)⟩,tt⟩,trivial⟩
   refine w_5 ?_;refine hcd ?_ ?_<;>intro h3
   ·
    have ho:(l.getD i default).op=3:=by have hz:=h3;omega
    refine w_5 ?_;exact⟨⟨⟨_,rfl,(by first|exact cob (abd ho).symm|exact cob (by rw[ac3 ho];simp)|exact cob (ac0 ho).symm|exact cob (ab6 ho).symm)⟩,tt⟩,trivial⟩
   refine w_5 ?_;refine hcd ?_ ?_<;>intro h4
   ·
    have ho:(l.getD i default).op=4:=by have hz:=h4;omega
    refine w_5 ?_;exact⟨⟨⟨_,rfl,(by first|exact cob (abd ho).symm|exact cob (by rw[ac3 ho];simp)|exact cob (ac0 ho).symm|exact cob (ab6 ho).symm)⟩,tt⟩,trivial⟩
   exfalso
   first|omega|(simp_all;done)|(simp_all;omega)
  refine w_5 ?_;refine aw _ rfl ?_ ?_<;>intro r5
  ·
   have h5:=dc r5;have hq:og R (l.getD i default)=false:=by simpa using r5
   refine v_4 ?_;exact⟨ccb (b59 hil hq).symm,trivial⟩
  have h5:=df r5;have hq:og R (l.getD i default)=true:=by simpa using r5
  refine w_5 ?_;refine lpz (i+1) kk ?_;exact⟨by show i+1<=_;omega,da hIi (hq)⟩
 obtain rfl:i=l.length:=by omega
 refine v_5 ?_;exact⟨ccb (axe hIi).symm,trivial⟩
end
end
section
open Go.Proofs
def ani {n:Int} {l:List Fd} (hv:cn n l=0):a7 bqh 127 [pI n,pP (fdl l)] (af [pI 0]):=by
 have h:=ac8 n l;rw[hv]at h;exact h
def b2c:a6 bqh 195:=wgx Tryz.func195
def bhb(l:List Fd)(s:AS):a7 bqh 195 [pP (fdl l),pA s] (af [pI (ar6 l s)]):=by
 refine hpx (nt:=28) Tryz.func195 ?_;refine w_6 ?_;refine fp 0 rfl fun hn=>?_;refine w_6 ?_;refine ar (ι:=Nat) (ka 1 (ka 7 (ka 8 kn))) km (fun i=>⟨[(9,some (vI i))],[]⟩) (fun i=>i<=l.length/\(∀j,j<i->a9f s (l.getD j default)=false)) (fun i=>l.length-i) (0) (⟨bm3 _,e9⟩) kk ?_;rintro i ⟨hi,hIi⟩;refine w_5 ?_;refine hcd ?_ ?_<;>intro h0
 ·
  refine w_8 ?_;refine m9 0 ?_;refine jb ?_;refine am rfl rfl ?_ ?_<;>intro r1
  ·
   have h1:=tz1 r1;(iterate 5 refine qy ?_ (hg:=(gtt r1)));refine w_2 ?_;refine aw _ rfl ?_ ?_<;>intro r2
   · have h2:=tz2 (dc (bp r1 r2));refine v_5 ?_;exact⟨cci (qx (p:=a9f s) (i:=i) bpw hIi (by unfold a9f;simp_all [gv])).symm,trivial⟩
   have h2:=tz1 (df (bp r1 r2));refine w_5 ?_;refine lpz (i+1) kk ?_;exact⟨by show i+1<=_;omega,da hIi (by unfold a9f;simp_all [gv])⟩
  have h1:=tz2 r1;(iterate 5 refine k9 (gft r1) ?_);refine w_8 ?_;refine lpz (i+1) kk ?_
  exact⟨by show i+1<=_;omega,da hIi (by unfold a9f;simp_all [gv])⟩
 refine v_5 ?_;exact⟨cci (qv (p:=a9f s) fun j hj=>hIi j bpw).symm,trivial⟩
def b5v:a6 bqh 133:=wgx Tryz.func133
def b4c(n:Nat)(l:List Fd)(hn:n<=12)(hv:cn n l=0):a7 bqh 133 [pI (n:Int),pP (fdl l)] (af [pP (asl (en l n)),pI 0]):=by
 refine hpx (nt:=45) Tryz.func133 ?_;have hsl:=vz (ah (n:Int));have h0z:(0:Int)<=(n:Int):=by omega
 have h1z:(n:Int)<=16:=by omega
 refine l6 ?_;refine am rfl rfl ?_ ?_<;>intro r0
 ·
  have h0:=tz1 r0;(iterate 2 refine k9 (gtf r0) ?_);refine w_9 ?_;refine hrr ?_
  omega
 have h0:=tz2 r0;(iterate 2 refine qy ?_ (hg:=(gff r0)));refine w_3 ?_;refine aw _ rfl ?_ ?_<;>intro r1
 · have h1:=tz1 (ca r0 r1);exfalso;simp_all;omega
 have h1:=tz2 (ca r0 r1);refine w_6 ?_;refine hcd ?_ ?_<;>intro h2
 · exfalso;omega
 refine w_6 ?_;refine qcx a1m (ani hv) ?_;refine aam ?_;refine rq rfl rfl rfl rfl rfl ?_ (hp:=⟨uv h0z h1z,sy h0z h1z⟩);refine rc rfl rfl rfl rfl rfl rfl ak5 (b1i (ah (n:Int))) (⟨cci (wa h0z h1z),trivial⟩) rfl rfl ?_;refine w_4 ?_;refine cr 7 900 true 1 35 (lf sC []) bq4 rfl (CoP.sl rfl (.inr rfl) (fun h=>h) (fun i j hi _=>absurd hi (bm6 i))) (.inr rfl) rfl ?_;refine c7 (ka 1 (ka 29 (ka 30 kn))) km (fun i=>⟨[(7,some (.v (.one (.ref 900 (vt l (n:Int) i).length)))),(31,some (vI i))],[(900,some (.arr true 1 35 (vt l (n:Int) i).length (lf sC (vt l (n:Int) i))))]⟩) ((ct (ah (n:Int))).length) kk ?_;rintro i hi;have hcl:=ata (l:=l) (n:=(n:Int)) (i:=i);refine w_5 ?_;refine hcd ?_ ?_<;>intro h3
 ·
  refine l5 ?_;refine qcx b2c (bhb l ((ct (ah (n:Int))).getD i default)) ?_;refine w_2 ?_;refine hcd ?_ ?_<;>intro h4
  ·
   refine w_3 ?_;refine m9 0 ?_;refine rz9 1 true ?_;refine w_6 ?_
   first | (refine lpz (i+1) ⟨⟨⟨_, rfl, (bj (a73 bpw bpx))⟩, tt⟩, ⟨⟨_, rfl, (bm (a73 bpw bpx) (CoP.refl _))⟩, trivial⟩⟩ ?_; show i+1<=_; omega)
         |(refine lpz (i+1) ⟨⟨⟨_,rfl,(bo (a6t bpw bpx))⟩,tt⟩,⟨⟨_,rfl,(bf (a6t bpw bpx))⟩,trivial⟩⟩ ?_;show i+1<=_;omega)
  refine w_5 ?_
  first | (refine lpz (i+1) ⟨⟨⟨_, rfl, (bj (a73 bpw bpx))⟩, tt⟩, ⟨⟨_, rfl, (bm (a73 bpw bpx) (CoP.refl _))⟩, trivial⟩⟩ ?_; show i+1<=_; omega)
        |(refine lpz (i+1) ⟨⟨⟨_,rfl,(bo (a6t bpw bpx))⟩,tt⟩,⟨⟨_,rfl,(bf (a6t bpw bpx))⟩,trivial⟩⟩ ?_;show i+1<=_;omega)
 obtain rfl:i=(ct (ah (n:Int))).length:=by omega
 refine w_2 ?_;refine be 7 rfl rfl rfl ?_;refine v_5 ?_;exact⟨CoC.one (CoP.of_eq (by rw[auq];rfl)),CoC.refl _,trivial⟩
end
end Go.Hx
