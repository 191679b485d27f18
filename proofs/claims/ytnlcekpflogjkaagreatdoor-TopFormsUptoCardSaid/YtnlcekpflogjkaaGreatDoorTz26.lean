/- A part of the proof: X13 Ch10 Ch11 Ch12 Ch13 X15 Ch14 Ch19 Ch20 Ch21 Cc1 Cc2 Cc3 Ls1. -/
import Derived.Test.YtnlcekpflogjkaaGreatDoorTz25
set_option linter.all false
set_option maxRecDepth 100000
namespace Go.Hx
section
open Go.Proofs
def bfh(n:Int)(ps:List AS):a7 bxr 98 [pI n,pP (asl ps)] (ae [pT (jh n ps).1 (jh n ps).2.1,pI (jh n ps).2.2]):=by
 refine hpx (nt:=73) Tryz.func98 ?_;refine sx7 ?_;refine m9 0 ?_;refine w_9 ?_;refine al rfl rfl ?_ ?_<;>intro r0
 ·
  have h0:=tz1 r0;(iterate 2 refine k9 (gtf r0) ?_);refine cr ?_;refine hrr ?_
  have he:=ani (n:=n) (ps:=ps) bx5;exact f9 rfl rfl (by rw[he];exact⟨CoC.agg ⟨CoP.refl _,m7,trivial⟩,CoC.refl _,trivial⟩)
 have h0:=tz2 r0;(iterate 2 refine qy ?_ (hg:=(gff r0)));refine w_3 ?_;refine ax _ rfl ?_ ?_<;>intro r1
 · have h1:=tz1 (bn r0 r1);refine w_6 ?_;refine hrr ?_;have he:=ani (n:=n) (ps:=ps) bx5;exact f9 rfl rfl (by rw[he];exact⟨CoC.agg ⟨CoP.refl _,m7,trivial⟩,CoC.refl _,trivial⟩)
 have h1:=tz2 (bn r0 r1);refine w_7 ?_;refine hcd ?_ ?_<;>intro h2
 · refine w_6 ?_;refine hrr ?_;have he:=b3y (n:=n) (ps:=ps) bx5 bx5;exact f9 rfl rfl (by rw[he];exact⟨CoC.agg ⟨CoP.refl _,m7,trivial⟩,CoC.refl _,trivial⟩)
 refine w_5 ?_;refine m9 1 ?_;refine w_2 ?_;refine pi 1 1 900 true 1 124 (lf rC (cq n ps)) bxc rfl rfl (CoP.sl rfl (.inr rfl) (fun h=>h) (fun i j hi _=>absurd hi (bt9 i))) (.inr rfl) rfl rfl ?_;refine w_8 ?_;refine am (ι:=Nat) (ka 0 (ka 4 (ka 6 (ka 26 (ka 27 kn))))) (kb 0 km) (fun i=>⟨[(28,some (vI i))],[(1,some (.box [.p (.raw (.int .i64 n)), .ref 900 i])),(900,some (.arr true 1 124 i (lf rC (cq n ps))))]⟩) (fun i=>i<=ps.length/\∀j,j<i->(ps.getD j default)>>>n.toNat=0) (fun i=>ps.length-i) (0) (⟨bt6 _,d5⟩) kk ?_;rintro i ⟨hi,hI⟩;refine w_5 ?_;refine hcd ?_ ?_<;>intro h3
 ·
  have hin:=bqb (n:=n) (i:=i) bx5 bx5 bx5;refine a5u ?_;refine hcn ?_ ?_<;>intro h4
  · refine w_6 ?_;refine hrr ?_;have he:=b5n (n:=n) (ps:=ps) (i:=i) bx5 bx5 bx5 (fun e=>absurd (b85.2 e) bx6);exact f9 rfl rfl (by rw[he];exact⟨CoC.agg ⟨CoP.refl _,m7,trivial⟩,CoC.refl _,trivial⟩)
  refine w_4 ?_;refine m9 2 ?_;refine w_9 ?_;refine bw (ka 0 (ka 4 (ka 6 (ka 7 (ka 8 (ka 9 (ka 26 (ka 27 (ka 28 (ka 40 kn)))))))))) (kb 1 (kb 900 (kb 0 km))) (fun k=>⟨[(41,some (vI k))],[(2,some (.arr true 1 3 n.toNat (lf zC (stT n i (ps.getD i default) k))))]⟩) n.toNat ⟨tt,⟨⟨_,rfl,(apl rfl (fun _=>rfl))⟩,trivial⟩⟩ ?_;rintro k hk;refine w_5 ?_;refine hcd ?_ ?_<;>intro h5
  ·
   refine bp5 ?_;refine hcd ?_ ?_<;>intro h6
   · refine gv ?_;exact lpx (k+1) ⟨tt,⟨⟨_,rfl,(by first|exact b00 ((ve bx5).1 bx6) rfl bx5 bx5|exact axs (fun e=>absurd ((ve bx5).2 e) bx6) rfl bx5)⟩,uu⟩⟩
   refine w_5 ?_;exact lpx (k+1) ⟨tt,⟨⟨_,rfl,(by first|exact b00 ((ve bx5).1 bx6) rfl bx5 bx5|exact axs (fun e=>absurd ((ve bx5).2 e) bx6) rfl bx5)⟩,uu⟩⟩
  refine ek ?_;refine bj 9 rfl rfl rfl ?_;refine w_4 ?_;refine m9 3 ?_;refine r9 4 true ?_;refine w_7 ?_;refine lpz (i+1) ⟨tt,⟨u9,⟨_,rfl,(at4 (fun h=>h) (fun j hj=>by obtain rfl:j=0:=bx5;exact b3e bx5 bx5))⟩,uu⟩⟩ ?_;exact⟨by show i+1<=_;omega,c6 hI (b85.1 bx6)⟩
 obtain rfl:i=ps.length:=by omega
 refine w_4 ?_;refine l6 rfl rfl rfl rfl rfl rfl aik ((agi n (cq n ps) (by rw[zo];omega))) (⟨⟨CoP.refl _,congrArg (HV.ref 900) (zo _ _).symm,trivial⟩,trivial⟩) ⟨⟨_,rfl,jn rfl (zo _ _).symm⟩,trivial⟩ rfl rfl ?_;refine w_3 ?_;refine hrr ?_;have he:=aml (n:=n) (ps:=ps) bx5 bx5 (fun j hj=>hI j bx5);exact f9 rfl rfl (by rw[he];exact CoL.refl _)
end
section
def fc(n:Int):Rw:=(List.range n.toNat).map fun(i:Nat)=>(i:Int)
def adv(n:Int):(fc n).length=n.toNat:=by unfold fc;simp
def b0z {n:Int} {i:Nat} {p:AS} {k:Nat} (h:k<n.toNat):(stR n i p).getD k default=stV n i p k:=by
 unfold stR;rw[bt1,btm,bus h];rfl
def blh {s:AS} {n:Int} (h0:0<=n) (h1:n<=16):sub s (a6 n)<->s>>>n.toNat=0:=by
 unfold a6;rw[bua bx5];exact s8 bx5
def bo1(l:List Rw)(x:Fd)(a b:Nat):Bool:=ov (l.getD a default) (l.getD b default) x.lhs&&!(l.any fun r=>decide (r=ij (l.getD a default) (l.getD b default) x.rhs))
end
section
def Wel(n:Int)(l:List Rw):Prop:=∀r,r∈l->r.length=n.toNat/\∀z,z∈r->0<=z
section
variable {l:List Rw}
def aa2 {i:Nat} (h:i<l.length):l.getD i default∈l:=by
 rw[bt1,bt0 h];exact bti h
def zz {n:Int} (h:tok n l=true):Wel n l:=by
 obtain⟨h0,h1,h2,h3⟩:=sg h;unfold tok at h;rw[bt3,decide_eq_true_iff,decide_eq_true_iff]at h;rintro r hr;obtain⟨i,hi,rfl⟩:=btt hr;have e:l.getD i default=l[i]:=by rw[bt1,bt0 hi];rfl
 rw[<- e];refine⟨h3 i hi,fun z hz=>?_⟩;have:=h.2 i hi;unfold qq at this;rw[bt3,bt3]at this;have h4:=this.1.2;rw[btv,buu]at h4;have:=h4 z hz;rw[decide_eq_true_iff]at this;omega
def bam{n:Int}(h:tok n l=true):vh l:=by
 unfold tok at h;rw[bt3,decide_eq_true_iff,decide_eq_true_iff]at h
 have hs:∀d i:Nat,i+d+1<l.length->ltZ (l.getD i default) (l.getD (i+d+1) default)=true:=by
  intro d
  induction d with
  | zero =>
   intro i hi;have:=h.2 (i+1) hi;unfold qq at this;rw[bt3,buk,decide_eq_true_iff]at this
   rcases this.2 with h5|h5
   · omega
   exact h5
  | succ d ih =>
   intro i hi;have h1:=ih i bx5;have:=h.2 (i+d+1+1) bx5;unfold qq at this;rw[bt3,buk,decide_eq_true_iff]at this
   rcases this.2 with h5|h5
   · omega
   exact oi h1 h5
 unfold vh;rw[bv2];intro i j hi hj hij;obtain⟨d,rfl⟩:∃d,j=i+d+1:=⟨j-i-1,by omega⟩;have:=hs d i hj;rwa [bt1,bt0 hi,bt1,bt0 hj]at this
def bjp{n:Int}(h0:0<=n)(h1:n<=16)(h2:l.length<=256)(hw:Wel n l)(ho:vh l):tok n l=true:=by
 refine b82 h0 h1 h2 fun i hi=>?_;obtain⟨h3,h4⟩:=hw _ (aa2 hi);refine aof bx5 ?_ ?_
 · rw [buu]
   intro z hz;have:=h4 z hz;rw[decide_eq_true_iff];omega
 rcases buz i with h|h
 · exact .inl h
 right;have:=bv2.1 ho (i-1) i bx5 hi bx5;rw[bt1,bt0 bx5,bt1,bt0 hi];exact this
def a7d {n:Int} (h0:0<=n) (h1:n<=16) (h2:(ck l).length<=256) (hw:Wel n l):tok n (ck l)=true :=
 bjp h0 h1 h2 (fun r hr=>hw r (ir.1 hr)) (a5o l)
def inV(l:List Rw)(M:Nat->Nat->Int)(z:Int):Prop:=∃i r,i<l.length/\r<(l.getD i default).length/\M i r=z
def atv{z:Int}:inV l (i7 l) z<->∃r,r∈l/\z∈r:=by
 constructor
 · rintro ⟨i,r,hi,hr,rfl⟩
   refine⟨_,aa2 hi, ?_⟩;show(l.getD i default).getD r default∈_;rw[bt1 (l:=l.getD i default),bt0 hr];exact bti hr
 rintro⟨r,hr,hz⟩;obtain⟨i,hi,rfl⟩:=btt hr;obtain⟨k,hk,rfl⟩:=btt hz;have e:l.getD i default=l[i]:=by rw[bt1,bt0 hi];rfl
 refine⟨i,k,hi,by rw[e];exact hk, ?_⟩;show(l.getD i default).getD k default=_;rw[e,bt1,bt0 hk];rfl
def act{M:Nat->Nat->Int}{z:Int}:(∃r,r∈fv l M/\z∈r)<->inV l M z:=by
 constructor
 · rintro ⟨r,hr,hz⟩
   unfold fv at hr;rw[bto]at hr;obtain⟨i,hi,rfl⟩:=hr;rw[bto]at hz;obtain⟨k,hk,rfl⟩:=hz;exact⟨i,k,btg.1 hi,btg.1 hk,rfl⟩
 rintro⟨i,k,hi,hk,rfl⟩;refine⟨(List.range (l.getD i default).length).map (M i), ?_,bto.2 ⟨k,btg.2 hk,rfl⟩⟩;unfold fv;exact bto.2 ⟨i,btg.2 hi,rfl⟩
end
section
variable {l:List Rw}{a b:Nat}(ha:a<l.length)(hb:b<l.length)
theorem avz(x y:Int):loI x y=x\/loI x y=y:=by unfold loI;split<;>simp
theorem b8i(x y:Int):hiI x y=x\/hiI x y=y:=by unfold hiI;split<;>simp
include ha hb in
theorem bnz {M:Nat->Nat->Int} {j:Nat} (hja:j<(l.getD a default).length) (hjb:j<(l.getD b default).length) {z:Int} (h:inV l (eqM M a b j) z):inV l M z:=by
 obtain⟨i,r,hi,hr,he⟩:=h;unfold eqM at he;split at he
 · rcases avz (M a j) (M b j)with h|h
   · exact⟨a,j,ha,hja,by rw[<- he,h]⟩
   exact⟨b,j,hb,hjb,by rw[<- he,h]⟩
 exact⟨i,r,hi,hr,he⟩
include ha hb in
theorem alk:∀{js:List Nat} {M:Nat->Nat->Int},(∀j,j∈js->j<(l.getD a default).length/\j<(l.getD b default).length)->∀{z:Int},inV l (eqMs M a b js) z->inV l M z
 | [],_,_,_,h=>h
 |j::js,M,hj,z,h=>bnz ha hb (hj j bx8).1 (hj j bx8).2 (alk (js:=js) (M:=eqM M a b j) (fun k hk=>hj k (by simp[hk])) h)
include ha hb in
theorem ajv:∀{js:List Nat} {M:Nat->Nat->Int},(∀j,j∈js->j<(l.getD a default).length/\j<(l.getD b default).length)->(∃j,j∈js/\¬M a j=M b j)->∃z,inV l M z/\¬inV l (eqMs M a b js) z
 | [],_,_,⟨_,h,_⟩=>by simp at h
 | j :: js,M,hj,⟨k,hk,hne⟩=>by
  by_cases e:M a j=M b j
  · have e2:eqMs M a b (j::js)=eqMs M a b js:=by
     show eqMs (eqM M a b j) a b js=_;rw[ac9 e]
    rw[e2];refine ajv (fun k hk=>hj k (by simp[hk])) ⟨k, ?_,hne⟩
    rcases btd.1 hk with h|h
    · subst h;exact absurd e hne
    exact h
  refine⟨hiI (M a j) (M b j), ?_,fun h=>?_⟩
  · rcases b8i (M a j) (M b j)with h|h
    · exact⟨a,j,ha,(hj j bx8).1,h.symm⟩
    exact⟨b,j,hb,(hj j bx8).2,h.symm⟩
  obtain⟨i,r,hi,hr,he⟩:=alk ha hb (fun k hk=>hj k (by simp[hk])) (show inV l (eqMs (eqM M a b j) a b js) _ from h);unfold eqM at he;split at he
  · unfold hiI loI at he
    split at he<;>split at he<;>omega
  rename_i h2;exact h2 he
end
def aiw(Z:List Int)(l:List Rw):Nat:=Z.countP fun z=>l.any fun r=>decide (z∈r)
def muC(Z:List Int)(l:List Rw):Nat:=aiw Z l*300+(300-l.length)
def Cov(Z:List Int)(l:List Rw):Prop:=∀r,r∈l->∀z,z∈r->z∈Z
def a03 {l:List Rw} {z:Int}:(l.any fun r=>decide (z∈r))=true<->∃r,r∈l/\z∈r:=by
 rw[bue];exact⟨fun⟨r,h,h2⟩=>⟨r,h,of_decide_eq_true h2⟩,fun⟨r,h,h2⟩=>⟨r,h,decide_eq_true h2⟩⟩
def countP_lt' {p q:Int->Bool}:∀{Z:List Int},(∀z,p z=true->q z=true)->(∃z,z∈Z/\q z=true/\p z=false)->Z.countP p<Z.countP q
 | [],_,⟨_,h,_⟩=>by simp at h
 | x :: Z,h,⟨z,hz,hq,hp⟩=>by
  have hm:Z.countP p<=Z.countP q:=List.countP_mono_left fun z _=>h z;rw[bw4,bw4]
  rcases btd.1 hz with rfl|hz
  · rw [hq,hp]
    simp only[if_true,bup,if_false];omega
  have:=countP_lt' (Z:=Z) h ⟨z,hz,hq,hp⟩;by_cases e:p x=true
  · rw[e,h x e];omega
  rw[if_neg e];omega
def bau {Z:List Int} {l l':List Rw} (h:∀z,(∃r,r∈l'/\z∈r)->∃r,r∈l/\z∈r) (h2:∃z,z∈Z/\(∃r,r∈l/\z∈r)/\¬ ∃r,r∈l'/\z∈r):aiw Z l'<aiw Z l:=by
 refine countP_lt' (fun z hz=>a03.2 (h z (a03.1 hz))) ?_;obtain⟨z,h3,h4,h5⟩:=h2;exact⟨z,h3,a03.2 h4,by rw[btf];exact fun e=>h5 (a03.1 e)⟩
def bdc {Z:List Int} {l l':List Rw} (h:∀z,(∃r,r∈l'/\z∈r)->∃r,r∈l/\z∈r):aiw Z l'<=aiw Z l :=
 List.countP_mono_left fun z _ hz=>a03.2 (h z (a03.1 hz))
end
section
def ann {r:Rw}:∀{l:List Rw},r∉l->(mr r l).length=l.length+1
 | [],_=>rfl
 | y::l,h=>by
  unfold mr;have h1:¬r=y:=fun e=>h (by rw[e];simp);have h2:=ann (l:=l) (r:=r) fun e=>h (by simp[e]);rw[if_neg h1];split
  · simp
  simp only[bud];omega
def ayy {l:List Rw} {r:Rw} (ho:vh l):ck (l++[r])=mr r l:=by
 have e:l=ck l:=ami ho fun _=>Iff.rfl
 have:ck (l++[r])=mr r (ck l):=by
  unfold ck;rw[btr];rfl
 rw[this,<- e]
section
variable {n:Int}{l:List Rw}{a b:Nat}{x:Fd}
abbrev fdL(l:List Rw)(a b:Nat)(x:Fd):List Rw:=ck (fv l (eqMs (i7 l) a b (ak x.rhs)))
def auu(hT:tok n l=true)(hu:inU n x=true)(ha:a<l.length)(hb:b<l.length)(hs:jq l x a b=true) :
 fdE n l a b x=(n,fdL l a b x,0)/\tok n (fdL l a b x)=true/\(∀z,(∃r,r∈fdL l a b x/\z∈r)->∃r,r∈l/\z∈r)/\∀Z,Cov Z l->muC Z (fdL l a b x)<muC Z l:=by
 obtain⟨h0,h1,h2,h3⟩:=sg hT;have hw:=zz hT;unfold jq at hs;rw[bt3,btv]at hs;obtain⟨hl,hr⟩:=hs
 have hj:∀j,j∈ak x.rhs->j<(l.getD a default).length/\j<(l.getD b default).length:=fun j hj=>by
  have:=ai0 h0 h1 hu hj;exact⟨by rw[h3 a ha];exact this,by rw[h3 b hb];exact this⟩
 have hV:∀z,(∃r,r∈fdL l a b x/\z∈r)->∃r,r∈l/\z∈r:=fun z ⟨r,hr,hz⟩=>atv.1 (alk ha hb hj (act.1 ⟨r,ir.1 hr,hz⟩));have hlen:(fdL l a b x).length<=l.length:=bth (ak1 _) (bwq (sc _ _));refine⟨if_pos hl,a7d h0 h1 (bth hlen h2) (fun r hr=>⟨?_,fun z hz=>?_⟩),hV,fun Z hZ=>?_⟩
 · unfold fv at hr
   rw[bto]at hr;obtain⟨i,hi,rfl⟩:=hr;rw[btw,bvz];exact h3 i (btg.1 hi)
 · obtain ⟨r2,h5,h6⟩:=hV z ⟨r,ir.2 hr,hz⟩
   exact(hw r2 h5).2 z h6
 have hne:∃j,j∈ak x.rhs/\¬i7 l a j=i7 l b j:=by
  apply Classical.byContradiction;intro hno;rw[ae3]at hr
  · cases hr
  intro i hi hh;apply Classical.byContradiction;intro e
  have hi2:i<32:=by
   have:=h3 a ha;omega
  rw[ou hi2]at hh;exact hno ⟨i,io.2 ⟨hi2,hh⟩,e⟩
 obtain⟨z,hz1,hz2⟩:=ajv ha hb hj hne;have hz3:=atv.1 hz1;have:=bau (Z:=Z) hV ⟨z,by obtain⟨r,h7,h8⟩:=hz3;exact hZ r h7 z h8,hz3,fun⟨r,h7,h8⟩=>hz2 (act.1 ⟨r,ir.1 h7,h8⟩)⟩;unfold muC;omega
abbrev mvL(l:List Rw)(a b:Nat)(x:Fd):List Rw:=ck (l++[ij (l.getD a default) (l.getD b default) (x.lhs|||x.rhs)])
def blv(hT:tok n l=true)(ha:a<l.length)(hb:b<l.length)(hs:jt l x a b=true) :
 mvE n l a b x=(0,[],3)\/(mvE n l a b x=(n,mvL l a b x,0)/\tok n (mvL l a b x)=true/\(∀z,(∃r,r∈mvL l a b x/\z∈r)->∃r,r∈l/\z∈r)/\∀Z,Cov Z l->muC Z (mvL l a b x)<muC Z l):=by
 obtain⟨h0,h1,h2,h3⟩:=sg hT;have hw:=zz hT;unfold jt at hs;rw[bt3,btv]at hs;obtain⟨hl,hr⟩:=hs;have hno:=bby hr;have hE:mvE n l a b x=wl n l (ij (l.getD a default) (l.getD b default) (x.lhs|||x.rhs)):=if_pos hl;by_cases hbig:256<(mvL l a b x).length
 · left
   rw[hE];exact if_pos hbig
 right
 have hmem:∀z,z∈ij (l.getD a default) (l.getD b default) (x.lhs|||x.rhs)->z∈l.getD a default\/z∈l.getD b default:=fun z hz=>by
  unfold ij at hz;rw[bto]at hz;obtain⟨i,hi,rfl⟩:=hz;have hi:=btg.1 hi;have hi2:i<(l.getD a default).length:=by rw[h3 a ha,<- h3 b hb];exact hi
  split
  · left
    rw[bt1 (l:=l.getD a default),bt0 hi2];exact bti hi2
  right;rw[bt1 (l:=l.getD b default),bt0 hi];exact bti hi
 have hV:∀z,(∃r,r∈mvL l a b x/\z∈r)->∃r,r∈l/\z∈r:=fun z ⟨r,hr,hz⟩=>by
  rcases btn.1 (ir.1 hr)with h|h
  · exact⟨r,h,hz⟩
  rw[btu]at h;subst h
  rcases hmem z hz with h|h
  · exact⟨_,aa2 ha,h⟩
  exact⟨_,aa2 hb,h⟩
 refine⟨by rw[hE];exact if_neg hbig,a7d h0 h1 (bws fun e=>hbig e) (fun r hr=>⟨?_,fun z hz=>?_⟩),hV,fun Z hZ=>?_⟩
 · rcases btn.1 hr with h|h
   · exact(hw r h).1
   rw[btu]at h;subst h;rw[a0f];exact h3 b hb
 · obtain ⟨r2,h5,h6⟩:=hV z ⟨r,ir.2 hr,hz⟩
   exact(hw r2 h5).2 z h6
 have e:(mvL l a b x).length=l.length+1:=by
  show(ck _).length=_;rw[ayy (bam hT),ann hno]
 have:=bdc (Z:=Z) hV;unfold muC;omega
end
def ayl {α:Type} {f:Nat->Option α}:∀{n:Nat} {x:α},(List.range n).findSome? f=some x->∃k,k<n/\f k=some x:=fun {n x} h=>by
 obtain⟨k,hk,e⟩:=bw5 h;exact⟨k,btg.1 hk,e⟩
def afw {P:Nat->Nat->Nat->Bool} {I L i a b:Nat} (h:o7 P I L=some (i,a,b)):i<I/\a<L/\b<L/\P i a b=true:=by
 obtain⟨i',hi,h⟩:=ayl h;obtain⟨a',ha,h⟩:=ayl h;rw[Option.map_eq_some_iff]at h;obtain⟨b',hb,e⟩:=h;simp only[bt7]at e;obtain⟨rfl,rfl,rfl⟩:=e;exact⟨hi,ha,btg.1 (bwb hb),by simpa using bx1 hb⟩
def acf(l:List Rw)(p m:List Fd)(s:St):Prop:=s.2.2.1<l.length/\s.2.2.2<l.length/\((s.1=false/\s.2.1<p.length/\jq l (p.getD s.2.1 default) s.2.2.1 s.2.2.2=true)\/(s.1=true/\s.2.1<m.length/\jt l (m.getD s.2.1 default) s.2.2.1 s.2.2.2=true))
section
variable {l:List Rw}{m p:List Fd}
def aie{s:St}(h:gp l p m=some s):acf l p m s:=by
 unfold gp at h;split at h
 · rename_i x e
   simp only[bsy]at h;subst h;obtain⟨i,a,b⟩:=x;obtain⟨h1,h2,h3,h4⟩:=afw e;exact⟨h2,h3, .inl ⟨rfl,h1,h4⟩⟩
 rw[Option.map_eq_some_iff]at h;obtain⟨⟨i,a,b⟩,e,rfl⟩:=h;obtain⟨h1,h2,h3,h4⟩:=afw e;exact⟨h2,h3, .inr ⟨rfl,h1,h4⟩⟩
def j7(n:Int)(l:List Rw)(p m:List Fd)(s:St):Int×List Rw×Int:=if s.1=true then mvE n l s.2.2.1 s.2.2.2 (m.getD s.2.1 default)else fdE n l s.2.2.1 s.2.2.2 (p.getD s.2.1 default)
def aq0{n:Int}{s:St}(hT:tok n l=true)(hp:p.all (inU n)=true)(h:acf l p m s):
 j7 n l p m s=(0,[],3)\/∃l',j7 n l p m s=(n,l',0)/\tok n l'=true/\(∀Z,Cov Z l->Cov Z l'/\muC Z l'<muC Z l):=by
 obtain⟨ha,hb,h|h⟩:=h
 · obtain ⟨h1,h2,h3⟩:=h
   have hu:inU n (p.getD s.2.1 default)=true:=btl.1 hp _ (by rw[bt1,bt0 h2];exact bti h2);obtain⟨e,h4,h5,h6⟩:=auu hT hu ha hb h3;exact .inr ⟨_,by unfold j7;rw[if_neg (by rw[h1];decide)];exact e,h4,fun Z hZ=>⟨fun r hr z hz=>by obtain⟨r2,h7,h8⟩:=h5 z ⟨r,hr,hz⟩;exact hZ r2 h7 z h8,h6 Z hZ⟩⟩
 obtain⟨h1,h2,h3⟩:=h
 rcases blv hT ha hb h3 with e|⟨e,h4,h5,h6⟩
 · exact .inl (by unfold j7;rw[if_pos h1];exact e)
 exact .inr ⟨_,by unfold j7;rw[if_pos h1];exact e,h4,fun Z hZ=>⟨fun r hr z hz=>by obtain⟨r2,h7,h8⟩:=h5 z ⟨r,hr,hz⟩;exact hZ r2 h7 z h8,h6 Z hZ⟩⟩
def l8:Nat->Int->List Rw->List Fd->List Fd->List St->List St×(Int×List Rw)×Int
 |0,_,_,_,_,_=>([],(0,[]),0)
 | f + 1,n,l,p,m,acc =>
  match gp l p m with
  |none=>(acc,(n,l),0)
  | some s=>match j7 n l p m s with
   |(n',l',e)=>if e=0 then l8 f n' l' p m (acc++[s]) else([],(0,[]),e)
variable {acc:List St}
def ae7 {f:Nat} {n:Int} (hf:0<f) (h:gp l p m=none):l8 f n l p m acc=(acc,(n,l),0):=by
 obtain⟨g,rfl⟩:∃g,f=g+1:=⟨f-1,by omega⟩;unfold l8;rw[h]
def aer {f:Nat} {n:Int} {s:St} (hf:0<f) (h:gp l p m=some s) {n' e:Int} {l':List Rw} (h2:j7 n l p m s=(n',l',e)) (he:¬e=0):l8 f n l p m acc=([],(0,[]),e):=by
 obtain⟨g,rfl⟩:∃g,f=g+1:=⟨f-1,by omega⟩;unfold l8;rw[h];simp only;rw[h2];simp only;rw[if_neg he]
def a2w {f:Nat} {n:Int} {s:St} (hf:0<f) (h:gp l p m=some s) {n':Int} {l':List Rw} (h2:j7 n l p m s=(n',l',0)):l8 f n l p m acc=l8 (f-1) n' l' p m (acc++[s]):=by
 obtain⟨g,rfl⟩:∃g,f=g+1:=⟨f-1,by omega⟩;rw[Nat.add_sub_cancel]
 conv=>lhs;unfold l8
 rw[h];simp only;rw[h2];simp only;rw[if_pos trivial]
end
end
section
open Go.Proofs
def bic(n:Int)(l:List Rw)(p m:List Fd)(s:St)(hT:tok n l=true)(hp:p.all (inU n)=true)(h:acf l p m s) :
 a7 bxr 147 [pT n l,pP (fdl p),pP (fdl m),s.pc] (ae [pT (j7 n l p m s).1 (j7 n l p m s).2.1,pI (j7 n l p m s).2.2]):=by
 obtain⟨mu,i,a,b⟩:=s;obtain⟨ha,hb,h|h⟩:=h
 · obtain ⟨h1,h2,h3⟩:=h
   cases h1;exact beg n l p m i a b hT ha hb h2 (btl.1 hp _ (by rw[bt1,bt0 h2];exact bti h2))
 obtain⟨h1,h2,h3⟩:=h;cases h1;exact bcx n l p m i a b hT ha hb h2
abbrev St.c(s:St):Nat->PV:=fun j=>[.raw (.bool s.1), .raw (.int .i64 (s.2.1:Int)), .raw (.int .i64 (s.2.2.1:Int)), .raw (.int .i64 (s.2.2.2:Int))].getD j .any
abbrev stl(l:List St):PV:=psl 4 St.c l
abbrev ckE(n:Int)(l:List Rw)(p m:List Fd):Int:=if tok n l=true then eo n p m else 1
section
variable {l:List Rw}{m p:List Fd}{n:Int}
def bkp(h:ckE n l p m=0):tok n l=true/\eo n p m=0/\p.all (inU n)=true:=by
 unfold ckE at h;by_cases e:tok n l=true
 · rw [if_pos e]at h
   exact⟨e,h,(wq h).2.2.2.1⟩
 rw[if_neg e]at h;omega
def nb(F:Nat)(n:Int)(l:List Rw)(p m:List Fd):List St×(Int×List Rw)×Int:=if ckE n l p m=0 then l8 F n l p m [] else([],(0,[]),ckE n l p m)
variable {F:Nat}
def b5l(h:¬ckE n l p m=0):nb F n l p m=([],(0,[]),ckE n l p m):=if_neg h
def abq(h:ckE n l p m=0):nb F n l p m=l8 F n l p m []:=if_pos h
def bb7{α:Type}{o:Option α}(h:o.isSome=false):o=none:=by cases o<;>simp_all
def bca{α:Type}{o:Option α}(d:α)(h:o.isSome=true):o=some (o.getD d):=by cases o<;>simp_all
def aqy(l:List Rw):Cov l.flatten l:=fun r hr z hz=>bwu.2 ⟨r,hr,hz⟩
structure StI (F:Nat) (n:Int) (l:List Rw) (p m:List Fd) (x:Nat×List Rw×List St):Prop where
 t:tok n x.2.1=true
 c:Cov l.flatten x.2.1
 u:muC l.flatten x.2.1<x.1
 b:x.2.2.length+x.1<=F
 e:l8 x.1 n x.2.1 p m x.2.2=l8 F n l p m []
theorem StI.start(hT:tok n l=true)(hF:muC l.flatten l<F):StI F n l p m (F,l,[]):=⟨hT,aqy l,hF,by simp,rfl⟩
variable {x:Nat×List Rw×List St}
theorem StI.next {s:St} (h:StI F n l p m x) (hp:p.all (inU n)=true) (hS:gp x.2.1 p m=some s) (he:(j7 n x.2.1 p m s).2.2=0):
 (j7 n x.2.1 p m s).1=n/\StI F n l p m (x.1-1,(j7 n x.2.1 p m s).2.1,x.2.2++[s]):=by
 have hu:=h.u;have hb:=h.b
 rcases aq0 h.t hp (aie hS)with e|⟨l',e,h1,h2⟩
 · rw[e]at he;exact absurd he bxc
 have hq:=h2 _ h.c;refine⟨by rw[e], ?_⟩;rw[e];exact⟨h1,hq.1,by show muC _ l'<_;omega,by simp only[bt8,bv0];omega,by rw[<- h.e,a2w bx5 hS e]⟩
theorem StI.fin (h:StI F n l p m x) (hS:gp x.2.1 p m=none):l8 F n l p m []=(x.2.2,(n,x.2.1),0):=by
 have hu:=h.u;rw[<- h.e,ae7 bx5 hS]
theorem StI.err {s:St} (h:StI F n l p m x) (hS:gp x.2.1 p m=some s) (he:¬(j7 n x.2.1 p m s).2.2=0):l8 F n l p m []=([],(0,[]),(j7 n x.2.1 p m s).2.2):=by
 have hu:=h.u;rw[<- h.e];exact aer bx5 hS rfl he
end
end
section
open Go.Proofs
def bix(F:Nat)(n:Int)(l:List Rw)(p m:List Fd)(hF:tok n l=true->muC l.flatten l<F)(hFb:F<=4000000000):a7 bxr 142 [pT n l,pP (fdl p),pP (fdl m)] (ae [pP (stl (nb F n l p m).1),pT (nb F n l p m).2.1.1 (nb F n l p m).2.1.2,pI (nb F n l p m).2.2]):=by
 refine hpx (nt:=53) Tryz.func142 ?_;refine sx7 ?_;refine m9 0 ?_;refine qy ?_;refine m9 1 ?_;refine w_8 ?_;refine qcx (wgx Tryz.func146) (b2q n l p m) ?_;refine w_7 ?_;refine hcn ?_ ?_<;>intro h0
 · refine w_8 ?_;refine hrr ?_;have he:=b5l (F:=F) (n:=n) (l:=l) (p:=p) (m:=m) bx6;exact f9 rfl rfl (by rw[he];exact⟨CoC.one (CoP.sl rfl (.inr rfl) (fun _=>rfl) (fun i j hi _=>absurd hi (bt9 i))),CoC.agg ⟨CoP.refl _,m7,trivial⟩,CoC.refl _,trivial⟩)
 have hck:ckE n l p m=0:=by assumption
 obtain⟨hT,hbe,hpa⟩:=bkp hck;obtain⟨hn0,hn16,hl256,hrow⟩:=sg hT;have hbig:∀i,i<l.length->(l.getD i default).length<=17592186044416:=fun i hi=>by rw[hrow i hi];omega
 refine w_4 ?_;refine qcx aib (b2d n l hbig bx5) ?_;refine w_6 ?_;refine d8 10 900 true 4 151 (lf St.c []) bxc rfl (CoP.sl rfl (.inr rfl) (fun h=>h) (fun i j hi _=>absurd hi (bt9 i))) (.inr rfl) rfl ?_;refine a4j ?_;refine am (ι:=Nat×List Rw×List St) (ka 1 (ka 2 (ka 3 (ka 7 kn)))) (kb 1 km) (fun x=>⟨[(10,some (.v (.one (.ref 900 x.2.2.length))))],[(0,some (.box [.p (.raw (.int .i64 n)), .p (rl x.2.1)])),(900,some (.arr true 4 151 x.2.2.length (lf St.c x.2.2)))]⟩) (fun x=>StI F n l p m x) (fun x=>x.1) ((F,l,[])) (StI.start hT (hF hT)) kk ?_;rintro x hX;have hXu:=hX.u;have hXb:=hX.b;refine w_6 ?_;refine qcx (wgx Tryz.func190) (bj0 n x.2.1 p m hX.t) ?_;refine w_3 ?_;refine m9 2 ?_;refine w_9 ?_;refine hcv ?_ ?_<;>intro h1
 · have hS:=bb7 (by simpa using h1);refine w_9 ?_;refine bj 6 rfl rfl rfl ?_;refine hrr ?_;have he:=(abq hck).trans (hX.fin hS);exact f9 rfl rfl (by rw[he];exact CoL.refl _)
 have hS:=bca (false,0,0,0) (by simpa using h1);refine w_7 ?_;refine qcx (wgx Tryz.func147) (bic n x.2.1 p m ((gp x.2.1 p m).getD (false,0,0,0)) hX.t hpa (aie hS)) ?_;refine w_3 ?_;refine m9 3 ?_;refine w_9 ?_;refine hcn ?_ ?_<;>intro h2
 · refine w_8 ?_;refine hrr ?_;have he:=(abq hck).trans (hX.err hS bx6);exact f9 rfl rfl (by rw[he];exact⟨CoC.one (CoP.sl rfl (.inr rfl) (fun _=>rfl) (fun i j hi _=>absurd hi (bt9 i))),CoC.agg ⟨CoP.refl _,m7,trivial⟩,CoC.refl _,trivial⟩)
 have hnx:=hX.next hpa hS bx6
 refine w_4 ?_;refine m9 4 ?_;refine r9 5 true ?_;refine w_5 ?_;refine⟨(x.1-1,(j7 n x.2.1 p m ((gp x.2.1 p m).getD (false,0,0,0))).2.1,x.2.2++[((gp x.2.1 p m).getD (false,0,0,0))]), ?_, ?_, ?_⟩
 · exact hnx.2
 · show x.1-1<x.1
   omega
 exact⟨⟨⟨_,rfl,(bo rfl)⟩,tt⟩,⟨⟨_,rfl,⟨CoP.of_eq (by rw[hnx.1]),CoH.refl _,trivial⟩⟩,⟨_,rfl,(aaa rfl (fun j hj=>by match j,hj with|0,_=>exact CoP.refl _|1,_=>exact CoP.refl _|2,_=>exact CoP.refl _|3,_=>exact CoP.refl _) rfl)⟩,uu⟩⟩
end
section
def anc:∀{l:List Rw},(∀r,r∈l->r.length<=16)->l.flatten.length<=16*l.length
 | [],_=>by simp
 | r::l,h=>by
  have h1:=h r bx8;have h2:=anc (l:=l) fun r hr=>h r (by simp[hr]);simp only[List.flatten_cons,bt8,bud];omega
abbrev FU:Nat:=1300000
def axr {n:Int} {l:List Rw} (h:tok n l=true):muC l.flatten l<FU:=by
 obtain⟨h0,h1,h2,h3⟩:=sg h;have h4:=anc (l:=l) fun r hr=>by have:=(zz h r hr).1;omega
 have h5:aiw l.flatten l<=l.flatten.length:=List.countP_le_length;unfold muC;show _<1300000;omega
def bhk{n:Int}{i:Nat}{p:AS}{k a N:Nat}(h:en p (k:Int)=true)(hN:N=n.toNat)(ha:a=k) :
 CoO (.arr true 1 3 N (fz (lf zC (stT n i p k)) a 0 [.raw (.int .i64 (k:Int))])) (.arr true 1 3 N (lf zC (stT n i p (k+1)))):=by
 subst ha;refine⟨fun h=>h,rfl,rfl,rfl,fun c j hc hj=>CoP.of_eq ?_⟩;obtain rfl:j=0:=by omega
 show _=PV.raw (.int .i64 ((stT n i p (a+1)).getD c default));rw[abz c bx5];unfold fz;by_cases e:c=a
 · rw [if_pos ⟨e,by omega,by simp⟩,if_pos e]
   unfold stV;rw[if_pos h];rfl
 rw[if_neg (fun x=>e x.1),if_neg e];rfl
def b22 {k:Nat} (h:k<32):en (li 32) (k:Int)=true:=by
 rw[ou h,lq 32 k h];exact decide_eq_true h
def ayq {n:Int} {k:Nat} (h1:n<=16) (hk:n.toNat<=k):stT n 0 (li 32) k=fc n:=by
 rw[as3 _ _ _ hk];unfold stR fc;refine bvd fun c hc=>?_;have:=btg.1 hc;unfold stV;rw[if_pos (b22 bx5)]
def axc {n:Int} {k:Nat} (h1:n<=16) (hk:n.toNat<=k):CoC (.one (.sl n.toNat 1 false (lf zC (stT n 0 (li 32) k)))) (pZ (fc n)):=by
 rw[ayq h1 hk];exact b8t (adv n)
abbrev a1m(n:Int)(x:Fd):List AS:=[x.lhs|||x.rhs,x.lhs|||(a6 n&&&~~~x.rhs)]
def brh(n:Int)(p m:List Fd)(x:Fd):Bool×Int :=
 if eo n p m=0 then
  if inU n x=true then
   if (jh n (a1m n x)).2.2=0 then
    if(nb FU (jh n (a1m n x)).1 (jh n (a1m n x)).2.1 p m).2.2=0 then((nb FU (jh n (a1m n x)).1 (jh n (a1m n x)).2.1 p m).2.1.2.any (fun r=>decide (r=fc n)),0)
    else(false,(nb FU (jh n (a1m n x)).1 (jh n (a1m n x)).2.1 p m).2.2)
   else(false,(jh n (a1m n x)).2.2)
  else(false,1)
 else(false,eo n p m)
end
section
open Go.Proofs
def muK(p:List Fd)(k:Nat):Bool:=decide (p.length<=k)
def ixK(p:List Fd)(k:Nat):Nat:=if p.length<=k then k-p.length else k
def chE(l:List Rw)(p m:List Fd)(s:St):Bool:=if s.1=true then bo1 l (m.getD s.2.1 default) s.2.2.1 s.2.2.2 else jq l (p.getD s.2.1 default) s.2.2.1 s.2.2.2
def blj(l:List Rw)(p m:List Fd)(k a b:Nat):Bool:=decide (a≠b)&&chE l p m (muK p k,ixK p k,a,b)
def brl(l:List Rw)(p m:List Fd):Option St:=(o7 (blj l p m) (p.length+m.length) l.length).map fun x=>(muK p x.1,ixK p x.1,x.2.1,x.2.2)
section
variable {l:List Rw}{p m:List Fd}{k a b:Nat}
end
end
section
def atm {s t:AS} {i:Nat}:en (s|||t) (i:Int)=(en s (i:Int)||en t (i:Int)):=by
 by_cases h:i<32
 · rw[ou h,ou h,ou h,buy]
 rw[afg bx5,afg bx5,afg bx5];rfl
end
section
def b5f(l:List Rw)(p m:List Fd)(mu:Bool)(i a b:Int):Prop:=a<0\/(l.length:Int)<=a\/b<0\/(l.length:Int)<=b\/a=b\/i<0\/(mu=true/\(m.length:Int)<=i)\/(mu=false/\(p.length:Int)<=i)
instance (l:List Rw)(p m:List Fd)(mu:Bool)(i a b:Int):Decidable (b5f l p m mu i a b):=by unfold b5f;infer_instance
def bg1 (n:Int) (l:List Rw) (p m:List Fd) (mu:Bool) (i a b:Int):Int×List Rw×Int :=
 if ckE n l p m=0 then if b5f l p m mu i a b then(0,[],1)else j7 n l p m (mu,i.toNat,a.toNat,b.toNat) else(0,[],ckE n l p m)
section
variable {n:Int}{l:List Rw}{p m:List Fd}{mu:Bool}{i a b:Int}
end
end
section
def AgE(E:Int->Int->Prop)(a b:Rw)(s:AS):Prop:=∀i:Nat,i<a.length->en s (i:Int)=true->E (a.getD i default) (b.getD i default)
structure Mdl (N:Nat) (p m:List Fd) (E:Int->Int->Prop) (R:Rw->Prop):Prop where
 refl:∀x,E x x
 symm:∀{x y},E x y->E y x
 trans:∀{x y z},E x y->E y z->E x z
 len:∀{r},R r->r.length=N
 cong:∀{r r':Rw},R r->r'.length=r.length->(∀i,i<r.length->E (r.getD i default) (r'.getD i default))->R r'
 fd:∀{x},x∈p->∀{a b},R a->R b->AgE E a b x.lhs->AgE E a b x.rhs
 mv:∀{x},x∈m->∀{a b},R a->R b->AgE E a b x.lhs->R (ij a b (x.lhs|||x.rhs))
def LE(N:Nat)(p m:List Fd)(l:List Rw)(x y:Int):Prop:=∀E R,Mdl N p m E R->(∀r,r∈l->R r)->E x y
def LR(N:Nat)(p m:List Fd)(l:List Rw)(r:Rw):Prop:=∀E R,Mdl N p m E R->(∀r,r∈l->R r)->R r
def bdd (N:Nat) (p m:List Fd):Mdl N p m (fun _ _=>True) (fun r=>r.length=N) :=
 ⟨fun _=>trivial,fun _=>trivial,fun _ _=>trivial,fun h=>h,fun h e _=>e.trans h,fun _ _ _ _ _ _ _ _ _=>trivial,fun _ a b _ hb _=>(a0f _ _ _).trans hb⟩
def aab {N:Nat} {p m:List Fd} {l:List Rw} (hl:∀r,r∈l->r.length=N):Mdl N p m (LE N p m l) (LR N p m l) where
 refl x:=fun E R h _=>h.refl x
 symm h:=fun E R k kl=>k.symm (h E R k kl)
 trans h h2:=fun E R k kl=>k.trans (h E R k kl) (h2 E R k kl)
 len h:=h _ _ (bdd N p m) hl
 cong h e h2:=fun E R k kl=>k.cong (h E R k kl) e fun i hi=>h2 i hi E R k kl
 fd hx _ _ ha hb hl:=fun i hi hs E R k kl=>k.fd hx (ha E R k kl) (hb E R k kl) (fun j hj hh=>hl j hj hh E R k kl) i hi hs
 mv hx _ _ ha hb hl:=fun E R k kl=>k.mv hx (ha E R k kl) (hb E R k kl) fun j hj hh=>hl j hj hh E R k kl
structure Ch (N:Nat) (p m:List Fd) (l0 l:List Rw) (σ:Int->Int):Prop where
 rows:∀r,r∈l->LR N p m l0 r
 sym:∀s,LE N p m l0 s (σ s)
 img:∀r,r∈l0->r.map σ∈l
 fix:∀r,r∈l->∀z,z∈r->σ z=z
 le:∀s,σ s<=s
section
variable {N:Nat}{p m:List Fd}{l0 l l':List Rw}{σ σ':Int->Int}{n:Int}
theorem Ch.start:Ch N p m l0 l0 id:=⟨fun r hr E R _ hl=>hl r hr,fun s E R k _=>k.refl s,fun r hr=>by rw[List.map_id];exact hr,fun _ _ _ _=>rfl,fun s=>Int.le_refl s⟩
theorem Ch.congr (h:Ch N p m l0 l σ) (e:∀r,r∈l'<->r∈l):Ch N p m l0 l' σ :=
 ⟨fun r hr=>h.rows r ((e r).1 hr),h.sym,fun r hr=>(e _).2 (h.img r hr),fun r hr=>h.fix r ((e r).1 hr),h.le⟩
def xh(hi lo z:Int):Int:=if z=hi then lo else z
section
variable {f:Int->Int}
theorem a13 {r:Rw} {i:Nat} (h:i<r.length):(r.map f).getD i default=f (r.getD i default):=by
 grind
theorem Ch.sub (hl0:∀r,r∈l0->r.length=N) (h:Ch N p m l0 l σ) {hi lo:Int} (hE:LE N p m l0 hi lo) (hle:lo<=hi) (hin:∃r,r∈l/\lo∈r):Ch N p m l0 (l.map fun r=>r.map (xh hi lo)) (fun s=>xh hi lo (σ s)):=by
 have hm:=aab (p:=p) (m:=m) hl0
 have hs:∀z,LE N p m l0 z (xh hi lo z):=fun z=>by
  unfold xh;split
  · grind
  exact hm.refl z
 refine⟨fun r hr=>?_,fun s=>hm.trans (h.sym s) (hs _),fun r hr=>?_,fun r hr z hz=>?_,fun s=>?_⟩
 · obtain ⟨r0,h0,rfl⟩:=bto.1 hr
   exact hm.cong (h.rows r0 h0) bx8 fun i hi=>by rw[a13 hi];exact hs _
 · refine bto.2 ⟨_,h.img r hr, ?_⟩
   simp_all
 · obtain ⟨r0,h0,rfl⟩:=bto.1 hr
   obtain⟨y,hy,rfl⟩:=bto.1 hz;obtain⟨r1,h1,h2⟩:=hin;have e1:=h.fix r0 h0 y hy;have e2:=h.fix r1 h1 lo h2;by_cases e:y=hi
   · have e3:xh hi lo y=lo:=if_pos e
     show xh hi lo (σ (xh hi lo y))=xh hi lo y;rw[e3,e2];unfold xh;split<;>rfl
   have e3:xh hi lo y=y:=if_neg e
   grind
 have h1:=h.le s
 have h2:xh hi lo (σ s)<=σ s:=by
  unfold xh
  grind
 grind
def auq {M:Nat->Nat->Int} {a b j:Nat}:fv l (eqM M a b j)=(fv l M).map fun r=>r.map (xh (hiI (M a j) (M b j)) (loI (M a j) (M b j))):=by
 unfold fv;rw[List.map_map];refine bvd fun i _=>?_;show _=List.map _ (List.map _ _);rw[List.map_map];rfl
def azw {M:Nat->Nat->Int} {a j:Nat} (ha:a<l.length) (hj:j<(l.getD a default).length):∃r,r∈fv l M/\M a j∈r :=
 act.2 ⟨a,j,ha,hj,rfl⟩
theorem Ch.eqMs (hl0:∀r,r∈l0->r.length=N) {a b:Nat} (ha:a<l.length) (hb:b<l.length):∀{js:List Nat} {M:Nat->Nat->Int} {σ:Int->Int},Ch N p m l0 (fv l M) σ->(∀j,j∈js->j<(l.getD a default).length/\j<(l.getD b default).length/\LE N p m l0 (M a j) (M b j)) ->
 ∃σ',Ch N p m l0 (fv l (eqMs M a b js)) σ'
 | [],M,σ,h,_=>⟨σ,h⟩
 | j :: js,M,σ,h,hj=>by
  obtain⟨h1,h2,h3⟩:=hj j bx8;have hm:=aab (p:=p) (m:=m) hl0;have hlo:loI (M a j) (M b j)<=hiI (M a j) (M b j):=by unfold loI hiI;split<;>split<;>omega
  have hE:LE N p m l0 (hiI (M a j) (M b j)) (loI (M a j) (M b j)):=by
   rcases b8i (M a j) (M b j)with e|e<;>rcases avz (M a j) (M b j)with f|f<;>rw[e,f]
   · exact hm.refl _
   · exact h3
   · exact hm.symm h3
   exact hm.refl _
  have hin:∃r,r∈fv l M/\loI (M a j) (M b j)∈r:=by
   rcases avz (M a j) (M b j)with f|f<;>rw[f]
   · exact azw ha h1
   exact azw hb h2
  have hq:=h.sub hl0 hE hlo hin;rw[<- auq]at hq
  have hs:∀z,LE N p m l0 z (if z=hiI (M a j) (M b j)then loI (M a j) (M b j)else z):=fun z=>by
   split
   · rename_i e;rw[e];exact hE
   exact hm.refl z
  exact Ch.eqMs hl0 ha hb (js:=js) hq fun k hk=>by
   obtain⟨h4,h5,h6⟩:=hj k (by simp[hk]);exact⟨h4,h5,hm.trans (hm.symm (hs (M a k))) (hm.trans h6 (hs (M b k)))⟩
theorem arn:fv l (i7 l)=l:=by
 refine pl (sc _ _) fun i hi=>?_;rw[sc]at hi;rw[ako hi];refine pl bx8 fun k hk=>?_
 grind
def avs (hl0:∀r,r∈l0->r.length=N) {a b:Rw} {s:AS} (h:ov a b s=true):AgE (LE N p m l0) a b s:=fun i hi hs=>by
 rw[of_decide_eq_true h i hi hs];exact(aab hl0).refl _
theorem ik {α:Type} [Inhabited α] {l:List α} {i:Nat} (h:i<l.length):l.getD i default∈l:=by
 grind
theorem b2z {a b:Rw} {s:AS} (hl:a.length=b.length) {z:Int} (hz:z∈ij a b s):z∈a\/z∈b:=by
 unfold ij at hz
 grind
def bfm(l:List Rw)(p m:List Fd)(s:St):Prop:=s.2.2.1<l.length/\s.2.2.2<l.length/\(s.1=false->s.2.1<p.length)/\(s.1=true->s.2.1<m.length)
theorem Ch.app (hl0:∀r,r∈l0->r.length=n.toNat) (hT:tok n l=true) (hp:p.all (inU n)=true) (h:Ch n.toNat p m l0 l σ) {s:St} (hs:bfm l p m s) (he:(j7 n l p m s).2.2=0) :
 (j7 n l p m s).1=n/\∃σ',Ch n.toNat p m l0 (j7 n l p m s).2.1 σ':=by
 obtain⟨mu,i,a,b⟩:=s;obtain⟨ha,hb,hf,hv⟩:=hs;obtain⟨h0,h1,h2,h3⟩:=sg hT;have ha:a<l.length:=ha;have hb:b<l.length:=hb;have hra:=h3 a ha;have hrb:=h3 b hb
 cases mu with
 | false =>
  have hi:i<p.length:=hf rfl;have e0:j7 n l p m (false,i,a,b)=fdE n l a b (p.getD i default):=rfl;rw[e0]at he ⊢;by_cases hg:ov (l.getD a default) (l.getD b default) (p.getD i default).lhs=true
  · have e1:fdE n l a b (p.getD i default)=(n,ck (fv l (Go.Hx.eqMs (i7 l) a b (ak (p.getD i default).rhs))),0):=if_pos hg
    rw[e1];refine⟨rfl, ?_⟩;have hu:inU n (p.getD i default)=true:=btl.1 hp _ (ik hi);have hm:=aab (p:=p) (m:=m) hl0;have hR:=hm.fd (ik hi) (h.rows _ (ik ha)) (h.rows _ (ik hb)) (avs hl0 hg)
    obtain ⟨σ',hσ⟩:=Ch.eqMs (p:=p) (m:=m) hl0 ha hb (js:=ak (p.getD i default).rhs) (M:=i7 l) (σ:=σ) (by rw[arn];exact h) fun j hj=>by
     have h4:=ai0 h0 h1 hu hj;have h5:=io.1 hj;refine⟨Nat.lt_of_lt_of_eq h4 hra.symm,Nat.lt_of_lt_of_eq h4 hrb.symm,hR j (Nat.lt_of_lt_of_eq h4 hra.symm) (by rw[ou h5.1];exact h5.2)⟩
    exact⟨σ',hσ.congr fun r=>ir⟩
  have e1:fdE n l a b (p.getD i default)=(0,[],1):=if_neg hg
  grind
 | true =>
  have hi:i<m.length:=hv rfl;have e0:j7 n l p m (true,i,a,b)=mvE n l a b (m.getD i default):=rfl;rw[e0]at he ⊢;by_cases hg:ov (l.getD a default) (l.getD b default) (m.getD i default).lhs=true
  · have e1:mvE n l a b (m.getD i default)=wl n l (ij (l.getD a default) (l.getD b default) ((m.getD i default).lhs|||(m.getD i default).rhs)):=if_pos hg
    rw[e1]at he ⊢;by_cases hbig:256<(ck (l++[ij (l.getD a default) (l.getD b default) ((m.getD i default).lhs|||(m.getD i default).rhs)])).length
    · have e2:wl n l (ij (l.getD a default) (l.getD b default) ((m.getD i default).lhs|||(m.getD i default).rhs))=(0,[],3):=if_pos hbig
      grind
    have e2:wl n l (ij (l.getD a default) (l.getD b default) ((m.getD i default).lhs|||(m.getD i default).rhs))=(n,ck (l++[ij (l.getD a default) (l.getD b default) ((m.getD i default).lhs|||(m.getD i default).rhs)]),0):=if_neg hbig;rw[e2];refine⟨rfl,σ, ?_⟩;have hm:=aab (p:=p) (m:=m) hl0;have hR:=hm.mv (ik hi) (h.rows _ (ik ha)) (h.rows _ (ik hb)) (avs hl0 hg);refine⟨fun r hr=>?_,h.sym,fun r hr=>ir.2 (btk _ (h.img r hr)),fun r hr z hz=>?_,h.le⟩
    · rcases btn.1 (ir.1 hr)with h4|h4
      · exact h.rows r h4
      grind
    rcases btn.1 (ir.1 hr)with h4|h4
    · exact h.fix r h4 z hz
    rw[btu.1 h4]at hz
    rcases b2z bx5 hz with h5|h5
    · exact h.fix _ (ik ha) z h5
    exact h.fix _ (ik hb) z h5
  have e1:mvE n l a b (m.getD i default)=(0,[],1):=if_neg hg
  grind
def adp {P:Nat->Nat->Nat->Bool} {I L:Nat} (h:o7 P I L=none) {i a b:Nat} (hi:i<I) (ha:a<L) (hb:b<L):P i a b=false:=by
 unfold o7 at h;simp_all
def b16 (h:gp l p m=none):(∀i,i<p.length->∀a,a<l.length->∀b,b<l.length->jq l (p.getD i default) a b=false)/\∀i,i<m.length->∀a,a<l.length->∀b,b<l.length->jt l (m.getD i default) a b=false:=by
 unfold gp at h;split at h
 · cases h
 rename_i e;rw[Option.map_eq_none_iff]at h;exact⟨fun i hi a ha b hb=>adp (P:=fun i a b=>jq l (p.getD i default) a b) e hi ha hb,fun i hi a ha b hb=>adp (P:=fun i a b=>jt l (m.getD i default) a b) h hi ha hb⟩
def yj {α:Type} [Inhabited α] {l:List α} {x:α} (h:x∈l):∃i,i<l.length/\l.getD i default=x:=by
 obtain⟨i,hi,rfl⟩:=btt h;exact⟨i,hi,by rw[bt1,bt0 hi];rfl⟩
theorem b2w {a b:Rw} {s:AS} (hl:a.length=b.length):ij (a.map f) (b.map f) s=(ij a b s).map f:=by
 unfold ij;rw[List.map_map,btw];refine bvd fun i hi=>?_
 grind
theorem Ch.mdl (hT:tok n l=true) (hn:gp l p m=none) (σ:Int->Int):Mdl n.toNat p m (fun x y=>σ x=σ y) (fun r=>r.length=n.toNat/\r.map σ∈l):=by
 obtain⟨hF,hM⟩:=b16 hn;refine⟨fun _=>rfl,fun h=>h.symm,fun h k=>h.trans k,fun h=>h.1,fun {r r'} h e h2=>⟨e.trans h.1, ?_⟩,fun {x} hx {a b} ha hb hl i hi hs=>?_,fun {x} hx {a b} ha hb hl=>⟨(a0f _ _ _).trans hb.1, ?_⟩⟩
 · have:r'.map σ=r.map σ:=by
    refine pl (by simp[e]) fun i hi=>?_
    grind
   grind
 · obtain ⟨k,hk,rfl⟩:=yj hx
   obtain⟨ia,hia,ea⟩:=yj ha.2;obtain⟨ib,hib,eb⟩:=yj hb.2;have h1:=hF k hk ia hia ib hib;unfold jq at h1;rw[ea,eb,ae3 (fun j hj hs=>by rw[btw]at hj;rw[a13 hj,a13 (by rw[hb.1,<- ha.1];exact hj)];exact hl j hj hs),bu0,Bool.not_eq_false']at h1;have h2:=of_decide_eq_true h1 i (by rw[btw];exact hi) hs
   grind
 obtain⟨k,hk,rfl⟩:=yj hx;obtain⟨ia,hia,ea⟩:=yj ha.2;obtain⟨ib,hib,eb⟩:=yj hb.2;have h1:=hM k hk ia hia ib hib;unfold jt at h1;rw[ea,eb,ae3 (fun j hj hs=>by rw[btw]at hj;rw[a13 hj,a13 (by rw[hb.1,<- ha.1];exact hj)];exact hl j hj hs),bu0,Bool.not_eq_false']at h1;obtain⟨r,hr,e⟩:=bue.1 h1;rw[<- b2w (by rw[ha.1,hb.1]),<- of_decide_eq_true e];exact hr
theorem Ch.has (h:Ch n.toNat p m l0 l σ) (hT:tok n l=true) (hl0:∀r,r∈l0->r.length=n.toNat) (hn:gp l p m=none):(∀x y,LE n.toNat p m l0 x y->σ x=σ y)/\∀r,LR n.toNat p m l0 r->r.map σ∈l:=by
 have hm:=Ch.mdl (p:=p) (m:=m) hT hn σ;have hl:∀r,r∈l0->r.length=n.toNat/\r.map σ∈l:=fun r hr=>⟨hl0 r hr,h.img r hr⟩;exact⟨fun x y e=>e _ _ hm hl,fun r e=>(e _ _ hm hl).2⟩
def aip:∀{r:Rw},(∀z,z∈r->f z=z)->r.map f=r
 | [],_=>rfl
 |z::r,h=>by rw[bur,h z bx8,aip fun y hy=>h y (by simp[hy])]
theorem Ch.mem (h:Ch n.toNat p m l0 l σ) (hT:tok n l=true) (hl0:∀r,r∈l0->r.length=n.toNat) (hn:gp l p m=none) {r:Rw}:r∈l<->LR n.toNat p m l0 r/\r.map σ=r:=by
 constructor
 · intro hr
   exact⟨h.rows r hr,aip (h.fix r hr)⟩
 rintro⟨h1,h2⟩;rw[<- h2];exact(h.has hT hl0 hn).2 r h1
end
end
end
section
def bmf:List (List Int)->List Rw
 | []=>[[]]
 |c::cs=>c.flatMap fun z=>(bmf cs).map fun r=>z::r
section
variable {N:Nat}{p m:List Fd}{l0 l:List Rw}
def b9r {a b:Rw} {s:AS} {i:Nat} (h:i<b.length):(ij a b s).getD i default=if en s (i:Int)=true then a.getD i default else b.getD i default:=by
 unfold ij;rw[bt1,btm,bus h];rfl
def b2j (C:Nat->List Int) (hd:∀i j z,z∈C i->z∈C j->i=j):Mdl N p m (fun x y=>x=y\/∃i,x∈C i/\y∈C i) (fun r=>r.length=N/\∀i,i<N->r.getD i default∈C i) where
 refl _:=.inl rfl
 symm h:=by
  rcases h with h|⟨i,h,k⟩
  · exact .inl h.symm
  exact .inr ⟨i,k,h⟩
 trans h h2:=by
  rcases h with h|⟨i,h,k⟩
  · rw[h];exact h2
  rcases h2 with h2|⟨j,h2,k2⟩
  · rw[<- h2];exact .inr ⟨i,h,k⟩
  have:=hd i j _ k h2;subst this;exact .inr ⟨i,h,k2⟩
 len h:=h.1
 cong h e h2:=⟨e.trans h.1,fun i hi=>by
  have h3:=h.2 i hi
  rcases h2 i (by rw[h.1];exact hi)with h4|⟨j,h4,h5⟩
  · rw[<- h4];exact h3
  have:=hd i j _ h3 h4;subst this
  exact h5⟩
 fd _ a b ha hb _:=fun i hi _=>.inr ⟨i,ha.2 i (by rw[<- ha.1];exact hi),hb.2 i (by rw[<- ha.1];exact hi)⟩
 mv _ a b ha hb _:=⟨(a0f _ _ _).trans hb.1,fun i hi=>by
  rw[b9r (by rw[hb.1];exact hi)];split
  · exact ha.2 i hi
  exact hb.2 i hi⟩
def bma(N:Nat)(p m:List Fd)(l0:List Rw):Prop:=∀l,vh l->(∀r,r∈l->LR N p m l0 r)->l.length<=256
end
section
variable {p m:List Fd}{l0 l:List Rw}{n:Int}{σ:Int->Int}
def arw{s:St}(h:acf l p m s):bfm l p m s:=by
 obtain⟨h1,h2,h3⟩:=h;refine⟨h1,h2,fun e=>?_,fun e=>?_⟩
 · rcases h3 with⟨_,h,_⟩|⟨h,_⟩
   · exact h
   rw[e]at h;cases h
 rcases h3 with⟨h,_⟩|⟨_,h,_⟩
 · rw[e]at h;cases h
 exact h
theorem Ch.code (h0:tok n l0=true) (hS:bma n.toNat p m l0) (hp:p.all (inU n)=true) (hT:tok n l=true) (h:Ch n.toNat p m l0 l σ) {s:St} (hs:acf l p m s):(j7 n l p m s).2.2=0:=by
 rcases aq0 hT hp hs with e|⟨l',e,_⟩
 · obtain ⟨mu,i,a,b⟩:=s
   obtain⟨ha,hb,hs|hs⟩:=hs
   · obtain ⟨h1,h2,h3⟩:=hs
     cases h1;have h4:j7 n l p m (false,i,a,b)=fdE n l a b (p.getD i default):=rfl;have hg:=(auu hT (btl.1 hp _ (ik h2)) ha hb h3).1;have hg:fdE n l a b (p.getD i default)=(n,fdL l a b (p.getD i default),0):=hg;rw[h4,hg]at e ⊢
   obtain⟨h1,h2,h3⟩:=hs;cases h1;have h4:j7 n l p m (true,i,a,b)=mvE n l a b (m.getD i default):=rfl;have h5:jt l (m.getD i default) a b=true:=h3;unfold jt at h5;rw[bt3]at h5;have h6:mvE n l a b (m.getD i default)=wl n l (ij (l.getD a default) (l.getD b default) ((m.getD i default).lhs|||(m.getD i default).rhs)):=if_pos h5.1;have hl0:∀r,r∈l0->r.length=n.toNat:=fun r hr=>(zz h0 r hr).1
   have h7:=hS (ck (l++[ij (l.getD a default) (l.getD b default) ((m.getD i default).lhs|||(m.getD i default).rhs)])) (a5o _) fun r hr=>by
    rcases btn.1 (ir.1 hr)with h8|h8
    · exact h.rows r h8
    rw[btu.1 h8];exact(aab hl0).mv (ik h2) (h.rows _ (ik ha)) (h.rows _ (ik hb)) (avs hl0 h5.1)
   rw[h4,h6];unfold wl;rw[if_neg bx5]
 rw[e]
def TrZ (n:Int) (p m:List Fd) (lend:List Rw):List Rw->List St->Prop
 |l,[]=>l=lend
 |l,s::r=>tok n l=true/\acf l p m s/\∃l',j7 n l p m s=(n,l',0)/\¬l'=l/\TrZ n p m lend l' r
end
def stC(n:Int)(ps:List AS)(c:Nat):List Int:=if c<n.toNat then(List.range ps.length).map fun i=>stV n i (ps.getD i default) c else[]
section
variable {n:Int}{ps:List AS}{p m:List Fd}
def be6 (h0:0<=n) {i c:Nat} {q:AS} (hc:c<n.toNat):stV n i q c%n=(c:Int):=by
 unfold stV;split
 · exact Int.emod_eq_of_lt bx5 bx5
 have e:n+(i:Int)*n+(c:Int)=(c:Int)+n*(1+(i:Int)):=by rw[Int.mul_add,Int.mul_one,Int.mul_comm (i:Int) n];omega
 rw[e,Int.add_mul_emod_self_left];exact Int.emod_eq_of_lt bx5 bx5
def ahk(h0:0<=n){c:Nat}{z:Int}(h:z∈stC n ps c):c<n.toNat/\z%n=(c:Int):=by
 unfold stC at h;split at h
 · rename_i hc
   obtain⟨i,_,rfl⟩:=bto.1 h;exact⟨hc,be6 h0 hc⟩
 simp at h
def bff (h0:0<=n):∀i j z,z∈stC n ps i->z∈stC n ps j->i=j:=fun i j z h k=>by
 have h1:=(ahk h0 h).2;have h2:=(ahk h0 k).2;omega
def afu {r:Rw} (hr:r∈cq n ps):r.length=n.toNat/\∀i,i<n.toNat->r.getD i default∈stC n ps i:=by
 unfold cq at hr;obtain⟨k,hk,rfl⟩:=bto.1 hr;refine⟨aht _ _ _,fun i hi=>?_⟩;rw[b0z hi];unfold stC;rw[if_pos hi];exact bto.2 ⟨k,hk,rfl⟩
end
end
section
section
variable {n:Int}{ps:List AS}{p m:List Fd}{l l0:List Rw}{σ:Int->Int}
def bi6 {N:Nat} {l l':List Rw} (h:∀r,r∈l<->r∈l') {r:Rw}:LR N p m l r<->LR N p m l' r :=
 ⟨fun k E R hm hl=>k E R hm fun r hr=>hl r ((h r).1 hr),fun k E R hm hl=>k E R hm fun r hr=>hl r ((h r).2 hr)⟩
def b01(h0:0<=n){c:Nat}{z:Int}(h:z∈stC n ps c):z=(c:Int)\/n<=z:=by
 unfold stC at h;split at h
 · obtain ⟨i,_,rfl⟩:=bto.1 h
   unfold stV;split
   · exact .inl rfl
   right;have:=Int.mul_nonneg (show(0:Int)<=(i:Int) by omega) h0;omega
 simp at h
theorem Ch.first (h0:0<=n) (h:Ch n.toNat p m (ck (cq n ps)) l σ):(fc n).map σ=fc n:=by
 refine aip fun z hz=>?_;unfold fc at hz;obtain⟨c,hc,rfl⟩:=bto.1 hz;have hc:=btg.1 hc;have h1:=h.sym (c:Int) _ _ (b2j (stC n ps) (bff h0)) fun r hr=>afu (ir.1 hr)
 rcases h1 with h1|⟨i,h1,h2⟩
 · exact h1.symm
 have h3:=(ahk h0 h1).2;have h4:=Int.emod_eq_of_lt (a:=(c:Int)) (b:=n) bx5 bx5;have h5:i=c:=by omega
 subst h5;have h6:=h.le (i:Int)
 rcases b01 h0 h2 with h7|h7
 · exact h7
 omega
def swI(n z:Int):Int:=if n<=z/\z<2*n then z+n else if 2*n<=z/\z<3*n then z-n else z
abbrev bsn(n:Int)(x:Fd):Fd:=⟨x.lhs,a6 n&&&~~~(x.lhs|||x.rhs)⟩
end
end
section
section
variable {n:Int}{p m:List Fd}{l0 l:List Rw}{σ:Int->Int}
def b6j(hT:tok n l=true)(hp:p.all (inU n)=true)(hm:m=[]){s:St}(hs:acf l p m s):(j7 n l p m s).2.2=0:=by
 obtain⟨mu,i,a,b⟩:=s;obtain⟨ha,hb,hs|hs⟩:=hs
 · obtain ⟨h1,h2,h3⟩:=hs
   cases h1;have h4:j7 n l p m (false,i,a,b)=fdE n l a b (p.getD i default):=rfl;have hg:fdE n l a b (p.getD i default)=(n,fdL l a b (p.getD i default),0):=(auu hT (btl.1 hp _ (ik h2)) ha hb h3).1;rw[h4,hg]
 obtain⟨_,h2,_⟩:=hs;subst hm;exact absurd h2 (bt9 _)
def az2(hl0:∀r,r∈l0->r.length=n.toNat)(hp:p.all (inU n)=true)(Z:List Int):∀(F:Nat) (l:List Rw) (acc:List St) (σ:Int->Int),tok n l=true->Ch n.toNat p m l0 l σ->Cov Z l->muC Z l<F ->
 (l8 F n l p m acc=([],(0,[]),3)/\¬m=[])\/∃sts lend σ',l8 F n l p m acc=(acc++sts,(n,lend),0)/\Ch n.toNat p m l0 lend σ'/\tok n lend=true/\gp lend p m=none/\TrZ n p m lend l sts:=by
 intro F
 induction F with
 |zero=>intro _ _ _ _ _ _ h;exact absurd h (bt9 _)
 | succ F ih =>
  intro l acc σ hT hC hZ hF
  cases hn:gp l p m with
  |none=>exact .inr ⟨[],l,σ,by rw[ae7 bx5 hn,btq],hC,hT,hn,rfl⟩
  | some s =>
   have hs:=aie hn
   rcases aq0 hT hp hs with e|⟨l',e,hT',h3⟩
   · left
     refine⟨aer bx5 hn e bxc,fun hm=>?_⟩;have:=b6j hT hp hm hs;rw[e]at this;exact absurd this bxc
   obtain⟨h4,h5⟩:=h3 Z hZ;obtain⟨_,σ',hC'⟩:=Ch.app hl0 hT hp hC (arw hs) (by rw[e]);rw[e]at hC'
   rcases ih l' (acc++[s]) σ' hT' hC' h4 bx5 with⟨q,q0⟩|⟨sts,lend,σ2,q1,q2,q3,q4,q5⟩
   · left
     exact⟨by rw[a2w bx5 hn e,Nat.add_sub_cancel,q],q0⟩
   right;refine⟨s::sts,lend,σ2, ?_,q2,q3,q4,hT,hs,l',e,fun e=>?_,q5⟩
   · rw [a2w bx5 hn e,Nat.add_sub_cancel,q1,bu4]
     rfl
   subst e;omega
def b0n (hT:tok n l=true) (hb:eo n p m=0):(nb FU n l p m=([],(0,[]),3)/\¬m=[])\/∃sts lend σ,nb FU n l p m=(sts,(n,lend),0)/\Ch n.toNat p m l lend σ/\tok n lend=true/\gp lend p m=none/\TrZ n p m lend l sts:=by
 have hck:ckE n l p m=0:=(if_pos hT).trans hb;rw[abq hck]
 rcases az2 (fun r hr=>(zz hT r hr).1) (wq hb).2.2.2.1 l.flatten FU l [] id hT Ch.start (aqy l) (axr hT)with h|⟨sts,lend,σ',q1,q⟩
 · exact .inl h
 exact .inr ⟨sts,lend,σ',by rw[q1,bwy],q⟩
def trL (n:Int) (p m:List Fd):List Rw->List St->List (List Rw)
 |l,[]=>[l]
 |l,s::r=>l::trL n p m (j7 n l p m s).2.1 r
def aqf:∀{sts:List St} {l lend:List Rw},TrZ n p m lend l sts->lend∈trL n p m l sts
 | [],l,lend,h=>by
  have h:l=lend:=h;subst h;simp[trL]
 | s::r,l,lend,h=>by
  obtain⟨_,_,l',e,_,h⟩:=h;unfold trL;rw[e];exact bub _ (aqf h)
def b1r (hl0:∀r,r∈l0->r.length=n.toNat) (hp:p.all (inU n)=true):∀{sts:List St} {l lend:List Rw} {σ:Int->Int},TrZ n p m lend l sts->tok n lend=true->Ch n.toNat p m l0 l σ->∀t,t∈trL n p m l sts->∃σ,Ch n.toNat p m l0 t σ
 | [],l,lend,σ,h,_,hC,t,ht=>by
  rw[btu.1 (show t∈[l] from ht)];exact⟨σ,hC⟩
 | s::r,l,lend,σ,h,hTe,hC,t,ht=>by
  obtain⟨hT,hs,l',e,_,h⟩:=h;unfold trL at ht;rw[e]at ht
  rcases btd.1 ht with rfl|ht
  · exact⟨σ,hC⟩
  obtain⟨_,σ',hC'⟩:=Ch.app hl0 hT hp hC (arw hs) (by rw[e]);rw[e]at hC';exact b1r hl0 hp h hTe hC' t ht
end
section
variable {n:Int}{ps:List AS}{p m:List Fd}
def ax1(h0:0<=n)(h16:n<=16)(hk:ps.length<=64):tok n (ck (cq n ps))=true:=by
 refine a7d h0 h16 ?_ fun r hr=>?_
 · have:=ak1 (cq n ps)
   rw[zo]at this;omega
 obtain⟨h1,h2⟩:=afu hr;refine⟨h1,fun z hz=>?_⟩;obtain⟨i,hi,rfl⟩:=yj hz
 rcases b01 h0 (h2 i bx5)with h3|h3<;>omega
def ayw(hk:ps.length<=64)(hb:eo n p m=0) :
 (nb FU n (ck (cq n ps)) p m=([],(0,[]),3)/\¬m=[])\/∃sts lend,nb FU n (ck (cq n ps)) p m=(sts,(n,lend),0)/\(fc n∈lend<->LR n.toNat p m (cq n ps) (fc n)) /\
  TrZ n p m lend (ck (cq n ps)) sts/\tok n lend=true/\((∃t,t∈trL n p m (ck (cq n ps)) sts/\fc n∈t)<->fc n∈lend):=by
 obtain⟨h0,h16,_,hp,_⟩:=wq hb;have hT:=ax1 h0 h16 hk;have hl0:∀r,r∈ck (cq n ps)->r.length=n.toNat:=fun r hr=>(zz hT r hr).1
 rcases b0n hT hb with h|⟨sts,lend,σ,h1,h2,h3,h4,h5⟩
 · exact .inl h
 right
 have hf:fc n∈lend<->LR n.toNat p m (ck (cq n ps)) (fc n):=by
  rw[h2.mem h3 hl0 h4];exact⟨fun h=>h.1,fun h=>⟨h,h2.first h0⟩⟩
 refine⟨sts,lend,h1,by rw[hf,bi6 (l':=cq n ps) fun r=>ir],h5,h3, ?_⟩;constructor
 · rintro ⟨t,ht,hft⟩
   obtain⟨σ',hC⟩:=b1r hl0 hp h5 h3 Ch.start t ht;exact hf.2 (hC.rows _ hft)
 intro h;exact⟨lend,aqf h5,h⟩
end
end
end Go.Hx
