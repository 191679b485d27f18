/- A part of the proof: X13 Ch10 Ch11 Ch12 Ch13 X15 Ch14 Ch19 Ch20 Ch21 Ch24 Cc1 Cc2 Cc3. -/
import Derived.Test.YtnlcekpflogjkaaGreatDoorTy23
set_option linter.all false
set_option maxRecDepth 100000
namespace Go.Hx
section
open Go.Proofs
def bhg(n:Int)(ps:List AS):a6 bxn 98 [pI n,pP (asl ps)] (ae [pT (j8 n ps).1 (j8 n ps).2.1,pI (j8 n ps).2.2]):=by
 refine hpx (nt:=73) Tryz.func98 ?_;refine sx7 ?_;refine m9 0 ?_;refine w_9 ?_;refine ak rfl rfl ?_ ?_<;>intro r0
 ·
  have h0:=tz1 r0;(iterate 2 refine k9 (gtf r0) ?_);refine da ?_;refine hrr ?_
  have he:=ame (n:=n) (ps:=ps) bww;exact f9 rfl rfl (by rw[he];exact⟨CoC.agg ⟨CoP.refl _,ed,trivial⟩,CoC.refl _,trivial⟩)
 have h0:=tz2 r0;(iterate 2 refine qy ?_ (hg:=(gff r0)));refine w_3 ?_;refine al _ rfl ?_ ?_<;>intro r1
 · have h1:=tz1 (ax r0 r1);refine w_6 ?_;refine hrr ?_;have he:=ame (n:=n) (ps:=ps) bww;exact f9 rfl rfl (by rw[he];exact⟨CoC.agg ⟨CoP.refl _,ed,trivial⟩,CoC.refl _,trivial⟩)
 have h1:=tz2 (ax r0 r1);refine w_7 ?_;refine hcd ?_ ?_<;>intro h2
 · refine w_6 ?_;refine hrr ?_;have he:=b36 (n:=n) (ps:=ps) bww bww;exact f9 rfl rfl (by rw[he];exact⟨CoC.agg ⟨CoP.refl _,ed,trivial⟩,CoC.refl _,trivial⟩)
 refine w_5 ?_;refine m9 1 ?_;refine w_2 ?_;refine go 1 1 900 true 1 124 (lf rC (b9 n ps)) bx3 rfl rfl (CoP.sl rfl (.inr rfl) (fun h=>h) (fun i j hi _=>absurd hi (bt1 i))) (.inr rfl) rfl rfl ?_;refine w_8 ?_;refine ai (ι:=Nat) (ka 0 (ka 4 (ka 6 (ka 26 (ka 27 kn))))) (kb 0 km) (fun i=>⟨[(28,some (vI i))],[(1,some (.box [.p (.raw (.int .i64 n)), .ref 900 i])),(900,some (.arr true 1 124 i (lf rC (b9 n ps))))]⟩) (fun i=>i<=ps.length/\∀j,j<i->(ps.getD j default)>>>n.toNat=0) (fun i=>ps.length-i) (0) (⟨bsx _,bv⟩) kk ?_;rintro i ⟨hi,hI⟩;refine w_5 ?_;refine hcd ?_ ?_<;>intro h3
 ·
  have hin:=bp7 (n:=n) (i:=i) bww bww bww;refine air ?_;refine hcn ?_ ?_<;>intro h4
  · refine w_6 ?_;refine hrr ?_;have he:=b4h (n:=n) (ps:=ps) (i:=i) bww bww bww (fun e=>absurd (b8p.2 e) bwx);exact f9 rfl rfl (by rw[he];exact⟨CoC.agg ⟨CoP.refl _,ed,trivial⟩,CoC.refl _,trivial⟩)
  refine w_4 ?_;refine m9 2 ?_;refine w_9 ?_;refine br (ka 0 (ka 4 (ka 6 (ka 7 (ka 8 (ka 9 (ka 26 (ka 27 (ka 28 (ka 40 kn)))))))))) (kb 1 (kb 900 (kb 0 km))) (fun k=>⟨[(41,some (vI k))],[(2,some (.arr true 1 3 n.toNat (lf zC (stT n i (ps.getD i default) k))))]⟩) n.toNat ⟨tt,⟨⟨_,rfl,(anl rfl (fun _=>rfl))⟩,trivial⟩⟩ ?_;rintro k hk;refine w_5 ?_;refine hcd ?_ ?_<;>intro h5
  ·
   refine boy ?_;refine hcd ?_ ?_<;>intro h6
   · refine ig ?_;exact lpx (k+1) ⟨tt,⟨⟨_,rfl,(by first|exact b08 ((sa bww).1 bwx) rfl bww bww|exact ay0 (fun e=>absurd ((sa bww).2 e) bwx) rfl bww)⟩,uu⟩⟩
   refine w_5 ?_;exact lpx (k+1) ⟨tt,⟨⟨_,rfl,(by first|exact b08 ((sa bww).1 bwx) rfl bww bww|exact ay0 (fun e=>absurd ((sa bww).2 e) bwx) rfl bww)⟩,uu⟩⟩
  refine ck ?_;refine bh 9 rfl rfl rfl ?_;refine w_4 ?_;refine m9 3 ?_;refine r9 4 true ?_;refine w_7 ?_;refine lpz (i+1) ⟨tt,⟨u9,⟨_,rfl,(wh (fun h=>h) (fun j hj=>by obtain rfl:j=0:=bww;exact b3n bww bww))⟩,uu⟩⟩ ?_;exact⟨by show i+1<=_;omega,bc hI (b8p.1 bwx)⟩
 obtain rfl:i=ps.length:=by omega
 refine w_4 ?_;refine j7 rfl rfl rfl rfl rfl rfl ahn ((agq n (b9 n ps) (by rw[yw];omega))) (⟨⟨CoP.refl _,congrArg (HV.ref 900) (yw _ _).symm,trivial⟩,trivial⟩) ⟨⟨_,rfl,jw rfl (yw _ _).symm⟩,trivial⟩ rfl rfl ?_;refine w_3 ?_;refine hrr ?_;have he:=aqi (n:=n) (ps:=ps) bww bww (fun j hj=>hI j bww);exact f9 rfl rfl (by rw[he];exact CoL.refl _)
end
section
def dy(n:Int):Rw:=(List.range n.toNat).map fun(i:Nat)=>(i:Int)
def afw(n:Int):(dy n).length=n.toNat:=by unfold dy;simp
def aml {n:Int} {i:Nat} {p:AS} {k:Nat} (h:k<n.toNat):(stR n i p).getD k default=stV n i p k:=by
 unfold stR;rw[bsv,btf,bu8 h];rfl
def b8e {s:AS} {n:Int} (h0:0<=n) (h1:n<=16):sub s (aa n)<->s>>>n.toNat=0:=by
 unfold aa;rw[btz bww];exact rp bww
def bni(l:List Rw)(x:Fd)(a b:Nat):Bool:=ou (l.getD a default) (l.getD b default) x.lhs&&!(l.any fun r=>decide (r=ej (l.getD a default) (l.getD b default) x.rhs))
end
section
def Wel(n:Int)(l:List Rw):Prop:=∀r,r∈l->r.length=n.toNat/\∀z,z∈r->0<=z
section
variable {l:List Rw}
def a3r {i:Nat} (h:i<l.length):l.getD i default∈l:=by
 rw[bsv,bsu h];exact bta h
def sb {n:Int} (h:tok n l=true):Wel n l:=by
 obtain⟨h0,h1,h2,h3⟩:=pk h;unfold tok at h;rw[bt5,decide_eq_true_iff,decide_eq_true_iff]at h;rintro r hr;obtain⟨i,hi,rfl⟩:=btt hr;have e:l.getD i default=l[i]:=by rw[bsv,bsu hi];rfl
 rw[<- e];refine⟨h3 i hi,fun z hz=>?_⟩;have:=h.2 i hi;unfold qt at this;rw[bt5,bt5]at this;have h4:=this.1.2;rw[bu4,buk]at h4;have:=h4 z hz;rw[decide_eq_true_iff]at this;omega
def bdb{n:Int}(h:tok n l=true):sm l:=by
 unfold tok at h;rw[bt5,decide_eq_true_iff,decide_eq_true_iff]at h
 have hs:∀d i:Nat,i+d+1<l.length->ltZ (l.getD i default) (l.getD (i+d+1) default)=true:=by
  intro d
  induction d with
  | zero =>
   intro i hi;have:=h.2 (i+1) hi;unfold qt at this;rw[bt5,bud,decide_eq_true_iff]at this
   rcases this.2 with h5|h5
   · omega
   exact h5
  | succ d ih =>
   intro i hi;have h1:=ih i bww;have:=h.2 (i+d+1+1) bww;unfold qt at this;rw[bt5,bud,decide_eq_true_iff]at this
   rcases this.2 with h5|h5
   · omega
   exact oe h1 h5
 unfold sm;rw[bv3];intro i j hi hj hij;obtain⟨d,rfl⟩:∃d,j=i+d+1:=⟨j-i-1,by omega⟩;have:=hs d i hj;rwa [bsv,bsu hi,bsv,bsu hj]at this
def b2f{n:Int}(h0:0<=n)(h1:n<=16)(h2:l.length<=256)(hw:Wel n l)(ho:sm l):tok n l=true:=by
 refine b87 h0 h1 h2 fun i hi=>?_;obtain⟨h3,h4⟩:=hw _ (a3r hi);refine ann bww ?_ ?_
 · rw [buk]
   intro z hz;have:=h4 z hz;rw[decide_eq_true_iff];omega
 rcases buc i with h|h
 · exact .inl h
 right;have:=bv3.1 ho (i-1) i bww hi bww;rw[bsv,bsu bww,bsv,bsu hi];exact this
def a89 {n:Int} (h0:0<=n) (h1:n<=16) (h2:(bn l).length<=256) (hw:Wel n l):tok n (bn l)=true :=
 b2f h0 h1 h2 (fun r hr=>hw r (gt.1 hr)) (vd l)
def inV(l:List Rw)(M:Nat->Nat->Int)(z:Int):Prop:=∃i r,i<l.length/\r<(l.getD i default).length/\M i r=z
def ase{z:Int}:inV l (gp l) z<->∃r,r∈l/\z∈r:=by
 constructor
 · rintro ⟨i,r,hi,hr,rfl⟩
   refine⟨_,a3r hi, ?_⟩;show(l.getD i default).getD r default∈_;rw[bsv (l:=l.getD i default),bsu hr];exact bta hr
 rintro⟨r,hr,hz⟩;obtain⟨i,hi,rfl⟩:=btt hr;obtain⟨k,hk,rfl⟩:=btt hz;have e:l.getD i default=l[i]:=by rw[bsv,bsu hi];rfl
 refine⟨i,k,hi,by rw[e];exact hk, ?_⟩;show(l.getD i default).getD k default=_;rw[e,bsv,bsu hk];rfl
def ac1{M:Nat->Nat->Int}{z:Int}:(∃r,r∈fg l M/\z∈r)<->inV l M z:=by
 constructor
 · rintro ⟨r,hr,hz⟩
   unfold fg at hr;rw[bti]at hr;obtain⟨i,hi,rfl⟩:=hr;rw[bti]at hz;obtain⟨k,hk,rfl⟩:=hz;exact⟨i,k,btj.1 hi,btj.1 hk,rfl⟩
 rintro⟨i,k,hi,hk,rfl⟩;refine⟨(List.range (l.getD i default).length).map (M i), ?_,bti.2 ⟨k,btj.2 hk,rfl⟩⟩;unfold fg;exact bti.2 ⟨i,btj.2 hi,rfl⟩
end
section
variable {l:List Rw}{a b:Nat}(ha:a<l.length)(hb:b<l.length)
theorem ax6(x y:Int):loI x y=x\/loI x y=y:=by unfold loI;split<;>simp
theorem b9h(x y:Int):hiI x y=x\/hiI x y=y:=by unfold hiI;split<;>simp
include ha hb in
theorem bo4 {M:Nat->Nat->Int} {j:Nat} (hja:j<(l.getD a default).length) (hjb:j<(l.getD b default).length) {z:Int} (h:inV l (eqM M a b j) z):inV l M z:=by
 obtain⟨i,r,hi,hr,he⟩:=h;unfold eqM at he;split at he
 · rcases ax6 (M a j) (M b j)with h|h
   · exact⟨a,j,ha,hja,by rw[<- he,h]⟩
   exact⟨b,j,hb,hjb,by rw[<- he,h]⟩
 exact⟨i,r,hi,hr,he⟩
include ha hb in
theorem ap8:∀{js:List Nat} {M:Nat->Nat->Int},(∀j,j∈js->j<(l.getD a default).length/\j<(l.getD b default).length)->∀{z:Int},inV l (eqMs M a b js) z->inV l M z
 | [],_,_,_,h=>h
 |j::js,M,hj,z,h=>bo4 ha hb (hj j bx0).1 (hj j bx0).2 (ap8 (js:=js) (M:=eqM M a b j) (fun k hk=>hj k (by simp[hk])) h)
include ha hb in
theorem akf:∀{js:List Nat} {M:Nat->Nat->Int},(∀j,j∈js->j<(l.getD a default).length/\j<(l.getD b default).length)->(∃j,j∈js/\¬M a j=M b j)->∃z,inV l M z/\¬inV l (eqMs M a b js) z
 | [],_,_,⟨_,h,_⟩=>by simp at h
 | j :: js,M,hj,⟨k,hk,hne⟩=>by
  by_cases e:M a j=M b j
  · have e2:eqMs M a b (j::js)=eqMs M a b js:=by
     show eqMs (eqM M a b j) a b js=_;rw[acd e]
    rw[e2];refine akf (fun k hk=>hj k (by simp[hk])) ⟨k, ?_,hne⟩
    rcases bt7.1 hk with h|h
    · subst h;exact absurd e hne
    exact h
  refine⟨hiI (M a j) (M b j), ?_,fun h=>?_⟩
  · rcases b9h (M a j) (M b j)with h|h
    · exact⟨a,j,ha,(hj j bx0).1,h.symm⟩
    exact⟨b,j,hb,(hj j bx0).2,h.symm⟩
  obtain⟨i,r,hi,hr,he⟩:=ap8 ha hb (fun k hk=>hj k (by simp[hk])) (show inV l (eqMs (eqM M a b j) a b js) _ from h);unfold eqM at he;split at he
  · unfold hiI loI at he
    split at he<;>split at he<;>omega
  rename_i h2;exact h2 he
end
def ah2(Z:List Int)(l:List Rw):Nat:=Z.countP fun z=>l.any fun r=>decide (z∈r)
def muC(Z:List Int)(l:List Rw):Nat:=ah2 Z l*300+(300-l.length)
def Cov(Z:List Int)(l:List Rw):Prop:=∀r,r∈l->∀z,z∈r->z∈Z
def zi {l:List Rw} {z:Int}:(l.any fun r=>decide (z∈r))=true<->∃r,r∈l/\z∈r:=by
 rw[bu1];exact⟨fun⟨r,h,h2⟩=>⟨r,h,of_decide_eq_true h2⟩,fun⟨r,h,h2⟩=>⟨r,h,decide_eq_true h2⟩⟩
def countP_lt' {p q:Int->Bool}:∀{Z:List Int},(∀z,p z=true->q z=true)->(∃z,z∈Z/\q z=true/\p z=false)->Z.countP p<Z.countP q
 | [],_,⟨_,h,_⟩=>by simp at h
 | x :: Z,h,⟨z,hz,hq,hp⟩=>by
  have hm:Z.countP p<=Z.countP q:=List.countP_mono_left fun z _=>h z;rw[bw4,bw4]
  rcases bt7.1 hz with rfl|hz
  · rw [hq,hp]
    simp only[if_true,buv,if_false];omega
  have:=countP_lt' (Z:=Z) h ⟨z,hz,hq,hp⟩;by_cases e:p x=true
  · rw[e,h x e];omega
  rw[if_neg e];omega
def bc3 {Z:List Int} {l l':List Rw} (h:∀z,(∃r,r∈l'/\z∈r)->∃r,r∈l/\z∈r) (h2:∃z,z∈Z/\(∃r,r∈l/\z∈r)/\¬ ∃r,r∈l'/\z∈r):ah2 Z l'<ah2 Z l:=by
 refine countP_lt' (fun z hz=>zi.2 (h z (zi.1 hz))) ?_;obtain⟨z,h3,h4,h5⟩:=h2;exact⟨z,h3,zi.2 h4,by rw[btb];exact fun e=>h5 (zi.1 e)⟩
def bdz {Z:List Int} {l l':List Rw} (h:∀z,(∃r,r∈l'/\z∈r)->∃r,r∈l/\z∈r):ah2 Z l'<=ah2 Z l :=
 List.countP_mono_left fun z _ hz=>zi.2 (h z (zi.1 hz))
end
section
def amw {r:Rw}:∀{l:List Rw},r∉l->(ly r l).length=l.length+1
 | [],_=>rfl
 | y::l,h=>by
  unfold ly;have h1:¬r=y:=fun e=>h (by rw[e];simp);have h2:=amw (l:=l) (r:=r) fun e=>h (by simp[e]);rw[if_neg h1];split
  · simp
  simp only[bto];omega
def b0b {l:List Rw} {r:Rw} (ho:sm l):bn (l++[r])=ly r l:=by
 have e:l=bn l:=aqx ho fun _=>Iff.rfl
 have:bn (l++[r])=ly r (bn l):=by
  unfold bn;rw[btq];rfl
 rw[this,<- e]
section
variable {n:Int}{l:List Rw}{a b:Nat}{x:Fd}
abbrev fdL(l:List Rw)(a b:Nat)(x:Fd):List Rw:=bn (fg l (eqMs (gp l) a b (am x.rhs)))
def axq(hT:tok n l=true)(hu:inU n x=true)(ha:a<l.length)(hb:b<l.length)(hs:iu l x a b=true) :
 fdE n l a b x=(n,fdL l a b x,0)/\tok n (fdL l a b x)=true/\(∀z,(∃r,r∈fdL l a b x/\z∈r)->∃r,r∈l/\z∈r)/\∀Z,Cov Z l->muC Z (fdL l a b x)<muC Z l:=by
 obtain⟨h0,h1,h2,h3⟩:=pk hT;have hw:=sb hT;unfold iu at hs;rw[bt5,bu4]at hs;obtain⟨hl,hr⟩:=hs
 have hj:∀j,j∈am x.rhs->j<(l.getD a default).length/\j<(l.getD b default).length:=fun j hj=>by
  have:=aga h0 h1 hu hj;exact⟨by rw[h3 a ha];exact this,by rw[h3 b hb];exact this⟩
 have hV:∀z,(∃r,r∈fdL l a b x/\z∈r)->∃r,r∈l/\z∈r:=fun z ⟨r,hr,hz⟩=>ase.1 (ap8 ha hb hj (ac1.1 ⟨r,gt.1 hr,hz⟩));have hlen:(fdL l a b x).length<=l.length:=btc (ajf _) (bwe (s7 _ _));refine⟨if_pos hl,a89 h0 h1 (btc hlen h2) (fun r hr=>⟨?_,fun z hz=>?_⟩),hV,fun Z hZ=>?_⟩
 · unfold fg at hr
   rw[bti]at hr;obtain⟨i,hi,rfl⟩:=hr;rw[btn,bwq];exact h3 i (btj.1 hi)
 · obtain ⟨r2,h5,h6⟩:=hV z ⟨r,gt.2 hr,hz⟩
   exact(hw r2 h5).2 z h6
 have hne:∃j,j∈am x.rhs/\¬gp l a j=gp l b j:=by
  apply Classical.byContradiction;intro hno;rw[a7z]at hr
  · cases hr
  intro i hi hh;apply Classical.byContradiction;intro e
  have hi2:i<32:=by
   have:=h3 a ha;omega
  rw[c9 hi2]at hh;exact hno ⟨i,oc.2 ⟨hi2,hh⟩,e⟩
 obtain⟨z,hz1,hz2⟩:=akf ha hb hj hne;have hz3:=ase.1 hz1;have:=bc3 (Z:=Z) hV ⟨z,by obtain⟨r,h7,h8⟩:=hz3;exact hZ r h7 z h8,hz3,fun⟨r,h7,h8⟩=>hz2 (ac1.1 ⟨r,gt.1 h7,h8⟩)⟩;unfold muC;omega
abbrev mvL(l:List Rw)(a b:Nat)(x:Fd):List Rw:=bn (l++[ej (l.getD a default) (l.getD b default) (x.lhs|||x.rhs)])
def blw(hT:tok n l=true)(ha:a<l.length)(hb:b<l.length)(hs:iq l x a b=true) :
 mvE n l a b x=(0,[],3)\/(mvE n l a b x=(n,mvL l a b x,0)/\tok n (mvL l a b x)=true/\(∀z,(∃r,r∈mvL l a b x/\z∈r)->∃r,r∈l/\z∈r)/\∀Z,Cov Z l->muC Z (mvL l a b x)<muC Z l):=by
 obtain⟨h0,h1,h2,h3⟩:=pk hT;have hw:=sb hT;unfold iq at hs;rw[bt5,bu4]at hs;obtain⟨hl,hr⟩:=hs;have hno:=bdy hr;have hE:mvE n l a b x=vb n l (ej (l.getD a default) (l.getD b default) (x.lhs|||x.rhs)):=if_pos hl;by_cases hbig:256<(mvL l a b x).length
 · left
   rw[hE];exact if_pos hbig
 right
 have hmem:∀z,z∈ej (l.getD a default) (l.getD b default) (x.lhs|||x.rhs)->z∈l.getD a default\/z∈l.getD b default:=fun z hz=>by
  unfold ej at hz;rw[bti]at hz;obtain⟨i,hi,rfl⟩:=hz;have hi:=btj.1 hi;have hi2:i<(l.getD a default).length:=by rw[h3 a ha,<- h3 b hb];exact hi
  split
  · left
    rw[bsv (l:=l.getD a default),bsu hi2];exact bta hi2
  right;rw[bsv (l:=l.getD b default),bsu hi];exact bta hi
 have hV:∀z,(∃r,r∈mvL l a b x/\z∈r)->∃r,r∈l/\z∈r:=fun z ⟨r,hr,hz⟩=>by
  rcases btd.1 (gt.1 hr)with h|h
  · exact⟨r,h,hz⟩
  rw[bte]at h;subst h
  rcases hmem z hz with h|h
  · exact⟨_,a3r ha,h⟩
  exact⟨_,a3r hb,h⟩
 refine⟨by rw[hE];exact if_neg hbig,a89 h0 h1 (bwu fun e=>hbig e) (fun r hr=>⟨?_,fun z hz=>?_⟩),hV,fun Z hZ=>?_⟩
 · rcases btd.1 hr with h|h
   · exact(hw r h).1
   rw[bte]at h;subst h;rw[jx];exact h3 b hb
 · obtain ⟨r2,h5,h6⟩:=hV z ⟨r,gt.2 hr,hz⟩
   exact(hw r2 h5).2 z h6
 have e:(mvL l a b x).length=l.length+1:=by
  show(bn _).length=_;rw[b0b (bdb hT),amw hno]
 have:=bdz (Z:=Z) hV;unfold muC;omega
end
def ay7 {α:Type} {f:Nat->Option α}:∀{n:Nat} {x:α},(List.range n).findSome? f=some x->∃k,k<n/\f k=some x:=fun {n x} h=>by
 obtain⟨k,hk,e⟩:=bvi h;exact⟨k,btj.1 hk,e⟩
def ag7 {P:Nat->Nat->Nat->Bool} {I L i a b:Nat} (h:np P I L=some (i,a,b)):i<I/\a<L/\b<L/\P i a b=true:=by
 obtain⟨i',hi,h⟩:=ay7 h;obtain⟨a',ha,h⟩:=ay7 h;rw[Option.map_eq_some_iff]at h;obtain⟨b',hb,e⟩:=h;simp only[bt2]at e;obtain⟨rfl,rfl,rfl⟩:=e;exact⟨hi,ha,btj.1 (List.mem_of_find?_eq_some hb),by simpa using List.find?_some hb⟩
def a28(l:List Rw)(p m:List Fd)(s:St):Prop:=s.2.2.1<l.length/\s.2.2.2<l.length/\((s.1=false/\s.2.1<p.length/\iu l (p.getD s.2.1 default) s.2.2.1 s.2.2.2=true)\/(s.1=true/\s.2.1<m.length/\iq l (m.getD s.2.1 default) s.2.2.1 s.2.2.2=true))
section
variable {l:List Rw}{m p:List Fd}
def ahy{s:St}(h:gf l p m=some s):a28 l p m s:=by
 unfold gf at h;split at h
 · rename_i x e
   simp only[bst]at h;subst h;obtain⟨i,a,b⟩:=x;obtain⟨h1,h2,h3,h4⟩:=ag7 e;exact⟨h2,h3, .inl ⟨rfl,h1,h4⟩⟩
 rw[Option.map_eq_some_iff]at h;obtain⟨⟨i,a,b⟩,e,rfl⟩:=h;obtain⟨h1,h2,h3,h4⟩:=ag7 e;exact⟨h2,h3, .inr ⟨rfl,h1,h4⟩⟩
def dx(n:Int)(l:List Rw)(p m:List Fd)(s:St):Int×List Rw×Int:=if s.1=true then mvE n l s.2.2.1 s.2.2.2 (m.getD s.2.1 default)else fdE n l s.2.2.1 s.2.2.2 (p.getD s.2.1 default)
def aqo{n:Int}{s:St}(hT:tok n l=true)(hp:p.all (inU n)=true)(h:a28 l p m s):
 dx n l p m s=(0,[],3)\/∃l',dx n l p m s=(n,l',0)/\tok n l'=true/\(∀Z,Cov Z l->Cov Z l'/\muC Z l'<muC Z l):=by
 obtain⟨ha,hb,h|h⟩:=h
 · obtain ⟨h1,h2,h3⟩:=h
   have hu:inU n (p.getD s.2.1 default)=true:=btl.1 hp _ (by rw[bsv,bsu h2];exact bta h2);obtain⟨e,h4,h5,h6⟩:=axq hT hu ha hb h3;exact .inr ⟨_,by unfold dx;rw[if_neg (by rw[h1];decide)];exact e,h4,fun Z hZ=>⟨fun r hr z hz=>by obtain⟨r2,h7,h8⟩:=h5 z ⟨r,hr,hz⟩;exact hZ r2 h7 z h8,h6 Z hZ⟩⟩
 obtain⟨h1,h2,h3⟩:=h
 rcases blw hT ha hb h3 with e|⟨e,h4,h5,h6⟩
 · exact .inl (by unfold dx;rw[if_pos h1];exact e)
 exact .inr ⟨_,by unfold dx;rw[if_pos h1];exact e,h4,fun Z hZ=>⟨fun r hr z hz=>by obtain⟨r2,h7,h8⟩:=h5 z ⟨r,hr,hz⟩;exact hZ r2 h7 z h8,h6 Z hZ⟩⟩
def j6:Nat->Int->List Rw->List Fd->List Fd->List St->List St×(Int×List Rw)×Int
 |0,_,_,_,_,_=>([],(0,[]),0)
 | f + 1,n,l,p,m,acc =>
  match gf l p m with
  |none=>(acc,(n,l),0)
  | some s=>match dx n l p m s with
   |(n',l',e)=>if e=0 then j6 f n' l' p m (acc++[s]) else([],(0,[]),e)
variable {acc:List St}
def adw {f:Nat} {n:Int} (hf:0<f) (h:gf l p m=none):j6 f n l p m acc=(acc,(n,l),0):=by
 obtain⟨g,rfl⟩:∃g,f=g+1:=⟨f-1,by omega⟩;unfold j6;rw[h]
def af5 {f:Nat} {n:Int} {s:St} (hf:0<f) (h:gf l p m=some s) {n' e:Int} {l':List Rw} (h2:dx n l p m s=(n',l',e)) (he:¬e=0):j6 f n l p m acc=([],(0,[]),e):=by
 obtain⟨g,rfl⟩:∃g,f=g+1:=⟨f-1,by omega⟩;unfold j6;rw[h];simp only;rw[h2];simp only;rw[if_neg he]
def a2g {f:Nat} {n:Int} {s:St} (hf:0<f) (h:gf l p m=some s) {n':Int} {l':List Rw} (h2:dx n l p m s=(n',l',0)):j6 f n l p m acc=j6 (f-1) n' l' p m (acc++[s]):=by
 obtain⟨g,rfl⟩:∃g,f=g+1:=⟨f-1,by omega⟩;rw[Nat.add_sub_cancel]
 conv=>lhs;unfold j6
 rw[h];simp only;rw[h2];simp only;rw[if_pos trivial]
end
end
section
open Go.Proofs
def biq(n:Int)(l:List Rw)(p m:List Fd)(s:St)(hT:tok n l=true)(hp:p.all (inU n)=true)(h:a28 l p m s) :
 a6 bxn 147 [pT n l,pP (fdl p),pP (fdl m),s.pc] (ae [pT (dx n l p m s).1 (dx n l p m s).2.1,pI (dx n l p m s).2.2]):=by
 obtain⟨mu,i,a,b⟩:=s;obtain⟨ha,hb,h|h⟩:=h
 · obtain ⟨h1,h2,h3⟩:=h
   cases h1;exact aty n l p m i a b hT ha hb h2 (btl.1 hp _ (by rw[bsv,bsu h2];exact bta h2))
 obtain⟨h1,h2,h3⟩:=h;cases h1;exact aug n l p m i a b hT ha hb h2
abbrev St.c(s:St):Nat->PV:=fun j=>[.raw (.bool s.1), .raw (.int .i64 (s.2.1:Int)), .raw (.int .i64 (s.2.2.1:Int)), .raw (.int .i64 (s.2.2.2:Int))].getD j .any
abbrev stl(l:List St):PV:=psl 4 St.c l
abbrev ckE(n:Int)(l:List Rw)(p m:List Fd):Int:=if tok n l=true then dc n p m else 1
section
variable {l:List Rw}{m p:List Fd}{n:Int}
def ar1(h:ckE n l p m=0):tok n l=true/\dc n p m=0/\p.all (inU n)=true:=by
 unfold ckE at h;by_cases e:tok n l=true
 · rw [if_pos e]at h
   exact⟨e,h,(uv h).2.2.2.1⟩
 rw[if_neg e]at h;omega
def mj(F:Nat)(n:Int)(l:List Rw)(p m:List Fd):List St×(Int×List Rw)×Int:=if ckE n l p m=0 then j6 F n l p m [] else([],(0,[]),ckE n l p m)
variable {F:Nat}
def b53(h:¬ckE n l p m=0):mj F n l p m=([],(0,[]),ckE n l p m):=if_neg h
def a4m(h:ckE n l p m=0):mj F n l p m=j6 F n l p m []:=if_pos h
def bbs{α:Type}{o:Option α}(h:o.isSome=false):o=none:=by cases o<;>simp_all
def bcb{α:Type}{o:Option α}(d:α)(h:o.isSome=true):o=some (o.getD d):=by cases o<;>simp_all
def aly(l:List Rw):Cov l.flatten l:=fun r hr z hz=>List.mem_flatten.2 ⟨r,hr,hz⟩
structure StI (F:Nat) (n:Int) (l:List Rw) (p m:List Fd) (x:Nat×List Rw×List St):Prop where
 t:tok n x.2.1=true
 c:Cov l.flatten x.2.1
 u:muC l.flatten x.2.1<x.1
 b:x.2.2.length+x.1<=F
 e:j6 x.1 n x.2.1 p m x.2.2=j6 F n l p m []
theorem StI.start(hT:tok n l=true)(hF:muC l.flatten l<F):StI F n l p m (F,l,[]):=⟨hT,aly l,hF,by simp,rfl⟩
variable {x:Nat×List Rw×List St}
theorem StI.next {s:St} (h:StI F n l p m x) (hp:p.all (inU n)=true) (hS:gf x.2.1 p m=some s) (he:(dx n x.2.1 p m s).2.2=0):
 (dx n x.2.1 p m s).1=n/\StI F n l p m (x.1-1,(dx n x.2.1 p m s).2.1,x.2.2++[s]):=by
 have hu:=h.u;have hb:=h.b
 rcases aqo h.t hp (ahy hS)with e|⟨l',e,h1,h2⟩
 · rw[e]at he;exact absurd he bx3
 have hq:=h2 _ h.c;refine⟨by rw[e], ?_⟩;rw[e];exact⟨h1,hq.1,by show muC _ l'<_;omega,by simp only[bsy,bub];omega,by rw[<- h.e,a2g bww hS e]⟩
theorem StI.fin (h:StI F n l p m x) (hS:gf x.2.1 p m=none):j6 F n l p m []=(x.2.2,(n,x.2.1),0):=by
 have hu:=h.u;rw[<- h.e,adw bww hS]
theorem StI.err {s:St} (h:StI F n l p m x) (hS:gf x.2.1 p m=some s) (he:¬(dx n x.2.1 p m s).2.2=0):j6 F n l p m []=([],(0,[]),(dx n x.2.1 p m s).2.2):=by
 have hu:=h.u;rw[<- h.e];exact af5 bww hS rfl he
end
end
section
open Go.Proofs
def bgr(F:Nat)(n:Int)(l:List Rw)(p m:List Fd)(hF:tok n l=true->muC l.flatten l<F)(hFb:F<=4000000000):a6 bxn 142 [pT n l,pP (fdl p),pP (fdl m)] (ae [pP (stl (mj F n l p m).1),pT (mj F n l p m).2.1.1 (mj F n l p m).2.1.2,pI (mj F n l p m).2.2]):=by
 refine hpx (nt:=53) Tryz.func142 ?_;refine sx7 ?_;refine m9 0 ?_;refine qy ?_;refine m9 1 ?_;refine w_8 ?_;refine qcx agj (abu n l p m) ?_;refine w_7 ?_;refine hcn ?_ ?_<;>intro h0
 · refine w_8 ?_;refine hrr ?_;have he:=b53 (F:=F) (n:=n) (l:=l) (p:=p) (m:=m) bwx;exact f9 rfl rfl (by rw[he];exact⟨CoC.one (CoP.sl rfl (.inr rfl) (fun _=>rfl) (fun i j hi _=>absurd hi (bt1 i))),CoC.agg ⟨CoP.refl _,ed,trivial⟩,CoC.refl _,trivial⟩)
 have hck:ckE n l p m=0:=by assumption
 obtain⟨hT,hbe,hpa⟩:=ar1 hck;obtain⟨hn0,hn16,hl256,hrow⟩:=pk hT;have hbig:∀i,i<l.length->(l.getD i default).length<=17592186044416:=fun i hi=>by rw[hrow i hi];omega
 refine w_4 ?_;refine qcx ags (b3d n l hbig bww) ?_;refine w_6 ?_;refine d4 10 900 true 4 151 (lf St.c []) bx3 rfl (CoP.sl rfl (.inr rfl) (fun h=>h) (fun i j hi _=>absurd hi (bt1 i))) (.inr rfl) rfl ?_;refine a4s ?_;refine ai (ι:=Nat×List Rw×List St) (ka 1 (ka 2 (ka 3 (ka 7 kn)))) (kb 1 km) (fun x=>⟨[(10,some (.v (.one (.ref 900 x.2.2.length))))],[(0,some (.box [.p (.raw (.int .i64 n)), .p (rl x.2.1)])),(900,some (.arr true 4 151 x.2.2.length (lf St.c x.2.2)))]⟩) (fun x=>StI F n l p m x) (fun x=>x.1) ((F,l,[])) (StI.start hT (hF hT)) kk ?_;rintro x hX;have hXu:=hX.u;have hXb:=hX.b;refine w_6 ?_;refine qcx (wgx Tryz.func190) (bh4 n x.2.1 p m hX.t) ?_;refine w_3 ?_;refine m9 2 ?_;refine w_9 ?_;refine hcv ?_ ?_<;>intro h1
 · have hS:=bbs (by simpa using h1);refine w_9 ?_;refine bh 6 rfl rfl rfl ?_;refine hrr ?_;have he:=(a4m hck).trans (hX.fin hS);exact f9 rfl rfl (by rw[he];exact CoL.refl _)
 have hS:=bcb (false,0,0,0) (by simpa using h1);refine w_7 ?_;refine qcx ahf (biq n x.2.1 p m ((gf x.2.1 p m).getD (false,0,0,0)) hX.t hpa (ahy hS)) ?_;refine w_3 ?_;refine m9 3 ?_;refine w_9 ?_;refine hcn ?_ ?_<;>intro h2
 · refine w_8 ?_;refine hrr ?_;have he:=(a4m hck).trans (hX.err hS bwx);exact f9 rfl rfl (by rw[he];exact⟨CoC.one (CoP.sl rfl (.inr rfl) (fun _=>rfl) (fun i j hi _=>absurd hi (bt1 i))),CoC.agg ⟨CoP.refl _,ed,trivial⟩,CoC.refl _,trivial⟩)
 have hnx:=hX.next hpa hS bwx
 refine w_4 ?_;refine m9 4 ?_;refine r9 5 true ?_;refine w_5 ?_;refine⟨(x.1-1,(dx n x.2.1 p m ((gf x.2.1 p m).getD (false,0,0,0))).2.1,x.2.2++[((gf x.2.1 p m).getD (false,0,0,0))]), ?_, ?_, ?_⟩
 · exact hnx.2
 · show x.1-1<x.1
   omega
 exact⟨⟨⟨_,rfl,(bq rfl)⟩,tt⟩,⟨⟨_,rfl,⟨CoP.of_eq (by rw[hnx.1]),CoH.refl _,trivial⟩⟩,⟨_,rfl,(vw rfl (fun j hj=>by match j,hj with|0,_=>exact CoP.refl _|1,_=>exact CoP.refl _|2,_=>exact CoP.refl _|3,_=>exact CoP.refl _) rfl)⟩,uu⟩⟩
end
section
def ap5:∀{l:List Rw},(∀r,r∈l->r.length<=16)->l.flatten.length<=16*l.length
 | [],_=>by simp
 | r::l,h=>by
  have h1:=h r bx0;have h2:=ap5 (l:=l) fun r hr=>h r (by simp[hr]);simp only[List.flatten_cons,bsy,bto];omega
abbrev FU:Nat:=1300000
def az6 {n:Int} {l:List Rw} (h:tok n l=true):muC l.flatten l<FU:=by
 obtain⟨h0,h1,h2,h3⟩:=pk h;have h4:=ap5 (l:=l) fun r hr=>by have:=(sb h r hr).1;omega
 have h5:ah2 l.flatten l<=l.flatten.length:=List.countP_le_length;unfold muC;show _<1300000;omega
def bji{n:Int}{i:Nat}{p:AS}{k a N:Nat}(h:bu p (k:Int)=true)(hN:N=n.toNat)(ha:a=k) :
 CoO (.arr true 1 3 N (eu (lf zC (stT n i p k)) a 0 [.raw (.int .i64 (k:Int))])) (.arr true 1 3 N (lf zC (stT n i p (k+1)))):=by
 subst ha;refine⟨fun h=>h,rfl,rfl,rfl,fun c j hc hj=>CoP.of_eq ?_⟩;obtain rfl:j=0:=by omega
 show _=PV.raw (.int .i64 ((stT n i p (a+1)).getD c default));rw[ad9 c bww];unfold eu;by_cases e:c=a
 · rw [if_pos ⟨e,by omega,by simp⟩,if_pos e]
   unfold stV;rw[if_pos h];rfl
 rw[if_neg (fun x=>e x.1),if_neg e];rfl
def b2l {k:Nat} (h:k<32):bu (kc 32) (k:Int)=true:=by
 rw[c9 h,mh 32 k h];exact decide_eq_true h
def b2z {n:Int} {k:Nat} (h1:n<=16) (hk:n.toNat<=k):stT n 0 (kc 32) k=dy n:=by
 rw[av7 _ _ _ hk];unfold stR dy;refine bvc fun c hc=>?_;have:=btj.1 hc;unfold stV;rw[if_pos (b2l bww)]
def ayy {n:Int} {k:Nat} (h1:n<=16) (hk:n.toNat<=k):CoC (.one (.sl n.toNat 1 false (lf zC (stT n 0 (kc 32) k)))) (pZ (dy n)):=by
 rw[b2z h1 hk];exact b93 (afw n)
abbrev a1a(n:Int)(x:Fd):List AS:=[x.lhs|||x.rhs,x.lhs|||(aa n&&&~~~x.rhs)]
def bqu(n:Int)(p m:List Fd)(x:Fd):Bool×Int :=
 if dc n p m=0 then
  if inU n x=true then
   if (j8 n (a1a n x)).2.2=0 then
    if(mj FU (j8 n (a1a n x)).1 (j8 n (a1a n x)).2.1 p m).2.2=0 then((mj FU (j8 n (a1a n x)).1 (j8 n (a1a n x)).2.1 p m).2.1.2.any (fun r=>decide (r=dy n)),0)
    else(false,(mj FU (j8 n (a1a n x)).1 (j8 n (a1a n x)).2.1 p m).2.2)
   else(false,(j8 n (a1a n x)).2.2)
  else(false,1)
 else(false,dc n p m)
end
section
open Go.Proofs
def muK(p:List Fd)(k:Nat):Bool:=decide (p.length<=k)
def ixK(p:List Fd)(k:Nat):Nat:=if p.length<=k then k-p.length else k
def chE(l:List Rw)(p m:List Fd)(s:St):Bool:=if s.1=true then bni l (m.getD s.2.1 default) s.2.2.1 s.2.2.2 else iu l (p.getD s.2.1 default) s.2.2.1 s.2.2.2
def bmp(l:List Rw)(p m:List Fd)(k a b:Nat):Bool:=decide (a≠b)&&chE l p m (muK p k,ixK p k,a,b)
def br0(l:List Rw)(p m:List Fd):Option St:=(np (bmp l p m) (p.length+m.length) l.length).map fun x=>(muK p x.1,ixK p x.1,x.2.1,x.2.2)
section
variable {l:List Rw}{p m:List Fd}{k a b:Nat}
end
end
section
def a9w {s t:AS} {i:Nat}:bu (s|||t) (i:Int)=(bu s (i:Int)||bu t (i:Int)):=by
 by_cases h:i<32
 · rw[c9 h,c9 h,c9 h,bv7]
 rw[a0n bww,a0n bww,a0n bww];rfl
def b4z (a:Rw) (s:AS):ej a a s=a:=by
 refine o8 (jx a a s) fun j hj=>?_;rw[jx]at hj;unfold ej;rw[bsv,btf,bu8 hj];show(if bu s (j:Int)=true then a.getD j default else a.getD j default)=_;split<;>rfl
def aw6{l:List Rw}{x:Fd}{a:Nat}:iu l x a a=false:=ad6 (a7z fun _ _ _=>rfl)
def aw8 {l:List Rw} {x:Fd} {a:Nat} (ha:a<l.length):iq l x a a=false:=by
 refine act ?_;rw[b4z,bu1];exact⟨_,a3r ha,decide_eq_true rfl⟩
end
section
def lh(l:List Rw)(p m:List Fd)(mu:Bool)(i a b:Int):Prop:=a<0\/(l.length:Int)<=a\/b<0\/(l.length:Int)<=b\/a=b\/i<0\/(mu=true/\(m.length:Int)<=i)\/(mu=false/\(p.length:Int)<=i)
instance (l:List Rw)(p m:List Fd)(mu:Bool)(i a b:Int):Decidable (lh l p m mu i a b):=by unfold lh;infer_instance
def bdS{l:List Rw}{p m:List Fd}{mu:Bool}{i a b:Int}(h:lh l p m mu i a b:=by unfold lh;first|exact .inl bww|exact .inr (.inl bww)|exact .inr (.inr (.inl bww))|exact .inr (.inr (.inr (.inl bww)))|exact .inr (.inr (.inr (.inr (.inl bww))))|exact .inr (.inr (.inr (.inr (.inr (.inl bww)))))|exact .inr (.inr (.inr (.inr (.inr (.inr (.inl ⟨by first|rfl|assumption|simp_all,by omega⟩))))))|exact .inr (.inr (.inr (.inr (.inr (.inr (.inr ⟨by first|rfl|assumption|simp_all,by omega⟩))))))):lh l p m mu i a b:=h
def lb (n:Int) (l:List Rw) (p m:List Fd) (mu:Bool) (i a b:Int):Int×List Rw×Int :=
 if ckE n l p m=0 then if lh l p m mu i a b then(0,[],1)else dx n l p m (mu,i.toNat,a.toNat,b.toNat) else(0,[],ckE n l p m)
section
variable {n:Int}{l:List Rw}{p m:List Fd}{mu:Bool}{i a b:Int}
end
end
section
def bc6 {n:Int} (h0:0<=n) (h1:n<=16) {x:Fd}:inU n x=true<->sub (x.lhs|||x.rhs) (aa n):=by
 rw[b8e h0 h1];unfold inU;rw[decide_eq_true_iff]
end
section
def AgE(E:Int->Int->Prop)(a b:Rw)(s:AS):Prop:=∀i:Nat,i<a.length->bu s (i:Int)=true->E (a.getD i default) (b.getD i default)
structure Mdl (N:Nat) (p m:List Fd) (E:Int->Int->Prop) (R:Rw->Prop):Prop where
 refl:∀x,E x x
 symm:∀{x y},E x y->E y x
 trans:∀{x y z},E x y->E y z->E x z
 len:∀{r},R r->r.length=N
 cong:∀{r r':Rw},R r->r'.length=r.length->(∀i,i<r.length->E (r.getD i default) (r'.getD i default))->R r'
 fd:∀{x},x∈p->∀{a b},R a->R b->AgE E a b x.lhs->AgE E a b x.rhs
 mv:∀{x},x∈m->∀{a b},R a->R b->AgE E a b x.lhs->R (ej a b (x.lhs|||x.rhs))
def LE(N:Nat)(p m:List Fd)(l:List Rw)(x y:Int):Prop:=∀E R,Mdl N p m E R->(∀r,r∈l->R r)->E x y
def LR(N:Nat)(p m:List Fd)(l:List Rw)(r:Rw):Prop:=∀E R,Mdl N p m E R->(∀r,r∈l->R r)->R r
def b9x (N:Nat) (p m:List Fd):Mdl N p m (fun _ _=>True) (fun r=>r.length=N) :=
 ⟨fun _=>trivial,fun _=>trivial,fun _ _=>trivial,fun h=>h,fun h e _=>e.trans h,fun _ _ _ _ _ _ _ _ _=>trivial,fun _ a b _ hb _=>(jx _ _ _).trans hb⟩
def a9d {N:Nat} {p m:List Fd} {l:List Rw} (hl:∀r,r∈l->r.length=N):Mdl N p m (LE N p m l) (LR N p m l) where
 refl x:=fun E R h _=>h.refl x
 symm h:=fun E R k kl=>k.symm (h E R k kl)
 trans h h2:=fun E R k kl=>k.trans (h E R k kl) (h2 E R k kl)
 len h:=h _ _ (b9x N p m) hl
 cong h e h2:=fun E R k kl=>k.cong (h E R k kl) e fun i hi=>h2 i hi E R k kl
 fd hx _ _ ha hb hl:=fun i hi hs E R k kl=>k.fd hx (ha E R k kl) (hb E R k kl) (fun j hj hh=>hl j hj hh E R k kl) i hi hs
 mv hx _ _ ha hb hl:=fun E R k kl=>k.mv hx (ha E R k kl) (hb E R k kl) fun j hj hh=>hl j hj hh E R k kl
structure Ch (N:Nat) (p m:List Fd) (l0 l:List Rw) (σ:Int->Int):Prop where
 rows:∀r,r∈l->LR N p m l0 r
 sym:∀s,LE N p m l0 s (σ s)
 img:∀r,r∈l0->r.map σ∈l
 fix:∀r,r∈l->∀z,z∈r->σ z=z
 le:∀s,σ s<=s
section
variable {N:Nat}{p m:List Fd}{l0 l l':List Rw}{σ σ':Int->Int}{n:Int}
theorem Ch.start:Ch N p m l0 l0 id:=⟨fun r hr E R _ hl=>hl r hr,fun s E R k _=>k.refl s,fun r hr=>by rw[List.map_id];exact hr,fun _ _ _ _=>rfl,fun s=>Int.le_refl s⟩
theorem Ch.congr (h:Ch N p m l0 l σ) (e:∀r,r∈l'<->r∈l):Ch N p m l0 l' σ :=
 ⟨fun r hr=>h.rows r ((e r).1 hr),h.sym,fun r hr=>(e _).2 (h.img r hr),fun r hr=>h.fix r ((e r).1 hr),h.le⟩
def wo(hi lo z:Int):Int:=if z=hi then lo else z
section
variable {f:Int->Int}
theorem zk {r:Rw} {i:Nat} (h:i<r.length):(r.map f).getD i default=f (r.getD i default):=by
 grind
theorem Ch.sub (hl0:∀r,r∈l0->r.length=N) (h:Ch N p m l0 l σ) {hi lo:Int} (hE:LE N p m l0 hi lo) (hle:lo<=hi) (hin:∃r,r∈l/\lo∈r):Ch N p m l0 (l.map fun r=>r.map (wo hi lo)) (fun s=>wo hi lo (σ s)):=by
 have hm:=a9d (p:=p) (m:=m) hl0
 have hs:∀z,LE N p m l0 z (wo hi lo z):=fun z=>by
  unfold wo;split
  · grind
  exact hm.refl z
 refine⟨fun r hr=>?_,fun s=>hm.trans (h.sym s) (hs _),fun r hr=>?_,fun r hr z hz=>?_,fun s=>?_⟩
 · obtain ⟨r0,h0,rfl⟩:=bti.1 hr
   exact hm.cong (h.rows r0 h0) bx0 fun i hi=>by rw[zk hi];exact hs _
 · refine bti.2 ⟨_,h.img r hr, ?_⟩
   simp_all
 · obtain ⟨r0,h0,rfl⟩:=bti.1 hr
   obtain⟨y,hy,rfl⟩:=bti.1 hz;obtain⟨r1,h1,h2⟩:=hin;have e1:=h.fix r0 h0 y hy;have e2:=h.fix r1 h1 lo h2;by_cases e:y=hi
   · have e3:wo hi lo y=lo:=if_pos e
     show wo hi lo (σ (wo hi lo y))=wo hi lo y;rw[e3,e2];unfold wo;split<;>rfl
   have e3:wo hi lo y=y:=if_neg e
   grind
 have h1:=h.le s
 have h2:wo hi lo (σ s)<=σ s:=by
  unfold wo
  grind
 grind
def avx {M:Nat->Nat->Int} {a b j:Nat}:fg l (eqM M a b j)=(fg l M).map fun r=>r.map (wo (hiI (M a j) (M b j)) (loI (M a j) (M b j))):=by
 unfold fg;rw[List.map_map];refine bvc fun i _=>?_;show _=List.map _ (List.map _ _);rw[List.map_map];rfl
def b1y {M:Nat->Nat->Int} {a j:Nat} (ha:a<l.length) (hj:j<(l.getD a default).length):∃r,r∈fg l M/\M a j∈r :=
 ac1.2 ⟨a,j,ha,hj,rfl⟩
theorem Ch.eqMs (hl0:∀r,r∈l0->r.length=N) {a b:Nat} (ha:a<l.length) (hb:b<l.length):∀{js:List Nat} {M:Nat->Nat->Int} {σ:Int->Int},Ch N p m l0 (fg l M) σ->(∀j,j∈js->j<(l.getD a default).length/\j<(l.getD b default).length/\LE N p m l0 (M a j) (M b j)) ->
 ∃σ',Ch N p m l0 (fg l (eqMs M a b js)) σ'
 | [],M,σ,h,_=>⟨σ,h⟩
 | j :: js,M,σ,h,hj=>by
  obtain⟨h1,h2,h3⟩:=hj j bx0;have hm:=a9d (p:=p) (m:=m) hl0;have hlo:loI (M a j) (M b j)<=hiI (M a j) (M b j):=by unfold loI hiI;split<;>split<;>omega
  have hE:LE N p m l0 (hiI (M a j) (M b j)) (loI (M a j) (M b j)):=by
   rcases b9h (M a j) (M b j)with e|e<;>rcases ax6 (M a j) (M b j)with f|f<;>rw[e,f]
   · exact hm.refl _
   · exact h3
   · exact hm.symm h3
   exact hm.refl _
  have hin:∃r,r∈fg l M/\loI (M a j) (M b j)∈r:=by
   rcases ax6 (M a j) (M b j)with f|f<;>rw[f]
   · exact b1y ha h1
   exact b1y hb h2
  have hq:=h.sub hl0 hE hlo hin;rw[<- avx]at hq
  have hs:∀z,LE N p m l0 z (if z=hiI (M a j) (M b j)then loI (M a j) (M b j)else z):=fun z=>by
   split
   · rename_i e;rw[e];exact hE
   exact hm.refl z
  exact Ch.eqMs hl0 ha hb (js:=js) hq fun k hk=>by
   obtain⟨h4,h5,h6⟩:=hj k (by simp[hk]);exact⟨h4,h5,hm.trans (hm.symm (hs (M a k))) (hm.trans h6 (hs (M b k)))⟩
theorem ary:fg l (gp l)=l:=by
 refine o8 (s7 _ _) fun i hi=>?_;rw[s7]at hi;rw[ak1 hi];refine o8 bx0 fun k hk=>?_
 grind
def awt (hl0:∀r,r∈l0->r.length=N) {a b:Rw} {s:AS} (h:ou a b s=true):AgE (LE N p m l0) a b s:=fun i hi hs=>by
 rw[of_decide_eq_true h i hi hs];exact(a9d hl0).refl _
theorem gl {α:Type} [Inhabited α] {l:List α} {i:Nat} (h:i<l.length):l.getD i default∈l:=by
 grind
theorem b72 {a b:Rw} {s:AS} (hl:a.length=b.length) {z:Int} (hz:z∈ej a b s):z∈a\/z∈b:=by
 unfold ej at hz
 grind
def b7p(l:List Rw)(p m:List Fd)(s:St):Prop:=s.2.2.1<l.length/\s.2.2.2<l.length/\(s.1=false->s.2.1<p.length)/\(s.1=true->s.2.1<m.length)
theorem Ch.app (hl0:∀r,r∈l0->r.length=n.toNat) (hT:tok n l=true) (hp:p.all (inU n)=true) (h:Ch n.toNat p m l0 l σ) {s:St} (hs:b7p l p m s) (he:(dx n l p m s).2.2=0) :
 (dx n l p m s).1=n/\∃σ',Ch n.toNat p m l0 (dx n l p m s).2.1 σ':=by
 obtain⟨mu,i,a,b⟩:=s;obtain⟨ha,hb,hf,hv⟩:=hs;obtain⟨h0,h1,h2,h3⟩:=pk hT;have ha:a<l.length:=ha;have hb:b<l.length:=hb;have hra:=h3 a ha;have hrb:=h3 b hb
 cases mu with
 | false =>
  have hi:i<p.length:=hf rfl;have e0:dx n l p m (false,i,a,b)=fdE n l a b (p.getD i default):=rfl;rw[e0]at he ⊢;by_cases hg:ou (l.getD a default) (l.getD b default) (p.getD i default).lhs=true
  · have e1:fdE n l a b (p.getD i default)=(n,bn (fg l (Go.Hx.eqMs (gp l) a b (am (p.getD i default).rhs))),0):=if_pos hg
    rw[e1];refine⟨rfl, ?_⟩;have hu:inU n (p.getD i default)=true:=btl.1 hp _ (gl hi);have hm:=a9d (p:=p) (m:=m) hl0;have hR:=hm.fd (gl hi) (h.rows _ (gl ha)) (h.rows _ (gl hb)) (awt hl0 hg)
    obtain ⟨σ',hσ⟩:=Ch.eqMs (p:=p) (m:=m) hl0 ha hb (js:=am (p.getD i default).rhs) (M:=gp l) (σ:=σ) (by rw[ary];exact h) fun j hj=>by
     have h4:=aga h0 h1 hu hj;have h5:=oc.1 hj;refine⟨Nat.lt_of_lt_of_eq h4 hra.symm,Nat.lt_of_lt_of_eq h4 hrb.symm,hR j (Nat.lt_of_lt_of_eq h4 hra.symm) (by rw[c9 h5.1];exact h5.2)⟩
    exact⟨σ',hσ.congr fun r=>gt⟩
  have e1:fdE n l a b (p.getD i default)=(0,[],1):=if_neg hg
  grind
 | true =>
  have hi:i<m.length:=hv rfl;have e0:dx n l p m (true,i,a,b)=mvE n l a b (m.getD i default):=rfl;rw[e0]at he ⊢;by_cases hg:ou (l.getD a default) (l.getD b default) (m.getD i default).lhs=true
  · have e1:mvE n l a b (m.getD i default)=vb n l (ej (l.getD a default) (l.getD b default) ((m.getD i default).lhs|||(m.getD i default).rhs)):=if_pos hg
    rw[e1]at he ⊢;by_cases hbig:256<(bn (l++[ej (l.getD a default) (l.getD b default) ((m.getD i default).lhs|||(m.getD i default).rhs)])).length
    · have e2:vb n l (ej (l.getD a default) (l.getD b default) ((m.getD i default).lhs|||(m.getD i default).rhs))=(0,[],3):=if_pos hbig
      grind
    have e2:vb n l (ej (l.getD a default) (l.getD b default) ((m.getD i default).lhs|||(m.getD i default).rhs))=(n,bn (l++[ej (l.getD a default) (l.getD b default) ((m.getD i default).lhs|||(m.getD i default).rhs)]),0):=if_neg hbig;rw[e2];refine⟨rfl,σ, ?_⟩;have hm:=a9d (p:=p) (m:=m) hl0;have hR:=hm.mv (gl hi) (h.rows _ (gl ha)) (h.rows _ (gl hb)) (awt hl0 hg);refine⟨fun r hr=>?_,h.sym,fun r hr=>gt.2 (btg _ (h.img r hr)),fun r hr z hz=>?_,h.le⟩
    · rcases btd.1 (gt.1 hr)with h4|h4
      · exact h.rows r h4
      grind
    rcases btd.1 (gt.1 hr)with h4|h4
    · exact h.fix r h4 z hz
    rw[bte.1 h4]at hz
    rcases b72 bww hz with h5|h5
    · exact h.fix _ (gl ha) z h5
    exact h.fix _ (gl hb) z h5
  have e1:mvE n l a b (m.getD i default)=(0,[],1):=if_neg hg
  grind
def afh {P:Nat->Nat->Nat->Bool} {I L:Nat} (h:np P I L=none) {i a b:Nat} (hi:i<I) (ha:a<L) (hb:b<L):P i a b=false:=by
 unfold np at h;simp_all
def axy (h:gf l p m=none):(∀i,i<p.length->∀a,a<l.length->∀b,b<l.length->iu l (p.getD i default) a b=false)/\∀i,i<m.length->∀a,a<l.length->∀b,b<l.length->iq l (m.getD i default) a b=false:=by
 unfold gf at h;split at h
 · cases h
 rename_i e;rw[Option.map_eq_none_iff]at h;exact⟨fun i hi a ha b hb=>afh (P:=fun i a b=>iu l (p.getD i default) a b) e hi ha hb,fun i hi a ha b hb=>afh (P:=fun i a b=>iq l (m.getD i default) a b) h hi ha hb⟩
def vi {α:Type} [Inhabited α] {l:List α} {x:α} (h:x∈l):∃i,i<l.length/\l.getD i default=x:=by
 obtain⟨i,hi,rfl⟩:=btt h;exact⟨i,hi,by rw[bsv,bsu hi];rfl⟩
theorem b4a {a b:Rw} {s:AS} (hl:a.length=b.length):ej (a.map f) (b.map f) s=(ej a b s).map f:=by
 unfold ej;rw[List.map_map,btn];refine bvc fun i hi=>?_
 grind
theorem Ch.mdl (hT:tok n l=true) (hn:gf l p m=none) (σ:Int->Int):Mdl n.toNat p m (fun x y=>σ x=σ y) (fun r=>r.length=n.toNat/\r.map σ∈l):=by
 obtain⟨hF,hM⟩:=axy hn;refine⟨fun _=>rfl,fun h=>h.symm,fun h k=>h.trans k,fun h=>h.1,fun {r r'} h e h2=>⟨e.trans h.1, ?_⟩,fun {x} hx {a b} ha hb hl i hi hs=>?_,fun {x} hx {a b} ha hb hl=>⟨(jx _ _ _).trans hb.1, ?_⟩⟩
 · have:r'.map σ=r.map σ:=by
    refine o8 (by simp[e]) fun i hi=>?_
    grind
   grind
 · obtain ⟨k,hk,rfl⟩:=vi hx
   obtain⟨ia,hia,ea⟩:=vi ha.2;obtain⟨ib,hib,eb⟩:=vi hb.2;have h1:=hF k hk ia hia ib hib;unfold iu at h1;rw[ea,eb,a7z (fun j hj hs=>by rw[btn]at hj;rw[zk hj,zk (by rw[hb.1,<- ha.1];exact hj)];exact hl j hj hs),bv2,Bool.not_eq_false']at h1;have h2:=of_decide_eq_true h1 i (by rw[btn];exact hi) hs
   grind
 obtain⟨k,hk,rfl⟩:=vi hx;obtain⟨ia,hia,ea⟩:=vi ha.2;obtain⟨ib,hib,eb⟩:=vi hb.2;have h1:=hM k hk ia hia ib hib;unfold iq at h1;rw[ea,eb,a7z (fun j hj hs=>by rw[btn]at hj;rw[zk hj,zk (by rw[hb.1,<- ha.1];exact hj)];exact hl j hj hs),bv2,Bool.not_eq_false']at h1;obtain⟨r,hr,e⟩:=bu1.1 h1;rw[<- b4a (by rw[ha.1,hb.1]),<- of_decide_eq_true e];exact hr
theorem Ch.has (h:Ch n.toNat p m l0 l σ) (hT:tok n l=true) (hl0:∀r,r∈l0->r.length=n.toNat) (hn:gf l p m=none):(∀x y,LE n.toNat p m l0 x y->σ x=σ y)/\∀r,LR n.toNat p m l0 r->r.map σ∈l:=by
 have hm:=Ch.mdl (p:=p) (m:=m) hT hn σ;have hl:∀r,r∈l0->r.length=n.toNat/\r.map σ∈l:=fun r hr=>⟨hl0 r hr,h.img r hr⟩;exact⟨fun x y e=>e _ _ hm hl,fun r e=>(e _ _ hm hl).2⟩
def aih:∀{r:Rw},(∀z,z∈r->f z=z)->r.map f=r
 | [],_=>rfl
 |z::r,h=>by rw[buf,h z bx0,aih fun y hy=>h y (by simp[hy])]
theorem Ch.mem (h:Ch n.toNat p m l0 l σ) (hT:tok n l=true) (hl0:∀r,r∈l0->r.length=n.toNat) (hn:gf l p m=none) {r:Rw}:r∈l<->LR n.toNat p m l0 r/\r.map σ=r:=by
 constructor
 · intro hr
   exact⟨h.rows r hr,aih (h.fix r hr)⟩
 rintro⟨h1,h2⟩;rw[<- h2];exact(h.has hT hl0 hn).2 r h1
end
end
end
section
def bly:List (List Int)->List Rw
 | []=>[[]]
 |c::cs=>c.flatMap fun z=>(bly cs).map fun r=>z::r
section
variable {N:Nat}{p m:List Fd}{l0 l:List Rw}
def o4 {a b:Rw} {s:AS} {i:Nat} (h:i<b.length):(ej a b s).getD i default=if bu s (i:Int)=true then a.getD i default else b.getD i default:=by
 unfold ej;rw[bsv,btf,bu8 h];rfl
def b3i (C:Nat->List Int) (hd:∀i j z,z∈C i->z∈C j->i=j):Mdl N p m (fun x y=>x=y\/∃i,x∈C i/\y∈C i) (fun r=>r.length=N/\∀i,i<N->r.getD i default∈C i) where
 refl _:=.inl rfl
 symm h:=by
  rcases h with h|⟨i,h,k⟩
  · exact .inl h.symm
  exact .inr ⟨i,k,h⟩
 trans h h2:=by
  rcases h with h|⟨i,h,k⟩
  · rw[h];exact h2
  rcases h2 with h2|⟨j,h2,k2⟩
  · rw[<- h2];exact .inr ⟨i,h,k⟩
  have:=hd i j _ k h2;subst this;exact .inr ⟨i,h,k2⟩
 len h:=h.1
 cong h e h2:=⟨e.trans h.1,fun i hi=>by
  have h3:=h.2 i hi
  rcases h2 i (by rw[h.1];exact hi)with h4|⟨j,h4,h5⟩
  · rw[<- h4];exact h3
  have:=hd i j _ h3 h4;subst this
  exact h5⟩
 fd _ a b ha hb _:=fun i hi _=>.inr ⟨i,ha.2 i (by rw[<- ha.1];exact hi),hb.2 i (by rw[<- ha.1];exact hi)⟩
 mv _ a b ha hb _:=⟨(jx _ _ _).trans hb.1,fun i hi=>by
  rw[o4 (by rw[hb.1];exact hi)];split
  · exact ha.2 i hi
  exact hb.2 i hi⟩
def awb:Mdl N p m (fun x y=>0<=x<->0<=y) (fun r=>r.length=N/\∀i,i<r.length->0<=r.getD i default) where
 refl _:=Iff.rfl
 symm h:=h.symm
 trans h h2:=h.trans h2
 len h:=h.1
 cong h e h2:=⟨e.trans h.1,fun i hi=>(h2 i bww).1 (h.2 i bww)⟩
 fd _ a b ha hb _:=fun i hi _=>⟨fun _=>hb.2 i (by rw[hb.1,<- ha.1];exact hi),fun _=>ha.2 i hi⟩
 mv _ a b ha hb _:=⟨(jx _ _ _).trans hb.1,fun i hi=>by
  rw[jx]at hi;rw[o4 hi];split
  · exact ha.2 i (by rw[ha.1,<- hb.1];exact hi)
  exact hb.2 i hi⟩
def axd(N:Nat)(p m:List Fd)(l0:List Rw):Prop:=∀l,sm l->(∀r,r∈l->LR N p m l0 r)->l.length<=256
end
section
variable {p m:List Fd}{l0 l:List Rw}{n:Int}{σ:Int->Int}
def bl8 (h0:tok n l0=true) (hS:axd n.toNat p m l0) (ho:sm l) (h:∀r,r∈l->LR n.toNat p m l0 r):tok n l=true:=by
 obtain⟨h1,h2,_⟩:=pk h0;refine b2f h1 h2 (hS l ho h) (fun r hr=>?_) ho;have h3:=h r hr _ _ awb fun r0 hr0=>⟨(sb h0 r0 hr0).1,fun i hi=>(sb h0 r0 hr0).2 _ (gl hi)⟩;refine⟨h3.1,fun z hz=>?_⟩;obtain⟨i,hi,rfl⟩:=vi hz;exact h3.2 i hi
def b5a{s:St}(h:(dx n l p m s).2.2=0):sm (dx n l p m s).2.1:=by
 unfold dx at *;split at h
 · rename_i e
   rw[if_pos e];unfold mvE vb at *;split at h
   · rename_i e2
     rw[if_pos e2];split at h
     · exact absurd h bx3
     rename_i e3;rw[if_neg e3];exact vd _
   exact absurd h bx3
 rename_i e;rw[if_neg e];unfold fdE at *;split at h
 · rename_i e2
   rw[if_pos e2];exact vd _
 exact absurd h bx3
theorem Ch.step (h0:tok n l0=true) (hS:axd n.toNat p m l0) (hp:p.all (inU n)=true) (hT:tok n l=true) (h:Ch n.toNat p m l0 l σ) {s:St} (hs:b7p l p m s) (he:(dx n l p m s).2.2=0) :
 ∃l' σ',dx n l p m s=(n,l',0)/\tok n l'=true/\Ch n.toNat p m l0 l' σ':=by
 obtain⟨h1,σ',h2⟩:=Ch.app (fun r hr=>(sb h0 r hr).1) hT hp h hs he;have h3:=bl8 h0 hS (b5a he) h2.rows;refine⟨_,σ', ?_,h3,h2⟩
 conv=>lhs;rw[<- Prod.eta (dx n l p m s),<- Prod.eta (dx n l p m s).2,h1,he]
def auq{s:St}(h:a28 l p m s):b7p l p m s:=by
 obtain⟨h1,h2,h3⟩:=h;refine⟨h1,h2,fun e=>?_,fun e=>?_⟩
 · rcases h3 with⟨_,h,_⟩|⟨h,_⟩
   · exact h
   rw[e]at h;cases h
 rcases h3 with⟨h,_⟩|⟨_,h,_⟩
 · rw[e]at h;cases h
 exact h
theorem Ch.code (h0:tok n l0=true) (hS:axd n.toNat p m l0) (hp:p.all (inU n)=true) (hT:tok n l=true) (h:Ch n.toNat p m l0 l σ) {s:St} (hs:a28 l p m s):(dx n l p m s).2.2=0:=by
 rcases aqo hT hp hs with e|⟨l',e,_⟩
 · obtain ⟨mu,i,a,b⟩:=s
   obtain⟨ha,hb,hs|hs⟩:=hs
   · obtain ⟨h1,h2,h3⟩:=hs
     cases h1;have h4:dx n l p m (false,i,a,b)=fdE n l a b (p.getD i default):=rfl;have hg:=(axq hT (btl.1 hp _ (gl h2)) ha hb h3).1;have hg:fdE n l a b (p.getD i default)=(n,fdL l a b (p.getD i default),0):=hg;rw[h4,hg]at e ⊢
   obtain⟨h1,h2,h3⟩:=hs;cases h1;have h4:dx n l p m (true,i,a,b)=mvE n l a b (m.getD i default):=rfl;have h5:iq l (m.getD i default) a b=true:=h3;unfold iq at h5;rw[bt5]at h5;have h6:mvE n l a b (m.getD i default)=vb n l (ej (l.getD a default) (l.getD b default) ((m.getD i default).lhs|||(m.getD i default).rhs)):=if_pos h5.1;have hl0:∀r,r∈l0->r.length=n.toNat:=fun r hr=>(sb h0 r hr).1
   have h7:=hS (bn (l++[ej (l.getD a default) (l.getD b default) ((m.getD i default).lhs|||(m.getD i default).rhs)])) (vd _) fun r hr=>by
    rcases btd.1 (gt.1 hr)with h8|h8
    · exact h.rows r h8
    rw[bte.1 h8];exact(a9d hl0).mv (gl h2) (h.rows _ (gl ha)) (h.rows _ (gl hb)) (awt hl0 h5.1)
   rw[h4,h6];unfold vb;rw[if_neg bww]
 rw[e]
def TrZ (n:Int) (p m:List Fd) (lend:List Rw):List Rw->List St->Prop
 |l,[]=>l=lend
 |l,s::r=>tok n l=true/\a28 l p m s/\∃l',dx n l p m s=(n,l',0)/\¬l'=l/\TrZ n p m lend l' r
end
def stC(n:Int)(ps:List AS)(c:Nat):List Int:=if c<n.toNat then(List.range ps.length).map fun i=>stV n i (ps.getD i default) c else[]
section
variable {n:Int}{ps:List AS}{p m:List Fd}
def be7 (h0:0<=n) {i c:Nat} {q:AS} (hc:c<n.toNat):stV n i q c%n=(c:Int):=by
 unfold stV;split
 · exact Int.emod_eq_of_lt bww bww
 have e:n+(i:Int)*n+(c:Int)=(c:Int)+n*(1+(i:Int)):=by rw[Int.mul_add,Int.mul_one,Int.mul_comm (i:Int) n];omega
 rw[e,Int.add_mul_emod_self_left];exact Int.emod_eq_of_lt bww bww
def aiy(h0:0<=n){c:Nat}{z:Int}(h:z∈stC n ps c):c<n.toNat/\z%n=(c:Int):=by
 unfold stC at h;split at h
 · rename_i hc
   obtain⟨i,_,rfl⟩:=bti.1 h;exact⟨hc,be7 h0 hc⟩
 simp at h
def bbx (h0:0<=n):∀i j z,z∈stC n ps i->z∈stC n ps j->i=j:=fun i j z h k=>by
 have h1:=(aiy h0 h).2;have h2:=(aiy h0 k).2;omega
def afp {r:Rw} (hr:r∈b9 n ps):r.length=n.toNat/\∀i,i<n.toNat->r.getD i default∈stC n ps i:=by
 unfold b9 at hr;obtain⟨k,hk,rfl⟩:=bti.1 hr;refine⟨a91 _ _ _,fun i hi=>?_⟩;rw[aml hi];unfold stC;rw[if_pos hi];exact bti.2 ⟨k,hk,rfl⟩
end
end
section
section
variable {n:Int}{ps:List AS}{p m:List Fd}{l l0:List Rw}{σ:Int->Int}
def bj4 {N:Nat} {l l':List Rw} (h:∀r,r∈l<->r∈l') {r:Rw}:LR N p m l r<->LR N p m l' r :=
 ⟨fun k E R hm hl=>k E R hm fun r hr=>hl r ((h r).1 hr),fun k E R hm hl=>k E R hm fun r hr=>hl r ((h r).2 hr)⟩
def ay3(h0:0<=n){c:Nat}{z:Int}(h:z∈stC n ps c):z=(c:Int)\/n<=z:=by
 unfold stC at h;split at h
 · obtain ⟨i,_,rfl⟩:=bti.1 h
   unfold stV;split
   · exact .inl rfl
   right;have:=Int.mul_nonneg (show(0:Int)<=(i:Int) by omega) h0;omega
 simp at h
theorem Ch.first (h0:0<=n) (h:Ch n.toNat p m (bn (b9 n ps)) l σ):(dy n).map σ=dy n:=by
 refine aih fun z hz=>?_;unfold dy at hz;obtain⟨c,hc,rfl⟩:=bti.1 hz;have hc:=btj.1 hc;have h1:=h.sym (c:Int) _ _ (b3i (stC n ps) (bbx h0)) fun r hr=>afp (gt.1 hr)
 rcases h1 with h1|⟨i,h1,h2⟩
 · exact h1.symm
 have h3:=(aiy h0 h1).2;have h4:=Int.emod_eq_of_lt (a:=(c:Int)) (b:=n) bww bww;have h5:i=c:=by omega
 subst h5;have h6:=h.le (i:Int)
 rcases ay3 h0 h2 with h7|h7
 · exact h7
 omega
def a1h{r:Rw}:(l.any fun x=>decide (x=r))=decide (r∈l):=by
 rw[bw6,bu1,decide_eq_true_iff];constructor
 · rintro ⟨x,hx,e⟩
   rw[<- of_decide_eq_true e];exact hx
 intro h;exact⟨r,h,decide_eq_true rfl⟩
def swI(n z:Int):Int:=if n<=z/\z<2*n then z+n else if 2*n<=z/\z<3*n then z-n else z
abbrev bsi(n:Int)(x:Fd):Fd:=⟨x.lhs,aa n&&&~~~(x.lhs|||x.rhs)⟩
end
end
end Go.Hx
