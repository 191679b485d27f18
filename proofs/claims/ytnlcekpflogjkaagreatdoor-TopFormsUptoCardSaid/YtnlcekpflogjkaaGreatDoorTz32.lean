/- A part of the proof: Kb2 Kw2. -/
import Derived.Test.YtnlcekpflogjkaaGreatDoorTz31
set_option linter.all false
set_option maxRecDepth 100000
set_option maxHeartbeats 1000000
namespace Go.Hx
section
section
variable {κ:Type}[DecidableEq κ][Inhabited κ]
def dg(g:List (κ×List Nat))(k:κ):List (κ×List Nat):=if gi g k<g.length then g else g++[(k,[])]
section
variable {g:List (κ×List Nat)}{k:κ}
def aid:gi g k<=g.length:=List.findIdx_le_length
def asm (h:gi g k<g.length):(g.getD (gi g k) default).1=k:=by
 have:=List.findIdx_getElem (p:=fun x:κ×List Nat=>decide (x.1=k)) (xs:=g) (w:=h);rw[dn _ _ h];exact of_decide_eq_true this
def bev (h:∀r,r<g.length->(g.getD r default).1≠k):gi g k=g.length:=by
 rcases bwr (gi g k) g.length with h1|h1
 · exact absurd (asm h1) (h _ h1)
 exact bx0 aid h1
variable {r:Nat}
def b9j (hr:r<g.length) (h:(g.getD r default).1=k) (hd:∀p q,p<g.length->q<g.length->(g.getD p default).1=(g.getD q default).1->p=q):gi g k=r:=by
 have h1:gi g k<g.length:=by
  rcases bwr (gi g k) g.length with h1|h1
  · exact h1
  exfalso;have:=List.findIdx_lt_length_of_exists (p:=fun x:κ×List Nat=>decide (x.1=k)) (xs:=g) ⟨g.getD r default,by rw[dn _ _ hr];exact bti hr,decide_eq_true h⟩;exact absurd this (Nat.not_lt.2 h1)
 exact hd _ _ h1 hr ((asm h1).trans h.symm)
theorem as8:gi g k<(dg g k).length:=by
 unfold dg;split
 · assumption
 have:=aid (g:=g) (k:=k)
 grind
variable {i:Nat}
theorem w7:a2q g k i=(dg g k).modify (gi g k) (fun x=>(x.1,x.2++[i])):=by
 unfold a2q dg;by_cases h:gi g k<g.length
 · grind
 rw[if_neg h,if_neg h,show gi g k=g.length from bx0 aid (Nat.not_lt.1 h)];refine bvc bx8 fun j h1 h2=>?_
 grind
def ag3(g:List (κ×List Nat)):Prop:=∀p q,p<g.length->q<g.length->(g.getD p default).1=(g.getD q default).1->p=q
theorem bie (h:ag3 g):ag3 (dg g k):=by
 unfold dg;by_cases hk:gi g k<g.length
 · grind
 rw[if_neg hk];have hno:∀x∈g,x.1≠k:=fun x hx e=>hk (List.findIdx_lt_length_of_exists (p:=fun x:κ×List Nat=>decide (x.1=k)) ⟨x,hx,decide_eq_true e⟩);intro p q hp hq e;simp only[bt8,bv0]at hp hq
 have hL:∀r,r<g.length->((g++[(k,([]:List Nat))]).getD r default)=g.getD r default/\(g.getD r default).1≠k:=fun r hr=>by
  grind
 have hE:((g++[(k,([]:List Nat))]).getD g.length default)=(k,[]):=by simp[List.getD]
 by_cases h1:p<g.length
 · by_cases h2:q<g.length
   · rw [(hL p h1).1,(hL q h2).1]at e
     exact h p q h1 h2 e
   grind
 grind
def a3s:(g.modify r (fun x=>(x.1,x.2++[i]))).length=g.length:=List.length_modify ..
theorem axf {j:Nat} (hj:j<g.length):(g.modify r (fun x=>(x.1,x.2++[i]))).getD j default=if r=j then((g.getD j default).1,(g.getD j default).2++[i])else g.getD j default:=by
 grind
theorem bk6 (h:ag3 g):ag3 (a2q g k i):=by
 rw[w7];have h2:=bie (k:=k) h;intro p q hp hq e;rw[a3s]at hp hq;refine h2 p q hp hq ?_
 grind
def amz {ks:List κ}:∀{i:Nat},ag3 (c8 ks i)
 |0=>fun p q hp=>absurd hp (bt9 p)
 |i+1=>by rw[n5];exact bk6 amz
abbrev grM(g:List (κ×List Nat)):Nat->Nat:=fun r=>(g.getD r default).2.length
abbrev grG(g:List (κ×List Nat)):Nat->Nat->Nat->PV:=fun r=>lf iC (g.getD r default).2
abbrev grN(e et:TypeId)(g:List (κ×List Nat)):aa:=.nest e et 1 g.length (grM g) (grG g) none
def b0m {n:Nat}:∀b q j,b<n->q<grM g b->j<1->∃v,grG g b q j=.raw v:=fun b q j _ _ hj=>by
 obtain rfl:j=0:=by omega
 exact⟨_,rfl⟩
variable {e et:TypeId}
def b0p {m:Nat->Nat} {f:Nat->Nat->Nat->PV} (h:g=[]):CoO (.nest e et 1 0 m f none) (grN e et g):=by
 subst h;exact⟨rfl,rfl,rfl,rfl,rfl,fun i hi=>absurd hi (bt9 i),fun i r j hi=>absurd hi (bt9 i)⟩
variable {ff:Nat->Nat->PV}
theorem aet (h:¬gi g k<g.length):CoO (.nest e et 1 (g.length+1) (fw (grM g) g.length 0) (gk (grG g) g.length ff) none) (grN e et (dg g k)):=by
 unfold dg;rw[if_neg h];refine⟨rfl,rfl,rfl,by simp,rfl,fun b hb=>?_,fun b r j hb hr hj=>?_⟩
 · show ((g++[(k,([]:List Nat))]).getD b default).2.length=fw (grM g) g.length 0 b
   by_cases h1:b=g.length
   · subst h1;rw[se];simp[List.getD]
   rw[qz h1]
   grind
 by_cases h1:b=g.length
 · subst h1
   rw[se]at hr
   grind
 have:Nat.beq b g.length=false:=by rw[btf];exact fun hb=>h1 (btx hb)
 rw[show gk (grG g) g.length ff b=grG g b by simp[gk,this]];refine CoP.of_eq ?_
 grind
def aa7 (h:gi g k<g.length):CoO (grN e et g) (grN e et (dg g k)):=by
 unfold dg;rw[if_pos h];exact CoO.refl _
variable {g':List (κ×List Nat)}
theorem asd {kk:Nat} (hg:g'=g.modify r (fun x=>(x.1,x.2++[i]))) (hr:r<g.length) (h:CoO (.arr true 1 et kk ff) (.arr true 1 et ((g.getD r default).2++[i]).length (lf iC ((g.getD r default).2++[i])))):
 CoO (.nest e et 1 g.length (fw (grM g) r kk) (gk (grG g) r ff) none) (grN e et g'):=by
 subst hg;obtain⟨_,_,_,hl,hc⟩:=h;refine⟨rfl,rfl,rfl,a3s,rfl,fun b hb=>?_,fun b q j hb hq hj=>?_⟩
 · show ((g.modify r _).getD b default).2.length=fw (grM g) r kk b
   rw[axf hb];by_cases h1:b=r
   · subst h1;rw[se,if_pos rfl,hl]
   rw[qz h1,if_neg (fun e=>h1 e.symm)]
 show CoP (gk (grG g) r ff b q j) (lf iC ((g.modify r _).getD b default).2 q j);rw[axf hb];by_cases h1:b=r
 · subst h1
   rw[se]at hq;rw[if_pos rfl,show gk (grG g) b ff b=ff by simp[gk]]
   grind
 have:Nat.beq b r=false:=by rw[btf];exact fun hb=>h1 (btx hb)
 rw[if_neg (fun e=>h1 e.symm),show gk (grG g) r ff b=grG g b by simp[gk,this]];exact CoP.refl _
def asb:CoO (.arr true 1 e g.length (a2b 1 (grM g) (grG g))) (.arr true 1 e (g.map (·.2)).length (lf ilC (g.map (·.2)))):=by
 refine⟨fun h=>h,rfl,rfl,by simp,fun i j hi hj=>?_⟩;obtain rfl:j=0:=by omega
 show CoP (.sl (grM g i) 1 false (grG g i)) (il ((g.map (·.2)).getD i default));have:(g.map (·.2)).getD i default=(g.getD i default).2:=by simp[List.getD,hi]
 rw[this];exact CoP.refl _
structure AtI (P:Program) (kt:TypeId) (kv:κ->Value) (es:Array MapEntry) (clock:Nat) (g:List (κ×List Nat)):Prop where
 mx:oz P kt es clock
 to:∀e∈es.toList,∃r,r<g.length/\e.key=kv (g.getD r default).1/\e.val=.int .i64 (r:Int)
 at_:∀r,r<g.length->∃e∈es.toList,e.key=kv (g.getD r default).1
variable {P:Program}{clock:Nat}{kt:TypeId}{kv:κ->Value}
theorem AtI.nil:AtI P kt kv #[] clock []:=⟨oz.nil,fun e he=>by simp at he,fun r hr=>absurd hr (bt9 r)⟩
variable {es:Array MapEntry}
theorem AtI.of_keys (h:AtI P kt kv es clock g) (hl:g'.length=g.length) (hk:∀r,r<g.length->(g'.getD r default).1=(g.getD r default).1):AtI P kt kv es clock g' :=
 ⟨h.mx,fun e he=>by
  obtain⟨r,h1,h2,h3⟩:=h.to e he
  exact⟨r,by omega,by rw[hk r h1];exact h2,h3⟩,fun r hr=>by
  obtain⟨e,h1,h2⟩:=h.at_ r bx5
  exact⟨e,h1,by rw[hk r bx5];exact h2⟩⟩
theorem AtI.modify (h:AtI P kt kv es clock g) (hg:g'=g.modify r (fun x=>(x.1,x.2++[i]))):AtI P kt kv es clock g':=by
 subst hg;refine h.of_keys a3s fun j hj=>?_
 grind
theorem AtI.found (h:AtI P kt kv es clock g) (hi:∀a b,kv a=kv b->a=b) (hd:ag3 g) {e:MapEntry} (he:e∈es.toList) (hk:e.key=kv k):gi g k<g.length/\e.val=.int .i64 (gi g k:Int):=by
 obtain⟨r,h1,h2,h3⟩:=h.to e he;have:=b9j h1 (hi _ _ (h2.symm.trans hk)) hd
 grind
theorem AtI.absent (h:AtI P kt kv es clock g) (hn:∀e∈es.toList,e.key≠kv k):gi g k=g.length:=bev fun r hr e=>by
 obtain⟨x,h1,h2⟩:=h.at_ r hr
 grind
theorem AtI.put {es':Array MapEntry} {clock':Nat} (h:AtI P kt kv es clock g) (hn:gi g k=g.length) (hX:oz P kt es' clock') (hP:amg es es' (kv k) (.int .i64 (g.length:Int))):AtI P kt kv es' clock' (dg g k):=by
 unfold dg;rw[if_neg bx5];have hL:∀r,r<g.length->((g++[(k,([]:List Nat))]).getD r default)=g.getD r default:=fun r hr=>by simp[List.getD,List.getElem?_append,hr]
 have hE:((g++[(k,([]:List Nat))]).getD g.length default)=(k,[]):=by simp[List.getD]
 refine⟨hX,fun e he=>?_,fun r hr=>?_⟩
 · rcases hP.to e he with⟨h1,h2⟩|⟨h1,h2⟩
   · obtain ⟨r,r1,r2,r3⟩:=h.to e h1
     grind
   grind
 simp only[bt8,bv0]at hr;by_cases h1:r<g.length
 · obtain ⟨x,x1,x2⟩:=h.at_ r h1
   by_cases hx:x.key=kv k
   · obtain ⟨y,y1,y2,_⟩:=hP.at_
     grind
   obtain⟨y,y1,y2,_⟩:=hP.old x x1 hx
   grind
 obtain rfl:r=g.length:=by omega
 obtain⟨y,y1,y2,_⟩:=hP.at_
 grind
theorem AtI.keep (h:AtI P kt kv es clock g) (hk:gi g k<g.length):AtI P kt kv es clock (dg g k):=by
 unfold dg
 grind
theorem AtI.size (h:AtI P kt kv es clock g):es.size<=g.length:=by
 have hm:(es.toList.map fun e=>match e.val with | .int _ n=>n.toNat|_=>0).Nodup:=by
  rw[List.nodup_iff_pairwise_ne,List.pairwise_map];have hp:=((Go.MapKept.stamped_iff es clock).1 h.mx.st).2.2;refine List.Pairwise.imp_of_mem (fun {a b} ha hb hab=>?_) hp;obtain⟨r,r1,r2,r3⟩:=h.to a ha;obtain⟨q,q1,q2,q3⟩:=h.to b hb
  grind
 have:=hm.length_le_of_subset (l₂:=List.range g.length) fun x hx=>by
  obtain⟨e,he,rfl⟩:=bto.1 hx;obtain⟨r,r1,_,r3⟩:=h.to e he
  grind
 grind
end
end
def b04{hd:Nat->Value}{id r k k2:Nat}:qk (hdF hd id r k) r 0 [.ref id k2] r 0=.ref id k2:=by simp[qk]
def b0s {hd:Nat->Value} {id r k k2 i:Nat} (h:i≠r):qk (hdF hd id r k) r 0 [.ref id k2] i 0=.p (.raw (hd i)):=by
 simp only[qk];rw[if_neg (fun e=>h e.1),a89 h]
theorem b4c {κ:Type} [DecidableEq κ] [Inhabited κ] {g:List (κ×List Nat)} {k:κ} {m:Nat} (h:∀x∈g,x.2.length<=m):∀x∈dg g k,x.2.length<=m:=by
 unfold dg
 grind
def aqd {κ:Type} [DecidableEq κ] [Inhabited κ] {ks:List κ} {i r:Nat} {k:κ} (hr:r<(dg (c8 ks i) k).length):((dg (c8 ks i) k).getD r default).2.length<=i:=by
 rw[dn _ _ hr];exact b4c aqv _ (bti hr)
def AtJ{κ:Type}[DecidableEq κ][Inhabited κ](P:Program)(kt:TypeId)(kv:κ->Value)(g:List (κ×List Nat))(y:Array MapEntry×Nat):Prop:=AtI P kt kv y.1 y.2 g
def b58 {α:Type} [Inhabited α] {s:Nat} {c:α->Nat->PV} {l:List α} {p:α->Bool} (h:∀j,j<l.length->p (l.getD j default)=false):CoP (.sl l.length s false (lf c l)) (psl s c (l.filter fun x=>!p x)):=by
 have:=zr (bt2 l.length) h;rw[btb]at this;rw[this];exact CoP.refl _
def b2k {α:Type} [Inhabited α] {c:α->Nat->PV} {l m:List α} {p:α->Bool} {k q n a d:Nat} {cl:Bool} {z:List Value} (hC:DfI p l k q m) (hq:¬q<l.length) (ha:k<=a):CoP (.sl (iu (bv n (some (k:Int))) none) 1 cl (sm (ow (lf c m) a d z) none)) (psl 1 c (l.filter fun x=>!p x)):=by
 have e:=hC.pre;have h1:=hC.ql;have h2:=hC.len;have h3:=hC.kq;rw[show q=l.length by omega,btb]at e;have el:(l.filter fun x=>!p x).length=k:=by rw[<- e];simp;omega
 exact aa5 (by rw[el];rfl) rfl bx5 (by rw[el,e])
def a6d {nt:Nat} {st:HSt} {Q:HSt->Prop} (x i0 id:Nat) (wr:Bool) {n n2 s':Nat} {e2:TypeId} {f':Nat->Nat->PV} {g:Nat->Nat->PV} (s:Nat) (e:TypeId) (f:Nat->Nat->PV) (hs:0<s)
 (hb:b5 st.o x=some (.arr true 1 e2 n2 g)) (hi:i0<n2) (hl:g i0 0=.sl n s' true f') (hco:CoP (.sl n s' true f') (.sl n s true f)) (hwr:wr=false\/n=0) (hn:ku id st=true) (hne:Nat.beq x id=false)
 (h:HE nt ⟨st.t,(x,some (.arrh 1 e2 n2 [id] (zn i0 (.ref id n) g)))::(id,some (.arr wr s e n f))::st.o⟩ Q):HE nt st Q:=fun w0 m0 a w hr=>h w0 m0 a w (ahz x i0 id wr s e f hs hb hi hl hco hwr hn hne hr)
theorem a1j {nt:Nat} {st:HSt} {Q:HSt->Prop} (id id':Nat) {k n:Nat} {e et:TypeId} {es:Nat} {m:Nat->Nat} {g:Nat->Nat->Nat->PV} {f:Nat->Nat->PV} (ho:b5 st.o id=some (.nest e et es n m g (some (id',k)))) (ho':b5 st.o id'=some (.arr true es et k f))
 (h:HE nt ⟨st.t,(id',none)::(id,some (.nest e et es (n+1) (fw m n k) (gk g n f) none))::st.o⟩ Q):HE nt st Q:=fun w0 m0 a w hr=>by
 obtain⟨cc,hold,hrr⟩:=hr;obtain⟨c',h1,h2⟩:=hrr.absorb ho ho';refine h w0 m0 a w ⟨c',h1.trans hold, ?_⟩;have e1:=ub ⟨st.t,(id,some (.nest e et es (n+1) (fw m n k) (gk g n f) none))::st.o⟩ id';rw[jm]at e1
 grind
end
section
open Go.Proofs
def bna(l:List (List Nat))(g k:Nat)(caps:Nat->PV)(V:List Nat->Bool)(hg:goodFn bxr g)(hV:∀x,a7 bxr g (pP (il x)::ic caps k 0) (ae [pB (V x)])):a7 bxr 191 [pP (ill l),pP (.fn g k caps)] (ae [pI (idx V l)]):=by
 refine hpx (nt:=19) Tryz.func191 ?_;refine dt ?_;refine e9 0 rfl fun hn=>?_;refine w_3 ?_;refine dp (ι:=Unit) kn km (fun _i=>⟨[],[]⟩) (fun _i=>idx V l=-1) ?_ ?_
 ·
  refine w_7 ?_;refine am (ι:=Nat) (ka 0 (ka 1 (ka 7 kn))) km (fun i=>⟨[(8,some (vI i))],[]⟩) (fun i=>i<=l.length/\(∀j,j<i->V (l.getD j default)=false)) (fun i=>l.length-i) (0) (⟨bt6 _,d5⟩) kk ?_;rintro i ⟨hi,hIi⟩;refine w_5 ?_;refine hcd ?_ ?_<;>intro h0
  ·
   refine jk ?_;refine rc rfl rfl rfl rfl rfl rfl hg (hV (l.getD i default)) (CoL.refl _) rfl rfl ?_;refine dq ?_;refine hcb ?_ ?_<;>intro h1
   · refine v_5 ?_;exact⟨cci (vd (i:=i) bx5 hIi bx6).symm,trivial⟩
   refine w_5 ?_;refine lpz (i+1) kk ?_;exact⟨by show i+1<=_;omega,c6 hIi bx6⟩
  refine ek ?_;refine⟨(), ?_, ?_⟩
  · exact vq fun j hj=>hIi j bx5
  exact⟨trivial,trivial⟩
 rintro _ hj;refine v_4 ?_;exact⟨cci hj.symm,trivial⟩
def b8y(l:List (List Nat))(g k:Nat)(caps:Nat->PV)(V:List Nat->Bool)(hg:goodFn bxr g)(hV:∀x,a7 bxr g (pP (il x)::ic caps k 0) (ae [pB (V x)])):dv bxr 258 [.one (.ref 900 l.length), .one (.p (.fn g k caps))] [(900, .arr true 1 124 l.length (lf ilC l))] (.v (.one (.p (ill (l.filter fun x=>!V x))))) [] []:=by
 refine hfx (nt:=42) Tryz.func258 ?_;refine dt ?_;refine a9d 900 rfl fun hlen=>?_;refine w_7 ?_;refine qcx (wgx Tryz.func191) (bna l g k caps V hg hV) ?_;refine w_8 ?_;refine hcd ?_ ?_<;>intro h0
 · refine w_5 ?_;refine bj 4 rfl rfl rfl ?_;refine hrr ?_;exact⟨_,_,rfl,bx7,b58 (a0k bx6),trivial⟩
 obtain⟨i0,hi0,hi1,hi2,hi3⟩:=uh h0;refine w_9 ?_;refine am (ι:=Nat×Nat×List (List Nat)) (ka 0 (ka 1 kn)) km (fun x=>⟨[(5,some (vI x.1)),(6,some (vI x.2.1))],[(900,some (.arr true 1 124 l.length (lf ilC x.2.2)))]⟩) (fun x=>DfI V l x.1 x.2.1 x.2.2) (fun x=>l.length-x.2.1) ((i0,i0+1,l)) (DfI.start hi1 hi2 hi3) ⟨⟨⟨_,rfl,(coi hi0)⟩,⟨_,rfl,(coi (by dsimp only;omega))⟩,trivial⟩,uu⟩ ?_;rintro x hC;have hC0:=hC;obtain⟨hml,hkq,hql,_,_⟩:=hC0;refine w_8 ?_;refine hcd ?_ ?_<;>intro h1
 ·
  refine jk ?_;refine rc rfl rfl rfl rfl rfl rfl hg (hV (x.2.2.getD (x.2.1:Int).toNat default)) (CoL.refl _) rfl rfl ?_;refine w_2 ?_;refine hcv ?_ ?_<;>intro h2
  ·
   have hv:=h2;refine abw ?_
   first | (refine lpz (x.1+1, x.2.1+1, x.2.2.set x.1 (x.2.2.getD x.2.1 default)) ⟨⟨⟨_, rfl, (coi bxb)⟩, ⟨_, rfl, (coi bxb)⟩, tt⟩, ⟨⟨_, rfl, (po id hml.symm bx5 bx5 bx5)⟩, trivial⟩⟩ ?_; exact hC.keep bx5 (by simpa using hv))
         |(refine lpz (x.1,x.2.1+1,x.2.2) ⟨⟨⟨_,rfl,(coi bx9)⟩,⟨_,rfl,(coi bx9)⟩,tt⟩,uu⟩ ?_;exact hC.skip bx5 (by simpa using hv))
  have hv:=h2;refine w_6 ?_
  first | (refine lpz (x.1+1, x.2.1+1, x.2.2.set x.1 (x.2.2.getD x.2.1 default)) ⟨⟨⟨_, rfl, (coi bxb)⟩, ⟨_, rfl, (coi bxb)⟩, tt⟩, ⟨⟨_, rfl, (po id hml.symm bx5 bx5 bx5)⟩, trivial⟩⟩ ?_; exact hC.keep bx5 (by simpa using hv))
        |(refine lpz (x.1,x.2.1+1,x.2.2) ⟨⟨⟨_,rfl,(coi bx9)⟩,⟨_,rfl,(coi bx9)⟩,tt⟩,uu⟩ ?_;exact hC.skip bx5 (by simpa using hv))
 have hq:=h1;refine w_6 ?_;refine r9 0 true ?_;refine w_5 ?_;refine avg rfl rfl rfl rfl rfl ?_;refine w_2 ?_;refine hrr ?_;exact⟨_,_,rfl,bx7,b2k hC bx5 (by simp[bv]),trivial⟩
def bgc (l:List Nat):a7 bxr 274 [pP (il l)] (ae [pB (decide (l.length<2))]):=by
 refine hpx (nt:=6) Tryz.func274 ?_;refine w_5 ?_;refine e9 0 rfl fun hn=>?_;refine v_6 ?_;exact⟨ccb (decide_eq_decide.2 bx5),trivial⟩
def bnv(ks:List ByteArray)(hks:ks.length<=1000)(hsz:∀i,i<ks.length->(ks.getD i default).size<=maxLen):a7 bxr 257 [pP (am2 ks)] (ae [pP (ill (ag4 ks))]):=by
 refine hpx (nt:=46) Tryz.func257 ?_;refine w_5 ?_;refine fl [] [0,1] rfl ?_;refine a65 (k:=0) (L:=[1]) 901 rfl (fun bg=>?_);refine fj (E:=d4) (L1:=[1]) (L2:=[]) ca ?_;refine w_2 ?_;refine kc ?_;refine gh ?_;refine ak6 4 900 124 3 1 (fun _=>0) (fun _ _ _=>.any) bxc rfl rfl ?_;refine am (ι:=Nat×Array MapEntry×Nat) (ka 3 (ka 10 (ka 11 kn))) km (fun x=>⟨[(4,some (.v (.one (.ref 900 (c8 ks x.1).length)))),(12,some (vI x.1))],[(900,some (grN 124 3 (c8 ks x.1))),(901,some (mpO bg x.2.1 x.2.2))]⟩) (fun x=>x.1<=ks.length/\AtI bxr 9 Value.string x.2.1 x.2.2 (c8 ks x.1)) (fun x=>ks.length-x.1) ((0,#[],0)) (⟨bt6 _,AtI.nil⟩) ⟨tt,⟨⟨_,rfl,(b0p rfl)⟩,uu⟩⟩ ?_;rintro⟨i,es,clock⟩ ⟨hi,hA⟩;dsimp only at hi hA ⊢;have hgl:=acy (ks:=ks) (i:=i);refine w_5 ?_;refine hcd ?_ ?_<;>intro h0
 ·
  refine gh ?_;refine fl [] [0,1,2,3,4,5,6,7] rfl ?_;refine fj (E:=d4) (L1:=[0,1]) (L2:=[2,3,4,5,6,7]) ca ?_;refine w_3 ?_;refine adb (mid:=901) (k:=2) (L:=[3,4,5,6,7]) rfl Tryz.underlying318 (Go.Maps.string_keyed Tryz.underlying9) Tryz.zeroValue3 rfl hA.mx (Go.WideMaps.keyOf_string_mk Tryz.underlying9 (by show(ks.getD i default).size<=maxLen;exact hsz i bx5)) rfl (fun ok v hy hn1=>?_)
  obtain ⟨nv,rfl⟩:∃nv:Int,v=.int .i64 nv:=by
   cases ok with
   | true =>
    obtain⟨e,he,hk,rfl⟩:=hy rfl;obtain⟨r,_,_,h3⟩:=hA.to e he;exact⟨_,h3⟩
   |false=>exact⟨0,(hn1 rfl).1⟩
  refine fj (E:=d4) (L1:=[3,4,5,6,7]) (L2:=[]) ca ?_;refine w_6 ?_;refine kc ?_;refine dp (ι:=Array MapEntry×Nat) (ka 3 (ka 5 (ka 10 (ka 11 (ka 12 kn))))) km (fun y=>⟨[(4,some (.v (.one (.ref 900 (dg (c8 ks i) (ks.getD i default)).length)))),(7,some (vI (gi (c8 ks i) (ks.getD i default))))],[(900,some (grN 124 3 (dg (c8 ks i) (ks.getD i default)))),(901,some (mpO bg y.1 y.2))]⟩) (fun y=>AtJ bxr 9 Value.string (dg (c8 ks i) (ks.getD i default)) y) ?_ ?_
  ·
   refine ayr ?_;refine w_5 ?_;refine ax _ rfl ?_ ?_<;>intro r1
   ·
    have h1:=cj r1;have hok1:ok=false:=by simpa using r1
    subst hok1;obtain⟨hz0,hno⟩:=hn1 rfl;have hab:(gi (c8 ks i) (ks.getD i default))=(c8 ks i).length:=hA.absent hno;refine w_7 ?_;refine fl [] [0,1,2,3] rfl ?_;refine fj (E:=d4) (L1:=[0,1,2]) (L2:=[3]) ca ?_;refine w_4 ?_;refine a33 (mid:=901) (k:=3) (L:=[]) rfl Tryz.underlying318 (Go.Maps.string_keyed Tryz.underlying9) hA.mx (by have:=hA.size;unfold maxLen;omega) (Go.WideMaps.keyOf_string_mk Tryz.underlying9 (by show(ks.getD i default).size<=maxLen;exact hsz i bx5)) rfl rfl (fun es3 clock3 hX3 hP=>?_);refine kc ?_;have hA1:AtJ bxr 9 Value.string (dg (c8 ks i) (ks.getD i default)) (es3,clock3):=hA.put hab hX3 hP;refine fl [0,1] [2,3] rfl ?_;refine fj (E:=d4) ca ?_;refine qy ?_;refine m9 0 ?_;refine dq ?_;refine zj ?_;refine a6d (n2:=1) 0 0 904 true 1 3 (lf iC []) bxc rfl bxc rfl (CoP.sl rfl (.inr rfl) (fun h=>h) (fun i j hi _=>absurd hi (bt9 i))) (.inr rfl) rfl rfl ?_;refine m8 ?_;refine fj (E:=d4) (L1:=[2,3]) (L2:=[]) ca ?_;refine r9 1 true ?_;refine w_2 ?_;refine kc ?_;show HE _ _ _
    first|refine a1j 900 904 rfl rfl ?_|skip
    refine m8 ?_;exact⟨_,hA1,⟨⟨⟨_,rfl,(by first|(rw[show(dg (c8 ks i) (ks.getD i default)).length=(c8 ks i).length+1 by unfold dg;rw[if_neg bx5];simp];exact CoR.refl _)|(rw[show(dg (c8 ks i) (ks.getD i default)).length=(c8 ks i).length by unfold dg;rw[if_pos hlt]];exact CoR.refl _))⟩,⟨_,rfl,(by first|(rw[hab];exact CoR.refl _)|exact CoR.refl _)⟩,tt⟩,⟨⟨_,rfl,(by first|exact aet bx5|exact aa7 hlt)⟩,uu⟩⟩⟩
   have h1:=cn r1;have hok1:ok=true:=by simpa using r1
   obtain⟨e0,he0,hk0,hv0⟩:=hy hok1;obtain⟨hlt,hv1⟩:=hA.found (fun a b e=>Value.string.inj e) amz he0 hk0;have hnv:nv=_:=(Value.int.inj (hv0.trans hv1)).2;have hA1:AtJ bxr 9 Value.string (dg (c8 ks i) (ks.getD i default)) (es,clock):=hA.keep hlt;obtain rfl:=hnv;refine fk ?_;show HE _ _ _
   first|refine a1j 900 904 rfl rfl ?_|skip
   refine m8 ?_;exact⟨_,hA1,⟨⟨⟨_,rfl,(by first|(rw[show(dg (c8 ks i) (ks.getD i default)).length=(c8 ks i).length+1 by unfold dg;rw[if_neg bx5];simp];exact CoR.refl _)|(rw[show(dg (c8 ks i) (ks.getD i default)).length=(c8 ks i).length by unfold dg;rw[if_pos hlt]];exact CoR.refl _))⟩,⟨_,rfl,(by first|(rw[hab];exact CoR.refl _)|exact CoR.refl _)⟩,tt⟩,⟨⟨_,rfl,(by first|exact aet bx5|exact aa7 hlt)⟩,uu⟩⟩⟩
  rintro⟨es2,clock2⟩ hA2;dsimp only at hA2 ⊢;have hr1:(gi (c8 ks i) (ks.getD i default))<(dg (c8 ks i) (ks.getD i default)).length:=as8;have hrl:=aqd hr1;refine aqw 900 (gi (c8 ks i) (ks.getD i default)) 906 907 rfl hr1 b0m (fun hd B hbf=>?_) rfl rfl rfl rfl;refine w_6 ?_;refine rq (out:=Out.mk _ (.v (.one (.ref 906 ((dg (c8 ks i) (ks.getD i default)).getD (gi (c8 ks i) (ks.getD i default)) default).2.length)))) rfl rfl rfl (congrArg (fun z=>some (Out.mk _ (HR.v (HC.one z)))) (a3b hd 906 (gi (c8 ks i) (ks.getD i default)) ((dg (c8 ks i) (ks.getD i default)).getD (gi (c8 ks i) (ks.getD i default)) default).2.length 0)) rfl ?_;refine qy ?_;refine m9 2 ?_;refine r9 3 true ?_;refine w_3 ?_;refine a0r ⟨[(3,some _),(4,some _),(10,some _),(11,some _),(12,some _)],[(900,some _),(901,some _),(906,some _),(907,some _)]⟩ kk ?_;refine aps 4 900 906 907 908 hbf rfl rfl rfl rfl hr1 (by first|exact a3b _ _ _ _ _|exact b04) (fun b _ hne=>by first|exact a89 hne|exact b0s hne) ?_;refine a0r ⟨[(3,some _),(4,some _),(10,some _),(11,some _),(12,some _)],[(901,some _),(908,some _)]⟩ kk ?_;refine au6 4 908 900 rfl rfl ?_;refine w_4 ?_;refine lpz (i+1,es2,clock2) ⟨⟨⟨_,rfl,(by rw[show(c8 ks (i+1)).length=(dg (c8 ks i) (ks.getD i default)).length by rw[n5,w7,a3s]];exact CoR.refl _)⟩,tt⟩,⟨⟨_,rfl,(asd (by rw[n5,w7]) hr1 (bq rfl (CoP.refl _)))⟩,uu⟩⟩ ?_;exact⟨by show i+1<=_;omega,hA2.modify (by rw[n5,w7])⟩
 obtain rfl:i=ks.length:=by omega
 refine w_2 ?_;refine ahy 900 rfl ?_;refine w_2 ?_;refine l6 rfl rfl rfl rfl rfl rfl (wgx Tryz.func258) ((b8y ((c8 ks ks.length).map (·.2)) 274 0 (fun _=>.any) (fun l=>decide (l.length<2)) (wgx Tryz.func274) (fun x=>bgc x))) (⟨congrArg (HV.ref 900) (by rw[btw]),CoP.refl _,trivial⟩) ⟨⟨_,rfl,asb⟩,trivial⟩ rfl rfl ?_;refine v_2 ?_;exact⟨CoC.one (CoP.of_eq (by unfold ag4 b43;rfl)),trivial⟩
def ak2:Go.WideMaps.ArrKey bxr 274 3 2:=⟨Tryz.underlying274,by kernel_rfl,by kernel_rfl,by kernel_rfl⟩
def bjc:∃m,bxr.types.size=m+1:=⟨337,by kernel_rfl⟩
def k2C (x:Int×Int):Nat->PV
 |0=>.raw (.int .i64 x.1)
 |1=>.raw (.int .i64 x.2)
 |_=>.any
abbrev k2s(l:List (Int×Int)):PV:=psl 2 k2C l
def k2V(x:Int×Int):Value:=.agg #[.int .i64 x.1, .int .i64 x.2]
def bfy (a b:Int×Int) (h:k2V a=k2V b):a=b:=by
 unfold k2V at h;simp only[Value.agg.injEq,Array.mk.injEq,List.cons.injEq,Value.int.injEq,true_and,and_true]at h;exact Prod.ext h.1 h.2
def bi2 (l:List Nat):a7 bxr 259 [pP (il l)] (ae [pB (decide (l.length<2))]):=by
 refine hpx (nt:=6) Tryz.func259 ?_;refine w_5 ?_;refine e9 0 rfl fun hn=>?_;refine v_6 ?_;exact⟨ccb (decide_eq_decide.2 bx5),trivial⟩
def bo8(ks:List (Int×Int))(hks:ks.length<=1000)(hwf:∀i,i<ks.length->(Lit.int .i64 (ks.getD i default).1).wf=true/\(Lit.int .i64 (ks.getD i default).2).wf=true):a7 bxr 230 [pP (k2s ks)] (ae [pP (ill (ag4 ks))]):=by
 refine hpx (nt:=46) Tryz.func230 ?_;refine w_5 ?_;refine fl [] [0,1] rfl ?_;refine a65 (k:=0) (L:=[1]) 901 rfl (fun bg=>?_);refine fj (E:=d4) (L1:=[1]) (L2:=[]) ca ?_;refine w_2 ?_;refine kc ?_;refine gh ?_;refine ak6 4 900 124 3 1 (fun _=>0) (fun _ _ _=>.any) bxc rfl rfl ?_;refine am (ι:=Nat×Array MapEntry×Nat) (ka 3 (ka 10 (ka 11 kn))) km (fun x=>⟨[(4,some (.v (.one (.ref 900 (c8 ks x.1).length)))),(12,some (vI x.1))],[(900,some (grN 124 3 (c8 ks x.1))),(901,some (mpO bg x.2.1 x.2.2))]⟩) (fun x=>x.1<=ks.length/\AtI bxr 274 k2V x.2.1 x.2.2 (c8 ks x.1)) (fun x=>ks.length-x.1) ((0,#[],0)) (⟨bt6 _,AtI.nil⟩) ⟨tt,⟨⟨_,rfl,(b0p rfl)⟩,uu⟩⟩ ?_;rintro⟨i,es,clock⟩ ⟨hi,hA⟩;dsimp only at hi hA ⊢;have hgl:=acy (ks:=ks) (i:=i);refine w_5 ?_;refine hcd ?_ ?_<;>intro h0
 ·
  refine w_8 ?_;refine m9 0 ?_;refine w_4 ?_;refine fl [] [0,1,2,3,4,5,6,7] rfl ?_;refine fj (E:=d4) (L1:=[0,1]) (L2:=[2,3,4,5,6,7]) ca ?_;refine w_3 ?_;refine adb (mid:=901) (k:=2) (L:=[3,4,5,6,7]) rfl Tryz.underlying304 (Go.Maps.Keyed.of_law ak2.law) Tryz.zeroValue3 rfl hA.mx (Go.WideMaps.keyOf_pair ak2 Tryz.underlying3 bjc (hwf i bx5).1 (hwf i bx5).2) rfl (fun ok v hy hn1=>?_)
  obtain ⟨nv,rfl⟩:∃nv:Int,v=.int .i64 nv:=by
   cases ok with
   | true =>
    obtain⟨e,he,hk,rfl⟩:=hy rfl;obtain⟨r,_,_,h3⟩:=hA.to e he;exact⟨_,h3⟩
   |false=>exact⟨0,(hn1 rfl).1⟩
  refine fj (E:=d4) (L1:=[3,4,5,6,7]) (L2:=[]) ca ?_;refine w_6 ?_;refine kc ?_;refine dp (ι:=Array MapEntry×Nat) (ka 3 (ka 5 (ka 10 (ka 11 (ka 12 kn))))) km (fun y=>⟨[(4,some (.v (.one (.ref 900 (dg (c8 ks i) (ks.getD i default)).length)))),(7,some (vI (gi (c8 ks i) (ks.getD i default))))],[(900,some (grN 124 3 (dg (c8 ks i) (ks.getD i default)))),(901,some (mpO bg y.1 y.2))]⟩) (fun y=>AtJ bxr 274 k2V (dg (c8 ks i) (ks.getD i default)) y) ?_ ?_
  ·
   refine ayr ?_;refine w_5 ?_;refine ax _ rfl ?_ ?_<;>intro r1
   ·
    have h1:=cj r1;have hok1:ok=false:=by simpa using r1
    subst hok1;obtain⟨hz0,hno⟩:=hn1 rfl;have hab:(gi (c8 ks i) (ks.getD i default))=(c8 ks i).length:=hA.absent hno;refine w_7 ?_;refine fl [] [0,1,2,3] rfl ?_;refine fj (E:=d4) (L1:=[0,1,2]) (L2:=[3]) ca ?_;refine w_4 ?_;refine a33 (mid:=901) (k:=3) (L:=[]) rfl Tryz.underlying304 (Go.Maps.Keyed.of_law ak2.law) hA.mx (by have:=hA.size;unfold maxLen;omega) (Go.WideMaps.keyOf_pair ak2 Tryz.underlying3 bjc (hwf i bx5).1 (hwf i bx5).2) rfl rfl (fun es3 clock3 hX3 hP=>?_);refine kc ?_;have hA1:AtJ bxr 274 k2V (dg (c8 ks i) (ks.getD i default)) (es3,clock3):=hA.put hab hX3 hP;refine fl [0,1] [2,3] rfl ?_;refine fj (E:=d4) ca ?_;refine qy ?_;refine m9 1 ?_;refine dq ?_;refine zj ?_;refine a6d (n2:=1) 1 0 904 true 1 3 (lf iC []) bxc rfl bxc rfl (CoP.sl rfl (.inr rfl) (fun h=>h) (fun i j hi _=>absurd hi (bt9 i))) (.inr rfl) rfl rfl ?_;refine m8 ?_;refine fj (E:=d4) (L1:=[2,3]) (L2:=[]) ca ?_;refine r9 2 true ?_;refine w_2 ?_;refine kc ?_;show HE _ _ _
    first|refine a1j 900 904 rfl rfl ?_|skip
    refine m8 ?_;exact⟨_,hA1,⟨⟨⟨_,rfl,(by first|(rw[show(dg (c8 ks i) (ks.getD i default)).length=(c8 ks i).length+1 by unfold dg;rw[if_neg bx5];simp];exact CoR.refl _)|(rw[show(dg (c8 ks i) (ks.getD i default)).length=(c8 ks i).length by unfold dg;rw[if_pos hlt]];exact CoR.refl _))⟩,⟨_,rfl,(by first|(rw[hab];exact CoR.refl _)|exact CoR.refl _)⟩,tt⟩,⟨⟨_,rfl,(by first|exact aet bx5|exact aa7 hlt)⟩,uu⟩⟩⟩
   have h1:=cn r1;have hok1:ok=true:=by simpa using r1
   obtain⟨e0,he0,hk0,hv0⟩:=hy hok1;obtain⟨hlt,hv1⟩:=hA.found bfy amz he0 hk0;have hnv:nv=_:=(Value.int.inj (hv0.trans hv1)).2;have hA1:AtJ bxr 274 k2V (dg (c8 ks i) (ks.getD i default)) (es,clock):=hA.keep hlt;obtain rfl:=hnv;refine fk ?_;show HE _ _ _
   first|refine a1j 900 904 rfl rfl ?_|skip
   refine m8 ?_;exact⟨_,hA1,⟨⟨⟨_,rfl,(by first|(rw[show(dg (c8 ks i) (ks.getD i default)).length=(c8 ks i).length+1 by unfold dg;rw[if_neg bx5];simp];exact CoR.refl _)|(rw[show(dg (c8 ks i) (ks.getD i default)).length=(c8 ks i).length by unfold dg;rw[if_pos hlt]];exact CoR.refl _))⟩,⟨_,rfl,(by first|(rw[hab];exact CoR.refl _)|exact CoR.refl _)⟩,tt⟩,⟨⟨_,rfl,(by first|exact aet bx5|exact aa7 hlt)⟩,uu⟩⟩⟩
  rintro⟨es2,clock2⟩ hA2;dsimp only at hA2 ⊢;have hr1:(gi (c8 ks i) (ks.getD i default))<(dg (c8 ks i) (ks.getD i default)).length:=as8;have hrl:=aqd hr1;refine aqw 900 (gi (c8 ks i) (ks.getD i default)) 906 907 rfl hr1 b0m (fun hd B hbf=>?_) rfl rfl rfl rfl;refine w_6 ?_;refine rq (out:=Out.mk _ (.v (.one (.ref 906 ((dg (c8 ks i) (ks.getD i default)).getD (gi (c8 ks i) (ks.getD i default)) default).2.length)))) rfl rfl rfl (congrArg (fun z=>some (Out.mk _ (HR.v (HC.one z)))) (a3b hd 906 (gi (c8 ks i) (ks.getD i default)) ((dg (c8 ks i) (ks.getD i default)).getD (gi (c8 ks i) (ks.getD i default)) default).2.length 0)) rfl ?_;refine qy ?_;refine m9 3 ?_;refine r9 4 true ?_;refine w_3 ?_;refine a0r ⟨[(3,some _),(4,some _),(10,some _),(11,some _),(12,some _)],[(900,some _),(901,some _),(906,some _),(907,some _)]⟩ kk ?_;refine aps 4 900 906 907 908 hbf rfl rfl rfl rfl hr1 (by first|exact a3b _ _ _ _ _|exact b04) (fun b _ hne=>by first|exact a89 hne|exact b0s hne) ?_;refine a0r ⟨[(3,some _),(4,some _),(10,some _),(11,some _),(12,some _)],[(901,some _),(908,some _)]⟩ kk ?_;refine au6 4 908 900 rfl rfl ?_;refine w_4 ?_;refine lpz (i+1,es2,clock2) ⟨⟨⟨_,rfl,(by rw[show(c8 ks (i+1)).length=(dg (c8 ks i) (ks.getD i default)).length by rw[n5,w7,a3s]];exact CoR.refl _)⟩,tt⟩,⟨⟨_,rfl,(asd (by rw[n5,w7]) hr1 (bq rfl (CoP.refl _)))⟩,uu⟩⟩ ?_;exact⟨by show i+1<=_;omega,hA2.modify (by rw[n5,w7])⟩
 obtain rfl:i=ks.length:=by omega
 refine w_2 ?_;refine ahy 900 rfl ?_;refine w_2 ?_;refine l6 rfl rfl rfl rfl rfl rfl (wgx Tryz.func258) ((b8y ((c8 ks ks.length).map (·.2)) 259 0 (fun _=>.any) (fun l=>decide (l.length<2)) (wgx Tryz.func259) (fun x=>bi2 x))) (⟨congrArg (HV.ref 900) (by rw[btw]),CoP.refl _,trivial⟩) ⟨⟨_,rfl,asb⟩,trivial⟩ rfl rfl ?_;refine v_2 ?_;exact⟨CoC.one (CoP.of_eq (by unfold ag4 b43;rfl)),trivial⟩
end
end Go.Hx
