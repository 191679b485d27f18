/- A part of the proof: Bz6 Ch15 Bz7 Bz8 Bz9 Bz10 Y12 Sp5 Jp4 Kl1 Bz11 Kl2 Kb8 Jrw1 Jrw2. -/
import Derived.Test.YtnlcekpflogjkaaGreatDoorTy40
set_option linter.all false
set_option maxRecDepth 100000
set_option maxHeartbeats 1000000
namespace Go.Hx
section
def fdP(d:Fd)(r k:AS):Option AS:=if(r ^^^ k)&&&d.lhs=0 then(if(r ^^^ k)&&&d.rhs=0 then none else some ((r ^^^ k)&&&d.rhs))else none
def fdQ(d:Fd)(T:List AS)(r:AS):Option AS:=T.findSome? (fdP d r)
def fdT(d:Fd)(T:List AS):Option AS:=T.findSome? (fdQ d T)
section
variable {T:List AS}{d:Fd}
def b6v{s:AS}(h:fdT d T=some s):∃r∈T,∃k∈T,agB d r k=true/\s=(r ^^^ k)&&&d.rhs/\s≠0:=by
 unfold fdT at h;obtain⟨r,hr,h⟩:=bvi h;unfold fdQ at h;obtain⟨k,hk,h⟩:=bvi h;unfold fdP at h;split at h
 · rename_i h1
   split at h
   · cases h
   rename_i h2;cases h;exact⟨r,hr,k,hk,decide_eq_true h1,rfl,h2⟩
 cases h
theorem a1i (h:T.Nodup):T.length<=4294967296:=by
 have h1:(T.map BitVec.toNat).Nodup:=List.Pairwise.map _ (fun a b hab e=>hab (bug e)) h
 have h2:∀x∈T.map BitVec.toNat,x<4294967296:=by
  intro x hx;obtain⟨a,_,rfl⟩:=bti.1 hx;exact a.isLt
 have hlen:(T.map BitVec.toNat).length=T.length:=btn _;rw[<- hlen]
 have key:∀(N:Nat) (l:List Nat),l.Nodup->(∀x∈l,x<N)->l.length<=N:=by
  intro N
  induction N with
  | zero =>
   intro l _ hl
   cases l with
   |nil=>exact bsw _
   |cons a l=>exact absurd (hl a bx0) (bt1 _)
  | succ N ih =>
   intro l hn hl
   have h3:=ih (l.filter fun x=>!decide (x=N)) (hn.filter _) fun x hx=>by
    grind
   have h4:l.length<=(l.filter fun x=>!decide (x=N)).length+1:=by
    have h5:∀l:List Nat,l.length=(l.filter fun x=>!decide (x=N)).length+l.countP fun x=>decide (x=N):=by
     intro l
     induction l with
     |nil=>rfl
     | cons a l ih =>
      grind
    have h6:=h5 l
    have h7:(l.countP fun x=>decide (x=N))<=1:=by
     have:=hn.count (a:=N)
     grind
    omega
   omega
 exact key _ _ h1 h2
def qn {i:Nat} (hi:i<32):(orL T).getLsbD i=T.any fun r=>r.getLsbD i:=by
 unfold orL
 have:∀(T:List AS) (o:AS),(T.foldl (·|||·) o).getLsbD i=(o.getLsbD i||T.any fun r=>r.getLsbD i):=by
  intro T
  induction T with
  |nil=>intro o;simp
  |cons a T ih=>intro o;rw[bvl,ih,bv7,List.any_cons,Bool.or_assoc]
 rw[this];simp
theorem beb {s:AS}:orL (ue T s)=orL T&&&~~~s:=by
 apply a32;intro i hi;rw[qn hi,ic hi,qn hi]
 cases hs:s.getLsbD i with
 | true =>
  simp only[bwm,Bool.and_false];rw[buk];intro z hz;obtain⟨r,hr,rfl⟩:=ad0.1 hz
  grind
 | false =>
  simp only[bws,Bool.and_true];rw[bw6,bu1,bu1];constructor
  · rintro ⟨z,hz,hb⟩
    obtain⟨r,hr,rfl⟩:=ad0.1 hz
    grind
  rintro⟨r,hr,hb⟩;exact⟨r&&&~~~s,ad0.2 ⟨r,hr,rfl⟩,by rw[ic hi,hb,hs];rfl⟩
theorem aiq {s:AS} (h:fdT d T=some s):(orL (ue T s)).toNat<(orL T).toNat:=by
 obtain⟨r,hr,k,hk,_,rfl,hz⟩:=b6v h;rw[beb];refine xw a1n fun e=>?_;obtain⟨i,hi,hb⟩:=bjc hz;have h1:=congrArg (fun z:AS=>z.getLsbD i) e;simp only[ic hi,hb,bwm,Bool.and_false]at h1;have h1:(orL T).getLsbD i=false:=h1.symm;rw[qn hi,buk]at h1
 grind
def ss (d:Fd):Nat->List AS->List AS
 |0,T=>T
 | f+1,T=>match fdT d T with
  |none=>T
  |some s=>ss d f (ue T s)
def mvS(d:Fd)(T:List AS)(i k:Nat):List AS:=if agB d (T.getD i default) (T.getD k default)=true then su T (a2h d (T.getD i default) (T.getD k default))else T
def mvI (d:Fd):Nat->List AS->Nat->Nat->List AS
 |0,T,_,_=>T
 |f+1,T,i,k=>if k<T.length then mvI d f (mvS d T i k) i (k+1)else T
def mvO (d:Fd):Nat->List AS->Nat->List AS
 |0,T,_=>T
 |f+1,T,i=>if i<T.length then mvO d f (mvI d 8589934592 T i 0) (i+1)else T
theorem a9h (d:Fd) (T:List AS) (i k:Nat):T <+: mvS d T i k:=by
 unfold mvS su
 grind
theorem aa9 (d:Fd):∀(f:Nat) (T:List AS) (i k:Nat),T <+: mvI d f T i k
 |0,T,_,_=>List.prefix_refl _
 | f+1,T,i,k=>by
  unfold mvI;split
  · exact(a9h d T i k).trans (aa9 d f _ i (k+1))
  grind
theorem au5 (d:Fd):∀(f:Nat) (T:List AS) (i:Nat),T <+: mvO d f T i
 |0,T,_=>List.prefix_refl _
 | f+1,T,i=>by
  unfold mvO;split
  · exact(aa9 d _ T i 0).trans (au5 d f _ (i+1))
  grind
def aym {i k:Nat} (h:T.Nodup):(mvS d T i k).Nodup:=by
 unfold mvS;split
 · exact yl h
 exact h
def am4:∀{f:Nat} {T:List AS} {i k:Nat},T.Nodup->(mvI d f T i k).Nodup
 |0,T,_,_,h=>h
 | f+1,T,i,k,h=>by
  unfold mvI;split
  · exact am4 (aym h)
  exact h
def anj:∀{f:Nat} {T:List AS} {i:Nat},T.Nodup->(mvO d f T i).Nodup
 |0,T,_,h=>h
 | f+1,T,i,h=>by
  unfold mvO;split
  · exact anj (am4 h)
  exact h
abbrev TC:=List AS×Bool
def FU2:Nat:=8589934592
def fdR(x:TC)(d:Fd):TC:=(ss d FU2 x.1,x.2||(fdT d x.1).isSome)
def mvR(x:TC)(d:Fd):TC:=(mvO d FU2 x.1 0,x.2||decide (x.1.length<(mvO d FU2 x.1 0).length))
def ye(fs ms:List Fd)(T:List AS):TC:=ms.foldl mvR (fs.foldl fdR (T,false))
def chF (fs ms:List Fd):Nat->List AS->List AS
 |0,T=>T
 |f+1,T=>if(ye fs ms T).2=true then chF fs ms f (ye fs ms T).1 else(ye fs ms T).1
def muT(T:List AS):Nat:=(orL T).toNat*FU2+(4294967296-T.length)
def a1r {f:Nat} {s:AS} (h:fdT d T=some s):ss d (f+1) T=ss d f (ue T s):=by
 show(match fdT d T with|none=>T|some s=>ss d f (ue T s))=_;rw[h]
def a8g {f:Nat} (h:fdT d T=none):ss d f T=T:=by
 cases f with
 |zero=>rfl
 | succ f =>
  show(match fdT d T with|none=>T|some s=>ss d f (ue T s))=_;rw[h]
variable {P:List AS->Prop}
def aq5 (hP:∀T s,P T->fdT d T=some s->P (ue T s)):∀(f:Nat) (T:List AS),P T->P (ss d f T)
 |0,T,h=>h
 | f+1,T,h=>by
  cases hq:fdT d T with
  |none=>rw[a8g hq];exact h
  |some s=>rw[a1r hq];exact aq5 hP f _ (hP T s h hq)
theorem asr (hP:∀T r k,P T->r∈T->k∈T->agB d r k=true->P (su T (a2h d r k))):∀(f:Nat) (T:List AS) (i k:Nat),i<T.length->P T->P (mvI d f T i k)
 |0,T,_,_,_,h=>h
 | f + 1,T,i,k,hi,h=>by
  unfold mvI;split
  · rename_i hk
    refine asr hP f _ i (k+1) (bvy hi (a9h d T i k).length_le) ?_;unfold mvS
    grind
  exact h
def aip(hP:∀T r k,P T->r∈T->k∈T->agB d r k=true->P (su T (a2h d r k))):∀(f:Nat) (T:List AS) (i:Nat),P T->P (mvO d f T i)
 |0,T,_,h=>h
 | f + 1,T,i,h=>by
  unfold mvO;split
  · rename_i hi
    exact aip hP f _ (i+1) (asr hP _ T i 0 hi h)
  exact h
variable {fs:List Fd}
def ahl (hP:∀d∈fs,∀T s,P T->fdT d T=some s->P (ue T s)):∀(ds:List Fd) (x:TC),(∀d∈ds,d∈fs)->P x.1->P (ds.foldl fdR x).1
 | [],x,_,h=>h
 |d::ds,x,hd,h=>ahl hP ds (fdR x d) (fun e he=>hd e (by simp[he])) (aq5 (hP d (hd d bx0)) _ _ h)
variable {ms:List Fd}
def au3 (hP:∀d∈ms,∀T r k,P T->r∈T->k∈T->agB d r k=true->P (su T (a2h d r k))):∀(ds:List Fd) (x:TC),(∀d∈ds,d∈ms)->P x.1->P (ds.foldl mvR x).1
 | [],x,_,h=>h
 |d::ds,x,hd,h=>au3 hP ds (mvR x d) (fun e he=>hd e (by simp[he])) (aip (hP d (hd d bx0)) _ _ _ h)
def bfr (h1:∀d∈fs,∀T s,P T->fdT d T=some s->P (ue T s)) (h2:∀d∈ms,∀T r k,P T->r∈T->k∈T->agB d r k=true->P (su T (a2h d r k))) (h:P T):P (ye fs ms T).1 :=
 au3 h2 ms _ (fun _ h=>h) (ahl h1 fs (T,false) (fun _ h=>h) h)
def b86:∀d∈fs,∀(T:List AS) (s:AS),T.Nodup->fdT d T=some s->(ue T s).Nodup:=fun _ _ T s _ _=>ag6 T s
def bm6:∀d∈ms,∀(T:List AS) (r k:AS),T.Nodup->r∈T->k∈T->agB d r k=true->(su T (a2h d r k)).Nodup:=fun _ _ _ _ _ h _ _ _=>yl h
def b1t {A B:List AS} (h:(orL B).toNat<(orL A).toNat):muT B<muT A:=by
 unfold muT;have h1:((orL B).toNat+1)*FU2<=(orL A).toNat*FU2:=bt9 _ h;rw[bu6]at h1;have:FU2=8589934592:=rfl;omega
theorem bde {A B:List AS} (hp:A <+: B) (ho:(orL B).toNat=(orL A).toNat) (hB:B.length<=4294967296):muT B<=muT A/\(A.length<B.length->muT B<muT A):=by
 unfold muT;rw[ho]
 grind
theorem ba0 {r k:AS} (hr:r∈T) (hk:k∈T):orL (su T (a2h d r k))=orL T:=by
 apply a32;intro i hi;rw[qn hi,qn hi,bw6,bu1,bu1];constructor
 · rintro ⟨z,hz,hb⟩
   rcases aby.1 hz with hz|rfl
   · grind
   rw[b58 hi]at hb
   grind
 rintro⟨z,hz,hb⟩;exact⟨z,aby.2 (.inl hz),hb⟩
def be6 {f:Nat} {i:Nat}:orL (mvO d f T i)=orL T :=
 aip (P:=fun X=>orL X=orL T) (fun X r k h hr hk _=>(ba0 hr hk).trans h) f T i rfl
theorem asm {T0:List AS} (f:Nat):∀(T:List AS),muT T<=muT T0->muT (ss d f T)<=muT T0:=by
 induction f with
 |zero=>intro T h;exact h
 | succ f ih =>
  intro T h
  cases hq:fdT d T with
  |none=>rw[a8g hq];exact h
  | some s =>
   rw[a1r hq];have h1:=b1t (aiq hq)
   grind
def bg9 (x:TC) (d:Fd):muT (fdR x d).1<=muT x.1/\(x.2=false->(fdR x d).2=true->muT (fdR x d).1<muT x.1):=by
 refine⟨asm _ _ (bsw _),fun h1 h2=>?_⟩;unfold fdR at h2 ⊢;rw[h1,Bool.false_or,Option.isSome_iff_exists]at h2;obtain⟨s,hs⟩:=h2;show muT (ss d FU2 x.1)<_;rw[show FU2=8589934591+1 from rfl,a1r hs];exact Nat.lt_of_le_of_lt (asm _ _ (bsw _)) (b1t (aiq hs))
theorem bj1 {x:TC} (hn:x.1.Nodup) (d:Fd):muT (mvR x d).1<=muT x.1/\(x.2=false->(mvR x d).2=true->muT (mvR x d).1<muT x.1):=by
 have h:=bde (au5 d FU2 x.1 0) (congrArg BitVec.toNat be6) (a1i (anj hn));refine⟨h.1,fun h1 h2=>h.2 ?_⟩;unfold mvR at h2
 grind
theorem aux:∀(ds:List Fd) (x:TC),muT (ds.foldl fdR x).1<=muT x.1/\(x.2=false->(ds.foldl fdR x).2=true->muT (ds.foldl fdR x).1<muT x.1)
 | [],x=>⟨bsw _,fun h k=>by simp only[List.foldl_nil]at k;rw[h]at k;cases k⟩
 | d::ds,x=>by
  obtain⟨a1,a2⟩:=bg9 x d;obtain⟨b1,b2⟩:=aux ds (fdR x d)
  grind
theorem av2:∀(ds:List Fd) (x:TC),x.1.Nodup->muT (ds.foldl mvR x).1<=muT x.1/\(x.2=false->(ds.foldl mvR x).2=true->muT (ds.foldl mvR x).1<muT x.1)
 | [],x,_=>⟨bsw _,fun h k=>by simp only[List.foldl_nil]at k;rw[h]at k;cases k⟩
 | d::ds,x,hn=>by
  obtain⟨a1,a2⟩:=bj1 hn d;obtain⟨b1,b2⟩:=av2 ds (mvR x d) (anj hn)
  grind
theorem bgp (hn:T.Nodup) (h:(ye fs ms T).2=true):muT (ye fs ms T).1<muT T:=by
 unfold ye at h ⊢;obtain⟨a1,a2⟩:=aux fs (T,false);have hn2:(fs.foldl fdR (T,false)).1.Nodup:=ahl b86 fs (T,false) (fun _ h=>h) hn;obtain⟨b1,b2⟩:=av2 ms (fs.foldl fdR (T,false)) hn2
 grind
def MU:Nat:=73786976294838206464
def biy (T:List AS):muT T<MU:=by
 unfold muT;have h:=(orL T).isLt;have h1:((orL T).toNat+1)*FU2<=4294967296*FU2:=bt9 _ h;rw[bu6]at h1;have e:FU2=8589934592:=rfl;have e2:MU=73786976294838206464:=rfl;omega
def b7s(rest:AS):List AS:=su [0] rest
def chT(fs ms:List Fd)(rest:AS):List AS:=chF fs ms MU (b7s rest)
def bne(rest:AS):(b7s rest).Nodup:=yl bx0
end
end
section
open Go.Proofs
def sT:List Rw:=[[0,1,5],[0,7,2]]
def fdX:List Fd:=[⟨1,2⟩]
end
section
structure MvO (d:Fd) (T0:List AS) (x:Nat×List AS×Nat):Prop where
 nd:x.2.1.Nodup
 pre:T0 <+: x.2.1
 res:mvO d x.1 x.2.1 x.2.2=mvO d FU2 T0 0
 le:x.2.2<=x.2.1.length
 fuel:4294967296<x.1+x.2.2
structure MvI (d:Fd) (T:List AS) (i:Nat) (x:Nat×List AS×Nat):Prop where
 nd:x.2.1.Nodup
 pre:T <+: x.2.1
 res:mvI d x.1 x.2.1 i x.2.2=mvI d 8589934592 T i 0
 le:x.2.2<=x.2.1.length
 fuel:4294967296<x.1+x.2.2
section
variable {d:Fd}{T0 T:List AS}{i f k:Nat}
theorem MvO.start(h:T.Nodup):MvO d T (FU2,T,0):=⟨h,List.prefix_refl _,rfl,bsx _,by show 4294967296<8589934592+0;omega⟩
theorem MvI.start(h:T.Nodup):MvI d T i (8589934592,T,0):=⟨h,List.prefix_refl _,rfl,bsx _,by show 4294967296<8589934592+0;omega⟩
theorem MvO.pos (h:MvO d T0 (f,T,i)):0<f/\T.length<=4294967296:=by
 have h1:=a1i h.nd;have h2:=h.le;have h3:=h.fuel;dsimp only at h1 h2 h3;omega
section
variable {U:List AS}
theorem MvI.pos (h:MvI d T i (f,U,k)):0<f/\U.length<=4294967296:=by
 have h1:=a1i h.nd;have h2:=h.le;have h3:=h.fuel;dsimp only at h1 h2 h3;omega
theorem MvO.done (h:MvO d T0 (f,T,i)) (hi:¬i<T.length):T=mvO d FU2 T0 0:=by
 have hp:=h.pos.1;have hr:mvO d f T i=mvO d FU2 T0 0:=h.res;obtain⟨g,rfl⟩:∃g,f=g+1:=⟨f-1,by omega⟩;unfold mvO at hr;rw[if_neg hi]at hr;exact hr
theorem MvI.done (h:MvI d T i (f,U,k)) (hk:¬k<U.length):U=mvI d 8589934592 T i 0:=by
 have hp:=h.pos.1;have hr:mvI d f U i k=mvI d 8589934592 T i 0:=h.res;obtain⟨g,rfl⟩:∃g,f=g+1:=⟨f-1,by omega⟩;unfold mvI at hr;rw[if_neg hk]at hr;exact hr
theorem MvI.next (h:MvI d T i (f,U,k)) (hk:k<U.length):MvI d T i (f-1,mvS d U i k,k+1):=by
 have hp:=h.pos.1;have hr:mvI d f U i k=mvI d 8589934592 T i 0:=h.res;obtain⟨g,rfl⟩:∃g,f=g+1:=⟨f-1,by omega⟩;unfold mvI at hr;rw[if_pos hk]at hr;have hf:4294967296<g+1+k:=h.fuel;exact⟨aym h.nd,h.pre.trans (a9h d U i k),hr,btc hk (a9h d U i k).length_le,by show 4294967296<g+(k+1);omega⟩
theorem MvO.next (h:MvO d T0 (f,T,i)) (hi:i<T.length) (hU:U=mvI d 8589934592 T i 0):MvO d T0 (f-1,U,i+1):=by
 subst hU;have hp:=h.pos.1;have hr:mvO d f T i=mvO d FU2 T0 0:=h.res;obtain⟨g,rfl⟩:∃g,f=g+1:=⟨f-1,by omega⟩;unfold mvO at hr;rw[if_pos hi]at hr;have hf:4294967296<g+1+i:=h.fuel;exact⟨am4 h.nd,h.pre.trans (aa9 d _ T i 0),hr,btc hi (aa9 d _ T i 0).length_le,by show 4294967296<g+(i+1);omega⟩
end
end
end
section
structure ChI (l m:List Fd) (R:List AS) (x:Nat×List AS×Bool):Prop where
 nd:x.2.1.Nodup
 t:x.2.2=true->chF l m x.1 x.2.1=R/\muT x.2.1<x.1
 f:x.2.2=false->x.2.1=R
def bs2(x:Nat×List AS×Bool):Nat:=x.1+(bif x.2.2 then 1 else 0)
theorem ChI.start(l m:List Fd)(rest:AS):ChI l m (chT l m rest) (MU,b7s rest,true):=⟨bne rest,fun _=>⟨rfl,biy _⟩,fun h=>by cases h⟩
theorem ChI.next {l m:List Fd} {R T:List AS} {f:Nat} (h:ChI l m R (f,T,true)):ChI l m R (f-1,(ye l m T).1,(ye l m T).2)/\0<f:=by
 obtain⟨h1,h2⟩:=h.t rfl;have h2:muT T<f:=h2;have h1:chF l m f T=R:=h1;have hn:T.Nodup:=h.nd;obtain⟨g,rfl⟩:∃g,f=g+1:=⟨f-1,by omega⟩;unfold chF at h1;refine⟨⟨bfr b86 bm6 hn,fun hc=>?_,fun hc=>?_⟩,by omega⟩
 · have hc:(ye l m T).2=true:=hc
   rw[if_pos hc]at h1;have:=bgp hn hc;exact⟨h1,by show muT (ye l m T).1<g;omega⟩
 have hc:(ye l m T).2=false:=hc;rw[if_neg (by rw[hc];decide)]at h1;exact h1
def brx(l:List Fd)(T:List AS)(i:Nat):TC:=(l.take i).foldl fdR (T,false)
def mvX(m:List Fd)(x:TC)(i:Nat):TC:=(m.take i).foldl mvR x
structure FdI (d:Fd) (U0:List AS) (x:Nat×List AS×Bool):Prop where
 nd:x.2.1.Nodup
 res:ss d x.1 x.2.1=ss d FU2 U0
 fuel:(orL x.2.1).toNat<x.1
 f:x.2.2=false->x.2.1=U0
 t:x.2.2=true->(fdT d U0).isSome=true
section
variable {d:Fd}{U0 U:List AS}{g:Nat}{b c:Bool}{s:AS}
theorem FdI.start(h:U0.Nodup):FdI d U0 (FU2,U0,false):=⟨h,rfl,bvy (orL U0).isLt (show 2^32<=FU2 by decide),fun _=>rfl,fun h=>by cases h⟩
theorem FdI.len(h:FdI d U0 (g,U,b)):U.length<=8589934592:=btc (a1i (show U.Nodup from h.nd)) bx3
theorem FdI.next (h:FdI d U0 (g,U,b)) (hq:fdT d U=some s):FdI d U0 (g-1,ue U s,true)/\0<g:=by
 have h3:(orL U).toNat<g:=h.fuel;have h2:ss d g U=ss d FU2 U0:=h.res;obtain⟨k,rfl⟩:∃k,g=k+1:=⟨g-1,by omega⟩;rw[a1r hq]at h2;have h4:=aiq hq;refine⟨⟨ag6 U s,h2,(by show(orL (ue U s)).toNat<k;omega),(fun hc=>by cases hc),fun _=>?_⟩,by omega⟩
 cases hb:b with
 |true=>exact h.t hb
 | false =>
  have e:U=U0:=h.f hb;rw[<- e,hq];rfl
theorem FdI.done (h:FdI d U0 (g,U,b)) (hq:fdT d U=none):(U,c||b)=fdR (U0,c) d:=by
 have h2:ss d g U=ss d FU2 U0:=h.res;rw[a8g hq]at h2;unfold fdR;rw[<- h2]
 cases hb:b with
 |true=>rw[h.t hb]
 | false =>
  have e:U=U0:=h.f hb;rw[<- e,hq];rfl
end
end
section
def bkr(a b:AS):Bool:=adf b a
def brh(l:List AS):List AS:=a5a bkr l
def okM(l:List AS)(i k:Nat):Bool:=(List.range k).all fun j=>decide (j=i)||!adf (l.getD j default) (l.getD i default)
def br3(l:List AS)(i:Nat):List AS:=((ord l).take i).filter fun x=>!a3j bkr (ord l) x
def yq(rest L x:AS)(T:List AS)(y:AS):Bool:=!decide (y=0)&&(decide (y&&&~~~rest=0)&&decide ((L&&&~~~(x|||y))∈T))
def yL(rest L x:AS)(T:List AS)(k:Nat):List AS:=((List.range k).map (BitVec.ofNat 32)).filter (yq rest L x T)
section
variable {rest L x:AS}{T:List AS}{k:Nat}
end
end
section
section
variable {V:AS->Option Fd}
def alb{k:Nat}{s:AS}(h:vBo V s=true):lvG V (k+1) s=lvG V k (nf V s)++lvG V k (n5 V s):=if_pos h
def al5 {k:Nat} {s:AS} (h:vBo V s=false):lvG V k s=[s]:=by
 cases k with
 |zero=>rfl
 |succ k=>exact if_neg (by rw[h];decide)
end
def bbd {n:Int} {l m:List Fd} {ps:List AS} (hz:ck4 n l m 0=0):b6b n l m ps=(lsB n ps l m&&ps.all (fun p=>!vBo (dq n l m) p)):=by
 unfold b6b;rw[if_pos hz];by_cases h:lsC n ps l m=0
 · rw[if_pos h]
 rw[if_neg h,show lsB n ps l m=false by unfold lsB;rw[decide_eq_false h];rfl];rfl
def bjr {n:Int} {l m:List Fd} (h8:n<=8):gw (lvG (dq n l m) 9 (aa n))=gw (agf n l m):=by
 have hb:=acl (n:=n) (m:=8) h8 bww
 have hmem:∀z,z∈agf n l m<->z∈lvG (dq n l m) 9 (aa n):=fun z=>by
  unfold agf;rw[adg (ua n l m) _ _ _ (ajv (V:=dq n l m) h8).2.1,a0x (ua n l m) 9 33 _ bww bww];simp
 unfold gw a5a;rw[b1d (k:=ord (agf n l m)) (l:=lvG (dq n l m) 9 (aa n)) (a0k _) fun z=>by rw[o3,hmem]]
end
section
open Go.Proofs
def bqh(n:Int)(ps:List AS):List AS:=if ps.length=0 then[aa n]else ps.set (ps.length-1) (ps.getD (ps.length-1) default|||(aa n&&&~~~(orL ps)))
end
section
def acf {r x:Row}:∀{l:List Row},x∈y9 r l<->x=r\/x∈l
 | []=>by simp[y9]
 | y::l=>by
  simp only[y9];split
  · simp
  simp only[bt7,acf (l:=l)];constructor
  · rintro(h|h|h)<;>simp[h]
  rintro(h|h|h)<;>simp[h]
def ab5{r:Row}:∀{l:List Row},vm l->(∀x∈l,x.id≠r.id)->vm (y9 r l)
 | [],_,_=>by simp[y9,vm]
 | y :: l,hs,hn=>by
  have hs':=hs;unfold vm at hs';rw[bty]at hs';simp only[y9];split
  · rename_i h
    refine List.Pairwise.cons (fun x hx=>?_) hs
    rcases bt7.1 hx with rfl|hx
    · exact h
    have:=hs'.1 x hx;omega
  rename_i h;refine List.Pairwise.cons (fun x hx=>?_) (ab5 hs'.2 fun x hx=>hn x (by simp[hx]))
  rcases acf.1 hx with rfl|hx
  · have:=hn y bx0;omega
  exact hs'.1 x hx
section
variable {l:List Row}
def axl {id:Int} (h:i9 l id<0):∀x∈l,x.id≠id:=by
 intro x hx e;have h2:=auv (p:=fun r:Row=>decide (r.id=id)) (l:=l);have h3:(l.any fun r=>decide (r.id=id))=true:=by rw[bu1];exact⟨x,hx,by simp[e]⟩
 rw[h3]at h2;simp only[decide_eq_true_eq]at h2;unfold i9 at h;omega
variable {t:Tbl}
def bgc {r:Row} (h:a04 t r=0):TOk (avy t r):=by
 obtain⟨h1,h2,h3,h4,h5,h6⟩:=b4p h;have hT:=mc.1 h1;rw[bfm h];refine⟨hT.nm,hT.na,by show(y9 r t.rows).length<=1000;rw[alz];omega,hT.nms, ?_⟩;refine vc (fun x hx=>?_) (ab5 (rz hT.rs) (axl h5))
 rcases acf.1 hx with rfl|hx
 · exact⟨h3,h2,h4⟩
 exact jn hT.rs x hx
def b7e {i:Int} (h:a36 t i=0):dg t=0/\0<=i9 t.rows i:=by
 unfold a36 at h;split at h
 · omega
 split at h
 · exact⟨by omega,by assumption⟩
 omega
def bhn {i:Int} (h:a36 t i=0):TOk (aw3 t i):=by
 have hT:=mc.1 (b7e h).1;rw[bes h];have hsub:=List.eraseIdx_sublist t.rows (i9 t.rows i).toNat;refine⟨hT.nm,hT.na,by have:=hsub.length_le;have:=hT.nr;show(t.rows.eraseIdx _).length<=1000;omega,hT.nms, ?_⟩;exact vc (fun x hx=>jn hT.rs x (hsub.subset hx)) (List.Pairwise.sublist hsub (rz hT.rs))
def bf0 {i a:Int} {v:Val} (h:a5t t i a v=0):dg t=0/\0<=i9 t.rows i/\0<=a/\a<t.attrs.length/\ci v=true:=by
 unfold a5t at h;split at h
 · omega
 split at h
 · omega
 split at h
 · omega
 split at h
 · omega
 rename_i h1 h2 h3 h4;exact⟨by omega,by omega,by omega,by omega,by simpa using h4⟩
def b48{i k:Nat}{v:Val}(hi:i<l.length):(a6m l i k v).map Row.id=l.map Row.id:=by
 unfold a6m;apply bvu;intro j;rw[btf,btf,List.getElem?_set];split
 · rename_i h
   subst h;rw[bsu hi];simp[List.getD,bsu hi]
 rfl
def adn:vm l<->(l.map Row.id).Pairwise (·<·):=by
 rw[List.pairwise_map]
def bjk{i a:Int}{v:Val}(h:a5t t i a v=0):TOk (axn t i a v):=by
 obtain⟨h1,h2,h3,h4,h5⟩:=bf0 h;have hT:=mc.1 h1;have hix:(i9 t.rows i).toNat<t.rows.length:=by have:=bkn h2;rwa [show max (i9 t.rows i) 0=i9 t.rows i from by omega]at this
 rw[bav h];refine⟨hT.nm,hT.na,by show(a6m _ _ _ _).length<=1000;rw[b68];exact hT.nr,hT.nms, ?_⟩;refine vc (fun x hx=>?_) (by rw[adn,b48 hix,<- adn];exact rz hT.rs);have hold:=jn hT.rs _ (bta hix);have hgd:=c4 _ _ hix;unfold a6m at hx
 rcases List.mem_or_eq_of_mem_set hx with hx|rfl
 · exact jn hT.rs x hx
 refine⟨by show 0<(t.rows.getD _ default).id;rw[hgd];exact hold.1,by show(List.set _ _ _).length=_;rw[bus,hgd];exact hold.2.1, ?_⟩;rw[btl];intro y hy
 rcases List.mem_or_eq_of_mem_set hy with hy|rfl
 · rw [hgd]at hy
   exact btl.1 hold.2.2 y hy
 exact h5
def bje {c:Chg} (h:ae2 t c=0):TOk (adb t c):=by
 unfold ae2 at h;unfold adb;split at h
 · rename_i h2;rw[if_pos h2];exact bgc h
 rename_i h2;rw[if_neg h2];split at h
 · omega
 split at h
 · omega
 split at h
 · rename_i h3;rw[if_pos h3];exact bhn h
 rename_i h3;rw[if_neg h3];exact bjk h
def bnk{d:DB}{c:Chg}(hd:dbV d):dbV (a4w d c):=by
 by_cases he:l7 d c=0
 · unfold l7 at he
   split at he
   · rename_i h1
     split at he
     · omega
     obtain⟨g1,g2,g3⟩:=bdc he;have he':l7 d c=0:=by rw[aE2 h1 bxa];exact he
     rw[aD1 he' h1];refine⟨by simp;omega,fun j hj=>?_⟩;by_cases h:j<d.length
     · rw [show(d++[c.table]).getD j default=d.getD j default from by simp[List.getD,bvb h]]
       exact hd.2 j h
     obtain rfl:j=d.length:=by simp at hj;omega
     rw[show(d++[c.table]).getD d.length default=c.table from by simp[List.getD]];exact g1
   rename_i h1;split at he
   · omega
   split at he
   · omega
   rename_i h2 h3;have he':l7 d c=0:=by rw[aE5 bww h3];exact he
   rw[aD2 he' h1 rfl];refine⟨by rw[bus];exact hd.1,fun j hj=>?_⟩;rw[bus]at hj;by_cases h:j=(ml d c.name).toNat
   · subst h
     rw[show(d.set (ml d c.name).toNat (adb (x7 d c.name) c)).getD (ml d c.name).toNat default=adb (x7 d c.name) c from by simp[List.getD,hj]];exact mc.2 (bje he)
   rw[show(d.set (ml d c.name).toNat (adb (x7 d c.name) c)).getD j default=d.getD j default from by simp only[List.getD,List.getElem?_set_ne (Ne.symm h)]];exact hd.2 j hj
 rw[bhf rfl he];exact hd
def dbV.ok{d:DB}(h:dbV d):bog d:=⟨by have:=h.1;omega,fun j hj=>b2h (h.2 j hj)⟩
def atj:dbV []:=⟨by simp,fun j hj=>by simp at hj⟩
def azr:∀{l:List Chg} {d:DB},dbV d->dbV (aln d l)
 | [],d,h=>h
 | c::l,d,h=>by
  simp only[aln];split
  · exact atj
  exact azr (bnk h)
variable {n:Nat}
def bpe (hn:n<=8) {f:Nat->Nat->PV}:CoP (.sl (0+n) 1 false (ep 0 f (fun i j=>[PV.raw (.string ⟨#[97]⟩), .raw (.string ⟨#[98]⟩), .raw (.string ⟨#[99]⟩), .raw (.string ⟨#[100]⟩), .raw (.string ⟨#[101]⟩), .raw (.string ⟨#[102]⟩), .raw (.string ⟨#[103]⟩), .raw (.string ⟨#[104]⟩)].getD (i*1+j) .any))) (ya (oo.take n)):=by
 refine CoP.sl (by simp[oo];omega) (.inl rfl) (fun h=>h) fun i j hi hj=>CoP.of_eq ?_;obtain rfl:j=0:=by omega
 have hi8:i<n:=by omega
 simp only[ep,bt1,if_false,Nat.sub_zero,bvs,bur,lf,List.getD,btx,hi8,if_true];have:i<8:=by omega
 match i,this with
 |0,_=>rfl
 |1,_=>rfl
 |2,_=>rfl
 |3,_=>rfl
 |4,_=>rfl
 |5,_=>rfl
 |6,_=>rfl
 |7,_=>rfl
def ah6{α:Type}[Inhabited α]{l:List α}{k:Nat}(h:l.length<=k):l.getD k default=default:=by simp[List.getD,h]
def bi6 {g:UInt8} {i:Nat}:0<=(i:Int)*(1+(g.toNat:Int)%3)/\(i:Int)*(1+(g.toNat:Int)%3)<=3*i:=by
 have h:(g.toNat:Int)%3=0\/(g.toNat:Int)%3=1\/(g.toNat:Int)%3=2:=by omega
 rcases h with h|h|h<;>rw[h]<;>omega
def ayx{l:List UInt8}:(qs l n).length=n:=by simp[qs]
def azc{x:oq}:(my x n).length=x.rows.length:=by simp[my]
def ay2 {l:List UInt8} {k j:Nat} (h:k<n):lf Val.c (qs l n) k j=Val.c (ofV (l.getD k default)) j:=by
 unfold lf qs;rw[ajm _ _ _ h]
def bgi {x:oq} {i j:Nat} (h:i<x.rows.length):lf Row.c (my x n) i j=Row.c ⟨1+(i:Int)*(1+(x.gap.toNat:Int)%3),qs (x.rows.getD i default) n⟩ j:=by
 unfold lf my;rw[ajm _ _ _ h]
def jr(s:Stt):List Chg:=s.done.flatten++s.now
def ai9(s:Stt):DB:=aln [] (jr s)
def bsd (s:Stt) (x:Opn):Chg :=
 let k:=x.kind.toNat%9
 if k=0 then { (default:Chg)with kind:=1,name:=ah9 x,table:=b8l x }
 else if ml (ai9 s) (ah9 x)<0 then default
 else
  let t:=x7 (ai9 s) (ah9 x)
  if k=1 then { (default:Chg)with kind:=2,name:=t.name,row:=b8y x }
  else if ¬0<=i9 t.rows x.id then default
  else if k=2 then { (default:Chg)with kind:=3,name:=t.name,row:=t.rows.getD (max (i9 t.rows x.id) 0).toNat default }
  else { (default:Chg)with kind:=4,name:=t.name,row:=t.rows.getD (max (i9 t.rows x.id) 0).toNat default,attr:=x.attr,value:=ofV x.value }
def br6 (s:Stt) (x:Opn):Int :=
 let k:=x.kind.toNat%9
 if k=0 then afn (ai9 s) (b8l x)
 else if ml (ai9 s) (ah9 x)<0 then 4
 else
  let t:=x7 (ai9 s) (ah9 x)
  if k=1 then a04 t (b8y x)
  else if ¬0<=i9 t.rows x.id then 4
  else if k=2 then 0
  else a5t t x.id x.attr (ofV x.value)
structure bku (s:Stt):Prop where
 ld:s.done.flatten.length<=68719476736
 ln:s.now.length<=68719476736
 lt:s.done.length<=68719476736
 lu:s.undone.length<=68719476736
 ok:bl3 (jr s)
structure bsl (x:Opn):Prop where
 lv:x.vals.length<=68719476736
 lr:x.t.rows.length<=68719476736
def bku.V{s:Stt}(_:bku s):dbV (ai9 s):=azr atj
end
end
section
def b6g:∀k,k<9->a1l (oo.take k)=true:=by decide
def aul (c:UInt8):mi (ofV c):=by
 unfold ofV;have h:∀k:Fin 12,ci (ofI (k.val:Int))=true/\-1<=(ofI (k.val:Int)).num/\(ofI (k.val:Int)).num<=7:=by decide
 have:=h ⟨c.toNat%12,by omega⟩;rw[show((c.toNat%12:Nat):Int)=(c.toNat:Int)%12 by omega]at this;exact⟨this.1,by omega,by omega⟩
def ac3 {x:oq} {n:Nat} (hn:n<=8):(er x n).attrs.length=n:=by
 show(oo.take n).length=n;rw[bt4];have:oo.length=8:=rfl;omega
def bck{x:oq}{n:Nat}(hn:n<=8)(hx:x.rows.length<=8):TOk (er x n) where
 nm:=by show jy ⟨#[114]⟩=true;decide
 na:=by rw[ac3 hn];omega
 nr:=by show(my x n).length<=1000;rw[azc];omega
 nms:=b6g n bww
 rs:=by
  rw[ac3 hn];refine vc (fun w hw=>?_) ?_
  · obtain ⟨i,hi,e⟩:=bti.1 hw
    subst e;refine⟨?_,ayx, ?_⟩
    · show (0:Int)<1+(i:Int)*(1+(x.gap.toNat:Int)%3)
      have:(0:Int)<=(i:Int)*(1+(x.gap.toNat:Int)%3):=Int.mul_nonneg bww bww;omega
    rw[btl];intro v hv;obtain⟨k,_,e⟩:=bti.1 hv;rw[<- e];exact(aul _).1
  show vm (my x n);unfold my;refine List.pairwise_map.2 ((List.pairwise_lt_range (n:=x.rows.length)).imp fun {i j} hij=>?_);show 1+(i:Int)*(1+(x.gap.toNat:Int)%3)<1+(j:Int)*(1+(x.gap.toNat:Int)%3);have:(i:Int)*(1+(x.gap.toNat:Int)%3)<(j:Int)*(1+(x.gap.toNat:Int)%3):=Int.mul_lt_mul_of_pos_right bww bww;omega
def b73 {x:oq} {n:Nat}:∀r∈(er x n).rows,∀v∈r.vals,mi v:=fun r hr v hv=>by
 obtain⟨i,hi,rfl⟩:=bti.1 hr;obtain⟨k,_,rfl⟩:=bti.1 hv;exact aul _
def bmb(n:Int)(d:Fd):Fd:=⟨d.lhs&&&aa n,d.rhs&&&aa n⟩
def bs8(q:Fd->Bool)(n:Int)(l:List Fd)(i:Nat):List Fd:=((l.take i).map (bmb n)).filter q
section
variable {q:Fd->Bool}{n:Int}{l:List Fd}{i:Nat}
end
def bsb(s:AS)(l:List AS)(i:Nat):List AS:=(l.take i).map (·&&&s)++l.drop i
section
variable {s:AS}{l:List AS}{i:Nat}
end
end
section
def ac5(t:Tbl)(d:Fd):Bool:=(List.range t.rows.length).all fun i=>(List.range t.rows.length).all fun k=>a0s t d i k
section
variable {t:Tbl}
def bk6 {d:Fd} (h:ac5 t d=true):fdB t d=true:=by
 unfold ac5 at h;unfold fdB;rw[btl]at h ⊢;intro i hi;have h1:=h i hi;rw[btl]at h1 ⊢;intro k hk;have hi:=btj.1 hi;have hk:=btj.1 hk;exact h1 k (btj.2 bww)
def a2e(t:Tbl)(l:List Fd)(i:Nat):List Fd:=(l.take i).filter (ac5 t)
def jf(t:Tbl)(l:List Fd):List Fd:=l.filter (ac5 t)
variable {l:List Fd}
def ag2{i:Nat}(hi:i<l.length)(h:ac5 t (l.getD i default)=true):a2e t l (i+1)=a2e t l i++[l.getD i default]:=alo hi h
def ady{i:Nat}(hi:i<l.length)(h:ac5 t (l.getD i default)=false):a2e t l (i+1)=a2e t l i:=al9 hi h
def b3l:a2e t l l.length=jf t l:=by unfold a2e jf;rw[bt6]
def b7x{i:Nat}:(a2e t l i).length<=i:=btc (buj _ _) (bwk _ _)
def b6l:(jf t l).length<=l.length:=buj _ _
def bli {n:Int} (h:cb n l=0):cb n (jf t l)=0:=by
 obtain⟨h1,h2,h3,h4⟩:=l4 h;have hl:=b6l (t:=t) (l:=l);unfold cb;rw[if_neg bww,if_neg bww,if_pos];rw[btl]at h4 ⊢;exact fun x hx=>h4 x (bul.1 hx).1
def baf:∀d∈jf t l,fdB t d=true:=fun d hd=>bk6 (bul.1 hd).2
def bi2 {n:Int} {ps:List AS} {p m:List Fd} (hc:lsC n ps p m=0) (hl:lsB n ps p m=true):prC n ps p m=0:=by
 have h:=(bbm hc).2 hl;have hr:=(a07 (n:=n) (ps:=ps) (p:=p) (m:=m)).trans hc;unfold prC;rw[if_pos hr,if_neg bww]
end
end
section
section
variable {n:Int}{p m:List Fd}{E:Int->Int->Prop}{R:Rw->Prop}
def bn0(E:Int->Int->Prop)(R:Rw->Prop)(x b:AS):Prop:=∀a c,R a->R c->AgE E a c x->R (ej a c b)
def a03 (h:Mdl n.toNat p m E R) {a c r:Rw} {b:AS} (hr:R r) (ha:R a) (hc:R c) (he:∀i,i<n.toNat->E (r.getD i default) (if bu b (i:Int)=true then a.getD i default else c.getD i default)):R (ej a c b):=by
 have la:=h.len ha;have lc:=h.len hc;have lr:=h.len hr;refine h.cong hr (by rw[jx,lc,lr]) fun i hi=>?_;rw[o4 bww];exact he i bww
def b3b(h8:n<=8)(h:Mdl n.toNat p m E R){x:AS}{bs:List AS}(hb:Blk (se p m) (aa n&&&~~~x) bs):∀b∈bs,bn0 E R x b:=by
 have hN:n.toNat<=8:=by omega
 refine hb.ind _ (fun a c ha hc hag=>?_) fun d hd b hG hsp=>?_
 · refine a03 h ha ha hc fun i hi=>?_
   split
   · exact h.refl _
   rename_i hh;refine hag i (by rw[h.len ha];exact hi) ?_;rw[c9 bww]at hh ⊢;rw[ic bww]at hh;have hf:=aop (n:=n) (i:=i) bww hi;rw[c9 bww]at hf;rw[hf]at hh;simpa using hh
 obtain⟨s1,s2,s3⟩:=a0z.1 hsp
 have hL:∀i:Nat,i<n.toNat->bu d.lhs (i:Int)=true->bu b (i:Int)=false:=fun i hi hl=>by
  rw[c9 bww]at hl ⊢
  cases hbi:b.getLsbD i with
  |false=>rfl
  |true=>rw[avo.1 s1 i bww hbi]at hl;cases hl
 have key:∀a c,R a->R c->AgE E a c x->R (ej a c b)/\AgE E (ej a c b) c d.lhs:=fun a c ha hc hag=>by
  have hs:=hG a c ha hc hag;refine⟨hs,fun i hi hl=>?_⟩;have hi2:i<n.toNat:=by rw[h.len hs]at hi;exact hi
  rw[o4 (by rw[h.len hc];exact hi2),if_neg (by rw[hL i hi2 hl];decide)];exact h.refl _
 have hor:∀(s t:AS) (i:Nat),i<n.toNat->bu (s&&&t) (i:Int)=(bu s (i:Int)&&bu t (i:Int)):=fun s t i hi=>by
  rw[c9 bww,c9 bww,c9 bww,btm]
 have hdf:∀(s t:AS) (i:Nat),i<n.toNat->bu (s&&&~~~t) (i:Int)=(bu s (i:Int)&&!bu t (i:Int)):=fun s t i hi=>by
  rw[c9 bww,c9 bww,c9 bww,ic bww]
 rcases az5.1 hd with hm|⟨f,hf,a0,hal,hfa,rfl⟩
 · constructor
   · intro a c ha hc hag
     obtain⟨h1,h2⟩:=key a c ha hc hag;have h3:=h.mv hm h1 hc h2;refine a03 h h3 ha hc fun i hi=>?_;rw[o4 (by rw[h.len hc];exact hi),o4 (by rw[h.len hc];exact hi),hor _ _ i hi,a9w];have hli:=hL i hi;cases h4:bu d.lhs (i:Int)<;>cases h5:bu d.rhs (i:Int)<;>cases h6:bu b (i:Int)<;>simp_all<;>exact h.refl _
   intro a c ha hc hag;obtain⟨h1,h2⟩:=key a c ha hc hag;have h2':AgE E c (ej a c b) d.lhs:=fun i hi hl=>h.symm (h2 i (by rw[h.len h1];rw[h.len hc]at hi;exact hi) hl);have h3:=h.mv hm hc h1 h2';refine a03 h h3 ha hc fun i hi=>?_;rw[o4 (by rw[h.len h1];exact hi),o4 (by rw[h.len hc];exact hi),hdf _ _ i hi,a9w];have hli:=hL i hi;cases h4:bu d.lhs (i:Int)<;>cases h5:bu d.rhs (i:Int)<;>cases h6:bu b (i:Int)<;>simp_all<;>exact h.refl _
 have hba:b.getLsbD a0=true:=by
  obtain⟨i,hi,h1,h2⟩:=ama s2;rw[ad8 hal hi]at h2;have:i=a0:=by simpa using h2
  rw[<- this];exact h1
 have hone:∀a c,R a->R c->AgE E a c x->a0<n.toNat->E (a.getD a0 default) (c.getD a0 default):=fun a c ha hc hag hlt=>by
  obtain⟨h1,h2⟩:=key a c ha hc hag;have h3:=h.fd hf h1 hc h2 a0 (by rw[h.len h1];exact hlt) (by rw[c9 hal];exact hfa);rw[o4 (by rw[h.len hc];exact hlt),if_pos (by rw[c9 hal];exact hba)]at h3;exact h3
 constructor
 · intro a c ha hc hag
   refine a03 h hc ha hc fun i hi=>?_;show E _ (if bu (b&&&a0p a0) (i:Int)=true then _ else _);split
   · rename_i hh
     rw[hor _ _ i hi,bt5,c9 (s:=a0p a0) bww,ad8 hal bww,decide_eq_true_eq]at hh;obtain rfl:=hh.2;exact h.symm (hone a c ha hc hag hi)
   exact h.refl _
 intro a c ha hc hag;obtain⟨h1,_⟩:=key a c ha hc hag;refine a03 h h1 ha hc fun i hi=>?_;show E _ (if bu (b&&&~~~a0p a0) (i:Int)=true then _ else _);rw[o4 (by rw[h.len hc];exact hi),hdf _ _ i hi,c9 (s:=a0p a0) bww,ad8 hal bww];by_cases e:i=a0
 · subst e
   rw[if_pos (by rw[c9 hal];exact hba)];simp only[decide_true,bwm,Bool.and_false,buv,if_false];exact hone a c ha hc hag hi
 simp only[e,decide_false,bws,Bool.and_true];exact h.refl _
def bkg{s:AS}{v:Fd}(h:dq n p m s=some v):sub v.lhs s/\∃b∈blks (se p m) (aa n&&&~~~v.lhs),v.rhs=b&&&s:=by
 unfold dq at h;obtain⟨x,hx,hv⟩:=bvi h;have hxp:=a7c hx;unfold a60 at hv;split at hv
 · cases hv
 split at hv
 · rename_i hlen
   cases hv;have m0:=uw (l:=kp n p m x s) (i:=0) bww;obtain⟨b,hb,_,e⟩:=acw.1 m0;exact⟨hxp,b,hb,e⟩
 cases hv
def ax3(h8:n<=8)(h:Mdl n.toNat p m E R){s:AS}(hv:vBo (dq n p m) s=true)(h1:a2c E R (nf (dq n p m) s))(h2:a2c E R (n5 (dq n p m) s)):a2c E R s:=by
 obtain⟨hx,b,hb,hr⟩:=bkg (a4p hv);have hbk:=(asv (se p m) (aa n&&&~~~(vF (dq n p m) s).lhs)).1;have hG:=b3b h8 h hbk b hb;have hbx:=cz.1 (hbk.sub hb);unfold nf at h1;unfold n5 at h2;generalize vF (dq n p m) s=v at *;obtain⟨r1,a1,e1⟩:=h1;obtain⟨r2,a2,e2⟩:=h2;have l1:=h.len a1;have l2:=h.len a2
 have hnb:∀i:Nat,i<n.toNat->bu v.lhs (i:Int)=true->bu b (i:Int)=false:=fun i hi hl=>by
  rw[c9 bww]at hl ⊢
  cases hbi:b.getLsbD i with
  |false=>rfl
  | true =>
   have:=hbx i bww hbi;rw[ic bww,hl]at this;simp at this
 have hx2:∀i:Nat,i<n.toNat->bu v.lhs (i:Int)=true->bu (s&&&~~~v.rhs) (i:Int)=true:=fun i hi hl=>by
  have hb0:=hnb i hi hl;rw[c9 bww]at hl hb0 ⊢;rw[ic bww,hr,btm,hb0,cz.1 hx i bww hl];rfl
 have hag:AgE E r1 r2 v.lhs:=fun i hi hl=>by
  have hi2:i<n.toNat:=by omega
  exact h.trans (e1 i hi (by rw[a9w,hl];rfl)) (h.symm (e2 i bww (hx2 i hi2 hl)))
 refine⟨ej r1 r2 b,hG r1 r2 a1 a2 hag,fun i hi hs=>?_⟩;have hi2:i<n.toNat:=by rw[jx,l2]at hi;exact hi
 rw[o4 bww];split
 · rename_i hbi
   refine e1 i bww ?_;rw[a9w,bud];right;rw[c9 bww]at hbi hs ⊢;rw[hr,btm,hbi,hs];rfl
 rename_i hbi;refine e2 i bww ?_;rw[c9 bww]at hbi hs ⊢;rw[ic bww,hs,hr,btm,btb.2 hbi];rfl
def amp(h8:n<=8)(h:Mdl n.toNat p m E R):∀(k:Nat) (s:AS),(∀q,q∈lvG (dq n p m) k s->a2c E R q)->a2c E R s
 |0,s,hq=>hq s (by simp[lvG])
 | k + 1,s,hq=>by
  cases hv:vBo (dq n p m) s with
  |false=>exact hq s (by rw[al5 hv];simp)
  | true =>
   rw[alb hv]at hq;exact ax3 h8 h hv (amp h8 h k _ fun q hm=>hq q (btg _ hm)) (amp h8 h k _ fun q hm=>hq q (btv _ hm))
end
section
variable {n:Int}{p m:List Fd}
def a40(h:ck4 n p m 0=0):iw n p m=gw (lvG (dq n p m) 9 (aa n)):=by rw[b15 h,bjr (sx h).2.1]
def a6b (h:ck4 n p m 0=0):LR n.toNat p m (b9 n (iw n p m)) (dy n):=fun E R hm hl=>by
 obtain⟨h0,h8,_⟩:=sx h;refine b1i bww hm (amp h8 hm 9 (aa n) fun q hq=>?_);rw[a40 h]at hl;obtain⟨y,hy,hqy⟩:=aib hq;exact(b2p h0 hm hl hy).mono hqy
def abo:∀(k:Nat) (s:AS),sub s (orL (lvG (dq n p m) k s))
 |0,s=>aab (by simp[lvG])
 | k + 1,s=>by
  cases hv:vBo (dq n p m) s with
  |false=>rw[al5 hv];exact aab bx0
  | true =>
   rw[alb hv];have h1:=abo k (nf (dq n p m) s);have h2:=abo k (n5 (dq n p m) s);refine cz.2 fun i hi hb=>?_
   have hor:∀A B:List AS,(orL A).getLsbD i=true\/(orL B).getLsbD i=true->(orL (A++B)).getLsbD i=true:=fun A B hh=>by
    rw[qn hi,List.any_append,bud,<- qn hi,<- qn hi];exact hh
   refine hor _ _ ?_
   cases hr:(vF (dq n p m) s).rhs.getLsbD i with
   |true=>exact .inl (cz.1 h1 i hi (by unfold nf;rw[bv7,hr,Bool.or_true]))
   |false=>exact .inr (cz.1 h2 i hi (by unfold n5;rw[ic hi,hb,hr];rfl))
def ai7:∀(k:Nat) (s q:AS),bsz s<k->q∈lvG (dq n p m) k s->vBo (dq n p m) q=false/\sub q s
 |0,s,q,h,_=>absurd h (bt1 _)
 | k + 1,s,q,h,hq=>by
  cases hv:vBo (dq n p m) s with
  | false =>
   rw[al5 hv,bte]at hq;subst hq;exact⟨hv,jh _⟩
  | true =>
   rw[alb hv]at hq;obtain⟨b1,b2⟩:=xv (ua n p m) hv;obtain⟨s1,_,_⟩:=ua n p m s _ (a4p hv)
   rcases btd.1 hq with hq|hq
   · obtain ⟨r1,r2⟩:=ai7 k _ q bww hq
     exact⟨r1,ku r2 s1⟩
   obtain⟨r1,r2⟩:=ai7 k _ q bww hq;exact⟨r1,ku r2 a1n⟩
def b0p {l:List AS} {q:AS} (h:q∈gw l):q∈l:=by
 unfold gw a5a at h;exact o3.1 (bul.1 h).1
def a8s (h:ck4 n p m 0=0) {q:AS} (hq:q∈iw n p m):vBo (dq n p m) q=false/\sub q (aa n):=by
 rw[a40 h]at hq;have hb:=acl (n:=n) (m:=8) (sx h).2.1 bww;exact ai7 9 _ q bww (b0p hq)
def adl(h:ck4 n p m 0=0)(h6:n<=6):lvE n (iw n p m)=0:=by
 obtain⟨h0,h8,_⟩:=sx h;have hcov:=abo (n:=n) (p:=p) (m:=m) 9 (aa n)
 have hsub:sub (aa n) (orL (iw n p m)):=by
  refine ku hcov (b0r fun q hq=>?_);rw[a40 h];obtain⟨y,hy,hqy⟩:=aib hq;exact ku hqy (aab hy)
 refine bmc h0 h6 (by rw[a40 h];exact aww _) (fun q hq=>(a8s h hq).2) ?_ hsub
 have hne:∃q,q∈lvG (dq n p m) 9 (aa n):=by
  have:∀(k:Nat) (s:AS),∃q,q∈lvG (dq n p m) k s:=by
   intro k
   induction k with
   |zero=>intro s;exact⟨s,by simp[lvG]⟩
   | succ k ih =>
    intro s
    cases hv:vBo (dq n p m) s with
    |false=>exact⟨s,by rw[al5 hv];simp⟩
    | true =>
     obtain⟨q,hq⟩:=ih (nf (dq n p m) s);exact⟨q,by rw[alb hv];exact btg _ hq⟩
  exact this 9 _
 obtain⟨q,hq⟩:=hne;obtain⟨y,hy,_⟩:=aib hq;rw[a40 h];exact List.length_pos_of_mem hy
def b1x(h:ck4 n p m 0=0)(h6:n<=6):lsC n (iw n p m) p m=3\/(lsC n (iw n p m) p m=0/\lsB n (iw n p m) p m=true/\b6b n p m (iw n p m)=true/\bh7 n p m (iw n p m)=0):=by
 have hv:=adl h h6;have hb:=(zq (sx h).2.2).1;obtain⟨h0,h8,h64,_⟩:=a41 hv
 rcases ajs (m:=m) h64 hb with⟨e,_⟩|⟨sts,lend,e,h1,_⟩
 · left
   rw[alp hv hb];unfold lsT;rw[e]
 right;have ec:lsC n (iw n p m) p m=0:=by rw[alp hv hb];unfold lsT;rw[e]
 have eB:lsB n (iw n p m) p m=true:=by
  unfold lsB lsT;rw[ec,e,decide_eq_true rfl,bv2];show(lend.any fun r=>decide (r=dy n))=true;rw[a1h,decide_eq_true_iff,h1];exact a6b h
 refine⟨ec,eB, ?_, ?_⟩
 · rw [bbd h,eB,bv2,btl]
   intro q hq;rw[(a8s h hq).1];rfl
 unfold bh7;rw[if_pos h];exact ec
end
end
section
def a2b(t:Tbl)(l:List Fd)(i:Nat):List Fd:=(l.take i).filter (mvB t)
def kf(t:Tbl)(l:List Fd):List Fd:=l.filter (mvB t)
section
variable {l:List Fd}{t:Tbl}
def a3v{i:Nat}(hi:i<l.length)(h:mvB t (l.getD i default)=true):a2b t l (i+1)=a2b t l i++[l.getD i default]:=alo hi h
def a35{i:Nat}(hi:i<l.length)(h:mvB t (l.getD i default)=false):a2b t l (i+1)=a2b t l i:=al9 hi h
def ac6:a2b t l l.length=kf t l:=by unfold a2b kf;rw[bt6]
def b3p{i:Nat}:(a2b t l i).length<=i:=btc (buj _ _) (bwk _ _)
def b6w:(kf t l).length<=l.length:=buj _ _
def bmx{n:Int}{m:List Fd}(h:dc n l m=0):dc n (jf t l) (kf t m)=0:=by
 unfold dc at h ⊢;by_cases hv:cb n l=0
 · rw [if_pos hv]at h
   rw[if_pos (bli hv)];have hl:=b6w (t:=t) (l:=m);by_cases h64:64<m.length
   · rw[if_pos h64]at h;cases h
   rw[if_neg h64]at h;rw[if_neg bww,if_pos];by_cases ha:m.all (inU n)=true
   · rw [btl]at ha ⊢
     exact fun x hx=>ha x (bul.1 hx).1
   rw[if_neg ha]at h;cases h
 rw[if_neg hv]at h;exact absurd h hv
def atu {n:Int} {m:List Fd} (h:dc n l m=0) (h0:0<=n) (h6:n<=6):ck4 n (jf t l) (kf t m) 0=0:=by
 rw[a5r bww,a93 (bmx h) bx0]
def b3w{n:Int}{m:List Fd}(hT:TOk t)(he:∀r∈t.rows,∀v∈r.vals,mi v)(hn:(t.attrs.length:Int)=n)(h:dc n l m=0)(h0:0<=n)(h6:n<=6):
 (prC n (iw n (jf t l) (kf t m)) (jf t l) (kf t m)=0\/prC n (iw n (jf t l) (kf t m)) (jf t l) (kf t m)=3)/\ow t (iw n (jf t l) (kf t m))=0/\a1t (xi t (iw n (jf t l) (kf t m))) t=true/\(xi t (iw n (jf t l) (kf t m))).ok:=by
 have hk:=atu (t:=t) h h0 h6;have hlv:=adl hk h6;have hLR:=a6b hk;refine⟨?_, ?_⟩
 · rcases b1x hk h6 with h3|⟨h1,h2,_⟩
   · right
     unfold prC;rw[if_neg (by rw[a07,h3];decide),a07,h3]
   exact .inl (bi2 h1 h2)
 subst hn;exact b0f hT he hlv hLR baf fun d hd=>(bul.1 hd).2
end
end
section
def aq0 {α:Type} [Inhabited α] {a b:List α} (hl:a.length=b.length) (h:∀j,j<a.length->a.getD j default=b.getD j default):a=b:=by
 refine bv1 hl fun i h1 h2=>?_;have:=h i h1;rwa [c4 _ _ h1,c4 _ _ h2]at this
abbrev rwp(r:Row):PV:=.vp 2 fun j=>[r.c 0,r.c 1].getD j .any
end
section
open Go.Proofs
def atz(r:Row)(s:AS)(hl:r.vals.length<=68719476736):a6 bxn 113 [r.pc,pA s] (ae [pP (vals (sel r.vals s))]):=by
 refine hpx (nt:=26) Tryz.func113 ?_;refine sx7 ?_;refine m9 0 ?_;refine fh ?_;refine d4 5 900 true 3 84 (lf Val.c []) bx3 rfl (CoP.sl rfl (.inr rfl) (fun h=>h) (fun i j hi _=>absurd hi (bt1 i))) (.inr rfl) rfl ?_;refine br (ka 1 (ka 2 kn)) (kb 0 km) (fun i=>⟨[(5,some (.v (.one (.ref 900 (sel (r.vals.take i) s).length)))),(6,some (vI i))],[(900,some (.arr true 3 84 (sel (r.vals.take i) s).length (lf Val.c (sel (r.vals.take i) s))))]⟩) r.vals.length ⟨⟨⟨_,rfl,(CoR.refl _)⟩,tt⟩,uu⟩ ?_;rintro i hi;have hlen:(sel (r.vals.take i) s).length<=i:=btc bbr (by rw[bt4];omega);refine w_9 ?_;refine hcd ?_ ?_<;>intro h0
 ·
  refine w_7 ?_;refine qcx (wgx Tryz.func167) (bq9 s i) ?_;refine cj ?_;refine al _ rfl ?_ ?_<;>intro r1
  ·
   have h1:=r1;have hh:bu s (i:Int)=true:=r1;refine w_7 ?_;refine m9 1 ?_;refine r9 2 true ?_;refine w_7 ?_
   first | (refine lpz (i+1) ⟨⟨⟨_, rfl, (bq (ala bww hh))⟩, tt⟩, ⟨⟨_, rfl, (vw (ala bww hh) (aha (CoP.refl _) (CoP.refl _) (CoP.refl _)))⟩, uu⟩⟩ ?_; show i+1<=_; omega)
         |(refine lpz (i+1) ⟨⟨⟨_,rfl,(bm (al6 bww hh))⟩,tt⟩,⟨⟨_,rfl,(b6 (al6 bww hh))⟩,uu⟩⟩ ?_;show i+1<=_;omega)
  have h1:=r1;have hh:bu s (i:Int)=false:=r1;refine w_6 ?_
  first | (refine lpz (i+1) ⟨⟨⟨_, rfl, (bq (ala bww hh))⟩, tt⟩, ⟨⟨_, rfl, (vw (ala bww hh) (aha (CoP.refl _) (CoP.refl _) (CoP.refl _)))⟩, uu⟩⟩ ?_; show i+1<=_; omega)
        |(refine lpz (i+1) ⟨⟨⟨_,rfl,(bm (al6 bww hh))⟩,tt⟩,⟨⟨_,rfl,(b6 (al6 bww hh))⟩,uu⟩⟩ ?_;show i+1<=_;omega)
 obtain rfl:i=r.vals.length:=by omega
 rw[show r.vals.take r.vals.length=r.vals from bt6];refine w_2 ?_;refine bh 5 rfl rfl rfl ?_;refine v_4 ?_;exact CoL.refl _
def a8m:goodFn bxn 52:=wgx Tryz.func52
def afs (a b:Row) (s:AS) (ha:a.ok) (hb:b.ok):a6 bxn 52 [a.pc,b.pc,pA s] (ae [pB (so a b s)]):=by
 refine hpx (nt:=14) Tryz.func52 ?_;refine sx7 ?_;refine m9 0 ?_;refine m9 1 ?_;refine w_6 ?_;refine qcx (wgx Tryz.func113) (atz a s ha.1) ?_;refine w_2 ?_;refine qcx (wgx Tryz.func113) (atz b s hb.1) ?_;refine qcx (wgx Tryz.func112) (c81 (sel a.vals s) (sel b.vals s) (b2s ha.2) (b2s hb.2)) ?_;refine v_3 ?_;exact CoL.refl _
end
section
open Go.Proofs
def bmg(t:Tbl)(a b:Row)(s:AS)(ht:t.ok)(ha:a.ok)(hb:b.ok):a6 bxn 53 [t.pc,a.pc,b.pc,pA s] (ae [pB (ale t a b s)]):=by
 refine hpx (nt:=40) Tryz.func53 ?_;have hrl:=ht.2.1;refine sx7 ?_;refine m9 0 ?_;refine m9 1 ?_;refine m9 2 ?_;refine w_8 ?_;refine ai (ι:=Nat) (ka 3 (ka 4 (ka 5 (ka 6 kn)))) (kb 0 (kb 1 (kb 2 km))) (fun i=>⟨[(9,some (vI i))],[]⟩) (fun i=>i<=t.rows.length/\(∀j,j<i->(so (t.rows.getD j default) a s&&so (t.rows.getD j default) b (aa t.attrs.length&&&~~~s))=false)) (fun i=>t.rows.length-i) (0) (⟨bsx _,bv⟩) kk ?_;rintro i ⟨hi,hIi⟩;refine w_9 ?_;refine hcd ?_ ?_<;>intro h0
 ·
  refine fh ?_;refine qcx a8m (afs (t.rows.getD i default) a s (ht.2.2 i bww) ha) ?_;refine qy ?_;refine ak rfl rfl ?_ ?_<;>intro r1
  ·
   have h1:=r1;(iterate 9 refine qy ?_ (hg:=(gtt r1)));refine qcx ao9 (ap1 (t.attrs.length:Int)) ?_ (hg:=(gtt r1));(iterate 2 refine qy ?_ (hg:=(gtt r1)))
   refine rc rfl rfl rfl rfl rfl rfl a8m (afs (t.rows.getD i default) b (aa t.attrs.length&&&~~~s) (ht.2.2 i bww) hb) (⟨CoC.refl _,CoC.refl _,cci (by first|exact pn _ _|rfl),trivial⟩) rfl (gtt r1) ?_;refine w_3 ?_;refine al _ rfl ?_ ?_<;>intro r2
   · have h2:=c5 r1 r2;refine v_4 ?_;exact⟨ccb (bmi (p:=fun x:Row=>so x a s&&so x b (aa t.attrs.length&&&~~~s)) (i:=i) bww bxa).symm,trivial⟩
   have h2:=c5 r1 r2;refine w_6 ?_;refine lpz (i+1) kk ?_;exact⟨by show i+1<=_;omega,bc hIi bxa⟩
  have h1:=r1;(iterate 13 refine k9 (gft r1) ?_);refine da ?_;refine lpz (i+1) kk ?_
  exact⟨by show i+1<=_;omega,bc hIi bxa⟩
 obtain rfl:i=t.rows.length:=by omega
 refine v_5 ?_;exact⟨ccb (bm3 (p:=fun x:Row=>so x a s&&so x b (aa t.attrs.length&&&~~~s)) hIi).symm,trivial⟩
def b9z(t:Tbl)(d:Fd)(ht:TOk t)(hd:sub (d.lhs|||d.rhs) (aa t.attrs.length)):a6 bxn 14 [t.pc,d.pc] (ae [pB (mvB t d),pI 0]):=by
 refine hpx (nt:=75) Tryz.func14 ?_;have hok:=ht.ok;have hrl:=hok.2.1;have htz:=mc.2 ht;refine sx7 ?_;refine m9 0 ?_;refine m9 1 ?_;refine w_7 ?_;refine qcx (wgx Tryz.func50) (c82 t) ?_;refine w_7 ?_;refine hcn ?_ ?_<;>intro h0
 · exfalso;omega
 refine sv ?_;refine rc rfl rfl rfl rfl rfl rfl (wgx Tryz.func51) (b9p (t.attrs.length:Int) (d.lhs|||d.rhs)) (⟨CoC.refl _,cci (bOr _ _),trivial⟩) rfl rfl ?_;refine w_2 ?_;refine hcv ?_ ?_<;>intro h1
 · exfalso;simp_all
 refine ov ?_;refine ai (ι:=Nat) (ka 2 (ka 3 (ka 8 kn))) (kb 0 (kb 1 km)) (fun i=>⟨[(9,some (vI i))],[]⟩) (fun i=>i<=t.rows.length/\(∀j,j<i->((List.range t.rows.length).all fun k=>a2s t d j k)=true)) (fun i=>t.rows.length-i) (0) (⟨bsx _,bv⟩) kk ?_;rintro i ⟨hi,hIi⟩;refine w_9 ?_;refine hcd ?_ ?_<;>intro h2
 ·
  refine w_8 ?_;refine ai (ι:=Nat) (ka 2 (ka 3 (ka 8 (ka 9 kn)))) (kb 0 (kb 1 km)) (fun k=>⟨[(10,some (vI k))],[]⟩) (fun k=>k<=t.rows.length/\(∀j,j<k->a2s t d i j=true)) (fun k=>t.rows.length-k) (0) (⟨bsx _,bv⟩) kk ?_;rintro k ⟨hk,hIk⟩;refine w_9 ?_;refine hcd ?_ ?_<;>intro h3
  ·
   refine sv ?_;refine qcx a8m (afs (t.rows.getD i default) (t.rows.getD k default) d.lhs (hok.2.2 i bww) (hok.2.2 k bww)) ?_;refine qy ?_;refine ak rfl rfl ?_ ?_<;>intro r4
   ·
    have h4:=r4;(iterate 12 refine qy ?_ (hg:=(gtt r4)));refine rc rfl rfl rfl rfl rfl rfl (wgx Tryz.func53) (bmg t (t.rows.getD i default) (t.rows.getD k default) (d.lhs|||d.rhs) hok (hok.2.2 i bww) (hok.2.2 k bww)) (⟨CoC.refl _,CoC.refl _,CoC.refl _,cci (bOr _ _),trivial⟩) rfl (gtt r4) ?_;refine qy ?_ (hg:=(gtt r4));refine w_3 ?_;refine al _ rfl ?_ ?_<;>intro r5
    · have h5:=dt (c5 r4 r5);refine v_5 ?_;exact⟨ccb (jk (p:=fun i=>(List.range t.rows.length).all fun k=>a2s t d i k) (i:=i) bww (jk (p:=fun k=>a2s t d i k) (i:=k) bww (by unfold a2s;simp_all))).symm,CoC.refl _,trivial⟩
    have h5:=du (c5 r4 r5);refine w_6 ?_;refine lpz (k+1) kk ?_;exact⟨by show k+1<=_;omega,bc hIk (by unfold a2s;simp_all)⟩
   have h4:=r4;(iterate 14 refine k9 (gft r4) ?_);refine da ?_;refine lpz (k+1) kk ?_
   exact⟨by show k+1<=_;omega,bc hIk (by unfold a2s;simp_all)⟩
  obtain rfl:k=t.rows.length:=by omega
  refine w_6 ?_;refine lpz (i+1) kk ?_;exact⟨by show i+1<=_;omega,bc hIi (mt hIk)⟩
 obtain rfl:i=t.rows.length:=by omega
 refine v_6 ?_;exact⟨ccb (mt (p:=fun i=>(List.range t.rows.length).all fun k=>a2s t d i k) hIi).symm,CoC.refl _,trivial⟩
end
end Go.Hx
