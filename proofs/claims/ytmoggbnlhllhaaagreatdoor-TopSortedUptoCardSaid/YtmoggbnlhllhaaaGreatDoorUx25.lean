/- A part of the proof: To2 To3 Kb1 Hx28 Hx29 Hx30 Hx32. -/
import Derived.Laws.IdiomRangeMap
import Derived.Test.YtmoggbnlhllhaaaGreatDoorUx24
set_option linter.all false
namespace Go.Hx
section
instance {n:Nat}{r s:Row}{x:AS}:Decidable (agX n r s x):=inferInstanceAs (Decidable (∀z,z<n->(x.getLsbD z=true->cmA r s z=0)))
instance {r s:Row}{c:Can}:Decidable (fy r s c):=by unfold fy;infer_instance
def fk(t:Tbl)(c:Can):Bool:=(List.range t.rows.length).all fun k=>(List.range k).all fun i=>decide (agX t.attrs.length (t.rows.getD i default) (t.rows.getD k default) c.cx->fy (t.rows.getD i default) (t.rows.getD k default) c)
section
variable {c:Can}{t:Tbl}
def ni:fk t c=true<->j7 t c:=by
 rw[a2h];unfold fk;simp only[bms,bmm,decide_eq_true_eq];exact⟨fun h i k hik hk=>h k hk i hik,fun h k hk i hik=>h i k hik hk⟩
def b8y:fk t c=false<->¬j7 t c:=by rw[<- ni];simp
def mw(c:Can)(z:Nat):Can:=⟨c.cx&&&~~~((1:AS)<<<z),c.a,c.b⟩
variable {x:AS}
def ank {z y:Nat} (hy:y<32):(x&&&~~~((1:AS)<<<z)).getLsbD y=(x.getLsbD y&&decide (¬y=z)):=by
 rw[bmy,bnx,o5 _ _ hy];by_cases h:y=z<;>simp[h,hy]
def ir(t:Tbl)(c:Can):Bool:=fk t c&&(List.range 32).all fun z=>!(c.cx.getLsbD z&&fk t (mw c z))
def ba0 (h:fk t c=true) (hn:∀z,z<32->c.cx.getLsbD z=true->fk t (mw c z)=false):ir t c=true:=by
 unfold ir;rw[h,bok,bms];intro z hz;have:=hn z (bmm.1 hz);cases hx:c.cx.getLsbD z
 · simp
 rw[this hx];rfl
def b7c {z:Nat} (hz:z<32) (hx:c.cx.getLsbD z=true) (h:fk t (mw c z)=true):ir t c=false:=by
 unfold ir;rw[bp7];refine .inr ?_;rw[bo1];exact⟨z,bmm.2 hz,by simp[hx,h]⟩
def b66(h:fk t c=false):ir t c=false:=by unfold ir;rw[h];rfl
def alz (h:ir t c=true):j7 t c:=by
 unfold ir at h;rw[bm8]at h;exact ni.1 h.1
def fc(x:AS)(a:Nat):Can:=⟨x,a, -1⟩
def lz(t:Tbl)(x:AS)(i:Nat):List Can:=((List.range i).filter fun a=>!x.getLsbD a&&ir t (fc x a)).map (fc x)
variable {i:Nat}
def a0q (h1:x.getLsbD i=false) (h2:ir t (fc x i)=true):lz t x (i+1)=lz t x i++[fc x i]:=by
 unfold lz;rw[bmk,bn4,bn7];simp[h1,h2]
def a1i (h:x.getLsbD i=true\/ir t (fc x i)=false):lz t x (i+1)=lz t x i:=by
 unfold lz;rw[bmk,bn4,bn7]
 rcases h with h|h<;>simp[h]
def aa0:(lz t x i).length<=i:=by
 unfold lz;rw[bn0];exact bme (bnm _ _) bpz
def aiq:c∈lz t x i<->∃a,a<i/\x.getLsbD a=false/\ir t (fc x a)=true/\c=fc x a:=by
 unfold lz;rw[bml];constructor
 · rintro ⟨a,ha,rfl⟩
   obtain⟨h1,h2⟩:=bnl.1 ha;simp only[bm8,bn8]at h2;exact⟨a,bmm.1 h1,h2.1,h2.2,rfl⟩
 rintro⟨a,h1,h2,h3,rfl⟩;exact⟨a,bnl.2 ⟨bmm.2 h1,by simp[h2,h3]⟩,rfl⟩
def cq(t:Tbl)(x:AS)(i:Nat):List Nat:=(List.range i).filter fun a=>!x.getLsbD a&&!fk t (fc x a)
def a1n (h1:x.getLsbD i=false) (h2:fk t (fc x i)=false):cq t x (i+1)=cq t x i++[i]:=by
 unfold cq;rw[bmk,bn4];simp[h1,h2]
def a1j (h:x.getLsbD i=true\/fk t (fc x i)=true):cq t x (i+1)=cq t x i:=by
 unfold cq;rw[bmk,bn4]
 rcases h with h|h<;>simp[h]
def a2b:(cq t x i).length<=i:=bme (bnm _ _) bpz
def aa1 {a:Nat}:a∈cq t x i<->a<i/\x.getLsbD a=false/\fk t (fc x a)=false:=by
 unfold cq;rw[bnl,bmm];simp
def azb:(cq t x i).Pairwise (·<·):=List.Pairwise.filter _ bpq
def ub(x:AS)(F:List Nat)(i k:Nat):Can:=⟨x,F.getD i default,((F.getD k default:Nat):Int)⟩
def nf(t:Tbl)(x:AS)(F:List Nat)(i k:Nat):List Can:=((List.range k).map fun j=>ub x F i (i+1+j)).filter fun c=>ir t c
def k7(t:Tbl)(x:AS)(F:List Nat)(i:Nat):List Can:=(List.range i).flatMap fun i=>nf t x F i (F.length-(i+1))
variable {F:List Nat}
def ba8 {k:Nat} (h:ir t (ub x F i (i+1+k))=true):nf t x F i (k+1)=nf t x F i k++[ub x F i (i+1+k)]:=by
 unfold nf;rw[bmk,bn7,bn4];simp[h]
def b9p {k:Nat} (h:ir t (ub x F i (i+1+k))=false):nf t x F i (k+1)=nf t x F i k:=by
 unfold nf;rw[bmk,bn7,bn4];simp[h]
def akz{k:Nat}:(nf t x F i k).length<=k:=bme (bnm _ _) bpz
def a5l:k7 t x F (i+1)=k7 t x F i++nf t x F i (F.length-(i+1)):=by
 unfold k7;rw[bmk,bon];simp
def aak:∀{i:Nat},(k7 t x F i).length<=i*F.length
 |0=>by simp[k7]
 | i+1=>by
  rw[a5l,bm2,Nat.succ_mul];have h1:(k7 t x F i).length<=i*F.length:=aak;have h2:=akz (t:=t) (x:=x) (F:=F) (i:=i) (k:=F.length-(i+1));omega
def ajr:c∈k7 t x F F.length<->ir t c=true/\∃i k,i<k/\k<F.length/\c=ub x F i k:=by
 unfold k7 nf;simp only[bpv,bnl,bml,bmm];constructor
 · rintro ⟨i,hi,⟨j,hj,rfl⟩,h⟩
   exact⟨h,i,i+1+j,by omega,by omega,rfl⟩
 rintro⟨h,i,k,h1,h2,rfl⟩;exact⟨i,by omega,⟨k-(i+1),by omega,by rw[show i+1+(k-(i+1))=k by omega]⟩,h⟩
def a2e(t:Tbl)(x:AS):List Can:=lz t x t.attrs.length++k7 t x (cq t x t.attrs.length) (cq t x t.attrs.length).length
def oc(t:Tbl)(S:List AS)(i:Nat):List Can:=(S.take i).flatMap (a2e t)
def a5a {S:List AS} (h:i<S.length):oc t S (i+1)=oc t S i++lz t (S.getD i default) t.attrs.length++k7 t (S.getD i default) (cq t (S.getD i default) t.attrs.length) (cq t (S.getD i default) t.attrs.length).length:=by
 unfold oc;rw[bow,bon,bn6,blz h,al _ _ h];simp[a2e]
def ahm:(a2e t x).length<=t.attrs.length+t.attrs.length*t.attrs.length:=by
 unfold a2e;rw[bm2];have h1:=aa0 (t:=t) (x:=x) (i:=t.attrs.length);have h2:=aak (t:=t) (x:=x) (F:=cq t x t.attrs.length) (i:=(cq t x t.attrs.length).length);have h3:=a2b (t:=t) (x:=x) (i:=t.attrs.length);have h4:=bp1 h3 h3;omega
def ajs {S:List AS}:∀{i:Nat},i<=S.length->(oc t S i).length<=i*(t.attrs.length+t.attrs.length*t.attrs.length)
 |0,_=>by simp[oc]
 | i+1,h=>by
  have h1:(oc t S i).length<=i*(t.attrs.length+t.attrs.length*t.attrs.length):=ajs bpw;have h2:=ahm (t:=t) (x:=S.getD i default);unfold a2e at h2;rw[a5a bpw,bn6,bm2,Nat.succ_mul];omega
def wz(t:Tbl):List Can:=oc t (dx (ah t.attrs.length)) (dx (ah t.attrs.length)).length
def aao:c∈wz t<->∃x,sub x (ah t.attrs.length)/\c∈a2e t x:=by
 unfold wz oc;rw[bmd,bpv];simp only[a69]
def kw(c d:Can):Prop:=sub d.cx c.cx/\(if c.b=-1 then d.b=-1/\d.a=c.a else if d.b=-1 then d.a=c.a\/(d.a:Int)=c.b else(d.a=c.a/\d.b=c.b)\/((d.a:Int)=c.b/\d.b=(c.a:Int)))
instance {c d:Can}:Decidable (kw c d):=by unfold kw;infer_instance
def jx{y:AS}:sub x y<->∀z,x.getLsbD z=true->y.getLsbD z=true:=by
 unfold sub;constructor
 · intro h z hz
   have hz32:z<32:=bpl fun hx=>by rw[bpf _ _ hx]at hz;cases hz
   have e:(x&&&~~~y).getLsbD z=(0:AS).getLsbD z:=by rw[h]
   rw[bmy,bnx,hz,show(0:AS).getLsbD z=false from BitVec.getLsbD_zero]at e;simpa [hz32]using e
 intro h;refine bnj fun z hz=>?_;rw[bmy,bnx,show(0:AS).getLsbD z=false from BitVec.getLsbD_zero];cases hx:x.getLsbD z
 · rfl
 rw[h z hx];simp
def as3{d:Can}(h:d∈a2e t x):j7 t d/\d.cx=x/\-1<=d.b:=by
 unfold a2e at h
 rcases bmg.1 h with h|h
 · obtain ⟨a,_,_,h3,rfl⟩:=aiq.1 h
   exact⟨alz h3,rfl,by show(-1:Int)<=-1;omega⟩
 obtain⟨h1,i,k,_,_,rfl⟩:=ajr.1 h;exact⟨alz h1,rfl,by show(-1:Int)<=(_:Nat);omega⟩
def av0 {a b:Nat} (h:j7 t ⟨x,a,(b:Int)⟩):j7 t ⟨x,b,(a:Int)⟩:=fun i k hi hk ha=>by
 have:=h i k hi hk ha;unfold fy at this ⊢;rw[if_neg (by show ¬((b:Int)<0);omega)]at this;rw[if_neg (by show ¬((a:Int)<0);omega),Int.mul_comm];exact this
def ate{d:Can}(hb:-1<=c.b)(hdb:-1<=d.b)(hd:j7 t d)(h:kw c d):j7 t c:=by
 obtain⟨hs,h⟩:=h;have hs:=jx.1 hs;split at h
 · rename_i h1
   obtain⟨h2,h3⟩:=h;refine zj (x:=d.cx) ?_ hs;rw[h1,<- h3,<- h2];exact hd
 rename_i h1;have key:∀a:Nat,j7 t ⟨d.cx,a, -1⟩->j7 t ⟨c.cx,a, -1⟩:=fun a hh=>zj (c:=⟨c.cx,a, -1⟩) hh hs;split at h
 · rename_i h2
   have hd':j7 t ⟨d.cx,d.a, -1⟩:=by rw[<- h2];exact hd
   rcases h with h|h
   · exact ab0 (.inl (by rw[<- h];exact key _ hd')) bpw
   exact ab0 (.inr ⟨by omega,by rw[<- h,bmc];exact key _ hd'⟩) bpw
 rename_i h2
 rcases h with⟨h3,h4⟩|⟨h3,h4⟩
 · refine zj (x:=d.cx) ?_ hs
   rw[<- h3,<- h4];exact hd
 refine zj (x:=d.cx) ?_ hs;rw[<- h3];refine av0 ?_;rw[<- h4];exact hd
def bb9 {z:Nat} (hz:z<32) (hx:x.getLsbD z=true):(x&&&~~~((1:AS)<<<z)).toNat<x.toNat:=by
 have hs:sub (x&&&~~~((1:AS)<<<z)) x:=jx.2 fun y hy=>by
  rw[bmy,bm8]at hy;exact hy.1
 rcases bpk (x&&&~~~((1:AS)<<<z)).toNat x.toNat with h|h
 · exact h
 have he:x&&&~~~((1:AS)<<<z)=x:=bn3 (Nat.le_antisymm (ase hs) h);have:=ank (x:=x) (z:=z) hz;rw[he,hx]at this;simp at this
def aut(hn:t.attrs.length<=16):∀(m:Nat) (c:Can),c.cx.toNat<=m->sub c.cx (ah t.attrs.length)->c.a<t.attrs.length->c.b<t.attrs.length->-1<=c.b->¬dp c->((c.a:Int)<c.b\/c.b=-1)->j7 t c->∃d∈wz t,kw c d:=by
 intro m
 induction m using Nat.strongRecOn with
 |ind m ih =>
 intro c hm hsub ha hb hb1 ht hab hc
 have hxa:c.cx.getLsbD c.a=false:=by
  cases h:c.cx.getLsbD c.a
  · rfl
  exact absurd (.inr (.inl h)) ht
 have down:∀(e:Can) (z:Nat),z<32->e.cx=c.cx->c.cx.getLsbD z=true->e.a<t.attrs.length->e.b<t.attrs.length->-1<=e.b->¬dp e->((e.a:Int)<e.b\/e.b=-1)->j7 t (mw e z)->∃d∈wz t,kw e d:=by
  intro e z hz he hxz hea heb heb1 het heab hcut;have hlt:=bb9 hz hxz
  have hsb:∀y,(c.cx&&&~~~((1:AS)<<<z)).getLsbD y=true->c.cx.getLsbD y=true:=fun y hy=>by
   rw[bmy,bm8]at hy;exact hy.1
  obtain ⟨d,h1,h2⟩:=ih (c.cx&&&~~~((1:AS)<<<z)).toNat bpw (mw e z) (by unfold mw;rw[he];exact bm1 _) (by unfold mw;rw[he];exact jx.2 fun y hy=>jx.1 hsub y (hsb y hy)) hea heb heb1 (by
   intro h
   rcases h with h|h|⟨h0,h⟩
   · exact het (.inl h)
   · unfold mw at h
     rw[he]at h;exact het (.inr (.inl (by rw[he];exact hsb _ h)))
   unfold mw at h;rw[he]at h
   exact het (.inr (.inr ⟨h0,by rw[he];exact hsb _ h⟩))) heab hcut
  refine⟨d,h1, ?_,h2.2⟩;have h3:=jx.1 h2.1
  exact jx.2 fun y hy=>by
   have h4:=h3 y hy;unfold mw at h4;rw[he]at h4 ⊢;exact hsb y h4
 have const:∀a,a<t.attrs.length->c.cx.getLsbD a=false->j7 t (fc c.cx a)->∃d∈wz t,kw (fc c.cx a) d:=by
  intro a ha2 hx2 h;cases hl:ir t (fc c.cx a)
  · have:∃z,z<32/\c.cx.getLsbD z=true/\j7 t (mw (fc c.cx a) z):=by
     unfold ir at hl;rw[ni.2 h,bok,bo1]at hl;obtain⟨z,hz,h2⟩:=hl;simp only[bn8,Bool.not_eq_false,bm8]at h2;exact⟨z,bmm.1 hz,h2.1,ni.1 h2.2⟩
    obtain⟨z,hz,h2,h3⟩:=this
    exact down (fc c.cx a) z hz rfl h2 ha2 (by show(-1:Int)<_;omega) (by show(-1:Int)<=-1;omega) (by
     rintro(h|h|⟨h0,_⟩)
     · have:((a:Nat):Int)=-1:=h
       omega
     · rw [show(fc c.cx a).cx.getLsbD (fc c.cx a).a=c.cx.getLsbD a from rfl,hx2]at h
       cases h
     have:(0:Int)<=-1:=h0
     omega) (.inr rfl) h3
  exact⟨fc c.cx a,aao.2 ⟨c.cx,hsub,bmg.2 (.inl (aiq.2 ⟨a,ha2,hx2,hl,rfl⟩))⟩,sub_self _,by rw[if_pos (show(fc c.cx a).b=-1 from rfl)];exact⟨rfl,rfl⟩⟩
 rcases hab with hab|hab
 · have hxb:c.cx.getLsbD c.b.toNat=false:=by
    cases h:c.cx.getLsbD c.b.toNat
    · rfl
    exact absurd (.inr (.inr ⟨by omega,h⟩)) ht
   have up:∀a,(a=c.a\/(a:Int)=c.b)->(∃d∈wz t,kw (fc c.cx a) d)->∃d∈wz t,kw c d:=by
    rintro a haa ⟨d,h1,h2,h3⟩;rw[if_pos (show(fc c.cx a).b=-1 from rfl)]at h3;refine⟨d,h1,h2, ?_⟩;have h4:d.a=a:=h3.2;rw[if_neg bpw,if_pos h3.1,h4];exact haa
   cases h1:fk t (fc c.cx c.a)
   · cases h2:fk t (fc c.cx c.b.toNat)
     · cases hl:ir t c
       · unfold ir at hl
         rw[ni.2 hc,bok,bo1]at hl;obtain⟨z,hz,h2⟩:=hl;simp only[bn8,Bool.not_eq_false,bm8]at h2;exact down c z (bmm.1 hz) rfl h2.1 ha hb hb1 ht (.inl hab) (ni.1 h2.2)
       have ea:c.a∈cq t c.cx t.attrs.length:=aa1.2 ⟨ha,hxa,h1⟩;have eb:c.b.toNat∈cq t c.cx t.attrs.length:=aa1.2 ⟨by omega,hxb,h2⟩;obtain⟨i,hi,e1⟩:=bmj ea;obtain⟨k,hk,e2⟩:=bmj eb
       have hik:i<k:=by
        rcases bo9 i k with h|h|h
        · exact h
        · subst h
          rw[e1]at e2;omega
        have:=bn5.1 (azb (t:=t) (x:=c.cx) (i:=t.attrs.length)) k i hk hi h;omega
       refine⟨c,aao.2 ⟨c.cx,hsub,bmg.2 (.inr (ajr.2 ⟨hl,i,k,hik,hk, ?_⟩))⟩,sub_self _, ?_⟩
       · unfold ub
         rw[al _ _ hi,al _ _ hk,e1,e2,Int.toNat_of_nonneg bpw]
       rw[if_neg bpw,if_neg bpw];exact .inl ⟨rfl,rfl⟩
     exact up c.b.toNat (.inr bpw) (const _ bpw hxb (ni.1 h2))
   exact up c.a (.inl rfl) (const _ ha hxa (ni.1 h1))
 have:c=fc c.cx c.a:=by
  cases c;simp only[fc]at *;rw[hab]
 rw[this];exact const c.a ha hxa (by rw[<- this];exact hc)
def aps(hn:t.attrs.length<=16)(hsub:sub c.cx (ah t.attrs.length))(ha:c.a<t.attrs.length)(hb:c.b<t.attrs.length)(hb1:-1<=c.b)(ht:¬dp c)(hab:(c.a:Int)<c.b\/c.b=-1):
 (∃d∈wz t,kw c d)<->j7 t c:=by
 constructor
 · rintro ⟨d,h1,h2⟩
   obtain⟨x,_,h3⟩:=aao.1 h1;obtain⟨h4,h5,h6⟩:=as3 h3;exact ate hb1 h6 h4 h2
 exact aut hn _ c (bm1 _) hsub ha hb hb1 ht hab
end
end
section
def a40(l:List Can)(c:Can):Bool:=decide (dp c)||l.any fun d=>decide (kw c d)
def aee(l:List Can)(C:List Can):Bool:=C.all fun c=>a40 l c
section
variable {n:Nat}
def a9h{l:List Nat}(hn:n<=16)(hl:∀z∈l,z<n){z:Nat}(h:(qd l).getLsbD z=true):z<n:=by
 by_cases hz:z<32
 · rw [aaa hz]at h
   exact hl z (by simpa using h)
 rw[bpf _ _ bpw]at h;cases h
def aff {x:AS} (hn:n<=16) (h:∀z,x.getLsbD z=true->z<n):sub x (ah (n:Int)):=jx.2 fun z hz=>by
 have hzn:=h z hz;rw[ain bpw bpw bpw];simpa using hzn
variable {S X Y:List Nat}
def adg(hn:n<=16)(hX:∀z∈X,z<n)(hY:∀z∈Y,z<n)(hS:∀z,z∈S<->z∈Y){c:Can}(hc:c∈wu X Y S):
 sub c.cx (ah (n:Int))/\c.a<n/\c.b<n/\-1<=c.b/\¬dp c/\((c.a:Int)<c.b\/c.b=-1):=by
 have tkm:∀{l:List Nat} {i:Nat},(∀z∈l,z<n)->∀z∈l.take i,z<n:=fun h z hz=>h z (bo6 hz);obtain⟨ht,⟨b,hb,rfl⟩|⟨i,k,hi,hk,rfl⟩⟩:=a3x.1 hc
 · exact⟨aff hn fun z hz=>a9h hn hX hz,hY b ((hS b).1 hb),by show(-1:Int)<_;omega,by show(-1:Int)<=-1;omega,ht, .inr rfl⟩
 have h:=ap6 hX hY hi hk;refine⟨aff hn fun z hz=>?_,h.1,h.2,by unfold gi;dsimp only;omega,ht, .inl ?_⟩
 · have hz:(qd (X.take i)|||qd (Y.take k)).getLsbD z=true:=hz
   rw[bpb,bnf]at hz;exact hz.elim (a9h hn (tkm hX)) (a9h hn (tkm hY))
 have h2:¬(((gi X Y i k).a:Nat):Int)=(gi X Y i k).b:=fun e=>ht (.inl e);unfold gi at h2 ⊢;dsimp only at h2 ⊢;omega
variable {t:Tbl}
def b2k(hn:t.attrs.length<=16)(hX:∀z∈X,z<t.attrs.length)(hY:∀z∈Y,z<t.attrs.length)(hS:∀z,z∈S<->z∈Y):aee (wz t) (wu X Y S)=true<->odP t X Y:=by
 rw[b5b hn hX hY hS];unfold aee;rw[bms];refine forall_congr' fun c=>?_;constructor
 · intro h hc
   obtain⟨h1,h2,h3,h4,h5,h6⟩:=adg hn hX hY hS hc;have:=h hc;unfold a40 at this;rw[bnf,decide_eq_true_eq,boh]at this
   rcases this with h|⟨d,hd,h⟩
   · exact absurd h h5
   exact(aps hn h1 h2 h3 h4 h5 h6).1 ⟨d,hd,by simpa using h⟩
 intro h hc;obtain⟨h1,h2,h3,h4,h5,h6⟩:=adg hn hX hY hS hc;obtain⟨d,hd,h7⟩:=(aps hn h1 h2 h3 h4 h5 h6).2 (h hc);unfold a40;rw[bnf,boh];exact .inr ⟨d,hd,by simpa using h7⟩
structure Tm where
 v:Nat
 a:Nat
instance:Inhabited Tm:=⟨⟨0,0⟩⟩
structure Atm where
 l:Tm
 op:Nat
 r:Tm
instance:Inhabited Atm:=⟨⟨default,0,default⟩⟩
def mq(R:List Row)(x:Tm):Val:=(R.getD (x.v-1) default).vals.getD x.a default
def og (R:List Row) (x:Atm):Bool :=
 if x.op=1 then decide (j9 (mq R x.l) (mq R x.r)=0)
 else if x.op=2 then decide (¬j9 (mq R x.l) (mq R x.r)=0)
 else if x.op=3 then decide (j9 (mq R x.l) (mq R x.r)<0)
 else if x.op=4 then decide (j9 (mq R x.l) (mq R x.r)<=0)
 else false
def j0(R:List Row)(l:List Atm):Bool:=l.all (og R)
def uk(n m:Nat)(x:Atm):Prop:=1<=x.op/\x.op<=4/\(1<=x.l.v/\x.l.v<=m/\x.l.a<n)/\1<=x.r.v/\x.r.v<=m/\x.r.a<n
def a5d(a:Nat):Atm:=⟨⟨1,a⟩,1,⟨2,a⟩⟩
def ak9(a:Nat):Atm:=⟨⟨1,a⟩,3,⟨2,a⟩⟩
def ahk(a:Nat):Atm:=⟨⟨2,a⟩,3,⟨1,a⟩⟩
def uo(X:List Nat)(i:Nat):List Atm:=(X.take i).map a5d
def ta(X:List Nat)(i:Nat):List Atm:=uo X i++(if i<X.length then[ak9 (X.getD i default)] else[])
def ahg(X Y:List Nat)(i j:Nat):List Atm:=ta X i++(Y.take j).map a5d
def a0a(X Y:List Nat)(i j:Nat):List Atm:=ahg X Y i j++[ahk (Y.getD j default)]
def s6(X Y:List Nat)(i k:Nat):List (List Atm):=(List.range k).map (a0a X Y i)
def oz(X Y:List Nat)(i:Nat):List (List Atm):=(List.range i).flatMap fun i=>s6 X Y i Y.length
def aal(X Y:List Nat):List (List Atm):=oz X Y (X.length+1)
variable {i:Nat}
def ag8(h:i<X.length):uo X (i+1)=uo X i++[a5d (X.getD i default)]:=by unfold uo;rw[ow h,bn7];rfl
def aa5(h:i<=X.length):(uo X i).length=i:=by unfold uo;simp;omega
def bal(h:i<X.length):ta X i=uo X i++[ak9 (X.getD i default)]:=by unfold ta;rw[if_pos h]
def b7y(h:¬i<X.length):ta X i=uo X i:=by unfold ta;rw[if_neg h,bmv]
def awj (h:i<=X.length):(ta X i).length<=i+1:=by
 unfold ta;have:=aa5 h;rw[bm2];split<;>simp<;>omega
def al7 {j:Nat} (h:i<=X.length):(ahg X Y i j).length<=i+1+j:=by
 unfold ahg;have:=awj h;rw[bm2,bn0];have:=bom j Y;omega
def b0e {j:Nat} (h:i<=X.length):(a0a X Y i j).length<=i+j+2:=by
 unfold a0a;have:=al7 (Y:=Y) (j:=j) h;simp;omega
def avm{k:Nat}:s6 X Y i (k+1)=s6 X Y i k++[a0a X Y i k]:=by unfold s6;rw[bmk,bn7];rfl
def al4{k:Nat}:(s6 X Y i k).length=k:=by simp[s6]
def a6g:oz X Y (i+1)=oz X Y i++s6 X Y i Y.length:=by unfold oz;rw[bmk,bon];simp
def ahp:∀{i:Nat},(oz X Y i).length=i*Y.length
 |0=>by simp[oz]
 | i+1=>by
  have h:(oz X Y i).length=i*Y.length:=ahp;rw[a6g,bm2,h,al4,Nat.succ_mul]
variable {l:List Atm}
def a3h:l∈aal X Y<->∃i j,i<=X.length/\j<Y.length/\l=a0a X Y i j:=by
 unfold aal oz s6;simp only[bpv,bml,bmm];constructor
 · rintro ⟨i,hi,j,hj,rfl⟩
   exact⟨i,j,by omega,hj,rfl⟩
 rintro⟨i,j,hi,hj,rfl⟩;exact⟨i,by omega,j,hj,rfl⟩
variable {a:Nat}
def anq(h:a<n):uk n 2 (a5d a):=⟨(show 1<=1 by decide),(show 1<=4 by decide),⟨(show 1<=1 by decide),(show 1<=2 by decide),h⟩,(show 1<=2 by decide),(show 2<=2 by decide),h⟩
def b25(h:a<n):uk n 2 (ak9 a):=⟨(show 1<=3 by decide),(show 3<=4 by decide),⟨(show 1<=1 by decide),(show 1<=2 by decide),h⟩,(show 1<=2 by decide),(show 2<=2 by decide),h⟩
def b4n(h:a<n):uk n 2 (ahk a):=⟨(show 1<=3 by decide),(show 3<=4 by decide),⟨(show 1<=2 by decide),(show 2<=2 by decide),h⟩,(show 1<=1 by decide),(show 1<=2 by decide),h⟩
def b4j{j:Nat}(hX:∀z∈X,z<n)(hY:∀z∈Y,z<n)(hj:j<Y.length):∀x∈a0a X Y i j,uk n 2 x:=by
 intro x hx;have gy:Y.getD j default<n:=hY _ (by rw[al _ _ hj];exact bma _);unfold a0a ahg ta uo at hx;simp only[bmg,bml,bm9,bp0,or_false]at hx
 rcases hx with((⟨a,ha,rfl⟩|hx)|⟨a,ha,rfl⟩)|rfl
 · exact anq (hX a (bo6 ha))
 · split at hx
   · rename_i hi
     have gx:X.getD i default<n:=hX _ (by rw[al _ _ hi];exact bma _);simp only[bm9,bp0,or_false]at hx;subst hx;exact b25 gx
   cases hx
 · exact anq (hY a (bo6 ha))
 exact b4n gy
def a96{R:List Row}{m:List Atm}:j0 R (l++m)=(j0 R l&&j0 R m):=List.all_append
variable {r s:Row}
def apl:og [r,s] (a5d a)=true<->cmA r s a=0:=by
 show decide (cmA r s a=0)=true<->_;rw[decide_eq_true_eq]
def b36:og [r,s] (ak9 a)=true<->cmA r s a<0:=by
 show decide (cmA r s a<0)=true<->_;rw[decide_eq_true_eq]
def b55:og [r,s] (ahk a)=true<->cmA s r a<0:=by
 show decide (cmA s r a<0)=true<->_;rw[decide_eq_true_eq]
def ako {l:List Nat}:j0 [r,s] (l.map a5d)=true<->bh r s l=0:=by
 unfold j0;rw[bms,oq];constructor
 · exact fun h i hi=>apl.1 (h _ (List.mem_map_of_mem hi))
 intro h x hx;obtain⟨i,hi,rfl⟩:=bml.1 hx;exact apl.2 (h i hi)
def a9d{j:Nat}:j0 [r,s] (a0a X Y i j)=true<->bh r s (X.take i)=0/\(i<X.length->cmA r s (X.getD i default)<0)/\bh r s (Y.take j)=0/\cmA s r (Y.getD j default)<0:=by
 unfold a0a ahg ta uo;rw[a96,a96,a96,bm8,bm8,bm8,ako,ako]
 have h1:j0 [r,s] [ahk (Y.getD j default)]=true<->cmA s r (Y.getD j default)<0:=by
  rw[<- b55];simp[j0]
 have h2:j0 [r,s] (if i<X.length then[ak9 (X.getD i default)] else[])=true<->(i<X.length->cmA r s (X.getD i default)<0):=by
  split
  · rename_i h
    rw[<- b36];simp[j0,h]
  rename_i h;exact⟨fun _ h2=>absurd h2 h,fun _=>rfl⟩
 rw[h1,h2];exact⟨fun⟨⟨⟨a,b⟩,c⟩,d⟩=>⟨a,b,c,d⟩,fun⟨a,b,c,d⟩=>⟨⟨⟨a,b⟩,c⟩,d⟩⟩
def ak3:(∃l∈aal X Y,j0 [r,s] l=true)<->bh r s X<=0/\0<bh r s Y:=by
 constructor
 · rintro ⟨l,hl,h⟩
   obtain⟨i,j,hi,hj,rfl⟩:=a3h.1 hl;obtain⟨h1,h2,h3,h4⟩:=a9d.1 h;rw[pk (a:=r)]at h4;constructor
   · by_cases hx:i<X.length
     · have:=h2 hx
       rw[a1e hx h1 bpw];omega
     rw[bo8 bpw]at h1;omega
   rw[a1e hj h3 bpw];omega
 rintro⟨h1,h2⟩;obtain⟨j,hj,hj0,hje⟩:=a36 (a:=r) (b:=s) (l:=Y) bpw;by_cases h0:bh r s X=0
 · refine ⟨_,a3h.2 ⟨X.length,j,bm1 _,hj,rfl⟩,a9d.2 ⟨by rw[bmd];exact h0,fun h=>absurd h (boj _),hj0, ?_⟩⟩
   rw[pk (a:=r)];omega
 obtain⟨i,hi,hi0,hie⟩:=a36 h0;refine⟨_,a3h.2 ⟨i,j,Nat.le_of_lt hi,hj,rfl⟩,a9d.2 ⟨hi0,fun _=>by omega,hj0, ?_⟩⟩;rw[pk (a:=r)];omega
def qz(t:Tbl)(l:List Atm)(r:Row):Bool:=t.rows.all fun s=>decide (r.id=s.id)||!j0 [r,s] l
def dnB(t:Tbl)(l:List Atm):Bool:=t.rows.all (qz t l)
def b7d(hT:TOk t){k:Nat}(hi:i<t.rows.length)(hk:k<t.rows.length)(h:(t.rows.getD i default).id=(t.rows.getD k default).id):i=k:=by
 have hs:=mr hT.rs;unfold qj at hs;rw[al _ _ hi,al _ _ hk]at h
 rcases bo9 i k with h1|h1|h1
 · have:=bn5.1 hs i k hi hk h1
   omega
 · exact h1
 have:=bn5.1 hs k i hk hi h1;omega
def ap0:dnB t l=true<->∀i k,i<t.rows.length->k<t.rows.length->(t.rows.getD i default).id=(t.rows.getD k default).id\/j0 [t.rows.getD i default,t.rows.getD k default] l=false:=by
 unfold dnB qz;simp only[bms,bnf,decide_eq_true_eq,bn8];constructor
 · intro h i k hi hk
   exact h _ (by rw[al _ _ hi];exact bma _) _ (by rw[al _ _ hk];exact bma _)
 intro h r hr s hs;obtain⟨i,hi,rfl⟩:=bmj hr;obtain⟨k,hk,rfl⟩:=bmj hs;have:=h i k hi hk;rwa [al _ _ hi,al _ _ hk]at this
def b4h(hT:TOk t):(aal X Y).all (dnB t)=true<->odP t X Y:=by
 rw[bms];constructor
 · intro h i k hi hk hc
   obtain⟨l,hl,hs⟩:=ak3.2 hc
   rcases ap0.1 (h l hl) i k hi hk with h1|h1
   · obtain rfl:=b7d hT hi hk h1
     rw[zb,zb]at hc;omega
   rw[hs]at h1;cases h1
 intro h l hl;rw[ap0];intro i k hi hk;cases hs:j0 [t.rows.getD i default,t.rows.getD k default] l
 · exact .inr rfl
 exact absurd (ak3.1 ⟨l,hl,hs⟩) (h i k hi hk)
def odB(t:Tbl)(X Y:List Nat):Bool:=(List.range t.rows.length).all fun k=>(List.range k).all fun i=>decide (knd X Y (t.rows.getD i default) (t.rows.getD k default)=0)
def b3r:odB t X Y=true<->odP t X Y:=by
 rw[au4];unfold odB;simp only[bms,bmm,decide_eq_true_eq];exact⟨fun h i k hik hk=>h k hk i hik,fun h k hk i hik=>h i k hik hk⟩
def asf (hT:TOk t) (hX:∀z∈X,z<t.attrs.length) (hY:∀z∈Y,z<t.attrs.length) (hS:∀z,z∈S<->z∈ai Y):
 aee (wz t) (wu (ai X) (ai Y) S)=odB t X Y/\(aal (ai X) (ai Y)).all (dnB t)=odB t X Y:=by
 have h1:=b2k (t:=t) hT.na (fun z hz=>hX z (po.1 hz)) (fun z hz=>hY z (po.1 hz)) hS;have h2:=b4h hT (X:=ai X) (Y:=ai Y);have h3:=b3r (t:=t) (X:=X) (Y:=Y);rw[b0k]at h1 h2;rw[<- h3]at h1 h2;exact⟨bnc.2 h1,bnc.2 h2⟩
end
end
section
section
variable {κ:Type}[DecidableEq κ][Inhabited κ]
def dj(g:List (κ×List Nat))(k:κ):Nat:=g.findIdx fun x=>decide (x.1=k)
def ku(g:List (κ×List Nat))(k:κ)(i:Nat):List (κ×List Nat):=if dj g k<g.length then g.modify (dj g k) (fun x=>(x.1,x.2++[i]))else g++[(k,[i])]
def c6(ks:List κ)(i:Nat):List (κ×List Nat):=(List.range i).foldl (fun g j=>ku g (ks.getD j default) j) []
def azi(c:List Nat):Bool:=!decide (c.length<2)
def adu(ks:List κ):List (List Nat):=((c6 ks ks.length).map (·.2)).filter azi
section
variable {ks:List κ}
def ly{i:Nat}:c6 ks (i+1)=ku (c6 ks i) (ks.getD i default) i:=by unfold c6;rw[bmk,bmo];rfl
variable {g:List (κ×List Nat)}
def azt {k:κ} {i:Nat}:g.length<=(ku g k i).length/\(ku g k i).length<=g.length+1:=by
 unfold ku;split
 · simp
 simp
def aa9:∀{i:Nat},(c6 ks i).length<=i
 |0=>bm1 _
 | i+1=>by
  have:(c6 ks i).length<=i:=aa9;have:=(azt (g:=c6 ks i) (k:=ks.getD i default) (i:=i)).2;rw[ly];omega
def axo{k:κ}{i m:Nat}(h:∀x∈g,x.2.length<=m):∀x∈ku g k i,x.2.length<=m+1:=by
 unfold ku;split
 · intro x hx
   obtain⟨j,hj,e⟩:=bmj hx;have hj2:j<g.length:=by simpa using hj
   rw[List.getElem_modify]at e;have hm:=h (g[j]'hj2) (bma hj2);split at e
   · subst e;simp;exact hm
   subst e;omega
 intro x hx
 rcases bmg.1 hx with hx|hx
 · have:=h x hx;omega
 simp at hx;subst hx;simp
def ahq:∀{i:Nat},∀x∈c6 ks i,x.2.length<=i
 |0=>fun x hx=>by simp[c6]at hx
 |i+1=>by rw[ly];exact axo ahq
end
end
structure Prt where
 rows:Int
 cls:List (List Nat)
instance:Inhabited Prt:=⟨⟨0,[]⟩⟩
theorem Prt.eq_iff{a b:Prt}:a=b<->a.rows=b.rows/\a.cls=b.cls:=by cases a;cases b;simp
instance:DecidableEq Prt:=fun a b=>decidable_of_iff _ (Prt.eq_iff (a:=a) (b:=b)).symm
def ilC (l:List Nat):Nat->PV
 |0=>il l
 |_=>.any
abbrev ill(l:List (List Nat)):PV:=psl 1 ilC l
def Prt.c (p:Prt):Nat->PV
 |0=>.raw (.int .i64 p.rows)
 |1=>ill p.cls
 |_=>.any
abbrev Prt.pc(p:Prt):PC:=.agg [p.c 0,p.c 1]
def snT(p:Prt)(k j:Nat):List Bool:=(List.range p.rows.toNat).map fun i=>decide (i∈(p.cls.take k).flatten++(p.cls.getD k default).take j)
def ai2(c:List Nat)(j:Nat):Int:=if j=0 then -1 else((c.getD (j-1) default:Nat):Int)
def ae6(p:Prt)(k:Nat):Int:=if k=0 then -1 else(((p.cls.getD (k-1) default).getD 0 default:Nat):Int)
def b70(p:Prt)(k j:Nat):Bool:=decide (ai2 (p.cls.getD k default) j<(((p.cls.getD k default).getD j default:Nat):Int))&&decide ((((p.cls.getD k default).getD j default:Nat):Int)<p.rows)&&!decide ((p.cls.getD k default).getD j default∈(p.cls.take k).flatten++(p.cls.getD k default).take j)
def acz(p:Prt)(k:Nat):Bool:=!decide ((p.cls.getD k default).length<2)&&decide (ae6 p k<(((p.cls.getD k default).getD 0 default:Nat):Int))&&(List.range (p.cls.getD k default).length).all (b70 p k)
def jk(p:Prt):Bool:=decide (0<=p.rows)&&decide (p.rows<=1000)&&(List.range p.cls.length).all (acz p)
def a5x(n:Nat)(l:List Int)(c:List Nat):List Int:=c.foldl (fun l i=>l.set i (n:Int)) l
def a6j(m:Nat):List Int:=(List.range m).map fun(i:Nat)=>-1-(i:Int)
def rj(p:Prt)(k:Nat):List Int:=(List.range k).foldl (fun l n=>a5x n l (p.cls.getD n default)) (a6j p.rows.toNat)
def uh(p:Prt):List Int:=rj p p.cls.length
section
variable {k:Nat}{p:Prt}
def a68:rj p (k+1)=a5x k (rj p k) (p.cls.getD k default):=by unfold rj;rw[bmk,bmo];rfl
def a9b {n:Nat}:∀{c:List Nat} {l:List Int},(a5x n l c).length=l.length
 | [],_=>rfl
 | i::c,l=>by
  show(a5x n (l.set i (n:Int)) c).length=_;rw[a9b,bo3]
def pn:∀{k:Nat},(rj p k).length=p.rows.toNat
 |0=>by simp[rj,a6j]
 |k+1=>by rw[a68,a9b,pn]
def a2v(p:Prt)(k j:Nat):List Int:=a5x k (rj p k) ((p.cls.getD k default).take j)
def atf:a2v p k 0=rj p k:=rfl
def aus {j:Nat} (h:j<(p.cls.getD k default).length):a2v p k (j+1)=(a2v p k j).set ((p.cls.getD k default).getD j default) (k:Int):=by
 unfold a2v a5x;rw[ax h,bmo];rfl
def ax5:a2v p k (p.cls.getD k default).length=rj p (k+1):=by unfold a2v;rw[bmd,a68]
def aht{j:Nat}:(a2v p k j).length=p.rows.toNat:=by unfold a2v;rw[a9b,pn]
def ayl(a b:Prt):List (Int×Int):=(List.range a.rows.toNat).map fun i=>((uh a).getD i default,(uh b).getD i default)
def awx(a b:Prt):Prt:=⟨a.rows,adu (ayl a b)⟩
def yn(p:Prt)(k:Nat):Int:=(p.cls.take k).foldl (fun n c=>n-((c.length:Int)-1)) p.rows
def asi(p:Prt):Int:=yn p p.cls.length
def agn (h:k<p.cls.length):yn p (k+1)=yn p k-(((p.cls.getD k default).length:Int)-1):=by
 unfold yn;rw[ax h,bmo];rfl
end
end
section
open Go.RowKit
structure ExF (kk:KK) (n:Nat) (f:MK->Option PV) (es:Array MapEntry) (clock:Nat):Prop where
 st:Go.MapKept.Stamped es clock
 le:es.size<=n
 mx:es.size<=maxLen
 to:∀x∈es.toList,∃key v,x.key=key.val/\f key=some (.raw v)/\x.val=v/\v.oneCell'=true
 of:∀key y,f key=some y->MK.ok kk key/\∃x∈es.toList,x.key=key.val
structure Vis (es:Array MapEntry) (seen:Array Nat) (vs:List MK):Prop where
 nod:vs.Nodup
 inn:∀k∈vs,∃x∈es.toList,x.key=k.val/\seen.contains x.born=true
 all:∀x∈es.toList,seen.contains x.born=true->∃k∈vs,x.key=k.val
section
variable {kk:KK}{n:Nat}{f:MK->Option PV}{es:Array MapEntry}{clock:Nat}{seen:Array Nat}{vs:List MK}{e:MapEntry}{key:MK}
end
section
variable {nt:Nat}{st:HSt}
end
abbrev itO(bi b clock:Nat)(seen:Array Nat):aa:=.ex 2 (.pointer (some ⟨bi,0,none⟩)) bi (.mapIter (some b) clock seen clock)
abbrev mpO(b:Nat)(es:Array MapEntry)(clock:Nat):aa:=.ex 0 (.map (some b)) b (.map es clock)
section
variable {P:Program}{nt:Nat}{ops:Array Oper}{st:HSt}
def b3a (st:HSt) (d:Nat) (x:HR):HSt.den ⟨(d,some x)::st.t,st.o⟩=st.den.putD (some d) (some x):=by
 unfold HSt.den S.putD S.put;simp[az]
def acq {k d:Nat} {o:Oper} {L:List Nat} {Q:HSt->Prop} (hi:ops[k]? = some o) (hg:o.guard=none) (hd:o.dst=some d) (hdn:cj nt (some d)=true) (hnd:∀c,o.op≠.defer c)
 (h:∀w0 a w c,ag w0 nt c st.den a w->∃v w' o' x c',c'.old=c.old/\(execOp a.eval o).run P w=.ok (.value v) w'/\ag w0 nt c' (HSt.den ⟨st.t,o'⟩) a w'/\ak c' (HSt.den ⟨st.t,o'⟩).o x v/\RN P nt ops L ⟨(d,some x)::st.t,o'⟩ Q):RN P nt ops (k::L) st Q:=fun ro n w0 m0 a w QQ ⟨c,hold,hr⟩ hQ=>by
 obtain⟨v,w',o',x,c',h1,h2,h3,h4,h5⟩:=h w0 a w c hr;rw[wpOpsIn_cons];unfold wpOpIn;simp only[hi];have hw:Region.wanted o (yielded ops a.tmps)=true:=by unfold Region.wanted;rw[hg]
 rw[if_pos hw];refine vk hnd ?_;unfold Oper.wp;rw[h2];refine h5 ro n w0 m0 _ w' QQ ⟨c',h1.trans hold, ?_⟩ hQ;rw[hd,b3a ⟨st.t,o'⟩ d x];exact h3.putD (some d) (fun k hk=>by cases hk;exact of_decide_eq_true hdn) (some x) v fun y hy=>by cases hy;exact h4
variable {k:Nat}{o:Oper}{L:List Nat}{Q:HSt->Prop}{x:Operand}{mid j b clock d bi id n:Nat}{es:Array MapEntry}{seen:Array Nat}{kk:KK}{f:MK->Option PV}
def ala {w0:World} {c:Ctx} {s:S} {a:Act} {w:World} (h:ag w0 nt c s a w) {v:Value} {y:Obj} {dd:Nat} (hx:ev s x=some (.v (.one (.ref mid j)))) (hm:s.o mid=some (.ex dd v b y)):a.eval x=v/\w.heap[b]? = some y:=by
 obtain⟨h1,h2,h3,h4,h5⟩:=h.objs mid _ hm;have hu:b9 c s.o (.ref mid j) (a.eval x):=ae h hx;obtain⟨_,_,hu⟩:=hu;have h6:=hu _ _ _ _ hm rfl;exact⟨(h6.2 bpw).trans h1,h4⟩
end
end
section
open Go.RowKit
def bj9(f:MK->Option PV)(m:MK):MK->Option PV:=fun k=>bif k.same m then none else f k
section
variable {P:Program}{E:Env}{nt:Nat}{ops:Array Oper}{st:HSt}
def b7f{k:Nat}{o:Oper}{L:List Nat}{Q:HSt->Prop}(hi:ops[k]? = some o)(hg:o.guard=none)(hdn:cj nt o.dst=true)(hnd:∀c,o.op≠.defer c)
 (h:∀w0 a w c,ag w0 nt c st.den a w->∃y w' o' c',c'.old=c.old/\(execOp a.eval o).run P w=.ok y w'/\(y=.skip\/∃v,y=.value v)/\ag w0 nt c' (HSt.den ⟨st.t,o'⟩) a w'/\RN P nt ops L ⟨(match o.dst with|some d=>[(d,none)]|none=>[])++st.t,o'⟩ Q):RN P nt ops (k::L) st Q:=fun ro n w0 m0 a w QQ ⟨c,hold,hr⟩ hQ=>by
 obtain⟨y,w',o',c',h1,h2,hy,h3,h5⟩:=h w0 a w c hr;rw[wpOpsIn_cons];unfold wpOpIn;simp only[hi];have hw:Region.wanted o (yielded ops a.tmps)=true:=by unfold Region.wanted;rw[hg]
 rw[if_pos hw];refine vk hnd ?_;unfold Oper.wp;rw[h2]
 rcases hy with rfl|⟨v,rfl⟩
 · refine h5 ro n w0 m0 _ w' QQ ⟨c',h1.trans hold, ?_⟩ hQ
   cases hdd:o.dst with
   |none=>exact h3
   | some d =>
    have e:HSt.den ⟨[(d,none)]++st.t,o'⟩=(HSt.den ⟨st.t,o'⟩).putD (some d) none:=by
     unfold HSt.den S.putD S.put;simp[az]
    rw[e];exact h3.putD (some d) (fun k hk=>by cases hk;rw[hdd]at hdn;exact of_decide_eq_true hdn) none undef (fun y hy=>by cases hy)
 refine h5 ro n w0 m0 _ w' QQ ⟨c',h1.trans hold, ?_⟩ hQ
 cases hdd:o.dst with
 |none=>exact h3
 | some d =>
  have e:HSt.den ⟨[(d,none)]++st.t,o'⟩=(HSt.den ⟨st.t,o'⟩).putD (some d) none:=by
   unfold HSt.den S.putD S.put;simp[az]
  rw[e];exact h3.putD (some d) (fun k hk=>by cases hk;rw[hdd]at hdn;exact of_decide_eq_true hdn) none v (fun y hy=>by cases hy)
end
def b1g {P:Program} {nt:Nat} {st:HSt} {ro:Option Nat} {c:Code} {Q:Exit->HSt->Prop} (h:HE nt st fun st'=>HW (ro:=ro) P nt c st' Q):HW (ro:=ro) P nt c st Q:=fun w0 m0 a w hr=>by
 obtain⟨st',h1,h2⟩:=h w0 m0 a w hr;exact h1 w0 m0 a w h2
section
variable {P:Program}{E:Env}{nt:Nat}{ops:Array Oper}{st:HSt}{k:Nat}{o:Oper}{L:List Nat}{Q:HSt->Prop}
end
end
section
open Go.RowKit
section
variable {w0:World}{nt:Nat}{c:Ctx}{s:S}{a:Act}{w:World}
theorem ag.redo (h:ag w0 nt c s a w) (D:Nat->Prop) (own':Nat->Value) (blk':Nat->Nat->Prop) (rows':Nat->Nat->Value) (o':ap)
 (hD:∀q,D q->q<1000) (hs:∀q,¬D q->o' q=s.o q/\own' q=c.own q/\blk' q=c.blk q/\rows' q=c.rows q)
 (he:∀q,D q->((∀d x,s.t d=some x->¬x.men q)/\∀id ob,¬D id->s.o id=some ob->¬ob.men q)\/Evo c s.o { old:=c.old,imm:=c.imm,tab:=c.tab,own:=own',blk:=blk',rows:=rows' } o' q)
 (hob:∀q ob,D q->o' q=some ob->dq 0 { old:=c.old,imm:=c.imm,tab:=c.tab,own:=own',blk:=blk',rows:=rows' } o' w q ob)
 (hfrom:∀q ob b,D q->o' q=some ob->blk' q b->∃q0 ob0,D q0/\s.o q0=some ob0/\c.blk q0 b)
 (hin:∀q q' ob ob' b,D q->D q'->o' q=some ob->o' q'=some ob'->blk' q b->blk' q' b->q=q') :
 ag w0 nt { old:=c.old,imm:=c.imm,tab:=c.tab,own:=own',blk:=blk',rows:=rows' } ⟨s.t,o'⟩ a w:=by
 have hevo:∀q,¬D q->Evo c s.o { old:=c.old,imm:=c.imm,tab:=c.tab,own:=own',blk:=blk',rows:=rows' } o' q:=fun q hq=>by
  obtain⟨h1,h2,h3,h4⟩:=hs q hq;exact Evo.of_same h1 h2 h4
 refine⟨h.defers,h.size,h.below,fun d x hx=>?_,fun q ob hq=>?_,fun q q' ob ob' b hq hq' hb hb'=>?_,h.imm,fun q ob b hq hb=>?_,h.was,h.frm,fun q ob b hq hb=>?_,fun q hq=>?_⟩
 · refine (h.tmps d x hx).evo (Imm.le.refl c.imm) fun q hm=>?_
   grind
 · by_cases hd:D q
   · grind
   obtain⟨h1,h2,h3,h4⟩:=hs q hd;have hq:o' q=some ob:=hq;rw[h1]at hq;refine(h.objs q ob hq).keep (Imm.le.refl c.imm) h2 h3 (fun j hj=>?_) (fun b hb=>rfl) h4
   grind
 · have hq:o' q=some ob:=hq
   have hq':o' q'=some ob':=hq'
   have cross:∀q q' ob ob',D q->¬D q'->o' q=some ob->o' q'=some ob'->blk' q b->blk' q' b->False:=fun q q' ob ob' hd hd' hq hq' hb hb'=>by
    obtain⟨q0,ob0,h1,h2,h3⟩:=hfrom q ob b hd hq hb;obtain⟨h4,_,h5,_⟩:=hs q' hd';rw[h4]at hq';rw[h5]at hb';have:=h.inj q0 q' ob0 ob' b h2 hq' h3 hb'
    grind
   by_cases hd:D q
   · grind
   by_cases hd':D q'
   · grind
   obtain⟨h1,_,h3,_⟩:=hs q hd;obtain⟨h1',_,h3',_⟩:=hs q' hd';rw[h1]at hq;rw[h1']at hq';simp only[h3]at hb;simp only[h3']at hb';exact h.inj q q' ob ob' b hq hq' hb hb'
 · have hq:o' q=some ob:=hq
   by_cases hd:D q
   · obtain ⟨q0,ob0,_,h2,h3⟩:=hfrom q ob b hd hq hb
     exact h.sep q0 ob0 b h2 h3
   obtain⟨h1,_,h3,_⟩:=hs q hd;rw[h1]at hq;simp only[h3]at hb;exact h.sep q ob b hq hb
 · have hq:o' q=some ob:=hq
   by_cases hd:D q
   · obtain ⟨q0,ob0,_,h2,h3⟩:=hfrom q ob b hd hq hb
     exact h.fsep q0 ob0 b h2 h3
   obtain⟨h1,_,h3,_⟩:=hs q hd;rw[h1]at hq;simp only[h3]at hb;exact h.fsep q ob b hq hb
 have:¬D q:=fun hd=>by have:=hD q hd;omega
 exact(h.fixed q hq).trans (hevo q this)
structure ajf (et:TypeId) (es n r:Nat) (m:Nat->Nat) (g:Nat->Nat->Nat->PV) (hd:Nat->Value) (B:Nat->Option Obj):Prop where
 pos:0<es
 len:n<=maxLen
 row:∀i,i<n->i≠r->(m i=0/\∃a,hd i=.slice a 0 0)\/∃b cap cur,hd i=.slice (some ⟨b,0,none⟩) (m i) cap/\au (hd i)=some b/\B b=some (.cells cur et (0,0))/\m i<=cap/\cap<=maxLen/\cur.size=cap*es /\
  ∀q j,q<m i->j<es->∃x,(cur.toList.take (m i*es))[q*es+j]? = some x/\g i q j=.raw x/\x.oneCell'=true
 apart:∀i i' b,i<n->i≠r->i'<n->i'≠r->au (hd i)=some b->au (hd i')=some b->i'=i
 blk:∀b,B b≠none->∃i,i<n/\i≠r/\au (hd i)=some b
def hdF(hd:Nat->Value)(id' r k:Nat):Nat->Nat->HV:=fun i _=>bif Nat.beq i r then .ref id' k else .p (.raw (hd i))
def a0x(hd:Nat->Value)(id' r k j:Nat):hdF hd id' r k r j=.ref id' k:=by simp[hdF]
def a64 {hd:Nat->Value} {id' r k i j:Nat} (h:i≠r):hdF hd id' r k i j=.p (.raw (hd i)):=by
 have:Nat.beq i r=false:=by rw[bmh];exact fun hb=>h (bmt hb)
 simp[hdF,this]
def azu{imm:Imm}{s':Nat}{f:Nat->Nat->PV}{a:Option Addr}:aq imm (.sl 0 s' true f) (.slice a 0 0):=⟨a,0,rfl,bm1 _,bm3 _,fun _=>rfl,fun h=>absurd h (boj 0)⟩
section
variable {et:TypeId}{g:Nat->Nat->Nat->PV}{m:Nat->Nat}
theorem ag.split(h:ag w0 nt c s a w){id id' idb r n:Nat}{e:TypeId}{es:Nat}(ho:s.o id=some (.nest e et es n m g none))(hid:id<1000)(hr:r<n)(hraw:∀i q j,i<n->q<m i->j<es->∃v,g i q j=.raw v)(hm':NM s id')(hn':s.o id'=none)(hmb:NM s idb)(hnb:s.o idb=none)(hne:id'≠idb):
 ∃hd B c',ajf et es n r m g hd B/\c'.old=c.old/\ag w0 nt c' ⟨s.t,fun q=>if q=idb then some (.bun B)else if q=id' then some (.arr true es et (m r) (g r))else if q=id then some (.arrh 1 e n [id'] (hdF hd id' r (m r)))else s.o q⟩ a w:=by
 classical
 have hnk:jt 0 c s.o w id e et es n m g none:=h.objs id _ ho;have hid':id'≠id:=by rintro rfl;rw[ho]at hn';cases hn'
 have hidb:idb≠id:=by rintro rfl;rw[ho]at hnb;cases hnb
 let hd:Nat->Value:=fun i=>c.rows id i
 let B:Nat->Option Obj:=fun b=>if ∃i,i<n/\i≠r/\au (c.rows id i)=some b then w.heap[b]? else none
 have hB:∀i b,i<n->i≠r->au (c.rows id i)=some b->B b=w.heap[b]?:=fun i b h1 h2 h3=>if_pos ⟨i,h1,h2,h3⟩;have hlen:=hnk.len;simp only[mj]at hlen
 have hbf:ajf et es n r m g hd B:=by
  refine⟨hnk.pos,by omega,fun i hi hir=>?_,fun i i' b h1 h2 h3 h4 h5 h6=>(hnk.apart i b h1 h5).2 i' h3 h6,fun b hb=>?_⟩
  · rcases hnk.row i hi with r0|⟨ys,r1,r2⟩
    · exact .inl r0
    rcases fh r1 with r0|⟨b,cap,rv,rb⟩
    · exact .inl r0
    rcases r1.2 with⟨hv,_⟩|⟨b',cap',cur,hv,_,hh,q1,q2,q3,q4⟩
    · grind
    rw[rv]at hv;simp only[Value.slice.injEq,bly,Addr.mk.injEq,and_true,true_and]at hv;obtain⟨rfl,rfl⟩:=hv;refine .inr ⟨b,cap,cur,rv,rb,(hB i b hi hir rb).trans hh,q1,q2,q3,fun q j hq hj=>?_⟩;obtain⟨x,hx,hxr⟩:=r2 q j hq hj;obtain⟨v,hv⟩:=hraw i q j hi hq hj;rw[hv]at hxr;obtain⟨e1,e2⟩:=hxr
    grind
  grind
 obtain ⟨xt,t1,t2,_⟩:∃xs,w.ownsRow 0 e 1 (c.own id) (n+mj none) xs/\(∀i,i<n->xs[i]? = some (c.rows id i))/\∀p,(none:Option (Nat×Nat))=some p->∃x,xs[n]? = some x/\b9 c s.o (.ref p.1 p.2) x:=by
  rcases hnk.top with⟨h1,_⟩|h1
  · grind
  exact h1
 have t1:w.ownsRow 0 e 1 (c.own id) n xt:=t1
 obtain ⟨bt,capt,ht0,htc⟩:∃b cap,c.own id=.slice (some ⟨b,0,none⟩) n cap/\au (c.own id)=some b:=by
  rcases fh t1 with⟨h1,_⟩|h1
  · omega
  exact h1
 have hbs:∀b,ep (c.own id) b<->b=bt:=fun b=>by rw[ht0];simp[ep,cg,eq_comm]
 have hrow1:∀i,i<n->(c.rows id i).oneCell'=true:=fun i hi=>by
  rcases hnk.row i hi with⟨_,x,h1⟩|⟨ys,h1,_⟩
  · rw[h1];rfl
  rcases h1.2 with⟨h1,_⟩|⟨_,_,_,h1,_⟩<;>(rw[h1];rfl)
 let blr:Nat->Prop:=fun b=>au (c.rows id r)=some b
 let own':Nat->Value:=fun q=>if q=id' then c.rows id r else c.own q
 let blk':Nat->Nat->Prop:=fun q=>if q=idb then(fun b=>B b≠none)else if q=id' then blr else if q=id then ep (c.own id)else c.blk q
 let o':ap:=fun q=>if q=idb then some (.bun B)else if q=id' then some (.arr true es et (m r) (g r))else if q=id then some (.arrh 1 e n [id'] (hdF hd id' r (m r)))else s.o q
 have ob1:o' idb=some (.bun B):=if_pos rfl;have ob2:o' id'=some (.arr true es et (m r) (g r)):=by show(if id'=idb then _ else if id'=id' then _ else _)=_;rw[if_neg hne,if_pos rfl]
 have ob3:o' id=some (.arrh 1 e n [id'] (hdF hd id' r (m r))):=by show(if id=idb then _ else if id=id' then _ else if id=id then _ else _)=_;rw[if_neg (Ne.symm hidb),if_neg (Ne.symm hid'),if_pos rfl]
 have bk1:blk' idb=fun b=>B b≠none:=if_pos rfl;have bk2:blk' id'=blr:=by show(if id'=idb then _ else if id'=id' then _ else _)=_;rw[if_neg hne,if_pos rfl]
 have bk3:blk' id=ep (c.own id):=by show(if id=idb then _ else if id=id' then _ else if id=id then _ else _)=_;rw[if_neg (Ne.symm hidb),if_neg (Ne.symm hid'),if_pos rfl]
 have ow2:own' id'=c.rows id r:=if_pos rfl;have ow3:own' id=c.own id:=if_neg (Ne.symm hid')
 have hDc:∀q,(q=id\/q=id'\/q=idb)->∀ob,o' q=some ob->∀b,blk' q b->c.blk id b:=fun q hq ob hob b hb=>by
  rcases hq with rfl|rfl|rfl
  · rw [bk3]at hb
    exact(hnk.blks b).2 (.inl (by rw[(hbs b).1 hb];exact htc))
  · rw [bk2]at hb
    exact(hnk.blks b).2 (.inr ⟨r,hr,hb⟩)
  rw[bk1]at hb;obtain⟨i,h1,h2,h3⟩:=hbf.blk b hb;exact(hnk.blks b).2 (.inr ⟨i,h1,h3⟩)
 refine⟨hd,B,{ old:=c.old,imm:=c.imm,tab:=c.tab,own:=own',blk:=blk',rows:=c.rows },hbf,rfl,h.redo (fun q=>q=id\/q=id'\/q=idb) own' blk' c.rows o' ?_ ?_ ?_ ?_ ?_ ?_⟩
 · rintro q (rfl|rfl|rfl)
   · exact hid
   · exact hm'.2.2
   exact hmb.2.2
 · grind
 · rintro q (rfl|rfl|rfl)
   · exact .inr (.inr (.inr ⟨_,_,1,e,n,n,ho,rfl,ob3,rfl,bm1 _,fun _=>ow3,fun _ _ _ _ _ _ _ hb=>by cases hb⟩))
   · exact .inl ⟨hm'.1,fun id0 ob _ h0=>hm'.2.1 id0 ob h0⟩
   exact .inl ⟨hmb.1,fun id0 ob _ h0=>hmb.2.1 id0 ob h0⟩
 · rintro q ob (rfl|rfl|rfl) hq
   · rw [ob3]at hq
     cases hq;refine⟨Nat.one_pos,by omega,fun i j k hi hj hk=>?_, .inl ⟨by show blk' q=ep (own' q);rw[bk3,ow3],xt,by show w.ownsRow 0 e 1 (own' q) n xt;rw[ow3];exact t1,fun i j hi hj=>?_⟩⟩
     · by_cases hir:i=r
       · subst hir;rw[a0x]at hk;simp only[HV.men]at hk;simp[hk]
       rw[a64 hir]at hk;exact hk.elim
     obtain rfl:j=0:=by omega
     refine⟨c.rows q i,by rw[bp2,bnt];exact t2 i hi, ?_⟩;by_cases hir:i=r
     · subst hir
       rw[a0x];refine⟨hrow1 i hi,fun l hl=>?_,fun ob0 s0 e0 n0 ho0 hd0=>?_⟩
       · grind
       rw[ob2]at ho0;cases ho0;simp only[aa.dim,bly,bm4]at hd0
       grind
     rw[a64 hir];exact⟨rfl,hrow1 i hi⟩
   · rw [ob2]at hq
     cases hq;refine⟨hnk.pos,hnk.lens r hr, ?_⟩
     have hemp:(m r=0/\∃x,c.rows id r=.slice x 0 0)->(true=false\/m r=0)/\blk' q=noB/\aq c.imm (.sl (m r) es true (g r)) (own' q):=fun⟨h1,x,h2⟩=>by
      refine⟨.inr h1, ?_, ?_⟩
      · rw [bk2]
        funext b;show(au (c.rows id r)=some b)=False;rw[h2];cases x<;>simp[au]
      rw[ow2,h2,h1];exact azu
     rcases hnk.row r hr with r0|⟨ys,r1,r2⟩
     · grind
     rcases fh r1 with r0|⟨b,cap,rv,rb⟩
     · grind
     have hb2:blk' q=ep (own' q):=by
      rw[bk2];funext b';show(au (c.rows id r)=some b')=(cg (own' q)=some b');rw[ow2,rb,rv];rfl
     grind
   rw[ob1]at hq;cases hq;refine⟨fun b hb=>by have hb:blk' q b:=hb;rw[bk1]at hb;exact hb,fun b x hx=>?_⟩;have hne2:B b≠none:=fun e=>by rw[e]at hx;cases hx
   obtain⟨i,h1,h2,h3⟩:=hbf.blk b hne2;have hc:c.blk id b:=(hnk.blks b).2 (.inr ⟨i,h1,h3⟩);rw[hB i b h1 h2 h3]at hx;obtain⟨y,hy,hyd⟩:=(h.objs id _ ho).data hc
   grind
 · intro q ob b hq hob hb
   exact⟨id,_, .inl rfl,ho,hDc q hq ob hob b hb⟩
 have x12:∀b,blk' id b->blk' id' b->False:=fun b h1 h2=>by
  rw[bk3]at h1;rw[bk2]at h2;exact(hnk.apart r b hr h2).1 (by rw[(hbs b).1 h1];exact htc)
 have x13:∀b,blk' id b->blk' idb b->False:=fun b h1 h2=>by
  rw[bk3]at h1;rw[bk1]at h2;obtain⟨i,q1,q2,q3⟩:=hbf.blk b h2;exact(hnk.apart i b q1 q3).1 (by rw[(hbs b).1 h1];exact htc)
 have x23:∀b,blk' id' b->blk' idb b->False:=fun b h1 h2=>by
  rw[bk2]at h1;rw[bk1]at h2;obtain⟨i,q1,q2,q3⟩:=hbf.blk b h2;exact q2 ((hnk.apart r b hr h1).2 i q1 q3)
 rintro q q' ob ob' b (rfl|rfl|rfl) (rfl|rfl|rfl) _ _ hb hb'
 · rfl
 · simp_all
 · simp_all
 · simp_all
 · rfl
 · grind
 · simp_all
 · grind
 rfl
def ag.join(h:ag w0 nt c s a w){id id' idb id2 r n k:Nat}{e:TypeId}{es:Nat}{ms:List Nat}{f:Nat->Nat->HV}{ff:Nat->Nat->PV}{hd:Nat->Value}{B:Nat->Option Obj}(ho:s.o id=some (.arrh 1 e n ms f))(ho':s.o id'=some (.arr true es et k ff))(hob:s.o idb=some (.bun B))(hbf:ajf et es n r m g hd B)(hr:r<n)(hfr:f r 0=.ref id' k)(hfi:∀i,i<n->i≠r->f i 0=.p (.raw (hd i)))(hid:id<1000)(hid':id'<1000)(hidb:idb<1000)(hm2:NM s id2)(hn2:s.o id2=none):
 ∃c',c'.old=c.old/\c'.own id2=c.own id/\ag w0 nt c' ⟨s.t,fun q=>if q=id2 then some (.nest e et es n (fv m r k) (fw g r ff) none)else if q=id\/q=id'\/q=idb then none else s.o q⟩ a w:=by
 have x1:id'≠id:=by rintro rfl;rw[ho]at ho';cases ho'
 have x2:idb≠id:=by rintro rfl;rw[ho]at hob;cases hob
 have x3:idb≠id':=by rintro rfl;rw[ho']at hob;cases hob
 have y1:id2≠id:=by rintro rfl;rw[ho]at hn2;cases hn2
 have y2:id2≠id':=by rintro rfl;rw[ho']at hn2;cases hn2
 have y3:id2≠idb:=by rintro rfl;rw[hob]at hn2;cases hn2
 obtain⟨_,_,_,h5⟩:=h.objs id _ ho
 obtain ⟨h6,xt,t1,t2⟩:c.blk id=ep (c.own id)/\∃xs,w.ownsRow 0 e 1 (c.own id) n xs/\∀i j,i<n->j<1->∃x,xs[i*1+j]? = some x/\b9 c s.o (f i j) x:=by
  rcases h5 with h5|⟨h5,_⟩
  · exact h5
  omega
 obtain⟨q0,q1,q5⟩:=h.objs id' _ ho';obtain⟨b1,b2⟩:=h.objs idb _ hob
 obtain ⟨bt,capt,ht0,htc⟩:∃b cap,c.own id=.slice (some ⟨b,0,none⟩) n cap/\au (c.own id)=some b:=by
  rcases fh t1 with⟨h1,_⟩|h1
  · omega
  exact h1
 have hct:c.blk id bt:=by rw[h6,ht0];rfl
 let rws:Nat->Value:=fun i=>if i=r then c.own id' else hd i
 have rr:rws r=c.own id':=if_pos rfl;have rn:∀i,i≠r->rws i=hd i:=fun i hi=>if_neg hi
 have hcr:∀b,au (c.own id')=some b->c.blk id' b:=fun b hb=>by
  rcases q5 with⟨q6,_⟩|⟨q7,_,q8⟩
  · rw[q6];exact a5o hb
  obtain⟨ad,cap,r1,_,_,r4,_⟩:=q8
  rcases q7 with q7|q7
  · cases q7
  subst q7;rw[r1,r4 rfl]at hb;cases ad<;>simp[au]at hb
 have hrow:(k=0/\∃a,c.own id'=.slice a 0 0)\/∃ys,w.ownsRow 0 et es (c.own id') k ys/\∀r j,r<k->j<es->∃x,ys[r*es+j]? = some x/\aq c.imm (ff r j) x:=by
  rcases q5 with⟨_,xs,q7,q8⟩|⟨q6,_,q8⟩
  · exact .inr ⟨xs,q7,q8⟩
  rcases q6 with q6|q6
  · cases q6
  subst q6;exact .inl ⟨rfl,a3g q8⟩
 have hrows:∀i,i<n->xt[i]? = some (rws i):=fun i hi=>by
  obtain⟨x,hx,hxr⟩:=t2 i 0 hi bpw;rw[bp2,bnt]at hx;by_cases hir:i=r
  · subst hir
    rw[hfr]at hxr;rw[rr,hx,(hxr.2.2 _ _ _ _ ho' rfl).2 rfl]
  rw[hfi i hi hir]at hxr;rw[rn i hir,hx,hxr.1]
 have hcb:∀i b,i<n->i≠r->au (hd i)=some b->c.blk idb b:=fun i b hi hir hb=>by
  rcases hbf.row i hi hir with⟨_,x,h1⟩|⟨b',cap,cur,h1,h2,h3,_⟩
  · rw[h1]at hb;cases x<;>simp[au]at hb
  rw[h2]at hb;cases hb;exact(b2 _ _ h3).1
 let bk:Nat->Prop:=fun b=>au (c.own id)=some b\/∃i,i<n/\au (rws i)=some b
 have hfrom:∀b,bk b->c.blk id b\/c.blk id' b\/c.blk idb b:=fun b hb=>by
  rcases hb with hb|⟨i,hi,hb⟩
  · rw [htc]at hb
    cases hb;exact .inl hct
  by_cases hir:i=r
  · subst hir;rw[rr]at hb;exact .inr (.inl (hcr b hb))
  rw[rn i hir]at hb;exact .inr (.inr (hcb i b hi hir hb))
 let own':Nat->Value:=fun q=>if q=id2 then c.own id else c.own q
 let blk':Nat->Nat->Prop:=fun q=>if q=id2 then bk else c.blk q
 let rows':Nat->Nat->Value:=fun q=>if q=id2 then rws else c.rows q
 let o':ap:=fun q=>if q=id2 then some (.nest e et es n (fv m r k) (fw g r ff) none)else if q=id\/q=id'\/q=idb then none else s.o q
 have o2:o' id2=some (.nest e et es n (fv m r k) (fw g r ff) none):=if_pos rfl
 have o1:∀q,(q=id\/q=id'\/q=idb)->o' q=none:=fun q hq=>by
  show(if q=id2 then _ else if q=id\/q=id'\/q=idb then none else s.o q)=none;rw[if_neg (by rcases hq with rfl|rfl|rfl<;>(intro e;first|exact y1 e.symm|exact y2 e.symm|exact y3 e.symm)),if_pos hq]
 have w2:own' id2=c.own id:=if_pos rfl;have k2:blk' id2=bk:=if_pos rfl;have s2:rows' id2=rws:=if_pos rfl;refine⟨{ old:=c.old,imm:=c.imm,tab:=c.tab,own:=own',blk:=blk',rows:=rows' },rfl,w2,h.redo (fun q=>q=id2\/q=id\/q=id'\/q=idb) own' blk' rows' o' ?_ ?_ ?_ ?_ ?_ ?_⟩
 · rintro q (rfl|rfl|rfl|rfl)
   · exact hm2.2.2
   · exact hid
   · exact hid'
   exact hidb
 · intro q hq
   have z1:q≠id2:=fun e=>hq (.inl e);refine⟨?_,if_neg z1,if_neg z1,if_neg z1⟩;show(if q=id2 then _ else if q=id\/q=id'\/q=idb then none else s.o q)=_;rw[if_neg z1,if_neg (fun e=>hq (.inr e))]
 · rintro q (rfl|hq)
   · exact .inl ⟨hm2.1,fun id0 ob _ h0=>hm2.2.1 id0 ob h0⟩
   exact .inr (.inl (o1 q hq))
 · rintro q ob (rfl|hq) hob'
   · rw [o2]at hob'
     cases hob';have hlenn:n<=maxLen:=hbf.len
     have apart:∀i b,i<n->au (rws i)=some b->au (c.own id)≠some b/\∀i',i'<n->au (rws i')=some b->i'=i:=fun i b hi hb=>by
      have own_i:(i=r/\c.blk id' b)\/(i≠r/\c.blk idb b):=by
       by_cases hir:i=r
       · subst hir;rw[rr]at hb;exact .inl ⟨rfl,hcr b hb⟩
       rw[rn i hir]at hb;exact .inr ⟨hir,hcb i b hi hir hb⟩
      refine⟨fun he=>?_,fun i' hi' hb'=>?_⟩
      · rw [htc]at he
        cases he
        rcases own_i with⟨_,h7⟩|⟨_,h7⟩
        · exact x1 (h.inj id' id _ _ _ ho' ho h7 hct)
        exact x2 (h.inj idb id _ _ _ hob ho h7 hct)
      by_cases hir:i=r
      · by_cases hir':i'=r
        · rw[hir,hir']
        rw[rn i' hir']at hb';have h7:=hcb i' b hi' hir' hb'
        rcases own_i with⟨_,h8⟩|⟨h8,_⟩
        · exact(x3 (h.inj idb id' _ _ b hob ho' h7 h8)).elim
        exact(h8 hir).elim
      by_cases hir':i'=r
      · subst hir'
        rw[rr]at hb';have h7:=hcr b hb'
        rcases own_i with⟨h8,_⟩|⟨_,h8⟩
        · exact(hir h8).elim
        exact(x3 (h.inj idb id' _ _ b hob ho' h8 h7)).elim
      rw[rn i hir]at hb;rw[rn i' hir']at hb';exact hbf.apart i i' b hi hir hi' hir' hb hb'
     have hlens:∀i,i<n->fv m r k i<=maxLen:=fun i hi=>by
      by_cases hir:i=r
      · subst hir;rw[su];exact q1
      rw[rz hir]
      rcases hbf.row i hi hir with⟨h1,_⟩|⟨_,_,_,_,_,_,h1,h2,_⟩
      · omega
      omega
     have hrow2:∀i,i<n->(fv m r k i=0/\∃a,rws i=.slice a 0 0)\/∃ys,w.ownsRow 0 et es (rws i) (fv m r k i) ys/\∀q j,q<fv m r k i->j<es->∃x,ys[q*es+j]? = some x/\aq c.imm (fw g r ff i q j) x:=fun i hi=>by
      by_cases hir:i=r
      · subst hir
        rw[rr,su,ano];exact hrow
      rw[rn i hir,rz hir,ahl hir]
      rcases hbf.row i hi hir with h1|⟨b,cap,cur,h1,_,h3,h4,h6,h7,h8⟩
      · exact .inl h1
      have hh:=(b2 b _ h3).2.2.1;refine .inr ⟨cur.toList.take (m i*es),⟨?_, .inr ⟨b,cap,cur,h1,bm3 _,hh,h4,h6,h7,rfl⟩⟩,fun q j hq hj=>?_⟩
      · rw[bmw,bn2,h7,bne (bmb _ h4)]
      obtain⟨x,e1,e2,e3⟩:=h8 q j hq hj;exact⟨x,e1,by rw[e2];exact⟨rfl,e3⟩⟩
     refine⟨q0,by simpa [mj]using hlenn,hlens,fun b=>?_,fun i b hi hb=>?_,fun i hi=>?_, .inr ⟨xt, ?_,fun i hi=>?_,fun p hp=>by cases hp⟩⟩
     · show blk' q b<->(au (own' q)=some b\/∃i,i<n/\au (rows' q i)=some b)
       rw[k2,w2,s2]
     · have hb:au (rows' q i)=some b:=hb
       rw[s2]at hb;show au (own' q)≠some b/\∀i',i'<n->au (rows' q i')=some b->i'=i;rw[w2,s2];exact apart i b hi hb
     · show (fv m r k i=0/\∃a,rows' q i=.slice a 0 0)\/∃ys,w.ownsRow 0 et es (rows' q i) (fv m r k i) ys/\_
       rw[s2];exact hrow2 i hi
     · show w.ownsRow 0 e 1 (own' q) n xt
       rw[w2];exact t1
     show xt[i]? = some (rows' q i);rw[s2];exact hrows i hi
   rw[o1 q hq]at hob';cases hob'
 · rintro q ob b (rfl|hq) hob' hb
   · rw [k2]at hb
     rcases hfrom b hb with h7|h7|h7
     · exact⟨id,_, .inr (.inl rfl),ho,h7⟩
     · exact⟨id',_, .inr (.inr (.inl rfl)),ho',h7⟩
     exact⟨idb,_, .inr (.inr (.inr rfl)),hob,h7⟩
   rw[o1 q hq]at hob';cases hob'
 rintro q q' ob ob' b (rfl|hq) (rfl|hq') h7 h8 _ _
 · rfl
 · rw[o1 q' hq']at h8;cases h8
 · rw[o1 q hq]at h7;cases h7
 rw[o1 q hq]at h7;cases h7
theorem ag.renN (h:ag w0 nt c s a w) {id id2 n:Nat} {e:TypeId} {es:Nat} (ho:s.o id=some (.nest e et es n m g none)) (hid:id<1000) (hm2:NM s id2) (hn2:s.o id2=none):
 ∃c',c'.old=c.old/\c'.own id2=c.own id/\ag w0 nt c' ⟨s.t,fun q=>if q=id2 then some (.nest e et es n m g none)else if q=id then none else s.o q⟩ a w:=by
 have y1:id2≠id:=by rintro rfl;rw[ho]at hn2;cases hn2
 have hnk:jt 0 c s.o w id e et es n m g none:=h.objs id _ ho
 let own':Nat->Value:=fun q=>if q=id2 then c.own id else c.own q
 let blk':Nat->Nat->Prop:=fun q=>if q=id2 then c.blk id else c.blk q
 let rows':Nat->Nat->Value:=fun q=>if q=id2 then c.rows id else c.rows q
 let o':ap:=fun q=>if q=id2 then some (.nest e et es n m g none)else if q=id then none else s.o q
 have o2:o' id2=some (.nest e et es n m g none):=if_pos rfl
 have o1:o' id=none:=by
  grind
 have w2:own' id2=c.own id:=if_pos rfl;have k2:blk' id2=c.blk id:=if_pos rfl;have s2:rows' id2=c.rows id:=if_pos rfl;refine⟨{ old:=c.old,imm:=c.imm,tab:=c.tab,own:=own',blk:=blk',rows:=rows' },rfl,w2,h.redo (fun q=>q=id2\/q=id) own' blk' rows' o' ?_ ?_ ?_ ?_ ?_ ?_⟩
 · rintro q (rfl|rfl)
   · exact hm2.2.2
   exact hid
 · grind
 · rintro q (rfl|rfl)
   · exact .inl ⟨hm2.1,fun id0 ob _ h0=>hm2.2.1 id0 ob h0⟩
   exact .inr (.inl o1)
 · rintro q ob (rfl|rfl) hob'
   · rw [o2]at hob'
     cases hob';obtain⟨p1,p2,p3,p4,p5,p6,p7⟩:=hnk;have z4:∀b,blk' q b<->(au (own' q)=some b\/∃i,i<n/\au (rows' q i)=some b):=by rw[k2,w2,s2];exact p4
     have z5:∀i b,i<n->au (rows' q i)=some b->au (own' q)≠some b/\∀i',i'<n->au (rows' q i')=some b->i'=i:=by rw[w2,s2];exact p5
     have z6:∀i,i<n->(m i=0/\∃a,rows' q i=.slice a 0 0)\/∃ys,w.ownsRow 0 et es (rows' q i) (m i) ys/\∀r j,r<m i->j<es->∃x,ys[r*es+j]? = some x/\aq c.imm (g i r j) x:=by rw[s2];exact p6
     have z7:(n+mj none=0/\∃a,own' q=.slice a 0 0)\/∃xs,w.ownsRow 0 e 1 (own' q) (n+mj none) xs/\∀i,i<n->xs[i]? = some (rows' q i):=by
      grind
     exact⟨p1,p2,p3,z4,z5,z6,z7.imp (fun z=>z) fun⟨xs,h1,h2⟩=>⟨xs,h1,h2,fun p hp=>by cases hp⟩⟩
   grind
 · grind
 grind
end
end
section
variable {ro:Option Nat}{P:Program}{nt:Nat}{st:HSt}{Q:Exit->HSt->Prop}{co:Code}
def om {t:List (Nat×Option HR)} {l:List (Nat×Option aa)} {o':ap} (h:∀q,b6 l q=o' q):HSt.den ⟨t,l⟩=⟨(HSt.den ⟨t,l⟩).t,o'⟩:=by
 unfold HSt.den;congr 1;exact funext h
section
variable {e et:TypeId}{g:Nat->Nat->Nat->PV}{m:Nat->Nat}
def akm (id r id' idb:Nat) {n:Nat} {es:Nat} (ho:b6 st.o id=some (.nest e et es n m g none)) (hr:r<n) (hraw:∀i q j,i<n->q<m i->j<es->∃v,g i q j=.raw v) (h:∀hd B,ajf et es n r m g hd B->HW (ro:=ro) P nt co ⟨st.t,(idb,some (.bun B))::(id',some (.arr true es et (m r) (g r)))::(id,some (.arrh 1 e n [id'] (hdF hd id' r (m r))))::st.o⟩ Q) (hid:Nat.blt id 1000=true:=by exact rfl) (h1:jz id' st=true:=by exact rfl) (h2:jz idb st=true:=by exact rfl) (hne:Nat.beq id' idb=false:=by exact rfl):HW (ro:=ro) P nt co st Q:=fun w0 m0 a w hr0=>by
 obtain⟨cc,hold,hrr⟩:=hr0;obtain⟨hm',hn'⟩:=ed h1;obtain⟨hmb,hnb⟩:=ed h2;have hne':id'≠idb:=by intro e;subst e;simp at hne
 obtain⟨hd,B,c',q1,q2,q3⟩:=hrr.split ho (by simpa [bob]using hid) hr hraw hm' hn' hmb hnb hne';refine h hd B q1 w0 m0 a w ⟨c',q2.trans hold, ?_⟩;rw[om (o':=fun q=>if q=idb then some (.bun B)else if q=id' then some (.arr true es et (m r) (g r))else if q=id then some (.arrh 1 e n [id'] (hdF hd id' r (m r)))else st.den.o q) (fun q=>by simp only[az];rfl)];exact q3
theorem ahn (d id id' idb id2:Nat) {r n n' k:Nat} {es:Nat} {ms:List Nat} {f:Nat->Nat->HV} {ff:Nat->Nat->PV} {hd:Nat->Value} {B:Nat->Option Obj} (hbf:ajf et es n r m g hd B) (hd0:b6 st.t d=some (.v (.one (.ref id n')))) (ho:b6 st.o id=some (.arrh 1 e n ms f)) (ho':b6 st.o id'=some (.arr true es et k ff)) (hob:b6 st.o idb=some (.bun B)) (hr:r<n) (hfr:f r 0=.ref id' k) (hfi:∀i,i<n->i≠r->f i 0=.p (.raw (hd i))) (h:HW (ro:=ro) P nt co ⟨(d,some (.v (.one (.ref id2 n))))::st.t,(id2,some (.nest e et es n (fv m r k) (fw g r ff) none))::(id,none)::(id',none)::(idb,none)::st.o⟩ Q) (hn:n'=n:=by exact rfl) (hid:(Nat.blt id 1000&&Nat.blt id' 1000&&Nat.blt idb 1000)=true:=by exact rfl) (h1:jz id2 st=true:=by exact rfl):HW (ro:=ro) P nt co st Q:=by
 subst hn;obtain⟨hm2,hn2⟩:=ed h1;simp only[bm8,bob]at hid;refine wc ⟨st.t,(id2,some (.nest e et es n' (fv m r k) (fw g r ff) none))::(id,none)::(id',none)::(idb,none)::st.o⟩ d (.v (.one (.ref id2 n'))) (fun w0 m0 a w hr0=>?_) h;obtain⟨cc,hold,hrr⟩:=hr0;obtain⟨c',q1,q2,q3⟩:=hrr.join ho ho' hob hbf hr hfr hfi hid.1.1 hid.1.2 hid.2 hm2 hn2;have hu:b9 cc st.den.o (.ref id n') (a.tmps.getD d undef):=hrr.tmps d _ hd0;have he:a.tmps.getD d undef=cc.own id:=(hu.2.2 _ _ _ _ ho rfl).2 rfl
 have hl:∀q,b6 ((id2,some (aa.nest e et es n' (fv m r k) (fw g r ff) none))::(id,none)::(id',none)::(idb,none)::st.o) q=(if q=id2 then some (.nest e et es n' (fv m r k) (fw g r ff) none)else if q=id\/q=id'\/q=idb then none else st.den.o q):=fun q=>by
  simp only[az];by_cases a1:q=id2
  · grind
  rw[if_neg a1,if_neg a1];by_cases a2:q=id
  · grind
  rw[if_neg a2];by_cases a3:q=id'
  · grind
  rw[if_neg a3];by_cases a4:q=idb
  · grind
  rw[if_neg a4,if_neg (by rintro(e|e|e)<;>contradiction)];rfl
 refine⟨c',q1.trans hold,by rw[om hl];exact q3, ?_⟩;rw[om hl];refine⟨hu.1,fun l hl2=>by simp at hl2,fun ob2 s2 e2 n2 ho2 hd2=>?_⟩;simp only[if_true,bly]at ho2;subst ho2;simp only[aa.dim,bly,bm4]at hd2
 grind
theorem b3j {w0:World} {cc c':Ctx} {a:Act} {w:World} {m0:Old} {d id id2 n:Nat} {ob ob2:aa} {sz:Nat} (hrr:ag w0 nt cc st.den a w) (hold:cc.old=m0) (hd0:b6 st.t d=some (.v (.one (.ref id n)))) (ho:b6 st.o id=some ob) (hdm:ob.dim=some (sz,e,n)) (hdm2:ob2.dim=some (sz,e,n)) (q1:c'.old=cc.old) (q2:c'.own id2=cc.own id) (q3:ag w0 nt c' ⟨st.den.t,fun q=>if q=id2 then some ob2 else if q=id then none else st.den.o q⟩ a w):
 ∃c,c.old=m0/\ag w0 nt c (HSt.den ⟨st.t,(id2,some ob2)::(id,none)::st.o⟩) a w/\ak c (HSt.den ⟨st.t,(id2,some ob2)::(id,none)::st.o⟩).o (.v (.one (.ref id2 n))) (a.tmps.getD d undef):=by
 have hu:b9 cc st.den.o (.ref id n) (a.tmps.getD d undef):=hrr.tmps d _ hd0;have he:a.tmps.getD d undef=cc.own id:=(hu.2.2 _ _ _ _ ho hdm).2 rfl
 have hl:∀q,b6 ((id2,some ob2)::(id,none)::st.o) q=(if q=id2 then some ob2 else if q=id then none else st.den.o q):=fun q=>by
  simp only[az];rfl
 refine⟨c',q1.trans hold,by rw[om hl];exact q3, ?_⟩;rw[om hl];refine⟨hu.1,fun l hl2=>?_,fun ob3 s3 e3 n3 ho3 hd3=>?_⟩
 · simp only [if_true,bly]at hl2
   rw[hl2]at hdm2;cases hdm2
 grind
def ap8 (d id id2:Nat) {n n':Nat} {es:Nat} (hd0:b6 st.t d=some (.v (.one (.ref id n')))) (ho:b6 st.o id=some (.nest e et es n m g none)) (h:HW (ro:=ro) P nt co ⟨(d,some (.v (.one (.ref id2 n))))::st.t,(id2,some (.nest e et es n m g none))::(id,none)::st.o⟩ Q) (hn:n'=n:=by exact rfl) (hid:Nat.blt id 1000=true:=by exact rfl) (h1:jz id2 st=true:=by exact rfl):HW (ro:=ro) P nt co st Q:=by
 subst hn;obtain⟨hm2,hn2⟩:=ed h1;refine wc ⟨st.t,(id2,some (.nest e et es n' m g none))::(id,none)::st.o⟩ d (.v (.one (.ref id2 n'))) (fun w0 m0 a w hr0=>?_) h;obtain⟨cc,hold,hrr⟩:=hr0;obtain⟨c',q1,q2,q3⟩:=hrr.renN ho (by simpa [bob]using hid) hm2 hn2;exact b3j hrr hold hd0 ho rfl rfl q1 q2 q3
end
end
end
section
open Go.RowKit
def bk9(B:Nat->Option Obj)(b:Nat)(x:Option Obj):Nat->Option Obj:=fun q=>if q=b then x else B q
def a3w(o:ap)(x y:HV):Prop:=x=y\/∃id d v b ob,o id=some (.ex d v b ob)/\v.oneCell'=true/\((x=.ref id 0/\y=.p (.raw v))\/(x=.p (.raw v)/\y=.ref id 0))
def aew (o:ap):List HV->List HV->Prop
 | [],[]=>True
 |x::xs,y::ys=>a3w o x y/\aew o xs ys
 |_,_=>False
def bi1 (o:ap):HC->HC->Prop
 | .one x, .one y=>a3w o x y
 | .agg l, .agg m=>aew o l m
 |_,_=>False
def b78 (o:ap):HR->HR->Prop
 | .v x, .v y=>bi1 o x y
 |_,_=>False
def a3w.to{o:ap}{id d:Nat}{v:Value}{b:Nat}{ob:Obj}(h:o id=some (.ex d v b ob))(h1:v.oneCell'=true):a3w o (.ref id 0) (.p (.raw v)):=.inr ⟨id,d,v,b,ob,h,h1, .inl ⟨rfl,rfl⟩⟩
def a3w.from{o:ap}{id d:Nat}{v:Value}{b:Nat}{ob:Obj}(h:o id=some (.ex d v b ob))(h1:v.oneCell'=true):a3w o (.p (.raw v)) (.ref id 0):=.inr ⟨id,d,v,b,ob,h,h1, .inr ⟨rfl,rfl⟩⟩
section
variable {w0:World}{nt:Nat}{c:Ctx}{s:S}{a:Act}{w:World}
def a3w.rep(h:ag w0 nt c s a w){x y:HV}{u:Value}(hs:a3w s.o x y)(hr:b9 c s.o x u):b9 c s.o y u:=by
 rcases hs with rfl|⟨id,d,v,b,ob,ho,h1,⟨rfl,rfl⟩|⟨rfl,rfl⟩⟩
 · exact hr
 · have h2:=(h.objs id _ ho).1
   obtain⟨h3,_,h4⟩:=hr;have h5:=(h4 _ _ _ _ ho rfl).2 rfl;exact⟨h5.trans h2,h1⟩
 have h2:=(h.objs id _ ho).1;obtain⟨h3,_⟩:=hr;refine⟨by rw[h3];exact h1,fun l hl=>(by rw[ho]at hl;cases hl),fun ob2 s2 e2 n2 ho2 hd2=>?_⟩;rw[ho]at ho2;cases ho2;simp only[aa.dim,bly,bm4]at hd2;obtain⟨rfl,rfl,rfl⟩:=hd2;exact⟨bm1 _,fun _=>h3.trans h2.symm⟩
def aew.rep (h:ag w0 nt c s a w):∀{x y:List HV} {u:List Value},aew s.o x y->b7 c s.o x u->b7 c s.o y u
 | [],[],_,_,hr=>hr
 |_::_,_::_,_::_,hs,hr=>⟨hs.1.rep h hr.1,aew.rep h hs.2 hr.2⟩
 | [],_::_,_,hs,_=>hs.elim
 |_::_,[],_,hs,_=>hs.elim
 |_::_,_::_,[],_,hr=>hr.elim
def b78.rep (h:ag w0 nt c s a w) {x y:HR} {u:Value} (hs:b78 s.o x y) (hr:ak c s.o x u):ak c s.o y u:=by
 match x,y,hs with
 | .v (.one x), .v (.one y),hs=>exact a3w.rep h hs hr
 | .v (.agg l), .v (.agg m),hs =>
  obtain⟨us,e,hl⟩:=hr;exact⟨us,e,aew.rep h hs hl⟩
end
section
variable {ro:Option Nat}{P:Program}{nt:Nat}{co:Code}{st:HSt}{Q:Exit->HSt->Prop}
end
end
end Go.Hx
