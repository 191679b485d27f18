/- A part of the proof: Jp6 Jp7 Ke4 Ke5 Ke8 Ke6 Cs44 Ke7 Kw2. -/
import Derived.Test.YtmoggbnlhllhaaaGreatDoorTx26
set_option linter.all false
set_option maxRecDepth 100000
set_option maxHeartbeats 1000000
namespace Go.Hx
section
def okW(t:Tbl)(ps:List AS)(a:Nat)(acc:List (List Val))(w:List Val):Bool:=!acc.contains w&&ps.all fun s=>b7g t s ⟨0,w⟩ ((a:Int)+1)
def bez(t:Tbl)(ps:List AS)(a:Nat)(acc:List (List Val))(w:List Val):List (List Val):=if okW t ps a acc w=true then acc++[w]else acc
def bdo(t:Tbl)(ps:List AS)(a:Nat)(l:List Val)(acc:List (List Val))(k:Nat):List (List Val):=(t.rows.take k).foldl (fun acc r=>bez t ps a acc (l.set a (r.vals.getD a default))) acc
def be7(t:Tbl)(ps:List AS)(a:Nat)(L:List (List Val))(i:Nat):List (List Val):=(L.take i).foldl (fun acc l=>bdo t ps a l acc t.rows.length) []
def b4t (t:Tbl) (ps:List AS) (n:Nat):Nat->List (List Val)
 |0=>if t.rows.length=0 then[] else[List.replicate n default]
 |a+1=>be7 t ps a (b4t t ps n a) (b4t t ps n a).length
section
variable {t:Tbl}{ps:List AS}{a n:Nat}
structure LvM (t:Tbl) (ps:List AS) (n a:Nat) (w:List Val):Prop where
 len:w.length=n
 rest:∀j,a<=j->j<n->w.getD j default=default
 col:∀j,j<a->∃r∈t.rows,r.vals.getD j default=w.getD j default
 agr:∀s∈ps,∃r∈t.rows,∀j:Nat,j<a->ir s (j:Int)=true->r.vals.getD j default=w.getD j default
end
end
section
def swL{α:Type}[Inhabited α](L:List α)(k:Nat):List α:=(L.set k (L.getD (k-1) default)).set (k-1) (L.getD k default)
section
variable {α:Type}[Inhabited α]{c:α->α->Int}{L M:List α}{i k:Nat}
def aca:(swL L k).length=L.length:=by unfold swL;rw[bkq,bkq]
def k7 (hk:0<k) (hl:k<L.length) {j:Nat}:(swL L k).getD j default=if j=k-1 then L.getD k default else if j=k then L.getD (k-1) default else L.getD j default:=by
 unfold swL;by_cases h:j=k-1
 · rw[if_pos h,h,lm (by rw[bkq];omega)]
 rw[if_neg h,getD_set_ne' h];by_cases h2:j=k
 · rw[if_pos h2,h2,lm hl]
 rw[if_neg h2,getD_set_ne' h2]
def a5i{z:α}:z∈L<->∃j,j<L.length/\L.getD j default=z:=by
 constructor
 · intro h
   obtain⟨j,hj,e⟩:=bj7 h;exact⟨j,hj,by rw[ah _ _ hj,e]⟩
 rintro⟨j,hj,rfl⟩;rw[ah _ _ hj];exact bin hj
def b3n(hk:0<k)(hl:k<L.length){z:α}:z∈swL L k<->z∈L:=by
 rw[a5i,a5i,aca];constructor
 · rintro ⟨j,hj,e⟩
   rw[k7 hk hl]at e;split at e
   · exact⟨k,hl,e⟩
   split at e
   · exact⟨k-1,by omega,e⟩
   exact⟨j,hj,e⟩
 rintro⟨j,hj,e⟩;by_cases h1:j=k
 · exact⟨k-1,by omega,by rw[k7 hk hl,if_pos rfl,<- h1];exact e⟩
 by_cases h2:j=k-1
 · exact⟨k,hl,by rw[k7 hk hl,if_neg bmq,if_pos rfl,<- h2];exact e⟩
 exact⟨j,hj,by rw[k7 hk hl,if_neg h2,if_neg h1];exact e⟩
def Dif(L:List α):Prop:=∀a b,a<b->b<L.length->L.getD a default≠L.getD b default
def aem:L.Nodup->Dif L:=fun h a b hab hb e=>by
 rw[ah _ _ bmq,ah _ _ hb]at e;exact(bji.1 h a b bmq hb hab) e
def b2z (hk:0<k) (hl:k<L.length) (h:Dif L):Dif (swL L k):=fun a b hab hb e=>by
 rw[aca]at hb
 have h':∀a b,a<L.length->b<L.length->a≠b->L.getD a default≠L.getD b default:=fun a b ha hb hne e=>by
  rcases Nat.lt_or_gt_of_ne hne with h1|h1
  · exact h a b h1 hb e
  exact h b a h1 ha e.symm
 rw[k7 hk hl,k7 hk hl]at e;split at e<;>split at e<;>(try split at e)<;>(try split at e)<;>first|omega|exact h' _ _ bmq bmq bmq e
structure a8s (c:α->α->Int) (L0:List α) (i k:Nat) (L:List α):Prop where
 len:L.length=L0.length
 mem:∀z,z∈L<->z∈L0
 dif:Dif L
 ki:k<=i
 il:i<L0.length
 ord:∀a b,a<b->b<=i->a≠k->b≠k->c (L.getD a default) (L.getD b default)<0
 low:∀b,k<b->b<=i->c (L.getD k default) (L.getD b default)<0
structure sy (c:α->α->Int) (L0:List α) (i:Nat) (L:List α):Prop where
 len:L.length=L0.length
 mem:∀z,z∈L<->z∈L0
 dif:Dif L
 ile:i<=L0.length
 ord:∀a b,a<b->b<i->c (L.getD a default) (L.getD b default)<0
variable {L0:List α}
def sy.start(h:L0.Nodup):sy c L0 0 L0:=⟨rfl,fun _=>Iff.rfl,aem h,bio _,fun a b _ hb=>absurd hb (bip b)⟩
def sy.into (h:sy c L0 i L) (hi:i<L.length):a8s c L0 i i L :=
 ⟨h.len,h.mem,h.dif,bil _,by rw[<- h.len];exact hi,fun a b h1 h2 h3 h4=>h.ord a b h1 bmq,fun b h1 h2=>by omega⟩
def a8s.step(hc:Tot c)(h:a8s c L0 i k L)(hk:0<k)(hlt:c (L.getD k default) (L.getD (k-1) default)<0):a8s c L0 i (k-1) (swL L k):=by
 have hl:k<L.length:=by rw[h.len];have:=h.ki;have:=h.il;omega
 refine⟨aca.trans h.len,fun z=>(b3n hk hl).trans (h.mem z),b2z hk hl h.dif,by have:=h.ki;omega,h.il,fun a b h1 h2 h3 h4=>?_,fun b h1 h2=>?_⟩
 · rw [k7 hk hl,k7 hk hl,if_neg h3,if_neg h4]
   by_cases ea:a=k
   · rw [if_pos ea,if_neg bmq]
     exact h.ord (k-1) b bmq h2 bmq bmq
   rw[if_neg ea];by_cases eb:b=k
   · rw [if_pos eb]
     exact h.ord a (k-1) bmq bmq ea bmq
   rw[if_neg eb];exact h.ord a b h1 h2 ea eb
 rw[k7 hk hl,k7 hk hl,if_pos rfl,if_neg bmq];by_cases eb:b=k
 · rw [if_pos eb]
   exact hlt
 rw[if_neg eb];exact h.low b bmq h2
def a8s.done(hc:Tot c)(h:a8s c L0 i k L)(hx:k=0\/¬c (L.getD k default) (L.getD (k-1) default)<0):sy c L0 (i+1) L:=by
 refine⟨h.len,h.mem,h.dif,h.il,fun a b h1 h2=>?_⟩;have hki:=h.ki;have hil:=h.il;have hlen:=h.len;by_cases ea:a=k
 · subst ea
   exact h.low b h1 bmq
 by_cases eb:b=k
 · subst eb
   have hb0:0<b:=by omega
   have hno:¬c (L.getD b default) (L.getD (b-1) default)<0:=by
    rcases hx with hx|hx
    · omega
    exact hx
   have hne:L.getD (b-1) default≠L.getD b default:=h.dif (b-1) b bmq bmq
   have h3:c (L.getD (b-1) default) (L.getD b default)<0:=by
    rcases hc.tri hne with h4|h4
    · exact h4
    exact absurd h4 hno
   by_cases e2:a=b-1
   · rw[e2];exact h3
   exact hc.tr _ _ _ (h.ord a (b-1) bmq bmq ea bmq) h3
 exact h.ord a b h1 bmq ea eb
def sy.fin (h:sy c L0 i L) (hi:¬i<L.length):Asc c L:=by
 refine bji.2 fun a b ha hb hab=>?_;have:=h.ord a b hab bmq;rw[ah _ _ ha,ah _ _ hb]at this;exact this
end
def mkR(L:List (List Val)):List Row:=L.map fun w=>⟨0,w⟩
def idR(L:List (List Val))(i:Nat):List Row:=(List.range L.length).map fun(j:Nat)=>⟨if j<i then(j:Int)+1 else 0,L.getD j default⟩
end
section
def cmN(a b:Int):Int:=a-b
def ac4:Tot cmN:=⟨fun a b=>by unfold cmN;omega,fun a b=>by unfold cmN;omega,fun a b d=>by unfold cmN;omega⟩
def j1(l:List Int):List Int:=l.mergeSort fun a b=>decide (a<=b)
section
variable {l:List Int}
def a3j:(j1 l).Perm l:=List.mergeSort_perm ..
def a2n:(j1 l).length=l.length:=a3j.length_eq
variable {x:Int}
def aj0:x∈j1 l<->x∈l:=a3j.mem_iff
def aio (h:l.Nodup):(j1 l).Pairwise (·<·):=by
 have h1:(j1 l).Pairwise (fun a b=>decide (a<=b)=true):=List.pairwise_mergeSort (fun a b c hab hbc=>by simp only[decide_eq_true_eq]at *;omega) (fun a b=>by simp only[bjx,decide_eq_true_eq];omega) l;have h2:(j1 l).Nodup:=a3j.nodup_iff.2 h
 exact (List.pairwise_and_iff.2 ⟨h1,h2⟩).imp fun {a b} hab=>by
  obtain⟨h3,h4⟩:=hab;simp only[decide_eq_true_eq]at h3;omega
def ant:∀{l m:List Int},l.Pairwise (·<·)->m.Pairwise (·<·)->(∀z,z∈l<->z∈m)->l=m
 | [],[],_,_,_=>rfl
 | [],b::m,_,_,h=>absurd ((h b).2 (bj6 ..)) List.not_mem_nil
 |a::l,[],_,_,h=>absurd ((h a).1 (bj6 ..)) List.not_mem_nil
 | a :: l,b::m,hl,hm,h=>by
  obtain⟨l1,l2⟩:=bj9.1 hl;obtain⟨m1,m2⟩:=bj9.1 hm
  have e:a=b:=by
   rcases biv.1 ((h a).1 (bj6 ..))with e|ha
   · exact e
   rcases biv.1 ((h b).2 (bj6 ..))with e|hb
   · exact e.symm
   have:=m1 a ha;have:=l1 b hb;omega
  subst e;rw[ant l2 m2 fun z=>?_];constructor
  · intro hz
    rcases biv.1 ((h z).1 (bj0 _ hz))with e|hz2
    · have:=l1 z hz;omega
    exact hz2
  intro hz
  rcases biv.1 ((h z).2 (bj0 _ hz))with e|hz2
  · have:=m1 z hz;omega
  exact hz2
variable {i:Nat}
def avq {L0 L:List Int} (hn:L0.Nodup) (h:sy cmN L0 i L) (hi:¬i<L.length):L=j1 L0 :=
 ant ((sy.fin h hi).imp fun hab=>by unfold cmN at hab;omega) (aio hn) fun z=>(h.mem z).trans aj0.symm
def avx{L0:List Int}(hn:L0.Nodup):sy cmN L0 (min 1 L0.length) L0:=⟨rfl,fun _=>Iff.rfl,aem hn,by omega,fun a b h1 h2=>by omega⟩
structure BsI (l:List Int) (x:Int) (i j:Nat):Prop where
 ij:i<=j
 jn:j<=l.length
 lo:∀k,k<i->l.getD k default<x
 hi:∀k,j<=k->k<l.length->x<=l.getD k default
theorem BsI.up {j h:Nat} (hl:l.Pairwise (·<·)) (b:BsI l x i j) (h1:i<=h) (h2:h<j) (hx:l.getD h default<x):BsI l x (h+1) j:=by
 refine⟨by omega,b.jn,fun k hk=>?_,b.hi⟩;by_cases e:k=h
 · rw[e];exact hx
 have hj:=b.jn;have:=bji.1 hl k h bmq bmq bmq;rw[ah _ _ bmq]at hx ⊢;omega
theorem BsI.down {j h:Nat} (hl:l.Pairwise (·<·)) (b:BsI l x i j) (h1:i<=h) (h2:h<j) (hx:¬l.getD h default<x):BsI l x i h:=by
 refine⟨h1,by have:=b.jn;omega,b.lo,fun k hk hkl=>?_⟩;by_cases e:k=h
 · rw[e];omega
 have:=bji.1 hl h k (by have:=b.jn;omega) hkl bmq;have hj:=b.jn;rw[ah _ _ bmq]at hx ⊢;omega
theorem BsI.found {j:Nat} (hl:l.Pairwise (·<·)) (b:BsI l x i j) (he:¬i<j):(x∈l)<->(i<l.length/\l.getD i default=x):=by
 have h1:=b.ij;constructor
 · intro hx
   obtain⟨k,hk,rfl⟩:=bj7 hx
   have e:k=i:=by
    rcases blb k i with h|h|h
    · have:=b.lo k h
      rw[ah _ _ hk]at this;omega
    · exact h
    have h2:=b.hi i bmq bmq;have h3:=bji.1 hl i k bmq hk h;rw[ah _ _ bmq]at h2;omega
   subst e;exact⟨hk,ah _ _ hk⟩
 rintro⟨h,rfl⟩;rw[ah _ _ h];exact bin _
def ak5(l:List Int)(x:Int):Nat:=(l.filter fun a=>decide (a<x)).length
def abm:∀{l:List Int} {x:Int} {i:Nat},i<=l.length->(∀k,k<i->l.getD k default<x)->(∀k,i<=k->k<l.length->x<=l.getD k default)->ak5 l x=i
 | [],x,i,h,_,_=>by simp at h;subst h;rfl
 | a::l,x,0,_,_,h2=>by
  have h0:x<=a:=h2 0 (bil _) bmu;have ih:=abm (l:=l) (x:=x) (i:=0) (bio _) (fun k hk=>absurd hk (bip k)) (fun k _ hk=>h2 (k+1) bmq (by simpa using hk));unfold ak5 at ih ⊢;rw[List.filter_cons_of_neg (by simpa using h0)];exact ih
 | a::l,x,i+1,h,h1,h2=>by
  have h0:a<x:=h1 0 bmq;have ih:=abm (l:=l) (x:=x) (i:=i) (by simpa using h) (fun k hk=>h1 (k+1) bmq) (fun k hk hkl=>h2 (k+1) bmq (by simpa using hkl));unfold ak5 at ih ⊢;rw[List.filter_cons_of_pos (by simpa using h0),bjv,ih]
theorem BsI.low {j:Nat} (b:BsI l x i j) (he:¬i<j):ak5 l x=i :=
 abm (by have:=b.ij;have:=b.jn;omega) b.lo fun k hk hkl=>b.hi k (by have:=b.ij;omega) hkl
def rtN(s r:Nat):Nat:=s/Nat.gcd s r
def rtD(s r:Nat):Nat:=r/Nat.gcd s r
def bbi{s r:Nat}(hr:0<r):rtN s r=0<->s=0:=by
 have hg:0<Nat.gcd s r:=bm7 _ hr;unfold rtN;constructor
 · intro h
   have h1:=bmf (Nat.gcd_dvd_left s r);rw[h,Nat.zero_mul]at h1;exact h1.symm
 intro h;rw[h,Nat.zero_div]
def bc3 {a b r:Nat} (hr:0<r) (h:a<=b):rtN a r*rtD b r<=rtN b r*rtD a r:=by
 have h1:=bmf (Nat.gcd_dvd_left a r);have h2:=bmf (Nat.gcd_dvd_right a r);have h3:=bmf (Nat.gcd_dvd_left b r);have h4:=bmf (Nat.gcd_dvd_right b r);have ga:0<Nat.gcd a r:=bm7 _ hr;have gb:0<Nat.gcd b r:=bm7 _ hr;unfold rtN rtD;refine Nat.le_of_mul_le_mul_right (?_:_*(Nat.gcd a r*Nat.gcd b r)<=_*(Nat.gcd a r*Nat.gcd b r)) (Nat.mul_pos ga gb)
 calc a/Nat.gcd a r*(r/Nat.gcd b r)*(Nat.gcd a r*Nat.gcd b r)
  = (a/Nat.gcd a r*Nat.gcd a r)*(r/Nat.gcd b r*Nat.gcd b r):=by ac_rfl
  _=a*r:=by rw[h1,h4]
  _<=b*r:=biy _ h
  _=(b/Nat.gcd b r*Nat.gcd b r)*(r/Nat.gcd a r*Nat.gcd a r):=by rw[h3,h2]
  _=b/Nat.gcd b r*(r/Nat.gcd a r)*(Nat.gcd a r*Nat.gcd b r):=by ac_rfl
def ass{s r:Nat}:rtN s r<=s:=bmg ..
def asc{s r:Nat}:rtD s r<=r:=bmg ..
def b0a{a y b:Nat}(hy:0<y)(hb:b<2):(2*a+b)/y=(if 2*(a%y)+b<y then 2*(a/y)else 2*(a/y)+1)/\(2*a+b)%y=(if 2*(a%y)+b<y then 2*(a%y)+b else 2*(a%y)+b-y):=by
 have h1:=Nat.div_add_mod a y;have h2:=bl9 a hy
 have e:2*a+b=2*(a%y)+b+y*(2*(a/y)):=by
  have:y*(2*(a/y))=2*(y*(a/y)):=by ac_rfl
  omega
 rw[e,Nat.add_mul_div_left _ _ hy,Nat.add_mul_mod_self_left];split
 · rename_i h
   rw[bm2 h,blg h];exact⟨by omega,rfl⟩
 rename_i h;have h3:(2*(a%y)+b)/y=1:=Nat.div_eq_of_lt_le bmq bmq
 have h4:(2*(a%y)+b)%y=2*(a%y)+b-y:=by
  rw[Nat.mod_eq_sub_mod bmq,blg bmq]
 exact⟨by omega,h4⟩
end
end
section
def gsT(g:List (List Nat))(j:Nat):Nat:=((g.take j).map List.length).sum
def gqT(g:List (List Nat))(j:Nat):Nat:=((g.take j).map fun p=>p.length*p.length).sum
section
variable {g:List (List Nat)}{j:Nat}
def ay1 (h:j<g.length):gsT g (j+1)=gsT g j+(g.getD j default).length:=by
 unfold gsT;rw[bkc h,bju,List.sum_append,ah _ _ h];simp
def aun (h:j<g.length):gqT g (j+1)=gqT g j+(g.getD j default).length*(g.getD j default).length:=by
 unfold gqT;rw[bkc h,bju,List.sum_append,ah _ _ h];simp
def b0i:gsT g g.length=gsz g:=by unfold gsT gsz;rw[biz]
def a6o:gqT g g.length=gsq g:=by unfold gqT gsq;rw[biz]
def at8:gsT g j<=gsz g:=by
 have:gsz g=gsT g j+gsz (g.drop j):=by
  unfold gsT gsz;rw[<- List.sum_append,<- bju,List.take_append_drop]
 omega
def au0:gqT g j<=gsq g:=by
 have:gsq g=gqT g j+gsq (g.drop j):=by
  unfold gqT gsq;rw[<- List.sum_append,<- bju,List.take_append_drop]
 omega
def a5s (h:j<g.length):(g.getD j default).length<=gsz g:=by
 unfold gsz;rw[ah _ _ h];exact ab9 (bj3.2 ⟨_,bin h,rfl⟩)
def SmG(l:List (List (List Nat))):Prop:=l.length<=1000/\∀g∈l,gsz g<=1000/\g.length<=1000/\∀p∈g,∀i∈p,i<1000
variable {l:List (List (List Nat))}
theorem SmG.at (h:SmG l) {k:Nat} (hk:k<l.length):gsz (l.getD k default)<=1000/\(l.getD k default).length<=1000/\∀p∈l.getD k default,∀i∈p,i<1000:=by
 rw[ah _ _ hk];exact h.2 _ (bin hk)
def b55 {m:Int} (h:gsz g<=1000):msr m g<=1000000:=by
 have h1:gsz g*gsz g<=1000*1000:=bmo h h;have h2:((gsz g*gsz g:Nat):Int)<=1000000:=by omega
 rw[bks]at h2;unfold msr;split
 · omega
 split
 · split<;>omega
 omega
def aar {m:Int} (h:SmG l):∀{i:Nat},i<=l.length->msT m l i<=1000000*i
 |0,_=>by rw[a9g];omega
 | i+1,hi=>by
  have h1:msT m l i<=1000000*i:=aar h bmq;have h2:=b55 (m:=m) (h.at (show i<l.length by omega)).1;rw[o3 bmq];omega
end
variable {t:Tbl}{d:Fd}
def b0q (hT:TOk t) {s:AS} {c:List Nat} (hc:c∈(a7 t s).cls):c.length<=t.rows.length:=by
 have:=(arf hc).length_le_of_subset (l₂:=List.range t.rows.length) fun i hi=>bje.2 (o6 hc hi);rwa [blc]at this
def b1u {s:AS}:(a7 t s).cls.length<=t.rows.length:=by
 have h1:(a7 t s).cls.length<=((br (gm t s t.rows.length) (gm t s t.rows.length).length).map (·.2)).length:=bk9 _ _;rw[bjf]at h1;have h2:=a1l (ks:=gm t s t.rows.length) (i:=(gm t s t.rows.length).length);have h3:(gm t s t.rows.length).length=t.rows.length:=jy;omega
def a9c:(fj t d).length=(a7 t d.lhs).cls.length:=by simp[fj,apx]
def alo{l:List Int}{c:List Nat}:(pgs l c).length<=c.length:=by
 rw[<- akf (l:=l) (c:=c)]
 have:∀g:List (List Nat),(∀p∈g,p≠[])->g.length<=gsz g:=fun g=>by
  induction g with
  |nil=>intro _;exact bil _
  | cons p g ih =>
   intro h;have h1:=bm8.2 (h p (bj6 ..));have h2:=ih fun x hx=>h x (bj0 _ hx);show g.length+1<=p.length+gsz g;omega
 exact this _ fun p hp=>aae hp
def acv (hT:TOk t):SmG (fj t d):=by
 have hr:=hT.nr;refine⟨by rw[a9c];have:=b1u (t:=t) (s:=d.lhs);omega,fun g hg=>?_⟩;obtain⟨c,hc,rfl⟩:=bj3.1 hg;have hl:=b0q hT hc;refine⟨by rw[akf];omega,bj2 alo bmq,fun p hp i hi=>?_⟩;obtain⟨x,hx,rfl⟩:=pf hp;have:=o6 hc (bix.1 hi).1;omega
def b8h (h:t.rows.length=0):vc t d=true:=by
 rw[a5m];intro i j hi;omega
def alN(t:Tbl)(m:Int):Nat:=if m=1 then t.rows.length*t.rows.length else t.rows.length
def j0(t:Tbl)(d:Fd)(m:Int):Int:=if t.rows.length=0 then 0 else(rtN (jd t d m).toNat (alN t m):Int)
def jb(t:Tbl)(m:Int)(d:Fd):Int:=if t.rows.length=0 then 1 else(rtD (jd t d m).toNat (alN t m):Int)
def abt {m:Int} (h:t.rows.length≠0):0<alN t m:=by
 unfold alN;split
 · exact Nat.mul_pos bmq bmq
 omega
def bc7(hT:TOk t)(he:EOk t){m:Int}:j0 t d m=0<->vc t d=true:=by
 unfold j0;split
 · rename_i h
   simp[b8h h]
 rename_i h;rw[<- b71 hT he (m:=m)];have h1:=a5q (t:=t) (d:=d) (m:=m);have h2:=bbi (s:=(jd t d m).toNat) (abt (m:=m) h);omega
def b6y:j0 t d 3*jb t 2 d<=j0 t d 2*jb t 3 d:=by
 unfold j0 jb;split
 · omega
 rename_i h;have h1:=b0s (t:=t) (d:=d);have h2:alN t 3=t.rows.length:=rfl;have h3:alN t 2=t.rows.length:=rfl;rw[h2,h3];have:=bc3 (a:=(jd t d 3).toNat) (b:=(jd t d 2).toNat) (r:=t.rows.length) bmq bmq
 exact_mod_cast this
end
section
section
variable {κ:Type}[DecidableEq κ][Inhabited κ]
abbrev hdL(x:κ×List Nat):Nat:=x.2.getD 0 default
def at9 {l:List Nat} {i:Nat} (h:l≠[]):(l++[i]).getD 0 default=l.getD 0 default:=by
 cases l with
 |nil=>exact absurd rfl h
 |cons a l=>rfl
def ab4{k:κ}{i:Nat}:∀{g:List (κ×List Nat)},g.Pairwise (fun x y=>x.1≠y.1)->g.Pairwise (fun x y=>hdL x<hdL y)->(∀x∈g,x.2≠[])->(∀x∈g,hdL x<i)->(ig g k i).Pairwise fun x y=>hdL x<hdL y
 | [],_,_,_,_=>by simp[ig,ci]
 | x :: g,hd,hp,hn,hl=>by
  obtain⟨d1,d2⟩:=bj9.1 hd;obtain⟨p1,p2⟩:=bj9.1 hp;rw[yl];split
  · refine bj9.2 ⟨fun y hy=>?_,p2⟩
    show(x.2++[i]).getD 0 default<_;rw[at9 (hn x (bj6 ..))];exact p1 y hy
  refine bj9.2 ⟨fun y hy=>?_,ab4 d2 p2 (fun z hz=>hn z (bj0 _ hz)) fun z hz=>hl z (bj0 _ hz)⟩
  rcases(lb d2 y).1 hy with⟨h1,_⟩|⟨z,hz,_,rfl⟩|⟨_,rfl⟩
  · exact p1 y h1
  · show hdL x<(z.2++[i]).getD 0 default
    rw[at9 (hn z (bj0 _ hz))];exact p1 z hz
  exact hl x (bj6 ..)
def ahq{key:Nat->κ}:∀{n:Nat},(gr key (List.range n)).Pairwise fun x y=>hdL x<hdL y
 |0=>List.Pairwise.nil
 | n + 1=>by
  have h:=m8 key (List.range n)
  have e:gr key (List.range (n+1))=ig (gr key (List.range n)) (key n) n:=by
   unfold gr;rw[bjj,bj8];rfl
  rw[e];refine ab4 h.nd ahq (fun x hx=>(h.fl x hx).2) fun x hx=>?_;have hm:=aol (h.fl x hx).2
  have hs:∀a∈x.2,a<n:=fun a ha=>by
   rw[(h.fl x hx).1]at ha;exact bje.1 (bix.1 ha).1
  exact hs _ hm
section
variable {ks:List κ}
def apd:(cz ks).Pairwise fun x y=>x.getD 0 default<y.getD 0 default:=by
 refine List.Pairwise.filter _ (blf.2 ?_);exact ahq (key:=fun i=>ks.getD i default) (n:=ks.length)
def ay8 {c:List Nat} (h:c∈cz ks):c.Pairwise (·<·):=by
 obtain⟨k,hk,_⟩:=gv.1 h;rw[hk];exact List.Pairwise.filter _ bmi
def b3l {c:List Nat} (h:c∈cz ks) {i:Nat} (hi:i∈c):i<ks.length:=by
 obtain⟨k,hk,_⟩:=gv.1 h;rw[hk]at hi;exact bje.1 (bix.1 hi).1
def ayd {a b i:Nat} (ha:a<(cz ks).length) (hb:b<(cz ks).length) (h1:i∈(cz ks)[a]) (h2:i∈(cz ks)[b]):a=b:=by
 obtain⟨k1,g1,_⟩:=gv.1 (bin ha);obtain⟨k2,g2,_⟩:=gv.1 (bin hb)
 have e:(cz ks)[a]=(cz ks)[b]:=by
  have m1:=h1;have m2:=h2;rw[g1]at m1;rw[g2]at m2;have q1:=(bix.1 m1).2;have q2:=(bix.1 m2).2;simp only[decide_eq_true_eq]at q1 q2;rw[g1,g2,<- q1,<- q2]
 exact(bm6 (adp (ks:=ks))).1 e
def b4y(hn:ks.length<=1000):f7 ⟨ks.length,cz ks⟩=true:=by
 unfold f7;simp only[biw,decide_eq_true_eq,bjr,bje];refine⟨⟨by omega,by omega⟩,fun k hk=>?_⟩;have hc:=bin hk;have e:(⟨ks.length,cz ks⟩:Prt).cls.getD k default=(cz ks)[k]:=ah _ _ hk;have h2:2<=(cz ks)[k].length:=by obtain⟨_,_,h⟩:=gv.1 hc;exact h
 unfold a86;rw[e];simp only[biw,bjq,decide_eq_false_iff_not,decide_eq_true_eq,bjr,bje];refine⟨⟨by omega, ?_⟩,fun j hj=>?_⟩
 · unfold a8y
   split
   · omega
   have hk1:k-1<(cz ks).length:=by omega
   have:=bji.1 (apd (ks:=ks)) (k-1) k hk1 hk bmq;rw[show(⟨ks.length,cz ks⟩:Prt).cls.getD (k-1) default=(cz ks)[k-1] from ah _ _ hk1];omega
 have hasc:=bji.1 (ay8 hc);have hjm:=bin hj;have hlt:=b3l hc hjm;unfold av8;rw[e];simp only[biw,bjq,decide_eq_false_iff_not,decide_eq_true_eq];rw[ah _ _ hj];refine⟨⟨?_,by show _<(ks.length:Int);omega⟩,fun hm=>?_⟩
 · unfold acu
   split
   · omega
   have:=hasc (j-1) j bmq hj bmq;rw[ah _ _ bmq];omega
 rcases bj1.1 hm with hm|hm
 · obtain ⟨d,hd,hx⟩:=List.mem_flatten.1 hm
   obtain⟨q,hq,rfl⟩:=bj7 hd;rw[bjc]at hq;have hq2:q<(cz ks).length:=by omega
   rw[List.getElem_take]at hx;have:=ayd hq2 hk hx hjm;omega
 obtain⟨q,hq,hx⟩:=bj7 hm;rw[bjc]at hq;rw[List.getElem_take]at hx;have:=hasc q j bmq hj bmq;omega
end
end
def a6a {t:Tbl} (hT:TOk t) {s:AS}:f7 (a7 t s)=true:=by
 have h:=b4y (ks:=gm t s t.rows.length) (by rw[jy];exact hT.nr);rw[jy]at h;exact h
end
section
def bei {n:Int} (h0:0<=n) (h:n<18446744073709551616):(BitVec.ofInt 64 n).toNat=n.toNat:=by
 rw[BitVec.toNat_ofInt];have e:n%((2^64:Nat):Int)=n:=Int.emod_eq_of_lt h0 (by simpa using h);rw[e]
def b4m {m:Nat} (h:m<18446744073709551616):IntKind.wrap .u64 (m:Int)=(m:Int):=by
 rw[w64];omega
def shN(a i:Nat):Nat:=a/2^i
def axk {a i:Nat}:shN a i=2*shN a (i+1)+a/2^i%2:=by
 unfold shN;rw[Nat.pow_succ,<- Nat.div_div_eq_div_mul];omega
def azb{a:Nat}:shN a 0=a:=by simp[shN]
def b4s{a i:Nat}(h:a<2^i):shN a i=0:=bm2 h
end
section
def yn(l:List Fd)(z:Int):Option PV:=match l.find? (fun f=>decide (asI f.lhs=z)) with|some f=>some (asC (mgR l f.lhs))|none=>none
def a2i (l:List Fd):MK->Option PV
 | .i .u32 z=>yn l z
 |_=>none
def wfA (s:AS):(Lit.int .u32 (asI s)).wf=true:=by
 have h1:=a08 s;have h2:=oi s;have e1:IntKind.min .u32=0:=by decide
 have e2:IntKind.max .u32=4294967295:=by decide
 simp only[Lit.wf,e1,e2,biw,decide_eq_true_eq];omega
section
variable {l:List Fd}
def awh {s:AS} (h:∀f∈l,¬f.lhs=s):mgR l s=0:=by
 unfold mgR;rw[List.filter_eq_nil_iff.2 fun f hf=>by simpa using h f hf];rfl
def aa5 {s:AS} {f:Fd} (h:l.find? (fun f=>decide (asI f.lhs=asI s))=some f):f.lhs=s:=by
 have:=List.find?_some h;exact dq.1 (of_decide_eq_true this)
def abk(l:List Fd)(s:AS):yk (a2i l) (.i .u32 (asI s)) (.int .u32 0)=asC (mgR l s):=by
 show(match yn l (asI s) with|some y=>y|none=>k6 (.int .u32 0))=_;unfold yn
 cases h:l.find? (fun f=>decide (asI f.lhs=asI s)) with
 | some f =>
  have:=aa5 h;subst this;rfl
 | none =>
  rw [awh fun f hf e=>by
   have:=List.find?_eq_none.1 h f hf;rw[e]at this
   exact this (decide_eq_true rfl)]
  rfl
def asd (m:MK):CoM none (a2i [] m):=by
 cases m with
 |i q z=>cases q<;>exact CoM.refl _
 |s b=>exact CoM.refl _
def aqw{i:Nat}(hi:i<l.length)(z:Int):(if z=asI (l.getD i default).lhs then some (PV.raw (.int .u32 (d6 .or .u32 (asI (mgR (l.take i) (l.getD i default).lhs)) (asI (l.getD i default).rhs))))else yn (l.take i) z)=yn (l.take (i+1)) z:=by
 unfold yn;by_cases hz:z=asI (l.getD i default).lhs
 · subst hz
   rw[if_pos rfl,bee hi rfl]
   cases h:(l.take (i+1)).find? (fun f=>decide (asI f.lhs=asI (l.getD i default).lhs)) with
   | some f =>
    have:=aa5 h;rw[<- this]
   | none =>
    have:=List.find?_eq_none.1 h (l.getD i default) (by rw[ar hi];simp);exact absurd (decide_eq_true rfl) this
 rw[if_neg hz,ar hi,List.find?_append]
 have hx:[l.getD i default].find? (fun f=>decide (asI f.lhs=z))=none:=by
  rw[List.find?_cons,decide_eq_false (fun e=>hz e.symm)];rfl
 rw[hx,Option.or_none]
 cases h:(l.take i).find? (fun f=>decide (asI f.lhs=z)) with
 |none=>rfl
 | some f =>
  have hf0:=List.find?_some h;have hf:asI f.lhs=z:=of_decide_eq_true hf0;dsimp only;rw[<- ar hi,bbx hi (fun e=>hz (by rw[e];exact hf.symm))]
def as6{i:Nat}(hi:i<l.length)(m:MK):CoM (pi (a2i (l.take i)) (.i .u32 (asI (l.getD i default).lhs)) (.raw (.int .u32 (d6 .or .u32 (asI (mgR (l.take i) (l.getD i default).lhs)) (asI (l.getD i default).rhs)))) m) (a2i (l.take (i+1)) m):=by
 refine CoM.of_eq ?_;unfold pi
 cases m with
 |s b=>rfl
 | i q z =>
  by_cases hq:q=.u32
  · subst hq
    show(bif (decide True&&decide (z=_))then _ else yn _ z)=yn _ z;rw[<- aqw hi z];by_cases hz:z=asI (l.getD i default).lhs
    · rw[if_pos hz,decide_eq_true hz];rfl
    rw[if_neg hz,decide_eq_false hz];rfl
  have h1:MK.same (.i q z) (.i .u32 (asI (l.getD i default).lhs))=false:=by
   show(decide _&&decide _)=false;rw[decide_eq_false hq,Bool.false_and]
  rw[h1];cases q<;>first|rfl|exact absurd rfl hq
end
end
section
def cnI(l:List Int)(c:List Nat)(j:Nat)(z:Int):Option PV:=if kj l c j z=0 then none else some (.raw (.int .i64 (kj l c j z:Int)))
def cnF (l:List Int) (c:List Nat) (j:Nat):MK->Option PV
 | .i .i64 z=>cnI l c j z
 |_=>none
def aku(l:List Int)(c:List Nat)(j:Nat)(z:Int):yk (cnF l c j) (.i .i64 z) (.int .i64 0)=.raw (.int .i64 (kj l c j z:Int)):=by
 show(match cnI l c j z with|some y=>y|none=>k6 (.int .i64 0))=_;unfold cnI;split
 · rename_i y h
   split at h
   · cases h
   cases h;rfl
 rename_i h;split at h
 · rename_i h0;rw[h0];rfl
 cases h
section
variable {c:List Nat}{l:List Int}
def b8s{z:Int}:kj l c 0 z=0:=rfl
def b04 (m:MK):CoM none (cnF l c 0 m):=by
 cases m with
 | i q z =>
  cases q<;>first|exact CoM.refl _|(show CoM none (cnI l c 0 z);unfold cnI;rw[if_pos b8s];exact CoM.refl _)
 |s b=>exact CoM.refl _
variable {j:Nat}
def b0c(hj:j<c.length)(z:Int):(if z=l.getD (c.getD j default) default then some (PV.raw (.int .i64 ((kj l c j (l.getD (c.getD j default) default):Int)+1)))else cnI l c j z)=cnI l c (j+1) z:=by
 unfold cnI;by_cases hz:z=l.getD (c.getD j default) default
 · subst hz
   rw[if_pos rfl,a5c hj,if_pos rfl,if_neg bmq];rfl
 have e:kj l c (j+1) z=kj l c j z:=by rw[a5c hj,if_neg (fun e=>hz e.symm)]
 rw[if_neg hz,e]
def b2n(hj:j<c.length){v:Int}(hv:v=(kj l c j (l.getD (c.getD j default) default):Int)+1)(m:MK):CoM (pi (cnF l c j) (.i .i64 (l.getD (c.getD j default) default)) (.raw (.int .i64 v)) m) (cnF l c (j+1) m):=by
 subst hv;refine CoM.of_eq ?_;unfold pi
 cases m with
 |s b=>rfl
 | i q z =>
  by_cases hq:q=.i64
  · subst hq
    show(bif (decide True&&decide (z=_))then _ else cnI l c j z)=cnI l c (j+1) z;rw[<- b0c hj z];by_cases hz:z=l.getD (c.getD j default) default
    · rw[if_pos hz,decide_eq_true hz];rfl
    rw[if_neg hz,decide_eq_false hz];rfl
  have h1:MK.same (.i q z) (.i .i64 (l.getD (c.getD j default) default))=false:=by
   show(decide _&&decide _)=false;rw[decide_eq_false hq,Bool.false_and]
  rw[h1];cases q<;>first|rfl|exact absurd rfl hq
def aix{z:Int}:kj l c j z<=j:=bj2 (bk9 _ _) (bkx _ _)
def a99:∀{j:Nat},tg l c j<=j
 |0=>bil _
 | j+1=>by
  have h1:tg l c j<=j:=a99;have h2:=aix (l:=l) (c:=c) (j:=j+1) (z:=l.getD (c.getD j default) default);rw[yu];omega
def pgT(l:List Int)(c:List Nat)(j:Nat):List (Int×List Nat):=gr (fun i=>l.getD i default) (c.take j)
def a7t (h:j<c.length):pgT l c (j+1)=ig (pgT l c j) (l.getD (c.getD j default) default) (c.getD j default):=by
 unfold pgT gr;rw[bkc h,bj8,ah _ _ h];rfl
def b0y:∀x∈pgT l c j,x.2.length<=j:=fun x hx=>by
 rw[((m8 _ (c.take j)).fl x hx).1];exact bj2 (bk9 _ _) (bkx _ _)
def b31:(pgT l c j).length<=j:=by
 have h:=alo (l:=l) (c:=c.take j);unfold pgs at h;rw[bjf]at h;exact bj2 h (bkx _ _)
def bb8:a82 (pgT l c j):=fun p q hp hq e=>by
 have h:=(m8 (fun i=>l.getD i default) (c.take j)).nd
 rcases blb p q with h1|h1|h1
 · exact absurd (by rw[ah _ _ hp,ah _ _ hq]at e;exact e) (bji.1 h p q hp hq h1)
 · exact h1
 exact absurd (by rw[ah _ _ hp,ah _ _ hq]at e;exact e.symm) (bji.1 h q p hq hp h1)
def b1d {r:Nat} {k:Int} (hr:r<(bv (pgT l c j) k).length):((bv (pgT l c j) k).getD r default).2.length<=j:=by
 rw[ah _ _ hr];exact ahx b0y _ (bin hr)
def alv:(pgT l c c.length).map (·.2)=pgs l c:=by unfold pgT pgs;rw[biz]
def aq2 (g:List (List Nat)):Nat->PV
 |0=>ill g
 |_=>.any
abbrev ax2(l:List (List (List Nat))):PV:=psl 1 aq2 l
end
end
section
open Go.Proofs
def ban(l:List (List Nat))(g k:Nat)(caps:Nat->PV)(V:List Nat->Bool)(hg:a6 bnb g)(hV:∀x,aa bnb g (pP (il x)::i7 caps k 0) (ag [pB (V x)])):aa bnb 145 [pP (ill l),pP (.fn g k caps)] (ag [pI (idx V l)]):=by
 refine hpx (nt:=19) Tryz.func145 ?_;refine f4 ?_;refine j4 0 rfl fun hn=>?_;refine w_3 ?_;refine dn (ι:=Unit) kn km (fun _i=>⟨[],[]⟩) (fun _i=>idx V l=-1) ?_ ?_
 ·
  refine w_7 ?_;refine b7 (ι:=Nat) (ka 0 (ka 1 (ka 7 kn))) km (fun i=>⟨[(8,some (vI i))],[]⟩) (fun i=>i<=l.length/\(∀j,j<i->V (l.getD j default)=false)) (fun i=>l.length-i) (0) (⟨bio _,gt⟩) kk ?_;rintro i ⟨hi,hIi⟩;refine w_5 ?_;refine hcd ?_ ?_<;>intro h0
  ·
   refine ic ?_;refine rc rfl rfl rfl rfl rfl rfl hg (hV (l.getD i default)) (CoL.refl _) rfl rfl ?_;refine ce ?_;refine hcb ?_ ?_<;>intro h1
   · refine v_5 ?_;exact⟨cci (vh (i:=i) bmq hIi bmr).symm,trivial⟩
   refine w_5 ?_;refine lpz (i+1) kk ?_;exact⟨by show i+1<=_;omega,f5 hIi bmr⟩
  refine eg ?_;refine⟨(), ?_, ?_⟩
  · exact ve fun j hj=>hIi j bmq
  exact⟨trivial,trivial⟩
 rintro _ hj;refine v_4 ?_;exact⟨cci hj.symm,trivial⟩
def am4:a6 bnb 150:=wgx Tryz.func150
def ayi(l:List (List Nat))(g k:Nat)(caps:Nat->PV)(V:List Nat->Bool)(hg:a6 bnb g)(hV:∀x,aa bnb g (pP (il x)::i7 caps k 0) (ag [pB (V x)])):dv bnb 150 [.one (.ref 900 l.length), .one (.p (.fn g k caps))] [(900, .arr true 1 57 l.length (lf ilC l))] (.v (.one (.p (ill (l.filter fun x=>!V x))))) [] []:=by
 refine hfx (nt:=42) Tryz.func150 ?_;refine f4 ?_;refine afm 900 rfl fun hlen=>?_;refine w_7 ?_;refine qcx anj (ban l g k caps V hg hV) ?_;refine w_8 ?_;refine hcd ?_ ?_<;>intro h0
 · refine w_5 ?_;refine bh 4 rfl rfl rfl ?_;refine hrr ?_;exact⟨_,_,rfl,bms,auw (ahn bmr),trivial⟩
 obtain⟨i0,hi0,hi1,hi2,hi3⟩:=ag1 h0;refine w_9 ?_;refine b7 (ι:=Nat×Nat×List (List Nat)) (ka 0 (ka 1 kn)) km (fun x=>⟨[(5,some (vI x.1)),(6,some (vI x.2.1))],[(900,some (.arr true 1 57 l.length (lf ilC x.2.2)))]⟩) (fun x=>DfI V l x.1 x.2.1 x.2.2) (fun x=>l.length-x.2.1) ((i0,i0+1,l)) (DfI.start hi1 hi2 hi3) ⟨⟨⟨_,rfl,(coi hi0)⟩,⟨_,rfl,(coi (by dsimp only;omega))⟩,trivial⟩,uu⟩ ?_;rintro x hC;have hC0:=hC;obtain⟨hml,hkq,hql,_,_⟩:=hC0;refine w_8 ?_;refine hcd ?_ ?_<;>intro h1
 ·
  refine ic ?_;refine rc rfl rfl rfl rfl rfl rfl hg (hV (x.2.2.getD (x.2.1:Int).toNat default)) (CoL.refl _) rfl rfl ?_;refine w_2 ?_;refine hcv ?_ ?_<;>intro h2
  ·
   have hv:=h2;refine a4m ?_
   first | (refine lpz (x.1+1, x.2.1+1, x.2.2.set x.1 (x.2.2.getD x.2.1 default)) ⟨⟨⟨_, rfl, (coi bmy)⟩, ⟨_, rfl, (coi bmy)⟩, tt⟩, ⟨⟨_, rfl, (qt id hml.symm bmq bmq bmq)⟩, trivial⟩⟩ ?_; exact hC.keep bmq (by simpa using hv))
         |(refine lpz (x.1,x.2.1+1,x.2.2) ⟨⟨⟨_,rfl,(coi bmv)⟩,⟨_,rfl,(coi bmv)⟩,tt⟩,uu⟩ ?_;exact hC.skip bmq (by simpa using hv))
  have hv:=h2;refine w_6 ?_
  first | (refine lpz (x.1+1, x.2.1+1, x.2.2.set x.1 (x.2.2.getD x.2.1 default)) ⟨⟨⟨_, rfl, (coi bmy)⟩, ⟨_, rfl, (coi bmy)⟩, tt⟩, ⟨⟨_, rfl, (qt id hml.symm bmq bmq bmq)⟩, trivial⟩⟩ ?_; exact hC.keep bmq (by simpa using hv))
        |(refine lpz (x.1,x.2.1+1,x.2.2) ⟨⟨⟨_,rfl,(coi bmv)⟩,⟨_,rfl,(coi bmv)⟩,tt⟩,uu⟩ ?_;exact hC.skip bmq (by simpa using hv))
 have hq:=h1;refine w_6 ?_;refine r9 0 true ?_;refine w_5 ?_;refine ap7 rfl rfl rfl rfl rfl ?_;refine w_2 ?_;refine hrr ?_;exact⟨_,_,rfl,bms,ayb hC bmq (by simp[c8]),trivial⟩
def b30:a6 bnb 151:=wgx Tryz.func151
def b8n (l:List Nat):aa bnb 151 [pP (il l)] (ag [pB (decide (l.length<2))]):=by
 refine hpx (nt:=6) Tryz.func151 ?_;refine w_5 ?_;refine j4 0 rfl fun hn=>?_;refine v_6 ?_;exact⟨ccb (decide_eq_decide.2 bmq),trivial⟩
def b5i:a6 bnb 92:=wgx Tryz.func92
def bbb(ks:List ByteArray)(hks:ks.length<=1000)(hsz:∀i,i<ks.length->(ks.getD i default).size<=maxLen):aa bnb 92 [pP (a3t ks)] (ag [pP (ill (cz ks))]):=by
 refine hpx (nt:=46) Tryz.func92 ?_;refine w_5 ?_;refine cr [] [0,1] rfl ?_;refine wu (k:=0) (L:=[1]) 901 rfl (fun bg=>?_);refine ct (E:=cq) (L1:=[1]) (L2:=[]) ca ?_;refine w_2 ?_;refine f0 ?_;refine gz ?_;refine a4i 4 900 57 3 1 (fun _=>0) (fun _ _ _=>.any) bmx rfl rfl ?_;refine b7 (ι:=Nat×Array MapEntry×Nat) (ka 3 (ka 10 (ka 11 kn))) km (fun x=>⟨[(4,some (.v (.one (.ref 900 (br ks x.1).length)))),(12,some (vI x.1))],[(900,some (grN 57 3 (br ks x.1))),(901,some (mpO bg x.2.1 x.2.2))]⟩) (fun x=>x.1<=ks.length/\AtI bnb 9 Value.string x.2.1 x.2.2 (br ks x.1)) (fun x=>ks.length-x.1) ((0,#[],0)) (⟨bio _,AtI.nil⟩) ⟨tt,⟨⟨_,rfl,(ajq rfl)⟩,uu⟩⟩ ?_;rintro⟨i,es,clock⟩ ⟨hi,hA⟩;dsimp only at hi hA ⊢;have hgl:=a1l (ks:=ks) (i:=i);refine w_5 ?_;refine hcd ?_ ?_<;>intro h0
 ·
  refine gz ?_;refine cr [] [0,1,2,3,4,5,6,7] rfl ?_;refine ct (E:=cq) (L1:=[0,1]) (L2:=[2,3,4,5,6,7]) ca ?_;refine w_3 ?_;refine a1o (mid:=901) (k:=2) (L:=[3,4,5,6,7]) rfl Tryz.underlying234 (Go.Maps.string_keyed Tryz.underlying9) Tryz.zeroValue3 rfl hA.mx (Go.WideMaps.keyOf_string_mk Tryz.underlying9 (by show(ks.getD i default).size<=maxLen;exact hsz i bmq)) rfl (fun ok v hy hn1=>?_)
  obtain ⟨nv,rfl⟩:∃nv:Int,v=.int .i64 nv:=by
   cases ok with
   | true =>
    obtain⟨e,he,hk,rfl⟩:=hy rfl;obtain⟨r,_,_,h3⟩:=hA.to e he;exact⟨_,h3⟩
   |false=>exact⟨0,(hn1 rfl).1⟩
  refine ct (E:=cq) (L1:=[3,4,5,6,7]) (L2:=[]) ca ?_;refine w_6 ?_;refine f0 ?_;refine dn (ι:=Array MapEntry×Nat) (ka 3 (ka 5 (ka 10 (ka 11 (ka 12 kn))))) km (fun y=>⟨[(4,some (.v (.one (.ref 900 (bv (br ks i) (ks.getD i default)).length)))),(7,some (vI (ci (br ks i) (ks.getD i default))))],[(900,some (grN 57 3 (bv (br ks i) (ks.getD i default)))),(901,some (mpO bg y.1 y.2))]⟩) (fun y=>AtJ bnb 9 Value.string (bv (br ks i) (ks.getD i default)) y) ?_ ?_
  ·
   refine ajv ?_;refine w_5 ?_;refine az _ rfl ?_ ?_<;>intro r1
   ·
    have h1:=iu r1;have hok1:ok=false:=by simpa using r1
    subst hok1;obtain⟨hz0,hno⟩:=hn1 rfl;have hab:(ci (br ks i) (ks.getD i default))=(br ks i).length:=hA.absent hno;refine w_7 ?_;refine cr [] [0,1,2,3] rfl ?_;refine ct (E:=cq) (L1:=[0,1,2]) (L2:=[3]) ca ?_;refine w_4 ?_;refine wo (mid:=901) (k:=3) (L:=[]) rfl Tryz.underlying234 (Go.Maps.string_keyed Tryz.underlying9) hA.mx (by have:=hA.size;unfold maxLen;omega) (Go.WideMaps.keyOf_string_mk Tryz.underlying9 (by show(ks.getD i default).size<=maxLen;exact hsz i bmq)) rfl rfl (fun es3 clock3 hX3 hP=>?_);refine f0 ?_;have hA1:AtJ bnb 9 Value.string (bv (br ks i) (ks.getD i default)) (es3,clock3):=hA.put hab hX3 hP;refine cr [0,1] [2,3] rfl ?_;refine ct (E:=cq) ca ?_;refine qy ?_;refine m9 0 ?_;refine ce ?_;refine sd ?_;refine ux (n2:=1) 0 0 904 true 1 3 (lf iC []) bmx rfl bmx rfl (CoP.sl rfl (.inr rfl) (fun h=>h) (fun i j hi _=>absurd hi (bip i))) (.inr rfl) rfl rfl ?_;refine fu ?_;refine ct (E:=cq) (L1:=[2,3]) (L2:=[]) ca ?_;refine r9 1 true ?_;refine w_2 ?_;refine f0 ?_;show HE _ _ _
    first|refine rg 900 904 rfl rfl ?_|skip
    refine fu ?_;exact⟨_,hA1,⟨⟨⟨_,rfl,(by first|(rw[show(bv (br ks i) (ks.getD i default)).length=(br ks i).length+1 by unfold bv;rw[if_neg bmq];simp];exact CoR.refl _)|(rw[show(bv (br ks i) (ks.getD i default)).length=(br ks i).length by unfold bv;rw[if_pos hlt]];exact CoR.refl _))⟩,⟨_,rfl,(by first|(rw[hab];exact CoR.refl _)|exact CoR.refl _)⟩,tt⟩,⟨⟨_,rfl,(by first|exact a1e bmq|exact vz hlt)⟩,uu⟩⟩⟩
   have h1:=iz r1;have hok1:ok=true:=by simpa using r1
   obtain⟨e0,he0,hk0,hv0⟩:=hy hok1;obtain⟨hlt,hv1⟩:=hA.found (fun a b e=>Value.string.inj e) ai3 he0 hk0;have hnv:nv=_:=(Value.int.inj (hv0.trans hv1)).2;have hA1:AtJ bnb 9 Value.string (bv (br ks i) (ks.getD i default)) (es,clock):=hA.keep hlt;obtain rfl:=hnv;refine eu ?_;show HE _ _ _
   first|refine rg 900 904 rfl rfl ?_|skip
   refine fu ?_;exact⟨_,hA1,⟨⟨⟨_,rfl,(by first|(rw[show(bv (br ks i) (ks.getD i default)).length=(br ks i).length+1 by unfold bv;rw[if_neg bmq];simp];exact CoR.refl _)|(rw[show(bv (br ks i) (ks.getD i default)).length=(br ks i).length by unfold bv;rw[if_pos hlt]];exact CoR.refl _))⟩,⟨_,rfl,(by first|(rw[hab];exact CoR.refl _)|exact CoR.refl _)⟩,tt⟩,⟨⟨_,rfl,(by first|exact a1e bmq|exact vz hlt)⟩,uu⟩⟩⟩
  rintro⟨es2,clock2⟩ hA2;dsimp only at hA2 ⊢;have hr1:(ci (br ks i) (ks.getD i default))<(bv (br ks i) (ks.getD i default)).length:=acp;have hrl:=aia hr1;refine a7u 900 (ci (br ks i) (ks.getD i default)) 906 907 rfl hr1 agh (fun hd B hbf=>?_) rfl rfl rfl rfl;refine w_6 ?_;refine rq (out:=Out.mk _ (.v (.one (.ref 906 ((bv (br ks i) (ks.getD i default)).getD (ci (br ks i) (ks.getD i default)) default).2.length)))) rfl rfl rfl (congrArg (fun z=>some (Out.mk _ (HR.v (HC.one z)))) (uk hd 906 (ci (br ks i) (ks.getD i default)) ((bv (br ks i) (ks.getD i default)).getD (ci (br ks i) (ks.getD i default)) default).2.length 0)) rfl ?_;refine qy ?_;refine m9 2 ?_;refine r9 3 true ?_;refine w_3 ?_;refine dw ⟨[(3,some _),(4,some _),(10,some _),(11,some _),(12,some _)],[(900,some _),(901,some _),(906,some _),(907,some _)]⟩ kk ?_;refine a8x 4 900 906 907 908 hbf rfl rfl rfl rfl hr1 (by first|exact uk _ _ _ _ _|exact aib) (fun b _ hne=>by first|exact a02 hne|exact aig hne) ?_;refine dw ⟨[(3,some _),(4,some _),(10,some _),(11,some _),(12,some _)],[(901,some _),(908,some _)]⟩ kk ?_;refine ac2 4 908 900 rfl rfl ?_;refine w_4 ?_;refine lpz (i+1,es2,clock2) ⟨⟨⟨_,rfl,(by rw[show(br ks (i+1)).length=(bv (br ks i) (ks.getD i default)).length by rw[l5,n8,wn]];exact CoR.refl _)⟩,tt⟩,⟨⟨_,rfl,(acw (by rw[l5,n8]) hr1 (bn rfl (CoP.refl _)))⟩,uu⟩⟩ ?_;exact⟨by show i+1<=_;omega,hA2.modify (by rw[l5,n8])⟩
 obtain rfl:i=ks.length:=by omega
 refine w_2 ?_;refine acy 900 rfl ?_;refine w_2 ?_;refine sn rfl rfl rfl rfl rfl rfl am4 ((ayi ((br ks ks.length).map (·.2)) 151 0 (fun _=>.any) (fun l=>decide (l.length<2)) b30 (fun x=>b8n x))) (⟨congrArg (HV.ref 900) (by rw[bjf]),CoP.refl _,trivial⟩) ⟨⟨_,rfl,acn⟩,trivial⟩ rfl rfl ?_;refine v_2 ?_;exact⟨CoC.one (CoP.of_eq (by unfold cz ap5;rfl)),trivial⟩
def ak2:Go.WideMaps.ArrKey bnb 301 3 2:=⟨Tryz.underlying301,by kernel_rfl,by kernel_rfl,by kernel_rfl⟩
def b72:∃m,bnb.types.size=m+1:=⟨340,by kernel_rfl⟩
def k2C (x:Int×Int):Nat->PV
 |0=>.raw (.int .i64 x.1)
 |1=>.raw (.int .i64 x.2)
 |_=>.any
abbrev k2s(l:List (Int×Int)):PV:=psl 2 k2C l
def k2V(x:Int×Int):Value:=.agg #[.int .i64 x.1, .int .i64 x.2]
def b56 (a b:Int×Int) (h:k2V a=k2V b):a=b:=by
 unfold k2V at h;simp only[Value.agg.injEq,Array.mk.injEq,bm9,Value.int.injEq,true_and,and_true]at h;exact Prod.ext h.1 h.2
def b2c:a6 bnb 255:=wgx Tryz.func255
def b75 (l:List Nat):aa bnb 255 [pP (il l)] (ag [pB (decide (l.length<2))]):=by
 refine hpx (nt:=6) Tryz.func255 ?_;refine w_5 ?_;refine j4 0 rfl fun hn=>?_;refine v_6 ?_;exact⟨ccb (decide_eq_decide.2 bmq),trivial⟩
def b3s:a6 bnb 228:=wgx Tryz.func228
def bbq(ks:List (Int×Int))(hks:ks.length<=1000)(hwf:∀i,i<ks.length->(Lit.int .i64 (ks.getD i default).1).wf=true/\(Lit.int .i64 (ks.getD i default).2).wf=true):aa bnb 228 [pP (k2s ks)] (ag [pP (ill (cz ks))]):=by
 refine hpx (nt:=46) Tryz.func228 ?_;refine w_5 ?_;refine cr [] [0,1] rfl ?_;refine wu (k:=0) (L:=[1]) 901 rfl (fun bg=>?_);refine ct (E:=cq) (L1:=[1]) (L2:=[]) ca ?_;refine w_2 ?_;refine f0 ?_;refine gz ?_;refine a4i 4 900 57 3 1 (fun _=>0) (fun _ _ _=>.any) bmx rfl rfl ?_;refine b7 (ι:=Nat×Array MapEntry×Nat) (ka 3 (ka 10 (ka 11 kn))) km (fun x=>⟨[(4,some (.v (.one (.ref 900 (br ks x.1).length)))),(12,some (vI x.1))],[(900,some (grN 57 3 (br ks x.1))),(901,some (mpO bg x.2.1 x.2.2))]⟩) (fun x=>x.1<=ks.length/\AtI bnb 301 k2V x.2.1 x.2.2 (br ks x.1)) (fun x=>ks.length-x.1) ((0,#[],0)) (⟨bio _,AtI.nil⟩) ⟨tt,⟨⟨_,rfl,(ajq rfl)⟩,uu⟩⟩ ?_;rintro⟨i,es,clock⟩ ⟨hi,hA⟩;dsimp only at hi hA ⊢;have hgl:=a1l (ks:=ks) (i:=i);refine w_5 ?_;refine hcd ?_ ?_<;>intro h0
 ·
  refine w_8 ?_;refine m9 0 ?_;refine w_4 ?_;refine cr [] [0,1,2,3,4,5,6,7] rfl ?_;refine ct (E:=cq) (L1:=[0,1]) (L2:=[2,3,4,5,6,7]) ca ?_;refine w_3 ?_;refine a1o (mid:=901) (k:=2) (L:=[3,4,5,6,7]) rfl Tryz.underlying320 (Go.Maps.Keyed.of_law ak2.law) Tryz.zeroValue3 rfl hA.mx (Go.WideMaps.keyOf_pair ak2 Tryz.underlying3 b72 (hwf i bmq).1 (hwf i bmq).2) rfl (fun ok v hy hn1=>?_)
  obtain ⟨nv,rfl⟩:∃nv:Int,v=.int .i64 nv:=by
   cases ok with
   | true =>
    obtain⟨e,he,hk,rfl⟩:=hy rfl;obtain⟨r,_,_,h3⟩:=hA.to e he;exact⟨_,h3⟩
   |false=>exact⟨0,(hn1 rfl).1⟩
  refine ct (E:=cq) (L1:=[3,4,5,6,7]) (L2:=[]) ca ?_;refine w_6 ?_;refine f0 ?_;refine dn (ι:=Array MapEntry×Nat) (ka 3 (ka 5 (ka 10 (ka 11 (ka 12 kn))))) km (fun y=>⟨[(4,some (.v (.one (.ref 900 (bv (br ks i) (ks.getD i default)).length)))),(7,some (vI (ci (br ks i) (ks.getD i default))))],[(900,some (grN 57 3 (bv (br ks i) (ks.getD i default)))),(901,some (mpO bg y.1 y.2))]⟩) (fun y=>AtJ bnb 301 k2V (bv (br ks i) (ks.getD i default)) y) ?_ ?_
  ·
   refine ajv ?_;refine w_5 ?_;refine az _ rfl ?_ ?_<;>intro r1
   ·
    have h1:=iu r1;have hok1:ok=false:=by simpa using r1
    subst hok1;obtain⟨hz0,hno⟩:=hn1 rfl;have hab:(ci (br ks i) (ks.getD i default))=(br ks i).length:=hA.absent hno;refine w_7 ?_;refine cr [] [0,1,2,3] rfl ?_;refine ct (E:=cq) (L1:=[0,1,2]) (L2:=[3]) ca ?_;refine w_4 ?_;refine wo (mid:=901) (k:=3) (L:=[]) rfl Tryz.underlying320 (Go.Maps.Keyed.of_law ak2.law) hA.mx (by have:=hA.size;unfold maxLen;omega) (Go.WideMaps.keyOf_pair ak2 Tryz.underlying3 b72 (hwf i bmq).1 (hwf i bmq).2) rfl rfl (fun es3 clock3 hX3 hP=>?_);refine f0 ?_;have hA1:AtJ bnb 301 k2V (bv (br ks i) (ks.getD i default)) (es3,clock3):=hA.put hab hX3 hP;refine cr [0,1] [2,3] rfl ?_;refine ct (E:=cq) ca ?_;refine qy ?_;refine m9 1 ?_;refine ce ?_;refine sd ?_;refine ux (n2:=1) 1 0 904 true 1 3 (lf iC []) bmx rfl bmx rfl (CoP.sl rfl (.inr rfl) (fun h=>h) (fun i j hi _=>absurd hi (bip i))) (.inr rfl) rfl rfl ?_;refine fu ?_;refine ct (E:=cq) (L1:=[2,3]) (L2:=[]) ca ?_;refine r9 2 true ?_;refine w_2 ?_;refine f0 ?_;show HE _ _ _
    first|refine rg 900 904 rfl rfl ?_|skip
    refine fu ?_;exact⟨_,hA1,⟨⟨⟨_,rfl,(by first|(rw[show(bv (br ks i) (ks.getD i default)).length=(br ks i).length+1 by unfold bv;rw[if_neg bmq];simp];exact CoR.refl _)|(rw[show(bv (br ks i) (ks.getD i default)).length=(br ks i).length by unfold bv;rw[if_pos hlt]];exact CoR.refl _))⟩,⟨_,rfl,(by first|(rw[hab];exact CoR.refl _)|exact CoR.refl _)⟩,tt⟩,⟨⟨_,rfl,(by first|exact a1e bmq|exact vz hlt)⟩,uu⟩⟩⟩
   have h1:=iz r1;have hok1:ok=true:=by simpa using r1
   obtain⟨e0,he0,hk0,hv0⟩:=hy hok1;obtain⟨hlt,hv1⟩:=hA.found b56 ai3 he0 hk0;have hnv:nv=_:=(Value.int.inj (hv0.trans hv1)).2;have hA1:AtJ bnb 301 k2V (bv (br ks i) (ks.getD i default)) (es,clock):=hA.keep hlt;obtain rfl:=hnv;refine eu ?_;show HE _ _ _
   first|refine rg 900 904 rfl rfl ?_|skip
   refine fu ?_;exact⟨_,hA1,⟨⟨⟨_,rfl,(by first|(rw[show(bv (br ks i) (ks.getD i default)).length=(br ks i).length+1 by unfold bv;rw[if_neg bmq];simp];exact CoR.refl _)|(rw[show(bv (br ks i) (ks.getD i default)).length=(br ks i).length by unfold bv;rw[if_pos hlt]];exact CoR.refl _))⟩,⟨_,rfl,(by first|(rw[hab];exact CoR.refl _)|exact CoR.refl _)⟩,tt⟩,⟨⟨_,rfl,(by first|exact a1e bmq|exact vz hlt)⟩,uu⟩⟩⟩
  rintro⟨es2,clock2⟩ hA2;dsimp only at hA2 ⊢;have hr1:(ci (br ks i) (ks.getD i default))<(bv (br ks i) (ks.getD i default)).length:=acp;have hrl:=aia hr1;refine a7u 900 (ci (br ks i) (ks.getD i default)) 906 907 rfl hr1 agh (fun hd B hbf=>?_) rfl rfl rfl rfl;refine w_6 ?_;refine rq (out:=Out.mk _ (.v (.one (.ref 906 ((bv (br ks i) (ks.getD i default)).getD (ci (br ks i) (ks.getD i default)) default).2.length)))) rfl rfl rfl (congrArg (fun z=>some (Out.mk _ (HR.v (HC.one z)))) (uk hd 906 (ci (br ks i) (ks.getD i default)) ((bv (br ks i) (ks.getD i default)).getD (ci (br ks i) (ks.getD i default)) default).2.length 0)) rfl ?_;refine qy ?_;refine m9 3 ?_;refine r9 4 true ?_;refine w_3 ?_;refine dw ⟨[(3,some _),(4,some _),(10,some _),(11,some _),(12,some _)],[(900,some _),(901,some _),(906,some _),(907,some _)]⟩ kk ?_;refine a8x 4 900 906 907 908 hbf rfl rfl rfl rfl hr1 (by first|exact uk _ _ _ _ _|exact aib) (fun b _ hne=>by first|exact a02 hne|exact aig hne) ?_;refine dw ⟨[(3,some _),(4,some _),(10,some _),(11,some _),(12,some _)],[(901,some _),(908,some _)]⟩ kk ?_;refine ac2 4 908 900 rfl rfl ?_;refine w_4 ?_;refine lpz (i+1,es2,clock2) ⟨⟨⟨_,rfl,(by rw[show(br ks (i+1)).length=(bv (br ks i) (ks.getD i default)).length by rw[l5,n8,wn]];exact CoR.refl _)⟩,tt⟩,⟨⟨_,rfl,(acw (by rw[l5,n8]) hr1 (bn rfl (CoP.refl _)))⟩,uu⟩⟩ ?_;exact⟨by show i+1<=_;omega,hA2.modify (by rw[l5,n8])⟩
 obtain rfl:i=ks.length:=by omega
 refine w_2 ?_;refine acy 900 rfl ?_;refine w_2 ?_;refine sn rfl rfl rfl rfl rfl rfl am4 ((ayi ((br ks ks.length).map (·.2)) 255 0 (fun _=>.any) (fun l=>decide (l.length<2)) b2c (fun x=>b75 x))) (⟨congrArg (HV.ref 900) (by rw[bjf]),CoP.refl _,trivial⟩) ⟨⟨_,rfl,acn⟩,trivial⟩ rfl rfl ?_;refine v_2 ?_;exact⟨CoC.one (CoP.of_eq (by unfold cz ap5;rfl)),trivial⟩
end
end Go.Hx
