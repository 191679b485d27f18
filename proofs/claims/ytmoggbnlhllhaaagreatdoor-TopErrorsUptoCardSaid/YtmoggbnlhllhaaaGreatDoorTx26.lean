/- A part of the proof: Kb2 Kc1 Kb3 Ke1 Ke2 Ke3. -/
import Derived.Test.YtmoggbnlhllhaaaGreatDoorTx25
set_option linter.all false
namespace Go.Hx
section
section
variable {κ:Type}[DecidableEq κ][Inhabited κ]
def bv(g:List (κ×List Nat))(k:κ):List (κ×List Nat):=if ci g k<g.length then g else g++[(k,[])]
section
variable {g:List (κ×List Nat)}{k:κ}
def ad5:ci g k<=g.length:=List.findIdx_le_length
def alw (h:ci g k<g.length):(g.getD (ci g k) default).1=k:=by
 have:=List.findIdx_getElem (p:=fun x:κ×List Nat=>decide (x.1=k)) (xs:=g) (w:=h);rw[ah _ _ h];exact of_decide_eq_true this
def b00 (h:∀r,r<g.length->(g.getD r default).1≠k):ci g k=g.length:=by
 rcases bmn (ci g k) g.length with h1|h1
 · exact absurd (alw h1) (h _ h1)
 exact Nat.le_antisymm ad5 h1
variable {r:Nat}
def b40 (hr:r<g.length) (h:(g.getD r default).1=k) (hd:∀p q,p<g.length->q<g.length->(g.getD p default).1=(g.getD q default).1->p=q):ci g k=r:=by
 have h1:ci g k<g.length:=by
  rcases bmn (ci g k) g.length with h1|h1
  · exact h1
  exfalso;have:=List.findIdx_lt_length_of_exists (p:=fun x:κ×List Nat=>decide (x.1=k)) (xs:=g) ⟨g.getD r default,by rw[ah _ _ hr];exact bin hr,decide_eq_true h⟩;exact absurd this (Nat.not_lt.2 h1)
 exact hd _ _ h1 hr ((alw h1).trans h.symm)
theorem acp:ci g k<(bv g k).length:=by
 unfold bv;split
 · assumption
 have:=ad5 (g:=g) (k:=k)
 grind
variable {i:Nat}
theorem n8:ig g k i=(bv g k).modify (ci g k) (fun x=>(x.1,x.2++[i])):=by
 unfold ig bv;by_cases h:ci g k<g.length
 · grind
 rw[if_neg h,if_neg h,show ci g k=g.length from Nat.le_antisymm ad5 (Nat.not_lt.1 h)];refine bkn bmu fun j h1 h2=>?_
 grind
def a82(g:List (κ×List Nat)):Prop:=∀p q,p<g.length->q<g.length->(g.getD p default).1=(g.getD q default).1->p=q
theorem b5j (h:a82 g):a82 (bv g k):=by
 unfold bv;by_cases hk:ci g k<g.length
 · grind
 rw[if_neg hk];have hno:∀x∈g,x.1≠k:=fun x hx e=>hk (List.findIdx_lt_length_of_exists (p:=fun x:κ×List Nat=>decide (x.1=k)) ⟨x,hx,decide_eq_true e⟩);intro p q hp hq e;simp only[biq,bkz]at hp hq
 have hL:∀r,r<g.length->((g++[(k,([]:List Nat))]).getD r default)=g.getD r default/\(g.getD r default).1≠k:=fun r hr=>by
  grind
 have hE:((g++[(k,([]:List Nat))]).getD g.length default)=(k,[]):=by simp[List.getD]
 by_cases h1:p<g.length
 · by_cases h2:q<g.length
   · rw [(hL p h1).1,(hL q h2).1]at e
     exact h p q h1 h2 e
   grind
 grind
def wn:(g.modify r (fun x=>(x.1,x.2++[i]))).length=g.length:=List.length_modify ..
theorem aqu {j:Nat} (hj:j<g.length):(g.modify r (fun x=>(x.1,x.2++[i]))).getD j default=if r=j then((g.getD j default).1,(g.getD j default).2++[i])else g.getD j default:=by
 grind
theorem b8i (h:a82 g):a82 (ig g k i):=by
 rw[n8];have h2:=b5j (k:=k) h;intro p q hp hq e;rw[wn]at hp hq;refine h2 p q hp hq ?_
 grind
def ai3 {ks:List κ}:∀{i:Nat},a82 (br ks i)
 |0=>fun p q hp=>absurd hp (bip p)
 |i+1=>by rw[l5];exact b8i ai3
abbrev grM(g:List (κ×List Nat)):Nat->Nat:=fun r=>(g.getD r default).2.length
abbrev grG(g:List (κ×List Nat)):Nat->Nat->Nat->PV:=fun r=>lf iC (g.getD r default).2
abbrev grN(e et:TypeId)(g:List (κ×List Nat)):ae:=.nest e et 1 g.length (grM g) (grG g) none
def agh {n:Nat}:∀b q j,b<n->q<grM g b->j<1->∃v,grG g b q j=.raw v:=fun b q j _ _ hj=>by
 obtain rfl:j=0:=by omega
 exact⟨_,rfl⟩
variable {e et:TypeId}
def ajq {m:Nat->Nat} {f:Nat->Nat->Nat->PV} (h:g=[]):CoO (.nest e et 1 0 m f none) (grN e et g):=by
 subst h;exact⟨rfl,rfl,rfl,rfl,rfl,fun i hi=>absurd hi (bip i),fun i r j hi=>absurd hi (bip i)⟩
variable {ff:Nat->Nat->PV}
theorem a1e (h:¬ci g k<g.length):CoO (.nest e et 1 (g.length+1) (fc (grM g) g.length 0) (fb (grG g) g.length ff) none) (grN e et (bv g k)):=by
 unfold bv;rw[if_neg h];refine⟨rfl,rfl,rfl,by simp,rfl,fun b hb=>?_,fun b r j hb hr hj=>?_⟩
 · show ((g++[(k,([]:List Nat))]).getD b default).2.length=fc (grM g) g.length 0 b
   by_cases h1:b=g.length
   · subst h1;rw[qx];simp[List.getD]
   rw[qc h1]
   grind
 by_cases h1:b=g.length
 · subst h1
   rw[qx]at hr
   grind
 have:Nat.beq b g.length=false:=by rw[bj5];exact fun hb=>h1 (bjh hb)
 rw[show fb (grG g) g.length ff b=grG g b by simp[fb,this]];refine CoP.of_eq ?_
 grind
def vz (h:ci g k<g.length):CoO (grN e et g) (grN e et (bv g k)):=by
 unfold bv;rw[if_pos h];exact CoO.refl _
variable {g':List (κ×List Nat)}
theorem acw {kk:Nat} (hg:g'=g.modify r (fun x=>(x.1,x.2++[i]))) (hr:r<g.length) (h:CoO (.arr true 1 et kk ff) (.arr true 1 et ((g.getD r default).2++[i]).length (lf iC ((g.getD r default).2++[i])))):
 CoO (.nest e et 1 g.length (fc (grM g) r kk) (fb (grG g) r ff) none) (grN e et g'):=by
 subst hg;obtain⟨_,_,_,hl,hc⟩:=h;refine⟨rfl,rfl,rfl,wn,rfl,fun b hb=>?_,fun b q j hb hq hj=>?_⟩
 · show ((g.modify r _).getD b default).2.length=fc (grM g) r kk b
   rw[aqu hb];by_cases h1:b=r
   · subst h1;rw[qx,if_pos rfl,hl]
   rw[qc h1,if_neg (fun e=>h1 e.symm)]
 show CoP (fb (grG g) r ff b q j) (lf iC ((g.modify r _).getD b default).2 q j);rw[aqu hb];by_cases h1:b=r
 · subst h1
   rw[qx]at hq;rw[if_pos rfl,show fb (grG g) b ff b=ff by simp[fb]]
   grind
 have:Nat.beq b r=false:=by rw[bj5];exact fun hb=>h1 (bjh hb)
 rw[if_neg (fun e=>h1 e.symm),show fb (grG g) r ff b=grG g b by simp[fb,this]];exact CoP.refl _
def acn:CoO (.arr true 1 e g.length (a26 1 (grM g) (grG g))) (.arr true 1 e (g.map (·.2)).length (lf ilC (g.map (·.2)))):=by
 refine⟨fun h=>h,rfl,rfl,by simp,fun i j hi hj=>?_⟩;obtain rfl:j=0:=by omega
 show CoP (.sl (grM g i) 1 false (grG g i)) (il ((g.map (·.2)).getD i default));have:(g.map (·.2)).getD i default=(g.getD i default).2:=by simp[List.getD,hi]
 rw[this];exact CoP.refl _
structure AtI (P:Program) (kt:TypeId) (kv:κ->Value) (es:Array MapEntry) (clock:Nat) (g:List (κ×List Nat)):Prop where
 mx:mz P kt es clock
 to:∀e∈es.toList,∃r,r<g.length/\e.key=kv (g.getD r default).1/\e.val=.int .i64 (r:Int)
 at_:∀r,r<g.length->∃e∈es.toList,e.key=kv (g.getD r default).1
variable {P:Program}{clock:Nat}{kt:TypeId}{kv:κ->Value}
theorem AtI.nil:AtI P kt kv #[] clock []:=⟨mz.nil,fun e he=>by simp at he,fun r hr=>absurd hr (bip r)⟩
variable {es:Array MapEntry}
theorem AtI.of_keys (h:AtI P kt kv es clock g) (hl:g'.length=g.length) (hk:∀r,r<g.length->(g'.getD r default).1=(g.getD r default).1):AtI P kt kv es clock g' :=
 ⟨h.mx,fun e he=>by
  obtain⟨r,h1,h2,h3⟩:=h.to e he
  exact⟨r,by omega,by rw[hk r h1];exact h2,h3⟩,fun r hr=>by
  obtain⟨e,h1,h2⟩:=h.at_ r bmq
  exact⟨e,h1,by rw[hk r bmq];exact h2⟩⟩
theorem AtI.modify (h:AtI P kt kv es clock g) (hg:g'=g.modify r (fun x=>(x.1,x.2++[i]))):AtI P kt kv es clock g':=by
 subst hg;refine h.of_keys wn fun j hj=>?_
 grind
theorem AtI.found (h:AtI P kt kv es clock g) (hi:∀a b,kv a=kv b->a=b) (hd:a82 g) {e:MapEntry} (he:e∈es.toList) (hk:e.key=kv k):ci g k<g.length/\e.val=.int .i64 (ci g k:Int):=by
 obtain⟨r,h1,h2,h3⟩:=h.to e he;have:=b40 h1 (hi _ _ (h2.symm.trans hk)) hd
 grind
theorem AtI.absent (h:AtI P kt kv es clock g) (hn:∀e∈es.toList,e.key≠kv k):ci g k=g.length:=b00 fun r hr e=>by
 obtain⟨x,h1,h2⟩:=h.at_ r hr
 grind
theorem AtI.put {es':Array MapEntry} {clock':Nat} (h:AtI P kt kv es clock g) (hn:ci g k=g.length) (hX:mz P kt es' clock') (hP:ah7 es es' (kv k) (.int .i64 (g.length:Int))):AtI P kt kv es' clock' (bv g k):=by
 unfold bv;rw[if_neg bmq];have hL:∀r,r<g.length->((g++[(k,([]:List Nat))]).getD r default)=g.getD r default:=fun r hr=>by simp[List.getD,List.getElem?_append,hr]
 have hE:((g++[(k,([]:List Nat))]).getD g.length default)=(k,[]):=by simp[List.getD]
 refine⟨hX,fun e he=>?_,fun r hr=>?_⟩
 · rcases hP.to e he with⟨h1,h2⟩|⟨h1,h2⟩
   · obtain ⟨r,r1,r2,r3⟩:=h.to e h1
     grind
   grind
 simp only[biq,bkz]at hr;by_cases h1:r<g.length
 · obtain ⟨x,x1,x2⟩:=h.at_ r h1
   by_cases hx:x.key=kv k
   · obtain ⟨y,y1,y2,_⟩:=hP.at_
     grind
   obtain⟨y,y1,y2,_⟩:=hP.old x x1 hx
   grind
 obtain rfl:r=g.length:=by omega
 obtain⟨y,y1,y2,_⟩:=hP.at_
 grind
theorem AtI.keep (h:AtI P kt kv es clock g) (hk:ci g k<g.length):AtI P kt kv es clock (bv g k):=by
 unfold bv
 grind
theorem AtI.size (h:AtI P kt kv es clock g):es.size<=g.length:=by
 have hm:(es.toList.map fun e=>match e.val with | .int _ n=>n.toNat|_=>0).Nodup:=by
  rw[List.nodup_iff_pairwise_ne,blf];have hp:=((Go.MapKept.stamped_iff es clock).1 h.mx.st).2.2;refine List.Pairwise.imp_of_mem (fun {a b} ha hb hab=>?_) hp;obtain⟨r,r1,r2,r3⟩:=h.to a ha;obtain⟨q,q1,q2,q3⟩:=h.to b hb
  grind
 have:=hm.length_le_of_subset (l₂:=List.range g.length) fun x hx=>by
  obtain⟨e,he,rfl⟩:=bj3.1 hx;obtain⟨r,r1,_,r3⟩:=h.to e he
  grind
 grind
end
end
def aib{hd:Nat->Value}{id r k k2:Nat}:od (hdF hd id r k) r 0 [.ref id k2] r 0=.ref id k2:=by simp[od]
def aig {hd:Nat->Value} {id r k k2 i:Nat} (h:i≠r):od (hdF hd id r k) r 0 [.ref id k2] i 0=.p (.raw (hd i)):=by
 simp only[od];rw[if_neg (fun e=>h e.1),a02 h]
theorem ahx {κ:Type} [DecidableEq κ] [Inhabited κ] {g:List (κ×List Nat)} {k:κ} {m:Nat} (h:∀x∈g,x.2.length<=m):∀x∈bv g k,x.2.length<=m:=by
 unfold bv
 grind
def aia {κ:Type} [DecidableEq κ] [Inhabited κ] {ks:List κ} {i r:Nat} {k:κ} (hr:r<(bv (br ks i) k).length):((bv (br ks i) k).getD r default).2.length<=i:=by
 rw[ah _ _ hr];exact ahx ahw _ (bin hr)
def AtJ{κ:Type}[DecidableEq κ][Inhabited κ](P:Program)(kt:TypeId)(kv:κ->Value)(g:List (κ×List Nat))(y:Array MapEntry×Nat):Prop:=AtI P kt kv y.1 y.2 g
def auw {α:Type} [Inhabited α] {s:Nat} {c:α->Nat->PV} {l:List α} {p:α->Bool} (h:∀j,j<l.length->p (l.getD j default)=false):CoP (.sl l.length s false (lf c l)) (psl s c (l.filter fun x=>!p x)):=by
 have:=vq (bil l.length) h;rw[biz]at this;rw[this];exact CoP.refl _
def ayb {α:Type} [Inhabited α] {c:α->Nat->PV} {l m:List α} {p:α->Bool} {k q n a d:Nat} {cl:Bool} {z:List Value} (hC:DfI p l k q m) (hq:¬q<l.length) (ha:k<=a):CoP (.sl (gw (c8 n (some (k:Int))) none) 1 cl (pn (qf (lf c m) a d z) none)) (psl 1 c (l.filter fun x=>!p x)):=by
 have e:=hC.pre;have h1:=hC.ql;have h2:=hC.len;have h3:=hC.kq;rw[show q=l.length by omega,biz]at e;have el:(l.filter fun x=>!p x).length=k:=by rw[<- e];simp;omega
 exact abx (by rw[el];rfl) rfl bmq (by rw[el,e])
def ux {nt:Nat} {st:HSt} {Q:HSt->Prop} (x i0 id:Nat) (wr:Bool) {n n2 s':Nat} {e2:TypeId} {f':Nat->Nat->PV} {g:Nat->Nat->PV} (s:Nat) (e:TypeId) (f:Nat->Nat->PV) (hs:0<s)
 (hb:b6 st.o x=some (.arr true 1 e2 n2 g)) (hi:i0<n2) (hl:g i0 0=.sl n s' true f') (hco:CoP (.sl n s' true f') (.sl n s true f)) (hwr:wr=false\/n=0) (hn:jx id st=true) (hne:Nat.beq x id=false)
 (h:HE nt ⟨st.t,(x,some (.arrh 1 e2 n2 [id] (vo i0 (.ref id n) g)))::(id,some (.arr wr s e n f))::st.o⟩ Q):HE nt st Q:=fun w0 m0 a w hr=>h w0 m0 a w (abz x i0 id wr s e f hs hb hi hl hco hwr hn hne hr)
theorem rg {nt:Nat} {st:HSt} {Q:HSt->Prop} (id id':Nat) {k n:Nat} {e et:TypeId} {es:Nat} {m:Nat->Nat} {g:Nat->Nat->Nat->PV} {f:Nat->Nat->PV} (ho:b6 st.o id=some (.nest e et es n m g (some (id',k)))) (ho':b6 st.o id'=some (.arr true es et k f))
 (h:HE nt ⟨st.t,(id',none)::(id,some (.nest e et es (n+1) (fc m n k) (fb g n f) none))::st.o⟩ Q):HE nt st Q:=fun w0 m0 a w hr=>by
 obtain⟨cc,hold,hrr⟩:=hr;obtain⟨c',h1,h2⟩:=hrr.absorb ho ho';refine h w0 m0 a w ⟨c',h1.trans hold, ?_⟩;have e1:=xd ⟨st.t,(id,some (.nest e et es (n+1) (fc m n k) (fb g n f) none))::st.o⟩ id';rw[j3]at e1
 grind
end
section
def agT (a b:Row):Nat->AS
 |0=>0
 |i+1=>if zu (a.vals.getD i default) (b.vals.getD i default)=0 then agT a b i|||((1:AS)<<<i)else agT a b i
def agR(a b:Row):AS:=agT a b a.vals.length
def az2{a b:Row}{i:Nat}(h:zu (a.vals.getD i default) (b.vals.getD i default)=0):agT a b (i+1)=agT a b i|||((1:AS)<<<i):=if_pos h
def azn{a b:Row}{i:Nat}(h:¬zu (a.vals.getD i default) (b.vals.getD i default)=0):agT a b (i+1)=agT a b i:=if_neg h
def prs:List Row->List AS
 | []=>[]
 |r::l=>l.map (agR r)++prs l
def y9(l:List Row)(i:Nat):List AS:=(l.drop (i+1)).map (agR (l.getD i default))
def jf(l:List Row)(i k:Nat):List AS:=((List.range i).map (y9 l)).flatten++((y9 l i).take (k-(i+1)))
def arw:∀l:List Row,prs l=((List.range l.length).map (y9 l)).flatten
 | []=>rfl
 | r::l=>by
  rw[prs,arw l,bjv,List.range_succ_eq_map,bk4,List.flatten_cons,List.map_map];rfl
def a4k(l:List Row)(i:Nat):(y9 l i).length=l.length-(i+1):=by simp[y9]
def atk {l:List Row} {i k:Nat} (hi:i<k) (hk:k<l.length):jf l i (k+1)=jf l i k++[agR (l.getD i default) (l.getD k default)]:=by
 unfold jf;rw[bjy];congr 1;rw[show k+1-(i+1)=(k-(i+1))+1 by omega,List.take_add_one];congr 1;unfold y9;rw[bjl,bmb,show i+1+(k-(i+1))=k by omega,bik hk,bir (l:=l) (i:=k),bik hk];rfl
def atm {l:List Row} {i k:Nat} (hk:l.length<=k):jf l i k=jf l (i+1) (i+1+1):=by
 unfold jf;rw[bln (by rw[a4k];omega),bjj,bju,bkk,Nat.sub_self,bm1,bjn];simp
def agn (l:List Row):jf l l.length (l.length+1)=prs l:=by
 unfold jf;rw[arw,Nat.sub_self,bm1,bjn]
def gm(t:Tbl)(s:AS)(i:Nat):List ByteArray:=(List.range i).map fun k=>pe (t.rows.getD k default).vals s
def jy{t:Tbl}{s:AS}{i:Nat}:(gm t s i).length=i:=by simp[gm]
def a7(t:Tbl)(s:AS):Prt:=⟨t.rows.length,cz (gm t s t.rows.length)⟩
def nA(k:Nat):AS:=BitVec.ofNat 32 k
def du(k:Nat):AS:=nA k&&&(nA k-1)
def b84(t:Tbl)(l:List Prt)(k:Nat):Prt:=if du k=0 then a7 t (nA k)else aw3 (l.getD (du k).toNat default) (l.getD (nA k&&&~~~(du k)).toNat default)
def a1r (t:Tbl):Nat->List Prt
 |0=>[]
 |k+1=>a1r t k++[b84 t (a1r t k) k]
def lx {t:Tbl}:∀{k:Nat},(a1r t k).length=k
 |0=>rfl
 |k+1=>by rw[a1r,biq,lx];rfl
def aox(t:Tbl)(k:Nat):List Int:=(a1r t k).map ap4
def ak(t:Tbl):List Int:=aox t (2^t.attrs.length)
def ay0{t:Tbl}{k:Nat}:(aox t k).length=k:=by unfold aox;rw[bjf,lx]
def aoz(rk:List Int)(s:AS)(a:Nat):Bool:=decide (rk.getD s.toNat default=rk.getD (s|||((1:AS)<<<a)).toNat default)
def tl(n:Int)(k i:Nat):List AS:=((List.range i).map nA).filter fun s=>decide (bsz s=k)
def jg(n k:Nat):List AS:=tl n k (2^n)
def mnA(rk:List Int)(a:Nat)(out:List AS)(s:AS):List AS:=if s.getLsbD a=true\/(out.any fun m=>decide (sub m s))=true\/aoz rk s a=false then out else out++[s]
def mnK(rk:List Int)(n a:Nat)(out:List AS)(k i:Nat):List AS:=((jg n k).take i).foldl (mnA rk a) out
def mnT(rk:List Int)(n a k:Nat):List AS:=(List.range k).foldl (fun out k=>mnK rk n a out k (jg n k).length) []
def mnL(rk:List Int)(n a:Nat):List AS:=mnT rk n a (n+1)
def fmF(l:List AS)(n a:Nat)(rk:List Int):List AS:=l++mnL rk n a
def fmS(rk:List Int)(n a:Nat):List AS:=(List.range a).foldl (fun l a=>l++mnL rk n a) []
def fmR(rk:List Int)(n:Nat)(s:AS):List Nat:=(List.range n).filter fun a=>(mnL rk n a).any fun x=>decide (x=s)
def fmO(rk:List Int)(n:Nat):List Fd:=(ord (fmS rk n n)).flatMap fun s=>(fmR rk n s).map fun a=>⟨s,(1:AS)<<<a⟩
def bfq(t:Tbl):List Fd:=fmO (ak t) t.attrs.length
def b5q(avoid:List AS)(s:AS):Bool:=avoid.any fun x=>decide (sub s x)
def adn(avoid:List AS)(out:List AS)(s:AS):List AS:=if b5q avoid s=false/\(out.any fun x=>decide (sub x s))=false then out++[s]else out
def oh(n:Nat)(avoid:List AS)(i:Nat):List AS:=((d8 (aj (n:Int))).take i).foldl (adn avoid) []
def b7h(n:Nat)(avoid:List AS):List AS:=oh n avoid (d8 (aj (n:Int))).length
def a40(out:List AS)(s:AS):List AS:=if(out.any fun x=>decide (x=s))=true then out else out++[s]
def f8(l:List AS):List AS:=l.foldl a40 []
def aex{l:List AS}{s:AS}:f8 (l++[s])=a40 (f8 l) s:=by unfold f8;rw[bj8];rfl
def az8(t:Tbl):List AS:=b7h t.attrs.length (nf (f8 (prs t.rows)))
end
section
def ov(l:List Val)(s:AS)(j:Nat):ByteArray:=((bc s).take j).foldl (fun o a=>o++s5 (l.getD a default)) emp
section
variable {j:Nat}{l:List Val}{s:AS}
def a4j (h:j<(bc s).length):ov l s (j+1)=ov l s j++s5 (l.getD ((bc s).getD j default) default):=by
 unfold ov;rw[ar h,bj8];rfl
def aej:∀{j:Nat},(ov l s j).size<=403*j
 |0=>bio _
 | j + 1=>by
  have ih:(ov l s j).size<=403*j:=aej;by_cases h:j<(bc s).length
  · rw [a4j h,a8v]
    have:=a5g (v:=l.getD ((bc s).getD j default) default);omega
  have e:ov l s (j+1)=ov l s j:=by unfold ov;rw[bln bmq,bln bmq]
  rw[e];omega
theorem aw6 (hl:l.length<=32) (hs:∀a,s.getLsbD a=true->a<l.length):ov l s (bc s).length=pe l s:=by
 have key:∀i,i<=l.length->((List.range i).filter fun a=>s.getLsbD a).foldl (fun o a=>o++s5 (l.getD a default)) emp=pe (l.take i) s:=by
  intro i
  induction i with
  |zero=>intro _;rfl
  | succ i ih =>
   intro hi
   have e:pe (l.take (i+1)) s=if s.getLsbD i=true then pe (l.take i) s++s5 (l.getD i default)else pe (l.take i) s:=by
    unfold pe;rw[ar bmq,aei,bjc,bjw bmq,bjo]
   rw[bjj,bk8,bj8,ih bmq,e]
   grind
 have more:∀k,(List.range (l.length+k)).filter (fun a=>s.getLsbD a)=(List.range l.length).filter fun a=>s.getLsbD a:=by
  intro k
  induction k with
  |zero=>rfl
  | succ k ih =>
   rw[<- bkp,bjj,bk8,ih]
   grind
 unfold ov bc;rw[biz];have e:=more (32-l.length);simp_all
def axr {v:Val} (h:cj v=true):0<(s5 v).size:=by
 rw[adj h,strOfNums_size,ll,bjv];omega
def avb (hj:j<(bc s).length) (hv:cj (l.getD ((bc s).getD j default) default)=true):bl (ov l s (j+1))≠[]:=by
 intro e;have h1:=axr hv;have h2:(ov l s (j+1)).size=0:=by rw[<- wv,e];rfl
 rw[a4j hj,a8v]at h2;omega
def b8r(a b:ByteArray):bl (a++b)=bl a++bl b:=by simp[bl,ByteArray.data_append]
def b3y(s:ByteArray):(⟨(bl s).toArray⟩:ByteArray)=s:=ByteArray.ext (by simp[bl])
variable {i n:Nat}
def atd (hs:∀z,s.getLsbD z=true->z<n) (hi:i<(bc s).length):(bc s).getD i default<n:=by
 rw[ah _ _ hi];exact hs _ (un.1 (bin hi)).2
def qg(t:Tbl)(s:AS)(i:Nat):List ByteArray:=(List.range t.rows.length).map fun k=>if k<i then pe (t.rows.getD k default).vals s else emp
def qa{t:Tbl}:(qg t s i).length=t.rows.length:=by simp[qg]
def axi {t:Tbl}:qg t s t.rows.length=gm t s t.rows.length:=by
 unfold qg gm;simp_all
theorem ath {t:Tbl} (hi:i<t.rows.length):qg t s (i+1)=(qg t s i).set i (pe (t.rows.getD i default).vals s):=by
 refine bkn (by simp[qg]) fun k h1 h2=>?_;rw[bl1];simp only[qg,bkw,bkl]
 grind
variable {k:Nat}
def awq{t:Tbl}(hT:TOk t)(hi:i<(qg t s k).length):((qg t s k).getD i default).size<=maxLen:=by
 rw[qa]at hi;rw[ah _ _ (by rw[qa];exact hi)];simp only[qg,bkw,bkl];split
 · have h1:=ate (l:=(t.rows.getD i default).vals) (s:=s)
   have h2:=hT.width hi;have h3:=hT.na;unfold maxLen;omega
 exact bio _
def va(m i:Nat):List Int:=(List.range m).map fun(k:Nat)=>if k<i then -1-(k:Int)else 0
variable {m:Nat}
def a29:(va m i).length=m:=by simp[va]
def ahd:va m m=a2c m:=by
 unfold va a2c;simp_all
theorem ae1 (hi:i<m):va m (i+1)=(va m i).set i (-1-(i:Int)):=by
 refine bkn (by simp[va]) fun k h1 h2=>?_;rw[bl1];simp only[va,bkw,bkl]
 grind
def o9(a b:Prt)(i:Nat):List (Int×Int):=(List.range a.rows.toNat).map fun k=>if k<i then((ap a).getD k default,(ap b).getD k default) else(0,0)
def tn{a b:Prt}:(o9 a b i).length=a.rows.toNat:=by simp[o9]
def aw0 {a b:Prt}:o9 a b a.rows.toNat=awr a b:=by
 unfold o9 awr;simp_all
theorem ar3 {a b:Prt} (hi:i<a.rows.toNat):o9 a b (i+1)=(o9 a b i).set i ((ap a).getD i default,(ap b).getD i default):=by
 refine bkn (by simp[o9]) fun k h1 h2=>?_;rw[bl1];simp only[o9,bkw,bkl]
 grind
variable {p:Prt}
theorem l7 (h:f7 p=true):0<=p.rows/\p.rows<=1000:=by
 unfold f7 at h
 grind
theorem ss (h:f7 p=true) (hk:k<p.cls.length):a86 p k=true:=by
 unfold f7 at h
 grind
theorem an7 (h:a86 p k=true):¬(p.cls.getD k default).length<2/\a8y p k<(((p.cls.getD k default).getD 0 default:Nat):Int):=by
 unfold a86 at h
 grind
theorem vw (h:a86 p k=true) (hj:j<(p.cls.getD k default).length):acu (p.cls.getD k default) j<(((p.cls.getD k default).getD j default:Nat):Int)/\(((p.cls.getD k default).getD j default:Nat):Int)<p.rows /\
 ¬(p.cls.getD k default).getD j default∈(p.cls.take k).flatten++(p.cls.getD k default).take j:=by
 unfold a86 at h;simp only[biw,bjr]at h;have:=h.2 j (bje.2 hj);unfold av8 at this
 grind
def adl:(snT p k j).length=p.rows.toNat:=by simp[snT]
def b8z (hi:i<p.rows.toNat):(snT p k j).getD i default=decide (i∈(p.cls.take k).flatten++(p.cls.getD k default).take j):=by
 rw[ah _ _ (by rw[adl];exact hi)];simp only[snT,bkw,bkl]
def ay6:snT p 0 0=List.replicate p.rows.toNat false:=by
 refine bkn (by simp[snT]) fun k h1 h2=>?_;simp[snT]
def aut (hk:k<p.cls.length):snT p k (p.cls.getD k default).length=snT p (k+1) 0:=by
 unfold snT;refine List.map_congr_left fun i _=>?_;rw[biz,ar hk,bkk,bm1,bjn];simp
theorem av3 (hj:j<(p.cls.getD k default).length) (hr:(((p.cls.getD k default).getD j default:Nat):Int)<p.rows):snT p k (j+1)=(snT p k j).set ((p.cls.getD k default).getD j default) true:=by
 refine bkn (by simp[snT]) fun i h1 h2=>?_;rw[bl1];simp only[snT,bkw,bkl];rw[ar hj]
 grind
def asj{c:List Nat}:acu c (j+1)=((c.getD j default:Nat):Int):=by unfold acu;rw[if_neg bmq];rfl
def ar5:a8y p (k+1)=(((p.cls.getD k default).getD 0 default:Nat):Int):=by unfold a8y;rw[if_neg bmq];rfl
def a0i(m:Nat)(l:List Int):Prop:=∀i,i<l.length->-(m:Int)-1<=l.getD i default/\l.getD i default<=m
def aoo {l:List Int} (h:a0i m l) (hk:k<=m):a0i m (l.set i (k:Int)):=fun q hq=>by
 rw[bkq]at hq;rw[ah _ _ (by rw[bkq];exact hq),bl1];split
 · omega
 have:=h q hq;rwa [ah _ _ hq]at this
def ag6 (hn:n<=m):∀{c:List Nat} {l:List Int},a0i m l->a0i m (v7 n l c)
 | [],_,h=>h
 | i::c,l,h=>by
  show a0i m (v7 n (l.set i (n:Int)) c);exact ag6 hn (aoo h hn)
def xa (hr:p.rows.toNat<=m):∀{k:Nat},k<=m->a0i m (gl p k)
 | 0,_=>fun i hi=>by
  have hi:i<p.rows.toNat:=by rwa [gu]at hi
  show -(m:Int)-1<=(a2c p.rows.toNat).getD i default/\_;have e:(a2c p.rows.toNat).getD i default=-1-(i:Int):=by simp[a2c,List.getD,hi]
  show _/\(a2c p.rows.toNat).getD i default<=_;rw[e];omega
 |k+1,hk=>by rw[ye];exact ag6 bmq (xa hr bmq)
theorem ain {α:Type} [Inhabited α] {wr wr':Bool} {p:Nat} {e:TypeId} {c:α->Nat->PV} {l:List α} {v:α} {x y:PV} (hw:wr'=true->wr=true) (hn:n=l.length) (hp:k=p) (hk:p<l.length) (hx:x=c v 0) (hy:y=c v 1):
 CoO (.arr wr 2 e n (k8 (lf c l) k 0 [x,y])) (.arr wr' 2 e n (lf c (l.set p v))):=by
 subst hp hx hy hn;refine⟨hw,rfl,rfl,rfl,fun i j hi hj=>CoP.of_eq ?_⟩;unfold k8 lf
 grind
theorem amb {e:TypeId} {f g:Nat->Nat->PV} (hn:m=n) (h:∀i,i<n->CoP (f i 0) (g i 0)/\CoP (f i 1) (g i 1)):CoO (.arr true 2 e n f) (.arr true 2 e m g) :=
 ⟨fun h=>h,rfl,rfl,hn,fun i j hi hj=>by
  rcases(by omega:j=0\/j=1)with rfl|rfl
  · grind
  exact(h i hi).2⟩
theorem ai4 (h:f7 p=true):∀{k j:Nat},k<=p.cls.length->j<=(p.cls.getD k default).length->(k<p.cls.length\/j=0)->((p.cls.take k).flatten++(p.cls.getD k default).take j).Nodup/\∀x∈(p.cls.take k).flatten++(p.cls.getD k default).take j,(x:Int)<p.rows
 |0,0,_,_,_=>by simp
 | k+1,0,hk,_,_=>by
  have:=ai4 h (k:=k) (j:=(p.cls.getD k default).length) bmq (bil _) (.inl bmq);rw[biz]at this;rw[bm1,bjn,ar bmq,bkk]
  grind
 | k,j+1,hk,hj,ho=>by
  have hk2:k<p.cls.length:=by omega
  obtain⟨h1,h2⟩:=ai4 h (k:=k) (j:=j) hk bmq (.inl hk2);obtain⟨_,g2,g3⟩:=vw (ss h hk2) (show j<(p.cls.getD k default).length by omega);rw[ar bmq,<- bjy];refine⟨bml.2 ⟨h1,by simp,fun a ha b hb e=>?_⟩,fun x hx=>?_⟩
  · grind
  grind
theorem ad7 (h:f7 p=true) (hk:k<=p.cls.length):(p.cls.take k).flatten.length<=1000/\2*k<=(p.cls.take k).flatten.length:=by
 obtain⟨h1,h2⟩:=ai4 h (k:=k) (j:=0) hk (bio _) (.inr rfl);rw[bm1,bjn]at h1 h2;have hr:=l7 h;refine⟨?_, ?_⟩
 · have:=h1.length_le_of_subset (l₂:=List.range 1000) fun x hx=>bje.2 (by have:=h2 x hx;omega)
   grind
 clear h1 h2
 induction k with
 |zero=>simp
 | succ k ih =>
  have:=ih bmq;have h3:=(an7 (ss h (show k<p.cls.length by omega))).1;rw[ar bmq,bkk,biq]
  grind
theorem am2:∀{k:Nat},k<=p.cls.length->wz p k=p.rows-((p.cls.take k).flatten.length:Int)+(k:Int)
 |0,_=>by simp[wz]
 | k+1,hk=>by
  rw[af6 bmq,am2 bmq,ar bmq,bkk,biq]
  grind
def ata (h:f7 p=true) (hk:k<=p.cls.length):-1000<=wz p k/\wz p k<=1000:=by
 have h1:=ad7 h hk;have h2:=l7 h;rw[am2 hk];omega
def mc (h:f7 p=true):p.cls.length<=1000:=by
 have:=ad7 h (bil p.cls.length);omega
theorem tk (h:f7 p=true) (hk:k<p.cls.length):(p.cls.getD k default).length<=1000:=by
 have:=(ad7 h (show k+1<=p.cls.length from hk)).1;rw[ar hk,bkk,biq]at this
 grind
def a0m {e:TypeId} {f g:Nat->Nat->PV} (hn:m=n) (h:∀i,i<n->CoP (f i 0) (g i 0)):CoO (.arr true 1 e n f) (.arr true 1 e m g) :=
 ⟨fun h=>h,rfl,rfl,hn,fun i j hi hj=>by
  obtain rfl:j=0:=by omega
  exact h i hi⟩
def ap8 {n:Int} (h1:-9223372036854775808<=n) (h2:n<=9223372036854775807):(Lit.int .i64 n).wf=true:=by
 unfold Lit.wf;rw[biw,decide_eq_true_eq,decide_eq_true_eq];exact⟨h1,h2⟩
end
end
section
section
variable {κ:Type}[DecidableEq κ][Inhabited κ]
def gr(key:Nat->κ)(c:List Nat):List (κ×List Nat):=c.foldl (fun g i=>ig g (key i) i) []
section
variable {g:List (κ×List Nat)}
def yl{x:κ×List Nat}{k:κ}{i:Nat}:ig (x::g) k i=if x.1=k then(x.1,x.2++[i])::g else x::ig g k i:=by
 by_cases h:x.1=k
 · have e:ci (x::g) k=0:=by simp[ci,List.findIdx_cons,h]
   unfold ig;rw[e,if_pos bmu,if_pos h];rfl
 have e:ci (x::g) k=ci g k+1:=by simp[ci,List.findIdx_cons,h]
 unfold ig;rw[e,if_neg h];simp only[bjv,Nat.add_lt_add_iff_right];split
 · rfl
 rfl
structure GS (key:Nat->κ) (c:List Nat) (g:List (κ×List Nat)):Prop where
 nd:g.Pairwise fun x y=>x.1≠y.1
 fl:∀x∈g,x.2=c.filter (fun i=>decide (key i=x.1))/\x.2≠[]
 all:∀i∈c,∃x∈g,x.1=key i
 len:(g.map fun x=>x.2.length).sum=c.length
def lb{k:κ}{i:Nat}:∀{g:List (κ×List Nat)},g.Pairwise (fun x y=>x.1≠y.1)->∀y,y∈ig g k i<->(y∈g/\y.1≠k)\/(∃x∈g,x.1=k/\y=(k,x.2++[i]))\/((∀x∈g,x.1≠k)/\y=(k,[i]))
 | [],_,y=>by simp[ig,ci]
 | x :: g,hp,y=>by
  rw[yl];have h1:=bj9.1 hp;by_cases h:x.1=k
  · rw [if_pos h]
    have hg:∀z∈g,z.1≠k:=fun z hz=>h▸(h1.1 z hz).symm;constructor
    · intro hy
      rcases biv.1 hy with rfl|hy
      · exact .inr (.inl ⟨x,bj6 ..,h,by rw[h]⟩)
      exact .inl ⟨bj0 _ hy,hg y hy⟩
    rintro(⟨hy,hk⟩|⟨z,hz,hk,rfl⟩|⟨hz,_⟩)
    · rcases biv.1 hy with rfl|hy
      · exact absurd h hk
      exact bj0 _ hy
    · rcases biv.1 hz with rfl|hz
      · rw[h];exact bj6 ..
      exact absurd hk (hg z hz)
    exact absurd h (hz x (bj6 ..))
  rw[if_neg h,biv,lb h1.2 y];constructor
  · rintro (rfl|⟨hy,hk⟩|⟨z,hz,hk,rfl⟩|⟨hz,rfl⟩)
    · exact .inl ⟨bj6 ..,h⟩
    · exact .inl ⟨bj0 _ hy,hk⟩
    · exact .inr (.inl ⟨z,bj0 _ hz,hk,rfl⟩)
    exact .inr (.inr ⟨fun z hz'=>(biv.1 hz').elim (fun e=>by rw[e];exact h) (hz z),rfl⟩)
  rintro(⟨hy,hk⟩|⟨z,hz,hk,rfl⟩|⟨hz,rfl⟩)
  · rcases biv.1 hy with rfl|hy
    · exact .inl rfl
    exact .inr (.inl ⟨hy,hk⟩)
  · rcases biv.1 hz with rfl|hz
    · exact absurd hk h
    exact .inr (.inr (.inl ⟨z,hz,hk,rfl⟩))
  exact .inr (.inr (.inr ⟨fun z hz'=>hz z (bj0 _ hz'),rfl⟩))
def amq {k:κ} {i:Nat}:∀{g:List (κ×List Nat)},g.Pairwise (fun x y=>x.1≠y.1)->(ig g k i).Pairwise (fun x y=>x.1≠y.1)
 | [],_=>by simp[ig,ci]
 | x::g,hp=>by
  rw[yl];have h1:=bj9.1 hp;split
  · exact bj9.2 ⟨h1.1,h1.2⟩
  rename_i h;refine bj9.2 ⟨fun y hy=>?_,amq h1.2⟩
  rcases(lb h1.2 y).1 hy with⟨hy,_⟩|⟨z,hz,hk,rfl⟩|⟨hz,rfl⟩
  · exact h1.1 y hy
  · exact h
  exact h
def aj3 {k:κ} {i:Nat}:∀{g:List (κ×List Nat)},((ig g k i).map fun x=>x.2.length).sum=(g.map fun x=>x.2.length).sum+1
 | []=>by simp[ig,ci]
 | x::g=>by
  rw[yl];split
  · simp;omega
  simp[aj3 (g:=g)];omega
variable {c:List Nat}{key:Nat->κ}
theorem GS.step (h:GS key c g) (i:Nat):GS key (c++[i]) (ig g (key i) i):=by
 refine⟨amq h.nd,fun y hy=>?_,fun j hj=>?_,by rw[aj3,h.len];simp⟩
 · rw [bk8]
   rcases(lb h.nd y).1 hy with⟨hy,hk⟩|⟨z,hz,hk,rfl⟩|⟨hz,rfl⟩
   · obtain ⟨h1,h2⟩:=h.fl y hy
     simp[show ¬key i=y.1 from fun e=>hk e.symm,<- h1,h2]
   · obtain ⟨h1,h2⟩:=h.fl z hz
     rw[hk]at h1;simp[<- h1]
   refine⟨?_,by simp⟩
   have:c.filter (fun j=>decide (key j=key i))=[]:=List.filter_eq_nil_iff.2 fun j hj=>by
    obtain⟨x,hx,hk⟩:=h.all j hj;have:=hz x hx;simp only[decide_eq_true_eq];exact fun e=>this (hk.trans e)
   simp[this]
 by_cases hk:∃x∈g,x.1=key i
 · obtain ⟨x,hx,hk⟩:=hk
   rcases bj1.1 hj with hj|hj
   · obtain ⟨y,hy,hj⟩:=h.all j hj
     by_cases e:y.1=key i
     · exact⟨(key i,y.2++[i]),(lb h.nd _).2 (.inr (.inl ⟨y,hy,e,rfl⟩)),e.symm.trans hj⟩
     exact⟨y,(lb h.nd _).2 (.inl ⟨hy,e⟩),hj⟩
   obtain rfl:=bjb.1 hj;exact⟨(key j,x.2++[j]),(lb h.nd _).2 (.inr (.inl ⟨x,hx,hk,rfl⟩)),rfl⟩
 have hk:∀x∈g,x.1≠key i:=fun x hx e=>hk ⟨x,hx,e⟩
 rcases bj1.1 hj with hj|hj
 · obtain ⟨y,hy,hj⟩:=h.all j hj
   exact⟨y,(lb h.nd _).2 (.inl ⟨hy,hk y hy⟩),hj⟩
 obtain rfl:=bjb.1 hj;exact⟨(key j,[j]),(lb h.nd _).2 (.inr (.inr ⟨hk,rfl⟩)),rfl⟩
theorem GS.fold:∀{d c:List Nat} {g:List (κ×List Nat)},GS key c g->GS key (c++d) (d.foldl (fun g i=>ig g (key i) i) g)
 | [],c,g,h=>by simpa using h
 | i::d,c,g,h=>by
  have:=GS.fold (d:=d) (h.step i);simpa using this
def m8 (key:Nat->κ) (c:List Nat):GS key c (gr key c):=by
 have h0:GS key [] ([]:List (κ×List Nat)):=⟨List.Pairwise.nil,fun x hx=>(by cases hx),fun i hi=>(by cases hi),rfl⟩;have:=GS.fold (d:=c) h0;unfold gr;simpa using this
theorem GS.nd2 (h:GS key c g):(g.map (·.2)).Nodup:=by
 refine blf.2 (List.Pairwise.imp_of_mem (fun {x y} hx hy hxy e=>hxy ?_) h.nd);obtain⟨h1,h2⟩:=h.fl x hx;obtain⟨h3,_⟩:=h.fl y hy;obtain⟨i,hi⟩:=List.exists_mem_of_ne_nil _ h2;have a1:=hi;rw[h1]at a1;rw[e,h3]at hi;have b1:=(bix.1 a1).2;have b2:=(bix.1 hi).2;simp only[decide_eq_true_eq]at b1 b2;exact b1.symm.trans b2
def gv{ks:List κ}:c∈cz ks<->∃k,c=(List.range ks.length).filter (fun i=>decide (ks.getD i default=k))/\2<=c.length:=by
 have h:=m8 (fun i=>ks.getD i default) (List.range ks.length);have e:br ks ks.length=gr (fun i=>ks.getD i default) (List.range ks.length):=rfl;unfold cz ap5;rw[e];constructor
 · intro hc
   obtain⟨h1,h2⟩:=bix.1 hc;obtain⟨x,hx,rfl⟩:=bj3.1 h1;exact⟨x.1,(h.fl x hx).1,by simpa using h2⟩
 rintro⟨k,hc,h2⟩;refine bix.2 ⟨?_,by simpa using h2⟩;obtain⟨i,hi⟩:=List.exists_mem_of_ne_nil c (fun e=>by rw[e]at h2;simp at h2);rw[hc]at hi;obtain⟨hi,hk⟩:=bix.1 hi;obtain⟨x,hx,hxk⟩:=h.all i hi;have hk:ks.getD i default=k:=by simpa using hk
 refine bj3.2 ⟨x,hx, ?_⟩;rw[(h.fl x hx).1,hc,hxk,hk]
def adp{ks:List κ}:(cz ks).Nodup:=List.Pairwise.filter _ (m8 (fun i=>ks.getD i default) (List.range ks.length)).nd2
end
end
def ba5 {i j:Nat} {l:List Nat} (e:i≠j) (s:[i,j]⊆l):2<=l.length:=by
 have:[i,j].Nodup:=by simp[e]
 exact this.length_le_of_subset s
def als{n:Nat}{i:Nat}:∀{c:List Nat} {l:List Int},i<l.length->(v7 n l c).getD i default=if i∈c then(n:Int)else l.getD i default
 | [],l,_=>by simp[v7]
 | j :: c,l,h=>by
  have:(v7 n (l.set j (n:Int)) c).getD i default=if i∈c then(n:Int) else(l.set j (n:Int)).getD i default:=als (by simpa using h)
  show(v7 n (l.set j (n:Int)) c).getD i default=_;rw[this];by_cases e:j=i
  · subst e
    simp[List.getD,h]
  simp[List.getD,e,Ne.symm e,show ¬i=j from fun x=>e x.symm]
def ado{p:Prt}{i:Nat}(hi:i<p.rows.toNat):∀{k:Nat},(∃n,n<k/\i∈p.cls.getD n default/\(gl p k).getD i default=(n:Int))\/((∀n,n<k->¬i∈p.cls.getD n default)/\(gl p k).getD i default=-1-(i:Int))
 |0=>.inr ⟨fun n hn=>absurd hn (bip n),by simp[gl,a2c,List.getD,hi]⟩
 | k + 1=>by
  have e:(gl p (k+1)).getD i default=if i∈p.cls.getD k default then(k:Int) else(gl p k).getD i default:=by
   rw[ye];exact als (by rw[gu];exact hi)
  rw[e];by_cases h:i∈p.cls.getD k default
  · exact .inl ⟨k,bmp k,h,if_pos h⟩
  rw[if_neg h]
  rcases ado hi (k:=k) with⟨n,h1,h2,h3⟩|⟨h1,h2⟩
  · exact .inl ⟨n,by omega,h2,h3⟩
  exact .inr ⟨fun n hn=>by
   by_cases e:n=k
   · rw[e];exact h
   exact h1 n bmq,h2⟩
def b4w{κ:Type}[DecidableEq κ][Inhabited κ]{ks:List κ}{i j:Nat}(hi:i<ks.length)(hj:j<ks.length) :
 (ap ⟨ks.length,cz ks⟩).getD i default=(ap ⟨ks.length,cz ks⟩).getD j default<->ks.getD i default=ks.getD j default:=by
 have key:∀n,n<(cz ks).length->∃k,(cz ks).getD n default=(List.range ks.length).filter (fun i=>decide (ks.getD i default=k)):=fun n hn=>by
  obtain⟨k,hk,_⟩:=gv.1 (bin hn);exact⟨k,by rw[ah _ _ hn];exact hk⟩
 have mem:∀n x k,(cz ks).getD n default=(List.range ks.length).filter (fun i=>decide (ks.getD i default=k))->x∈(cz ks).getD n default->ks.getD x default=k:=fun n x k e hx=>by
  rw[e]at hx;simpa using(bix.1 hx).2
 have li:=ado (p:=⟨ks.length,cz ks⟩) (i:=i) (k:=(cz ks).length) (by simpa using hi);have lj:=ado (p:=⟨ks.length,cz ks⟩) (i:=j) (k:=(cz ks).length) (by simpa using hj);constructor
 · intro h
   have h:(gl ⟨ks.length,cz ks⟩ (cz ks).length).getD i default=(gl ⟨ks.length,cz ks⟩ (cz ks).length).getD j default:=h
   rcases li with⟨n,h1,h2,h3⟩|⟨h1,h2⟩<;>rcases lj with⟨m,g1,g2,g3⟩|⟨g1,g2⟩
   · have e:n=m:=by omega
     subst e;obtain⟨k,hk⟩:=key n h1;exact(mem n i k hk h2).trans (mem n j k hk g2).symm
   · omega
   · omega
   rw[show i=j by omega]
 intro h;by_cases e:i=j
 · rw[e]
 have hc:(List.range ks.length).filter (fun x=>decide (ks.getD x default=ks.getD i default))∈cz ks:=gv.2 ⟨_,rfl,by
  have s:[i,j]⊆((List.range ks.length).filter (fun x=>decide (ks.getD x default=ks.getD i default))):=fun x hx=>by
   rcases biv.1 hx with rfl|hx
   · exact bix.2 ⟨bje.2 hi,by simp⟩
   obtain rfl:=bjb.1 hx;exact bix.2 ⟨bje.2 hj,decide_eq_true h.symm⟩
  exact ba5 e s⟩
 obtain⟨q,hq,hqe⟩:=bj7 hc;have qi:i∈(cz ks).getD q default:=by rw[ah _ _ hq,hqe];exact bix.2 ⟨bje.2 hi,by simp⟩
 have qj:j∈(cz ks).getD q default:=by rw[ah _ _ hq,hqe];exact bix.2 ⟨bje.2 hj,decide_eq_true h.symm⟩
 have uniq:∀n x,n<(cz ks).length->x∈(cz ks).getD n default->ks.getD x default=ks.getD i default->n=q:=fun n x hn hx hk=>by
  obtain⟨k,hk1⟩:=key n hn;have e1:k=ks.getD i default:=(mem n x k hk1 hx).symm.trans hk;have e2:(cz ks)[n]=(cz ks)[q]:=by rw[ah _ _ hn]at hk1;rw[hk1,hqe,e1]
  exact(bm6 (adp (ks:=ks))).1 e2
 show(gl ⟨ks.length,cz ks⟩ (cz ks).length).getD i default=(gl ⟨ks.length,cz ks⟩ (cz ks).length).getD j default
 rcases li with⟨n,h1,h2,h3⟩|⟨h1,h2⟩
 · rcases lj with⟨m,g1,g2,g3⟩|⟨g1,g2⟩
   · rw[h3,g3,uniq n i h1 h2 rfl,uniq m j g1 g2 h.symm]
   exact absurd qj (g1 q hq)
 exact absurd qi (h1 q hq)
end
section
def ab9 {x:Nat}:∀{l:List Nat},x∈l->x<=l.sum
 | y::l,h=>by
  rw[List.sum_cons]
  rcases biv.1 h with rfl|h
  · omega
  have:=ab9 h;omega
def pgs(l:List Int)(c:List Nat):List (List Nat):=(gr (fun i=>l.getD i default) c).map (·.2)
def apx(p q:Prt):List (List (List Nat)):=p.cls.map (pgs (ap q))
def gsz(g:List (List Nat)):Nat:=(g.map List.length).sum
def gbT(g:List (List Nat))(i:Nat):Nat:=(List.range i).foldl (fun k j=>if(g.getD k default).length<(g.getD j default).length then j else k) 0
def gb(g:List (List Nat)):Nat:=gbT g g.length
section
variable {g:List (List Nat)}{i:Nat}
def air:gbT g (i+1)=if(g.getD (gbT g i) default).length<(g.getD i default).length then i else gbT g i:=by unfold gbT;rw[bjj,bj8];rfl
def a2z:∀{i:Nat},(gbT g i=0\/gbT g i<i)/\∀j,j<i->(g.getD j default).length<=(g.getD (gbT g i) default).length
 |0=>⟨.inl rfl,fun j hj=>absurd hj (bip j)⟩
 | i + 1=>by
  have hr:(gbT g i=0\/gbT g i<i)/\∀j,j<i->(g.getD j default).length<=(g.getD (gbT g i) default).length:=a2z;obtain⟨h1,h2⟩:=hr;rw[air];split
  · rename_i h
    exact ⟨.inr (bmp i),fun j hj=>by
     by_cases e:j=i
     · rw[e];exact bil _
     exact bj2 (h2 j bmq) (Nat.le_of_lt h)⟩
  rename_i h
  exact ⟨by omega,fun j hj=>by
   by_cases e:j=i
   · rw[e];omega
   exact h2 j bmq⟩
def a2v (h:0<g.length):gb g<g.length:=by
 have:=(a2z (g:=g) (i:=g.length)).1;unfold gb;omega
def bbv{j:Nat}(h:j<g.length):(g.getD j default).length<=(g.getD (gb g) default).length:=a2z.2 j h
def bst(g:List (List Nat)):Nat:=(g.getD (gb g) default).length
def gsq(g:List (List Nat)):Nat:=(g.map fun p=>p.length*p.length).sum
def msr(m:Int)(g:List (List Nat)):Int:=if m=1 then(gsz g:Int)*(gsz g:Int)-(gsq g:Int)else if m=2 then(if 1<g.length then(gsz g:Int)else 0) else(gsz g:Int)-(bst g:Int)
def msT(m:Int)(l:List (List (List Nat)))(i:Nat):Int:=((l.take i).map (msr m)).foldl (·+·) 0
variable {m:Int}
def a9g{l:List (List (List Nat))}:msT m l 0=0:=rfl
def o3 {l:List (List (List Nat))} (h:i<l.length):msT m l (i+1)=msT m l i+msr m (l.getD i default):=by
 unfold msT;rw[bkc h,bju,bj8,ah _ _ h];rfl
def aze:msr 3 g=(gsz g:Int)-(bst g:Int):=by unfold msr;rw[if_neg bmx,if_neg bmx]
def ab1:∀(g:List (List Nat)),gsq g<=gsz g*gsz g
 | []=>bil _
 | p::g=>by
  have:=ab1 g;show p.length*p.length+gsq g<=(p.length+gsz g)*(p.length+gsz g);rw[bjt,Nat.mul_add,Nat.mul_add];omega
def acz:∀{g:List (List Nat)},(∀p∈g,p≠[])->g≠[]->0<gsz g
 | [],_,h=>absurd rfl h
 | p::g,h,_=>by
  have:=bm8.2 (h p (bj6 ..));show 0<p.length+gsz g;omega
def b7m (h:∀p∈g,p≠[]) (h2:1<g.length):gsq g<gsz g*gsz g:=by
 match g,h2 with
 | p::q::g,_ =>
  have h1:=bm8.2 (h p (bj6 ..));have hs:0<gsz (q::g):=acz (fun x hx=>h x (bj0 _ hx)) bmu;have hq:=ab1 (q::g);show p.length*p.length+gsq (q::g)<(p.length+gsz (q::g))*(p.length+gsz (q::g));rw[bjt,Nat.mul_add,Nat.mul_add];have:=Nat.mul_pos h1 hs;omega
def arv:bst g<=gsz g:=by
 by_cases h:0<g.length
 · have:=a2v h
   unfold bst gsz;rw[ah _ _ this];exact ab9 (bj3.2 ⟨_,bin this,rfl⟩)
 have:g=[]:=List.length_eq_zero_iff.1 bmq;subst this;exact bil _
def ba6(h:∀p∈g,p≠[])(h2:1<g.length):bst g<gsz g:=by
 match g,h2 with
 | p :: q::g,_ =>
  have h0:=a2v (g:=p::q::g) bmu;have hp:=bm8.2 (h p (bj6 ..));have hs:0<gsz (q::g):=acz (fun x hx=>h x (bj0 _ hx)) bmu;show((p::q::g).getD (gb (p::q::g)) default).length<p.length+gsz (q::g)
  cases hk:gb (p::q::g) with
  |zero=>simp;omega
  | succ k =>
   rw[hk]at h0;have hk2:k<(q::g).length:=by simpa using h0
   have:((q::g).getD k default).length<=gsz (q::g):=by
    rw[ah _ _ hk2];exact ab9 (bj3.2 ⟨_,bin hk2,rfl⟩)
   have e:(p::q::g).getD (k+1) default=(q::g).getD k default:=by simp[List.getD]
   rw[e];omega
def ajy:0<=msr m g:=by
 have h1:=ab1 g;have h2:=arv (g:=g);unfold msr;split
 · have:(gsq g:Int)<=((gsz g*gsz g:Nat):Int):=Int.ofNat_le.2 h1
   rw[bks]at this;omega
 split
 · split<;>omega
 omega
def api(h:∀p∈g,p≠[]):msr m g=0<->g.length<=1:=by
 constructor
 · intro h0
   refine Nat.not_lt.1 fun h2=>?_;have h3:=b7m h h2;have h4:=ba6 h h2;have h5:0<gsz g:=acz h (by intro e;rw[e]at h2;simp at h2);unfold msr at h0;split at h0
   · have:(gsq g:Int)<((gsz g*gsz g:Nat):Int):=bkm.2 h3
     rw[bks]at this;omega
   split at h0
   · first|omega|(rw[if_pos h2]at h0;omega)
   omega
 intro h1
 match g,h1 with
 | [],_=>unfold msr;simp[gsz,gsq,bst,gb,gbT]<;>(intros;rfl)
 | [p],_ =>
  unfold msr;simp[gsz,gsq,bst,gb,gbT,bjj]
def b7o(h:∀p∈g,p≠[]):msr 3 g<=msr 2 g:=by
 have h1:=(api (m:=3) h);have h2:=arv (g:=g);by_cases h3:1<g.length
 · unfold msr
   simp only[h3,if_true];simp;omega
 rw[h1.2 bmq];exact ajy
def ab0 {l:List (List (List Nat))}:∀{i:Nat},i<=l.length->0<=msT m l i
 |0,_=>by rw[a9g];exact Int.le_refl _
 | i+1,h=>by
  have h1:0<=msT m l i:=ab0 bmq;have h2:=ajy (m:=m) (g:=l.getD i default);rw[o3 bmq];omega
def ayw{l:List (List (List Nat))}:∀{i:Nat},i<=l.length->(msT m l i=0<->∀j,j<i->msr m (l.getD j default)=0)
 |0,_=>by rw[a9g];simp
 | i + 1,h=>by
  have h1:=ab0 (m:=m) (l:=l) (i:=i) bmq;have h2:=ajy (m:=m) (g:=l.getD i default);have h3:msT m l i=0<->∀j,j<i->msr m (l.getD j default)=0:=ayw bmq;rw[o3 bmq];constructor
  · intro h0 j hj
    by_cases e:j=i
    · rw[e];omega
    exact h3.1 bmq j bmq
  intro h0;rw[h3.2 fun j hj=>h0 j bmq,h0 i bmq];rfl
def asa {l:List (List (List Nat))} (h:∀g∈l,∀p∈g,p≠[]):∀{i:Nat},i<=l.length->msT 3 l i<=msT 2 l i
 |0,_=>Int.le_refl _
 | i+1,hi=>by
  have h1:=asa h (i:=i) bmq;have h2:=b7o (g:=l.getD i default) (h _ (by rw[ah _ _ bmq];exact bin _));rw[o3 bmq,o3 bmq];omega
variable {c:List Nat}{l:List Int}
def aae {p:List Nat} (h:p∈pgs l c):p≠[]:=by
 obtain⟨x,hx,rfl⟩:=bj3.1 h;exact((m8 _ c).fl x hx).2
def akf:gsz (pgs l c)=c.length:=by
 have:=(m8 (fun i=>l.getD i default) c).len;unfold gsz pgs;rw[List.map_map];exact this
def wq (h:i∈c):c.filter (fun j=>decide (l.getD j default=l.getD i default))∈pgs l c:=by
 obtain⟨x,hx,hk⟩:=(m8 (fun i=>l.getD i default) c).all i h;refine bj3.2 ⟨x,hx, ?_⟩;rw[((m8 _ c).fl x hx).1,hk]
def pf {p:List Nat} (h:p∈pgs l c):∃i∈c,p=c.filter (fun j=>decide (l.getD j default=l.getD i default)):=by
 obtain⟨x,hx,rfl⟩:=bj3.1 h;obtain⟨h1,h2⟩:=(m8 _ c).fl x hx;obtain⟨i,hi⟩:=List.exists_mem_of_ne_nil _ h2;rw[h1]at hi;obtain⟨hi,hk⟩:=bix.1 hi;have hk:l.getD i default=x.1:=by simpa using hk
 exact⟨i,hi,by rw[hk];exact h1⟩
def atr:(pgs l c).Nodup:=(m8 _ c).nd2
def amh:(pgs l c).length<=1<->∀i∈c,∀j∈c,l.getD i default=l.getD j default:=by
 constructor
 · intro h i hi j hj
   have e:∀a b:List Nat,a∈pgs l c->b∈pgs l c->a=b:=fun a b ha hb=>by
    match hp:pgs l c,h with
    | [],_=>rw[hp]at ha;cases ha
    | [x],_=>rw[hp]at ha hb;exact(bjb.1 ha).trans (bjb.1 hb).symm
   have:=e _ _ (wq (l:=l) hi) (wq (l:=l) hj);have hm:i∈c.filter (fun q=>decide (l.getD q default=l.getD i default)):=bix.2 ⟨hi,by simp⟩;rw[this]at hm;simpa using(bix.1 hm).2
 intro h;refine Nat.not_lt.1 fun h2=>?_;have h0:0<(pgs l c).length:=by omega
 obtain⟨i,hi,e1⟩:=pf (bin h0);obtain⟨j,hj,e2⟩:=pf (bin h2);rw[h i hi j hj,<- e2]at e1;have:=(bm6 (atr (l:=l) (c:=c))).1 e1;omega
def av1 {a b:Nat} (ha:a<(pgs l c).length) (hb:b<(pgs l c).length) (h1:i∈(pgs l c).getD a default) (h2:i∈(pgs l c).getD b default):a=b:=by
 rw[ah _ _ ha]at h1;rw[ah _ _ hb]at h2;obtain⟨x,hx,ex⟩:=pf (bin ha);obtain⟨y,hy,ey⟩:=pf (bin hb)
 have e:(pgs l c)[a]=(pgs l c)[b]:=by
  rw[ex]at h1 ⊢;rw[ey]at h2 ⊢;have k1:=(bix.1 h1).2;have k2:=(bix.1 h2).2;simp only[decide_eq_true_eq]at k1 k2;rw[<- k1,<- k2]
 exact(bm6 (atr (l:=l) (c:=c))).1 e
def b1t {a:Nat} (ha:a<(pgs l c).length) (h1:i∈(pgs l c).getD a default):i∈c:=by
 rw[ah _ _ ha]at h1;obtain⟨x,hx,ex⟩:=pf (bin ha);rw[ex]at h1;exact(bix.1 h1).1
def rmJ(g:List (List Nat))(i:Nat):List Nat:=(List.range i).foldl (fun o j=>if j=gb g then o else o++g.getD j default) []
def rmG(g:List (List Nat)):List Nat:=rmJ g g.length
def rmT(l:List (List (List Nat)))(i:Nat):List Nat:=(List.range i).foldl (fun o j=>o++rmG (l.getD j default)) []
def rmA(l:List (List (List Nat))):List Nat:=rmT l l.length
def a1z:rmJ g (i+1)=if i=gb g then rmJ g i else rmJ g i++g.getD i default:=by unfold rmJ;rw[bjj,bj8];rfl
def a1v{l:List (List (List Nat))}:rmT l (i+1)=rmT l i++rmG (l.getD i default):=by unfold rmT;rw[bjj,bj8];rfl
def a5o{x:Nat}:∀{i:Nat},x∈rmJ g i<->∃j,j<i/\j≠gb g/\x∈g.getD j default
 |0=>by simp[rmJ]
 | i + 1=>by
  rw[a1z];have h:x∈rmJ g i<->∃j,j<i/\j≠gb g/\x∈g.getD j default:=a5o;constructor
  · intro hx
    split at hx
    · obtain ⟨j,h1,h2⟩:=h.1 hx
      exact⟨j,by omega,h2⟩
    rcases bj1.1 hx with hx|hx
    · obtain ⟨j,h1,h2⟩:=h.1 hx
      exact⟨j,by omega,h2⟩
    exact⟨i,bmp i,by assumption,hx⟩
  rintro⟨j,h1,h2,h3⟩;by_cases e:j=i
  · subst e
    rw[if_neg h2];exact bj1.2 (.inr h3)
  have:=h.2 ⟨j,by omega,h2,h3⟩;split
  · exact this
  exact bj1.2 (.inl this)
def ac6{l:List (List (List Nat))}{x:Nat}:∀{i:Nat},x∈rmT l i<->∃j,j<i/\x∈rmG (l.getD j default)
 |0=>by simp[rmT]
 | i + 1=>by
  rw[a1v,bj1,ac6 (i:=i)];constructor
  · rintro (⟨j,h1,h2⟩|h)
    · exact⟨j,by omega,h2⟩
    exact⟨i,bmp i,h⟩
  rintro⟨j,h1,h2⟩;by_cases e:j=i
  · subst e;exact .inr h2
  exact .inl ⟨j,by omega,h2⟩
def ad0:∀{i:Nat},i<=g.length->(rmJ g i).length+(if gb g<i then bst g else 0)=((g.take i).map List.length).sum
 |0,_=>by simp[rmJ]
 | i + 1,h=>by
  have:(rmJ g i).length+(if gb g<i then bst g else 0)=((g.take i).map List.length).sum:=ad0 bmq;rw[a1z,bkc bmq,bju,List.sum_append,<- this];by_cases e:i=gb g
  · have c1:(if gb g<i+1 then bst g else 0)=bst g:=if_pos bmq
    have c2:(if gb g<i then bst g else 0)=0:=if_neg bmq;rw[if_pos e,c1,c2];simp only[bk4,List.map_nil,List.sum_cons,List.sum_nil];unfold bst;rw[<- e,ah _ _ bmq];omega
  rw[if_neg e,biq,ah _ _ bmq];simp only[bk4,List.map_nil,List.sum_cons,List.sum_nil]
  have c1:(if gb g<i+1 then bst g else 0)=(if gb g<i then bst g else 0):=by
   by_cases h2:gb g<i
   · rw[if_pos h2,if_pos bmq]
   rw[if_neg h2,if_neg bmq]
  rw[c1];omega
def b0r:(rmG g).length+bst g=gsz g:=by
 by_cases h:0<g.length
 · have:=ad0 (g:=g) (bil _)
   rw[if_pos (a2v h),biz]at this;exact this
 have:g=[]:=List.length_eq_zero_iff.1 bmq;subst this;rfl
def ad6 {l:List (List (List Nat))}:∀{i:Nat},i<=l.length->((rmT l i).length:Int)=msT 3 l i
 |0,_=>rfl
 | i+1,h=>by
  have h1:((rmT l i).length:Int)=msT 3 l i:=ad6 bmq;have h2:=b0r (g:=l.getD i default);rw[a1v,o3 bmq,<- h1,biq,aze];omega
def at0(hc:c.Nodup):∀{i:Nat},i<=(pgs l c).length->(rmJ (pgs l c) i).Nodup
 |0,_=>List.nodup_nil
 | i + 1,h=>by
  have h1:(rmJ (pgs l c) i).Nodup:=at0 hc bmq;rw[a1z];split
  · exact h1
  rename_i hg;refine bml.2 ⟨h1, ?_,fun a ha b hb e=>?_⟩
  · rw [ah _ _ bmq]
    obtain⟨x,hx,ex⟩:=pf (bin (show i<(pgs l c).length by omega));rw[ex];exact List.Pairwise.filter _ hc
  subst e;obtain⟨j,hj,_,hm⟩:=a5o.1 ha;have:=av1 bmq bmq hm hb;omega
def aco {x:Nat} (h:x∈rmG (pgs l c)):x∈c:=by
 obtain⟨j,h1,_,h2⟩:=a5o.1 h;exact b1t h1 h2
end
end
section
variable {t:Tbl}{d:Fd}{s:AS}
def EOk(t:Tbl):Prop:=∀r∈t.rows,∀v∈r.vals,vr v
section
variable {i:Nat}
def ani (hi:i<t.rows.length):(gm t s t.rows.length).getD i default=pe (t.rows.getD i default).vals s:=by
 rw[ah _ _ (by rw[jy];exact hi)];simp[gm]
def j7(t:Tbl)(s:AS)(i:Nat):List Val:=sel (t.rows.getD i default).vals s
def aaw(hi:i<t.rows.length):t.rows.getD i default∈t.rows:=by rw[ah _ _ hi];exact bin hi
variable {j:Nat}
def akr (hT:TOk t) (he:EOk t) (hi:i<t.rows.length) (hj:j<t.rows.length):(gm t s t.rows.length).getD i default=(gm t s t.rows.length).getD j default<->j7 t s i=j7 t s j:=by
 rw[ani hi,ani hj];exact auf (by rw[hT.width hi,hT.width hj]) (by have:=hT.na;rw[hT.width hi];omega) (he _ (aaw hi)) (he _ (aaw hj))
def a3k (hT:TOk t) (he:EOk t) (hi:i<t.rows.length) (hj:j<t.rows.length):(ap (a7 t s)).getD i default=(ap (a7 t s)).getD j default<->j7 t s i=j7 t s j:=by
 rw[<- akr hT he hi hj];have h:=b4w (ks:=gm t s t.rows.length) (i:=i) (j:=j) (by rw[jy];exact hi) (by rw[jy];exact hj);rw[jy]at h;exact h
variable {c:List Nat}
def o6 (hc:c∈(a7 t s).cls) (hi:i∈c):i<t.rows.length:=by
 obtain⟨k,hk,_⟩:=gv.1 hc;rw[hk,jy]at hi;exact bje.1 (bix.1 hi).1
def arf (hc:c∈(a7 t s).cls):c.Nodup:=by
 obtain⟨k,hk,_⟩:=gv.1 hc;rw[hk];exact List.Pairwise.filter _ List.nodup_range
def arq(hT:TOk t)(he:EOk t)(hc:c∈(a7 t s).cls)(hi:i∈c)(hj:j<t.rows.length):j∈c<->j7 t s i=j7 t s j:=by
 have hlt:=o6 hc hi;obtain⟨k,hk,_⟩:=gv.1 hc;rw[<- akr hT he hlt hj];rw[hk]at hi ⊢;have h1:(gm t s t.rows.length).getD i default=k:=by simpa using(bix.1 hi).2
 rw[h1];constructor
 · intro h
   have h2:(gm t s t.rows.length).getD j default=k:=by simpa using(bix.1 h).2
   exact h2.symm
 intro h;exact bix.2 ⟨bje.2 (by rw[jy];exact hj),decide_eq_true h.symm⟩
def ahz (hT:TOk t) (he:EOk t) (hi:i<t.rows.length) (hj:j<t.rows.length) (hne:i≠j) (h:j7 t s i=j7 t s j):∃c∈(a7 t s).cls,i∈c/\j∈c:=by
 have hk:=(akr (s:=s) hT he hi hj).2 h;have m1:i∈(List.range (gm t s t.rows.length).length).filter (fun q=>decide ((gm t s t.rows.length).getD q default=(gm t s t.rows.length).getD i default)):=bix.2 ⟨bje.2 (by rw[jy];exact hi),by simp⟩;have m2:j∈(List.range (gm t s t.rows.length).length).filter (fun q=>decide ((gm t s t.rows.length).getD q default=(gm t s t.rows.length).getD i default)):=bix.2 ⟨bje.2 (by rw[jy];exact hj),decide_eq_true hk.symm⟩;refine⟨_,gv.2 ⟨(gm t s t.rows.length).getD i default,rfl, ?_⟩,m1,m2⟩
 have s2:[i,j]⊆((List.range (gm t s t.rows.length).length).filter (fun q=>decide ((gm t s t.rows.length).getD q default=(gm t s t.rows.length).getD i default))):=fun x hx=>by
  rcases biv.1 hx with rfl|hx
  · exact m1
  obtain rfl:=bjb.1 hx;exact m2
 exact ba5 hne s2
def ahr(hT:TOk t){x y:AS}(hi:i<t.rows.length)(hj:j<t.rows.length):j7 t (x|||y) i=j7 t (x|||y) j<->j7 t x i=j7 t x j/\j7 t y i=j7 t y j:=by
 have hl:(t.rows.getD i default).vals.length=(t.rows.getD j default).vals.length:=by rw[hT.width hi,hT.width hj]
 unfold j7;rw[abp hl,abp hl,abp hl]
 have ho:∀k:Nat,ir (x|||y) (k:Int)=true<->ir x (k:Int)=true\/ir y (k:Int)=true:=fun k=>by
  simp only[ir,bl5,bit,biw,bjx,decide_eq_true_eq];constructor
  · rintro ⟨h1,h2|h2⟩
    · exact .inl ⟨h1,h2⟩
    exact .inr ⟨h1,h2⟩
  rintro(⟨h1,h2⟩|⟨h1,h2⟩)
  · exact⟨h1, .inl h2⟩
  exact⟨h1, .inr h2⟩
 constructor
 · intro h
   exact⟨fun k hk hb=>h k hk ((ho k).2 (.inl hb)),fun k hk hb=>h k hk ((ho k).2 (.inr hb))⟩
 rintro⟨h1,h2⟩ k hk hb
 rcases(ho k).1 hb with hb|hb
 · exact h1 k hk hb
 exact h2 k hk hb
def a5m:vc t d=true<->∀i j,i<t.rows.length->j<t.rows.length->j7 t d.lhs i=j7 t d.lhs j->j7 t d.rhs i=j7 t d.rhs j:=by
 unfold vc awv a8p j7;simp only[bjr,bje,bjx,bjq,decide_eq_true_eq,decide_eq_false_iff_not];constructor
 · intro h i j hi hj e
   rcases h i hi j hj with h|h
   · exact absurd e h
   exact h
 intro h i hi j hj;by_cases e:sel (t.rows.getD i default).vals d.lhs=sel (t.rows.getD j default).vals d.lhs
 · exact .inr (h i j hi hj e)
 exact .inl e
def rfB(p:Prt)(l:List Int):Bool:=p.cls.all fun c=>c.all fun i=>decide (l.getD i default=l.getD (c.getD 0 default) default)
def aol (h:c≠[]):c.getD 0 default∈c:=by
 rw[ah _ _ (bm8.2 h)];exact bin _
def b7k(hT:TOk t)(he:EOk t):rfB (a7 t d.lhs) (ap (a7 t d.rhs))=vc t d:=by
 rw[bma,a5m];unfold rfB;simp only[bjr,decide_eq_true_eq];constructor
 · intro h i j hi hj e
   by_cases hne:i=j
   · rw[hne]
   obtain⟨c,hc,h1,h2⟩:=ahz hT he hi hj hne e;exact(a3k hT he hi hj).1 ((h c hc i h1).trans (h c hc j h2).symm)
 intro h c hc i hi;have h0:=aol (List.ne_nil_of_mem hi);have hl:=o6 hc hi;have hl0:=o6 hc h0;exact(a3k hT he hl hl0).2 (h _ _ hl hl0 ((arq hT he hc hi hl0).1 h0))
def fj(t:Tbl)(d:Fd):List (List (List Nat)):=apx (a7 t d.lhs) (a7 t (d.lhs|||d.rhs))
def se {p q:Prt} (h:j<p.cls.length):(apx p q).getD j default=pgs (ap q) (p.cls.getD j default):=by
 unfold apx;rw[ah _ _ (by simpa using h),ah _ _ h];simp
def b4l {p q:Prt}:∀g∈apx p q,∀x∈g,x≠[]:=fun g hg x hx=>by
 obtain⟨c,hc,rfl⟩:=bj3.1 hg;exact aae hx
def b2t(hT:TOk t)(he:EOk t):(∀c∈(a7 t d.lhs).cls,(pgs (ap (a7 t (d.lhs|||d.rhs))) c).length<=1)<->vc t d=true:=by
 rw[a5m];constructor
 · intro h i j hi hj e
   by_cases hne:i=j
   · rw[hne]
   obtain⟨c,hc,h1,h2⟩:=ahz hT he hi hj hne e;exact((ahr hT hi hj).1 ((a3k hT he hi hj).1 (amh.1 (h c hc) i h1 j h2))).2
 intro h c hc;refine amh.2 fun i hi j hj=>?_;have hli:=o6 hc hi;have hlj:=o6 hc hj;have e:=(arq hT he hc hi hlj).1 hj;exact(a3k hT he hli hlj).2 ((ahr hT hli hlj).2 ⟨e,h i j hli hlj e⟩)
def jd(t:Tbl)(d:Fd)(m:Int):Int:=msT m (fj t d) (fj t d).length
def b71(hT:TOk t)(he:EOk t){m:Int}:jd t d m=0<->vc t d=true:=by
 rw[<- b2t hT he];unfold jd;rw[ayw (bil _)];have hl:(fj t d).length=(a7 t d.lhs).cls.length:=by simp[fj,apx]
 constructor
 · intro h c hc
   obtain⟨j,hj,rfl⟩:=bj7 hc;have:=h j bmq;unfold fj at this;rw[se hj,api (fun p hp=>aae hp),ah _ _ hj]at this;exact this
 intro h j hj;unfold fj;rw[se bmq,api (fun p hp=>aae hp)];exact h _ (by rw[ah _ _ bmq];exact bin _)
def a5q{m:Int}:0<=jd t d m:=ab0 (bil _)
def b0s:jd t d 3<=jd t d 2:=asa b4l (bil _)
def uz(t:Tbl)(d:Fd):List Nat:=rmA (fj t d)
def ag5:i∈uz t d<->∃c∈(a7 t d.lhs).cls,i∈rmG (pgs (ap (a7 t (d.lhs|||d.rhs))) c):=by
 unfold uz rmA;rw[ac6];have hl:(fj t d).length=(a7 t d.lhs).cls.length:=by simp[fj,apx]
 constructor
 · rintro ⟨j,hj,h⟩
   unfold fj at h;rw[se bmq]at h;exact⟨_,by rw[ah _ _ bmq];exact bin _,h⟩
 rintro⟨c,hc,h⟩;obtain⟨j,hj,rfl⟩:=bj7 hc;refine⟨j,by omega, ?_⟩;unfold fj;rw[se hj,ah _ _ hj];exact h
def a1a (h:i∈uz t d):i<t.rows.length:=by
 obtain⟨c,hc,h⟩:=ag5.1 h;exact o6 hc (aco h)
def awm:((uz t d).length:Int)=jd t d 3:=ad6 (bil _)
def am3(hT:TOk t)(he:EOk t):(uz t d).Nodup:=by
 have hl:(fj t d).length=(a7 t d.lhs).cls.length:=by simp[fj,apx]
 have main:∀{i:Nat},i<=(a7 t d.lhs).cls.length->(rmT (fj t d) i).Nodup:=by
  intro i
  induction i with
  |zero=>intro _;exact List.nodup_nil
  | succ i ih =>
   intro h;rw[a1v];have hc:(a7 t d.lhs).cls.getD i default∈(a7 t d.lhs).cls:=by rw[ah _ _ bmq];exact bin _
   have ea:(fj t d).getD i default=pgs (ap (a7 t (d.lhs|||d.rhs))) ((a7 t d.lhs).cls.getD i default):=se bmq;refine bml.2 ⟨ih bmq, ?_,fun a ha b hb e=>?_⟩
   · rw [ea]
     exact at0 (arf hc) (bil _)
   subst e;rw[ea]at hb;have hb:=aco hb;obtain⟨j,hj,hm⟩:=ac6.1 ha;unfold fj at hm;rw[se bmq]at hm;have hm:=aco hm;have hcj:(a7 t d.lhs).cls.getD j default∈(a7 t d.lhs).cls:=by rw[ah _ _ bmq];exact bin _
   have hlt:=o6 hc hb
   have e2:(a7 t d.lhs).cls.getD j default=(a7 t d.lhs).cls.getD i default:=by
    obtain⟨k1,g1,_⟩:=gv.1 hcj;obtain⟨k2,g2,_⟩:=gv.1 hc;rw[g1]at hm;rw[g2]at hb;have m1:=(bix.1 hm).2;have m2:=(bix.1 hb).2;simp only[decide_eq_true_eq]at m1 m2;rw[g1,g2,<- m1,<- m2]
   rw[ah _ _ bmq,ah _ _ bmq]at e2;have:=(bm6 (adp (ks:=gm t d.lhs t.rows.length))).1 e2;omega
 exact main (by rw[hl];exact bil _)
def awt(hT:TOk t)(he:EOk t)(hi:i<t.rows.length)(hj:j<t.rows.length)(ni:i∉uz t d)(nj:j∉uz t d)(e:j7 t d.lhs i=j7 t d.lhs j):j7 t d.rhs i=j7 t d.rhs j:=by
 by_cases hne:i=j
 · rw[hne]
 obtain⟨c,hc,h1,h2⟩:=ahz hT he hi hj hne e
 have best:∀x,x∈c->x∉uz t d->x∈(pgs (ap (a7 t (d.lhs|||d.rhs))) c).getD (gb (pgs (ap (a7 t (d.lhs|||d.rhs))) c)) default:=fun x hx hn=>by
  obtain⟨q,hq,eq⟩:=bj7 (wq (l:=ap (a7 t (d.lhs|||d.rhs))) hx)
  have hm:x∈(pgs (ap (a7 t (d.lhs|||d.rhs))) c).getD q default:=by
   rw[ah _ _ hq,eq];exact bix.2 ⟨hx,by simp⟩
  by_cases hqb:q=gb (pgs (ap (a7 t (d.lhs|||d.rhs))) c)
  · rw[<- hqb];exact hm
  exact absurd (ag5.2 ⟨c,hc,a5o.2 ⟨q,hq,hqb,hm⟩⟩) hn
 have b1:=best i h1 ni;have b2:=best j h2 nj;have hlt:gb (pgs (ap (a7 t (d.lhs|||d.rhs))) c)<(pgs (ap (a7 t (d.lhs|||d.rhs))) c).length:=a2v (List.length_pos_of_mem (wq (l:=ap (a7 t (d.lhs|||d.rhs))) h1));rw[ah _ _ hlt]at b1 b2;obtain⟨x,hx,ex⟩:=pf (bin hlt);rw[ex]at b1 b2;have k1:=(bix.1 b1).2;have k2:=(bix.1 b2).2;simp only[decide_eq_true_eq]at k1 k2;exact((ahr hT hi hj).1 ((a3k hT he hi hj).1 (k1.trans k2.symm))).2
def gf(t:Tbl)(d:Fd):List Int:=(uz t d).map fun i=>(t.rows.getD i default).id
def tu(t:Tbl)(g:List Int):Tbl:={ t with rows:=t.rows.filter fun r=>!decide (r.id∈g) }
def ano (hT:TOk t) (hi:i<t.rows.length) (hj:j<t.rows.length) (h:(t.rows.getD i default).id=(t.rows.getD j default).id):i=j:=by
 have hs:=ik hT.rs;rw[ah _ _ hi,ah _ _ hj]at h;have hp:=bji.1 hs
 rcases blb i j with h1|h1|h1
 · have:=hp i j hi hj h1;omega
 · exact h1
 have:=hp j i hj hi h1;omega
def b3u(hT:TOk t)(hi:i<t.rows.length):(t.rows.getD i default).id∈gf t d<->i∈uz t d:=by
 unfold gf;rw[bj3];constructor
 · rintro ⟨j,hj,e⟩
   rw[<- ano hT (a1a hj) hi e];exact hj
 intro h;exact⟨i,h,rfl⟩
def aha (hT:TOk t) (he:EOk t):(gf t d).Nodup:=by
 refine blf.2 (List.Pairwise.imp_of_mem (fun {a b} ha hb hab e=>hab ?_) (am3 hT he));exact ano hT (a1a ha) (a1a hb) e
variable {g:List Int}
def b06 (hT:TOk t):TOk (tu t g):=by
 have hl:(tu t g).rows.length<=t.rows.length:=bk9 _ _;refine⟨hT.nm,hT.na,bj2 hl hT.nr,hT.nms,oo (fun x hx=>fk hT.rs x (bix.1 hx).1) ?_⟩;exact List.Pairwise.filter _ (ik hT.rs)
def b6t(he:EOk t):EOk (tu t g):=fun r hr=>he r (bix.1 hr).1
def aum (hT:TOk t) (he:EOk t) (hg:∀x,x∈g<->x∈gf t d):vc (tu t g) d=true:=by
 rw[a5m];intro i j hi hj e
 have row:∀q,q<(tu t g).rows.length->∃k,k<t.rows.length/\(tu t g).rows.getD q default=t.rows.getD k default/\k∉uz t d:=fun q hq=>by
  have hm:=aaw hq;obtain⟨h1,h2⟩:=bix.1 hm;obtain⟨k,hk,ek⟩:=bj7 h1;refine⟨k,hk,by rw[ah _ _ hk,ek],fun hk2=>?_⟩;have:=(b3u (d:=d) hT hk).2 hk2;rw[ah _ _ hk,ek,<- hg]at this;rw[decide_eq_true this]at h2;exact absurd h2 bmx
 obtain⟨a,ha,ea,na⟩:=row i hi;obtain⟨b,hb,eb,nb⟩:=row j hj;unfold j7 at e ⊢;rw[ea,eb]at e ⊢;exact awt hT he ha hb na nb e
def avj(hT:TOk t)(he:EOk t)(hg:∀x,x∈g<->x∈gf t d)(hn:g.length=(gf t d).length):(tu t g).rows.length+g.length=t.rows.length:=by
 have h1:(t.rows.filter fun r=>decide (r.id∈g)).length=(gf t d).length:=by
  have hp:(((t.rows.filter fun r=>decide (r.id∈g)).map (·.id))).Perm (gf t d):=by
   refine(List.perm_ext_iff_of_nodup ?_ (aha hT he)).2 fun x=>?_
   · refine blf.2 (List.Pairwise.imp (fun h=>?_) (List.Pairwise.filter _ (ik hT.rs)))
     intro e;exact absurd e bmq
   rw[<- hg];simp only[bj3,bix,decide_eq_true_eq];constructor
   · rintro⟨r,⟨_,h⟩,rfl⟩;exact h
   intro h;have h2:=(hg x).1 h;unfold gf at h2;obtain⟨i,hi,rfl⟩:=bj3.1 h2;exact⟨_,⟨aaw (a1a hi),h⟩,rfl⟩
  have:=hp.length_eq;simpa using this
 have h2:(tu t g).rows.length+(t.rows.filter fun r=>decide (r.id∈g)).length=t.rows.length:=by
  have:∀l:List Row,(l.filter fun r=>!decide (r.id∈g)).length+(l.filter fun r=>decide (r.id∈g)).length=l.length:=fun l=>by
   induction l with
   |nil=>rfl
   | cons r l ih =>
    by_cases h:r.id∈g
    · simp[h];omega
    simp[h];omega
  exact this _
 omega
def kj(l:List Int)(c:List Nat)(j:Nat)(k:Int):Nat:=((c.take j).filter fun i=>decide (l.getD i default=k)).length
def tg(l:List Int)(c:List Nat)(j:Nat):Nat:=(List.range j).foldl (fun m q=>max m (kj l c (q+1) (l.getD (c.getD q default) default))) 0
variable {l:List Int}
def yu:tg l c (j+1)=max (tg l c j) (kj l c (j+1) (l.getD (c.getD j default) default)):=by unfold tg;rw[bjj,bj8];rfl
def a5c{k:Int}(h:j<c.length):kj l c (j+1) k=if l.getD (c.getD j default) default=k then kj l c j k+1 else kj l c j k:=by
 unfold kj;rw[bkc h,bk8,biq,ah _ _ h];split
 · rename_i e
   rw[List.filter_cons_of_pos (by simpa using e)];rfl
 rename_i e;rw[List.filter_cons_of_neg (by simpa using e)];rfl
def akg {k:Int}:∀{j:Nat},j<=c.length->kj l c j k<=tg l c j
 |0,_=>by simp[kj]
 | j+1,h=>by
  have:kj l c j k<=tg l c j:=akg bmq;rw[yu];by_cases e:l.getD (c.getD j default) default=k
  · rw[e];omega
  rw[a5c bmq,if_neg e];omega
def b2o{k:Int}:kj l c j k<=(c.filter fun i=>decide (l.getD i default=k)).length:=(List.Sublist.filter _ (List.take_sublist j c)).length_le
def an3:∀{j:Nat},j<=c.length->tg l c j<=bst (pgs l c)
 |0,_=>bio _
 | j+1,h=>by
  have h1:tg l c j<=bst (pgs l c):=an3 bmq;have hm:c.getD j default∈c:=by rw[ah _ _ bmq];exact bin _
  have h2:=b2o (l:=l) (c:=c) (k:=l.getD (c.getD j default) default) (j:=j+1);obtain⟨q,hq,eq⟩:=bj7 (wq (l:=l) hm);have h3:=bbv hq;rw[ah _ _ hq,eq]at h3;rw[yu];unfold bst at h1 ⊢;omega
def b14:tg l c c.length=bst (pgs l c):=by
 refine Nat.le_antisymm (an3 (bil _)) ?_;by_cases h:0<(pgs l c).length
 · have hb:=a2v h
   obtain⟨i,hi,ei⟩:=pf (bin hb);unfold bst;rw[ah _ _ hb,ei];have:=akg (l:=l) (c:=c) (k:=l.getD i default) (bil _);unfold kj at this;rwa [biz]at this
 have:pgs l c=[]:=List.length_eq_zero_iff.1 bmq;rw[this];exact bio _
def uy(p:Prt)(l:List Int)(k:Nat):Int:=(List.range k).foldl (fun s j=>s+(((p.cls.getD j default).length:Int)-(tg l (p.cls.getD j default) (p.cls.getD j default).length:Int))) 0
def a56{p:Prt}{k:Nat}:uy p l (k+1)=uy p l k+(((p.cls.getD k default).length:Int)-(tg l (p.cls.getD k default) (p.cls.getD k default).length:Int)):=by unfold uy;rw[bjj,bj8];rfl
def ari {p q:Prt}:∀{k:Nat},k<=p.cls.length->uy p (ap q) k=msT 3 (apx p q) k
 |0,_=>rfl
 | k+1,h=>by
  have hl:(apx p q).length=p.cls.length:=by simp[apx]
  rw[a56,o3 bmq,ari bmq,se bmq,b14,aze,akf]
def b2r:uy (a7 t d.lhs) (ap (a7 t (d.lhs|||d.rhs))) (a7 t d.lhs).cls.length=jd t d 3:=by
 rw[ari (bil _)];unfold jd fj;rw[show(apx (a7 t d.lhs) (a7 t (d.lhs|||d.rhs))).length=(a7 t d.lhs).cls.length by simp[apx]]
end
end
end Go.Hx
