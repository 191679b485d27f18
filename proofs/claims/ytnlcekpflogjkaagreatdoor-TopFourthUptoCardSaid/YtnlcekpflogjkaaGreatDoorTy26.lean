/- A part of the proof: Bz2 Bz3 Hx27 Y1 Bz4. -/
import Derived.Test.YtnlcekpflogjkaaGreatDoorTy25
set_option linter.all false
set_option maxRecDepth 100000
set_option maxHeartbeats 1000000
namespace Go.Hx
section
def sgl(f:Fd):List Fd:=(am f.rhs).map fun a=>⟨f.lhs,a0p a⟩
def se(fs ms:List Fd):List Fd:=ms++fs.flatMap sgl
def az5{fs ms:List Fd}{m:Fd}:m∈se fs ms<->m∈ms\/∃f∈fs,∃a,a<32/\f.rhs.getLsbD a=true/\m=⟨f.lhs,a0p a⟩:=by
 unfold se sgl;simp only[btd,bwi,bti,oc];constructor
 · rintro (h|⟨f,hf,a,⟨h1,h2⟩,rfl⟩)
   · exact .inl h
   exact .inr ⟨f,hf,a,h1,h2,rfl⟩
 rintro(h|⟨f,hf,a,h1,h2,rfl⟩)
 · exact .inl h
 exact .inr ⟨f,hf,a,⟨h1,h2⟩,rfl⟩
def su(T:List AS)(r:AS):List AS:=if r∈T then T else T++[r]
def aby{T:List AS}{r z:AS}:z∈su T r<->z∈T\/z=r:=by
 unfold su;split
 · rename_i h
   constructor
   · exact .inl
   rintro(h2|rfl)
   · exact h2
   exact h
 simp
def yl {T:List AS} {r:AS} (h:T.Nodup):(su T r).Nodup:=by
 unfold su;split
 · exact h
 rename_i hr;rw[List.nodup_append];exact⟨h,by simp,fun a ha b hb=>by simp at hb;subst hb;rintro rfl;exact hr ha⟩
def adv(s:AS)(o:List AS)(T:List AS):List AS:=T.foldl (fun o r=>su o (r&&&~~~s)) o
def ue(T:List AS)(s:AS):List AS:=adv s [] T
def ack{s:AS}:∀{T o:List AS},(o.Nodup->(adv s o T).Nodup)/\∀z,z∈adv s o T<->z∈o\/∃r∈T,z=r&&&~~~s
 | [],o=>⟨fun h=>h,fun z=>by simp[adv]⟩
 | r :: T,o=>by
  obtain⟨h1,h2⟩:=ack (s:=s) (T:=T) (o:=su o (r&&&~~~s));refine⟨fun h=>h1 (yl h),fun z=>?_⟩;show z∈adv s (su o (r&&&~~~s)) T<->_;rw[h2 z,aby];simp only[bt7];constructor
  · rintro ((h|h)|⟨q,hq,h⟩)
    · exact .inl h
    · exact .inr ⟨r, .inl rfl,h⟩
    exact .inr ⟨q, .inr hq,h⟩
  rintro(h|⟨q,rfl|hq,h⟩)
  · exact .inl (.inl h)
  · exact .inl (.inr h)
  exact .inr ⟨q,hq,h⟩
def ad0 {T:List AS} {s z:AS}:z∈ue T s<->∃r∈T,z=r&&&~~~s:=by
 have:=(ack (s:=s) (T:=T) (o:=[])).2 z;simpa [ue]using this
def ag6(T:List AS)(s:AS):(ue T s).Nodup:=(ack (s:=s) (T:=T) (o:=[])).1 List.nodup_nil
def a2h(d:Fd)(r k:AS):AS:=(r&&&(d.lhs|||d.rhs))|||(k&&&~~~(d.lhs|||d.rhs))
def agB(d:Fd)(r k:AS):Bool:=decide ((r ^^^ k)&&&d.lhs=0)
def b58 {d:Fd} {r k:AS} {i:Nat} (hi:i<32):(a2h d r k).getLsbD i=(if d.lhs.getLsbD i||d.rhs.getLsbD i then r.getLsbD i else k.getLsbD i):=by
 unfold a2h;rw[bv7,ic hi,btm,bv7];cases d.lhs.getLsbD i<;>cases d.rhs.getLsbD i<;>simp
structure blj (fs ms:List Fd) (T:List AS):Prop where
 fd:∀d∈fs,∀r∈T,∀k∈T,agB d r k=true->(r ^^^ k)&&&d.rhs=0
 mv:∀d∈ms,∀r∈T,∀k∈T,agB d r k=true->a2h d r k∈T
def blo(fs:List Fd)(bs:List AS)(a:Nat):Prop:=a0p a∈bs/\∃f∈fs,f.rhs.getLsbD a=true/\f.lhs.getLsbD a=false
structure JT (fs:List Fd) (bs:List AS) (rest:AS) (T:List AS):Prop where
 z:(0:AS)∈T
 r:∀r∈T,sub r rest/\∀b∈bs,b&&&r=0\/sub b r
 top:∃L∈T,(∀r∈T,sub r L)/\∀a,a<32->rest.getLsbD a=true->L.getLsbD a=false->blo fs bs a
section
variable {fs ms:List Fd}{bs:List AS}{rest:AS}{T:List AS}
def brc(T:List AS)(b:AS):Prop:=∀r∈T,∀k∈T,((r&&&b)|||(k&&&~~~b))∈T
structure brq (fs ms:List Fd) (bs:List AS) (rest:AS) (T:List AS):Prop where
 j:JT fs bs rest T
 c:blj fs ms T
def qB(T:List AS)(L x rest y:AS):Prop:=y≠0/\sub y rest/\(L&&&~~~(x|||y))∈T
end
end
section
def o6:List AS->Nat
 | []=>0
 |b::l=>b.toNat+o6 l
def abz:∀(l k:List AS),o6 (l++k)=o6 l+o6 k
 | [],k=>by simp[o6]
 |b::l,k=>by simp[o6,abz l k];omega
def OkB(l:List AS):Prop:=o6 l<4294967296/\∀b∈l,b≠0
section
variable {l:List AS}
def ah4(h:OkB l):l.length<=4294967296:=by
 have:∀l:List AS,(∀b∈l,b≠0)->l.length<=o6 l:=by
  intro l
  induction l with
  |nil=>intro _;simp[o6]
  | cons b l ih =>
   intro h;have h1:=ih fun x hx=>h x (by simp[hx]);have h2:=a8k (h b bx0);simp only[bto,o6];omega
 have h1:=this l h.2;have:=h.1;omega
def bg6(m:Fd)(l:List AS):o6 (rdB m l)=o6 l:=by
 have:∀l:List AS,o6 (l.map (hdB m))+o6 (l.flatMap (tlB m))=o6 l:=by
  intro l
  induction l with
  |nil=>rfl
  | cons b l ih =>
   rw[buf,bv8,abz];simp only[o6];by_cases h:dz m b=true
   · have:=aaz b m.rhs
     simp only[hdB,tlB,h,if_true,o6];omega
   rw[Bool.not_eq_true]at h;simp only[hdB,tlB,h,o6,buv,if_false];omega
 unfold rdB;rw[abz];exact this l
variable {m:Fd}
def b0a(h:OkB l):OkB (rdB m l):=by
 refine⟨by rw[bg6];exact h.1,fun b hb=>?_⟩;unfold rdB at hb
 rcases btd.1 hb with hb|hb
 · obtain ⟨b0,h0,rfl⟩:=bti.1 hb
   unfold hdB;split
   · rename_i hs;exact(a0z.1 hs).2.1
   exact h.2 _ h0
 obtain⟨b0,h0,hb⟩:=bwi.1 hb;unfold tlB at hb;split at hb
 · rename_i hs
   simp at hb;subst hb;exact(a0z.1 hs).2.2
 cases hb
def ak3 (rest:AS):OkB (k6 rest):=by
 unfold k6;split
 · exact⟨by simp[o6],fun _ h=>by cases h⟩
 rename_i h;exact⟨by simp only[o6];have:=rest.isLt;omega,fun b hb=>by simp at hb;subst hb;exact h⟩
def a9m{rest:AS}(h:¬rest=0):k6 rest=[]++[rest]:=by rw[k6,if_neg h];rfl
def a94{rest:AS}(h:rest=0):k6 rest=[]:=by rw[k6,if_pos h]
def abx(m:Fd)(l:List AS):stB m l 0=l:=by simp[stB]
def a3g(m:Fd)(l:List AS):stB m l l.length=rdB m l:=by simp[stB,rdB]
def v8(m:Fd)(l:List AS)(i:Nat):((l.take i).map (hdB m)).length=min i l.length:=by simp
variable {i:Nat}
def bdh (h:i<l.length):(stB m l i).getD i default=l.getD i default:=by
 have e:((l.take i).map (hdB m)).length=i:=by rw[v8];omega
 unfold stB;rw[bts,bsv,bv0 (by rw[e];omega),e,bw2,bvb (by rw[bvh];omega),bvz,bur,<- bsv]
def stB_get' {a:Nat} (hia:i<=a) (h:a<l.length):(stB m l i).getD a default=l.getD a default:=by
 have e:((l.take i).map (hdB m)).length=i:=by rw[v8];omega
 unfold stB;rw[bts,bsv,bv0 (by rw[e];omega),e,bvb (by rw[bvh];omega),bvz,show i+(a-i)=a by omega,<- bsv]
def au8 (m:Fd) (l:List AS) (i:Nat):l.length<=(stB m l i).length:=by
 unfold stB;rw[bsy,bsy,v8,bvh];omega
def ajp (h:i<l.length):l.drop i=l.getD i default::l.drop (i+1):=by
 rw[bva h];congr 1;simp[bsv,bsu h]
def pz (h:i<l.length) (hs:dz m (l.getD i default)=false):stB m l (i+1)=stB m l i:=by
 unfold stB;rw[aj h,bum,bwj,ajp h];simp only[buf,List.map_nil,bv8,bwv,hdB,tlB,hs,buv,if_false,btu,bts,but,buz]
def alk (h:i<l.length) (hs:dz m (l.getD i default)=true):stB m l (i+1)=(stB m l i).set i (l.getD i default&&&m.rhs)++[l.getD i default&&&~~~m.rhs]:=by
 have e:((l.take i).map (hdB m)).length=i:=by rw[v8];omega
 unfold stB;rw[aj h,bum,bwj,ajp h];simp only[buf,List.map_nil,bv8,bwv,hdB,tlB,hs,if_true,btu];generalize hA:(l.take i).map (hdB m)=A at e ⊢;generalize (l.take i).flatMap (tlB m)=B;generalize l.drop (i+1)=D;subst e;rw[bts A,bts A,bts A,List.set_append_right _ _ (bsw _),bw2,bts A];simp
def bhb(m:Fd)(l:List AS):∀i,(stB m l i).length<=(rdB m l).length:=by
 intro i;by_cases hi:i<l.length
 · have:∀k,i+k<=l.length->(stB m l i).length<=(stB m l (i+k)).length:=by
    intro k
    induction k with
    |zero=>intro _;exact bsw _
    | succ k ih =>
     intro hk;have h1:=ih bww;refine btc h1 ?_;cases hs:dz m (l.getD (i+k) default)
     · rw[show i+(k+1)=i+k+1 by omega,pz bww hs];exact bsw _
     rw[show i+(k+1)=i+k+1 by omega,alk bww hs,bsy,bus];omega
   have h2:=this (l.length-i) bww;rw[show i+(l.length-i)=l.length by omega,a3g]at h2;exact h2
 unfold stB rdB;rw[buq bww,bvw bww];simp
def a71(l:List AS)(i:Nat):Nat->Nat->PV:=fun k c=>if k<i then .any else sC (l.getD k default) c
def be5 (l:List AS) (i:Nat):a71 l i i 0=asC (l.getD i default):=by
 unfold a71;rw[if_neg (bvd i)]
def aaa {cl:Bool} {n:Nat} (hn:n=l.length):CoP (.sl n 1 cl (a71 l i)) (.sl l.length 1 false (a71 l (i+1))):=by
 subst hn;refine CoP.sl rfl (.inl rfl) (fun h=>by cases h) fun k c hk hc=>?_;unfold a71;by_cases h1:k<i
 · rw[if_pos h1,if_pos (show k<i+1 by omega)];exact CoP.refl _
 rw[if_neg h1];by_cases h2:k<i+1
 · rw[if_pos h2];exact CoP.any_of
 rw[if_neg h2];exact CoP.refl _
def aoi {L:List AS} {k:Nat} {v:PV} (hil:i<L.length) (hk:k=i:=by rfl):CoP (.sl L.length 1 false (eu (lf sC (stB m L i)) k 0 [v])) (.sl L.length 1 false (a71 L (i+1))):=by
 subst hk;refine CoP.sl rfl (.inl rfl) (fun h=>h) fun a c ha hc=>?_;obtain rfl:c=0:=by omega
 unfold a71;by_cases h:a<k+1
 · rw[if_pos h];exact CoP.any_of
 rw[if_neg h];unfold eu lf;rw[if_neg bww,stB_get' bww ha];exact CoP.refl _
def b1f{A B:List AS}{a:Nat}(h:a<A.length):(A++B).getD a default=A.getD a default:=by simp[bsv,bvb h]
def az3{A:List AS}{x:AS}:(A++[x]).getD A.length default=x:=by simp[bsv]
def xr{wr wr':Bool}{e:TypeId}{L:List AS}{k:Nat}{u:Int}{g:Nat->Nat->PV}(hil:i<L.length)(hs:dz m (L.getD i default)=true)(hk:k=i)(hu:u=asI (L.getD i default&&&m.rhs))(hg:CoP (g 0 0) (asC (L.getD i default&&&~~~m.rhs)))(hw:wr'=true->wr=true:=by exact fun h=>h):
 CoO (.arr wr 1 e ((stB m L i).length+1) (ep (stB m L i).length (eu (lf sC (stB m L i)) k 0 [.raw (.int .u32 u)]) g)) (.arr wr' 1 e (stB m L (i+1)).length (lf sC (stB m L (i+1)))):=by
 subst hk hu;have hl:=au8 m L k;rw[alk hil hs];refine⟨hw,rfl,rfl,by rw[bsy,bus];rfl,fun a j ha hj=>?_⟩;obtain rfl:j=0:=by omega
 unfold ep;generalize L.getD k default&&&m.rhs=X;generalize L.getD k default&&&~~~m.rhs=Y at hg ⊢;generalize stB m L k=A at hl ha ⊢;by_cases h:a<A.length
 · rw [if_pos h]
   refine CoP.of_eq ?_;show eu (lf sC A) k 0 [.raw (.int .u32 (asI X))] a 0=sC ((A.set k X++[Y]).getD a default) 0;rw[b1f (by rw[bus];exact h)];unfold eu lf;by_cases h2:a=k
   · subst h2
     rw[if_pos ⟨rfl,bsw _,by simp⟩,l3 h];rfl
   rw[if_neg bww,getD_set_ne' h2]
 obtain rfl:a=A.length:=by omega
 rw[if_neg h,bw2];show CoP (g 0 0) (sC ((A.set k X++[Y]).getD A.length default) 0);have:=az3 (A:=A.set k X) (x:=Y);rw[bus]at this;rw[this];exact hg
variable {ms:List Fd}
def a62 {j:Nat} (h:j<ms.length):cr (ms.take (j+1)) l=rdB (ms.getD j default) (cr (ms.take j) l):=by
 unfold cr;rw[aj h,btq];rfl
def av1:∀(ms:List Fd) (m:Fd) (l:List AS),n7 (ms++[m]) l=(n7 ms l||(cr ms l).any (dz m))
 | [],m,l=>by simp[n7,cr]
 | k::ms,m,l=>by
  simp only[but,n7];rw[av1 ms m (rdB k l),Bool.or_assoc];rfl
def am5 {j:Nat} (h:j<ms.length):n7 (ms.take (j+1)) l=(n7 (ms.take j) l||(cr (ms.take j) l).any (dz (ms.getD j default))):=by
 rw[aj h,av1]
def aag (h:OkB l):∀{ms:List Fd},OkB (cr ms l):=by
 intro ms
 induction ms generalizing l with
 |nil=>exact h
 |cons m ms ih=>exact ih (b0a h)
structure BkI (ms:List Fd) (R:List AS) (x:Nat×List AS×Bool):Prop where
 ok:OkB x.2.1
 t:x.2.2=true->y5 ms x.1 x.2.1=R/\muB x.2.1<x.1
 f:x.2.2=false->x.2.1=R
def b6o(ms:List Fd)(rest:AS):BkI ms (blks ms rest) (18446744073709551616,k6 rest,true):=⟨ak3 rest,fun _=>⟨rfl,aje rest⟩,fun h=>by cases h⟩
def bfk{R:List AS}{f:Nat}(h:BkI ms R (f,l,true)):BkI ms R (f-1,cr ms l,n7 ms l)/\0<f:=by
 obtain⟨h1,h2⟩:=h.t rfl;have h2:muB l<f:=h2;obtain⟨g,rfl⟩:∃g,f=g+1:=⟨f-1,by omega⟩;have h3:=ah3 ms l;refine⟨⟨aag h.ok,fun hc=>?_,fun hc=>?_⟩,by omega⟩
 · have hc:n7 ms l=true:=hc
   have h1:y5 ms (g+1) l=R:=h1;unfold y5 at h1;rw[if_pos hc]at h1 h3;exact⟨h1,by show muB (cr ms l)<g;omega⟩
 have hc:n7 ms l=false:=hc;have h1:y5 ms (g+1) l=R:=h1;unfold y5 at h1;rw[hc]at h1;exact h1
def ckB(n:Int)(l m:List Fd)(s:AS):Int:=if dc n l m=0 then(if s>>>n.toNat=0 then 0 else 1)else dc n l m
def b84{n:Int}{l m:List Fd}{s:AS}(h:¬dc n l m=0):ckB n l m s=dc n l m:=if_neg h
def b88{n:Int}{l m:List Fd}{s:AS}(h:dc n l m=0)(h2:¬s>>>n.toNat=0):ckB n l m s=1:=by unfold ckB;rw[if_pos h,if_neg h2]
def a93{n:Int}{l m:List Fd}{s:AS}(h:dc n l m=0)(h2:s>>>n.toNat=0):ckB n l m s=0:=by unfold ckB;rw[if_pos h,if_pos h2]
def zq{n:Int}{l m:List Fd}{s:AS}(h:ckB n l m s=0):dc n l m=0/\s>>>n.toNat=0:=by
 unfold ckB at h;split at h
 · split at h
   · exact⟨by assumption,by assumption⟩
   cases h
 exact absurd h bwx
def auu(f:Fd):(sgl f).length<=32:=by unfold sgl;rw[btn];exact w5 _
def lz(fs ms:List Fd)(i k:Nat):List Fd:=ms++(fs.take i).flatMap sgl++(sgl (fs.getD i default)).take k
def aj3(fs ms:List Fd):lz fs ms 0 0=ms:=by simp[lz]
variable {fs:List Fd}
def ay1 (h:i<fs.length):lz fs ms (i+1) 0=lz fs ms i (sgl (fs.getD i default)).length:=by
 unfold lz;rw[aj h,bwj,bt6];simp
def b6t(fs ms:List Fd):lz fs ms fs.length 0=se fs ms:=by simp[lz,se]
def ayw {k:Nat} (h:k<(sgl (fs.getD i default)).length):lz fs ms i (k+1)=lz fs ms i k++[(sgl (fs.getD i default)).getD k default]:=by
 unfold lz;rw[aj h,<- bts]
def b5j{k:Nat}:(lz fs ms i k).length<=ms.length+32*(i+1):=by
 have:∀l:List Fd,(l.flatMap sgl).length<=32*l.length:=by
  intro l
  induction l with
  |nil=>simp
  | cons f l ih =>
   rw[bv8,bsy,bto];have:=auu f;omega
 have h1:=this (fs.take i);have h2:=auu (fs.getD i default);unfold lz;rw[bsy,bsy,bt4];rw[bt4]at h1;omega
end
end
section
open Go.RowKit
section
variable {ro:Option Nat}{P:Program}{nt:Nat}{st:HSt}{Q:Exit->HSt->Prop}
def wz{w0:World}{cc:Ctx}{a:Act}{w:World}(hrr:ah w0 nt cc st.den a w){d:Nat}{x:HR}(hx:ar cc st.den.o x (a.tmps.getD d undef)):ah w0 nt cc (HSt.den ⟨(d,some x)::st.t,st.o⟩) a w:=by
 refine⟨hrr.defers,hrr.size,hrr.below,fun k y hy=>?_,hrr.objs,hrr.inj,hrr.imm,hrr.sep,hrr.was,hrr.frm,hrr.fsep,hrr.fixed⟩;simp only[HSt.den]at hy;rw[aw]at hy;dsimp only at hy;split at hy
 · rename_i hk
   subst hk;simp only[bst]at hy;subst hy;exact hx
 exact hrr.tmps k y hy
section
variable {f:Nat->Nat->PV}
def b47 {c:Code} (d:Nat) {id n n' s:Nat} {wr:Bool} {e:TypeId} (hd:ay st.t d=some (.v (.one (.ref id n)))) (ho:ay st.o id=some (.arr wr s e n' f)) (hn:n'=n) (h:HW (ro:=ro) P nt c ⟨(d,some (.v (.one (.win id n 0 n))))::st.t,st.o⟩ Q):HW (ro:=ro) P nt c st Q:=by
 subst hn;refine ve st d _ (fun w0 m0 a w hr=>?_) h;obtain⟨cc,hold,hrr⟩:=hr;refine⟨cc,hold,hrr, ?_⟩;have hu:bj cc st.den.o (.ref id n') (a.tmps.getD d undef):=hrr.tmps d _ hd;refine⟨hu.1,hu.2.1,fun ob s2 e2 n2 ho2 hd2=>⟨(hu.2.2 _ _ _ _ ho2 hd2).1,fun hk=>?_⟩⟩;have he:=(hu.2.2 _ _ _ _ ho2 hd2).2 hk;obtain rfl:ob=.arr wr s e n' f:=Option.some.inj (ho2.symm.trans ho);simp only[a7.dim,bst,bt2]at hd2;obtain⟨rfl,rfl,rfl⟩:=hd2;obtain⟨ad,cap,hv,hc1,hc2⟩:=zf (hrr.objs _ _ ho2);exact⟨ad,ad,cap,hv,by rw[he,hv];rfl,by omega,hc1,hc2,fun _=>by cases ad<;>simp[pg]⟩
def bbt{c:Code}(d dh:Nat){id n n' n0 k s:Nat}{e:TypeId}(hd:ay st.t d=some (.v (.one (.ref id n))))(hh:ay st.t dh=some (.v (.one (.win id k 0 n0))))(ho:ay st.o id=some (.arr true s e n' f))(hn:n'=n)(hk:k=n)(hne:Nat.beq d dh=false)(hA:∀ad cap,n+1<=cap->HW (ro:=ro) P nt c ⟨(d,some (.v (.one (.pin id n ad cap))))::(dh,some (bp (.raw (.slice ad n0 cap))))::st.t,st.o⟩ Q)(hB:HW (ro:=ro) P nt c ⟨(d,some (bp (.sl n s true f)))::(dh,some (bp (.sl n0 s false f)))::st.t,(id,none)::st.o⟩ Q):HW (ro:=ro) P nt c st Q:=by
 subst hn hk;intro w0 m0 a w hr;obtain⟨cc,hold,hrr⟩:=hr;have hu:bj cc st.den.o (.ref id k) (a.tmps.getD d undef):=hrr.tmps d _ hd;have hv:bj cc st.den.o (.win id k 0 n0) (a.tmps.getD dh undef):=hrr.tmps dh _ hh;obtain⟨ad,ad',cap,q1,q2,q3,q4,q5,q6⟩:=zc hv ho rfl;have hu1:=(hu.2.2 _ _ _ _ ho rfl).2 rfl;by_cases hc:k+1<=cap
 · obtain rfl:ad'=ad:=by
    rw[q6 bww];cases ad<;>simp[pg]
   refine hA ad' cap hc w0 m0 a w ⟨cc,hold, ?_⟩;have h1:ah w0 nt cc (HSt.den ⟨(dh,some (bp (.raw (.slice ad' n0 cap))))::st.t,st.o⟩) a w:=wz hrr ⟨by simpa using q2,rfl⟩;refine wz (st:=⟨(dh,some (bp (.raw (.slice ad' n0 cap))))::st.t,st.o⟩) h1 ⟨hu1.trans q1,hu.2.1,hu.2.2⟩
 obtain rfl:cap=k:=by omega
 have hfr:=hrr.freeze (id:=id) ho;rw[<- u7]at hfr;refine hB w0 m0 a w ⟨{ old:=cc.old,imm:=frozenImm cc w id,tab:=om hrr ho,own:=cc.own,blk:=cc.blk,rows:=cc.rows },hold, ?_⟩;have hfa:=ru hrr ho;have h1:=wz (st:=⟨st.t,(id,none)::st.o⟩) (d:=dh) (x:=bp (.sl n0 s false fun a b=>f (0+a) b)) hfr (axj hrr ho hv);have e0:(fun a b=>f (0+a) b)=f:=by funext a b;rw[btk]
 rw[e0]at h1;refine wz (st:=⟨(dh,some (bp (.sl n0 s false f)))::st.t,(id,none)::st.o⟩) h1 ?_;rw[hu1];obtain⟨A,C,r1,r2,r3,r4,r5⟩:=hfa;refine⟨A,C,r1,r2,r3,fun _=>?_,r5⟩;rw[q1]at r1;simp only[Value.slice.injEq,true_and]at r1;exact r1.2.symm
def b6p {c:Code} (d dh:Nat) {id n n' n0 s cap:Nat} {ad:Option Addr} {e:TypeId} (hd:ay st.t d=some (.v (.one (.pin id n ad cap)))) (hh:ay st.t dh=some (bp (.raw (.slice ad n0 cap)))) (ho:ay st.o id=some (.arr true s e n' f)) (hn:n'=n) (hle:n0<=n) (hne:Nat.beq d dh=false) (h:HW (ro:=ro) P nt c ⟨(d,some (.v (.one (.ref id n))))::(dh,some (.v (.one (.win id n 0 n0))))::st.t,st.o⟩ Q):HW (ro:=ro) P nt c st Q:=by
 subst hn;intro w0 m0 a w hr;obtain⟨cc,hold,hrr⟩:=hr;have hu:bj cc st.den.o (.pin id n' ad cap) (a.tmps.getD d undef):=hrr.tmps d _ hd;have hv:bj cc st.den.o (.p (.raw (.slice ad n0 cap))) (a.tmps.getD dh undef):=hrr.tmps dh _ hh;obtain⟨hv1,_⟩:=hv;have hu1:=(hu.2.2 _ _ _ _ ho rfl).2 rfl;refine h w0 m0 a w ⟨cc,hold, ?_⟩
 have h1:ah w0 nt cc (HSt.den ⟨(dh,some (.v (.one (.win id n' 0 n0))))::st.t,st.o⟩) a w:=by
  refine wz hrr ⟨by rw[hv1];rfl,hu.2.1,fun ob s2 e2 n2 ho2 hd2=>⟨(hu.2.2 _ _ _ _ ho2 hd2).1,fun hk=>?_⟩⟩;obtain rfl:ob=.arr true s e n' f:=Option.some.inj (ho2.symm.trans ho);simp only[a7.dim,bst,bt2]at hd2;obtain⟨rfl,rfl,rfl⟩:=hd2;obtain⟨ad2,cap2,g1,g2,g3⟩:=zf (hrr.objs _ _ ho2);have hown:cc.own id=.slice ad n' cap:=hu1.symm.trans hu.1;rw[hown]at g1;simp only[Value.slice.injEq,true_and]at g1;obtain⟨rfl,rfl⟩:=g1;exact⟨ad,ad,cap,hown,hv1,by omega,g2,g3,fun _=>by cases ad<;>simp[pg]⟩
 exact wz (st:=⟨(dh,some (.v (.one (.win id n' 0 n0))))::st.t,st.o⟩) h1 ⟨by rw[hu.1];rfl,hu.2.1,hu.2.2⟩
end
end
end
section
open Go.Proofs
def a9f{a b:AS}(h:ct .and .u32 (asI a) (asI b)=0):a&&&b=0:=df.1 ((kg a b).symm.trans h)
def a3a{a b:AS}(h:¬ct .and .u32 (asI a) (asI b)=0):¬a&&&b=0:=fun e=>h ((kg a b).trans (congrArg asI e))
def b8v{a b:AS}(h:ct .andNot .u32 (asI a) (asI b)=0):a&&&~~~b=0:=df.1 ((pn a b).symm.trans h)
def b0s{a b:AS}(h:¬ct .andNot .u32 (asI a) (asI b)=0):¬a&&&~~~b=0:=fun e=>h ((pn a b).trans (congrArg asI e))
def a9y{m:Fd}{x:AS}(h:¬x&&&m.lhs=0):dz m x=false:=by unfold dz;rw[decide_eq_false h];rfl
def aa7{m:Fd}{x:AS}(h:x&&&m.rhs=0):dz m x=false:=by simp[dz,h]
def aot (a b:AS):decide (ct .and .u32 (asI a) (asI b)=0)=decide (a&&&b=0):=by
 by_cases h:ct .and .u32 (asI a) (asI b)=0
 · rw[decide_eq_true h,decide_eq_true (a9f h)]
 rw[decide_eq_false h,decide_eq_false (a3a h)]
def bir (a b:AS):decide (ct .andNot .u32 (asI a) (asI b)=0)=decide (a&&&~~~b=0):=by
 by_cases h:ct .andNot .u32 (asI a) (asI b)=0
 · rw[decide_eq_true h,decide_eq_true (b8v h)]
 rw[decide_eq_false h,decide_eq_false (b0s h)]
def a9t (m:Fd) (x:AS):(bif (bif decide (ct .and .u32 (asI x) (asI m.lhs)=0)then !decide (ct .and .u32 (asI x) (asI m.rhs)=0)else false)then !decide (ct .andNot .u32 (asI x) (asI m.rhs)=0)else false)=dz m x:=by
 rw[aot,aot,bir];unfold dz;by_cases h1:x&&&m.lhs=0<;>by_cases h2:x&&&m.rhs=0<;>by_cases h3:x&&&~~~m.rhs=0<;>simp only[h1,h2,h3,decide_true,decide_false,ne_eq,not_true_eq_false,not_false_eq_true,bwm,bws,cond_true,cond_false,Bool.and_self,Bool.and_true,bv2,Bool.and_false,Bool.false_and]
def xm {m:Fd} {l:List AS} {i:Nat} (c:Bool) (h:i<l.length) (hs:dz m (l.getD i default)=true):true=(c||(l.take (i+1)).any (dz m)):=by
 rw[aj h,List.any_append];simp only[List.any_cons,List.any_nil,hs,Bool.or_true,Bool.or_false]
def a7j {m:Fd} {l:List AS} {i:Nat} (c:Bool) (h:i<l.length) (hs:dz m (l.getD i default)=false):(c||(l.take i).any (dz m))=(c||(l.take (i+1)).any (dz m)):=by
 rw[aj h,List.any_append];simp only[List.any_cons,List.any_nil,hs,Bool.or_true,Bool.or_false]
def awf(x:Nat×List AS×Bool):Nat:=x.1+(bif x.2.2 then 1 else 0)
def beh {f:Nat} {l l':List AS} {c:Bool} (h:0<f):awf (f-1,l',c)<awf (f,l,true):=by
 cases c<;>simp only[awf,cond_true,cond_false]<;>omega
def asf(n:Int)(ms:List Fd)(x:AS)(h0:0<=n)(h1:n<=16):a6 bxn 117 [pI n,pP (fdl ms),pA x] (ae [pP (asl (ord (blks ms (aa n&&&~~~x))))]):=by
 refine hpx (nt:=76) Tryz.func117 ?_;refine cw 1 rfl fun hn=>?_;have hrest:ct .andNot .u32 (IntKind.wrap .u32 (1*2^(min n.toNat 32))-1) (asI x)=asI (aa n&&&~~~x):=by rw[ph h0 h1,pn]
 refine w_8 ?_;refine d4 7 900 true 1 50 (lf sC []) bx3 rfl (CoP.sl rfl (.inr rfl) (fun h=>h) (fun i j hi _=>absurd hi (bt1 i))) (.inr rfl) rfl ?_;refine a1f (ka 1 kn) km ⟨[(7,some (.v (.one (.ref 900 (k6 (aa n&&&~~~x)).length))))],[(900,some (.arr true 1 50 (k6 (aa n&&&~~~x)).length (lf sC (k6 (aa n&&&~~~x)))))]⟩ ?_ ?_
 ·
  refine w_4 ?_;refine rq rfl rfl rfl rfl rfl ?_ (hp:=⟨qd h0 h1,o9 h0 h1⟩);refine w_9 ?_;refine hcn ?_ ?_<;>intro h0
  · have hne:¬(aa n&&&~~~x)=0:=fun e=>h0 (hrest.trans (congrArg asI e));refine w_3 ?_;refine m9 0 ?_;refine r9 1 true ?_;refine w_2 ?_;exact⟨⟨⟨_,rfl,(by first|exact bq (a9m hne)|exact bm (a94 hz))⟩,tt⟩,⟨⟨_,rfl,(by first|exact bw (a9m hne) (CoP.of_eq (congrArg (fun z=>PV.raw (.int .u32 z)) hrest))|exact b6 (a94 hz))⟩,trivial⟩⟩
  have hz:(aa n&&&~~~x)=0:=df.1 (hrest.symm.trans h0);refine dn ?_;exact⟨⟨⟨_,rfl,(by first|exact bq (a9m hne)|exact bm (a94 hz))⟩,tt⟩,⟨⟨_,rfl,(by first|exact bw (a9m hne) (CoP.of_eq (congrArg (fun z=>PV.raw (.int .u32 z)) hrest))|exact b6 (a94 hz))⟩,trivial⟩⟩
 refine w_6 ?_;refine ai (ι:=(Nat×List AS×Bool)) (ka 1 kn) km (fun y=>⟨[(7,some (.v (.one (.ref 900 y.2.1.length)))),(9,some (vB y.2.2))],[(900,some (.arr true 1 50 y.2.1.length (lf sC y.2.1)))]⟩) (fun y=>BkI ms (blks ms (aa n&&&~~~x)) y) (fun y=>awf y) ((18446744073709551616,k6 (aa n&&&~~~x),true)) (b6o ms (aa n&&&~~~x)) kk ?_;rintro⟨f,l,ag⟩ hI;refine w_5 ?_;refine al _ rfl ?_ ?_<;>intro r1
 ·
  have h1:=r1;obtain rfl:ag=true:=r1;obtain⟨hI2,hf⟩:=bfk hI;have hok:=hI.ok;refine jo ?_;refine br (ka 1 (ka 26 (ka 27 kn))) km (fun j=>⟨[(7,some (.v (.one (.ref 900 (cr (ms.take j) l).length)))),(9,some (vB (n7 (ms.take j) l))),(28,some (vI j))],[(900,some (.arr true 1 50 (cr (ms.take j) l).length (lf sC (cr (ms.take j) l))))]⟩) ms.length ⟨⟨zy,⟨_,rfl,(CoR.refl _)⟩,tt⟩,uu⟩ ?_;rintro j hj;have hokj:OkB (cr (ms.take j) l):=aag hok;have hlj:=ah4 (b0a (m:=(ms.getD j default)) hokj);refine w_5 ?_;refine hcd ?_ ?_<;>intro h2
  ·
   refine w_7 ?_;refine m9 2 ?_;refine w_9 ?_;refine b47 32 rfl rfl rfl ?_;refine ai (ι:=(Nat×Bool)) (ka 1 (ka 11 (ka 26 (ka 27 (ka 28 (ka 33 kn)))))) (kb 2 km) (fun y=>⟨[(7,some (.v (.one (.ref (bif y.2 then 900 else 951) (stB (ms.getD j default) (cr (ms.take j) l) y.1).length)))),(9,some (vB (n7 (ms.take j) l||((cr (ms.take j) l).take y.1).any (dz (ms.getD j default))))),(34,some (vI y.1)),(32,some (bif y.2 then .v (.one (.win 900 (stB (ms.getD j default) (cr (ms.take j) l) y.1).length 0 (cr (ms.take j) l).length))else bp (.sl (cr (ms.take j) l).length 1 false (a71 (cr (ms.take j) l) y.1))))],[(bif y.2 then 900 else 951,some (.arr true 1 50 (stB (ms.getD j default) (cr (ms.take j) l) y.1).length (lf sC (stB (ms.getD j default) (cr (ms.take j) l) y.1))))]⟩) (fun y=>y.1<=(cr (ms.take j) l).length) (fun y=>(cr (ms.take j) l).length-y.1) ((0,true)) (bsx _) ⟨⟨⟨_,rfl,(bm (abx _ _))⟩,⟨_,rfl,(cob bx0)⟩,⟨_,rfl,(CoR.refl _)⟩,⟨_,rfl,(CoR.of_eq (by rw[abx];rfl))⟩,trivial⟩,⟨⟨_,rfl,(b6 (abx _ _))⟩,trivial⟩⟩ ?_;rintro⟨i,b⟩ hi;have hi:i<=(cr (ms.take j) l).length:=hi;have hsl:=bhb (ms.getD j default) (cr (ms.take j) l) i;have hsl2:=au8 (ms.getD j default) (cr (ms.take j) l) i
   rcases b with _|_
   ·
    show HW _ _ _ ⟨_::_,_⟩ _;refine w_5 ?_;refine hcd ?_ ?_<;>intro h3
    ·
     have hil:i<(cr (ms.take j) l).length:=by omega
     refine w_7 ?_;refine rq (out:=⟨_, .v (.one (.p (asC ((cr (ms.take j) l).getD i default))))⟩) rfl rfl rfl (congrArg (fun z=>some (Out.mk _ (HR.v (HC.one (HV.p z))))) (be5 (cr (ms.take j) l) i)) rfl ?_;refine w_3 ?_;refine a1f (ka 1 (ka 7 (ka 9 (ka 11 (ka 12 (ka 13 (ka 26 (ka 27 (ka 28 (ka 32 (ka 33 (ka 34 kn)))))))))))) (kb 2 km) ⟨[(57,some (vB (dz (ms.getD j default) ((cr (ms.take j) l).getD i default))))],[(951,some (.arr true 1 50 (stB (ms.getD j default) (cr (ms.take j) l) i).length (lf sC (stB (ms.getD j default) (cr (ms.take j) l) i))))]⟩ ?_ ?_
     ·
      refine w_7 ?_;refine ak rfl rfl ?_ ?_<;>intro r4
      ·
       have h4:=tz1 r4;have g1:((cr (ms.take j) l).getD i default)&&&(ms.getD j default).lhs=0:=a9f h4;(iterate 5 refine qy ?_ (hg:=(gtt r4)));refine w_2 ?_;refine ak rfl rfl ?_ ?_<;>intro r5
       ·
        have h5:=tz2 (dt (c5 r4 r5));have g2:¬((cr (ms.take j) l).getD i default)&&&(ms.getD j default).rhs=0:=a3a h5;(iterate 5 refine qy ?_ (hg:=(gtt r5)));refine w_2 ?_
        exact⟨⟨⟨_,rfl,(cob (by first|exact a9t _ _|exact(a9y g1).symm|exact(aa7 g2).symm))⟩,tt⟩,uu⟩
       have h5:=tz1 (du (c5 r4 r5));have g2:((cr (ms.take j) l).getD i default)&&&(ms.getD j default).rhs=0:=a9f h5;(iterate 5 refine k9 (gft r5) ?_);refine w_2 ?_
       exact⟨⟨⟨_,rfl,(cob (by first|exact a9t _ _|exact(a9y g1).symm|exact(aa7 g2).symm))⟩,tt⟩,uu⟩
      have h4:=tz2 r4;have g1:¬((cr (ms.take j) l).getD i default)&&&(ms.getD j default).lhs=0:=a3a h4;(iterate 5 refine k9 (gft r4) ?_);refine w_2 ?_;(iterate 5 refine k9 rfl ?_);refine w_2 ?_
      exact⟨⟨⟨_,rfl,(cob (by first|exact a9t _ _|exact(a9y g1).symm|exact(aa7 g2).symm))⟩,tt⟩,uu⟩
     refine al _ rfl ?_ ?_<;>intro r6
     ·
      have h6:=r6;have hs:dz (ms.getD j default) ((cr (ms.take j) l).getD i default)=true:=r6;have hl2:(stB (ms.getD j default) (cr (ms.take j) l) (i+1)).length=(stB (ms.getD j default) (cr (ms.take j) l) i).length+1:=by rw[alk hil hs,bsy,bus];rfl
      refine a4l ?_;refine m9 3 ?_;refine r9 4 true ?_;refine w_9 ?_
      first | (refine lpz (i+1, false) ⟨⟨⟨_, rfl, (CoR.of_eq (congrArg (fun z => HR.v (.one (.ref 951 z))) hl2.symm))⟩, ⟨_, rfl, (cob (xm _ hil hs))⟩, ⟨_, rfl, (CoR.refl _)⟩, ⟨_, rfl, (CoC.one (aaa rfl))⟩, tt⟩, ⟨⟨_, rfl, (xr hil hs rfl (kg _ _) (CoP.of_eq (congrArg (fun z => PV.raw (.int .u32 z)) (pn _ _))))⟩, uu⟩⟩ ?_; show i+1<=_; omega)
            |(refine lpz (i+1,false) ⟨⟨⟨_,rfl,(bm (pz hil hs))⟩,⟨_,rfl,(cob (a7j _ hil hs))⟩,⟨_,rfl,(CoR.refl _)⟩,⟨_,rfl,(CoC.one (aaa rfl))⟩,tt⟩,⟨⟨_,rfl,(b6 (pz hil hs))⟩,uu⟩⟩ ?_;show i+1<=_;omega)
     have h6:=r6;have hs:dz (ms.getD j default) ((cr (ms.take j) l).getD i default)=false:=r6;refine w_5 ?_
     first | (refine lpz (i+1, false) ⟨⟨⟨_, rfl, (CoR.of_eq (congrArg (fun z => HR.v (.one (.ref 951 z))) hl2.symm))⟩, ⟨_, rfl, (cob (xm _ hil hs))⟩, ⟨_, rfl, (CoR.refl _)⟩, ⟨_, rfl, (CoC.one (aaa rfl))⟩, tt⟩, ⟨⟨_, rfl, (xr hil hs rfl (kg _ _) (CoP.of_eq (congrArg (fun z => PV.raw (.int .u32 z)) (pn _ _))))⟩, uu⟩⟩ ?_; show i+1<=_; omega)
           |(refine lpz (i+1,false) ⟨⟨⟨_,rfl,(bm (pz hil hs))⟩,⟨_,rfl,(cob (a7j _ hil hs))⟩,⟨_,rfl,(CoR.refl _)⟩,⟨_,rfl,(CoC.one (aaa rfl))⟩,tt⟩,⟨⟨_,rfl,(b6 (pz hil hs))⟩,uu⟩⟩ ?_;show i+1<=_;omega)
    obtain rfl:i=(cr (ms.take j) l).length:=by omega
    refine xq 7 900 rfl rfl rfl rfl ?_;refine w_5 ?_;exact lpx (j+1) ⟨⟨⟨_,rfl,(bm (by rw[a62 bww,a3g]))⟩,⟨_,rfl,(cob (by rw[am5 bww,bt6]))⟩,tt⟩,⟨⟨_,rfl,(b6 (by rw[a62 bww,a3g]))⟩,trivial⟩⟩
   show HW _ _ _ ⟨_::_,_⟩ _;refine w_5 ?_;refine hcd ?_ ?_<;>intro h7
   ·
    have hil:i<(cr (ms.take j) l).length:=by omega
    refine w_7 ?_;refine rq (out:=⟨_, .v (.one (.p (asC ((cr (ms.take j) l).getD i default))))⟩) rfl rfl rfl (congrArg (fun z=>some (Out.mk _ (HR.v (HC.one (HV.p z))))) ((show lf sC (stB (ms.getD j default) (cr (ms.take j) l) i) (0+i) 0=_ by rw[btk];exact congrArg asC (bdh hil)))) rfl ?_;refine w_3 ?_;refine a1f (ka 1 (ka 7 (ka 9 (ka 11 (ka 12 (ka 13 (ka 26 (ka 27 (ka 28 (ka 32 (ka 33 (ka 34 kn)))))))))))) (kb 2 km) ⟨[(57,some (vB (dz (ms.getD j default) ((cr (ms.take j) l).getD i default))))],[(900,some (.arr true 1 50 (stB (ms.getD j default) (cr (ms.take j) l) i).length (lf sC (stB (ms.getD j default) (cr (ms.take j) l) i))))]⟩ ?_ ?_
    ·
     refine w_7 ?_;refine ak rfl rfl ?_ ?_<;>intro r8
     ·
      have h8:=tz1 r8;have g1:((cr (ms.take j) l).getD i default)&&&(ms.getD j default).lhs=0:=a9f h8;(iterate 5 refine qy ?_ (hg:=(gtt r8)));refine w_2 ?_;refine ak rfl rfl ?_ ?_<;>intro r9
      ·
       have h9:=tz2 (dt (c5 r8 r9));have g2:¬((cr (ms.take j) l).getD i default)&&&(ms.getD j default).rhs=0:=a3a h9;(iterate 5 refine qy ?_ (hg:=(gtt r9)));refine w_2 ?_
       exact⟨⟨⟨_,rfl,(cob (by first|exact a9t _ _|exact(a9y g1).symm|exact(aa7 g2).symm))⟩,tt⟩,uu⟩
      have h9:=tz1 (du (c5 r8 r9));have g2:((cr (ms.take j) l).getD i default)&&&(ms.getD j default).rhs=0:=a9f h9;(iterate 5 refine k9 (gft r9) ?_);refine w_2 ?_
      exact⟨⟨⟨_,rfl,(cob (by first|exact a9t _ _|exact(a9y g1).symm|exact(aa7 g2).symm))⟩,tt⟩,uu⟩
     have h8:=tz2 r8;have g1:¬((cr (ms.take j) l).getD i default)&&&(ms.getD j default).lhs=0:=a3a h8;(iterate 5 refine k9 (gft r8) ?_);refine w_2 ?_;(iterate 5 refine k9 rfl ?_);refine w_2 ?_
     exact⟨⟨⟨_,rfl,(cob (by first|exact a9t _ _|exact(a9y g1).symm|exact(aa7 g2).symm))⟩,tt⟩,uu⟩
    refine al _ rfl ?_ ?_<;>intro r10
    ·
     have h10:=r10;have hs:dz (ms.getD j default) ((cr (ms.take j) l).getD i default)=true:=r10;have hl2:(stB (ms.getD j default) (cr (ms.take j) l) (i+1)).length=(stB (ms.getD j default) (cr (ms.take j) l) i).length+1:=by rw[alk hil hs,bsy,bus];rfl
     refine fh ?_;refine bbt 7 32 rfl rfl rfl rfl rfl rfl (fun ad cap hcap=>?_) ?_
     ·
      refine w_6 ?_;refine m9 5 ?_;refine r9 6 true ?_;refine w_2 ?_;refine b6p 7 32 rfl rfl rfl rfl (by dsimp only at *;omega) rfl ?_;refine w_7 ?_
      first | (refine lpz (i+1, true) ⟨⟨⟨_, rfl, (CoR.of_eq (congrArg (fun z => HR.v (.one (.ref 900 z))) hl2.symm))⟩, ⟨_, rfl, (cob (xm _ hil hs))⟩, ⟨_, rfl, (CoR.refl _)⟩, ⟨_, rfl, (CoR.of_eq (congrArg (fun z => HR.v (.one (.win 900 z 0 _))) hl2.symm))⟩, tt⟩, ⟨⟨_, rfl, (xr hil hs rfl (kg _ _) (CoP.of_eq (congrArg (fun z => PV.raw (.int .u32 z)) (pn _ _))))⟩, uu⟩⟩ ?_; show i+1<=_; omega)
            |(refine lpz (i+1,false) ⟨⟨⟨_,rfl,(CoR.of_eq (congrArg (fun z=>HR.v (.one (.ref 951 z))) hl2.symm))⟩,⟨_,rfl,(cob (xm _ hil hs))⟩,⟨_,rfl,(CoR.refl _)⟩,⟨_,rfl,(CoC.one (aoi hil))⟩,tt⟩,⟨⟨_,rfl,(xr hil hs rfl (kg _ _) (CoP.of_eq (congrArg (fun z=>PV.raw (.int .u32 z)) (pn _ _))))⟩,uu⟩⟩ ?_;show i+1<=_;omega)
            |(refine lpz (i+1,true) ⟨⟨⟨_,rfl,(bm (pz hil hs))⟩,⟨_,rfl,(cob (a7j _ hil hs))⟩,⟨_,rfl,(CoR.refl _)⟩,⟨_,rfl,(CoR.of_eq (congrArg (fun z=>HR.v (.one (.win 900 z 0 _))) (congrArg List.length (pz hil hs)).symm))⟩,tt⟩,⟨⟨_,rfl,(b6 (pz hil hs))⟩,uu⟩⟩ ?_;show i+1<=_;omega)
     refine w_6 ?_;refine m9 950 ?_;refine r9 951 true ?_;refine w_9 ?_
     first | (refine lpz (i+1, true) ⟨⟨⟨_, rfl, (CoR.of_eq (congrArg (fun z => HR.v (.one (.ref 900 z))) hl2.symm))⟩, ⟨_, rfl, (cob (xm _ hil hs))⟩, ⟨_, rfl, (CoR.refl _)⟩, ⟨_, rfl, (CoR.of_eq (congrArg (fun z => HR.v (.one (.win 900 z 0 _))) hl2.symm))⟩, tt⟩, ⟨⟨_, rfl, (xr hil hs rfl (kg _ _) (CoP.of_eq (congrArg (fun z => PV.raw (.int .u32 z)) (pn _ _))))⟩, uu⟩⟩ ?_; show i+1<=_; omega)
           |(refine lpz (i+1,false) ⟨⟨⟨_,rfl,(CoR.of_eq (congrArg (fun z=>HR.v (.one (.ref 951 z))) hl2.symm))⟩,⟨_,rfl,(cob (xm _ hil hs))⟩,⟨_,rfl,(CoR.refl _)⟩,⟨_,rfl,(CoC.one (aoi hil))⟩,tt⟩,⟨⟨_,rfl,(xr hil hs rfl (kg _ _) (CoP.of_eq (congrArg (fun z=>PV.raw (.int .u32 z)) (pn _ _))))⟩,uu⟩⟩ ?_;show i+1<=_;omega)
           |(refine lpz (i+1,true) ⟨⟨⟨_,rfl,(bm (pz hil hs))⟩,⟨_,rfl,(cob (a7j _ hil hs))⟩,⟨_,rfl,(CoR.refl _)⟩,⟨_,rfl,(CoR.of_eq (congrArg (fun z=>HR.v (.one (.win 900 z 0 _))) (congrArg List.length (pz hil hs)).symm))⟩,tt⟩,⟨⟨_,rfl,(b6 (pz hil hs))⟩,uu⟩⟩ ?_;show i+1<=_;omega)
    have h10:=r10;have hs:dz (ms.getD j default) ((cr (ms.take j) l).getD i default)=false:=r10;refine w_5 ?_
    first | (refine lpz (i+1, true) ⟨⟨⟨_, rfl, (CoR.of_eq (congrArg (fun z => HR.v (.one (.ref 900 z))) hl2.symm))⟩, ⟨_, rfl, (cob (xm _ hil hs))⟩, ⟨_, rfl, (CoR.refl _)⟩, ⟨_, rfl, (CoR.of_eq (congrArg (fun z => HR.v (.one (.win 900 z 0 _))) hl2.symm))⟩, tt⟩, ⟨⟨_, rfl, (xr hil hs rfl (kg _ _) (CoP.of_eq (congrArg (fun z => PV.raw (.int .u32 z)) (pn _ _))))⟩, uu⟩⟩ ?_; show i+1<=_; omega)
          |(refine lpz (i+1,false) ⟨⟨⟨_,rfl,(CoR.of_eq (congrArg (fun z=>HR.v (.one (.ref 951 z))) hl2.symm))⟩,⟨_,rfl,(cob (xm _ hil hs))⟩,⟨_,rfl,(CoR.refl _)⟩,⟨_,rfl,(CoC.one (aoi hil))⟩,tt⟩,⟨⟨_,rfl,(xr hil hs rfl (kg _ _) (CoP.of_eq (congrArg (fun z=>PV.raw (.int .u32 z)) (pn _ _))))⟩,uu⟩⟩ ?_;show i+1<=_;omega)
          |(refine lpz (i+1,true) ⟨⟨⟨_,rfl,(bm (pz hil hs))⟩,⟨_,rfl,(cob (a7j _ hil hs))⟩,⟨_,rfl,(CoR.refl _)⟩,⟨_,rfl,(CoR.of_eq (congrArg (fun z=>HR.v (.one (.win 900 z 0 _))) (congrArg List.length (pz hil hs)).symm))⟩,tt⟩,⟨⟨_,rfl,(b6 (pz hil hs))⟩,uu⟩⟩ ?_;show i+1<=_;omega)
   obtain rfl:i=(cr (ms.take j) l).length:=by omega
   refine w_5 ?_;exact lpx (j+1) ⟨⟨⟨_,rfl,(bm (by rw[a62 bww,a3g]))⟩,⟨_,rfl,(cob (by rw[am5 bww,bt6]))⟩,tt⟩,⟨⟨_,rfl,(b6 (by rw[a62 bww,a3g]))⟩,trivial⟩⟩
  obtain rfl:j=ms.length:=by omega
  rw[show ms.take ms.length=ms from bt6];refine ck ?_;refine⟨(f-1,cr ms l,n7 ms l), ?_, ?_, ?_⟩
  · exact hI2
  · exact beh hf
  exact kk
 have h1:=r1;obtain rfl:ag=false:=r1;have hl:l=(blks ms (aa n&&&~~~x)):=hI.f rfl;subst hl;refine w_2 ?_;refine bh 7 rfl rfl rfl ?_;refine w_2 ?_;refine qcx yy (a6x (blks ms (aa n&&&~~~x)) (btc (ah4 hI.ok) bx3)) ?_;refine v_2 ?_;exact CoL.refl _
end
section
def bbq {f:Fd} {k:Nat} (h:k<(am f.rhs).length):(sgl f).getD k default=⟨f.lhs,a0p ((am f.rhs).getD k default)⟩:=by
 unfold sgl;simp[bsv,bsu h]
def ag9(f:Fd):(sgl f).length=(am f.rhs).length:=by unfold sgl;rw[btn]
def au0 {fs ms:List Fd} {i k:Nat} (h:k<(am (fs.getD i default).rhs).length):lz fs ms i (k+1)=lz fs ms i k++[⟨(fs.getD i default).lhs,a0p ((am (fs.getD i default).rhs).getD k default)⟩]:=by
 rw[ayw (by rw[ag9];exact h),bbq h]
def aur{fs ms:List Fd}{i:Nat}(h:i<fs.length):lz fs ms (i+1) 0=lz fs ms i (am (fs.getD i default).rhs).length:=by rw[ay1 h,ag9]
def bed {a b:AS} {k:Nat} (h:sub a b) (hb:b>>>k=0):a>>>k=0:=by
 apply a32;intro i hi;have:=congrArg (fun z:AS=>z.getLsbD i) hb;simp only[bwa]at this ⊢
 cases ha:a.getLsbD (k+i) with
 |false=>simp
 |true=>rw[cz.1 h _ (b0d ha) ha]at this;simp at this
def a7u(b:AS)(f:Fd):Bool:=!decide ((f.rhs&&&~~~f.lhs)&&&b=0)
def a4d(l:List Fd)(o b:AS):AS:=if bsz b=1 then(if l.any (a7u b)=true then o|||b else o)else o
def a0y(l:List Fd)(o:AS)(bs:List AS):AS:=bs.foldl (a4d l) o
def a7i {l:List Fd} {o:AS} {bs:List AS} {i:Nat} (h:i<bs.length):a0y l o (bs.take (i+1))=a4d l (a0y l o (bs.take i)) (bs.getD i default):=by
 unfold a0y;rw[aj h,btq];rfl
section
variable {l:List Fd}{o:AS}{bs:List AS}{i:Nat}
def ap0(h:i<bs.length)(hq:¬bsz (bs.getD i default)=1):a0y l o (bs.take i)=a0y l o (bs.take (i+1)):=by rw[a7i h,a4d,if_neg hq]
def aqv(h:i<bs.length)(hq:bsz (bs.getD i default)=1)(ha:l.any (a7u (bs.getD i default))=false):a0y l o (bs.take i)=a0y l o (bs.take (i+1)):=by rw[a7i h,a4d,if_pos hq,if_neg (by rw[ha];decide)]
def ar8(h:i<bs.length)(hq:bsz (bs.getD i default)=1)(ha:l.any (a7u (bs.getD i default))=true):a0y l o (bs.take i)|||bs.getD i default=a0y l o (bs.take (i+1)):=by rw[a7i h,a4d,if_pos hq,if_pos ha]
end
def fq(n:Int)(l m:List Fd)(x:AS):List AS:=ord (blks (se l m) (aa n&&&~~~x))
def b5o(n:Int)(l m:List Fd)(x:AS):List AS:=if ckB n l m x=0 then fq n l m x else[]
def a1z(n:Int)(l m:List Fd)(x:AS):AS:=a0y l x (fq n l m x)
def ax0(n:Int)(l m:List Fd)(x:AS):AS:=if ckB n l m x=0 then a1z n l m x else 0
def b7d(ms:List Fd)(rest:AS):OkB (blks ms rest):=by
 have:∀(f:Nat) (l:List AS),OkB l->OkB (y5 ms f l):=by
  intro f
  induction f with
  |zero=>intro l h;exact h
  | succ f ih =>
   intro l h;unfold y5;split
   · exact ih _ (aag h)
   exact aag h
 exact this _ _ (ak3 rest)
def abs(n:Int)(l m:List Fd)(x:AS):(fq n l m x).length<=4294967296:=btc (uz _) (ah4 (b7d _ _))
def qi(p:AS)(bs:List AS):List AS:=(bs.filter fun b=>!decide (b&&&p=0)).map fun b=>b&&&p
section
variable {i:Nat}{p:AS}
def adx {bs:List AS} (h:i<bs.length) (hq:¬bs.getD i default&&&p=0):qi p (bs.take (i+1))=qi p (bs.take i)++[bs.getD i default&&&p]:=by
 unfold qi;rw[aj h,buo,bum,buy,if_pos (by rw[decide_eq_false hq];rfl)];rfl
def adt {bs:List AS} (h:i<bs.length) (hq:bs.getD i default&&&p=0):qi p (bs.take (i+1))=qi p (bs.take i):=by
 unfold qi;rw[aj h,buo,bum,buy,if_neg (by rw[decide_eq_true hq];decide)];simp
def aqf (p:AS) (bs:List AS):(qi p bs).length<=bs.length:=by
 unfold qi;rw[btn];exact buj _ _
def kp(n:Int)(l m:List Fd)(x p:AS):List AS:=ord (qi p (fq n l m x))
def asb(n:Int)(l m:List Fd)(x p:AS):(qi p (fq n l m x)).length<=8589934592:=btc (aqf _ _) (btc (abs _ _ _ _) bx3)
def ck4(n:Int)(l m:List Fd)(s:AS):Int:=if n<0\/8<n then 7 else ckB n l m s
variable {l m:List Fd}{n:Int}{s:AS}
def b8i(h:n<0\/8<n):ck4 n l m s=7:=if_pos h
def a5r(h:¬(n<0\/8<n)):ck4 n l m s=ckB n l m s:=if_neg h
def sx (h:ck4 n l m s=0):0<=n/\n<=8/\ckB n l m s=0:=by
 unfold ck4 at h;split at h
 · cases h
 exact⟨by omega,by omega,h⟩
def ah1{t:AS}(h:ckB n l m s=0)(ht:sub t s):ckB n l m t=0:=a93 (zq h).1 (bed ht (zq h).2)
def a99 {t:AS} (h:ck4 n l m s=0) (ht:sub t s):ck4 n l m t=0:=by
 obtain⟨h1,h2,h3⟩:=sx h;rw[a5r bww];exact ah1 h3 ht
def b4e(n:Int)(l m:List Fd)(x p:AS):List AS:=if ck4 n l m (x|||p)=0 then kp n l m x p else[]
def a60(n:Int)(l m:List Fd)(p x:AS):Option Fd:=if p&&&~~~(a1z n l m x)=0 then none else if 1<(kp n l m x p).length then some ⟨x,(kp n l m x p).getD 0 default⟩else none
def dq(n:Int)(l m:List Fd)(p:AS):Option Fd:=(c8 p).findSome? (a60 n l m p)
def awp:Option Fd->Fd×Bool
 |some v=>(v,true)
 |none=>(⟨0,0⟩,false)
def ac8(n:Int)(l m:List Fd)(p:AS):Fd×Bool:=if ck4 n l m p=0 then awp (dq n l m p) else(⟨0,0⟩,false)
def bks(h:¬ck4 n l m p=0):ac8 n l m p=(⟨0,0⟩,false):=if_neg h
def ar7(h:ck4 n l m p=0):ac8 n l m p=awp (dq n l m p):=if_pos h
def a7v {α β:Type} [Inhabited α] {f:α->Option β} {l:List α} (h:i<l.length) (hn:(l.take i).findSome? f=none):(l.take (i+1)).findSome? f=f (l.getD i default):=by
 rw[aj h,List.findSome?_append,hn];simp only[List.findSome?_cons,List.findSome?_nil,Option.none_or];cases f (l.getD i default)<;>rfl
def b19 {α β:Type} [Inhabited α] {f:α->Option β} {l:List α} {v:β} (h:i<l.length) (hn:(l.take i).findSome? f=none) (hv:f (l.getD i default)=some v):l.findSome? f=some v:=by
 have h1:=a7v h hn;rw[hv]at h1;rw[<- List.take_append_drop (i+1) l,List.findSome?_append,h1];rfl
def a7c {z:AS} (h:z∈c8 s):sub z s:=by
 unfold c8 at h;split at h
 · cases h
 exact akg.1 h
def uw {α:Type} [Inhabited α] {l:List α} (h:i<l.length):l.getD i default∈l:=by
 rw[bsv,bsu h];exact bta h
def acw{x c:AS}:c∈kp n l m x p<->∃b∈blks (se l m) (aa n&&&~~~x),b&&&p≠0/\c=b&&&p:=by
 unfold kp qi fq;rw[o3,bti];constructor
 · rintro ⟨b,hb,rfl⟩
   rw[bul,o3]at hb;exact⟨b,hb.1,by simpa using hb.2,rfl⟩
 rintro⟨b,hb,h,rfl⟩;exact⟨b,bul.2 ⟨o3.2 hb,by simpa using h⟩,rfl⟩
def a8v(V:AS->Option Fd):Prop:=∀p v,V p=some v->sub (v.lhs|||v.rhs) p/\v.lhs|||v.rhs≠p/\p&&&~~~v.rhs≠p
def ua(n:Int)(l m:List Fd):a8v (dq n l m):=by
 intro p v h;unfold dq at h;obtain⟨x,hx,hv⟩:=bvi h;have hxp:=a7c hx;unfold a60 at hv;split at hv
 · cases hv
 split at hv
 · rename_i hlen
   cases hv;have hbk:=(asv (se l m) (aa n&&&~~~x)).1;have m0:=uw (l:=kp n l m x p) (i:=0) bww;have m1:=uw (l:=kp n l m x p) (i:=1) hlen;have hnd:=a7d (qi p (fq n l m x))
   have hne:(kp n l m x p).getD 0 default≠(kp n l m x p).getD 1 default:=by
    intro e;rw[bsv,bsv,bsu (show 0<(kp n l m x p).length by omega),bsu hlen,bu9,bu9]at e;have:=(List.getElem_inj (xs:=kp n l m x p) hnd).1 e;omega
   generalize (kp n l m x p).getD 0 default=c0 at *;generalize (kp n l m x p).getD 1 default=c1 at *;obtain⟨b0,hb0,hz0,rfl⟩:=acw.1 m0;obtain⟨b1,hb1,hz1,rfl⟩:=acw.1 m1;dsimp only;refine⟨a4a hxp xp,fun e=>?_,fun e=>?_⟩
   · obtain ⟨a,ha,h1,h2⟩:=ama hz1
     have h3:=congrArg (fun z:AS=>z.getLsbD a) e;simp only[bv7,btm,h2,Bool.and_true]at h3;have hr:=cz.1 (hbk.sub hb1) a ha h1;rw[ic ha,bt5]at hr;have hxa:x.getLsbD a=false:=by simpa using hr.2
     rw[hxa,Bool.false_or]at h3;exact hne (by rw[hbk.one hb0 hb1 h3 h1])
   obtain⟨a,ha,h1,h2⟩:=ama hz0;have h3:=congrArg (fun z:AS=>z.getLsbD a) e;simp only[ic ha,btm,h1,h2]at h3;simp at h3
 cases hv
end
section
variable {V:AS->Option Fd}
def vF(V:AS->Option Fd)(s:AS):Fd:=(awp (V s)).1
def vBo(V:AS->Option Fd)(s:AS):Bool:=(awp (V s)).2
def nf(V:AS->Option Fd)(s:AS):AS:=(vF V s).lhs|||(vF V s).rhs
def n5(V:AS->Option Fd)(s:AS):AS:=s&&&~~~(vF V s).rhs
def a4p {s:AS} (h:vBo V s=true):V s=some (vF V s):=by
 unfold vBo at h;unfold vF
 cases hv:V s with
 |none=>rw[hv]at h;cases h
 |some v=>rfl
def a0t (V:AS->Option Fd):Nat->List AS->List AS->List AS
 |0,_,out=>out
 | n+1,todo,out =>
  if todo.length=0 then out
  else if vBo V (todo.getD (todo.length-1) default)=true then a0t V n (todo.take (todo.length-1)++[nf V (todo.getD (todo.length-1) default),n5 V (todo.getD (todo.length-1) default)]) out
  else a0t V n (todo.take (todo.length-1)) (out++[todo.getD (todo.length-1) default])
def a8l(V:AS->Option Fd)(p0:AS)(x:Nat×List AS×List AS):Prop:=a0t V x.1 x.2.1 x.2.2=a0t V 6562 [p0] []/\n4 x.2.1<x.1/\x.2.2.length+x.1<=6562
def ajv {n:Int} (h8:n<=8):a8l V (aa n) (6562,[aa n],[]):=by
 refine⟨rfl, ?_,bsw _⟩;show 3^bsz (aa n)+0<6562;have h1:=acl (n:=n) (m:=8) h8 bww;have h2:3^bsz (aa n)<=3^8:=buu bww h1;have h3:3^8=6561:=rfl;omega
section
variable {p0:AS}{x:Nat×List AS×List AS}
def a5w (h:a8l V p0 x):x.2.1.length<6562/\x.2.2.length<=6562/\0<x.1:=by
 have:=an0 x.2.1;obtain⟨h1,h2,h3⟩:=h;omega
def b61 (h:a8l V p0 x) (h0:x.2.1.length=0):x.2.2=a0t V 6562 [p0] []:=by
 have hp:=(a5w h).2.2;obtain⟨h1,h2,h3⟩:=h;obtain⟨m,hm⟩:∃m,x.1=m+1:=⟨x.1-1,by omega⟩;rw[hm]at h1;unfold a0t at h1;rw[if_pos h0]at h1;exact h1
def xv (hV:a8v V) {s:AS} (h:vBo V s=true):bsz (nf V s)<bsz s/\bsz (n5 V s)<bsz s:=by
 obtain⟨h1,h2,h3⟩:=hV s _ (a4p h);exact⟨afi h1 h2,afi a1n h3⟩
def b1s (hV:a8v V) (h:a8l V p0 x) (h0:0<x.2.1.length) (hv:vBo V (x.2.1.getD (x.2.1.length-1) default)=true):
 a8l V p0 (x.1-1,x.2.1.take (x.2.1.length-1)++[nf V (x.2.1.getD (x.2.1.length-1) default),n5 V (x.2.1.getD (x.2.1.length-1) default)],x.2.2):=by
 have hp:=(a5w h).2.2;obtain⟨h1,h2,h3⟩:=h;obtain⟨m,hm⟩:∃m,x.1=m+1:=⟨x.1-1,by omega⟩;rw[hm]at h1;unfold a0t at h1;rw[if_neg bww,if_pos hv]at h1;refine⟨by rw[hm];exact h1, ?_,by dsimp only;omega⟩;have e:=a01 (x.2.1.take (x.2.1.length-1)) [x.2.1.getD (x.2.1.length-1) default];rw[<- a7x h0]at e;have e1:n4 [x.2.1.getD (x.2.1.length-1) default]=3^bsz (x.2.1.getD (x.2.1.length-1) default):=by simp[n4]
 generalize x.2.1.getD (x.2.1.length-1) default=s at *;dsimp only;rw[a01];have e2:n4 [nf V s,n5 V s]=3^bsz (nf V s)+3^bsz (n5 V s):=by simp[n4]
 obtain⟨g1,g2⟩:=xv hV hv;obtain⟨b,hb⟩:∃b,bsz s=b+1:=⟨bsz s-1,by omega⟩;have p1:3^bsz (nf V s)<=3^b:=buu bww bww;have p2:3^bsz (n5 V s)<=3^b:=buu bww bww;have p3:3^bsz s=3^b*3:=by rw[hb,Nat.pow_succ]
 have p4:0<3^b:=Nat.pow_pos bww;omega
def b1j (h:a8l V p0 x) (h0:0<x.2.1.length) (hv:vBo V (x.2.1.getD (x.2.1.length-1) default)=false):
 a8l V p0 (x.1-1,x.2.1.take (x.2.1.length-1),x.2.2++[x.2.1.getD (x.2.1.length-1) default]):=by
 have hp:=(a5w h).2.2;obtain⟨h1,h2,h3⟩:=h;obtain⟨m,hm⟩:∃m,x.1=m+1:=⟨x.1-1,by omega⟩;rw[hm]at h1;unfold a0t at h1;rw[if_neg bww,if_neg (by rw[hv];decide)]at h1;refine⟨by rw[hm];exact h1, ?_,by dsimp only;rw[bsy,bub];omega⟩;have e:=a01 (x.2.1.take (x.2.1.length-1)) [x.2.1.getD (x.2.1.length-1) default];rw[<- a7x h0]at e;have e1:n4 [x.2.1.getD (x.2.1.length-1) default]=3^bsz (x.2.1.getD (x.2.1.length-1) default):=by simp[n4]
 have p4:0<3^bsz (x.2.1.getD (x.2.1.length-1) default):=Nat.pow_pos bww;dsimp only;omega
def lvG (V:AS->Option Fd):Nat->AS->List AS
 |0,s=>[s]
 |n+1,s=>if vBo V s=true then lvG V n (nf V s)++lvG V n (n5 V s) else[s]
def a0x(hV:a8v V):∀(a b:Nat) (s:AS),bsz s<a->bsz s<b->lvG V a s=lvG V b s
 |0,_,_,h,_=>absurd h (bt1 _)
 |_,0,_,_,h=>absurd h (bt1 _)
 | a + 1,b+1,s,ha,hb=>by
  unfold lvG;split
  · rename_i hv
    obtain⟨g1,g2⟩:=xv hV hv;rw[a0x hV a b _ bww bww,a0x hV a b _ bww bww]
  rfl
def blv (hV:a8v V) {s:AS} (h:vBo V s=true):lvG V 33 s=lvG V 33 (nf V s)++lvG V 33 (n5 V s):=by
 have h1:lvG V 33 s=lvG V 32 (nf V s)++lvG V 32 (n5 V s):=by
  show(if vBo V s=true then _ else _)=_;rw[if_pos h]
 obtain⟨g1,g2⟩:=xv hV h;have:=am2 s;rw[h1,a0x hV 32 33 _ bww bww,a0x hV 32 33 _ bww bww]
def bnj {s:AS} (h:vBo V s=false):lvG V 33 s=[s]:=by
 show(if vBo V s=true then _ else _)=_;rw[if_neg (by rw[h];decide)]
def adg(hV:a8v V):∀(f:Nat) (todo out:List AS),n4 todo<f->∀z,z∈a0t V f todo out<->z∈out\/∃s∈todo,z∈lvG V 33 s
 |0,_,_,h,_=>absurd h (bt1 _)
 | f + 1,todo,out,hm,z=>by
  unfold a0t;by_cases h0:todo.length=0
  · rw [if_pos h0]
    obtain rfl:=List.length_eq_zero_iff.1 h0;simp
  rw[if_neg h0];have htl:=a7x (todo:=todo) bww;have e:=a01 (todo.take (todo.length-1)) [todo.getD (todo.length-1) default];rw[<- htl]at e;have e1:n4 [todo.getD (todo.length-1) default]=3^bsz (todo.getD (todo.length-1) default):=by simp[n4]
  generalize hs:todo.getD (todo.length-1) default=s at *;generalize todo.take (todo.length-1)=t at *
  have hmem:∀P:AS->Prop,(∃q∈todo,P q)<->(∃q∈t,P q)\/P s:=fun P=>by
   rw[htl];simp only[btd,bte];constructor
   · rintro ⟨q,h|rfl,hp⟩
     · exact .inl ⟨q,h,hp⟩
     exact .inr hp
   rintro(⟨q,h,hp⟩|hp)
   · exact⟨q, .inl h,hp⟩
   exact⟨s, .inr rfl,hp⟩
  have p4:0<3^bsz s:=Nat.pow_pos bww;cases hv:vBo V s
  · simp only [buv,if_false]
    rw[adg hV f t _ bww z,hmem,bnj hv];simp only[btd,bte];constructor
    · rintro ((h|h)|h)
      · exact .inl h
      · exact .inr (.inr h)
      exact .inr (.inl h)
    rintro(h|h|h)
    · exact .inl (.inl h)
    · exact .inr h
    exact .inl (.inr h)
  simp only[if_true];obtain⟨g1,g2⟩:=xv hV hv;have e2:n4 [nf V s,n5 V s]=3^bsz (nf V s)+3^bsz (n5 V s):=by simp[n4]
  obtain⟨b,hb⟩:∃b,bsz s=b+1:=⟨bsz s-1,by omega⟩;have p1:3^bsz (nf V s)<=3^b:=buu bww bww;have p2:3^bsz (n5 V s)<=3^b:=buu bww bww;have p3:3^bsz s=3^b*3:=by rw[hb,Nat.pow_succ]
  have p5:0<3^b:=Nat.pow_pos bww;rw[adg hV f _ out (by rw[a01,e2];omega) z,hmem,blv hV hv];simp only[btd,bt7,List.not_mem_nil,or_false];constructor
  · rintro (h|⟨q,h|rfl|rfl,hq⟩)
    · exact .inl h
    · exact .inr (.inl ⟨q,h,hq⟩)
    · exact .inr (.inr (.inl hq))
    exact .inr (.inr (.inr hq))
  rintro(h|⟨q,h,hq⟩|h|h)
  · exact .inl h
  · exact .inr ⟨q, .inl h,hq⟩
  · exact .inr ⟨_, .inr (.inl rfl),h⟩
  exact .inr ⟨_, .inr (.inr rfl),h⟩
end
end
def agf(n:Int)(l m:List Fd):List AS:=a0t (dq n l m) 6562 [aa n] []
def iw(n:Int)(l m:List Fd):List AS:=if ck4 n l m 0=0 then gw (agf n l m) else[]
def b15{n:Int}{l m:List Fd}(h:ck4 n l m 0=0):iw n l m=gw (agf n l m):=if_pos h
def bjp{n:Int}{l m:List Fd}(h:¬ck4 n l m 0=0):iw n l m=[]:=if_neg h
end
end Go.Hx
