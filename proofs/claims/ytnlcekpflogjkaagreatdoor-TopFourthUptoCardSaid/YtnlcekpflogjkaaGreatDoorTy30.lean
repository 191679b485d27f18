/- A part of the proof: Jn1 Kc1 Kb3 Tb1 Tb2 Jw1. -/
import Derived.Test.YtnlcekpflogjkaaGreatDoorTy29
set_option linter.all false
set_option maxRecDepth 100000
set_option maxHeartbeats 1000000
namespace Go.Hx
section
def byC (b:Int):Nat->PV
 |0=>.raw (.int .u8 b)
 |_=>.any
abbrev byl(l:List Int):PV:=psl 1 byC l
def uN(n:Int):Int:=ct .xor .u64 (IntKind.wrap .u64 n) 9223372036854775808
def byK(u:Int)(s:Nat):Int:=IntKind.wrap .u8 (u.fdiv (2^(min s 64)))
def y7(n:Int):List Int:=(List.range 8).map fun i=>byK (uN n) (56-8*i)
def a26(x:UInt8):List Int:=if x=0 then[0,255] else[(x.toNat:Int)]
def qz(l:List UInt8):List Int:=l.flatMap a26
def n8(v:Val):List Int:=IntKind.wrap .u8 v.kind::(if v.kind=1\/v.kind=3 then y7 v.num else if v.kind=2 then qz (bl v.str)++[0,1] else[])
def ub(v:Val):ByteArray:=if ci v=true then strOfNums (n8 v)else emp
def b6j(v:Val):Int:=if ci v=true then 0 else 1
def lw (s:AS):Nat->List Val->ByteArray
 |_,[]=>emp
 |a,v::vs=>if s.getLsbD a=true then ub v++lw s (a+1) vs else lw s (a+1) vs
def fj(l:List Val)(s:AS):ByteArray:=lw s 0 l
def zw(n:Int):(y7 n).length=8:=by simp[y7]
def aoz (l:List UInt8):(qz l).length<=2*l.length:=by
 induction l with
 |nil=>simp[qz]
 | cons x l ih =>
  simp only[qz,bv8,bsy,bto]at ih ⊢;have:(a26 x).length<=2:=by unfold a26;split<;>simp
  omega
section
variable {v:Val}
def a1x:(ub v).size<=403:=by
 unfold ub;split
 · rename_i h
   have hs:=a4u h;rw[strOfNums_size,n8,bto];split
   · rw[zw];omega
   split
   · have:=aoz (bl v.str)
     rw[gh]at this;rw[bsy];simp;omega
   simp
 exact bsx _
def ad4(a b:ByteArray):(a++b).size=a.size+b.size:=ByteArray.size_append
variable {s:AS}
def ajn:∀{l:List Val} {a:Nat},(lw s a l).size<=403*l.length
 | [],_=>bsx _
 | v::l,a=>by
  have h1:=a1x (v:=v);have h2:(lw s (a+1) l).size<=403*l.length:=ajn;unfold lw;rw[bto];split
  · rw[ad4];omega
  omega
def bbj(a:ByteArray):a++emp=a:=ByteArray.append_empty
def bam(a:ByteArray):emp++a=a:=ByteArray.empty_append
def a1c:∀{l:List Val} {a:Nat} {v:Val},lw s a (l++[v])=if s.getLsbD (a+l.length)=true then lw s a l++ub v else lw s a l
 | [],a,v=>by
  simp only[buz,lw,bux,bur];split
  · rw[bbj,bam]
  rfl
 | x::l,a,v=>by
  have ih:lw s (a+1) (l++[v])=if s.getLsbD (a+1+l.length)=true then lw s (a+1) l++ub v else lw s (a+1) l:=a1c
  simp only[but,lw,bto];rw[ih,show a+1+l.length=a+(l.length+1) by omega];split<;>split<;>simp[ByteArray.append_assoc]
def w6(n:Int)(i:Nat):List Int:=(List.range i).map fun i=>byK (uN n) (56-8*i)
def azh (n:Int) (i:Nat):w6 n (i+1)=w6 n i++[byK (uN n) (56-8*i)]:=by
 unfold w6;rw[bu7,bum];rfl
def ami(n:Int):w6 n 8=y7 n:=rfl
variable {i:Nat}
def ans{l:List Int}{n:Int}:l++w6 n (i+1)=(l++w6 n i)++[byK (uN n) (56-8*i)]:=by rw[azh,bts]
abbrev kB(v:Val):Int:=IntKind.wrap .u8 v.kind
def ux (h:v.kind=1\/v.kind=3):n8 v=[kB v]++y7 v.num:=by
 unfold n8;rw[if_pos h];rfl
def ww(v:Val)(i:Nat):List Int:=kB v::qz ((bl v.str).take i)
def alj (hi:i<v.str.size) (h:ce v.str i=0):ww v (i+1)=(ww v i++[ce v.str i])++[255]:=by
 have hl:i<(bl v.str).length:=by rw[gh];exact hi
 unfold ww qz;rw[aj hl,bwj]
 have e:ce v.str i=(((bl v.str).getD i default).toNat:Int):=by
  rw[c4 _ _ hl];unfold ce;rw[bsv,bsu hl];rfl
 have h0:(bl v.str).getD i default=0:=by
  rw[e]at h;exact UInt8.toNat_inj.1 (by simpa using h)
 rw[e,h0];simp[a26]
def alg (hi:i<v.str.size) (h:¬ce v.str i=0):ww v (i+1)=ww v i++[ce v.str i]:=by
 have hl:i<(bl v.str).length:=by rw[gh];exact hi
 unfold ww qz;rw[aj hl,bwj]
 have e:ce v.str i=(((bl v.str).getD i default).toNat:Int):=by
  rw[c4 _ _ hl];unfold ce;rw[bsv,bsu hl];rfl
 have h0:¬(bl v.str).getD i default=0:=fun h0=>by
  rw[e,h0]at h;exact h rfl
 rw[e];simp only[bv8,bwv,a26,if_neg h0,btu,but]
def bex:(ww v i).length<=1+2*v.str.size:=by
 have h:=aoz ((bl v.str).take i);have h2:((bl v.str).take i).length<=v.str.size:=by rw[bt4,gh];omega
 simp only[ww,bto];omega
def bxe{p:Prop}(h:p:=by rw[gh];omega):p:=h
def uj (h:v.kind=2):n8 v=ww v v.str.size++[0,1]:=by
 unfold n8 ww;rw[if_neg bww,if_pos h,buq bxe];rfl
def um (h1:¬v.kind=1) (h3:¬v.kind=3) (h2:¬v.kind=2):n8 v=[kB v]:=by
 unfold n8;rw[if_neg bww,if_neg h2]
def ait(h:ci v=true):ub v=strOfNums (n8 v):=if_pos h
def baw(h:ci v=false):ub v=emp:=if_neg (by simp[h])
def bb2(h:ci v=true):b6j v=0:=if_pos h
def bd7(h:ci v=false):b6j v=1:=if_neg (by simp[h])
def bcl (l:List Int):agv l.length (lf byC l)=strOfNums l:=by
 unfold agv;congr 1;refine bv1 bx0 fun i h1 h2=>?_;simp[alm,lf,byC,List.getD,h2]
variable {l:List Val}
def b8w (hi:i<l.length) (h32:i<32) (h:ct .and .u32 ((asI s).fdiv (2^(min i 32))) 1=1):fj (l.take (i+1)) s=fj (l.take i) s++ub (l.getD i default):=by
 rw[sa h32,c9 h32]at h;unfold fj;rw[aj hi,a1c,bt4,btz bww,btk,if_pos h]
def b8s (hi:i<l.length) (h32:i<32) (h:¬ct .and .u32 ((asI s).fdiv (2^(min i 32))) 1=1):fj (l.take (i+1)) s=fj (l.take i) s:=by
 rw[sa h32,c9 h32]at h;unfold fj;rw[aj hi,a1c,bt4,btz bww,btk,if_neg h]
def a82:(fj l s).size<=403*l.length:=ajn
def ajj{α:Type}[Inhabited α]{wr wr':Bool}{e:TypeId}{c:α->Nat->PV}{l l':List α}{x y:α}{g g':Nat->Nat->PV}(h:l'=(l++[x])++[y])(hg:CoP (g 0 0) (c x 0))(hg':CoP (g' 0 0) (c y 0))(hw:wr'=true->wr=true:=by exact fun h=>h) :
 CoO (.arr wr 1 e (l.length+1+1) (ep (l.length+1) (ep l.length (lf c l) g) g')) (.arr wr' 1 e l'.length (lf c l')):=by
 subst h;refine⟨hw,rfl,rfl,by simp,fun i j hi hj=>?_⟩;obtain rfl:j=0:=by omega
 unfold ep lf;by_cases h1:i<l.length
 · rw [if_pos bww,if_pos h1]
   refine CoP.of_eq ?_;simp[List.getD,List.getElem?_append,h1,show i<l.length+1 by omega]
 by_cases h2:i=l.length
 · subst h2
   rw[if_pos bww,if_neg bww,bw2];simpa [List.getD]using hg
 obtain rfl:i=l.length+1:=by omega
 rw[if_neg bww,bw2];simpa [List.getD]using hg'
def a5o {α:Type} [Inhabited α] {wr wr':Bool} {e:TypeId} {c:α->Nat->PV} {l l':List α} {x y:α} {g:Nat->Nat->PV} (h:l'=l++[x,y]) (hg:CoP (g 0 0) (c x 0)) (hg':CoP (g 1 0) (c y 0)) (hw:wr'=true->wr=true:=by exact fun h=>h) :
 CoO (.arr wr 1 e (l.length+2) (ep l.length (lf c l) g)) (.arr wr' 1 e l'.length (lf c l')):=by
 subst h;refine ae0 [x,y] hw rfl fun i j hi hj=>?_;obtain rfl:j=0:=by omega
 have hi:i<2:=hi
 rcases(by omega:i=0\/i=1)with rfl|rfl
 · exact hg
 exact hg'
end
end
section
def agT (a b:Row):Nat->AS
 |0=>0
 |i+1=>if gv (a.vals.getD i default) (b.vals.getD i default)=0 then agT a b i|||((1:AS)<<<i)else agT a b i
def agR(a b:Row):AS:=agT a b a.vals.length
def b94{a b:Row}{i:Nat}(h:gv (a.vals.getD i default) (b.vals.getD i default)=0):agT a b (i+1)=agT a b i|||((1:AS)<<<i):=if_pos h
def b98{a b:Row}{i:Nat}(h:¬gv (a.vals.getD i default) (b.vals.getD i default)=0):agT a b (i+1)=agT a b i:=if_neg h
def prs:List Row->List AS
 | []=>[]
 |r::l=>l.map (agR r)++prs l
def a1g(l:List Row)(i:Nat):List AS:=(l.drop (i+1)).map (agR (l.getD i default))
def kj(l:List Row)(i k:Nat):List AS:=((List.range i).map (a1g l)).flatten++((a1g l i).take (k-(i+1)))
def b0g:∀l:List Row,prs l=((List.range l.length).map (a1g l)).flatten
 | []=>rfl
 | r::l=>by
  rw[prs,b0g l,bto,List.range_succ_eq_map,buf,List.flatten_cons,List.map_map];rfl
def a6l(l:List Row)(i:Nat):(a1g l i).length=l.length-(i+1):=by simp[a1g]
def b0c {l:List Row} {i k:Nat} (hi:i<k) (hk:k<l.length):kj l i (k+1)=kj l i k++[agR (l.getD i default) (l.getD k default)]:=by
 unfold kj;rw[bts];congr 1;rw[show k+1-(i+1)=(k-(i+1))+1 by omega,List.take_add_one];congr 1;unfold a1g;rw[btf,bvz,show i+1+(k-(i+1))=k by omega,bsu hk,bsv (l:=l) (i:=k),bsu hk];rfl
def b2m {l:List Row} {i k:Nat} (hk:l.length<=k):kj l i k=kj l (i+1) (i+1+1):=by
 unfold kj;rw[buq (by rw[a6l];omega),bu7,bum,bv6,bw2,bvt,btu];simp
def ams (l:List Row):kj l l.length (l.length+1)=prs l:=by
 unfold kj;rw[b0g,bw2,bvt,btu]
def b7t(t:Tbl)(s:AS)(i:Nat):List ByteArray:=(List.range i).map fun k=>fj (t.rows.getD k default).vals s
def ald(t:Tbl)(s:AS):Prt:=⟨t.rows.length,aid (b7t t s t.rows.length)⟩
def nA(k:Nat):AS:=BitVec.ofNat 32 k
def f7(k:Nat):AS:=nA k&&&(nA k-1)
def bkp(t:Tbl)(l:List Prt)(k:Nat):Prt:=if f7 k=0 then ald t (nA k)else b49 (l.getD (f7 k).toNat default) (l.getD (nA k&&&~~~(f7 k)).toNat default)
def a5q (t:Tbl):Nat->List Prt
 |0=>[]
 |k+1=>a5q t k++[bkp t (a5q t k) k]
def ng {t:Tbl}:∀{k:Nat},(a5q t k).length=k
 |0=>rfl
 |k+1=>by rw[a5q,bsy,ng];rfl
def avt(t:Tbl)(k:Nat):List Int:=(a5q t k).map awo
def ap(t:Tbl):List Int:=avt t (2^t.attrs.length)
def b4w{t:Tbl}{k:Nat}:(avt t k).length=k:=by unfold avt;rw[btn,ng]
def aw7(rk:List Int)(s:AS)(a:Nat):Bool:=decide (rk.getD s.toNat default=rk.getD (s|||((1:AS)<<<a)).toNat default)
def w7(n:Int)(k i:Nat):List AS:=((List.range i).map nA).filter fun s=>decide (bsz s=k)
def kr(n k:Nat):List AS:=w7 n k (2^n)
def mnA(rk:List Int)(a:Nat)(out:List AS)(s:AS):List AS:=if s.getLsbD a=true\/(out.any fun m=>decide (sub m s))=true\/aw7 rk s a=false then out else out++[s]
def mnK(rk:List Int)(n a:Nat)(out:List AS)(k i:Nat):List AS:=((kr n k).take i).foldl (mnA rk a) out
def mnT(rk:List Int)(n a k:Nat):List AS:=(List.range k).foldl (fun out k=>mnK rk n a out k (kr n k).length) []
def mnL(rk:List Int)(n a:Nat):List AS:=mnT rk n a (n+1)
def fmF(l:List AS)(n a:Nat)(rk:List Int):List AS:=l++mnL rk n a
def fmS(rk:List Int)(n a:Nat):List AS:=(List.range a).foldl (fun l a=>l++mnL rk n a) []
def fmR(rk:List Int)(n:Nat)(s:AS):List Nat:=(List.range n).filter fun a=>(mnL rk n a).any fun x=>decide (x=s)
def fmO(rk:List Int)(n:Nat):List Fd:=(ord (fmS rk n n)).flatMap fun s=>(fmR rk n s).map fun a=>⟨s,(1:AS)<<<a⟩
def bqn(t:Tbl):List Fd:=fmO (ap t) t.attrs.length
def bi7(avoid:List AS)(s:AS):Bool:=avoid.any fun x=>decide (sub s x)
def ai0(avoid:List AS)(out:List AS)(s:AS):List AS:=if bi7 avoid s=false/\(out.any fun x=>decide (sub x s))=false then out++[s]else out
def qj(n:Nat)(avoid:List AS)(i:Nat):List AS:=((c8 (aa (n:Int))).take i).foldl (ai0 avoid) []
def bho(n:Nat)(avoid:List AS):List AS:=qj n avoid (c8 (aa (n:Int))).length
def a7t(out:List AS)(s:AS):List AS:=if(out.any fun x=>decide (x=s))=true then out else out++[s]
def gr(l:List AS):List AS:=l.foldl a7t []
def akh{l:List AS}{s:AS}:gr (l++[s])=a7t (gr l) s:=by unfold gr;rw[btq];rfl
def b8a(t:Tbl):List AS:=bho t.attrs.length (gw (gr (prs t.rows)))
end
section
def sh(l:List Val)(s:AS)(j:Nat):ByteArray:=((am s).take j).foldl (fun o a=>o++ub (l.getD a default)) emp
section
variable {j:Nat}{l:List Val}{s:AS}
def a73 (h:j<(am s).length):sh l s (j+1)=sh l s j++ub (l.getD ((am s).getD j default) default):=by
 unfold sh;rw[aj h,btq];rfl
def aja:∀{j:Nat},(sh l s j).size<=403*j
 |0=>bsx _
 | j + 1=>by
  have ih:(sh l s j).size<=403*j:=aja;by_cases h:j<(am s).length
  · rw [a73 h,ad4]
    have:=a1x (v:=l.getD ((am s).getD j default) default);omega
  have e:sh l s (j+1)=sh l s j:=by unfold sh;rw[buq bww,buq bww]
  rw[e];omega
theorem b5y (hl:l.length<=32) (hs:∀a,s.getLsbD a=true->a<l.length):sh l s (am s).length=fj l s:=by
 have key:∀i,i<=l.length->((List.range i).filter fun a=>s.getLsbD a).foldl (fun o a=>o++ub (l.getD a default)) emp=fj (l.take i) s:=by
  intro i
  induction i with
  |zero=>intro _;rfl
  | succ i ih =>
   intro hi
   have e:fj (l.take (i+1)) s=if s.getLsbD i=true then fj (l.take i) s++ub (l.getD i default)else fj (l.take i) s:=by
    unfold fj;rw[aj bww,a1c,bt4,btz bww,btk]
   rw[bu7,buo,btq,ih bww,e]
   grind
 have more:∀k,(List.range (l.length+k)).filter (fun a=>s.getLsbD a)=(List.range l.length).filter fun a=>s.getLsbD a:=by
  intro k
  induction k with
  |zero=>rfl
  | succ k ih =>
   rw[<- bv5,bu7,buo,ih]
   grind
 unfold sh am;rw[bt6];have e:=more (32-l.length);simp_all
def b77 {v:Val} (h:ci v=true):0<(ub v).size:=by
 rw[ait h,strOfNums_size,n8,bto];omega
def b63 (hj:j<(am s).length) (hv:ci (l.getD ((am s).getD j default) default)=true):bl (sh l s (j+1))≠[]:=by
 intro e;have h1:=b77 hv;have h2:(sh l s (j+1)).size=0:=by rw[<- gh,e];rfl
 rw[a73 hj,ad4]at h2;omega
def bhq(a b:ByteArray):bl (a++b)=bl a++bl b:=by simp[bl,ByteArray.data_append]
def bcn(s:ByteArray):(⟨(bl s).toArray⟩:ByteArray)=s:=ByteArray.ext (by simp[bl])
variable {i n:Nat}
def ayh (hs:∀z,s.getLsbD z=true->z<n) (hi:i<(am s).length):(am s).getD i default<n:=by
 rw[c4 _ _ hi];exact hs _ (oc.1 (bta hi)).2
def tw(t:Tbl)(s:AS)(i:Nat):List ByteArray:=(List.range t.rows.length).map fun k=>if k<i then fj (t.rows.getD k default).vals s else emp
def tu{t:Tbl}:(tw t s i).length=t.rows.length:=by simp[tw]
def b3u {t:Tbl}:tw t s t.rows.length=b7t t s t.rows.length:=by
 unfold tw b7t;simp_all
theorem b1n {t:Tbl} (hi:i<t.rows.length):tw t s (i+1)=(tw t s i).set i (fj (t.rows.getD i default).vals s):=by
 refine bv1 (by simp[tw]) fun k h1 h2=>?_;rw[bvo];simp only[tw,bvj,bv9]
 grind
variable {k:Nat}
def b3s{t:Tbl}(hT:TOk t)(hi:i<(tw t s k).length):((tw t s k).getD i default).size<=maxLen:=by
 rw[tu]at hi;rw[c4 _ _ (by rw[tu];exact hi)];simp only[tw,bvj,bv9];split
 · have h1:=a82 (l:=(t.rows.getD i default).vals) (s:=s)
   have h2:=hT.width hi;have h3:=hT.na;unfold maxLen;omega
 exact bsx _
def a2m(m i:Nat):List Int:=(List.range m).map fun(k:Nat)=>if k<i then -1-(k:Int)else 0
variable {m:Nat}
def apk:(a2m m i).length=m:=by simp[a2m]
def b4t:a2m m m=a8o m:=by
 unfold a2m a8o;simp_all
theorem b1q (hi:i<m):a2m m (i+1)=(a2m m i).set i (-1-(i:Int)):=by
 refine bv1 (by simp[a2m]) fun k h1 h2=>?_;rw[bvo];simp only[a2m,bvj,bv9]
 grind
def qo(a b:Prt)(i:Nat):List (Int×Int):=(List.range a.rows.toNat).map fun k=>if k<i then((yc a).getD k default,(yc b).getD k default) else(0,0)
def vv{a b:Prt}:(qo a b i).length=a.rows.toNat:=by simp[qo]
def b5p {a b:Prt}:qo a b a.rows.toNat=b6r a b:=by
 unfold qo b6r;simp_all
theorem aye {a b:Prt} (hi:i<a.rows.toNat):qo a b (i+1)=(qo a b i).set i ((yc a).getD i default,(yc b).getD i default):=by
 refine bv1 (by simp[qo]) fun k h1 h2=>?_;rw[bvo];simp only[qo,bvj,bv9]
 grind
variable {p:Prt}
theorem qf (h:ke p=true):0<=p.rows/\p.rows<=1000:=by
 unfold ke at h
 grind
theorem aac (h:ke p=true) (hk:k<p.cls.length):ai2 p k=true:=by
 unfold ke at h
 grind
theorem asy (h:ai2 p k=true):¬(p.cls.getD k default).length<2/\agr p k<(((p.cls.getD k default).getD 0 default:Nat):Int):=by
 unfold ai2 at h
 grind
theorem ahe (h:ai2 p k=true) (hj:j<(p.cls.getD k default).length):am1 (p.cls.getD k default) j<(((p.cls.getD k default).getD j default:Nat):Int)/\(((p.cls.getD k default).getD j default:Nat):Int)<p.rows /\
 ¬(p.cls.getD k default).getD j default∈(p.cls.take k).flatten++(p.cls.getD k default).take j:=by
 unfold ai2 at h;simp only[bt5,btl]at h;have:=h.2 j (btj.2 hj);unfold bkd at this
 grind
def agx:(snT p k j).length=p.rows.toNat:=by simp[snT]
def bjq (hi:i<p.rows.toNat):(snT p k j).getD i default=decide (i∈(p.cls.take k).flatten++(p.cls.getD k default).take j):=by
 rw[c4 _ _ (by rw[agx];exact hi)];simp only[snT,bvj,bv9]
def b4i:snT p 0 0=List.replicate p.rows.toNat false:=by
 refine bv1 (by simp[snT]) fun k h1 h2=>?_;simp[snT]
def b4g (hk:k<p.cls.length):snT p k (p.cls.getD k default).length=snT p (k+1) 0:=by
 unfold snT;refine bvc fun i _=>?_;rw[bt6,aj hk,bv6,bvt,btu];simp
theorem b35 (hj:j<(p.cls.getD k default).length) (hr:(((p.cls.getD k default).getD j default:Nat):Int)<p.rows):snT p k (j+1)=(snT p k j).set ((p.cls.getD k default).getD j default) true:=by
 refine bv1 (by simp[snT]) fun i h1 h2=>?_;rw[bvo];simp only[snT,bvj,bv9];rw[aj hj]
 grind
def azt{c:List Nat}:am1 c (j+1)=((c.getD j default:Nat):Int):=by unfold am1;rw[if_neg bww];rfl
def az0:agr p (k+1)=(((p.cls.getD k default).getD 0 default:Nat):Int):=by unfold agr;rw[if_neg bww];rfl
def a3p(m:Nat)(l:List Int):Prop:=∀i,i<l.length->-(m:Int)-1<=l.getD i default/\l.getD i default<=m
def ax8 {l:List Int} (h:a3p m l) (hk:k<=m):a3p m (l.set i (k:Int)):=fun q hq=>by
 rw[bus]at hq;rw[c4 _ _ (by rw[bus];exact hq),bvo];split
 · omega
 have:=h q hq;rwa [c4 _ _ hq]at this
def aoa (hn:n<=m):∀{c:List Nat} {l:List Int},a3p m l->a3p m (a6n n l c)
 | [],_,h=>h
 | i::c,l,h=>by
  show a3p m (a6n n (l.set i (n:Int)) c);exact aoa hn (ax8 h hn)
def abk (hr:p.rows.toNat<=m):∀{k:Nat},k<=m->a3p m (ud p k)
 | 0,_=>fun i hi=>by
  have hi:i<p.rows.toNat:=by rwa [qr]at hi
  show -(m:Int)-1<=(a8o p.rows.toNat).getD i default/\_;have e:(a8o p.rows.toNat).getD i default=-1-(i:Int):=by simp[a8o,List.getD,hi]
  show _/\(a8o p.rows.toNat).getD i default<=_;rw[e];omega
 |k+1,hk=>by rw[a8d];exact aoa bww (abk hr bww)
theorem arb {α:Type} [Inhabited α] {wr wr':Bool} {p:Nat} {e:TypeId} {c:α->Nat->PV} {l:List α} {v:α} {x y:PV} (hw:wr'=true->wr=true) (hn:n=l.length) (hp:k=p) (hk:p<l.length) (hx:x=c v 0) (hy:y=c v 1):
 CoO (.arr wr 2 e n (eu (lf c l) k 0 [x,y])) (.arr wr' 2 e n (lf c (l.set p v))):=by
 subst hp hx hy hn;refine⟨hw,rfl,rfl,rfl,fun i j hi hj=>CoP.of_eq ?_⟩;unfold eu lf
 grind
theorem at6 {e:TypeId} {f g:Nat->Nat->PV} (hn:m=n) (h:∀i,i<n->CoP (f i 0) (g i 0)/\CoP (f i 1) (g i 1)):CoO (.arr true 2 e n f) (.arr true 2 e m g) :=
 ⟨fun h=>h,rfl,rfl,hn,fun i j hi hj=>by
  rcases(by omega:j=0\/j=1)with rfl|rfl
  · grind
  exact(h i hi).2⟩
theorem amk (h:ke p=true):∀{k j:Nat},k<=p.cls.length->j<=(p.cls.getD k default).length->(k<p.cls.length\/j=0)->((p.cls.take k).flatten++(p.cls.getD k default).take j).Nodup/\∀x∈(p.cls.take k).flatten++(p.cls.getD k default).take j,(x:Int)<p.rows
 |0,0,_,_,_=>by simp
 | k+1,0,hk,_,_=>by
  have:=amk h (k:=k) (j:=(p.cls.getD k default).length) bww (bsw _) (.inl bww);rw[bt6]at this;rw[bvt,btu,aj bww,bv6]
  grind
 | k,j+1,hk,hj,ho=>by
  have hk2:k<p.cls.length:=by omega
  obtain⟨h1,h2⟩:=amk h (k:=k) (j:=j) hk bww (.inl hk2);obtain⟨_,g2,g3⟩:=ahe (aac h hk2) (show j<(p.cls.getD k default).length by omega);rw[aj bww,<- bts];refine⟨List.nodup_append.2 ⟨h1,by simp,fun a ha b hb e=>?_⟩,fun x hx=>?_⟩
  · grind
  grind
theorem ahv (h:ke p=true) (hk:k<=p.cls.length):(p.cls.take k).flatten.length<=1000/\2*k<=(p.cls.take k).flatten.length:=by
 obtain⟨h1,h2⟩:=amk h (k:=k) (j:=0) hk (bsx _) (.inr rfl);rw[bvt,btu]at h1 h2;have hr:=qf h;refine⟨?_, ?_⟩
 · have:=h1.length_le_of_subset (l₂:=List.range 1000) fun x hx=>btj.2 (by have:=h2 x hx;omega)
   grind
 clear h1 h2
 induction k with
 |zero=>simp
 | succ k ih =>
  have:=ih bww;have h3:=(asy (aac h (show k<p.cls.length by omega))).1;rw[aj bww,bv6,bsy]
  grind
theorem at3:∀{k:Nat},k<=p.cls.length->a05 p k=p.rows-((p.cls.take k).flatten.length:Int)+(k:Int)
 |0,_=>by simp[a05]
 | k+1,hk=>by
  rw[ako bww,at3 bww,aj bww,bv6,bsy]
  grind
def azw (h:ke p=true) (hk:k<=p.cls.length):-1000<=a05 p k/\a05 p k<=1000:=by
 have h1:=ahv h hk;have h2:=qf h;rw[at3 hk];omega
def w4 (h:ke p=true):p.cls.length<=1000:=by
 have:=ahv h (bsw p.cls.length);omega
theorem aif (h:ke p=true) (hk:k<p.cls.length):(p.cls.getD k default).length<=1000:=by
 have:=(ahv h (show k+1<=p.cls.length from hk)).1;rw[aj hk,bv6,bsy]at this
 grind
def a81 {e:TypeId} {f g:Nat->Nat->PV} (hn:m=n) (h:∀i,i<n->CoP (f i 0) (g i 0)):CoO (.arr true 1 e n f) (.arr true 1 e m g) :=
 ⟨fun h=>h,rfl,rfl,hn,fun i j hi hj=>by
  obtain rfl:j=0:=by omega
  exact h i hi⟩
def bgz {n:Int} (h1:-9223372036854775808<=n) (h2:n<=9223372036854775807):(Lit.int .i64 n).wf=true:=by
 unfold Lit.wf;rw[bt5,decide_eq_true_eq,decide_eq_true_eq];exact⟨h1,h2⟩
end
end
section
open Go.Proofs
def a30:goodFn bxn 220:=wgx Tryz.func220
def aqg (a b:Int):a6 bxn 220 [pI a,pI b] (ae [pI (sgn a b)]):=by
 refine hpx (nt:=11) Tryz.func220 ?_;refine ig ?_;refine hcd ?_ ?_<;>intro h0
 · refine v_4 ?_;exact⟨cci (by unfold sgn;rw[if_pos h0]),trivial⟩
 refine w_8 ?_;refine hcd ?_ ?_<;>intro h1
 · refine v_4 ?_;exact⟨cci (by unfold sgn;rw[if_neg h0,if_pos h1]),trivial⟩
 refine v_5 ?_;exact⟨cci (by unfold sgn;rw[if_neg h0,if_neg h1]),trivial⟩
def bq0(a b:ByteArray)(ha:a.size<=68719476736)(hb:b.size<=68719476736):a6 bxn 243 [pS a,pS b] (ae [pI (nq a b)]):=by
 refine hpx (nt:=39) Tryz.func243 ?_;refine w_4 ?_;refine cg (ι:=Unit) (ka 0 (ka 1 kn)) km (fun _i=>⟨[],[]⟩) (fun _i=>nq a b=sgn a.size b.size) ?_ ?_
 ·
  refine w_5 ?_;refine ai (ι:=Nat) (ka 0 (ka 1 kn)) km (fun i=>⟨[(5,some (vI i))],[]⟩) (fun i=>i<=a.size/\i<=b.size/\ik ((bl a).drop i) ((bl b).drop i)=nq a b) (fun i=>a.size-i) (0) (⟨bsx _,bsx _,rfl⟩) kk ?_;rintro i ⟨hi1,hi2,hc⟩;refine w_8 ?_;refine ak rfl rfl ?_ ?_<;>intro r0
  ·
   have h0:=tz1 r0;(iterate 4 refine qy ?_ (hg:=(gtt r0)));refine w_2 ?_;refine al _ rfl ?_ ?_<;>intro r1
   ·
    have h1:=tz1 (c5 r0 r1);refine mz ?_;refine hcn ?_ ?_<;>intro h2
    · refine da ?_;refine qcx a30 (aqg _ _) ?_;refine v_3 ?_;exact⟨cci (by rw[<- hc,ajx i _ _ (by rw[gh];omega) (by rw[gh];omega) (fun e=>h2 ((af6 _ _ _ _).2 e))];rfl),trivial⟩
    refine w_6 ?_;refine lpz (i+1) kk ?_;exact⟨by omega,by omega,by rw[<- hc];exact(ajq i _ _ (by rw[gh];omega) (by rw[gh];omega) ((af6 _ _ _ _).1 h2)).symm⟩
   have h1:=tz2 (c5 r0 r1);refine ck ?_;refine⟨(), ?_, ?_⟩
   · rw[<- hc,<- gh,<- gh];exact aca i _ _ (by rw[gh];omega) (by rw[gh];omega) (by rw[gh,gh];omega)
   exact kk
  have h0:=tz2 r0;(iterate 4 refine k9 (gft r0) ?_);refine w_4 ?_;refine⟨(), ?_, ?_⟩
  · rw[<- hc,<- gh,<- gh];exact aca i _ _ (by rw[gh];omega) (by rw[gh];omega) (by rw[gh,gh];omega)
  exact kk
 rintro _ hj;refine w_6 ?_;refine qcx a30 (aqg _ _) ?_;refine v_2 ?_;exact⟨cci hj.symm,trivial⟩
def bos (a b:Val) (ha:a.str.size<=68719476736) (hb:b.str.size<=68719476736):a6 bxn 219 [a.pc,b.pc] (ae [pI (gv a b)]):=by
 refine hpx (nt:=28) Tryz.func219 ?_;refine sx7 ?_;refine m9 0 ?_;refine m9 1 ?_;refine w_9 ?_;refine qcx a30 (aqg _ _) ?_;refine w_7 ?_;refine hcn ?_ ?_<;>intro h0
 · refine v_5 ?_;exact⟨cci (by unfold gv;rw[if_pos h0]),trivial⟩
 refine w_8 ?_;refine qcx a30 (aqg _ _) ?_;refine w_7 ?_;refine hcn ?_ ?_<;>intro h1
 · refine v_5 ?_;exact⟨cci (by unfold gv;rw[if_neg bww,if_pos h1]),trivial⟩
 refine w_7 ?_;refine qcx (wgx Tryz.func243) (bq0 a.str b.str ha hb) ?_;refine v_2 ?_;exact⟨cci (by unfold gv;rw[if_neg bww,if_neg bww]),trivial⟩
end
section
open Go.Proofs
def bp8(a b:List Val)(ha:vn a)(hb:vn b):a6 bxn 166 [pP (vals a),pP (vals b)] (ae [pI (dp a b)]):=by
 refine hpx (nt:=36) Tryz.func166 ?_;refine cw 0 rfl (fun hn=>?_);refine w_4 ?_;refine cg (ι:=Unit) (ka 0 (ka 1 kn)) km (fun _i=>⟨[],[]⟩) (fun _i=>dp a b=sgn a.length b.length) ?_ ?_
 ·
  refine w_5 ?_;refine ai (ι:=Nat) (ka 0 (ka 1 kn)) km (fun i=>⟨[(5,some (vI i))],[]⟩) (fun i=>i<=a.length/\i<=b.length/\dp (a.drop i) (b.drop i)=dp a b) (fun i=>a.length-i) (0) (⟨bsx _,bsx _,rfl⟩) kk ?_;rintro i ⟨hi1,hi2,hc⟩;refine w_8 ?_;refine ak rfl rfl ?_ ?_<;>intro r0
  ·
   have h0:=tz1 r0;(iterate 4 refine qy ?_ (hg:=(gtt r0)));refine w_2 ?_;refine al _ rfl ?_ ?_<;>intro r1
   ·
    have h1:=tz1 (c5 r0 r1);refine jo ?_;refine qcx (wgx Tryz.func219) (bos _ _ (ha i bww) (hb i bww)) ?_;refine w_8 ?_;refine hcn ?_ ?_<;>intro h2
    · refine v_5 ?_;exact⟨cci (by rw[<- hc];exact(ado i _ _ bww bww h2).symm),trivial⟩
    refine w_6 ?_;refine lpz (i+1) kk ?_;exact⟨by omega,by omega,by rw[<- hc];exact(af9 i _ _ bww bww h2).symm⟩
   have h1:=tz2 (c5 r0 r1);refine ck ?_;refine⟨(), ?_, ?_⟩
   · rw[<- hc];exact a85 i _ _ bww bww bww
   exact kk
  have h0:=tz2 r0;(iterate 4 refine k9 (gft r0) ?_);refine w_4 ?_;refine⟨(), ?_, ?_⟩
  · rw[<- hc];exact a85 i _ _ bww bww bww
  exact kk
 rintro _ hj;refine w_6 ?_;refine qcx a30 (aqg _ _) ?_;refine v_2 ?_;exact⟨cci hj.symm,trivial⟩
def c81 (a b:List Val) (ha:vn a) (hb:vn b):a6 bxn 112 [pP (vals a),pP (vals b)] (ae [pB (decide (a=b))]):=by
 refine hpx (nt:=9) Tryz.func112 ?_;refine w_8 ?_;refine qcx (wgx Tryz.func166) (bp8 a b ha hb) ?_;refine v_3 ?_;exact⟨ccb (decide_eq_decide.2 a61),trivial⟩
def bx8{p:Prop}(h:p:=by simp[ci, *]<;>omega):p:=h
def c86(v:Val):a6 bxn 165 [v.pc] (ae [pB (ci v)]):=by
 refine hpx (nt:=44) Tryz.func165 ?_;refine sx7 ?_;refine m9 0 ?_;refine mz ?_;refine hcd ?_ ?_<;>intro h0
 ·
  refine w_6 ?_;refine ak rfl rfl ?_ ?_<;>intro r1
  ·
   have h1:=tz1 r1;(iterate 3 refine qy ?_ (hg:=(gtt r1)));refine w_3 ?_
   exact hx8 rfl rfl rfl (⟨ccb bx8,trivial⟩)
  have h1:=tz2 r1;(iterate 3 refine k9 (gft r1) ?_);refine w_3 ?_
  exact hx8 rfl rfl rfl (⟨ccb bx8,trivial⟩)
 refine w_5 ?_;refine hcd ?_ ?_<;>intro h2
 · refine v_7 ?_;exact⟨ccb bx8,trivial⟩
 refine w_5 ?_;refine hcd ?_ ?_<;>intro h3
 ·
  refine w_6 ?_;refine ak rfl rfl ?_ ?_<;>intro r4
  ·
   have h4:=tz1 r4;(iterate 4 refine qy ?_ (hg:=(gtt r4)));refine w_3 ?_
   exact hx8 rfl rfl rfl (⟨ccb bx8,trivial⟩)
  have h4:=tz2 r4;(iterate 4 refine k9 (gft r4) ?_);refine w_3 ?_
  exact hx8 rfl rfl rfl (⟨ccb bx8,trivial⟩)
 refine w_7 ?_;refine ak rfl rfl ?_ ?_<;>intro r5
 ·
  have h5:=tz1 r5;(iterate 3 refine qy ?_ (hg:=(gtt r5)));refine w_2 ?_;refine ak rfl rfl ?_ ?_<;>intro r6
  ·
   have h6:=tz1 (c5 r5 r6);(iterate 3 refine qy ?_ (hg:=(gtt r6)));refine w_3 ?_
   exact hx8 rfl rfl rfl (⟨ccb bx8,trivial⟩)
  have h6:=tz2 (c5 r5 r6);(iterate 3 refine k9 (gft r6) ?_);refine w_3 ?_
  exact hx8 rfl rfl rfl (⟨ccb bx8,trivial⟩)
 have h5:=tz2 r5;(iterate 3 refine k9 (gft r5) ?_);refine w_2 ?_;(iterate 3 refine k9 rfl ?_);refine w_3 ?_
 exact hx8 rfl rfl rfl (⟨ccb bx8,trivial⟩)
def c76(v:Val):a6 bxn 203 [v.pc] (ae [pB (ci v)]):=by
 refine hpx (nt:=41) Tryz.func203 ?_;refine sx7 ?_;refine m9 0 ?_;refine mz ?_;refine hcd ?_ ?_<;>intro h0
 ·
  refine w_6 ?_;refine ak rfl rfl ?_ ?_<;>intro r1
  ·
   have h1:=tz1 r1;(iterate 3 refine qy ?_ (hg:=(gtt r1)));refine w_3 ?_
   exact hx8 rfl rfl rfl (⟨ccb bx8,trivial⟩)
  have h1:=tz2 r1;(iterate 3 refine k9 (gft r1) ?_);refine w_3 ?_
  exact hx8 rfl rfl rfl (⟨ccb bx8,trivial⟩)
 refine w_5 ?_;refine hcd ?_ ?_<;>intro h2
 · refine v_7 ?_;exact⟨ccb bx8,trivial⟩
 refine w_5 ?_;refine hcd ?_ ?_<;>intro h3
 ·
  refine w_6 ?_;refine ak rfl rfl ?_ ?_<;>intro r4
  ·
   have h4:=tz1 r4;(iterate 4 refine qy ?_ (hg:=(gtt r4)));refine w_3 ?_
   exact hx8 rfl rfl rfl (⟨ccb bx8,trivial⟩)
  have h4:=tz2 r4;(iterate 4 refine k9 (gft r4) ?_);refine w_3 ?_
  exact hx8 rfl rfl rfl (⟨ccb bx8,trivial⟩)
 refine w_5 ?_;refine hcd ?_ ?_<;>intro h5
 ·
  refine w_6 ?_;refine ak rfl rfl ?_ ?_<;>intro r6
  ·
   have h6:=tz1 r6;(iterate 3 refine qy ?_ (hg:=(gtt r6)));refine w_3 ?_
   exact hx8 rfl rfl rfl (⟨ccb bx8,trivial⟩)
  have h6:=tz2 r6;(iterate 3 refine k9 (gft r6) ?_);refine w_3 ?_
  exact hx8 rfl rfl rfl (⟨ccb bx8,trivial⟩)
 refine v_5 ?_;exact⟨ccb bx8,trivial⟩
def c83(l:List Val):a6 bxn 110 [pP (vals l)] (ae [pB (l.all ci)]):=by
 refine hpx (nt:=16) Tryz.func110 ?_;refine cw 0 rfl (fun hn=>?_);refine w_4 ?_;refine cg (ι:=Unit) kn km (fun _i=>⟨[],[]⟩) (fun _i=>l.all ci=true) ?_ ?_
 ·
  refine w_5 ?_;refine ai (ι:=Nat) (ka 0 kn) km (fun i=>⟨[(3,some (vI i))],[]⟩) (fun i=>i<=l.length/\∀j,j<i->ci (l.getD j default)=true) (fun i=>l.length-i) (0) (⟨bsx _,bv⟩) kk ?_;rintro i ⟨hi,hI⟩;refine w_8 ?_;refine hcd ?_ ?_<;>intro h0
  ·
   refine w_9 ?_;refine qcx (wgx Tryz.func165) (c86 _) ?_;refine w_2 ?_;refine hcv ?_ ?_<;>intro h1
   · refine v_4 ?_;exact⟨ccb (afc bww h1).symm,trivial⟩
   refine w_6 ?_;refine lpz (i+1) kk ?_;exact⟨by omega,bc hI (h1)⟩
  refine ck ?_;refine⟨(), ?_, ?_⟩
  · exact aey fun j hj=>hI j bww
  exact⟨trivial,trivial⟩
 rintro _ hj;refine v_4 ?_;exact⟨ccb hj.symm,trivial⟩
end
section
open Go.Proofs
def asg (l:List Int) (n:Int) (hl:l.length<=1000000):d9 bxn 217 [.one (.ref 1000 l.length), .one (.p (.raw (.int .i64 n)))] [(1000, .arr true 1 5 l.length (lf byC l))] (.v (.one (.ref 1000 (l++y7 n).length))) [(1000, .arr true 1 5 (l++y7 n).length (lf byC (l++y7 n)))] [1000]:=by
 refine hfx (nt:=22) Tryz.func217 ?_;refine w_7 ?_;refine rqw rfl rfl rfl rfl rfl ?_;refine w_9 ?_;refine br (ka 5 kn) km (fun i=>⟨[(0,some (.v (.one (.ref 1000 (l++w6 n i).length)))),(6,some (vI (56-8*(i:Int))))],[(1000,some (.arr true 1 5 (l++w6 n i).length (lf byC (l++w6 n i))))]⟩) 8 ⟨⟨⟨_,rfl,(bm (by simp[w6]))⟩,⟨_,rfl,(coi (by first|rfl|omega))⟩,trivial⟩,⟨⟨_,rfl,(b6 (by simp[w6]))⟩,trivial⟩⟩ ?_;rintro i hi;have hlen:(l++w6 n i).length=l.length+i:=by simp[w6]
 refine w_6 ?_;refine hcd ?_ ?_<;>intro h0
 · refine w_8 ?_;refine rqw rfl rfl rfl rfl rfl ?_;refine m9 0 ?_;refine r9 1 true ?_;refine w_7 ?_;exact lpx (i+1) ⟨⟨⟨_,rfl,(bq ans)⟩,⟨_,rfl,(coi (by first|omega|(dsimp only;omega)))⟩,tt⟩,⟨⟨_,rfl,(bw ans (CoP.of_eq (by dsimp only;rw[show((56:Int)-8*(i:Int)).toNat=56-8*i by omega];rfl)))⟩,trivial⟩⟩
 obtain rfl:i=8:=by omega
 refine w_6 ?_;refine hrr ?_;exact⟨_,_,rfl,bwy,fb (by rw[ami]),⟨⟨_,rfl,b6 (by rw[ami])⟩,trivial⟩⟩
def bxj{p:Prop}(h:p:=by first|exact .inl bwx|exact .inr bwx):p:=h
def bxm{p:Prop}(h:p:=by first|exact fb (by rw[(ux bxj)])|exact fb (by rw[uj bwx,bsy];rfl)|exact fb (by rw[(um bwx bwx bwx)];rfl)):p:=h
def bg2(v:Val):a6 bxn 158 [v.pc] (ae [pS (ub v),pI (b6j v)]):=by
 refine hpx (nt:=51) Tryz.func158 ?_;refine sx7 ?_;refine m9 0 ?_;refine w_7 ?_;refine qcx (wgx Tryz.func203) (c76 v) ?_;refine w_2 ?_;refine hcv ?_ ?_<;>intro h0
 · refine v_5 ?_;exact⟨CoC.one (by rw[baw bwx];exact CoP.refl _),cci (bd7 bwx).symm,trivial⟩
 have hs:=a4u h0;refine w_5 ?_;refine rqw rfl rfl rfl rfl rfl ?_;refine m9 1 ?_;refine w_2 ?_;refine a1f kn (kb 0 km) ⟨[(4,some (.v (.one (.ref 1 (n8 v).length))))],[(1,some (.arr true 1 5 (n8 v).length (lf byC (n8 v))))]⟩ ?_ ?_
 ·
  refine fh ?_;refine al _ rfl ?_ ?_<;>intro r1
  · have h1:=tz1 r1;refine dn ?_;refine al _ rfl (fun _=>?_) (fun e=>Bool.noConfusion (r1.symm.trans e));refine w_4 ?_;refine fc9 (wgx Tryz.func217) ((asg [kB v] v.num l9).swap 1000 1) ⟨⟨_,rfl,p9 (CoP.refl _)⟩,trivial⟩ ?_;refine w_2 ?_;exact⟨⟨⟨_,rfl,bxm⟩,trivial⟩,⟨⟨_,rfl,(by first|exact b6 (ux bxj)|exact a5o (uj bwx) (CoP.refl _) (CoP.refl _)|(rw[(um bwx bwx bwx)];exact p9 (CoP.refl _)))⟩,uu⟩⟩
  have h1:=tz2 r1;refine w_4 ?_;refine hcd ?_ ?_<;>intro h2
  · refine w_4 ?_;refine fc9 (wgx Tryz.func217) ((asg [kB v] v.num l9).swap 1000 1) ⟨⟨_,rfl,p9 (CoP.refl _)⟩,trivial⟩ ?_;refine w_2 ?_;exact⟨⟨⟨_,rfl,bxm⟩,trivial⟩,⟨⟨_,rfl,(by first|exact b6 (ux bxj)|exact a5o (uj bwx) (CoP.refl _) (CoP.refl _)|(rw[(um bwx bwx bwx)];exact p9 (CoP.refl _)))⟩,uu⟩⟩
  refine w_5 ?_;refine hcd ?_ ?_<;>intro h3
  ·
   refine w_9 ?_;refine br (ka 1 (ka 26 kn)) (kb 0 km) (fun i=>⟨[(4,some (.v (.one (.ref 1 (ww v i).length)))),(27,some (vI i))],[(1,some (.arr true 1 5 (ww v i).length (lf byC (ww v i))))]⟩) v.str.size ⟨⟨⟨_,rfl,(CoR.refl _)⟩,tt⟩,⟨⟨_,rfl,(p9 (CoP.refl _))⟩,trivial⟩⟩ ?_;rintro i hi;have hlen:=bex (v:=v) (i:=i);refine w_5 ?_;refine hcd ?_ ?_<;>intro h4
   ·
    refine j5 ?_;refine m9 2 ?_;refine r9 3 true ?_;refine da ?_;refine hcd ?_ ?_<;>intro h5
    ·
     refine w_2 ?_;refine m9 4 ?_;refine r9 5 true ?_;refine w_6 ?_
     first | (refine lpz (i+1) ⟨⟨⟨_, rfl, (by rw[alj bww bwx]; simp only[bsy]; exact CoR.refl _)⟩, tt⟩, ⟨⟨_, rfl, (by rw[alj bww bwx]; exact ajj rfl (CoP.refl _) (CoP.refl _))⟩, uu⟩⟩ ?_; show i+1<=_; omega)
           |(refine lpz (i+1) ⟨⟨⟨_,rfl,(bq (alg bww bwx))⟩,tt⟩,⟨⟨_,rfl,(bw (alg bww bwx) (CoP.refl _))⟩,uu⟩⟩ ?_;show i+1<=_;omega)
    refine w_5 ?_
    first | (refine lpz (i+1) ⟨⟨⟨_, rfl, (by rw[alj bww bwx]; simp only[bsy]; exact CoR.refl _)⟩, tt⟩, ⟨⟨_, rfl, (by rw[alj bww bwx]; exact ajj rfl (CoP.refl _) (CoP.refl _))⟩, uu⟩⟩ ?_; show i+1<=_; omega)
          |(refine lpz (i+1) ⟨⟨⟨_,rfl,(bq (alg bww bwx))⟩,tt⟩,⟨⟨_,rfl,(bw (alg bww bwx) (CoP.refl _))⟩,uu⟩⟩ ?_;show i+1<=_;omega)
   obtain rfl:i=v.str.size:=by omega
   refine w_3 ?_;refine m9 6 ?_;refine r9 7 true ?_;refine w_2 ?_;exact⟨⟨⟨_,rfl,bxm⟩,trivial⟩,⟨⟨_,rfl,(by first|exact b6 (ux bxj)|exact a5o (uj bwx) (CoP.refl _) (CoP.refl _)|(rw[(um bwx bwx bwx)];exact p9 (CoP.refl _)))⟩,uu⟩⟩
  refine dn ?_;exact⟨⟨⟨_,rfl,bxm⟩,trivial⟩,⟨⟨_,rfl,(by first|exact b6 (ux bxj)|exact a5o (uj bwx) (CoP.refl _) (CoP.refl _)|(rw[(um bwx bwx bwx)];exact p9 (CoP.refl _)))⟩,uu⟩⟩
 refine d5 ?_;refine bh 4 rfl rfl rfl ?_;refine w_2 ?_;refine rq rfl rfl rfl rfl rfl ?_ (hp:=⟨rfl,fun i hi=>⟨_,rfl⟩⟩);refine v_3 ?_;exact⟨CoC.one (by rw[ait bwx,<- bcl];exact CoP.refl _),cci (bb2 bwx).symm,trivial⟩
def ahc:goodFn bxn 103:=wgx Tryz.func103
def agt(l:List Val)(s:AS)(hl:l.length<=16):a6 bxn 103 [pP (vals l),pA s] (ae [pS (fj l s)]):=by
 refine hpx (nt:=32) Tryz.func103 ?_;refine da ?_;refine cw 0 rfl fun hn=>?_;refine w_6 ?_;refine br (ka 1 (ka 10 (ka 11 kn))) km (fun i=>⟨[(5,some (vS (fj (l.take i) s))),(12,some (vI i))],[]⟩) l.length kk ?_;rintro i hi;have hsz:=a82 (l:=l.take i) (s:=s);rw[bt4]at hsz;have hk:=a1x (v:=l.getD i default);refine w_5 ?_;refine hcd ?_ ?_<;>intro h0
 ·
  refine w_8 ?_;refine m9 0 ?_;refine ig ?_;refine hcd ?_ ?_<;>intro h1
  ·
   refine w_3 ?_;refine qcx (wgx Tryz.func158) (bg2 (l.getD i default)) ?_;refine ov ?_
   first | (refine lpz (i+1) ⟨⟨⟨_, rfl, (coS (b8w bww bww bwx).symm)⟩, tt⟩, trivial⟩ ?_; show i+1<=_; omega)
         |(refine lpz (i+1) ⟨⟨⟨_,rfl,(coS (b8s bww bww bwx).symm)⟩,tt⟩,trivial⟩ ?_;show i+1<=_;omega)
  refine w_5 ?_
  first | (refine lpz (i+1) ⟨⟨⟨_, rfl, (coS (b8w bww bww bwx).symm)⟩, tt⟩, trivial⟩ ?_; show i+1<=_; omega)
        |(refine lpz (i+1) ⟨⟨⟨_,rfl,(coS (b8s bww bww bwx).symm)⟩,tt⟩,trivial⟩ ?_;show i+1<=_;omega)
 obtain rfl:i=l.length:=by omega
 refine v_6 ?_;exact⟨CoC.one (by rw[bt6];exact CoP.refl _),trivial⟩
end
end Go.Hx
