/- A part of the proof: Jn1 Kc1 Kb3 Tb2 Jw1. -/
import Derived.Test.YtnlcekpflogjkaaGreatDoorTz32
set_option linter.all false
set_option maxRecDepth 100000
set_option maxHeartbeats 1000000
namespace Go.Hx
section
def byC (b:Int):Nat->PV
 |0=>.raw (.int .u8 b)
 |_=>.any
abbrev byl(l:List Int):PV:=psl 1 byC l
def uN(n:Int):Int:=bu .xor .u64 (IntKind.wrap .u64 n) 9223372036854775808
def byK(u:Int)(s:Nat):Int:=IntKind.wrap .u8 (u.fdiv (2^(min s 64)))
def a7w(n:Int):List Int:=(List.range 8).map fun i=>byK (uN n) (56-8*i)
def an6(x:UInt8):List Int:=if x=0 then[0,255] else[(x.toNat:Int)]
def abj(l:List UInt8):List Int:=l.flatMap an6
def w4(v:Val):List Int:=IntKind.wrap .u8 v.kind::(if v.kind=1\/v.kind=3 then a7w v.num else if v.kind=2 then abj (bl v.str)++[0,1] else[])
def vk(v:Val):ByteArray:=if dy v=true then strOfNums (w4 v)else emp
def b3q(v:Val):Int:=if dy v=true then 0 else 1
def vr (s:AS):Nat->List Val->ByteArray
 |_,[]=>emp
 |a,v::vs=>if s.getLsbD a=true then vk v++vr s (a+1) vs else vr s (a+1) vs
def wg(l:List Val)(s:AS):ByteArray:=vr s 0 l
def b2x(n:Int):(a7w n).length=8:=by simp[a7w]
def ali (l:List UInt8):(abj l).length<=2*l.length:=by
 induction l with
 |nil=>simp[abj]
 | cons x l ih =>
  simp only[abj,bw0,bt8,bud]at ih ⊢;have:(an6 x).length<=2:=by unfold an6;split<;>simp
  omega
section
variable {v:Val}
def a8a:(vk v).size<=403:=by
 unfold vk;split
 · rename_i h
   have hs:=a5b h;rw[strOfNums_size,w4,bud];split
   · rw[b2x];omega
   split
   · have:=ali (bl v.str)
     rw[a1b]at this;rw[bt8];simp;omega
   simp
 exact bt6 _
def ad1(a b:ByteArray):(a++b).size=a.size+b.size:=ByteArray.size_append
def akl {s:AS}:∀{l:List Val} {a:Nat},(vr s a l).size<=403*l.length
 | [],_=>bt6 _
 | v::l,a=>by
  have h1:=a8a (v:=v);have h2:(vr s (a+1) l).size<=403*l.length:=akl;unfold vr;rw[bud];split
  · rw[ad1];omega
  omega
def bco(a:ByteArray):a++emp=a:=ByteArray.append_empty
def bf9(a:ByteArray):emp++a=a:=ByteArray.empty_append
def ajj {s:AS}:∀{l:List Val} {a:Nat} {v:Val},vr s a (l++[v])=if s.getLsbD (a+l.length)=true then vr s a l++vk v else vr s a l
 | [],a,v=>by
  simp only[bwy,vr,bwh,bv4];split
  · rw[bco,bf9]
  rfl
 | x::l,a,v=>by
  have ih:vr s (a+1) (l++[v])=if s.getLsbD (a+1+l.length)=true then vr s (a+1) l++vk v else vr s (a+1) l:=ajj
  simp only[bvj,vr,bud];rw[ih,show a+1+l.length=a+(l.length+1) by omega];split<;>split<;>simp[ByteArray.append_assoc]
def wu(n:Int)(i:Nat):List Int:=(List.range i).map fun i=>byK (uN n) (56-8*i)
def azi (n:Int) (i:Nat):wu n (i+1)=wu n i++[byK (uN n) (56-8*i)]:=by
 unfold wu;rw[bu3,bux];rfl
def aok(n:Int):wu n 8=a7w n:=rfl
def am0{l:List Int}{n:Int}{i:Nat}:l++wu n (i+1)=(l++wu n i)++[byK (uN n) (56-8*i)]:=by rw[azi,bu4]
abbrev kB(v:Val):Int:=IntKind.wrap .u8 v.kind
def uv (h:v.kind=1\/v.kind=3):w4 v=[kB v]++a7w v.num:=by
 unfold w4;rw[if_pos h];rfl
def x9(v:Val)(i:Nat):List Int:=kB v::abj ((bl v.str).take i)
def alg {i:Nat} (hi:i<v.str.size) (h:cw v.str i=0):x9 v (i+1)=(x9 v i++[cw v.str i])++[255]:=by
 have hl:i<(bl v.str).length:=by rw[a1b];exact hi
 unfold x9 abj;rw[aj hl,bwv]
 have e:cw v.str i=(((bl v.str).getD i default).toNat:Int):=by
  rw[dn _ _ hl];unfold cw;rw[bt1,bt0 hl];rfl
 have h0:(bl v.str).getD i default=0:=by
  rw[e]at h;exact UInt8.toNat_inj.1 (by simpa using h)
 rw[e,h0];simp[an6]
def alc {i:Nat} (hi:i<v.str.size) (h:¬cw v.str i=0):x9 v (i+1)=x9 v i++[cw v.str i]:=by
 have hl:i<(bl v.str).length:=by rw[a1b];exact hi
 unfold x9 abj;rw[aj hl,bwv]
 have e:cw v.str i=(((bl v.str).getD i default).toNat:Int):=by
  rw[dn _ _ hl];unfold cw;rw[bt1,bt0 hl];rfl
 have h0:¬(bl v.str).getD i default=0:=fun h0=>by
  rw[e,h0]at h;exact h rfl
 rw[e];simp only[bw0,List.flatMap_nil,an6,if_neg h0,btq,bvj]
def bbs {i:Nat}:(x9 v i).length<=1+2*v.str.size:=by
 have h:=ali ((bl v.str).take i);have h2:((bl v.str).take i).length<=v.str.size:=by rw[btp,a1b];omega
 simp only[x9,bud];omega
def uz (h:v.kind=2):w4 v=x9 v v.str.size++[0,1]:=by
 unfold w4 x9;rw[if_neg bx5,if_pos h,bwg (by rw[a1b];omega)];rfl
def ur (h1:¬v.kind=1) (h3:¬v.kind=3) (h2:¬v.kind=2):w4 v=[kB v]:=by
 unfold w4;rw[if_neg bx5,if_neg h2]
def atb(h:dy v=true):vk v=strOfNums (w4 v):=if_pos h
def b9f(h:dy v=false):vk v=emp:=if_neg (by simp[h])
def bej(h:dy v=true):b3q v=0:=if_pos h
def bew(h:dy v=false):b3q v=1:=if_neg (by simp[h])
def bd7 (l:List Int):agq l.length (lf byC l)=strOfNums l:=by
 unfold agq;congr 1;refine bvc bx8 fun i h1 h2=>?_;simp[al9,lf,byC,List.getD,h2]
def b0j{l:List Val}{s:AS}:(wg l s).size<=403*l.length:=akl
def akq{α:Type}[Inhabited α]{wr wr':Bool}{e:TypeId}{c:α->Nat->PV}{l l':List α}{x y:α}{g g':Nat->Nat->PV}(h:l'=(l++[x])++[y])(hg:CoP (g 0 0) (c x 0))(hg':CoP (g' 0 0) (c y 0))(hw:wr'=true->wr=true:=by exact fun h=>h) :
 CoO (.arr wr 1 e (l.length+1+1) (iw (l.length+1) (iw l.length (lf c l) g) g')) (.arr wr' 1 e l'.length (lf c l')):=by
 subst h;refine⟨hw,rfl,rfl,by simp,fun i j hi hj=>?_⟩;obtain rfl:j=0:=by omega
 unfold iw lf;by_cases h1:i<l.length
 · rw [if_pos bx5,if_pos h1]
   refine CoP.of_eq ?_;simp[List.getD,List.getElem?_append,h1,show i<l.length+1 by omega]
 by_cases h2:i=l.length
 · subst h2
   rw[if_pos bx5,if_neg bx5,bwt];simpa [List.getD]using hg
 obtain rfl:i=l.length+1:=by omega
 rw[if_neg bx5,bwt];simpa [List.getD]using hg'
def a54 {α:Type} [Inhabited α] {wr wr':Bool} {e:TypeId} {c:α->Nat->PV} {l l':List α} {x y:α} {g:Nat->Nat->PV} (h:l'=l++[x,y]) (hg:CoP (g 0 0) (c x 0)) (hg':CoP (g 1 0) (c y 0)) (hw:wr'=true->wr=true:=by exact fun h=>h) :
 CoO (.arr wr 1 e (l.length+2) (iw l.length (lf c l) g)) (.arr wr' 1 e l'.length (lf c l')):=by
 subst h;refine afl [x,y] hw rfl fun i j hi hj=>?_;obtain rfl:j=0:=by omega
 have hi:i<2:=hi
 rcases(by omega:i=0\/i=1)with rfl|rfl
 · exact hg
 exact hg'
end
end
section
def agT (a b:Row):Nat->AS
 |0=>0
 |i+1=>if a2t (a.vals.getD i default) (b.vals.getD i default)=0 then agT a b i|||((1:AS)<<<i)else agT a b i
def agR(a b:Row):AS:=agT a b a.vals.length
def b8p{a b:Row}{i:Nat}(h:a2t (a.vals.getD i default) (b.vals.getD i default)=0):agT a b (i+1)=agT a b i|||((1:AS)<<<i):=if_pos h
def b8s{a b:Row}{i:Nat}(h:¬a2t (a.vals.getD i default) (b.vals.getD i default)=0):agT a b (i+1)=agT a b i:=if_neg h
def prs:List Row->List AS
 | []=>[]
 |r::l=>l.map (agR r)++prs l
def a1r(l:List Row)(i:Nat):List AS:=(l.drop (i+1)).map (agR (l.getD i default))
def lh(l:List Row)(i k:Nat):List AS:=((List.range i).map (a1r l)).flatten++((a1r l i).take (k-(i+1)))
def b1l:∀l:List Row,prs l=((List.range l.length).map (a1r l)).flatten
 | []=>rfl
 | r::l=>by
  rw[prs,b1l l,bud,List.range_succ_eq_map,bur,List.flatten_cons,List.map_map];rfl
def a8o(l:List Row)(i:Nat):(a1r l i).length=l.length-(i+1):=by simp[a1r]
def axo {l:List Row} {i k:Nat} (hi:i<k) (hk:k<l.length):lh l i (k+1)=lh l i k++[agR (l.getD i default) (l.getD k default)]:=by
 unfold lh;rw[bu4];congr 1;rw[show k+1-(i+1)=(k-(i+1))+1 by omega,List.take_add_one];congr 1;unfold a1r;rw[btm,bw6,show i+1+(k-(i+1))=k by omega,bt0 hk,bt1 (l:=l) (i:=k),bt0 hk];rfl
def azx {l:List Row} {i k:Nat} (hk:l.length<=k):lh l i k=lh l (i+1) (i+1+1):=by
 unfold lh;rw[bwg (by rw[a8o];omega),bu3,bux,bv8,bwt,bwp,btq];simp
def am4 (l:List Row):lh l l.length (l.length+1)=prs l:=by
 unfold lh;rw[b1l,bwt,bwp,btq]
def b51(t:Tbl)(s:AS)(i:Nat):List ByteArray:=(List.range i).map fun k=>wg (t.rows.getD k default).vals s
def al4(t:Tbl)(s:AS):Prt:=⟨t.rows.length,ag4 (b51 t s t.rows.length)⟩
def nA(k:Nat):AS:=BitVec.ofNat 32 k
def fq(k:Nat):AS:=nA k&&&(nA k-1)
def bho(t:Tbl)(l:List Prt)(k:Nat):Prt:=if fq k=0 then al4 t (nA k)else b33 (l.getD (fq k).toNat default) (l.getD (nA k&&&~~~(fq k)).toNat default)
def a57 (t:Tbl):Nat->List Prt
 |0=>[]
 |k+1=>a57 t k++[bho t (a57 t k) k]
def nn {t:Tbl}:∀{k:Nat},(a57 t k).length=k
 |0=>rfl
 |k+1=>by rw[a57,bt8,nn];rfl
def awf(t:Tbl)(k:Nat):List Int:=(a57 t k).map awa
def ap(t:Tbl):List Int:=awf t (2^t.attrs.length)
def b4x{t:Tbl}{k:Nat}:(awf t k).length=k:=by unfold awf;rw[btw,nn]
def av3(rk:List Int)(s:AS)(a:Nat):Bool:=decide (rk.getD s.toNat default=rk.getD (s|||((1:AS)<<<a)).toNat default)
def w8(n:Int)(k i:Nat):List AS:=((List.range i).map nA).filter fun s=>decide (bsz s=k)
def lc(n k:Nat):List AS:=w8 n k (2^n)
def mnA(rk:List Int)(a:Nat)(out:List AS)(s:AS):List AS:=if s.getLsbD a=true\/(out.any fun m=>decide (sub m s))=true\/av3 rk s a=false then out else out++[s]
def mnK(rk:List Int)(n a:Nat)(out:List AS)(k i:Nat):List AS:=((lc n k).take i).foldl (mnA rk a) out
def mnT(rk:List Int)(n a k:Nat):List AS:=(List.range k).foldl (fun out k=>mnK rk n a out k (lc n k).length) []
def mnL(rk:List Int)(n a:Nat):List AS:=mnT rk n a (n+1)
def fmF(l:List AS)(n a:Nat)(rk:List Int):List AS:=l++mnL rk n a
def fmS(rk:List Int)(n a:Nat):List AS:=(List.range a).foldl (fun l a=>l++mnL rk n a) []
def fmR(rk:List Int)(n:Nat)(s:AS):List Nat:=(List.range n).filter fun a=>(mnL rk n a).any fun x=>decide (x=s)
def fmO(rk:List Int)(n:Nat):List Fd:=(ord (fmS rk n n)).flatMap fun s=>(fmR rk n s).map fun a=>⟨s,(1:AS)<<<a⟩
def bqy(t:Tbl):List Fd:=fmO (ap t) t.attrs.length
def bhu(avoid:List AS)(s:AS):Bool:=avoid.any fun x=>decide (sub s x)
def ahn(avoid:List AS)(out:List AS)(s:AS):List AS:=if bhu avoid s=false/\(out.any fun x=>decide (sub x s))=false then out++[s]else out
def ru(n:Nat)(avoid:List AS)(i:Nat):List AS:=((b6 (a6 (n:Int))).take i).foldl (ahn avoid) []
def bgo(n:Nat)(avoid:List AS):List AS:=ru n avoid (b6 (a6 (n:Int))).length
def a6z(out:List AS)(s:AS):List AS:=if(out.any fun x=>decide (x=s))=true then out else out++[s]
def ig(l:List AS):List AS:=l.foldl a6z []
def akc{l:List AS}{s:AS}:ig (l++[s])=a6z (ig l) s:=by unfold ig;rw[btr];rfl
def b83(t:Tbl):List AS:=bgo t.attrs.length (dl (ig (prs t.rows)))
end
section
def t6(l:List Val)(s:AS)(j:Nat):ByteArray:=((ak s).take j).foldl (fun o a=>o++vk (l.getD a default)) emp
section
variable {j:Nat}{l:List Val}{s:AS}
def a79 (h:j<(ak s).length):t6 l s (j+1)=t6 l s j++vk (l.getD ((ak s).getD j default) default):=by
 unfold t6;rw[aj h,btr];rfl
def ajg:∀{j:Nat},(t6 l s j).size<=403*j
 |0=>bt6 _
 | j + 1=>by
  have ih:(t6 l s j).size<=403*j:=ajg;by_cases h:j<(ak s).length
  · rw [a79 h,ad1]
    have:=a8a (v:=l.getD ((ak s).getD j default) default);omega
  have e:t6 l s (j+1)=t6 l s j:=by unfold t6;rw[bwg bx5,bwg bx5]
  rw[e];omega
theorem b7d (hl:l.length<=32) (hs:∀a,s.getLsbD a=true->a<l.length):t6 l s (ak s).length=wg l s:=by
 have key:∀i,i<=l.length->((List.range i).filter fun a=>s.getLsbD a).foldl (fun o a=>o++vk (l.getD a default)) emp=wg (l.take i) s:=by
  intro i
  induction i with
  |zero=>intro _;rfl
  | succ i ih =>
   intro hi
   have e:wg (l.take (i+1)) s=if s.getLsbD i=true then wg (l.take i) s++vk (l.getD i default)else wg (l.take i) s:=by
    unfold wg;rw[aj bx5,ajj,btp,bua bx5,bu1]
   rw[bu3,bu6,btr,ih bx5,e]
   grind
 have more:∀k,(List.range (l.length+k)).filter (fun a=>s.getLsbD a)=(List.range l.length).filter fun a=>s.getLsbD a:=by
  intro k
  induction k with
  |zero=>rfl
  | succ k ih =>
   rw[<- bv6,bu3,bu6,ih]
   grind
 unfold t6 ak;rw[btb];have e:=more (32-l.length);simp_all
def b4l {v:Val} (h:dy v=true):0<(vk v).size:=by
 rw[atb h,strOfNums_size,w4,bud];omega
def b5m (hj:j<(ak s).length) (hv:dy (l.getD ((ak s).getD j default) default)=true):bl (t6 l s (j+1))≠[]:=by
 intro e;have h1:=b4l hv;have h2:(t6 l s (j+1)).size=0:=by rw[<- a1b,e];rfl
 rw[a79 hj,ad1]at h2;omega
def bjf(a b:ByteArray):bl (a++b)=bl a++bl b:=by simp[bl,ByteArray.data_append]
def bb8(s:ByteArray):(⟨(bl s).toArray⟩:ByteArray)=s:=ByteArray.ext (by simp[bl])
variable {i n:Nat}
def ayj (hs:∀z,s.getLsbD z=true->z<n) (hi:i<(ak s).length):(ak s).getD i default<n:=by
 rw[dn _ _ hi];exact hs _ (io.1 (bti hi)).2
def um(t:Tbl)(s:AS)(i:Nat):List ByteArray:=(List.range t.rows.length).map fun k=>if k<i then wg (t.rows.getD k default).vals s else emp
def uk{t:Tbl}:(um t s i).length=t.rows.length:=by simp[um]
def b2r {t:Tbl}:um t s t.rows.length=b51 t s t.rows.length:=by
 unfold um b51;simp_all
theorem azb {t:Tbl} (hi:i<t.rows.length):um t s (i+1)=(um t s i).set i (wg (t.rows.getD i default).vals s):=by
 refine bvc (by simp[um]) fun k h1 h2=>?_;rw[bvu];simp only[um,bvl,bvb]
 grind
variable {k:Nat}
def b2m{t:Tbl}(hT:TOk t)(hi:i<(um t s k).length):((um t s k).getD i default).size<=maxLen:=by
 rw[uk]at hi;rw[dn _ _ (by rw[uk];exact hi)];simp only[um,bvl,bvb];split
 · have h1:=b0j (l:=(t.rows.getD i default).vals) (s:=s)
   have h2:=hT.width hi;have h3:=hT.na;unfold maxLen;omega
 exact bt6 _
def a2p(m i:Nat):List Int:=(List.range m).map fun(k:Nat)=>if k<i then -1-(k:Int)else 0
variable {m:Nat}
def ao5:(a2p m i).length=m:=by simp[a2p]
def b3b:a2p m m=a87 m:=by
 unfold a2p a87;simp_all
theorem b0w (hi:i<m):a2p m (i+1)=(a2p m i).set i (-1-(i:Int)):=by
 refine bvc (by simp[a2p]) fun k h1 h2=>?_;rw[bvu];simp only[a2p,bvl,bvb]
 grind
def qt(a b:Prt)(i:Nat):List (Int×Int):=(List.range a.rows.toNat).map fun k=>if k<i then((yt a).getD k default,(yt b).getD k default) else(0,0)
def wa{a b:Prt}:(qt a b i).length=a.rows.toNat:=by simp[qt]
def b4o {a b:Prt}:qt a b a.rows.toNat=b2s a b:=by
 unfold qt b2s;simp_all
theorem b17 {a b:Prt} (hi:i<a.rows.toNat):qt a b (i+1)=(qt a b i).set i ((yt a).getD i default,(yt b).getD i default):=by
 refine bvc (by simp[qt]) fun k h1 h2=>?_;rw[bvu];simp only[qt,bvl,bvb]
 grind
variable {p:Prt}
theorem qv (h:lm p=true):0<=p.rows/\p.rows<=1000:=by
 unfold lm at h
 grind
theorem a91 (h:lm p=true) (hk:k<p.cls.length):agj p k=true:=by
 unfold lm at h
 grind
theorem asw (h:agj p k=true):¬(p.cls.getD k default).length<2/\ai6 p k<(((p.cls.getD k default).getD 0 default:Nat):Int):=by
 unfold agj at h
 grind
theorem ai4 (h:agj p k=true) (hj:j<(p.cls.getD k default).length):anb (p.cls.getD k default) j<(((p.cls.getD k default).getD j default:Nat):Int)/\(((p.cls.getD k default).getD j default:Nat):Int)<p.rows /\
 ¬(p.cls.getD k default).getD j default∈(p.cls.take k).flatten++(p.cls.getD k default).take j:=by
 unfold agj at h;simp only[bt3,btl]at h;have:=h.2 j (btg.2 hj);unfold bkd at this
 grind
def aho:(snT p k j).length=p.rows.toNat:=by simp[snT]
def bhe (hi:i<p.rows.toNat):(snT p k j).getD i default=decide (i∈(p.cls.take k).flatten++(p.cls.getD k default).take j):=by
 rw[dn _ _ (by rw[aho];exact hi)];simp only[snT,bvl,bvb]
def b4k:snT p 0 0=List.replicate p.rows.toNat false:=by
 refine bvc (by simp[snT]) fun k h1 h2=>?_;simp[snT]
def b4m (hk:k<p.cls.length):snT p k (p.cls.getD k default).length=snT p (k+1) 0:=by
 unfold snT;refine bvd fun i _=>?_;rw[btb,aj hk,bv8,bwp,btq];simp
theorem b6r (hj:j<(p.cls.getD k default).length) (hr:(((p.cls.getD k default).getD j default:Nat):Int)<p.rows):snT p k (j+1)=(snT p k j).set ((p.cls.getD k default).getD j default) true:=by
 refine bvc (by simp[snT]) fun i h1 h2=>?_;rw[bvu];simp only[snT,bvl,bvb];rw[aj hj]
 grind
def azm{c:List Nat}:anb c (j+1)=((c.getD j default:Nat):Int):=by unfold anb;rw[if_neg bx5];rfl
def b0o:ai6 p (k+1)=(((p.cls.getD k default).getD 0 default:Nat):Int):=by unfold ai6;rw[if_neg bx5];rfl
def a49(m:Nat)(l:List Int):Prop:=∀i,i<l.length->-(m:Int)-1<=l.getD i default/\l.getD i default<=m
def avk {l:List Int} (h:a49 m l) (hk:k<=m):a49 m (l.set i (k:Int)):=fun q hq=>by
 rw[buv]at hq;rw[dn _ _ (by rw[buv];exact hq),bvu];split
 · omega
 have:=h q hq;rwa [dn _ _ hq]at this
def aqk (hn:n<=m):∀{c:List Nat} {l:List Int},a49 m l->a49 m (a7p n l c)
 | [],_,h=>h
 | i::c,l,h=>by
  show a49 m (a7p n (l.set i (n:Int)) c);exact aqk hn (avk h hn)
def ac4 (hr:p.rows.toNat<=m):∀{k:Nat},k<=m->a49 m (ug p k)
 | 0,_=>fun i hi=>by
  have hi:i<p.rows.toNat:=by rwa [qs]at hi
  show -(m:Int)-1<=(a87 p.rows.toNat).getD i default/\_;have e:(a87 p.rows.toNat).getD i default=-1-(i:Int):=by simp[a87,List.getD,hi]
  show _/\(a87 p.rows.toNat).getD i default<=_;rw[e];omega
 |k+1,hk=>by rw[a8g];exact aqk bx5 (ac4 hr bx5)
theorem amc {α:Type} [Inhabited α] {wr wr':Bool} {p:Nat} {e:TypeId} {c:α->Nat->PV} {l:List α} {v:α} {x y:PV} (hw:wr'=true->wr=true) (hn:n=l.length) (hp:k=p) (hk:p<l.length) (hx:x=c v 0) (hy:y=c v 1):
 CoO (.arr wr 2 e n (fz (lf c l) k 0 [x,y])) (.arr wr' 2 e n (lf c (l.set p v))):=by
 subst hp hx hy hn;refine⟨hw,rfl,rfl,rfl,fun i j hi hj=>CoP.of_eq ?_⟩;unfold fz lf
 grind
theorem asf {e:TypeId} {f g:Nat->Nat->PV} (hn:m=n) (h:∀i,i<n->CoP (f i 0) (g i 0)/\CoP (f i 1) (g i 1)):CoO (.arr true 2 e n f) (.arr true 2 e m g) :=
 ⟨fun h=>h,rfl,rfl,hn,fun i j hi hj=>by
  rcases(by omega:j=0\/j=1)with rfl|rfl
  · grind
  exact(h i hi).2⟩
theorem alv (h:lm p=true):∀{k j:Nat},k<=p.cls.length->j<=(p.cls.getD k default).length->(k<p.cls.length\/j=0)->((p.cls.take k).flatten++(p.cls.getD k default).take j).Nodup/\∀x∈(p.cls.take k).flatten++(p.cls.getD k default).take j,(x:Int)<p.rows
 |0,0,_,_,_=>by simp
 | k+1,0,hk,_,_=>by
  have:=alv h (k:=k) (j:=(p.cls.getD k default).length) bx5 (bt2 _) (.inl bx5);rw[btb]at this;rw[bwp,btq,aj bx5,bv8]
  grind
 | k,j+1,hk,hj,ho=>by
  have hk2:k<p.cls.length:=by omega
  obtain⟨h1,h2⟩:=alv h (k:=k) (j:=j) hk bx5 (.inl hk2);obtain⟨_,g2,g3⟩:=ai4 (a91 h hk2) (show j<(p.cls.getD k default).length by omega);rw[aj bx5,<- bu4];refine⟨List.nodup_append.2 ⟨h1,by simp,fun a ha b hb e=>?_⟩,fun x hx=>?_⟩
  · grind
  grind
theorem agk (h:lm p=true) (hk:k<=p.cls.length):(p.cls.take k).flatten.length<=1000/\2*k<=(p.cls.take k).flatten.length:=by
 obtain⟨h1,h2⟩:=alv h (k:=k) (j:=0) hk (bt6 _) (.inr rfl);rw[bwp,btq]at h1 h2;have hr:=qv h;refine⟨?_, ?_⟩
 · have:=h1.length_le_of_subset (l₂:=List.range 1000) fun x hx=>btg.2 (by have:=h2 x hx;omega)
   grind
 clear h1 h2
 induction k with
 |zero=>simp
 | succ k ih =>
  have:=ih bx5;have h3:=(asw (a91 h (show k<p.cls.length by omega))).1;rw[aj bx5,bv8,bt8]
  grind
theorem aru:∀{k:Nat},k<=p.cls.length->a0i p k=p.rows-((p.cls.take k).flatten.length:Int)+(k:Int)
 |0,_=>by simp[a0i]
 | k+1,hk=>by
  rw[aji bx5,aru bx5,aj bx5,bv8,bt8]
  grind
def ayp (h:lm p=true) (hk:k<=p.cls.length):-1000<=a0i p k/\a0i p k<=1000:=by
 have h1:=agk h hk;have h2:=qv h;rw[aru hk];omega
def wn (h:lm p=true):p.cls.length<=1000:=by
 have:=agk h (bt2 p.cls.length);omega
theorem ah5 (h:lm p=true) (hk:k<p.cls.length):(p.cls.getD k default).length<=1000:=by
 have:=(agk h (show k+1<=p.cls.length from hk)).1;rw[aj hk,bv8,bt8]at this
 grind
def a7o {e:TypeId} {f g:Nat->Nat->PV} (hn:m=n) (h:∀i,i<n->CoP (f i 0) (g i 0)):CoO (.arr true 1 e n f) (.arr true 1 e m g) :=
 ⟨fun h=>h,rfl,rfl,hn,fun i j hi hj=>by
  obtain rfl:j=0:=by omega
  exact h i hi⟩
def biu {n:Int} (h1:-9223372036854775808<=n) (h2:n<=9223372036854775807):(Lit.int .i64 n).wf=true:=by
 unfold Lit.wf;rw[bt3,decide_eq_true_eq,decide_eq_true_eq];exact⟨h1,h2⟩
end
end
section
open Go.Proofs
def bxj{p:Prop}(h:p:=by simp[dy, *]<;>omega):p:=h
def c76(v:Val):a7 bxr 203 [v.pc] (ae [pB (dy v)]):=by
 refine hpx (nt:=41) Tryz.func203 ?_;refine sx7 ?_;refine m9 0 ?_;refine qb ?_;refine hcd ?_ ?_<;>intro h0
 ·
  refine w_6 ?_;refine al rfl rfl ?_ ?_<;>intro r1
  ·
   have h1:=tz1 r1;(iterate 3 refine qy ?_ (hg:=(gtt r1)));refine w_3 ?_
   exact hx8 rfl rfl rfl (⟨ccb bxj,trivial⟩)
  have h1:=tz2 r1;(iterate 3 refine k9 (gft r1) ?_);refine w_3 ?_
  exact hx8 rfl rfl rfl (⟨ccb bxj,trivial⟩)
 refine w_5 ?_;refine hcd ?_ ?_<;>intro h2
 · refine v_7 ?_;exact⟨ccb bxj,trivial⟩
 refine w_5 ?_;refine hcd ?_ ?_<;>intro h3
 ·
  refine w_6 ?_;refine al rfl rfl ?_ ?_<;>intro r4
  ·
   have h4:=tz1 r4;(iterate 4 refine qy ?_ (hg:=(gtt r4)));refine w_3 ?_
   exact hx8 rfl rfl rfl (⟨ccb bxj,trivial⟩)
  have h4:=tz2 r4;(iterate 4 refine k9 (gft r4) ?_);refine w_3 ?_
  exact hx8 rfl rfl rfl (⟨ccb bxj,trivial⟩)
 refine w_5 ?_;refine hcd ?_ ?_<;>intro h5
 ·
  refine w_6 ?_;refine al rfl rfl ?_ ?_<;>intro r6
  ·
   have h6:=tz1 r6;(iterate 3 refine qy ?_ (hg:=(gtt r6)));refine w_3 ?_
   exact hx8 rfl rfl rfl (⟨ccb bxj,trivial⟩)
  have h6:=tz2 r6;(iterate 3 refine k9 (gft r6) ?_);refine w_3 ?_
  exact hx8 rfl rfl rfl (⟨ccb bxj,trivial⟩)
 refine v_5 ?_;exact⟨ccb bxj,trivial⟩
end
section
open Go.Proofs
def atp (l:List Int) (n:Int) (hl:l.length<=1000000):dv bxr 217 [.one (.ref 1000 l.length), .one (.p (.raw (.int .i64 n)))] [(1000, .arr true 1 5 l.length (lf byC l))] (.v (.one (.ref 1000 (l++a7w n).length))) [(1000, .arr true 1 5 (l++a7w n).length (lf byC (l++a7w n)))] [1000]:=by
 refine hfx (nt:=22) Tryz.func217 ?_;refine w_7 ?_;refine rqw rfl rfl rfl rfl rfl ?_;refine w_9 ?_;refine bw (ka 5 kn) km (fun i=>⟨[(0,some (.v (.one (.ref 1000 (l++wu n i).length)))),(6,some (vI (56-8*(i:Int))))],[(1000,some (.arr true 1 5 (l++wu n i).length (lf byC (l++wu n i))))]⟩) 8 ⟨⟨⟨_,rfl,(be (by simp[wu]))⟩,⟨_,rfl,(coi (by first|rfl|omega))⟩,trivial⟩,⟨⟨_,rfl,(az (by simp[wu]))⟩,trivial⟩⟩ ?_;rintro i hi;have hlen:(l++wu n i).length=l.length+i:=by simp[wu]
 refine w_6 ?_;refine hcd ?_ ?_<;>intro h0
 · refine w_8 ?_;refine rqw rfl rfl rfl rfl rfl ?_;refine m9 0 ?_;refine r9 1 true ?_;refine w_7 ?_;exact lpx (i+1) ⟨⟨⟨_,rfl,(bo am0)⟩,⟨_,rfl,(coi (by first|omega|(dsimp only;omega)))⟩,tt⟩,⟨⟨_,rfl,(bq am0 (CoP.of_eq (by dsimp only;rw[show((56:Int)-8*(i:Int)).toNat=56-8*i by omega];rfl)))⟩,trivial⟩⟩
 obtain rfl:i=8:=by omega
 refine w_6 ?_;refine hrr ?_;exact⟨_,_,rfl,bx7,gj (by rw[aok]),⟨⟨_,rfl,az (by rw[aok])⟩,trivial⟩⟩
def bxn{p:Prop}(h:p:=by first|exact .inl bx6|exact .inr bx6):p:=h
def bxq{p:Prop}(h:p:=by first|exact gj (by rw[(uv bxn)])|exact gj (by rw[uz bx6,bt8];rfl)|exact gj (by rw[(ur bx6 bx6 bx6)];rfl)):p:=h
def bqm(v:Val):a7 bxr 158 [v.pc] (ae [pS (vk v),pI (b3q v)]):=by
 refine hpx (nt:=51) Tryz.func158 ?_;refine sx7 ?_;refine m9 0 ?_;refine w_7 ?_;refine qcx (wgx Tryz.func203) (c76 v) ?_;refine w_2 ?_;refine hcv ?_ ?_<;>intro h0
 · refine v_5 ?_;exact⟨CoC.one (by rw[b9f bx6];exact CoP.refl _),cci (bew bx6).symm,trivial⟩
 have hs:=a5b h0;refine w_5 ?_;refine rqw rfl rfl rfl rfl rfl ?_;refine m9 1 ?_;refine w_2 ?_;refine a1y kn (kb 0 km) ⟨[(4,some (.v (.one (.ref 1 (w4 v).length))))],[(1,some (.arr true 1 5 (w4 v).length (lf byC (w4 v))))]⟩ ?_ ?_
 ·
  refine gh ?_;refine ax _ rfl ?_ ?_<;>intro r1
  · have h1:=tz1 r1;refine fk ?_;refine ax _ rfl (fun _=>?_) (fun e=>Bool.noConfusion (r1.symm.trans e));refine w_4 ?_;refine fc9 (wgx Tryz.func217) ((atp [kB v] v.num l9).swap 1000 1) ⟨⟨_,rfl,np (CoP.refl _)⟩,trivial⟩ ?_;refine w_2 ?_;exact⟨⟨⟨_,rfl,bxq⟩,trivial⟩,⟨⟨_,rfl,(by first|exact az (uv bxn)|exact a54 (uz bx6) (CoP.refl _) (CoP.refl _)|(rw[(ur bx6 bx6 bx6)];exact np (CoP.refl _)))⟩,uu⟩⟩
  have h1:=tz2 r1;refine w_4 ?_;refine hcd ?_ ?_<;>intro h2
  · refine w_4 ?_;refine fc9 (wgx Tryz.func217) ((atp [kB v] v.num l9).swap 1000 1) ⟨⟨_,rfl,np (CoP.refl _)⟩,trivial⟩ ?_;refine w_2 ?_;exact⟨⟨⟨_,rfl,bxq⟩,trivial⟩,⟨⟨_,rfl,(by first|exact az (uv bxn)|exact a54 (uz bx6) (CoP.refl _) (CoP.refl _)|(rw[(ur bx6 bx6 bx6)];exact np (CoP.refl _)))⟩,uu⟩⟩
  refine w_5 ?_;refine hcd ?_ ?_<;>intro h3
  ·
   refine w_9 ?_;refine bw (ka 1 (ka 26 kn)) (kb 0 km) (fun i=>⟨[(4,some (.v (.one (.ref 1 (x9 v i).length)))),(27,some (vI i))],[(1,some (.arr true 1 5 (x9 v i).length (lf byC (x9 v i))))]⟩) v.str.size ⟨⟨⟨_,rfl,(CoR.refl _)⟩,tt⟩,⟨⟨_,rfl,(np (CoP.refl _))⟩,trivial⟩⟩ ?_;rintro i hi;have hlen:=bbs (v:=v) (i:=i);refine w_5 ?_;refine hcd ?_ ?_<;>intro h4
   ·
    refine jk ?_;refine m9 2 ?_;refine r9 3 true ?_;refine cr ?_;refine hcd ?_ ?_<;>intro h5
    ·
     refine w_2 ?_;refine m9 4 ?_;refine r9 5 true ?_;refine w_6 ?_
     first | (refine lpz (i+1) ⟨⟨⟨_, rfl, (by rw[alg bx5 bx6]; simp only[bt8]; exact CoR.refl _)⟩, tt⟩, ⟨⟨_, rfl, (by rw[alg bx5 bx6]; exact akq rfl (CoP.refl _) (CoP.refl _))⟩, uu⟩⟩ ?_; show i+1<=_; omega)
           |(refine lpz (i+1) ⟨⟨⟨_,rfl,(bo (alc bx5 bx6))⟩,tt⟩,⟨⟨_,rfl,(bq (alc bx5 bx6) (CoP.refl _))⟩,uu⟩⟩ ?_;show i+1<=_;omega)
    refine w_5 ?_
    first | (refine lpz (i+1) ⟨⟨⟨_, rfl, (by rw[alg bx5 bx6]; simp only[bt8]; exact CoR.refl _)⟩, tt⟩, ⟨⟨_, rfl, (by rw[alg bx5 bx6]; exact akq rfl (CoP.refl _) (CoP.refl _))⟩, uu⟩⟩ ?_; show i+1<=_; omega)
          |(refine lpz (i+1) ⟨⟨⟨_,rfl,(bo (alc bx5 bx6))⟩,tt⟩,⟨⟨_,rfl,(bq (alc bx5 bx6) (CoP.refl _))⟩,uu⟩⟩ ?_;show i+1<=_;omega)
   obtain rfl:i=v.str.size:=by omega
   refine w_3 ?_;refine m9 6 ?_;refine r9 7 true ?_;refine w_2 ?_;exact⟨⟨⟨_,rfl,bxq⟩,trivial⟩,⟨⟨_,rfl,(by first|exact az (uv bxn)|exact a54 (uz bx6) (CoP.refl _) (CoP.refl _)|(rw[(ur bx6 bx6 bx6)];exact np (CoP.refl _)))⟩,uu⟩⟩
  refine fk ?_;exact⟨⟨⟨_,rfl,bxq⟩,trivial⟩,⟨⟨_,rfl,(by first|exact az (uv bxn)|exact a54 (uz bx6) (CoP.refl _) (CoP.refl _)|(rw[(ur bx6 bx6 bx6)];exact np (CoP.refl _)))⟩,uu⟩⟩
 refine dt ?_;refine bj 4 rfl rfl rfl ?_;refine w_2 ?_;refine rq rfl rfl rfl rfl rfl ?_ (hp:=⟨rfl,fun i hi=>⟨_,rfl⟩⟩);refine v_3 ?_;exact⟨CoC.one (by rw[atb bx6,<- bd7];exact CoP.refl _),cci (bej bx6).symm,trivial⟩
end
end Go.Hx
