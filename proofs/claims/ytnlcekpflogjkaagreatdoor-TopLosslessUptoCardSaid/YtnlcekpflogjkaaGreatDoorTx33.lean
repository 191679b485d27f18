/- A part of the proof: Jn1 Kc1 Kb3 Tb1 Tb2 Jw1. -/
import Derived.Test.YtnlcekpflogjkaaGreatDoorTx32
set_option linter.all false
set_option maxRecDepth 100000
set_option maxHeartbeats 1000000
namespace Go.Hx
section
def byC (b:Int):Nat -> PV
 | 0=>.raw (.int .u8 b)
 | _=>.any
abbrev byl (l:List Int):PV:=psl 1 byC l
def uN (n:Int):Int:=cn .xor .u64 (IntKind.wrap .u64 n) 9223372036854775808
def byK (u:Int) (s:Nat):Int:=IntKind.wrap .u8 (u.fdiv (2 ^ (min s 64)))
def xu (n:Int):List Int:=(List.range 8).map fun i=>byK (uN n) (56 - 8 * i)
def a2f (x:UInt8):List Int:=if x = 0 then [0,255] else [(x.toNat:Int)]
def qe (l:List UInt8):List Int:=l.flatMap a2f
def mr (v:Val):List Int:=IntKind.wrap .u8 v.kind :: (if v.kind = 1 \/ v.kind = 3 then xu v.num else if v.kind = 2 then qe (bl v.str) ++ [0,1] else [])
def tv (v:Val):ByteArray:=if d9 v = true then strOfNums (mr v) else emp
def b4w (v:Val):Int:=if d9 v = true then 0 else 1
def m7 (s:AS):Nat -> List Val -> ByteArray
 | _,[]=>emp
 | a,v :: vs=>if s.getLsbD a = true then tv v ++ m7 s (a + 1) vs else m7 s (a + 1) vs
def fb (l:List Val) (s:AS):ByteArray:=m7 s 0 l
def zp (n:Int):(xu n).length = 8:=by simp [xu]
def amk (l:List UInt8):(qe l).length <= 2 * l.length:=by
 induction l with
 | nil=>simp [qe]
 | cons x l ih =>
  simp only [qe,bup,brh,bs6] at ih ⊢;have:(a2f x).length <= 2:=by unfold a2f;split <;> simp
  omega
section
variable {v:Val}
def a1g:(tv v).size <= 403:=by
 unfold tv;split
 · rename_i h
   have hs:=a5q h;rw [strOfNums_size,mr,bs6];split
   · rw [zp];omega
   split
   · have:=amk (bl v.str)
     rw [gj] at this;rw [brh];simp;omega
   simp
 exact bre _
def ach (a b:ByteArray):(a ++ b).size = a.size + b.size:=ByteArray.size_append
variable {s:AS}
def air:∀ {l:List Val} {a:Nat},(m7 s a l).size <= 403 * l.length
 | [],_=>bre _
 | v :: l,a=>by
  have h1:=a1g (v:=v);have h2:(m7 s (a + 1) l).size <= 403 * l.length:=air;unfold m7;rw [bs6];split
  · rw [ach];omega
  omega
def bbt (a:ByteArray):a ++ emp = a:=ByteArray.append_empty
def bb7 (a:ByteArray):emp ++ a = a:=ByteArray.empty_append
def a0u:∀ {l:List Val} {a:Nat} {v:Val},m7 s a (l ++ [v]) = if s.getLsbD (a + l.length) = true then m7 s a l ++ tv v else m7 s a l
 | [],a,v=>by
  simp only [btg,m7,bt8,bt6];split
  · rw [bbt,bb7]
  rfl
 | x :: l,a,v=>by
  have ih:m7 s (a + 1) (l ++ [v]) = if s.getLsbD (a + 1 + l.length) = true then m7 s (a + 1) l ++ tv v else m7 s (a + 1) l:=a0u
  simp only [btc,m7,bs6];rw [ih,show a + 1 + l.length = a + (l.length + 1) by omega];split <;> split <;> simp [ByteArray.append_assoc]
def vo (n:Int) (i:Nat):List Int:=(List.range i).map fun i=>byK (uN n) (56 - 8 * i)
def axi (n:Int) (i:Nat):vo n (i + 1) = vo n i ++ [byK (uN n) (56 - 8 * i)]:=by
 unfold vo;rw [bsp,bth];rfl
def amo (n:Int):vo n 8 = xu n:=rfl
variable {i:Nat}
def amy {l:List Int} {n:Int}:l ++ vo n (i + 1) = (l ++ vo n i) ++ [byK (uN n) (56 - 8 * i)]:=by rw [axi,bsm]
abbrev kB (v:Val):Int:=IntKind.wrap .u8 v.kind
def un (h:v.kind = 1 \/ v.kind = 3):mr v = [kB v] ++ xu v.num:=by
 unfold mr;rw [if_pos h];rfl
def w6 (v:Val) (i:Nat):List Int:=kB v :: qe ((bl v.str).take i)
def akq (hi:i < v.str.size) (h:c9 v.str i = 0):w6 v (i + 1) = (w6 v i ++ [c9 v.str i]) ++ [255]:=by
 have hl:i < (bl v.str).length:=by rw [gj];exact hi
 unfold w6 qe;rw [al hl,List.flatMap_append]
 have e:c9 v.str i = (((bl v.str).getD i default).toNat:Int):=by
  rw [bw _ _ hl];unfold c9;rw [brc,brb hl];rfl
 have h0:(bl v.str).getD i default = 0:=by
  rw [e] at h;exact UInt8.toNat_inj.1 (by simpa using h)
 rw [e,h0];simp [a2f]
def aks (hi:i < v.str.size) (h:¬ c9 v.str i = 0):w6 v (i + 1) = w6 v i ++ [c9 v.str i]:=by
 have hl:i < (bl v.str).length:=by rw [gj];exact hi
 unfold w6 qe;rw [al hl,List.flatMap_append]
 have e:c9 v.str i = (((bl v.str).getD i default).toNat:Int):=by
  rw [bw _ _ hl];unfold c9;rw [brc,brb hl];rfl
 have h0:¬ (bl v.str).getD i default = 0:=fun h0=>by
  rw [e,h0] at h;exact h rfl
 rw [e];simp only [bup,List.flatMap_nil,a2f,if_neg h0,bse,btc]
def bdj:(w6 v i).length <= 1 + 2 * v.str.size:=by
 have h:=amk ((bl v.str).take i);have h2:((bl v.str).take i).length <= v.str.size:=by rw [brl,gj];omega
 simp only [w6,bs6];omega
def bvp {p:Prop} (h:p:=by rw [gj];omega):p:=h
def uk (h:v.kind = 2):mr v = w6 v v.str.size ++ [0,1]:=by
 unfold mr w6;rw [if_neg bv9,if_pos h,bt9 bvp];rfl
def um (h1:¬ v.kind = 1) (h3:¬ v.kind = 3) (h2:¬ v.kind = 2):mr v = [kB v]:=by
 unfold mr;rw [if_neg bv9,if_neg h2]
def agb (h:d9 v = true):tv v = strOfNums (mr v):=if_pos h
def bdi (h:d9 v = false):tv v = emp:=if_neg (by simp [h])
def bcf (h:d9 v = true):b4w v = 0:=if_pos h
def bee (h:d9 v = false):b4w v = 1:=if_neg (by simp [h])
def b8r (l:List Int):ag8 l.length (lf byC l) = strOfNums l:=by
 unfold ag8;congr 1;refine btd bvd fun i h1 h2=>?_;simp [ako,lf,byC,List.getD,h2]
variable {l:List Val}
def b7w (hi:i < l.length) (h32:i < 32) (h:cn .and .u32 ((asI s).fdiv (2 ^ (min i 32))) 1 = 1):fb (l.take (i + 1)) s = fb (l.take i) s ++ tv (l.getD i default):=by
 rw [rj h32,dx h32] at h;unfold fb;rw [al hi,a0u,brl,bsh bv9,bs5,if_pos h]
def b84 (hi:i < l.length) (h32:i < 32) (h:¬ cn .and .u32 ((asI s).fdiv (2 ^ (min i 32))) 1 = 1):fb (l.take (i + 1)) s = fb (l.take i) s:=by
 rw [rj h32,dx h32] at h;unfold fb;rw [al hi,a0u,brl,bsh bv9,bs5,if_neg h]
def a6n:(fb l s).size <= 403 * l.length:=air
def ajo {α:Type} [Inhabited α] {wr wr':Bool} {e:TypeId} {c:α -> Nat -> PV} {l l':List α} {x y:α} {g g':Nat -> Nat -> PV} (h:l' = (l ++ [x]) ++ [y]) (hg:CoP (g 0 0) (c x 0)) (hg':CoP (g' 0 0) (c y 0)) (hw:wr' = true -> wr = true:=by exact fun h=>h) :
 CoO (.arr wr 1 e (l.length + 1 + 1) (f8 (l.length + 1) (f8 l.length (lf c l) g) g')) (.arr wr' 1 e l'.length (lf c l')):=by
 subst h;refine ⟨hw,rfl,rfl,by simp,fun i j hi hj=>?_⟩;obtain rfl:j = 0:=by omega
 unfold f8 lf;by_cases h1:i < l.length
 · rw [if_pos bv9,if_pos h1]
   refine CoP.of_eq ?_;simp [List.getD,List.getElem?_append,h1,show i < l.length + 1 by omega]
 by_cases h2:i = l.length
 · subst h2
   rw [if_pos bv9,if_neg bv9,bv7];simpa [List.getD] using hg
 obtain rfl:i = l.length + 1:=by omega
 rw [if_neg bv9,bv7];simpa [List.getD] using hg'
def a48 {α:Type} [Inhabited α] {wr wr':Bool} {e:TypeId} {c:α -> Nat -> PV} {l l':List α} {x y:α} {g:Nat -> Nat -> PV} (h:l' = l ++ [x,y]) (hg:CoP (g 0 0) (c x 0)) (hg':CoP (g 1 0) (c y 0)) (hw:wr' = true -> wr = true:=by exact fun h=>h) :
 CoO (.arr wr 1 e (l.length + 2) (f8 l.length (lf c l) g)) (.arr wr' 1 e l'.length (lf c l')):=by
 subst h;refine aeb [x,y] hw rfl fun i j hi hj=>?_;obtain rfl:j = 0:=by omega
 have hi:i < 2:=hi
 rcases (by omega:i = 0 \/ i = 1) with rfl | rfl
 · exact hg
 exact hg'
end
end
section
def agT (a b:Row):Nat -> AS
 | 0=>0
 | i + 1=>if ig (a.vals.getD i default) (b.vals.getD i default) = 0 then agT a b i ||| ((1:AS) <<< i) else agT a b i
def agR (a b:Row):AS:=agT a b a.vals.length
def b87 {a b:Row} {i:Nat} (h:ig (a.vals.getD i default) (b.vals.getD i default) = 0):agT a b (i + 1) = agT a b i ||| ((1:AS) <<< i):=if_pos h
def b7d {a b:Row} {i:Nat} (h:¬ ig (a.vals.getD i default) (b.vals.getD i default) = 0):agT a b (i + 1) = agT a b i:=if_neg h
def prs:List Row -> List AS
 | []=>[]
 | r :: l=>l.map (agR r) ++ prs l
def a1o (l:List Row) (i:Nat):List AS:=(l.drop (i + 1)).map (agR (l.getD i default))
def kr (l:List Row) (i k:Nat):List AS:=((List.range i).map (a1o l)).flatten ++ ((a1o l i).take (k - (i + 1)))
def b1o:∀ l:List Row,prs l = ((List.range l.length).map (a1o l)).flatten
 | []=>rfl
 | r :: l=>by
  rw [prs,b1o l,bs6,List.range_succ_eq_map,bt3,List.flatten_cons,List.map_map];rfl
def a74 (l:List Row) (i:Nat):(a1o l i).length = l.length - (i + 1):=by simp [a1o]
def axv {l:List Row} {i k:Nat} (hi:i < k) (hk:k < l.length):kr l i (k + 1) = kr l i k ++ [agR (l.getD i default) (l.getD k default)]:=by
 unfold kr;rw [bsm];congr 1;rw [show k + 1 - (i + 1) = (k - (i + 1)) + 1 by omega,List.take_add_one];congr 1;unfold a1o;rw [brx,bv1,show i + 1 + (k - (i + 1)) = k by omega,brb hk,brc (l:=l) (i:=k),brb hk];rfl
def b2c {l:List Row} {i k:Nat} (hk:l.length <= k):kr l i k = kr l (i + 1) (i + 1 + 1):=by
 unfold kr;rw [bt9 (by rw [a74];omega),bsp,bth,btj,bv7,bu7,bse];simp
def al7 (l:List Row):kr l l.length (l.length + 1) = prs l:=by
 unfold kr;rw [b1o,bv7,bu7,bse]
def b3w (t:Tbl) (s:AS) (i:Nat):List ByteArray:=(List.range i).map fun k=>fb (t.rows.getD k default).vals s
def akr (t:Tbl) (s:AS):Prt:=⟨t.rows.length,afr (b3w t s t.rows.length)⟩
def nA (k:Nat):AS:=BitVec.ofNat 32 k
def ew (k:Nat):AS:=nA k &&& (nA k - 1)
def bfx (t:Tbl) (l:List Prt) (k:Nat):Prt:=if ew k = 0 then akr t (nA k) else b3g (l.getD (ew k).toNat default) (l.getD (nA k &&& ~~~(ew k)).toNat default)
def a44 (t:Tbl):Nat -> List Prt
 | 0=>[]
 | k + 1=>a44 t k ++ [bfx t (a44 t k) k]
def n5 {t:Tbl}:∀ {k:Nat},(a44 t k).length = k
 | 0=>rfl
 | k + 1=>by rw [a44,brh,n5];rfl
def avf (t:Tbl) (k:Nat):List Int:=(a44 t k).map av9
def ai (t:Tbl):List Int:=avf t (2 ^ t.attrs.length)
def b40 {t:Tbl} {k:Nat}:(avf t k).length = k:=by unfold avf;rw [bsc,n5]
def awf (rk:List Int) (s:AS) (a:Nat):Bool:=decide (rk.getD s.toNat default = rk.getD (s ||| ((1:AS) <<< a)).toNat default)
def wc (n:Int) (k i:Nat):List AS:=((List.range i).map nA).filter fun s=>decide (bsz s = k)
def ku (n k:Nat):List AS:=wc n k (2 ^ n)
def mnA (rk:List Int) (a:Nat) (out:List AS) (s:AS):List AS:=if s.getLsbD a = true \/ (out.any fun m=>decide (sub m s)) = true \/ awf rk s a = false then out else out ++ [s]
def mnK (rk:List Int) (n a:Nat) (out:List AS) (k i:Nat):List AS:=((ku n k).take i).foldl (mnA rk a) out
def mnT (rk:List Int) (n a k:Nat):List AS:=(List.range k).foldl (fun out k=>mnK rk n a out k (ku n k).length) []
def mnL (rk:List Int) (n a:Nat):List AS:=mnT rk n a (n + 1)
def fmF (l:List AS) (n a:Nat) (rk:List Int):List AS:=l ++ mnL rk n a
def fmS (rk:List Int) (n a:Nat):List AS:=(List.range a).foldl (fun l a=>l ++ mnL rk n a) []
def fmR (rk:List Int) (n:Nat) (s:AS):List Nat:=(List.range n).filter fun a=>(mnL rk n a).any fun x=>decide (x = s)
def fmO (rk:List Int) (n:Nat):List Fd:=(ord (fmS rk n n)).flatMap fun s=>(fmR rk n s).map fun a=>⟨s,(1:AS) <<< a⟩
def bpn (t:Tbl):List Fd:=fmO (ai t) t.attrs.length
def bj0 (avoid:List AS) (s:AS):Bool:=avoid.any fun x=>decide (sub s x)
def ahm (avoid:List AS) (out:List AS) (s:AS):List AS:=if bj0 avoid s = false /\ (out.any fun x=>decide (sub x s)) = false then out ++ [s] else out
def qb (n:Nat) (avoid:List AS) (i:Nat):List AS:=((c4 (aa (n:Int))).take i).foldl (ahm avoid) []
def bie (n:Nat) (avoid:List AS):List AS:=qb n avoid (c4 (aa (n:Int))).length
def a7d (out:List AS) (s:AS):List AS:=if (out.any fun x=>decide (x = s)) = true then out else out ++ [s]
def gw (l:List AS):List AS:=l.foldl a7d []
def aif {l:List AS} {s:AS}:gw (l ++ [s]) = a7d (gw l) s:=by unfold gw;rw [bs8];rfl
def b7k (t:Tbl):List AS:=bie t.attrs.length (j9 (gw (prs t.rows)))
end
section
def se (l:List Val) (s:AS) (j:Nat):ByteArray:=((aj s).take j).foldl (fun o a=>o ++ tv (l.getD a default)) emp
section
variable {j:Nat} {l:List Val} {s:AS}
def a7v (h:j < (aj s).length):se l s (j + 1) = se l s j ++ tv (l.getD ((aj s).getD j default) default):=by
 unfold se;rw [al h,bs8];rfl
def aj2:∀ {j:Nat},(se l s j).size <= 403 * j
 | 0=>bre _
 | j + 1=>by
  have ih:(se l s j).size <= 403 * j:=aj2;by_cases h:j < (aj s).length
  · rw [a7v h,ach]
    have:=a1g (v:=l.getD ((aj s).getD j default) default);omega
  have e:se l s (j + 1) = se l s j:=by unfold se;rw [bt9 bv9,bt9 bv9]
  rw [e];omega
theorem b6f (hl:l.length <= 32) (hs:∀ a,s.getLsbD a = true -> a < l.length):se l s (aj s).length = fb l s:=by
 have key:∀ i,i <= l.length -> ((List.range i).filter fun a=>s.getLsbD a).foldl (fun o a=>o ++ tv (l.getD a default)) emp = fb (l.take i) s:=by
  intro i
  induction i with
  | zero=>intro _;rfl
  | succ i ih =>
   intro hi
   have e:fb (l.take (i + 1)) s = if s.getLsbD i = true then fb (l.take i) s ++ tv (l.getD i default) else fb (l.take i) s:=by
    unfold fb;rw [al bv9,a0u,brl,bsh bv9,bs5]
   rw [bsp,bta,bs8,ih bv9,e]
   grind
 have more:∀ k,(List.range (l.length + k)).filter (fun a=>s.getLsbD a) = (List.range l.length).filter fun a=>s.getLsbD a:=by
  intro k
  induction k with
  | zero=>rfl
  | succ k ih =>
   rw [<- btk,bsp,bta,ih]
   grind
 unfold se aj;rw [bro];have e:=more (32 - l.length);simp_all
def b4p {v:Val} (h:d9 v = true):0 < (tv v).size:=by
 rw [agb h,strOfNums_size,mr,bs6];omega
def b2d (hj:j < (aj s).length) (hv:d9 (l.getD ((aj s).getD j default) default) = true):bl (se l s (j + 1)) ≠ []:=by
 intro e;have h1:=b4p hv;have h2:(se l s (j + 1)).size = 0:=by rw [<- gj,e];rfl
 rw [a7v hj,ach] at h2;omega
def bfy (a b:ByteArray):bl (a ++ b) = bl a ++ bl b:=by simp [bl,ByteArray.data_append]
def b9u (s:ByteArray):(⟨(bl s).toArray⟩:ByteArray) = s:=ByteArray.ext (by simp [bl])
variable {i n:Nat}
def az3 (hs:∀ z,s.getLsbD z = true -> z < n) (hi:i < (aj s).length):(aj s).getD i default < n:=by
 rw [bw _ _ hi];exact hs _ (jg.1 (brs hi)).2
def tg (t:Tbl) (s:AS) (i:Nat):List ByteArray:=(List.range t.rows.length).map fun k=>if k < i then fb (t.rows.getD k default).vals s else emp
def tf {t:Tbl}:(tg t s i).length = t.rows.length:=by simp [tg]
def b6v {t:Tbl}:tg t s t.rows.length = b3w t s t.rows.length:=by
 unfold tg b3w;simp_all
theorem axa {t:Tbl} (hi:i < t.rows.length):tg t s (i + 1) = (tg t s i).set i (fb (t.rows.getD i default).vals s):=by
 refine btd (by simp [tg]) fun k h1 h2=>?_;rw [bu2];simp only [tg,btt,btm]
 grind
variable {k:Nat}
def b64 {t:Tbl} (hT:TOk t) (hi:i < (tg t s k).length):((tg t s k).getD i default).size <= maxLen:=by
 rw [tf] at hi;rw [bw _ _ (by rw [tf];exact hi)];simp only [tg,btt,btm];split
 · have h1:=a6n (l:=(t.rows.getD i default).vals) (s:=s)
   have h2:=hT.width hi;have h3:=hT.na;unfold maxLen;omega
 exact bre _
def a29 (m i:Nat):List Int:=(List.range m).map fun (k:Nat)=>if k < i then -1 - (k:Int) else 0
variable {m:Nat}
def apy:(a29 m i).length = m:=by simp [a29]
def b53:a29 m m = a64 m:=by
 unfold a29 a64;simp_all
theorem ay7 (hi:i < m):a29 m (i + 1) = (a29 m i).set i (-1 - (i:Int)):=by
 refine btd (by simp [a29]) fun k h1 h2=>?_;rw [bu2];simp only [a29,btt,btm]
 grind
def pz (a b:Prt) (i:Nat):List (Int × Int):=(List.range a.rows.toNat).map fun k=>if k < i then ((y6 a).getD k default,(y6 b).getD k default) else (0,0)
def vm {a b:Prt}:(pz a b i).length = a.rows.toNat:=by simp [pz]
def b47 {a b:Prt}:pz a b a.rows.toNat = b31 a b:=by
 unfold pz b31;simp_all
theorem ayx {a b:Prt} (hi:i < a.rows.toNat):pz a b (i + 1) = (pz a b i).set i ((y6 a).getD i default,(y6 b).getD i default):=by
 refine btd (by simp [pz]) fun k h1 h2=>?_;rw [bu2];simp only [pz,btt,btm]
 grind
variable {p:Prt}
theorem qg (h:kz p = true):0 <= p.rows /\ p.rows <= 1000:=by
 unfold kz at h
 grind
theorem a8t (h:kz p = true) (hk:k < p.cls.length):afh p k = true:=by
 unfold kz at h
 grind
theorem arw (h:afh p k = true):¬ (p.cls.getD k default).length < 2 /\ ag0 p k < (((p.cls.getD k default).getD 0 default:Nat):Int):=by
 unfold afh at h
 grind
theorem afs (h:afh p k = true) (hj:j < (p.cls.getD k default).length):ao6 (p.cls.getD k default) j < (((p.cls.getD k default).getD j default:Nat):Int) /\ (((p.cls.getD k default).getD j default:Nat):Int) < p.rows /\
 ¬ (p.cls.getD k default).getD j default ∈ (p.cls.take k).flatten ++ (p.cls.getD k default).take j:=by
 unfold afh at h;simp only [brk,bs2] at h;have:=h.2 j (brw.2 hj);unfold bhv at this
 grind
def aha:(snT p k j).length = p.rows.toNat:=by simp [snT]
def bjl (hi:i < p.rows.toNat):(snT p k j).getD i default = decide (i ∈ (p.cls.take k).flatten ++ (p.cls.getD k default).take j):=by
 rw [bw _ _ (by rw [aha];exact hi)];simp only [snT,btt,btm]
def b32:snT p 0 0 = List.replicate p.rows.toNat false:=by
 refine btd (by simp [snT]) fun k h1 h2=>?_;simp [snT]
def b5k (hk:k < p.cls.length):snT p k (p.cls.getD k default).length = snT p (k + 1) 0:=by
 unfold snT;refine btx fun i _=>?_;rw [bro,al hk,btj,bu7,bse];simp
theorem b69 (hj:j < (p.cls.getD k default).length) (hr:(((p.cls.getD k default).getD j default:Nat):Int) < p.rows):snT p k (j + 1) = (snT p k j).set ((p.cls.getD k default).getD j default) true:=by
 refine btd (by simp [snT]) fun i h1 h2=>?_;rw [bu2];simp only [snT,btt,btm];rw [al hj]
 grind
def b0e {c:List Nat}:ao6 c (j + 1) = ((c.getD j default:Nat):Int):=by unfold ao6;rw [if_neg bv9];rfl
def b03:ag0 p (k + 1) = (((p.cls.getD k default).getD 0 default:Nat):Int):=by unfold ag0;rw [if_neg bv9];rfl
def a2o (m:Nat) (l:List Int):Prop:=∀ i,i < l.length -> -(m:Int) - 1 <= l.getD i default /\ l.getD i default <= m
def awv {l:List Int} (h:a2o m l) (hk:k <= m):a2o m (l.set i (k:Int)):=fun q hq=>by
 rw [btl] at hq;rw [bw _ _ (by rw [btl];exact hq),bu2];split
 · omega
 have:=h q hq;rwa [bw _ _ hq] at this
def am2 (hn:n <= m):∀ {c:List Nat} {l:List Int},a2o m l -> a2o m (a6d n l c)
 | [],_,h=>h
 | i :: c,l,h=>by
  show a2o m (a6d n (l.set i (n:Int)) c);exact am2 hn (awv h hn)
def acg (hr:p.rows.toNat <= m):∀ {k:Nat},k <= m -> a2o m (u7 p k)
 | 0,_=>fun i hi=>by
  have hi:i < p.rows.toNat:=by rwa [qp] at hi
  show -(m:Int) - 1 <= (a64 p.rows.toNat).getD i default /\ _;have e:(a64 p.rows.toNat).getD i default = -1 - (i:Int):=by simp [a64,List.getD,hi]
  show _ /\ (a64 p.rows.toNat).getD i default <= _;rw [e];omega
 | k + 1,hk=>by rw [a6o];exact am2 bv9 (acg hr bv9)
theorem am8 {α:Type} [Inhabited α] {wr wr':Bool} {p:Nat} {e:TypeId} {c:α -> Nat -> PV} {l:List α} {v:α} {x y:PV} (hw:wr' = true -> wr = true) (hn:n = l.length) (hp:k = p) (hk:p < l.length) (hx:x = c v 0) (hy:y = c v 1):
 CoO (.arr wr 2 e n (gu (lf c l) k 0 [x,y])) (.arr wr' 2 e n (lf c (l.set p v))):=by
 subst hp hx hy hn;refine ⟨hw,rfl,rfl,rfl,fun i j hi hj=>CoP.of_eq ?_⟩;unfold gu lf
 grind
theorem asc {e:TypeId} {f g:Nat -> Nat -> PV} (hn:m = n) (h:∀ i,i < n -> CoP (f i 0) (g i 0) /\ CoP (f i 1) (g i 1)):CoO (.arr true 2 e n f) (.arr true 2 e m g) :=
 ⟨fun h=>h,rfl,rfl,hn,fun i j hi hj=>by
  rcases (by omega:j = 0 \/ j = 1) with rfl | rfl
  · grind
  exact (h i hi).2⟩
theorem ald (h:kz p = true):∀ {k j:Nat},k <= p.cls.length -> j <= (p.cls.getD k default).length -> (k < p.cls.length \/ j = 0) -> ((p.cls.take k).flatten ++ (p.cls.getD k default).take j).Nodup /\ ∀ x ∈ (p.cls.take k).flatten ++ (p.cls.getD k default).take j,(x:Int) < p.rows
 | 0,0,_,_,_=>by simp
 | k + 1,0,hk,_,_=>by
  have:=ald h (k:=k) (j:=(p.cls.getD k default).length) bv9 (brd _) (.inl bv9);rw [bro] at this;rw [bu7,bse,al bv9,btj]
  grind
 | k,j + 1,hk,hj,ho=>by
  have hk2:k < p.cls.length:=by omega
  obtain ⟨h1,h2⟩:=ald h (k:=k) (j:=j) hk bv9 (.inl hk2);obtain ⟨_,g2,g3⟩:=afs (a8t h hk2) (show j < (p.cls.getD k default).length by omega);rw [al bv9,<- bsm];refine ⟨List.nodup_append.2 ⟨h1,by simp,fun a ha b hb e=>?_⟩,fun x hx=>?_⟩
  · grind
  grind
theorem afv (h:kz p = true) (hk:k <= p.cls.length):(p.cls.take k).flatten.length <= 1000 /\ 2 * k <= (p.cls.take k).flatten.length:=by
 obtain ⟨h1,h2⟩:=ald h (k:=k) (j:=0) hk (bre _) (.inr rfl);rw [bu7,bse] at h1 h2;have hr:=qg h;refine ⟨?_, ?_⟩
 · have:=h1.length_le_of_subset (l₂:=List.range 1000) fun x hx=>brw.2 (by have:=h2 x hx;omega)
   grind
 clear h1 h2
 induction k with
 | zero=>simp
 | succ k ih =>
  have:=ih bv9;have h3:=(arw (a8t h (show k < p.cls.length by omega))).1;rw [al bv9,btj,brh]
  grind
theorem asj:∀ {k:Nat},k <= p.cls.length -> zw p k = p.rows - ((p.cls.take k).flatten.length:Int) + (k:Int)
 | 0,_=>by simp [zw]
 | k + 1,hk=>by
  rw [aic bv9,asj bv9,al bv9,btj,brh]
  grind
def axg (h:kz p = true) (hk:k <= p.cls.length):-1000 <= zw p k /\ zw p k <= 1000:=by
 have h1:=afv h hk;have h2:=qg h;rw [asj hk];omega
def w3 (h:kz p = true):p.cls.length <= 1000:=by
 have:=afv h (brd p.cls.length);omega
theorem agk (h:kz p = true) (hk:k < p.cls.length):(p.cls.getD k default).length <= 1000:=by
 have:=(afv h (show k + 1 <= p.cls.length from hk)).1;rw [al hk,btj,brh] at this
 grind
def a68 {e:TypeId} {f g:Nat -> Nat -> PV} (hn:m = n) (h:∀ i,i < n -> CoP (f i 0) (g i 0)):CoO (.arr true 1 e n f) (.arr true 1 e m g) :=
 ⟨fun h=>h,rfl,rfl,hn,fun i j hi hj=>by
  obtain rfl:j = 0:=by omega
  exact h i hi⟩
def bez {n:Int} (h1:-9223372036854775808 <= n) (h2:n <= 9223372036854775807):(Lit.int .i64 n).wf = true:=by
 unfold Lit.wf;rw [brk,decide_eq_true_eq,decide_eq_true_eq];exact ⟨h1,h2⟩
end
end
section
open Go.Proofs
def a3g:goodFn bw0 220:=wgx Tryz.func220
def ap9 (a b:Int):a6 bw0 220 [pI a,pI b] (af [pI (sgn a b)]):=by
 refine hpx (nt:=11) Tryz.func220 ?_;refine j3 ?_;refine hcd (fun h0=>?_) (fun h0=>?_)
 · refine v_4 ?_;exact ⟨cci (by unfold sgn;rw [if_pos h0]),trivial⟩
 refine w_8 ?_;refine hcd (fun h1=>?_) (fun h1=>?_)
 · refine v_4 ?_;exact ⟨cci (by unfold sgn;rw [if_neg h0,if_pos h1]),trivial⟩
 refine v_5 ?_;exact ⟨cci (by unfold sgn;rw [if_neg h0,if_neg h1]),trivial⟩
def bmt (a b:ByteArray) (ha:a.size <= 68719476736) (hb:b.size <= 68719476736):a6 bw0 243 [pS a,pS b] (af [pI (o3 a b)]):=by
 refine hpx (nt:=39) Tryz.func243 ?_;refine w_4 ?_;refine d5 (ι:=Unit) (ka 0 (ka 1 kn)) km (fun _i=>⟨[],[]⟩) (fun _i=>o3 a b = sgn a.size b.size) ?_ ?_
 ·
  refine w_5 ?_;refine ah (ι:=Nat) (ka 0 (ka 1 kn)) km (fun i=>⟨[(5,some (vI i))],[]⟩) (fun i=>i <= a.size /\ i <= b.size /\ ir ((bl a).drop i) ((bl b).drop i) = o3 a b) (fun i=>a.size - i) (0) (⟨bre _,bre _,rfl⟩) kk ?_;rintro i ⟨hi1,hi2,hc⟩;refine w_8 ?_;refine aw rfl rfl (fun r0=>?_) (fun r0=>?_)
  ·
   have h0:=tz1 r0;(iterate 4 refine qy ?_ (hg:=(gtt r0)));refine w_2 ?_;refine au _ rfl (fun r1=>?_) (fun r1=>?_)
   ·
    have h1:=tz1 (ck r0 r1);refine qs ?_;refine hcn (fun h2=>?_) (fun h2=>?_)
    · refine dc ?_;refine qcx a3g (ap9 _ _) ?_;refine v_3 ?_;exact ⟨cci (by rw [<- hc,aj6 i _ _ (by rw [gj];omega) (by rw [gj];omega) (fun e=>h2 ((ae8 _ _ _ _).2 e))];rfl),trivial⟩
    refine w_6 ?_;refine lpz (i + 1) kk ?_;exact ⟨by omega,by omega,by rw [<- hc];exact (aiv i _ _ (by rw [gj];omega) (by rw [gj];omega) ((ae8 _ _ _ _).1 h2)).symm⟩
   have h1:=tz2 (ck r0 r1);refine d7 ?_;refine ⟨(), ?_, ?_⟩
   · rw [<- hc,<- gj,<- gj];exact abn i _ _ (by rw [gj];omega) (by rw [gj];omega) (by rw [gj,gj];omega)
   exact kk
  have h0:=tz2 r0;(iterate 4 refine k9 (gft r0) ?_);refine w_4 ?_;refine ⟨(), ?_, ?_⟩
  · rw [<- hc,<- gj,<- gj];exact abn i _ _ (by rw [gj];omega) (by rw [gj];omega) (by rw [gj,gj];omega)
  exact kk
 rintro _ hj;refine w_6 ?_;refine qcx a3g (ap9 _ _) ?_;refine v_2 ?_;exact ⟨cci hj.symm,trivial⟩
def bn8 (a b:Val) (ha:a.str.size <= 68719476736) (hb:b.str.size <= 68719476736):a6 bw0 219 [a.pc,b.pc] (af [pI (ig a b)]):=by
 refine hpx (nt:=28) Tryz.func219 ?_;refine sx7 ?_;refine m9 0 ?_;refine m9 1 ?_;refine w_9 ?_;refine qcx a3g (ap9 _ _) ?_;refine w_7 ?_;refine hcn (fun h0=>?_) (fun h0=>?_)
 · refine v_5 ?_;exact ⟨cci (by unfold ig;rw [if_pos h0]),trivial⟩
 refine w_8 ?_;refine qcx a3g (ap9 _ _) ?_;refine w_7 ?_;refine hcn (fun h1=>?_) (fun h1=>?_)
 · refine v_5 ?_;exact ⟨cci (by unfold ig;rw [if_neg bv9,if_pos h1]),trivial⟩
 refine w_7 ?_;refine qcx (wgx Tryz.func243) (bmt a.str b.str ha hb) ?_;refine v_2 ?_;exact ⟨cci (by unfold ig;rw [if_neg bv9,if_neg bv9]),trivial⟩
end
section
open Go.Proofs
def boj (a b:List Val) (ha:ur a) (hb:ur b):a6 bw0 166 [pP (vals a),pP (vals b)] (af [pI (dl a b)]):=by
 refine hpx (nt:=36) Tryz.func166 ?_;refine cu 0 rfl (fun hn=>?_);refine w_4 ?_;refine d5 (ι:=Unit) (ka 0 (ka 1 kn)) km (fun _i=>⟨[],[]⟩) (fun _i=>dl a b = sgn a.length b.length) ?_ ?_
 ·
  refine w_5 ?_;refine ah (ι:=Nat) (ka 0 (ka 1 kn)) km (fun i=>⟨[(5,some (vI i))],[]⟩) (fun i=>i <= a.length /\ i <= b.length /\ dl (a.drop i) (b.drop i) = dl a b) (fun i=>a.length - i) (0) (⟨bre _,bre _,rfl⟩) kk ?_;rintro i ⟨hi1,hi2,hc⟩;refine w_8 ?_;refine aw rfl rfl (fun r0=>?_) (fun r0=>?_)
  ·
   have h0:=tz1 r0;(iterate 4 refine qy ?_ (hg:=(gtt r0)));refine w_2 ?_;refine au _ rfl (fun r1=>?_) (fun r1=>?_)
   ·
    have h1:=tz1 (ck r0 r1);refine kf ?_;refine qcx (wgx Tryz.func219) (bn8 _ _ (ha i bv9) (hb i bv9)) ?_;refine w_8 ?_;refine hcn (fun h2=>?_) (fun h2=>?_)
    · refine v_5 ?_;exact ⟨cci (by rw [<- hc];exact (aeu i _ _ bv9 bv9 h2).symm),trivial⟩
    refine w_6 ?_;refine lpz (i + 1) kk ?_;exact ⟨by omega,by omega,by rw [<- hc];exact (ads i _ _ bv9 bv9 h2).symm⟩
   have h1:=tz2 (ck r0 r1);refine d7 ?_;refine ⟨(), ?_, ?_⟩
   · rw [<- hc];exact a7u i _ _ bv9 bv9 bv9
   exact kk
  have h0:=tz2 r0;(iterate 4 refine k9 (gft r0) ?_);refine w_4 ?_;refine ⟨(), ?_, ?_⟩
  · rw [<- hc];exact a7u i _ _ bv9 bv9 bv9
  exact kk
 rintro _ hj;refine w_6 ?_;refine qcx a3g (ap9 _ _) ?_;refine v_2 ?_;exact ⟨cci hj.symm,trivial⟩
def c81 (a b:List Val) (ha:ur a) (hb:ur b):a6 bw0 112 [pP (vals a),pP (vals b)] (af [pB (decide (a = b))]):=by
 refine hpx (nt:=9) Tryz.func112 ?_;refine w_8 ?_;refine qcx (wgx Tryz.func166) (boj a b ha hb) ?_;refine v_3 ?_;exact ⟨ccb (decide_eq_decide.2 a5k),trivial⟩
def bvo {p:Prop} (h:p:=by simp [d9, *] <;> omega):p:=h
def c76 (v:Val):a6 bw0 203 [v.pc] (af [pB (d9 v)]):=by
 refine hpx (nt:=41) Tryz.func203 ?_;refine sx7 ?_;refine m9 0 ?_;refine qs ?_;refine hcd (fun h0=>?_) (fun h0=>?_)
 ·
  refine w_6 ?_;refine aw rfl rfl (fun r1=>?_) (fun r1=>?_)
  ·
   have h1:=tz1 r1;(iterate 3 refine qy ?_ (hg:=(gtt r1)));refine w_3 ?_
   exact hx8 rfl rfl rfl (⟨ccb bvo,trivial⟩)
  have h1:=tz2 r1;(iterate 3 refine k9 (gft r1) ?_);refine w_3 ?_
  exact hx8 rfl rfl rfl (⟨ccb bvo,trivial⟩)
 refine w_5 ?_;refine hcd (fun h2=>?_) (fun h2=>?_)
 · refine v_7 ?_;exact ⟨ccb bvo,trivial⟩
 refine w_5 ?_;refine hcd (fun h3=>?_) (fun h3=>?_)
 ·
  refine w_6 ?_;refine aw rfl rfl (fun r4=>?_) (fun r4=>?_)
  ·
   have h4:=tz1 r4;(iterate 4 refine qy ?_ (hg:=(gtt r4)));refine w_3 ?_
   exact hx8 rfl rfl rfl (⟨ccb bvo,trivial⟩)
  have h4:=tz2 r4;(iterate 4 refine k9 (gft r4) ?_);refine w_3 ?_
  exact hx8 rfl rfl rfl (⟨ccb bvo,trivial⟩)
 refine w_5 ?_;refine hcd (fun h5=>?_) (fun h5=>?_)
 ·
  refine w_6 ?_;refine aw rfl rfl (fun r6=>?_) (fun r6=>?_)
  ·
   have h6:=tz1 r6;(iterate 3 refine qy ?_ (hg:=(gtt r6)));refine w_3 ?_
   exact hx8 rfl rfl rfl (⟨ccb bvo,trivial⟩)
  have h6:=tz2 r6;(iterate 3 refine k9 (gft r6) ?_);refine w_3 ?_
  exact hx8 rfl rfl rfl (⟨ccb bvo,trivial⟩)
 refine v_5 ?_;exact ⟨ccb bvo,trivial⟩
end
section
open Go.Proofs
def aup (l:List Int) (n:Int) (hl:l.length <= 1000000):cz bw0 217 [.one (.ref 1000 l.length), .one (.p (.raw (.int .i64 n)))] [(1000, .arr true 1 5 l.length (lf byC l))] (.v (.one (.ref 1000 (l ++ xu n).length))) [(1000, .arr true 1 5 (l ++ xu n).length (lf byC (l ++ xu n)))] [1000]:=by
 refine hfx (nt:=22) Tryz.func217 ?_;refine w_7 ?_;refine rqw rfl rfl rfl rfl rfl ?_;refine w_9 ?_;refine br (ka 5 kn) km (fun i=>⟨[(0,some (.v (.one (.ref 1000 (l ++ vo n i).length)))),(6,some (vI (56 - 8 * (i:Int))))],[(1000,some (.arr true 1 5 (l ++ vo n i).length (lf byC (l ++ vo n i))))]⟩) 8 ⟨⟨⟨_,rfl,(ce (by simp [vo]))⟩,⟨_,rfl,(coi (by first | rfl | omega))⟩,trivial⟩,⟨⟨_,rfl,(bv (by simp [vo]))⟩,trivial⟩⟩ ?_;rintro i hi;have hlen:(l ++ vo n i).length = l.length + i:=by simp [vo]
 refine w_6 ?_;refine hcd (fun h0=>?_) (fun h0=>?_)
 · refine w_8 ?_;refine rqw rfl rfl rfl rfl rfl ?_;refine m9 0 ?_;refine r9 1 true ?_;refine w_7 ?_;exact lpx (i + 1) ⟨⟨⟨_,rfl,(bz amy)⟩,⟨_,rfl,(coi (by first | omega | (dsimp only;omega)))⟩,tt⟩,⟨⟨_,rfl,(c5 amy (CoP.of_eq (by dsimp only;rw [show ((56:Int) - 8 * (i:Int)).toNat = 56 - 8 * i by omega];rfl)))⟩,trivial⟩⟩
 obtain rfl:i = 8:=by omega
 refine w_6 ?_;refine hrr ?_;exact ⟨_,_,rfl,bvb,fe (by rw [amo]),⟨⟨_,rfl,bv (by rw [amo])⟩,trivial⟩⟩
def bvv {p:Prop} (h:p:=by first | exact .inl bva | exact .inr bva):p:=h
def bvz {p:Prop} (h:p:=by first | exact fe (by rw [(un bvv)]) | exact fe (by rw [uk bva,brh];rfl) | exact fe (by rw [(um bva bva bva)];rfl)):p:=h
def bjm (v:Val):a6 bw0 158 [v.pc] (af [pS (tv v),pI (b4w v)]):=by
 refine hpx (nt:=51) Tryz.func158 ?_;refine sx7 ?_;refine m9 0 ?_;refine w_7 ?_;refine qcx (wgx Tryz.func203) (c76 v) ?_;refine w_2 ?_;refine hcv (fun h0=>?_) (fun h0=>?_)
 · refine v_5 ?_;exact ⟨CoC.one (by rw [bdi bva];exact CoP.refl _),cci (bee bva).symm,trivial⟩
 have hs:=a5q h0;refine w_5 ?_;refine rqw rfl rfl rfl rfl rfl ?_;refine m9 1 ?_;refine w_2 ?_;refine aek kn (kb 0 km) ⟨[(4,some (.v (.one (.ref 1 (mr v).length))))],[(1,some (.arr true 1 5 (mr v).length (lf byC (mr v))))]⟩ ?_ ?_
 ·
  refine j4 ?_;refine au _ rfl (fun r1=>?_) (fun r1=>?_)
  · have h1:=tz1 r1;refine dy ?_;refine au _ rfl (fun _=>?_) (fun e=>Bool.noConfusion (r1.symm.trans e));refine w_4 ?_;refine fc9 (wgx Tryz.func217) ((aup [kB v] v.num l9).swap 1000 1) ⟨⟨_,rfl,ol (CoP.refl _)⟩,trivial⟩ ?_;refine w_2 ?_;exact ⟨⟨⟨_,rfl,bvz⟩,trivial⟩,⟨⟨_,rfl,(by first | exact bv (un bvv) | exact a48 (uk bva) (CoP.refl _) (CoP.refl _) | (rw [(um bva bva bva)];exact ol (CoP.refl _)))⟩,uu⟩⟩
  have h1:=tz2 r1;refine w_4 ?_;refine hcd (fun h2=>?_) (fun h2=>?_)
  · refine w_4 ?_;refine fc9 (wgx Tryz.func217) ((aup [kB v] v.num l9).swap 1000 1) ⟨⟨_,rfl,ol (CoP.refl _)⟩,trivial⟩ ?_;refine w_2 ?_;exact ⟨⟨⟨_,rfl,bvz⟩,trivial⟩,⟨⟨_,rfl,(by first | exact bv (un bvv) | exact a48 (uk bva) (CoP.refl _) (CoP.refl _) | (rw [(um bva bva bva)];exact ol (CoP.refl _)))⟩,uu⟩⟩
  refine w_5 ?_;refine hcd (fun h3=>?_) (fun h3=>?_)
  ·
   refine w_9 ?_;refine br (ka 1 (ka 26 kn)) (kb 0 km) (fun i=>⟨[(4,some (.v (.one (.ref 1 (w6 v i).length)))),(27,some (vI i))],[(1,some (.arr true 1 5 (w6 v i).length (lf byC (w6 v i))))]⟩) v.str.size ⟨⟨⟨_,rfl,(CoR.refl _)⟩,tt⟩,⟨⟨_,rfl,(ol (CoP.refl _))⟩,trivial⟩⟩ ?_;rintro i hi;have hlen:=bdj (v:=v) (i:=i);refine w_5 ?_;refine hcd (fun h4=>?_) (fun h4=>?_)
   ·
    refine k8 ?_;refine m9 2 ?_;refine r9 3 true ?_;refine dc ?_;refine hcd (fun h5=>?_) (fun h5=>?_)
    ·
     refine w_2 ?_;refine m9 4 ?_;refine r9 5 true ?_;refine w_6 ?_
     first | (refine lpz (i + 1) ⟨⟨⟨_, rfl, (by rw [akq bv9 bva]; simp only [brh]; exact CoR.refl _)⟩, tt⟩, ⟨⟨_, rfl, (by rw [akq bv9 bva]; exact ajo rfl (CoP.refl _) (CoP.refl _))⟩, uu⟩⟩ ?_; show i + 1 <= _; omega)
           | (refine lpz (i + 1) ⟨⟨⟨_,rfl,(bz (aks bv9 bva))⟩,tt⟩,⟨⟨_,rfl,(c5 (aks bv9 bva) (CoP.refl _))⟩,uu⟩⟩ ?_;show i + 1 <= _;omega)
    refine w_5 ?_
    first | (refine lpz (i + 1) ⟨⟨⟨_, rfl, (by rw [akq bv9 bva]; simp only [brh]; exact CoR.refl _)⟩, tt⟩, ⟨⟨_, rfl, (by rw [akq bv9 bva]; exact ajo rfl (CoP.refl _) (CoP.refl _))⟩, uu⟩⟩ ?_; show i + 1 <= _; omega)
          | (refine lpz (i + 1) ⟨⟨⟨_,rfl,(bz (aks bv9 bva))⟩,tt⟩,⟨⟨_,rfl,(c5 (aks bv9 bva) (CoP.refl _))⟩,uu⟩⟩ ?_;show i + 1 <= _;omega)
   obtain rfl:i = v.str.size:=by omega
   refine w_3 ?_;refine m9 6 ?_;refine r9 7 true ?_;refine w_2 ?_;exact ⟨⟨⟨_,rfl,bvz⟩,trivial⟩,⟨⟨_,rfl,(by first | exact bv (un bvv) | exact a48 (uk bva) (CoP.refl _) (CoP.refl _) | (rw [(um bva bva bva)];exact ol (CoP.refl _)))⟩,uu⟩⟩
  refine dy ?_;exact ⟨⟨⟨_,rfl,bvz⟩,trivial⟩,⟨⟨_,rfl,(by first | exact bv (un bvv) | exact a48 (uk bva) (CoP.refl _) (CoP.refl _) | (rw [(um bva bva bva)];exact ol (CoP.refl _)))⟩,uu⟩⟩
 refine cq ?_;refine bn 4 rfl rfl rfl ?_;refine w_2 ?_;refine rq rfl rfl rfl rfl rfl ?_ (hp:=⟨rfl,fun i hi=>⟨_,rfl⟩⟩);refine v_3 ?_;exact ⟨CoC.one (by rw [agb bva,<- b8r];exact CoP.refl _),cci (bcf bva).symm,trivial⟩
def agu:goodFn bw0 103:=wgx Tryz.func103
def ahz (l:List Val) (s:AS) (hl:l.length <= 16):a6 bw0 103 [pP (vals l),pA s] (af [pS (fb l s)]):=by
 refine hpx (nt:=32) Tryz.func103 ?_;refine dc ?_;refine cu 0 rfl fun hn=>?_;refine w_6 ?_;refine br (ka 1 (ka 10 (ka 11 kn))) km (fun i=>⟨[(5,some (vS (fb (l.take i) s))),(12,some (vI i))],[]⟩) l.length kk ?_;rintro i hi;have hsz:=a6n (l:=l.take i) (s:=s);rw [brl] at hsz;have hk:=a1g (v:=l.getD i default);refine w_5 ?_;refine hcd (fun h0=>?_) (fun h0=>?_)
 ·
  refine w_8 ?_;refine m9 0 ?_;refine j3 ?_;refine hcd (fun h1=>?_) (fun h1=>?_)
  ·
   refine w_3 ?_;refine qcx (wgx Tryz.func158) (bjm (l.getD i default)) ?_;refine v7 ?_
   first | (refine lpz (i + 1) ⟨⟨⟨_, rfl, (coS (b7w bv9 bv9 bva).symm)⟩, tt⟩, trivial⟩ ?_; show i + 1 <= _; omega)
         | (refine lpz (i + 1) ⟨⟨⟨_,rfl,(coS (b84 bv9 bv9 bva).symm)⟩,tt⟩,trivial⟩ ?_;show i + 1 <= _;omega)
  refine w_5 ?_
  first | (refine lpz (i + 1) ⟨⟨⟨_, rfl, (coS (b7w bv9 bv9 bva).symm)⟩, tt⟩, trivial⟩ ?_; show i + 1 <= _; omega)
        | (refine lpz (i + 1) ⟨⟨⟨_,rfl,(coS (b84 bv9 bv9 bva).symm)⟩,tt⟩,trivial⟩ ?_;show i + 1 <= _;omega)
 obtain rfl:i = l.length:=by omega
 refine v_6 ?_;exact ⟨CoC.one (by rw [bro];exact CoP.refl _),trivial⟩
end
end Go.Hx
