/- A part of the proof: Bz4 Y2 Y3. -/
import Derived.Test.YtodligmokcbbkaaGreatDoorRx16
import Derived.Test.YtodligmokcbbkaaGreatDoorRx19
import Derived.Test.YtodligmokcbbkaaGreatDoorRx20
import Derived.Test.YtodligmokcbbkaaGreatDoorRx22
import Derived.Test.YtodligmokcbbkaaGreatDoorRx23
import Derived.Test.YtodligmokcbbkaaGreatDoorRx24
set_option linter.all false
section
namespace Go.Hx
theorem anh {f:Fd} {k:Nat} (h:k < (bj f.rhs).length):(sgl f).getD k default = ⟨f.lhs,ae1 ((bj f.rhs).getD k default)⟩:=by
 unfold sgl
 simp [List.getD_eq_getElem?_getD,List.getElem?_eq_getElem h]
theorem a3x (f:Fd):(sgl f).length = (bj f.rhs).length:=by unfold sgl;rw [List.length_map]
theorem ad3 {fs ms:List Fd} {i k:Nat} (h:k < (bj (fs.getD i default).rhs).length):iq fs ms i (k + 1) = iq fs ms i k ++ [⟨(fs.getD i default).lhs,ae1 ((bj (fs.getD i default).rhs).getD k default)⟩]:=by
 rw [ag0 (by rw [a3x];exact h),anh h]
theorem acw {fs ms:List Fd} {i:Nat} (h:i < fs.length):iq fs ms (i + 1) 0 = iq fs ms i (bj (fs.getD i default).rhs).length:=by rw [afk h,a3x]
theorem aoj {a b:AS} {k:Nat} (h:sub a b) (hb:b >>> k = 0):a >>> k = 0:=by
 apply aau
 intro i hi
 have:=congrArg (fun z:AS=>z.getLsbD i) hb
 simp only [BitVec.getLsbD_ushiftRight] at this ⊢
 cases ha:a.getLsbD (k + i) with
 | false=>simp
 | true=>rw [bf.1 h _ (a3b ha) ha] at this;simp at this
def ye (b:AS) (f:Fd):Bool:=!decide ((f.rhs &&& ~~~f.lhs) &&& b = 0)
def w5 (l:List Fd) (o b:AS):AS:=if bsz b = 1 then (if l.any (ye b) = true then o ||| b else o) else o
def sq (l:List Fd) (o:AS) (bs:List AS):AS:=bs.foldl (w5 l) o
theorem yk {l:List Fd} {o:AS} {bs:List AS} {i:Nat} (h:i < bs.length):sq l o (bs.take (i + 1)) = w5 l (sq l o (bs.take i)) (bs.getD i default):=by
 unfold sq
 rw [bh h,List.foldl_append]
 rfl
section
variable {l:List Fd} {o:AS} {bs:List AS} {i:Nat}
theorem aan (h:i < bs.length) (hq:¬ bsz (bs.getD i default) = 1):sq l o (bs.take i) = sq l o (bs.take (i + 1)):=by rw [yk h,w5,if_neg hq]
theorem aa8 (h:i < bs.length) (hq:bsz (bs.getD i default) = 1) (ha:l.any (ye (bs.getD i default)) = false):sq l o (bs.take i) = sq l o (bs.take (i + 1)):=by rw [yk h,w5,if_pos hq,if_neg (by rw [ha];decide)]
theorem aak (h:i < bs.length) (hq:bsz (bs.getD i default) = 1) (ha:l.any (ye (bs.getD i default)) = true):sq l o (bs.take i) ||| bs.getD i default = sq l o (bs.take (i + 1)):=by rw [yk h,w5,if_pos hq,if_pos ha]
end
def dj (n:Int) (l m:List Fd) (x:AS):List AS:=ord (blks (ta l m) (am n &&& ~~~x))
def ajz (n:Int) (l m:List Fd) (x:AS):List AS:=if ckB n l m x = 0 then dj n l m x else []
def uv (n:Int) (l m:List Fd) (x:AS):AS:=sq l x (dj n l m x)
def aej (n:Int) (l m:List Fd) (x:AS):AS:=if ckB n l m x = 0 then uv n l m x else 0
theorem aku (ms:List Fd) (rest:AS):OkB (blks ms rest):=by
 have:∀ (f:Nat) (l:List AS),OkB l → OkB (qf ms f l):=by
  intro f
  induction f with
  | zero=>intro l h;exact h
  | succ f ih =>
   intro l h
   unfold qf
   split
   · exact ih _ (a0m h)
   · exact a0m h
 exact this _ _ (a73 rest)
theorem a23 (n:Int) (l m:List Fd) (x:AS):(dj n l m x).length ≤ 4294967296:=Nat.le_trans (a12 _) (a5w (aku _ _))
def ll (p:AS) (bs:List AS):List AS:=(bs.filter fun b=>!decide (b &&& p = 0)).map fun b=>b &&& p
theorem a4b {p:AS} {bs:List AS} {i:Nat} (h:i < bs.length) (hq:¬ bs.getD i default &&& p = 0):ll p (bs.take (i + 1)) = ll p (bs.take i) ++ [bs.getD i default &&& p]:=by
 unfold ll
 rw [bh h,List.filter_append,List.map_append,List.filter_cons,if_pos (by rw [decide_eq_false hq];rfl)]
 rfl
theorem a4p {p:AS} {bs:List AS} {i:Nat} (h:i < bs.length) (hq:bs.getD i default &&& p = 0):ll p (bs.take (i + 1)) = ll p (bs.take i):=by
 unfold ll
 rw [bh h,List.filter_append,List.map_append,List.filter_cons,if_neg (by rw [decide_eq_true hq];decide)]
 simp
theorem a9n (p:AS) (bs:List AS):(ll p bs).length ≤ bs.length:=by
 unfold ll
 rw [List.length_map]
 exact List.length_filter_le _ _
def ij (n:Int) (l m:List Fd) (x p:AS):List AS:=ord (ll p (dj n l m x))
theorem ac7 (n:Int) (l m:List Fd) (x p:AS):(ll p (dj n l m x)).length ≤ 8589934592:=Nat.le_trans (a9n _ _) (Nat.le_trans (a23 _ _ _ _) (by decide))
def ck4 (n:Int) (l m:List Fd) (s:AS):Int:=if n < 0 ∨ 8 < n then 7 else ckB n l m s
theorem amc {n:Int} {l m:List Fd} {s:AS} (h:n < 0 ∨ 8 < n):ck4 n l m s = 7:=if_pos h
theorem a3w {n:Int} {l m:List Fd} {s:AS} (h:¬ (n < 0 ∨ 8 < n)):ck4 n l m s = ckB n l m s:=if_neg h
theorem a3v {n:Int} {l m:List Fd} {s:AS} (h:ck4 n l m s = 0):0 ≤ n ∧ n ≤ 8 ∧ ckB n l m s = 0:=by
 unfold ck4 at h
 split at h
 · cases h
 · exact ⟨by omega,by omega,h⟩
theorem a5f {n:Int} {l m:List Fd} {s t:AS} (h:ckB n l m s = 0) (ht:sub t s):ckB n l m t = 0:=a83 (zn h).1 (aoj ht (zn h).2)
theorem a68 {n:Int} {l m:List Fd} {s t:AS} (h:ck4 n l m s = 0) (ht:sub t s):ck4 n l m t = 0:=by
 obtain ⟨h1,h2,h3⟩:=a3v h
 rw [a3w (by omega)]
 exact a5f h3 ht
def al0 (n:Int) (l m:List Fd) (x p:AS):List AS:=if ck4 n l m (x ||| p) = 0 then ij n l m x p else []
def zk (n:Int) (l m:List Fd) (p x:AS):Option Fd:=if p &&& ~~~(uv n l m x) = 0 then none else if 1 < (ij n l m x p).length then some ⟨x,(ij n l m x p).getD 0 default⟩ else none
def jm (n:Int) (l m:List Fd) (p:AS):Option Fd:=(dn p).findSome? (zk n l m p)
def af2:Option Fd → Fd × Bool
 | some v=>(v,true)
 | none=>(⟨0,0⟩,false)
def xj (n:Int) (l m:List Fd) (p:AS):Fd × Bool:=if ck4 n l m p = 0 then af2 (jm n l m p) else (⟨0,0⟩,false)
theorem ap3 {n:Int} {l m:List Fd} {p:AS} (h:¬ ck4 n l m p = 0):xj n l m p = (⟨0,0⟩,false):=if_neg h
theorem aaw {n:Int} {l m:List Fd} {p:AS} (h:ck4 n l m p = 0):xj n l m p = af2 (jm n l m p):=if_pos h
theorem a08 {α β:Type} [Inhabited α] {f:α → Option β} {l:List α} {i:Nat} (h:i < l.length) (hn:(l.take i).findSome? f = none):(l.take (i + 1)).findSome? f = f (l.getD i default):=by
 rw [bh h,List.findSome?_append,hn]
 simp only [List.findSome?_cons,List.findSome?_nil,Option.none_or]
 cases f (l.getD i default) <;> rfl
theorem ah1 {α β:Type} [Inhabited α] {f:α → Option β} {l:List α} {i:Nat} {v:β} (h:i < l.length) (hn:(l.take i).findSome? f = none) (hv:f (l.getD i default) = some v):l.findSome? f = some v:=by
 have h1:=a08 h hn
 rw [hv] at h1
 rw [← List.take_append_drop (i + 1) l,List.findSome?_append,h1]
 rfl
theorem a78 {s z:AS} (h:z ∈ dn s):sub z s:=by
 unfold dn at h
 split at h
 · cases h
 · exact a6v.1 h
theorem tj {α:Type} [Inhabited α] {l:List α} {i:Nat} (h:i < l.length):l.getD i default ∈ l:=by
 rw [List.getD_eq_getElem?_getD,List.getElem?_eq_getElem h]
 exact List.getElem_mem h
theorem aas {n:Int} {l m:List Fd} {x p c:AS}:c ∈ ij n l m x p ↔ ∃ b ∈ blks (ta l m) (am n &&& ~~~x),b &&& p ≠ 0 ∧ c = b &&& p:=by
 unfold ij ll dj
 rw [re,List.mem_map]
 constructor
 · rintro ⟨b,hb,rfl⟩
   rw [List.mem_filter,re] at hb
   exact ⟨b,hb.1,by simpa using hb.2,rfl⟩
 · rintro ⟨b,hb,h,rfl⟩
   exact ⟨b,List.mem_filter.2 ⟨re.2 hb,by simpa using h⟩,rfl⟩
def adn (V:AS → Option Fd):Prop:=∀ p v,V p = some v → sub (v.lhs ||| v.rhs) p ∧ v.lhs ||| v.rhs ≠ p ∧ p &&& ~~~v.rhs ≠ p
theorem a20 (n:Int) (l m:List Fd):adn (jm n l m):=by
 intro p v h
 unfold jm at h
 obtain ⟨x,hx,hv⟩:=List.exists_of_findSome?_eq_some h
 have hxp:=a78 hx
 unfold zk at hv
 split at hv
 · cases hv
 · split at hv
   · rename_i hlen
     cases hv
     have hbk:=(amj (ta l m) (am n &&& ~~~x)).1
     have m0:=tj (l:=ij n l m x p) (i:=0) (by omega)
     have m1:=tj (l:=ij n l m x p) (i:=1) hlen
     have hnd:=afy (ll p (dj n l m x))
     have hne:(ij n l m x p).getD 0 default ≠ (ij n l m x p).getD 1 default:=by
      intro e
      rw [List.getD_eq_getElem?_getD,List.getD_eq_getElem?_getD,List.getElem?_eq_getElem (show 0 < (ij n l m x p).length by omega),List.getElem?_eq_getElem hlen,Option.getD_some,Option.getD_some] at e
      have:=(List.getElem_inj (xs:=ij n l m x p) hnd).1 e
      omega
     generalize (ij n l m x p).getD 0 default = c0 at *
     generalize (ij n l m x p).getD 1 default = c1 at *
     obtain ⟨b0,hb0,hz0,rfl⟩:=aas.1 m0
     obtain ⟨b1,hb1,hz1,rfl⟩:=aas.1 m1
     dsimp only
     refine ⟨vv hxp ahp,fun e=>?_,fun e=>?_⟩
     · obtain ⟨a,ha,h1,h2⟩:=agv hz1
       have h3:=congrArg (fun z:AS=>z.getLsbD a) e
       simp only [BitVec.getLsbD_or,BitVec.getLsbD_and,h2,Bool.and_true] at h3
       have hr:=bf.1 (hbk.sub hb1) a ha h1
       rw [j5 ha,Bool.and_eq_true] at hr
       have hxa:x.getLsbD a = false:=by simpa using hr.2
       rw [hxa,Bool.false_or] at h3
       exact hne (by rw [hbk.one hb0 hb1 h3 h1])
     · obtain ⟨a,ha,h1,h2⟩:=agv hz0
       have h3:=congrArg (fun z:AS=>z.getLsbD a) e
       simp only [j5 ha,BitVec.getLsbD_and,h1,h2] at h3
       simp at h3
   · cases hv
section
variable {V:AS → Option Fd}
def vF (V:AS → Option Fd) (s:AS):Fd:=(af2 (V s)).1
def vBo (V:AS → Option Fd) (s:AS):Bool:=(af2 (V s)).2
def ut (V:AS → Option Fd) (s:AS):AS:=(vF V s).lhs ||| (vF V s).rhs
def sv (V:AS → Option Fd) (s:AS):AS:=s &&& ~~~(vF V s).rhs
theorem aax {s:AS} (h:vBo V s = true):V s = some (vF V s):=by
 unfold vBo at h
 unfold vF
 cases hv:V s with
 | none=>rw [hv] at h;cases h
 | some v=>rfl
def x6 (V:AS → Option Fd):Nat → List AS → List AS → List AS
 | 0,_,out=>out
 | n + 1,todo,out =>
  if todo.length = 0 then out
  else if vBo V (todo.getD (todo.length - 1) default) = true then x6 V n (todo.take (todo.length - 1) ++ [ut V (todo.getD (todo.length - 1) default),sv V (todo.getD (todo.length - 1) default)]) out
  else x6 V n (todo.take (todo.length - 1)) (out ++ [todo.getD (todo.length - 1) default])
def yy (V:AS → Option Fd) (p0:AS) (x:Nat × List AS × List AS):Prop:=x6 V x.1 x.2.1 x.2.2 = x6 V 6562 [p0] [] ∧ lu x.2.1 < x.1 ∧ x.2.2.length + x.1 ≤ 6562
theorem aik {n:Int} (h8:n ≤ 8):yy V (am n) (6562,[am n],[]):=by
 refine ⟨rfl, ?_,Nat.le_refl _⟩
 show 3 ^ bsz (am n) + 0 < 6562
 have h1:=al1 (n:=n) (m:=8) h8 (by omega)
 have h2:3 ^ bsz (am n) ≤ 3 ^ 8:=Nat.pow_le_pow_right (by omega) h1
 have h3:3 ^ 8 = 6561:=rfl
 omega
theorem xr {p0:AS} {x:Nat × List AS × List AS} (h:yy V p0 x):x.2.1.length < 6562 ∧ x.2.2.length ≤ 6562 ∧ 0 < x.1:=by
 have:=a8s x.2.1
 obtain ⟨h1,h2,h3⟩:=h
 omega
theorem ajp {p0:AS} {x:Nat × List AS × List AS} (h:yy V p0 x) (h0:x.2.1.length = 0):x.2.2 = x6 V 6562 [p0] []:=by
 have hp:=(xr h).2.2
 obtain ⟨h1,h2,h3⟩:=h
 obtain ⟨m,hm⟩:∃ m,x.1 = m + 1:=⟨x.1 - 1,by omega⟩
 rw [hm] at h1
 unfold x6 at h1
 rw [if_pos h0] at h1
 exact h1
theorem agc (hV:adn V) {s:AS} (h:vBo V s = true):bsz (ut V s) < bsz s ∧ bsz (sv V s) < bsz s:=by
 obtain ⟨h1,h2,h3⟩:=hV s _ (aax h)
 exact ⟨a4n h1 h2,a4n a6y h3⟩
theorem ahn (hV:adn V) {p0:AS} {x:Nat × List AS × List AS} (h:yy V p0 x) (h0:0 < x.2.1.length) (hv:vBo V (x.2.1.getD (x.2.1.length - 1) default) = true) :
 yy V p0 (x.1 - 1,x.2.1.take (x.2.1.length - 1) ++ [ut V (x.2.1.getD (x.2.1.length - 1) default),sv V (x.2.1.getD (x.2.1.length - 1) default)],x.2.2):=by
 have hp:=(xr h).2.2
 obtain ⟨h1,h2,h3⟩:=h
 obtain ⟨m,hm⟩:∃ m,x.1 = m + 1:=⟨x.1 - 1,by omega⟩
 rw [hm] at h1
 unfold x6 at h1
 rw [if_neg (by omega),if_pos hv] at h1
 refine ⟨by rw [hm];exact h1, ?_,by dsimp only;omega⟩
 have e:=a2p (x.2.1.take (x.2.1.length - 1)) [x.2.1.getD (x.2.1.length - 1) default]
 rw [← a7l h0] at e
 have e1:lu [x.2.1.getD (x.2.1.length - 1) default] = 3 ^ bsz (x.2.1.getD (x.2.1.length - 1) default):=by simp [lu]
 generalize x.2.1.getD (x.2.1.length - 1) default = s at *
 dsimp only
 rw [a2p]
 have e2:lu [ut V s,sv V s] = 3 ^ bsz (ut V s) + 3 ^ bsz (sv V s):=by simp [lu]
 obtain ⟨g1,g2⟩:=agc hV hv
 obtain ⟨b,hb⟩:∃ b,bsz s = b + 1:=⟨bsz s - 1,by omega⟩
 have p1:3 ^ bsz (ut V s) ≤ 3 ^ b:=Nat.pow_le_pow_right (by omega) (by omega)
 have p2:3 ^ bsz (sv V s) ≤ 3 ^ b:=Nat.pow_le_pow_right (by omega) (by omega)
 have p3:3 ^ bsz s = 3 ^ b * 3:=by rw [hb,Nat.pow_succ]
 have p4:0 < 3 ^ b:=Nat.pow_pos (by omega)
 omega
theorem afo {p0:AS} {x:Nat × List AS × List AS} (h:yy V p0 x) (h0:0 < x.2.1.length) (hv:vBo V (x.2.1.getD (x.2.1.length - 1) default) = false) :
 yy V p0 (x.1 - 1,x.2.1.take (x.2.1.length - 1),x.2.2 ++ [x.2.1.getD (x.2.1.length - 1) default]):=by
 have hp:=(xr h).2.2
 obtain ⟨h1,h2,h3⟩:=h
 obtain ⟨m,hm⟩:∃ m,x.1 = m + 1:=⟨x.1 - 1,by omega⟩
 rw [hm] at h1
 unfold x6 at h1
 rw [if_neg (by omega),if_neg (by rw [hv];decide)] at h1
 refine ⟨by rw [hm];exact h1, ?_,by dsimp only;rw [List.length_append,List.length_singleton];omega⟩
 have e:=a2p (x.2.1.take (x.2.1.length - 1)) [x.2.1.getD (x.2.1.length - 1) default]
 rw [← a7l h0] at e
 have e1:lu [x.2.1.getD (x.2.1.length - 1) default] = 3 ^ bsz (x.2.1.getD (x.2.1.length - 1) default):=by simp [lu]
 have p4:0 < 3 ^ bsz (x.2.1.getD (x.2.1.length - 1) default):=Nat.pow_pos (by omega)
 dsimp only
 omega
def lvG (V:AS → Option Fd):Nat → AS → List AS
 | 0,s=>[s]
 | n + 1,s=>if vBo V s = true then lvG V n (ut V s) ++ lvG V n (sv V s) else [s]
end
def as7 (n:Int) (l m:List Fd):List AS:=x6 (jm n l m) 6562 [am n] []
def a8t (n:Int) (l m:List Fd):List AS:=if ck4 n l m 0 = 0 then a34 (as7 n l m) else []
theorem asf {n:Int} {l m:List Fd} (h:ck4 n l m 0 = 0):a8t n l m = a34 (as7 n l m):=if_pos h
theorem arp {n:Int} {l m:List Fd} (h:¬ ck4 n l m 0 = 0):a8t n l m = []:=if_neg h
end Go.Hx
end
section
namespace Go.Hx
open Go.Proofs
set_option maxRecDepth 100000
set_option maxHeartbeats 1000000
theorem asp:ak Tryz.prog 72:=⟨Tryz.f72,Tryz.func72,by kernel_rfl,by kernel_rfl⟩
theorem aom (n:Nat) (c:Bool) (f:Nat → Nat → PV) (hn:n ≤ 17592186044416) :
 ju Tryz.prog 72 [.one (.p (.sl n 2 c f))] [] (.v (.one (.ref 0 n))) [(0, .arr true 2 29 n f)] []:=by
 refine vz (nt:=8) ae Tryz.func72 rfl rfl l9 rfl ?_;refine sx7 ?_;refine dz true rfl rfl rfl rfl rfl trivial ?_;refine a6 ?_
 refine a5a (ι:=Bool) (fun c=>⟨[(0,some (bc (.sl n 2 c f)))],[]⟩) (fun _=>True) ?_ fun c _=>?_
 · rcases Nat.eq_zero_or_pos n with hz | h0
   · subst hz
     refine hw_exact' 0 rfl fun ad cap hcap=>?_
     refine sx7 ?_;(iterate 2 refine dz true rfl rfl rfl rfl rfl trivial ?_);refine a6 ?_;refine a8 ad.isNone rfl (fun hc=>?_) (fun hc=>?_)
     · refine sx7 ?_
       refine dz true rfl rfl rfl rfl rfl trivial ?_;refine a6 ?_;refine jy 2 0 true 2 29 f (by decide) rfl (CoP.sl rfl (.inr rfl) (fun h=>h) fun i j hi _=>absurd hi (Nat.not_lt_zero i)) (.inr rfl) rfl ?_
       refine df ?_;refine ⟨.inr rfl, ?_⟩
       exact ⟨_,_,rfl,trivial,CoR.refl _,⟨u9,trivial⟩⟩
     · refine aa ?_
       exact ⟨false,trivial,⟨⟨_,rfl,CoP.raw_sl hcap⟩,trivial⟩,trivial⟩
   · refine sx7 ?_
     refine dz true rfl rfl rfl rfl rfl trivial ?_;refine dz true rfl rfl rfl rfl rfl h0 ?_;refine a6 ?_;refine a8 false rfl (fun hc=>by cases hc) (fun hc=>?_);refine aa ?_
     exact ⟨c,trivial,⟨c9,trivial⟩,trivial⟩
 · refine sx7 ?_
   refine a0x 0 rfl rfl rfl rfl rfl rfl trivial ?_;refine dz true rfl rfl rfl rfl rfl trivial ?_
   refine a8c 0 true rfl rfl rfl rfl rfl rfl ⟨trivial,rfl,rfl,rfl, .inl rfl,by show 0 + n ≤ 9223372036854775807;omega,by show (0 + n) * 8 ≤ 140737488355328;omega,fun _=>.inl rfl⟩ ?_
   refine dz true rfl rfl rfl rfl rfl trivial ?_;refine a6 ?_;refine df ?_;refine ⟨.inr rfl, ?_⟩
   refine ⟨_,_,rfl,trivial,CoR.of_eq (by show HR.v (.one (.ref 0 (0 + n))) = _;rw [Nat.zero_add]),⟨⟨_,rfl, ?_⟩,trivial⟩⟩
   exact ⟨fun h=>h,rfl,rfl,(Nat.zero_add n).symm,fun i j _ _=>CoP.of_eq (by simp [fq])⟩
theorem ag5:ak Tryz.prog 41:=⟨Tryz.f41,Tryz.func41,by kernel_rfl,by kernel_rfl⟩
theorem acg (n:Int) (l m:List Fd) (x:AS):aj Tryz.prog 41 [pI n,pP (fdl l),pP (fdl m),pA x] (ao [pI (ckB n l m x)]):=by
 refine ai (nt:=21) ae Tryz.func41 rfl rfl l9 ?_;refine sx7 ?_;refine qy ?_;refine a6 ?_;refine a7 ?_;refine sx7 ?_;(iterate 3 refine qy ?_)
 refine rc rfl rfl rfl rfl rfl rfl ahm (acl n l m) (CoL.refl _) rfl rfl ?_;refine qy ?_;refine a6 ?_;refine sx7 ?_;(iterate 2 refine qy ?_);refine a6 ?_;refine a8 _ rfl (fun r0=>?_) (fun r0=>?_)
 ·
  have h0:=r0
  have h0:=of_decide_eq_false (b7 h0)
  try simp only [ty] at h0
  refine sx7 ?_;(iterate 2 refine qy ?_);refine a6 ?_
  exact hx8 rfl rfl rfl (⟨cci (am0 (by assumption)).symm,trivial⟩)
 ·
  have h0:=r0
  have h0:=of_decide_eq_true (b6 h0)
  try simp only [ty] at h0
  have hb:fp n l m = 0:=h0
  obtain ⟨hn0,hn1,_⟩:=a0n hb
  refine aa ?_;refine a7 ?_;refine sx7 ?_;(iterate 2 refine qy ?_);refine rq rfl rfl rfl rfl rfl ?_ (hp:=hn0);refine qy ?_;refine a6 ?_;refine a8 _ rfl (fun r1=>?_) (fun r1=>?_)
  ·
   have h1:=r1
   have h1:=of_decide_eq_false (b7 h1)
   try simp only [ty] at h1
   refine sx7 ?_;refine qy ?_;refine a6 ?_
   exact hx8 rfl rfl rfl (⟨cci (am6 hb (fun e=>(by assumption:¬ _ = _) ((xp x n.toNat).trans (congrArg asI e)))).symm,trivial⟩)
  ·
   have h1:=r1
   have h1:=of_decide_eq_true (b6 h1)
   try simp only [ty] at h1
   refine aa ?_;refine sx7 ?_;refine qy ?_;refine a6 ?_
   exact hx8 rfl rfl rfl (⟨cci (a83 hb (fz.1 ((xp x n.toNat).symm.trans (by assumption)))).symm,trivial⟩)
theorem ah9:ak Tryz.prog 43:=⟨Tryz.f43,Tryz.func43,by kernel_rfl,by kernel_rfl⟩
theorem alq (l m:List Fd) (hl:l.length ≤ 64) (hm:m.length ≤ 64):aj Tryz.prog 43 [pP (fdl l),pP (fdl m)] (ao [pP (fdl (ta l m))]):=by
 refine ai (nt:=37) ae Tryz.func43 rfl rfl l9 ?_;refine sx7 ?_;refine qy ?_;refine a6 ?_;refine sx7 ?_;refine qy ?_
 refine j6 rfl rfl rfl rfl rfl rfl asp ((aom m.length false (lf Fd.c m) (by omega)).swap 0 900) (im.refl _) trivial rfl rfl ?_;refine qy ?_;refine a6 ?_;refine a7 ?_;refine sx7 ?_
 (iterate 3 refine qy ?_);refine a6 ?_;refine af ?_
 refine aw (ι:=Nat) ⟨[(12,some _),(13,some _)],[]⟩ ⟨⟨c9,c9,trivial⟩,trivial⟩ (fun i=>⟨[(5,some (.v (.one (.ref 900 (iq l m i 0).length)))),(14,some (vI i))],[(900,some (.arr true 2 29 (iq l m i 0).length (lf Fd.c (iq l m i 0))))]⟩) (fun i=>i ≤ l.length) (fun i=>l.length - i) (0) (Nat.zero_le _) ⟨⟨⟨_,rfl,(cw (a7a l m))⟩,⟨_,rfl,(CoR.refl _)⟩,trivial⟩,⟨⟨_,rfl,(c8 (a7a l m))⟩,trivial⟩⟩ ?_
 rintro i hi
 have hmb:=a8v (l.getD i default).rhs
 refine sx7 ?_;refine qy ?_;refine a6 ?_;refine a7 ?_;refine a8 _ rfl (fun r0=>?_) (fun r0=>?_)
 ·
  have h0:=of_decide_eq_true r0
  try simp only [ty] at h0
  refine aa ?_;refine a7 ?_;refine af ?_;refine sx7 ?_;(iterate 2 refine qy ?_);refine m9 0 ?_;refine s9 ?_;refine a6 ?_;refine sx7 ?_;(iterate 2 refine qy ?_)
  refine rc rfl rfl rfl rfl rfl rfl aae (ajt (l.getD i default).rhs) (CoL.refl _) rfl rfl ?_;(iterate 2 refine qy ?_);refine a6 ?_;refine af ?_
  refine aw (ι:=Nat) ⟨[(7,some _),(12,some _),(13,some _),(14,some _),(20,some _),(21,some _)],[(0,some _)]⟩ ⟨⟨c9,c9,c9,c9,c9,c9,trivial⟩,⟨u9,trivial⟩⟩ (fun k=>⟨[(5,some (.v (.one (.ref 900 (iq l m i k).length)))),(22,some (vI k))],[(900,some (.arr true 2 29 (iq l m i k).length (lf Fd.c (iq l m i k))))]⟩) (fun k=>k ≤ (bj (l.getD i default).rhs).length) (fun k=>(bj (l.getD i default).rhs).length - k) (0) (Nat.zero_le _) ⟨⟨zy,⟨_,rfl,(CoR.refl _)⟩,trivial⟩,⟨u9,trivial⟩⟩ ?_
  rintro k hk
  have hal:=akp (fs:=l) (ms:=m) (i:=i) (k:=k)
  refine sx7 ?_;refine qy ?_;refine a6 ?_;refine a7 ?_;refine a8 _ rfl (fun r1=>?_) (fun r1=>?_)
  ·
   have h1:=of_decide_eq_true r1
   try simp only [ty] at h1
   refine aa ?_;refine a7 ?_;refine af ?_;refine sx7 ?_;(iterate 3 refine qy ?_);refine a6 ?_;refine dp (E:=ci) ae ct [0,1,2,3,4,5,6,7,8] ?_;(iterate 6 refine qy ?_)
   refine m9 1 ?_;refine ra 2 true rfl rfl rfl rfl rfl rfl ?_;refine qy ?_;refine a6 ?_;refine ⟨by kernel_rfl, ?_⟩;refine gy ?_;(iterate 2 refine qy ?_);refine a6 ?_;refine ⟨k + 1, ?_, ?_, ?_⟩
   · show k + 1 ≤ _;omega
   · first | omega | (dsimp only;omega)
   · exact ⟨⟨⟨_,rfl,(dw (ad3 (by omega)))⟩,zy,c9,c9,c9,c9,c9,c9,trivial⟩,⟨⟨_,rfl,(aju (ad3 (by omega)) (CoP.refl _) (CoP.of_eq (congrArg (fun z=>PV.raw (.int .u32 z)) (aj5 1 _))))⟩,u9,trivial⟩⟩
  ·
   have h1:=of_decide_eq_false r1
   try simp only [ty] at h1
   obtain rfl:k = (bj (l.getD i default).rhs).length:=by omega
   refine az ?_;refine gy ?_;(iterate 2 refine qy ?_);refine a6 ?_;refine ⟨i + 1, ?_, ?_, ?_⟩
   · show i + 1 ≤ _;omega
   · first | omega | (dsimp only;omega)
   · exact ⟨⟨⟨_,rfl,(cw (acw (by omega)))⟩,zy,c9,c9,trivial⟩,⟨⟨_,rfl,(c8 (acw (by omega)))⟩,trivial⟩⟩
 ·
  have h0:=of_decide_eq_false r0
  try simp only [ty] at h0
  obtain rfl:i = l.length:=by omega
  refine az ?_;refine sx7 ?_;(iterate 2 refine qy ?_);refine a6 ?_;refine ep 4 rfl rfl rfl ?_
  exact hx8 rfl rfl rfl (⟨CoC.one (CoP.of_eq (by rw [akq];rfl)),trivial⟩)
theorem aro:ak Tryz.prog 46:=⟨Tryz.f46,Tryz.func46,by kernel_rfl,by kernel_rfl⟩
theorem an3 (n:Int) (l m:List Fd) (x:AS):aj Tryz.prog 46 [pI n,pP (fdl l),pP (fdl m),pA x] (ao [pP (asl (ajz n l m x)),pI (ckB n l m x)]):=by
 refine ai (nt:=25) ae Tryz.func46 rfl rfl l9 ?_;refine sx7 ?_;(iterate 2 refine qy ?_);refine a6 ?_;refine a7 ?_;refine sx7 ?_;(iterate 4 refine qy ?_)
 refine rc rfl rfl rfl rfl rfl rfl ag5 (acg n l m x) (CoL.refl _) rfl rfl ?_;refine qy ?_;refine a6 ?_;refine sx7 ?_;(iterate 2 refine qy ?_);refine a6 ?_;refine a8 _ rfl (fun r0=>?_) (fun r0=>?_)
 ·
  have h0:=r0
  have h0:=of_decide_eq_false (b7 h0)
  try simp only [ty] at h0
  refine sx7 ?_;(iterate 3 refine qy ?_);refine a6 ?_
  exact hx8 rfl rfl rfl (⟨CoC.one (aea (if_neg (by assumption))),CoC.refl _,trivial⟩)
 ·
  have h0:=r0
  have h0:=of_decide_eq_true (b6 h0)
  try simp only [ty] at h0
  have hz:ckB n l m x = 0:=h0
  have hb:=zn hz
  obtain ⟨hn0,hn1,hl64,_,hm64,_⟩:=a0n hb.1
  refine aa ?_;refine sx7 ?_;(iterate 3 refine qy ?_);refine rc rfl rfl rfl rfl rfl rfl ah9 (alq l m hl64 hm64) (CoL.refl _) rfl rfl ?_;refine qy ?_
  refine rc rfl rfl rfl rfl rfl rfl ai0 (act n (ta l m) x hn0 hn1) (CoL.refl _) rfl rfl ?_;(iterate 2 refine qy ?_);refine a6 ?_
  exact hx8 rfl rfl rfl (⟨CoC.one (CoP.of_eq (by rw [show ajz n l m x = dj n l m x from if_pos hz];rfl)),cci hz.symm,trivial⟩)
theorem aqj:ak Tryz.prog 45:=⟨Tryz.f45,Tryz.func45,by kernel_rfl,by kernel_rfl⟩
theorem apv (f:Fd) (b:AS):aj Tryz.prog 45 [f.pc,pP (bx (asC b))] (ao [pB (ye b f)]):=by
 refine ai (nt:=12) ae Tryz.func45 rfl rfl l9 ?_;refine sx7 ?_;refine m9 0 ?_;refine qy ?_;refine a6 ?_;refine sx7 ?_;(iterate 9 refine qy ?_);refine a6 ?_
 exact hx8 rfl rfl rfl (⟨ccb (by unfold ye;rw [jx,aav]),trivial⟩)
theorem as1:ak Tryz.prog 22:=⟨Tryz.f22,Tryz.func22,by kernel_rfl,by kernel_rfl⟩
theorem ao1 (n:Int) (l m:List Fd) (x:AS):aj Tryz.prog 22 [pI n,pP (fdl l),pP (fdl m),pA x] (ao [pA (aej n l m x),pI (ckB n l m x)]):=by
 refine ai (nt:=45) ae Tryz.func22 rfl rfl l9 ?_;refine sx7 ?_;(iterate 2 refine qy ?_);refine a6 ?_;refine a7 ?_;refine sx7 ?_;(iterate 4 refine qy ?_)
 refine rc rfl rfl rfl rfl rfl rfl ag5 (acg n l m x) (CoL.refl _) rfl rfl ?_;refine qy ?_;refine a6 ?_;refine sx7 ?_;(iterate 2 refine qy ?_);refine a6 ?_;refine a8 _ rfl (fun r0=>?_) (fun r0=>?_)
 ·
  have h0:=r0
  have h0:=of_decide_eq_false (b7 h0)
  try simp only [ty] at h0
  refine sx7 ?_;(iterate 3 refine qy ?_);refine a6 ?_
  exact hx8 rfl rfl rfl (⟨cci (congrArg asI (show (0:AS) = aej n l m x from (if_neg (by assumption)).symm)),CoC.refl _,trivial⟩)
 ·
  have h0:=r0
  have h0:=of_decide_eq_true (b6 h0)
  try simp only [ty] at h0
  have hz:ckB n l m x = 0:=h0
  have hb:=zn hz
  obtain ⟨hn0,hn1,hl64,_,hm64,_⟩:=a0n hb.1
  refine aa ?_;refine sx7 ?_;(iterate 2 refine qy ?_);refine a6 ?_;refine a7 ?_;refine sx7 ?_;(iterate 3 refine qy ?_);refine rc rfl rfl rfl rfl rfl rfl ah9 (alq l m hl64 hm64) (CoL.refl _) rfl rfl ?_
  refine qy ?_;refine rc rfl rfl rfl rfl rfl rfl ai0 (act n (ta l m) x hn0 hn1) (CoL.refl _) rfl rfl ?_;(iterate 2 refine qy ?_);refine a6 ?_;refine af ?_
  have hbl:=a23 n l m x
  refine aw (ι:=Nat) ⟨[(1,some _),(28,some _),(29,some _)],[]⟩ ⟨⟨c9,c9,c9,trivial⟩,trivial⟩ (fun i=>⟨[(11,some (vA (sq l x ((dj n l m x).take i)))),(30,some (vI i))],[]⟩) (fun i=>i ≤ (dj n l m x).length) (fun i=>(dj n l m x).length - i) (0) (Nat.zero_le _) ⟨⟨⟨_,rfl,(CoR.refl _)⟩,⟨_,rfl,(CoR.refl _)⟩,trivial⟩,trivial⟩ ?_
  rintro i hi
  refine sx7 ?_;refine qy ?_;refine a6 ?_;refine a7 ?_;refine a8 _ rfl (fun r1=>?_) (fun r1=>?_)
  ·
   have h1:=of_decide_eq_true r1
   try simp only [ty] at h1
   have hil:i < (dj n l m x).length:=Int.ofNat_lt.1 h1
   refine aa ?_;refine a7 ?_;refine af ?_;refine sx7 ?_;(iterate 2 refine qy ?_);refine m9 0 ?_;refine s9 ?_;refine a6 ?_;refine a7 ?_;refine sx7 ?_;refine qy ?_
   refine rc rfl rfl rfl rfl rfl rfl a4z (a85 ((dj n l m x).getD i default)) (CoL.refl _) rfl rfl ?_;refine qy ?_;refine a6 ?_;refine a8 _ rfl (fun r2=>?_) (fun r2=>?_)
   ·
    have h2:=r2
    have h2:=of_decide_eq_false (b7 h2)
    try simp only [ty] at h2
    have hq:¬ bsz ((dj n l m x).getD i default) = 1:=fun e=>h2 (by rw [e];rfl)
    refine az ?_;refine gy ?_;(iterate 2 refine qy ?_);refine a6 ?_;refine ⟨i + 1, ?_, ?_, ?_⟩
    · show i + 1 ≤ _;omega
    · first | omega | (dsimp only;omega)
    · exact ⟨⟨⟨_,rfl,(by first | exact j9 (congrArg asI (aan hil hq)) | exact j9 (congrArg asI (aa8 hil hq ha)) | exact j9 ((bOr _ _).trans (congrArg asI (aak hil hq ha))))⟩,zy,c9,c9,c9,trivial⟩,trivial⟩
   ·
    have h2:=r2
    have h2:=of_decide_eq_true (b6 h2)
    try simp only [ty] at h2
    have hq:bsz ((dj n l m x).getD i default) = 1:=Int.ofNat_inj.1 h2
    refine aa ?_;refine a7 ?_;refine ez 13 rfl rfl rfl ?_;refine gy ?_;(iterate 2 refine qy ?_)
    refine rc rfl rfl rfl rfl rfl rfl aqp (ate l 45 1 (fun j=>[bx (asC ((dj n l m x).getD i default))].getD j .any) (ye ((dj n l m x).getD i default)) aqj (fun f=>apv f ((dj n l m x).getD i default))) (CoL.refl _) rfl rfl ?_
    refine a6 ?_;refine a8 _ rfl (fun r3=>?_) (fun r3=>?_)
    ·
     have h3:=r3
     have ha:l.any (ye ((dj n l m x).getD i default)) = true:=r3
     refine gy ?_;(iterate 4 refine qy ?_);refine a6 ?_;refine gy ?_;(iterate 2 refine qy ?_);refine a6 ?_;refine ⟨i + 1, ?_, ?_, ?_⟩
     · show i + 1 ≤ _;omega
     · first | omega | (dsimp only;omega)
     · exact ⟨⟨⟨_,rfl,(by first | exact j9 (congrArg asI (aan hil hq)) | exact j9 (congrArg asI (aa8 hil hq ha)) | exact j9 ((bOr _ _).trans (congrArg asI (aak hil hq ha))))⟩,zy,c9,c9,c9,trivial⟩,trivial⟩
    ·
     have h3:=r3
     have ha:l.any (ye ((dj n l m x).getD i default)) = false:=r3
     refine aa ?_;refine gy ?_;(iterate 2 refine qy ?_);refine a6 ?_;refine ⟨i + 1, ?_, ?_, ?_⟩
     · show i + 1 ≤ _;omega
     · first | omega | (dsimp only;omega)
     · exact ⟨⟨⟨_,rfl,(by first | exact j9 (congrArg asI (aan hil hq)) | exact j9 (congrArg asI (aa8 hil hq ha)) | exact j9 ((bOr _ _).trans (congrArg asI (aak hil hq ha))))⟩,zy,c9,c9,c9,trivial⟩,trivial⟩
  ·
   have h1:=of_decide_eq_false r1
   try simp only [ty] at h1
   obtain rfl:i = (dj n l m x).length:=Nat.le_antisymm hi (Nat.le_of_not_lt fun q=>h1 (Int.ofNat_lt.2 q))
   rw [show (dj n l m x).take (dj n l m x).length = (dj n l m x) from List.take_length]
   refine az ?_;refine sx7 ?_;(iterate 3 refine qy ?_);refine a6 ?_
   exact hx8 rfl rfl rfl (⟨cci (congrArg asI (show uv n l m x = aej n l m x from (if_pos hz).symm)),cci hz.symm,trivial⟩)
theorem aa7:ak Tryz.prog 20:=⟨Tryz.f20,Tryz.func20,by kernel_rfl,by kernel_rfl⟩
theorem a5l (n:Int) (l m:List Fd) (s:AS):aj Tryz.prog 20 [pI n,pP (fdl l),pP (fdl m),pA s] (ao [pI (ck4 n l m s)]):=by
 refine ai (nt:=27) ae Tryz.func20 rfl rfl l9 ?_;refine sx7 ?_;refine qy ?_;refine a6 ?_;refine a7 ?_;refine sx7 ?_;(iterate 3 refine qy ?_);refine bd rfl rfl (fun r0=>?_) (fun r0=>?_)
 ·
  have h0:=of_decide_eq_true r0
  try simp only [ty] at h0
  (iterate 2 refine k9 (gtf r0) ?_);refine rq rfl rfl rfl rfl rfl ?_ (hp:=r0);refine a6 ?_;refine a8 _ rfl (fun _=>?_) (fun e=>by cases e);refine sx7 ?_;refine qy ?_;refine a6 ?_
  exact hx8 rfl rfl rfl (⟨cci (amc (by omega)).symm,trivial⟩)
 ·
  have h0:=of_decide_eq_false r0
  try simp only [ty] at h0
  (iterate 2 refine qy ?_ (hg:=(gff r0)));refine qy ?_;refine a6 ?_;refine a8 _ rfl (fun r1=>?_) (fun r1=>?_)
  ·
   have h1:=r1
   have h1:=d7 r0 h1
   have h1:=of_decide_eq_true h1
   try simp only [ty] at h1
   refine sx7 ?_;refine qy ?_;refine a6 ?_
   exact hx8 rfl rfl rfl (⟨cci (amc (by omega)).symm,trivial⟩)
  ·
   have h1:=r1
   have h1:=d7 r0 h1
   have h1:=of_decide_eq_false h1
   try simp only [ty] at h1
   refine aa ?_;refine a7 ?_;refine sx7 ?_;(iterate 3 refine qy ?_);refine rc rfl rfl rfl rfl rfl rfl ahm (acl n l m) (CoL.refl _) rfl rfl ?_;refine qy ?_;refine a6 ?_;refine sx7 ?_
   (iterate 2 refine qy ?_);refine a6 ?_;refine a8 _ rfl (fun r2=>?_) (fun r2=>?_)
   ·
    have h2:=r2
    have h2:=of_decide_eq_false (b7 h2)
    try simp only [ty] at h2
    have hc:¬ (n < 0 ∨ 8 < n):=by omega
    refine sx7 ?_;(iterate 2 refine qy ?_);refine a6 ?_
    exact hx8 rfl rfl rfl (⟨cci ((a3w hc).trans (am0 (by assumption))).symm,trivial⟩)
   ·
    have h2:=r2
    have h2:=of_decide_eq_true (b6 h2)
    try simp only [ty] at h2
    have hb:fp n l m = 0:=h2
    obtain ⟨hn0,hn1,_⟩:=a0n hb
    have hc:¬ (n < 0 ∨ 8 < n):=by omega
    refine aa ?_;refine a7 ?_;refine sx7 ?_;(iterate 2 refine qy ?_);refine rq rfl rfl rfl rfl rfl ?_ (hp:=hn0);refine qy ?_;refine a6 ?_;refine a8 _ rfl (fun r3=>?_) (fun r3=>?_)
    ·
     have h3:=r3
     have h3:=of_decide_eq_false (b7 h3)
     try simp only [ty] at h3
     refine sx7 ?_;refine qy ?_;refine a6 ?_
     exact hx8 rfl rfl rfl (⟨cci ((a3w hc).trans (am6 hb (fun e=>(by assumption:¬ _ = _) ((xp s n.toNat).trans (congrArg asI e))))).symm,trivial⟩)
    ·
     have h3:=r3
     have h3:=of_decide_eq_true (b6 h3)
     try simp only [ty] at h3
     refine aa ?_;refine sx7 ?_;refine qy ?_;refine a6 ?_
     exact hx8 rfl rfl rfl (⟨cci ((a3w hc).trans (a83 hb (fz.1 ((xp s n.toNat).symm.trans (by assumption))))).symm,trivial⟩)
end Go.Hx
end
section
namespace Go.Hx
open Go.Proofs
set_option maxRecDepth 100000
set_option maxHeartbeats 1000000
theorem ak4 {n:Int} (h:n ≤ 16):am n >>> n.toNat = 0:=by
 unfold am
 rw [show min n.toNat 32 = n.toNat by omega]
 exact (wt (by omega)).1 (l8 _)
theorem ajo {n:Int} {l m:List Fd} {x:AS} (h:ckB n l m x = 0):aj Tryz.prog 46 [pI n,pP (fdl l),pP (fdl m),pA x] (ao [pP (asl (dj n l m x)),pI 0]):=by
 have:=an3 n l m x
 rw [h,show ajz n l m x = dj n l m x from if_pos h] at this
 exact this
theorem ak6 {n:Int} {l m:List Fd} {x:AS} (h:ckB n l m x = 0):aj Tryz.prog 22 [pI n,pP (fdl l),pP (fdl m),pA x] (ao [pA (uv n l m x),pI 0]):=by
 have:=ao1 n l m x
 rw [h,show aej n l m x = uv n l m x from if_pos h] at this
 exact this
theorem afr {n:Int} {l m:List Fd} {p x:AS} (h:p &&& ~~~(uv n l m x) = 0):zk n l m p x = none:=if_pos h
theorem ahf {n:Int} {l m:List Fd} {p x:AS} (h:¬ p &&& ~~~(uv n l m x) = 0) (h2:¬ 1 < (ij n l m x p).length):zk n l m p x = none:=by unfold zk;rw [if_neg h,if_neg h2]
theorem arc {n:Int} {l m:List Fd} {p x:AS} (h:¬ p &&& ~~~(uv n l m x) = 0) (h2:1 < (ij n l m x p).length):zk n l m p x = some ⟨x,(ij n l m x p).getD 0 default⟩:=by unfold zk;rw [if_neg h,if_pos h2]
def is4 (n:Int) (l m:List Fd):Bool:=if ck4 n l m 0 = 0 then !(xj n l m (am n)).2 else false
theorem aq7:ak Tryz.prog 23:=⟨Tryz.f23,Tryz.func23,by kernel_rfl,by kernel_rfl⟩
theorem aus (n:Int) (l m:List Fd) (x p:AS):aj Tryz.prog 23 [pI n,pP (fdl l),pP (fdl m),pA x,pA p] (ao [pP (asl (al0 n l m x p)),pI (ck4 n l m (x ||| p))]):=by
 refine ai (nt:=58) ae Tryz.func23 rfl rfl l9 ?_;refine sx7 ?_;(iterate 2 refine qy ?_);refine a6 ?_;refine a7 ?_;refine sx7 ?_;(iterate 6 refine qy ?_)
 refine rc rfl rfl rfl rfl rfl rfl aa7 (a5l n l m (x ||| p)) (⟨CoC.refl _,CoC.refl _,CoC.refl _,cci (bOr _ _),trivial⟩) rfl rfl ?_;refine qy ?_;refine a6 ?_;refine sx7 ?_;(iterate 2 refine qy ?_)
 refine a6 ?_;refine a8 _ rfl (fun r0=>?_) (fun r0=>?_)
 ·
  have h0:=r0
  have h0:=of_decide_eq_false (b7 h0)
  try simp only [ty] at h0
  refine sx7 ?_;(iterate 3 refine qy ?_);refine a6 ?_
  exact hx8 rfl rfl rfl (⟨CoC.one (aea (if_neg (by assumption))),CoC.refl _,trivial⟩)
 ·
  have h0:=r0
  have h0:=of_decide_eq_true (b6 h0)
  try simp only [ty] at h0
  have hz:ck4 n l m (x ||| p) = 0:=h0
  have hx:=a5f (a3v hz).2.2 (xu (a:=x) (b:=p))
  refine aa ?_;refine sx7 ?_;(iterate 4 refine qy ?_);refine rc rfl rfl rfl rfl rfl rfl aro (ajo hx) (CoL.refl _) rfl rfl ?_;(iterate 5 refine qy ?_);refine a6 ?_;refine a7 ?_;refine sx7 ?_
  (iterate 2 refine qy ?_);refine a6 ?_;refine a8 _ rfl (fun e=>by cases e) (fun _=>?_);refine aa ?_;refine sx7 ?_;refine qy ?_;refine a6 ?_;refine a7 ?_;refine sx7 ?_;(iterate 3 refine qy ?_)
  refine a6 ?_;refine af ?_;refine jy 15 900 true 1 27 (lf sC []) (by decide) rfl (CoP.sl rfl (.inr rfl) (fun h=>h) (fun i j hi _=>absurd hi (Nat.not_lt_zero i))) (.inr rfl) rfl ?_
  have hbl:=a23 n l m x
  refine aw (ι:=Nat) ⟨[(4,some _),(39,some _),(40,some _)],[]⟩ ⟨⟨c9,c9,c9,trivial⟩,trivial⟩ (fun i=>⟨[(15,some (.v (.one (.ref 900 (ll p ((dj n l m x).take i)).length)))),(41,some (vI i))],[(900,some (.arr true 1 27 (ll p ((dj n l m x).take i)).length (lf sC (ll p ((dj n l m x).take i)))))]⟩) (fun i=>i ≤ (dj n l m x).length) (fun i=>(dj n l m x).length - i) (0) (Nat.zero_le _) ⟨⟨⟨_,rfl,(CoR.refl _)⟩,⟨_,rfl,(CoR.refl _)⟩,trivial⟩,⟨u9,trivial⟩⟩ ?_
  rintro i hi
  have hcl:(ll p ((dj n l m x).take i)).length ≤ i:=Nat.le_trans (a9n _ _) (by rw [List.length_take];omega)
  refine sx7 ?_;refine qy ?_;refine a6 ?_;refine a7 ?_;refine a8 _ rfl (fun r1=>?_) (fun r1=>?_)
  ·
   have h1:=of_decide_eq_true r1
   try simp only [ty] at h1
   refine aa ?_;refine a7 ?_;refine af ?_;refine sx7 ?_;(iterate 3 refine qy ?_);refine a6 ?_;refine sx7 ?_;(iterate 4 refine qy ?_);refine a6 ?_;refine a8 _ rfl (fun r2=>?_) (fun r2=>?_)
   ·
    have h2:=r2
    have h2:=of_decide_eq_false (b7 h2)
    try simp only [ty] at h2
    have hq:¬ (dj n l m x).getD i default &&& p = 0:=wa h2
    refine gy ?_;(iterate 4 refine qy ?_);refine m9 0 ?_;refine ra 1 true rfl rfl rfl rfl rfl rfl ?_;refine qy ?_;refine a6 ?_;refine gy ?_;(iterate 2 refine qy ?_);refine a6 ?_
    first | (refine ⟨i + 1, ?_, ?_, ?_⟩
             · show i + 1 ≤ _;omega
             · first | omega | (dsimp only;omega)
             · exact ⟨⟨⟨_,rfl,(dw (a4b (by omega) hq))⟩,⟨_,rfl,(CoR.refl _)⟩,c9,c9,c9,trivial⟩,⟨⟨_,rfl,(ec (a4b (by omega) hq) (CoP.of_eq (congrArg (fun z=>PV.raw (.int .u32 z)) (kn _ _))))⟩,trivial⟩⟩)
          | (refine ⟨i + 1, ?_, ?_, ?_⟩
             · show i + 1 ≤ _;omega
             · first | omega | (dsimp only;omega)
             · exact ⟨⟨⟨_,rfl,(cw (a4p (by omega) hq))⟩,⟨_,rfl,(CoR.refl _)⟩,c9,c9,c9,trivial⟩,⟨⟨_,rfl,(c8 (a4p (by omega) hq))⟩,trivial⟩⟩)
   ·
    have h2:=r2
    have h2:=of_decide_eq_true (b6 h2)
    try simp only [ty] at h2
    have hq:(dj n l m x).getD i default &&& p = 0:=a0q h2
    refine aa ?_;refine gy ?_;(iterate 2 refine qy ?_);refine a6 ?_
    first | (refine ⟨i + 1, ?_, ?_, ?_⟩
             · show i + 1 ≤ _;omega
             · first | omega | (dsimp only;omega)
             · exact ⟨⟨⟨_,rfl,(dw (a4b (by omega) hq))⟩,⟨_,rfl,(CoR.refl _)⟩,c9,c9,c9,trivial⟩,⟨⟨_,rfl,(ec (a4b (by omega) hq) (CoP.of_eq (congrArg (fun z=>PV.raw (.int .u32 z)) (kn _ _))))⟩,trivial⟩⟩)
          | (refine ⟨i + 1, ?_, ?_, ?_⟩
             · show i + 1 ≤ _;omega
             · first | omega | (dsimp only;omega)
             · exact ⟨⟨⟨_,rfl,(cw (a4p (by omega) hq))⟩,⟨_,rfl,(CoR.refl _)⟩,c9,c9,c9,trivial⟩,⟨⟨_,rfl,(c8 (a4p (by omega) hq))⟩,trivial⟩⟩)
  ·
   have h1:=of_decide_eq_false r1
   try simp only [ty] at h1
   obtain rfl:i = (dj n l m x).length:=by omega
   rw [show (dj n l m x).take (dj n l m x).length = (dj n l m x) from List.take_length]
   refine az ?_;refine a7 ?_;refine ep 15 rfl rfl rfl ?_;refine gy ?_;refine qy ?_;refine rc rfl rfl rfl rfl rfl rfl a48 (a4j (ll p (dj n l m x)) (ac7 n l m x p)) (CoL.refl _) rfl rfl ?_
   (iterate 2 refine qy ?_);refine a6 ?_
   exact hx8 rfl rfl rfl (⟨CoC.one (CoP.of_eq (by rw [show al0 n l m x p = ij n l m x p from if_pos hz];rfl)),cci hz.symm,trivial⟩)
theorem arl {n:Int} {l m:List Fd} {x p:AS} (h:ck4 n l m (x ||| p) = 0):aj Tryz.prog 23 [pI n,pP (fdl l),pP (fdl m),pA x,pA p] (ao [pP (asl (ij n l m x p)),pI 0]):=by
 have:=aus n l m x p
 rw [h,show al0 n l m x p = ij n l m x p from if_pos h] at this
 exact this
theorem adq:ak Tryz.prog 8:=⟨Tryz.f8,Tryz.func8,by kernel_rfl,by kernel_rfl⟩
theorem ae5 (n:Int) (l m:List Fd) (p:AS):aj Tryz.prog 8 [pI n,pP (fdl l),pP (fdl m),pA p] (ao [(xj n l m p).1.pc,pB (xj n l m p).2,pI (ck4 n l m p)]):=by
 refine ai (nt:=72) ae Tryz.func8 rfl rfl l9 ?_;refine sx7 ?_;refine m9 0 ?_;(iterate 2 refine qy ?_);refine a6 ?_;refine a7 ?_;refine sx7 ?_;(iterate 4 refine qy ?_)
 refine rc rfl rfl rfl rfl rfl rfl aa7 (a5l n l m p) (CoL.refl _) rfl rfl ?_;refine qy ?_;refine a6 ?_;refine sx7 ?_;(iterate 2 refine qy ?_);refine a6 ?_;refine a8 _ rfl (fun r0=>?_) (fun r0=>?_)
 ·
  have h0:=r0
  have h0:=of_decide_eq_false (b7 h0)
  try simp only [ty] at h0
  refine sx7 ?_;(iterate 2 refine qy ?_);refine s9 ?_;(iterate 2 refine qy ?_);refine a6 ?_
  exact hx8 rfl rfl rfl (by rw [ap3 (by assumption)];exact ⟨CoC.agg ⟨CoP.of_eq rfl,CoP.of_eq rfl,trivial⟩,CoC.refl _,CoC.refl _,trivial⟩)
 ·
  have h0:=r0
  have h0:=of_decide_eq_true (b6 h0)
  try simp only [ty] at h0
  have hz:ck4 n l m p = 0:=h0
  have hsl:=agt p
  refine aa ?_;refine a7 ?_;refine sx7 ?_;refine qy ?_;refine rc rfl rfl rfl rfl rfl rfl are (auf p) (CoL.refl _) rfl rfl ?_;(iterate 2 refine qy ?_);refine a6 ?_;refine af ?_
  refine aw (ι:=Nat) ⟨[(0,some _),(1,some _),(2,some _),(3,some _),(8,some _),(27,some _),(28,some _)],[(0,some _)]⟩ ⟨⟨c9,c9,c9,c9,c9,c9,c9,trivial⟩,⟨u9,trivial⟩⟩ (fun i=>⟨[(29,some (vI i))],[]⟩) (fun i=>i ≤ (dn p).length ∧ ((dn p).take i).findSome? (zk n l m p) = none) (fun i=>(dn p).length - i) (0) (⟨Nat.zero_le _,rfl⟩) ⟨⟨⟨_,rfl,(CoR.refl _)⟩,trivial⟩,trivial⟩ ?_
  rintro i ⟨hi,hI⟩
  refine sx7 ?_;refine qy ?_;refine a6 ?_;refine a7 ?_;refine a8 _ rfl (fun r1=>?_) (fun r1=>?_)
  ·
   have h1:=of_decide_eq_true r1
   try simp only [ty] at h1
   have hil:i < (dn p).length:=by omega
   have hxs:sub ((dn p).getD i default) p:=a78 (tj hil)
   have hX:ckB n l m ((dn p).getD i default) = 0:=a5f (a3v hz).2.2 hxs
   have hXp:ck4 n l m (((dn p).getD i default) ||| p) = 0:=a68 hz (vv hxs (l8 p))
   refine aa ?_;refine a7 ?_;refine af ?_;refine sx7 ?_;(iterate 3 refine qy ?_);refine a6 ?_;refine sx7 ?_;(iterate 4 refine qy ?_)
   refine rc rfl rfl rfl rfl rfl rfl as1 (ak6 hX) (CoL.refl _) rfl rfl ?_;(iterate 5 refine qy ?_);refine a6 ?_;refine a7 ?_;refine sx7 ?_;(iterate 2 refine qy ?_);refine a6 ?_
   refine a8 _ rfl (fun e=>by cases e) (fun _=>?_);refine aa ?_;refine a7 ?_;refine sx7 ?_;(iterate 4 refine qy ?_);refine a6 ?_;refine a8 _ rfl (fun r2=>?_) (fun r2=>?_)
   ·
    have h2:=of_decide_eq_true r2
    try simp only [ty] at h2
    have hq:p &&& ~~~(uv n l m ((dn p).getD i default)) = 0:=als h2
    refine az ?_;refine gy ?_;(iterate 2 refine qy ?_);refine a6 ?_;refine ⟨i + 1, ?_, ?_, ?_⟩
    · exact ⟨by omega,(a08 hil hI).trans (by first | exact afr hq | exact ahf hq hc)⟩
    · first | omega | (dsimp only;omega)
    · exact ⟨⟨⟨_,rfl,(CoR.refl _)⟩,c9,c9,c9,c9,c9,c9,c9,trivial⟩,⟨u9,trivial⟩⟩
   ·
    have h2:=of_decide_eq_false r2
    try simp only [ty] at h2
    have hq:¬ p &&& ~~~(uv n l m ((dn p).getD i default)) = 0:=ahg h2
    refine aa ?_;refine sx7 ?_;(iterate 5 refine qy ?_);refine rc rfl rfl rfl rfl rfl rfl aq7 (arl hXp) (CoL.refl _) rfl rfl ?_;(iterate 5 refine qy ?_);refine a6 ?_;refine a7 ?_;refine sx7 ?_
    (iterate 2 refine qy ?_);refine a6 ?_;refine a8 _ rfl (fun e=>by cases e) (fun _=>?_);refine aa ?_;refine sx7 ?_;(iterate 3 refine qy ?_);refine a6 ?_
    refine a8 _ rfl (fun r3=>?_) (fun r3=>?_)
    ·
     have h3:=of_decide_eq_true r3
     try simp only [ty] at h3
     have hc:1 < (ij n l m ((dn p).getD i default) p).length:=by omega
     have hcl:(ij n l m ((dn p).getD i default) p).length ≤ 8589934592:=Nat.le_trans (a12 _) (ac7 n l m ((dn p).getD i default) p)
     refine sx7 ?_;(iterate 5 refine qy ?_);refine s9 ?_;(iterate 2 refine qy ?_);refine a6 ?_;refine df ?_;refine ⟨.inr rfl, ?_⟩
     have he:xj n l m p = (⟨((dn p).getD i default),(ij n l m ((dn p).getD i default) p).getD 0 default⟩,true):=by
      rw [aaw hz,show jm n l m p = some _ from ah1 hil hI (arc hq hc)]
      rfl
     exact f9 rfl rfl (by rw [he];exact ⟨CoC.agg ⟨CoP.refl _,CoP.refl _,trivial⟩,CoC.refl _,cci hz.symm,trivial⟩)
    ·
     have h3:=of_decide_eq_false r3
     try simp only [ty] at h3
     have hc:¬ 1 < (ij n l m ((dn p).getD i default) p).length:=by omega
     refine aa ?_;refine gy ?_;(iterate 2 refine qy ?_);refine a6 ?_;refine ⟨i + 1, ?_, ?_, ?_⟩
     · exact ⟨by omega,(a08 hil hI).trans (by first | exact afr hq | exact ahf hq hc)⟩
     · first | omega | (dsimp only;omega)
     · exact ⟨⟨⟨_,rfl,(CoR.refl _)⟩,c9,c9,c9,c9,c9,c9,c9,trivial⟩,⟨u9,trivial⟩⟩
  ·
   have h1:=of_decide_eq_false r1
   try simp only [ty] at h1
   obtain rfl:i = (dn p).length:=by omega
   rw [show (dn p).take (dn p).length = (dn p) from List.take_length] at hI
   refine az ?_;refine sx7 ?_;refine qy ?_;refine s9 ?_;(iterate 2 refine qy ?_);refine a6 ?_;refine df ?_;refine ⟨.inr rfl, ?_⟩
   have he:xj n l m p = (⟨0,0⟩,false):=by
    rw [aaw hz,show jm n l m p = none from hI]
    rfl
   exact f9 rfl rfl (by rw [he];exact ⟨CoC.agg ⟨CoP.of_eq rfl,CoP.of_eq rfl,trivial⟩,CoC.refl _,cci hz.symm,trivial⟩)
theorem aor {n:Int} {l m:List Fd} {p:AS} (h:ck4 n l m p = 0):aj Tryz.prog 8 [pI n,pP (fdl l),pP (fdl m),pA p] (ao [(vF (jm n l m) p).pc,pB (vBo (jm n l m) p),pI 0]):=by
 have:=ae5 n l m p
 rw [h,aaw h] at this
 exact this
theorem agp {V:AS → Option Fd} {t:List AS} {i j:Nat} (h:i = j):PV.raw (.int .u32 (d8 .andNot .u32 (asI (t.getD i default)) (asI (vF V (t.getD j default)).rhs))) = sC (sv V (t.getD j default)) 0:=by
 subst h
 exact congrArg (fun z=>PV.raw (.int .u32 z)) (jx _ _)
theorem adg {n:Int} {l m:List Fd} {t:List AS} {s:AS} (ht:∀ q ∈ t,ck4 n l m q = 0) (hv:vBo (jm n l m) s = true) (hs:ck4 n l m s = 0):∀ q ∈ t ++ [ut (jm n l m) s,sv (jm n l m) s],ck4 n l m q = 0:=by
 intro q hq
 rcases List.mem_append.1 hq with hq | hq
 · exact ht q hq
 · obtain ⟨h1,h2,h3⟩:=a20 n l m s _ (aax hv)
   simp only [List.mem_cons,List.not_mem_nil,or_false] at hq
   rcases hq with rfl | rfl
   · exact a68 hs h1
   · exact a68 hs a6y
theorem alx:ak Tryz.prog 9:=⟨Tryz.f9,Tryz.func9,by kernel_rfl,by kernel_rfl⟩
theorem aly (n:Int) (l m:List Fd):aj Tryz.prog 9 [pI n,pP (fdl l),pP (fdl m)] (ao [pP (asl (a8t n l m)),pI (ck4 n l m 0)]):=by
 refine ai (nt:=71) ae Tryz.func9 rfl rfl l9 ?_;refine sx7 ?_;(iterate 2 refine qy ?_);refine a6 ?_;refine a7 ?_;refine sx7 ?_;(iterate 3 refine qy ?_)
 refine rc rfl rfl rfl rfl rfl rfl aa7 (a5l n l m 0) (CoL.refl _) rfl rfl ?_;refine qy ?_;refine a6 ?_;refine sx7 ?_;(iterate 2 refine qy ?_);refine a6 ?_;refine a8 _ rfl (fun r0=>?_) (fun r0=>?_)
 ·
  have h0:=r0
  have h0:=of_decide_eq_false (b7 h0)
  try simp only [ty] at h0
  refine sx7 ?_;(iterate 3 refine qy ?_);refine a6 ?_
  exact hx8 rfl rfl rfl (⟨CoC.one (aea (arp (by assumption))),CoC.refl _,trivial⟩)
 ·
  have h0:=r0
  have h0:=of_decide_eq_true (b6 h0)
  try simp only [ty] at h0
  have hz:ck4 n l m 0 = 0:=h0
  obtain ⟨hn0,hn8,hb⟩:=a3v hz
  have hn1:n ≤ 16:=by omega
  have hf:ck4 n l m (am n) = 0:=by rw [a3w (by omega)];exact a83 (zn hb).1 (ak4 hn1)
  refine aa ?_;refine sx7 ?_;(iterate 2 refine qy ?_);refine rq rfl rfl rfl rfl rfl ?_ (hp:=⟨xa hn0 hn1,tk hn0 hn1⟩);refine m9 0 ?_;refine qy ?_;refine a6 ?_;refine sx7 ?_;refine qy ?_
  refine a6 ?_;refine a7 ?_;refine af ?_;refine jy 10 900 true 1 27 (lf sC []) (by decide) rfl (CoP.sl rfl (.inr rfl) (fun h=>h) (fun i j hi _=>absurd hi (Nat.not_lt_zero i))) (.inr rfl) rfl ?_
  refine yz 9 901 rfl rfl rfl rfl ?_
  refine aw (ι := Nat × List AS × List AS) ⟨[(0, some _), (1, some _), (2, some _)], []⟩ ⟨⟨c9, c9, c9, trivial⟩, trivial⟩ (fun x => ⟨[(10, some (.v (.one (.ref 900 x.2.2.length)))), (9, some (.v (.one (.ref 901 x.2.1.length))))], [(900, some (.arr true 1 27 x.2.2.length (lf sC x.2.2))), (901, some (.arr true 1 27 x.2.1.length (lf sC x.2.1)))]⟩) (fun x => yy (jm n l m) (am n) x ∧ ∀ q ∈ x.2.1, ck4 n l m q = 0) (fun x => x.1) ((6562, [am n], [])) (⟨aik hn8, fun q hq => by
        simp only [List.mem_singleton] at hq
        rw [hq];exact hf⟩) ⟨⟨zy,zy,trivial⟩,⟨u9,⟨_,rfl,(jz (CoP.of_eq (congrArg (fun z=>PV.raw (.int .u32 z)) (w4 hn0 hn1))))⟩,trivial⟩⟩ ?_
  rintro x ⟨hx,hk⟩
  have hlen:=xr hx
  refine yz 9 902 rfl rfl rfl rfl ?_;refine a7 ?_;refine sx7 ?_;(iterate 3 refine qy ?_);refine a6 ?_;refine a8 _ rfl (fun r1=>?_) (fun r1=>?_)
  ·
   have h1:=of_decide_eq_true r1
   try simp only [ty] at h1
   have hs:ck4 n l m (x.2.1.getD (x.2.1.length - 1) default) = 0:=hk _ (tj (by omega))
   refine aa ?_;refine af ?_;refine sx7 ?_;(iterate 7 refine qy ?_);refine a6 ?_;refine sx7 ?_;(iterate 6 refine qy ?_);refine a6 ?_
   refine ak8 ⟨[(0,some _),(1,some _),(2,some _),(9,some _),(10,some _),(11,some _)],[(900,some _),(902,some _)]⟩ (by exact ⟨⟨c9,c9,c9,c9,c9,c9,trivial⟩,⟨u9,u9,trivial⟩⟩) ?_
   refine ajk 9 901 rfl rfl rfl rfl (by simp only [gc,cn,Int.toNat_natCast];omega) rfl ?_;refine sx7 ?_;(iterate 4 refine qy ?_)
   refine rc rfl rfl rfl rfl rfl rfl adq (aor (p:=(x.2.1.getD (x.2.1.length - 1) default)) hs) (⟨CoC.refl _,CoC.refl _,CoC.refl _,CoC.one (CoP.of_eq (congrArg (fun i=>asC (x.2.1.getD i default)) (by omega))),trivial⟩) rfl rfl ?_
   (iterate 4 refine qy ?_);refine m9 1 ?_;refine s9 ?_;(iterate 2 refine qy ?_);refine a6 ?_;refine a7 ?_;refine sx7 ?_;(iterate 2 refine qy ?_);refine a6 ?_
   refine a8 _ rfl (fun e=>by cases e) (fun _=>?_);refine aa ?_;refine sx7 ?_;refine qy ?_;refine a6 ?_;refine a8 _ rfl (fun r2=>?_) (fun r2=>?_)
   ·
    have h2:=r2
    have hv:vBo (jm n l m) (x.2.1.getD (x.2.1.length - 1) default) = true:=r2
    refine gy ?_;(iterate 10 refine qy ?_);refine m9 2 ?_;refine ra 3 true rfl rfl rfl rfl rfl rfl ?_;refine qy ?_;refine a6 ?_
    first | (refine ⟨(x.1 - 1, (x.2.1.take (x.2.1.length - 1)) ++ [ut (jm n l m) (x.2.1.getD (x.2.1.length - 1) default), sv (jm n l m) (x.2.1.getD (x.2.1.length - 1) default)], x.2.2), ?_, ?_, ?_⟩
             · exact ⟨ahn (a20 n l m) hx (by omega) hv,adg (fun q hq=>hk q (List.mem_of_mem_take hq)) hv hs⟩
             · dsimp only
               omega
             · exact ⟨⟨zy,⟨_,rfl,(gj (by simp only [gc,cn,List.length_append,List.length_cons,List.length_nil,List.length_take];omega))⟩,c9,c9,c9,trivial⟩,⟨u9,⟨_,rfl,(ac5 (by simp only [gc,cn,List.length_append,List.length_cons,List.length_nil,List.length_take];omega) (fun i hi=>CoP.of_eq (aaz hi)) (CoP.of_eq (congrArg (fun z=>PV.raw (.int .u32 z)) (bOr _ _))) (CoP.of_eq (agp (by omega))) rfl)⟩,trivial⟩⟩)
          | (refine ⟨(x.1 - 1,(x.2.1.take (x.2.1.length - 1)),x.2.2 ++ [(x.2.1.getD (x.2.1.length - 1) default)]), ?_, ?_, ?_⟩
             · exact ⟨afo hx (by omega) hv,fun q hq=>hk q (List.mem_of_mem_take hq)⟩
             · dsimp only
               omega
             · exact ⟨⟨⟨_,rfl,(dw rfl)⟩,⟨_,rfl,(gj (by simp only [gc,cn,List.length_append,List.length_cons,List.length_nil,List.length_take];omega))⟩,c9,c9,c9,trivial⟩,⟨⟨_,rfl,(ec rfl (CoP.of_eq (congrArg (fun i=>asC (x.2.1.getD i default)) (by omega))))⟩,⟨_,rfl,(a9k (by omega) (by simp only [gc,cn];omega))⟩,trivial⟩⟩)
   ·
    have h2:=r2
    have hv:vBo (jm n l m) (x.2.1.getD (x.2.1.length - 1) default) = false:=r2
    refine gy ?_;(iterate 2 refine qy ?_);refine m9 4 ?_;refine ra 5 true rfl rfl rfl rfl rfl rfl ?_;refine qy ?_;refine a6 ?_
    first | (refine ⟨(x.1 - 1, (x.2.1.take (x.2.1.length - 1)) ++ [ut (jm n l m) (x.2.1.getD (x.2.1.length - 1) default), sv (jm n l m) (x.2.1.getD (x.2.1.length - 1) default)], x.2.2), ?_, ?_, ?_⟩
             · exact ⟨ahn (a20 n l m) hx (by omega) hv,adg (fun q hq=>hk q (List.mem_of_mem_take hq)) hv hs⟩
             · dsimp only
               omega
             · exact ⟨⟨zy,⟨_,rfl,(gj (by simp only [gc,cn,List.length_append,List.length_cons,List.length_nil,List.length_take];omega))⟩,c9,c9,c9,trivial⟩,⟨u9,⟨_,rfl,(ac5 (by simp only [gc,cn,List.length_append,List.length_cons,List.length_nil,List.length_take];omega) (fun i hi=>CoP.of_eq (aaz hi)) (CoP.of_eq (congrArg (fun z=>PV.raw (.int .u32 z)) (bOr _ _))) (CoP.of_eq (agp (by omega))) rfl)⟩,trivial⟩⟩)
          | (refine ⟨(x.1 - 1,(x.2.1.take (x.2.1.length - 1)),x.2.2 ++ [(x.2.1.getD (x.2.1.length - 1) default)]), ?_, ?_, ?_⟩
             · exact ⟨afo hx (by omega) hv,fun q hq=>hk q (List.mem_of_mem_take hq)⟩
             · dsimp only
               omega
             · exact ⟨⟨⟨_,rfl,(dw rfl)⟩,⟨_,rfl,(gj (by simp only [gc,cn,List.length_append,List.length_cons,List.length_nil,List.length_take];omega))⟩,c9,c9,c9,trivial⟩,⟨⟨_,rfl,(ec rfl (CoP.of_eq (congrArg (fun i=>asC (x.2.1.getD i default)) (by omega))))⟩,⟨_,rfl,(a9k (by omega) (by simp only [gc,cn];omega))⟩,trivial⟩⟩)
  ·
   have h1:=of_decide_eq_false r1
   try simp only [ty] at h1
   refine az ?_;refine a7 ?_;refine ep 10 rfl rfl rfl ?_
   have hx0:x.2.1.length = 0:=by omega
   refine gy ?_;refine qy ?_;refine rc rfl rfl rfl rfl rfl rfl ar0 (aje x.2.2 (by omega)) (CoL.refl _) rfl rfl ?_;(iterate 2 refine qy ?_);refine a6 ?_
   exact hx8 rfl rfl rfl (⟨CoC.one (CoP.of_eq (by rw [asf hz,ajp hx hx0];rfl)),cci hz.symm,trivial⟩)
end Go.Hx
end
