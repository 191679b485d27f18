/- A part of the proof: Bz4 Y2 Y3. -/
import Derived.Test.YtodligmokcbbkaaDoorPx16
import Derived.Test.YtodligmokcbbkaaDoorPx20
import Derived.Test.YtodligmokcbbkaaDoorPx21
import Derived.Test.YtodligmokcbbkaaDoorPx23
import Derived.Test.YtodligmokcbbkaaDoorPx24
import Derived.Test.YtodligmokcbbkaaDoorPx25
set_option linter.all false
section
namespace Go.Hx
theorem alw {f:Fd} {k:Nat} (h:k < (bq f.rhs).length):(sgl f).getD k default = ⟨f.lhs,ku ((bq f.rhs).getD k default)⟩:=by
 unfold sgl
 simp [List.getD_eq_getElem?_getD,List.getElem?_eq_getElem h]
theorem a2l (f:Fd):(sgl f).length = (bq f.rhs).length:=by unfold sgl;rw [List.length_map]
theorem ab6 {fs ms:List Fd} {i k:Nat} (h:k < (bq (fs.getD i default).rhs).length):go fs ms i (k + 1) = go fs ms i k ++ [⟨(fs.getD i default).lhs,ku ((bq (fs.getD i default).rhs).getD k default)⟩]:=by
 rw [aea (by rw [a2l];exact h),alw h]
theorem ab0 {fs ms:List Fd} {i:Nat} (h:i < fs.length):go fs ms (i + 1) 0 = go fs ms i (bq (fs.getD i default).rhs).length:=by rw [afn h,a2l]
theorem aax {a b:AS} {k:Nat} (h:sub a b) (hb:b >>> k = 0):a >>> k = 0:=by
 apply a7a
 intro i hi
 have:=congrArg (fun z:AS=>z.getLsbD i) hb
 simp only [BitVec.getLsbD_ushiftRight] at this ⊢
 cases ha:a.getLsbD (k + i) with
 | false=>simp
 | true=>rw [bo.1 h _ (af4 ha) ha] at this;simp at this
def y9 (b:AS) (f:Fd):Bool:=!decide ((f.rhs &&& ~~~f.lhs) &&& b = 0)
def ua (l:List Fd) (o b:AS):AS:=if bsz b = 1 then (if l.any (y9 b) = true then o ||| b else o) else o
def qt (l:List Fd) (o:AS) (bs:List AS):AS:=bs.foldl (ua l) o
theorem xj {l:List Fd} {o:AS} {bs:List AS} {i:Nat} (h:i < bs.length):qt l o (bs.take (i + 1)) = ua l (qt l o (bs.take i)) (bs.getD i default):=by
 unfold qt
 rw [bc h,List.foldl_append]
 rfl
section
variable {l:List Fd} {o:AS} {bs:List AS} {i:Nat}
theorem a8r (h:i < bs.length) (hq:¬ bsz (bs.getD i default) = 1):qt l o (bs.take i) = qt l o (bs.take (i + 1)):=by rw [xj h,ua,if_neg hq]
theorem a7p (h:i < bs.length) (hq:bsz (bs.getD i default) = 1) (ha:l.any (y9 (bs.getD i default)) = false):qt l o (bs.take i) = qt l o (bs.take (i + 1)):=by rw [xj h,ua,if_pos hq,if_neg (by rw [ha];decide)]
theorem a8g (h:i < bs.length) (hq:bsz (bs.getD i default) = 1) (ha:l.any (y9 (bs.getD i default)) = true):qt l o (bs.take i) ||| bs.getD i default = qt l o (bs.take (i + 1)):=by rw [xj h,ua,if_pos hq,if_pos ha]
end
def cz (n:Int) (l m:List Fd) (x:AS):List AS:=ord (blks (jn l m) (aq n &&& ~~~x))
def ahi (n:Int) (l m:List Fd) (x:AS):List AS:=if ckB n l m x = 0 then cz n l m x else []
def tj (n:Int) (l m:List Fd) (x:AS):AS:=qt l x (cz n l m x)
def abv (n:Int) (l m:List Fd) (x:AS):AS:=if ckB n l m x = 0 then tj n l m x else 0
theorem agw (ms:List Fd) (rest:AS):OkB (blks ms rest):=by
 have:∀ (f:Nat) (l:List AS),OkB l → OkB (o8 ms f l):=by
  intro f
  induction f with
  | zero=>intro l h;exact h
  | succ f ih =>
   intro l h
   unfold o8
   split
   · exact ih _ (zu h)
   · exact zu h
 exact this _ _ (a6b rest)
theorem a1t (n:Int) (l m:List Fd) (x:AS):(cz n l m x).length ≤ 4294967296:=Nat.le_trans (zj _) (a5j (agw _ _))
def jz (p:AS) (bs:List AS):List AS:=(bs.filter fun b=>!decide (b &&& p = 0)).map fun b=>b &&& p
theorem a3o {p:AS} {bs:List AS} {i:Nat} (h:i < bs.length) (hq:¬ bs.getD i default &&& p = 0):jz p (bs.take (i + 1)) = jz p (bs.take i) ++ [bs.getD i default &&& p]:=by
 unfold jz
 rw [bc h,List.filter_append,List.map_append,List.filter_cons,if_pos (by rw [decide_eq_false hq];rfl)]
 rfl
theorem a41 {p:AS} {bs:List AS} {i:Nat} (h:i < bs.length) (hq:bs.getD i default &&& p = 0):jz p (bs.take (i + 1)) = jz p (bs.take i):=by
 unfold jz
 rw [bc h,List.filter_append,List.map_append,List.filter_cons,if_neg (by rw [decide_eq_true hq];decide)]
 simp
theorem a84 (p:AS) (bs:List AS):(jz p bs).length ≤ bs.length:=by
 unfold jz
 rw [List.length_map]
 exact List.length_filter_le _ _
def fv (n:Int) (l m:List Fd) (x p:AS):List AS:=ord (jz p (cz n l m x))
theorem aaq (n:Int) (l m:List Fd) (x p:AS):(jz p (cz n l m x)).length ≤ 8589934592:=Nat.le_trans (a84 _ _) (Nat.le_trans (a1t _ _ _ _) (by decide))
def ck4 (n:Int) (l m:List Fd) (s:AS):Int:=if n < 0 ∨ 8 < n then 7 else ckB n l m s
theorem ak1 {n:Int} {l m:List Fd} {s:AS} (h:n < 0 ∨ 8 < n):ck4 n l m s = 7:=if_pos h
theorem zp {n:Int} {l m:List Fd} {s:AS} (h:¬ (n < 0 ∨ 8 < n)):ck4 n l m s = ckB n l m s:=if_neg h
theorem a2i {n:Int} {l m:List Fd} {s:AS} (h:ck4 n l m s = 0):0 ≤ n ∧ n ≤ 8 ∧ ckB n l m s = 0:=by
 unfold ck4 at h
 split at h
 · cases h
 · exact ⟨by omega,by omega,h⟩
theorem a5c {n:Int} {l m:List Fd} {s t:AS} (h:ckB n l m s = 0) (ht:sub t s):ckB n l m t = 0:=a2o (yy h).1 (aax ht (yy h).2)
theorem a4m {n:Int} {l m:List Fd} {s t:AS} (h:ck4 n l m s = 0) (ht:sub t s):ck4 n l m t = 0:=by
 obtain ⟨h1,h2,h3⟩:=a2i h
 rw [zp (by omega)]
 exact a5c h3 ht
def ah6 (n:Int) (l m:List Fd) (x p:AS):List AS:=if ck4 n l m (x ||| p) = 0 then fv n l m x p else []
def vb (n:Int) (l m:List Fd) (p x:AS):Option Fd:=if p &&& ~~~(tj n l m x) = 0 then none else if 1 < (fv n l m x p).length then some ⟨x,(fv n l m x p).getD 0 default⟩ else none
def da (n:Int) (l m:List Fd) (p:AS):Option Fd:=(d7 p).findSome? (vb n l m p)
def ac5:Option Fd → Fd × Bool
 | some v=>(v,true)
 | none=>(⟨0,0⟩,false)
def w8 (n:Int) (l m:List Fd) (p:AS):Fd × Bool:=if ck4 n l m p = 0 then ac5 (da n l m p) else (⟨0,0⟩,false)
theorem aly {n:Int} {l m:List Fd} {p:AS} (h:¬ ck4 n l m p = 0):w8 n l m p = (⟨0,0⟩,false):=if_neg h
theorem a7y {n:Int} {l m:List Fd} {p:AS} (h:ck4 n l m p = 0):w8 n l m p = ac5 (da n l m p):=if_pos h
theorem ym {α β:Type} [Inhabited α] {f:α → Option β} {l:List α} {i:Nat} (h:i < l.length) (hn:(l.take i).findSome? f = none):(l.take (i + 1)).findSome? f = f (l.getD i default):=by
 rw [bc h,List.findSome?_append,hn]
 simp only [List.findSome?_cons,List.findSome?_nil,Option.none_or]
 cases f (l.getD i default) <;> rfl
theorem ae9 {α β:Type} [Inhabited α] {f:α → Option β} {l:List α} {i:Nat} {v:β} (h:i < l.length) (hn:(l.take i).findSome? f = none) (hv:f (l.getD i default) = some v):l.findSome? f = some v:=by
 have h1:=ym h hn
 rw [hv] at h1
 rw [← List.take_append_drop (i + 1) l,List.findSome?_append,h1]
 rfl
theorem y5 {s z:AS} (h:z ∈ d7 s):sub z s:=by
 unfold d7 at h
 split at h
 · cases h
 · exact a5t.1 h
theorem o3 {α:Type} [Inhabited α] {l:List α} {i:Nat} (h:i < l.length):l.getD i default ∈ l:=by
 rw [List.getD_eq_getElem?_getD,List.getElem?_eq_getElem h]
 exact List.getElem_mem h
theorem a1u {n:Int} {l m:List Fd} {x p c:AS}:c ∈ fv n l m x p ↔ ∃ b ∈ blks (jn l m) (aq n &&& ~~~x),b &&& p ≠ 0 ∧ c = b &&& p:=by
 unfold fv jz cz
 rw [ph,List.mem_map]
 constructor
 · rintro ⟨b,hb,rfl⟩
   rw [List.mem_filter,ph] at hb
   exact ⟨b,hb.1,by simpa using hb.2,rfl⟩
 · rintro ⟨b,hb,h,rfl⟩
   exact ⟨b,List.mem_filter.2 ⟨ph.2 hb,by simpa using h⟩,rfl⟩
def abn (V:AS → Option Fd):Prop:=∀ p v,V p = some v → sub (v.lhs ||| v.rhs) p ∧ v.lhs ||| v.rhs ≠ p ∧ p &&& ~~~v.rhs ≠ p
theorem a1o (n:Int) (l m:List Fd):abn (da n l m):=by
 intro p v h
 unfold da at h
 obtain ⟨x,hx,hv⟩:=List.exists_of_findSome?_eq_some h
 have hxp:=y5 hx
 unfold vb at hv
 split at hv
 · cases hv
 · split at hv
   · rename_i hlen
     cases hv
     have hbk:=(ab1 (jn l m) (aq n &&& ~~~x)).1
     have m0:=o3 (l:=fv n l m x p) (i:=0) (by omega)
     have m1:=o3 (l:=fv n l m x p) (i:=1) hlen
     have hnd:=ag5 (jz p (cz n l m x))
     have hne:(fv n l m x p).getD 0 default ≠ (fv n l m x p).getD 1 default:=by
      intro e
      rw [List.getD_eq_getElem?_getD,List.getD_eq_getElem?_getD,List.getElem?_eq_getElem (show 0 < (fv n l m x p).length by omega),List.getElem?_eq_getElem hlen,Option.getD_some,Option.getD_some] at e
      have:=(List.getElem_inj (xs:=fv n l m x p) hnd).1 e
      omega
     generalize (fv n l m x p).getD 0 default = c0 at *
     generalize (fv n l m x p).getD 1 default = c1 at *
     obtain ⟨b0,hb0,hz0,rfl⟩:=a1u.1 m0
     obtain ⟨b1,hb1,hz1,rfl⟩:=a1u.1 m1
     dsimp only
     refine ⟨tv hxp a6k,fun e=>?_,fun e=>?_⟩
     · obtain ⟨a,ha,h1,h2⟩:=a8z hz1
       have h3:=congrArg (fun z:AS=>z.getLsbD a) e
       simp only [BitVec.getLsbD_or,BitVec.getLsbD_and,h2,Bool.and_true] at h3
       have hr:=bo.1 (hbk.sub hb1) a ha h1
       rw [lm ha,Bool.and_eq_true] at hr
       have hxa:x.getLsbD a = false:=by simpa using hr.2
       rw [hxa,Bool.false_or] at h3
       exact hne (by rw [hbk.one hb0 hb1 h3 h1])
     · obtain ⟨a,ha,h1,h2⟩:=a8z hz0
       have h3:=congrArg (fun z:AS=>z.getLsbD a) e
       simp only [lm ha,BitVec.getLsbD_and,h1,h2] at h3
       simp at h3
   · cases hv
section
variable {V:AS → Option Fd}
def vF (V:AS → Option Fd) (s:AS):Fd:=(ac5 (V s)).1
def vBo (V:AS → Option Fd) (s:AS):Bool:=(ac5 (V s)).2
def ss (V:AS → Option Fd) (s:AS):AS:=(vF V s).lhs ||| (vF V s).rhs
def qw (V:AS → Option Fd) (s:AS):AS:=s &&& ~~~(vF V s).rhs
theorem a1d {s:AS} (h:vBo V s = true):V s = some (vF V s):=by
 unfold vBo at h
 unfold vF
 cases hv:V s with
 | none=>rw [hv] at h;cases h
 | some v=>rfl
def vm (V:AS → Option Fd):Nat → List AS → List AS → List AS
 | 0,_,out=>out
 | n + 1,todo,out =>
  if todo.length = 0 then out
  else if vBo V (todo.getD (todo.length - 1) default) = true then vm V n (todo.take (todo.length - 1) ++ [ss V (todo.getD (todo.length - 1) default),qw V (todo.getD (todo.length - 1) default)]) out
  else vm V n (todo.take (todo.length - 1)) (out ++ [todo.getD (todo.length - 1) default])
def yk (V:AS → Option Fd) (p0:AS) (x:Nat × List AS × List AS):Prop:=vm V x.1 x.2.1 x.2.2 = vm V 6562 [p0] [] ∧ kp x.2.1 < x.1 ∧ x.2.2.length + x.1 ≤ 6562
theorem af6 {n:Int} (h8:n ≤ 8):yk V (aq n) (6562,[aq n],[]):=by
 refine ⟨rfl, ?_,Nat.le_refl _⟩
 show 3 ^ bsz (aq n) + 0 < 6562
 have h1:=ahf (n:=n) (m:=8) h8 (by omega)
 have h2:3 ^ bsz (aq n) ≤ 3 ^ 8:=Nat.pow_le_pow_right (by omega) h1
 have h3:3 ^ 8 = 6561:=rfl
 omega
theorem wh {p0:AS} {x:Nat × List AS × List AS} (h:yk V p0 x):x.2.1.length < 6562 ∧ x.2.2.length ≤ 6562 ∧ 0 < x.1:=by
 have:=a9s x.2.1
 obtain ⟨h1,h2,h3⟩:=h
 omega
theorem aih {p0:AS} {x:Nat × List AS × List AS} (h:yk V p0 x) (h0:x.2.1.length = 0):x.2.2 = vm V 6562 [p0] []:=by
 have hp:=(wh h).2.2
 obtain ⟨h1,h2,h3⟩:=h
 obtain ⟨m,hm⟩:∃ m,x.1 = m + 1:=⟨x.1 - 1,by omega⟩
 rw [hm] at h1
 unfold vm at h1
 rw [if_pos h0] at h1
 exact h1
theorem adv (hV:abn V) {s:AS} (h:vBo V s = true):bsz (ss V s) < bsz s ∧ bsz (qw V s) < bsz s:=by
 obtain ⟨h1,h2,h3⟩:=hV s _ (a1d h)
 exact ⟨a35 h1 h2,a35 a5s h3⟩
theorem afx (hV:abn V) {p0:AS} {x:Nat × List AS × List AS} (h:yk V p0 x) (h0:0 < x.2.1.length) (hv:vBo V (x.2.1.getD (x.2.1.length - 1) default) = true) :
 yk V p0 (x.1 - 1,x.2.1.take (x.2.1.length - 1) ++ [ss V (x.2.1.getD (x.2.1.length - 1) default),qw V (x.2.1.getD (x.2.1.length - 1) default)],x.2.2):=by
 have hp:=(wh h).2.2
 obtain ⟨h1,h2,h3⟩:=h
 obtain ⟨m,hm⟩:∃ m,x.1 = m + 1:=⟨x.1 - 1,by omega⟩
 rw [hm] at h1
 unfold vm at h1
 rw [if_neg (by omega),if_pos hv] at h1
 refine ⟨by rw [hm];exact h1, ?_,by dsimp only;omega⟩
 have e:=a18 (x.2.1.take (x.2.1.length - 1)) [x.2.1.getD (x.2.1.length - 1) default]
 rw [← a5n h0] at e
 have e1:kp [x.2.1.getD (x.2.1.length - 1) default] = 3 ^ bsz (x.2.1.getD (x.2.1.length - 1) default):=by simp [kp]
 generalize x.2.1.getD (x.2.1.length - 1) default = s at *
 dsimp only
 rw [a18]
 have e2:kp [ss V s,qw V s] = 3 ^ bsz (ss V s) + 3 ^ bsz (qw V s):=by simp [kp]
 obtain ⟨g1,g2⟩:=adv hV hv
 obtain ⟨b,hb⟩:∃ b,bsz s = b + 1:=⟨bsz s - 1,by omega⟩
 have p1:3 ^ bsz (ss V s) ≤ 3 ^ b:=Nat.pow_le_pow_right (by omega) (by omega)
 have p2:3 ^ bsz (qw V s) ≤ 3 ^ b:=Nat.pow_le_pow_right (by omega) (by omega)
 have p3:3 ^ bsz s = 3 ^ b * 3:=by rw [hb,Nat.pow_succ]
 have p4:0 < 3 ^ b:=Nat.pow_pos (by omega)
 omega
theorem afz {p0:AS} {x:Nat × List AS × List AS} (h:yk V p0 x) (h0:0 < x.2.1.length) (hv:vBo V (x.2.1.getD (x.2.1.length - 1) default) = false) :
 yk V p0 (x.1 - 1,x.2.1.take (x.2.1.length - 1),x.2.2 ++ [x.2.1.getD (x.2.1.length - 1) default]):=by
 have hp:=(wh h).2.2
 obtain ⟨h1,h2,h3⟩:=h
 obtain ⟨m,hm⟩:∃ m,x.1 = m + 1:=⟨x.1 - 1,by omega⟩
 rw [hm] at h1
 unfold vm at h1
 rw [if_neg (by omega),if_neg (by rw [hv];decide)] at h1
 refine ⟨by rw [hm];exact h1, ?_,by dsimp only;rw [List.length_append,List.length_singleton];omega⟩
 have e:=a18 (x.2.1.take (x.2.1.length - 1)) [x.2.1.getD (x.2.1.length - 1) default]
 rw [← a5n h0] at e
 have e1:kp [x.2.1.getD (x.2.1.length - 1) default] = 3 ^ bsz (x.2.1.getD (x.2.1.length - 1) default):=by simp [kp]
 have p4:0 < 3 ^ bsz (x.2.1.getD (x.2.1.length - 1) default):=Nat.pow_pos (by omega)
 dsimp only
 omega
def lvG (V:AS → Option Fd):Nat → AS → List AS
 | 0,s=>[s]
 | n + 1,s=>if vBo V s = true then lvG V n (ss V s) ++ lvG V n (qw V s) else [s]
end
def an1 (n:Int) (l m:List Fd):List AS:=vm (da n l m) 6562 [aq n] []
def a8p (n:Int) (l m:List Fd):List AS:=if ck4 n l m 0 = 0 then a13 (an1 n l m) else []
theorem anf {n:Int} {l m:List Fd} (h:ck4 n l m 0 = 0):a8p n l m = a13 (an1 n l m):=if_pos h
theorem alz {n:Int} {l m:List Fd} (h:¬ ck4 n l m 0 = 0):a8p n l m = []:=if_neg h
end Go.Hx
end
section
namespace Go.Hx
open Go.Proofs
set_option maxRecDepth 100000
set_option maxHeartbeats 1000000
theorem amj:am Tryd.prog 55:=⟨Tryd.f55,Tryd.func55,by kernel_rfl,by kernel_rfl⟩
theorem ant (n:Nat) (c:Bool) (f:Nat → Nat → PV) (hn:n ≤ 17592186044416) :
 j2 Tryd.prog 55 [.one (.p (.sl n 2 c f))] [] (.v (.one (.ref 0 n))) [(0, .arr true 2 46 n f)] []:=by
 refine ur (nt:=8) ai Tryd.func55 rfl rfl l9 rfl ?_;refine sx7 ?_;refine dj true rfl rfl rfl rfl rfl trivial ?_;refine a6 ?_
 refine a4k (ι:=Bool) (fun c=>⟨[(0,some (b9 (.sl n 2 c f)))],[]⟩) (fun _=>True) ?_ fun c _=>?_
 · rcases Nat.eq_zero_or_pos n with hz | h0
   · subst hz
     refine hw_exact' 0 rfl fun ad cap hcap=>?_
     refine sx7 ?_;(iterate 2 refine dj true rfl rfl rfl rfl rfl trivial ?_);refine a6 ?_;refine a8 ad.isNone rfl (fun hc=>?_) (fun hc=>?_)
     · refine sx7 ?_
       refine dj true rfl rfl rfl rfl rfl trivial ?_;refine a6 ?_;refine gf 2 0 true 2 46 f (by decide) rfl (CoP.sl rfl (.inr rfl) (fun h=>h) fun i j hi _=>absurd hi (Nat.not_lt_zero i)) (.inr rfl) rfl ?_
       refine fh ?_;refine ⟨.inr rfl, ?_⟩
       exact ⟨_,_,rfl,trivial,CoR.refl _,⟨u9,trivial⟩⟩
     · refine aa ?_
       exact ⟨false,trivial,⟨⟨_,rfl,CoP.raw_sl hcap⟩,trivial⟩,trivial⟩
   · refine sx7 ?_
     refine dj true rfl rfl rfl rfl rfl trivial ?_;refine dj true rfl rfl rfl rfl rfl h0 ?_;refine a6 ?_;refine a8 false rfl (fun hc=>by cases hc) (fun hc=>?_);refine aa ?_
     exact ⟨c,trivial,⟨c9,trivial⟩,trivial⟩
 · refine sx7 ?_
   refine zt 0 rfl rfl rfl rfl rfl rfl trivial ?_;refine dj true rfl rfl rfl rfl rfl trivial ?_
   refine a7w 0 true rfl rfl rfl rfl rfl rfl ⟨trivial,rfl,rfl,rfl, .inl rfl,by show 0 + n ≤ 9223372036854775807;omega,by show (0 + n) * 8 ≤ 140737488355328;omega,fun _=>.inl rfl⟩ ?_
   refine dj true rfl rfl rfl rfl rfl trivial ?_;refine a6 ?_;refine fh ?_;refine ⟨.inr rfl, ?_⟩
   refine ⟨_,_,rfl,trivial,CoR.of_eq (by show HR.v (.one (.ref 0 (0 + n))) = _;rw [Nat.zero_add]),⟨⟨_,rfl, ?_⟩,trivial⟩⟩
   exact ⟨fun h=>h,rfl,rfl,(Nat.zero_add n).symm,fun i j _ _=>CoP.of_eq (by simp [ey])⟩
theorem ae2:am Tryd.prog 37:=⟨Tryd.f37,Tryd.func37,by kernel_rfl,by kernel_rfl⟩
theorem ab9 (n:Int) (l m:List Fd) (x:AS):ao Tryd.prog 37 [pI n,pP (fdl l),pP (fdl m),pA x] (ay [pI (ckB n l m x)]):=by
 refine ak (nt:=21) ai Tryd.func37 rfl rfl l9 ?_;refine sx7 ?_;refine qy ?_;refine a6 ?_;refine a7 ?_;refine sx7 ?_;(iterate 3 refine qy ?_)
 refine rc rfl rfl rfl rfl rfl rfl ady (abd n l m) (CoL.refl _) rfl rfl ?_;refine qy ?_;refine a6 ?_;refine sx7 ?_;(iterate 2 refine qy ?_);refine a6 ?_;refine a8 _ rfl (fun r0=>?_) (fun r0=>?_)
 ·
  have h0:=r0
  have h0:=of_decide_eq_false (bn h0)
  try simp only [ty] at h0
  refine sx7 ?_;(iterate 2 refine qy ?_);refine a6 ?_
  exact hx8 rfl rfl rfl (⟨cci (ajt (by assumption)).symm,trivial⟩)
 ·
  have h0:=r0
  have h0:=of_decide_eq_true (bm h0)
  try simp only [ty] at h0
  have hb:eo n l m = 0:=h0
  obtain ⟨hn0,hn1,_⟩:=zb hb
  refine aa ?_;refine a7 ?_;refine sx7 ?_;(iterate 2 refine qy ?_);refine rq rfl rfl rfl rfl rfl ?_ (hp:=hn0);refine qy ?_;refine a6 ?_;refine a8 _ rfl (fun r1=>?_) (fun r1=>?_)
  ·
   have h1:=r1
   have h1:=of_decide_eq_false (bn h1)
   try simp only [ty] at h1
   refine sx7 ?_;refine qy ?_;refine a6 ?_
   exact hx8 rfl rfl rfl (⟨cci (ajx hb (fun e=>(by assumption:¬ _ = _) ((v8 x n.toNat).trans (congrArg asI e)))).symm,trivial⟩)
  ·
   have h1:=r1
   have h1:=of_decide_eq_true (bm h1)
   try simp only [ty] at h1
   refine aa ?_;refine sx7 ?_;refine qy ?_;refine a6 ?_
   exact hx8 rfl rfl rfl (⟨cci (a2o hb (fb.1 ((v8 x n.toNat).symm.trans (by assumption)))).symm,trivial⟩)
theorem ag1:am Tryd.prog 39:=⟨Tryd.f39,Tryd.func39,by kernel_rfl,by kernel_rfl⟩
theorem aj7 (l m:List Fd) (hl:l.length ≤ 64) (hm:m.length ≤ 64):ao Tryd.prog 39 [pP (fdl l),pP (fdl m)] (ay [pP (fdl (jn l m))]):=by
 refine ak (nt:=37) ai Tryd.func39 rfl rfl l9 ?_;refine sx7 ?_;refine qy ?_;refine a6 ?_;refine sx7 ?_;refine qy ?_
 refine j3 rfl rfl rfl rfl rfl rfl amj ((ant m.length false (lf Fd.c m) (by omega)).swap 0 900) (gv.refl _) trivial rfl rfl ?_;refine qy ?_;refine a6 ?_;refine a7 ?_;refine sx7 ?_
 (iterate 3 refine qy ?_);refine a6 ?_;refine ah ?_
 refine b4 (ι:=Nat) ⟨[(12,some _),(13,some _)],[]⟩ ⟨⟨c9,c9,trivial⟩,trivial⟩ (fun i=>⟨[(5,some (.v (.one (.ref 900 (go l m i 0).length)))),(14,some (vI i))],[(900,some (.arr true 2 46 (go l m i 0).length (lf Fd.c (go l m i 0))))]⟩) (fun i=>i ≤ l.length) (fun i=>l.length - i) (0) (Nat.zero_le _) ⟨⟨⟨_,rfl,(cn (a6f l m))⟩,⟨_,rfl,(CoR.refl _)⟩,trivial⟩,⟨⟨_,rfl,(c5 (a6f l m))⟩,trivial⟩⟩ ?_
 rintro i hi
 have hmb:=a81 (l.getD i default).rhs
 refine sx7 ?_;refine qy ?_;refine a6 ?_;refine a7 ?_;refine a8 _ rfl (fun r0=>?_) (fun r0=>?_)
 ·
  have h0:=of_decide_eq_true r0
  try simp only [ty] at h0
  refine aa ?_;refine a7 ?_;refine ah ?_;refine sx7 ?_;(iterate 2 refine qy ?_);refine m9 0 ?_;refine s9 ?_;refine a6 ?_;refine sx7 ?_;(iterate 2 refine qy ?_)
  refine rc rfl rfl rfl rfl rfl rfl am9 (asq (l.getD i default).rhs) (CoL.refl _) rfl rfl ?_;(iterate 2 refine qy ?_);refine a6 ?_;refine ah ?_
  refine b4 (ι:=Nat) ⟨[(7,some _),(12,some _),(13,some _),(14,some _),(20,some _),(21,some _)],[(0,some _)]⟩ ⟨⟨c9,c9,c9,c9,c9,c9,trivial⟩,⟨u9,trivial⟩⟩ (fun k=>⟨[(5,some (.v (.one (.ref 900 (go l m i k).length)))),(22,some (vI k))],[(900,some (.arr true 2 46 (go l m i k).length (lf Fd.c (go l m i k))))]⟩) (fun k=>k ≤ (bq (l.getD i default).rhs).length) (fun k=>(bq (l.getD i default).rhs).length - k) (0) (Nat.zero_le _) ⟨⟨zy,⟨_,rfl,(CoR.refl _)⟩,trivial⟩,⟨u9,trivial⟩⟩ ?_
  rintro k hk
  have hal:=agn (fs:=l) (ms:=m) (i:=i) (k:=k)
  refine sx7 ?_;refine qy ?_;refine a6 ?_;refine a7 ?_;refine a8 _ rfl (fun r1=>?_) (fun r1=>?_)
  ·
   have h1:=of_decide_eq_true r1
   try simp only [ty] at h1
   refine aa ?_;refine a7 ?_;refine ah ?_;refine sx7 ?_;(iterate 3 refine qy ?_);refine a6 ?_;refine cw (E:=d6) ai bw [0,1,2,3,4,5,6,7,8] ?_;(iterate 6 refine qy ?_)
   refine m9 1 ?_;refine ra 2 true rfl rfl rfl rfl rfl rfl ?_;refine qy ?_;refine a6 ?_;refine ⟨by kernel_rfl, ?_⟩;refine gy ?_;(iterate 2 refine qy ?_);refine a6 ?_;refine ⟨k + 1, ?_, ?_, ?_⟩
   · show k + 1 ≤ _;omega
   · first | omega | (dsimp only;omega)
   · exact ⟨⟨⟨_,rfl,(ej (ab6 (by omega)))⟩,zy,c9,c9,c9,c9,c9,c9,trivial⟩,⟨⟨_,rfl,(j1 (ab6 (by omega)) (CoP.refl _) (CoP.of_eq (congrArg (fun z=>PV.raw (.int .u32 z)) (ac7 1 _))))⟩,u9,trivial⟩⟩
  ·
   have h1:=of_decide_eq_false r1
   try simp only [ty] at h1
   obtain rfl:k = (bq (l.getD i default).rhs).length:=by omega
   refine az ?_;refine gy ?_;(iterate 2 refine qy ?_);refine a6 ?_;refine ⟨i + 1, ?_, ?_, ?_⟩
   · show i + 1 ≤ _;omega
   · first | omega | (dsimp only;omega)
   · exact ⟨⟨⟨_,rfl,(cn (ab0 (by omega)))⟩,zy,c9,c9,trivial⟩,⟨⟨_,rfl,(c5 (ab0 (by omega)))⟩,trivial⟩⟩
 ·
  have h0:=of_decide_eq_false r0
  try simp only [ty] at h0
  obtain rfl:i = l.length:=by omega
  refine az ?_;refine sx7 ?_;(iterate 2 refine qy ?_);refine a6 ?_;refine dl 4 rfl rfl rfl ?_
  exact hx8 rfl rfl rfl (⟨CoC.one (CoP.of_eq (by rw [ai4];rfl)),trivial⟩)
theorem ap3:am Tryd.prog 42:=⟨Tryd.f42,Tryd.func42,by kernel_rfl,by kernel_rfl⟩
theorem aka (n:Int) (l m:List Fd) (x:AS):ao Tryd.prog 42 [pI n,pP (fdl l),pP (fdl m),pA x] (ay [pP (asl (ahi n l m x)),pI (ckB n l m x)]):=by
 refine ak (nt:=25) ai Tryd.func42 rfl rfl l9 ?_;refine sx7 ?_;(iterate 2 refine qy ?_);refine a6 ?_;refine a7 ?_;refine sx7 ?_;(iterate 4 refine qy ?_)
 refine rc rfl rfl rfl rfl rfl rfl ae2 (ab9 n l m x) (CoL.refl _) rfl rfl ?_;refine qy ?_;refine a6 ?_;refine sx7 ?_;(iterate 2 refine qy ?_);refine a6 ?_;refine a8 _ rfl (fun r0=>?_) (fun r0=>?_)
 ·
  have h0:=r0
  have h0:=of_decide_eq_false (bn h0)
  try simp only [ty] at h0
  refine sx7 ?_;(iterate 3 refine qy ?_);refine a6 ?_
  exact hx8 rfl rfl rfl (⟨CoC.one (aca (if_neg (by assumption))),CoC.refl _,trivial⟩)
 ·
  have h0:=r0
  have h0:=of_decide_eq_true (bm h0)
  try simp only [ty] at h0
  have hz:ckB n l m x = 0:=h0
  have hb:=yy hz
  obtain ⟨hn0,hn1,hl64,_,hm64,_⟩:=zb hb.1
  refine aa ?_;refine sx7 ?_;(iterate 3 refine qy ?_);refine rc rfl rfl rfl rfl rfl rfl ag1 (aj7 l m hl64 hm64) (CoL.refl _) rfl rfl ?_;refine qy ?_
  refine rc rfl rfl rfl rfl rfl rfl agi (abg n (jn l m) x hn0 hn1) (CoL.refl _) rfl rfl ?_;(iterate 2 refine qy ?_);refine a6 ?_
  exact hx8 rfl rfl rfl (⟨CoC.one (CoP.of_eq (by rw [show ahi n l m x = cz n l m x from if_pos hz];rfl)),cci hz.symm,trivial⟩)
theorem am4:am Tryd.prog 41:=⟨Tryd.f41,Tryd.func41,by kernel_rfl,by kernel_rfl⟩
theorem anj (f:Fd) (b:AS):ao Tryd.prog 41 [f.pc,pP (bx (asC b))] (ay [pB (y9 b f)]):=by
 refine ak (nt:=12) ai Tryd.func41 rfl rfl l9 ?_;refine sx7 ?_;refine m9 0 ?_;refine qy ?_;refine a6 ?_;refine sx7 ?_;(iterate 9 refine qy ?_);refine a6 ?_
 exact hx8 rfl rfl rfl (⟨ccb (by unfold y9;rw [ko,a7k]),trivial⟩)
theorem amq:am Tryd.prog 23:=⟨Tryd.f23,Tryd.func23,by kernel_rfl,by kernel_rfl⟩
theorem al0 (n:Int) (l m:List Fd) (x:AS):ao Tryd.prog 23 [pI n,pP (fdl l),pP (fdl m),pA x] (ay [pA (abv n l m x),pI (ckB n l m x)]):=by
 refine ak (nt:=45) ai Tryd.func23 rfl rfl l9 ?_;refine sx7 ?_;(iterate 2 refine qy ?_);refine a6 ?_;refine a7 ?_;refine sx7 ?_;(iterate 4 refine qy ?_)
 refine rc rfl rfl rfl rfl rfl rfl ae2 (ab9 n l m x) (CoL.refl _) rfl rfl ?_;refine qy ?_;refine a6 ?_;refine sx7 ?_;(iterate 2 refine qy ?_);refine a6 ?_;refine a8 _ rfl (fun r0=>?_) (fun r0=>?_)
 ·
  have h0:=r0
  have h0:=of_decide_eq_false (bn h0)
  try simp only [ty] at h0
  refine sx7 ?_;(iterate 3 refine qy ?_);refine a6 ?_
  exact hx8 rfl rfl rfl (⟨cci (congrArg asI (show (0:AS) = abv n l m x from (if_neg (by assumption)).symm)),CoC.refl _,trivial⟩)
 ·
  have h0:=r0
  have h0:=of_decide_eq_true (bm h0)
  try simp only [ty] at h0
  have hz:ckB n l m x = 0:=h0
  have hb:=yy hz
  obtain ⟨hn0,hn1,hl64,_,hm64,_⟩:=zb hb.1
  refine aa ?_;refine sx7 ?_;(iterate 2 refine qy ?_);refine a6 ?_;refine a7 ?_;refine sx7 ?_;(iterate 3 refine qy ?_);refine rc rfl rfl rfl rfl rfl rfl ag1 (aj7 l m hl64 hm64) (CoL.refl _) rfl rfl ?_
  refine qy ?_;refine rc rfl rfl rfl rfl rfl rfl agi (abg n (jn l m) x hn0 hn1) (CoL.refl _) rfl rfl ?_;(iterate 2 refine qy ?_);refine a6 ?_;refine ah ?_
  have hbl:=a1t n l m x
  refine b4 (ι:=Nat) ⟨[(1,some _),(28,some _),(29,some _)],[]⟩ ⟨⟨c9,c9,c9,trivial⟩,trivial⟩ (fun i=>⟨[(11,some (vA (qt l x ((cz n l m x).take i)))),(30,some (vI i))],[]⟩) (fun i=>i ≤ (cz n l m x).length) (fun i=>(cz n l m x).length - i) (0) (Nat.zero_le _) ⟨⟨⟨_,rfl,(CoR.refl _)⟩,⟨_,rfl,(CoR.refl _)⟩,trivial⟩,trivial⟩ ?_
  rintro i hi
  refine sx7 ?_;refine qy ?_;refine a6 ?_;refine a7 ?_;refine a8 _ rfl (fun r1=>?_) (fun r1=>?_)
  ·
   have h1:=of_decide_eq_true r1
   try simp only [ty] at h1
   have hil:i < (cz n l m x).length:=Int.ofNat_lt.1 h1
   refine aa ?_;refine a7 ?_;refine ah ?_;refine sx7 ?_;(iterate 2 refine qy ?_);refine m9 0 ?_;refine s9 ?_;refine a6 ?_;refine a7 ?_;refine sx7 ?_;refine qy ?_
   refine rc rfl rfl rfl rfl rfl rfl a3i (a6v ((cz n l m x).getD i default)) (CoL.refl _) rfl rfl ?_;refine qy ?_;refine a6 ?_;refine a8 _ rfl (fun r2=>?_) (fun r2=>?_)
   ·
    have h2:=r2
    have h2:=of_decide_eq_false (bn h2)
    try simp only [ty] at h2
    have hq:¬ bsz ((cz n l m x).getD i default) = 1:=fun e=>h2 (by rw [e];rfl)
    refine az ?_;refine gy ?_;(iterate 2 refine qy ?_);refine a6 ?_;refine ⟨i + 1, ?_, ?_, ?_⟩
    · show i + 1 ≤ _;omega
    · first | omega | (dsimp only;omega)
    · exact ⟨⟨⟨_,rfl,(by first | exact l7 (congrArg asI (a8r hil hq)) | exact l7 (congrArg asI (a7p hil hq ha)) | exact l7 ((bOr _ _).trans (congrArg asI (a8g hil hq ha))))⟩,zy,c9,c9,c9,trivial⟩,trivial⟩
   ·
    have h2:=r2
    have h2:=of_decide_eq_true (bm h2)
    try simp only [ty] at h2
    have hq:bsz ((cz n l m x).getD i default) = 1:=Int.ofNat_inj.1 h2
    refine aa ?_;refine a7 ?_;refine lg 13 rfl rfl rfl ?_;refine gy ?_;(iterate 2 refine qy ?_)
    refine rc rfl rfl rfl rfl rfl rfl aot (aq6 l 41 1 (fun j=>[bx (asC ((cz n l m x).getD i default))].getD j .any) (y9 ((cz n l m x).getD i default)) am4 (fun f=>anj f ((cz n l m x).getD i default))) (CoL.refl _) rfl rfl ?_
    refine a6 ?_;refine a8 _ rfl (fun r3=>?_) (fun r3=>?_)
    ·
     have h3:=r3
     have ha:l.any (y9 ((cz n l m x).getD i default)) = true:=r3
     refine gy ?_;(iterate 4 refine qy ?_);refine a6 ?_;refine gy ?_;(iterate 2 refine qy ?_);refine a6 ?_;refine ⟨i + 1, ?_, ?_, ?_⟩
     · show i + 1 ≤ _;omega
     · first | omega | (dsimp only;omega)
     · exact ⟨⟨⟨_,rfl,(by first | exact l7 (congrArg asI (a8r hil hq)) | exact l7 (congrArg asI (a7p hil hq ha)) | exact l7 ((bOr _ _).trans (congrArg asI (a8g hil hq ha))))⟩,zy,c9,c9,c9,trivial⟩,trivial⟩
    ·
     have h3:=r3
     have ha:l.any (y9 ((cz n l m x).getD i default)) = false:=r3
     refine aa ?_;refine gy ?_;(iterate 2 refine qy ?_);refine a6 ?_;refine ⟨i + 1, ?_, ?_, ?_⟩
     · show i + 1 ≤ _;omega
     · first | omega | (dsimp only;omega)
     · exact ⟨⟨⟨_,rfl,(by first | exact l7 (congrArg asI (a8r hil hq)) | exact l7 (congrArg asI (a7p hil hq ha)) | exact l7 ((bOr _ _).trans (congrArg asI (a8g hil hq ha))))⟩,zy,c9,c9,c9,trivial⟩,trivial⟩
  ·
   have h1:=of_decide_eq_false r1
   try simp only [ty] at h1
   obtain rfl:i = (cz n l m x).length:=Nat.le_antisymm hi (Nat.le_of_not_lt fun q=>h1 (Int.ofNat_lt.2 q))
   rw [show (cz n l m x).take (cz n l m x).length = (cz n l m x) from List.take_length]
   refine az ?_;refine sx7 ?_;(iterate 3 refine qy ?_);refine a6 ?_
   exact hx8 rfl rfl rfl (⟨cci (congrArg asI (show tj n l m x = abv n l m x from (if_pos hz).symm)),cci hz.symm,trivial⟩)
theorem a8o:am Tryd.prog 21:=⟨Tryd.f21,Tryd.func21,by kernel_rfl,by kernel_rfl⟩
theorem a4z (n:Int) (l m:List Fd) (s:AS):ao Tryd.prog 21 [pI n,pP (fdl l),pP (fdl m),pA s] (ay [pI (ck4 n l m s)]):=by
 refine ak (nt:=27) ai Tryd.func21 rfl rfl l9 ?_;refine sx7 ?_;refine qy ?_;refine a6 ?_;refine a7 ?_;refine sx7 ?_;(iterate 3 refine qy ?_);refine c4 rfl rfl (fun r0=>?_) (fun r0=>?_)
 ·
  have h0:=of_decide_eq_true r0
  try simp only [ty] at h0
  (iterate 2 refine k9 (gtf r0) ?_);refine rq rfl rfl rfl rfl rfl ?_ (hp:=r0);refine a6 ?_;refine a8 _ rfl (fun _=>?_) (fun e=>by cases e);refine sx7 ?_;refine qy ?_;refine a6 ?_
  exact hx8 rfl rfl rfl (⟨cci (ak1 (by omega)).symm,trivial⟩)
 ·
  have h0:=of_decide_eq_false r0
  try simp only [ty] at h0
  (iterate 2 refine qy ?_ (hg:=(gff r0)));refine qy ?_;refine a6 ?_;refine a8 _ rfl (fun r1=>?_) (fun r1=>?_)
  ·
   have h1:=r1
   have h1:=fk r0 h1
   have h1:=of_decide_eq_true h1
   try simp only [ty] at h1
   refine sx7 ?_;refine qy ?_;refine a6 ?_
   exact hx8 rfl rfl rfl (⟨cci (ak1 (by omega)).symm,trivial⟩)
  ·
   have h1:=r1
   have h1:=fk r0 h1
   have h1:=of_decide_eq_false h1
   try simp only [ty] at h1
   refine aa ?_;refine a7 ?_;refine sx7 ?_;(iterate 3 refine qy ?_);refine rc rfl rfl rfl rfl rfl rfl ady (abd n l m) (CoL.refl _) rfl rfl ?_;refine qy ?_;refine a6 ?_;refine sx7 ?_
   (iterate 2 refine qy ?_);refine a6 ?_;refine a8 _ rfl (fun r2=>?_) (fun r2=>?_)
   ·
    have h2:=r2
    have h2:=of_decide_eq_false (bn h2)
    try simp only [ty] at h2
    have hc:¬ (n < 0 ∨ 8 < n):=by omega
    refine sx7 ?_;(iterate 2 refine qy ?_);refine a6 ?_
    exact hx8 rfl rfl rfl (⟨cci ((zp hc).trans (ajt (by assumption))).symm,trivial⟩)
   ·
    have h2:=r2
    have h2:=of_decide_eq_true (bm h2)
    try simp only [ty] at h2
    have hb:eo n l m = 0:=h2
    obtain ⟨hn0,hn1,_⟩:=zb hb
    have hc:¬ (n < 0 ∨ 8 < n):=by omega
    refine aa ?_;refine a7 ?_;refine sx7 ?_;(iterate 2 refine qy ?_);refine rq rfl rfl rfl rfl rfl ?_ (hp:=hn0);refine qy ?_;refine a6 ?_;refine a8 _ rfl (fun r3=>?_) (fun r3=>?_)
    ·
     have h3:=r3
     have h3:=of_decide_eq_false (bn h3)
     try simp only [ty] at h3
     refine sx7 ?_;refine qy ?_;refine a6 ?_
     exact hx8 rfl rfl rfl (⟨cci ((zp hc).trans (ajx hb (fun e=>(by assumption:¬ _ = _) ((v8 s n.toNat).trans (congrArg asI e))))).symm,trivial⟩)
    ·
     have h3:=r3
     have h3:=of_decide_eq_true (bm h3)
     try simp only [ty] at h3
     refine aa ?_;refine sx7 ?_;refine qy ?_;refine a6 ?_
     exact hx8 rfl rfl rfl (⟨cci ((zp hc).trans (a2o hb (fb.1 ((v8 s n.toNat).symm.trans (by assumption))))).symm,trivial⟩)
end Go.Hx
end
section
namespace Go.Hx
open Go.Proofs
set_option maxRecDepth 100000
set_option maxHeartbeats 1000000
theorem a89 {n:Int} (h:n ≤ 16):aq n >>> n.toNat = 0:=by
 unfold aq
 rw [show min n.toNat 32 = n.toNat by omega]
 exact (vq (by omega)).1 (jq _)
theorem aiw {n:Int} {l m:List Fd} {x:AS} (h:ckB n l m x = 0):ao Tryd.prog 42 [pI n,pP (fdl l),pP (fdl m),pA x] (ay [pP (asl (cz n l m x)),pI 0]):=by
 have:=aka n l m x
 rw [h,show ahi n l m x = cz n l m x from if_pos h] at this
 exact this
theorem aig {n:Int} {l m:List Fd} {x:AS} (h:ckB n l m x = 0):ao Tryd.prog 23 [pI n,pP (fdl l),pP (fdl m),pA x] (ay [pA (tj n l m x),pI 0]):=by
 have:=al0 n l m x
 rw [h,show abv n l m x = tj n l m x from if_pos h] at this
 exact this
theorem ae4 {n:Int} {l m:List Fd} {p x:AS} (h:p &&& ~~~(tj n l m x) = 0):vb n l m p x = none:=if_pos h
theorem aek {n:Int} {l m:List Fd} {p x:AS} (h:¬ p &&& ~~~(tj n l m x) = 0) (h2:¬ 1 < (fv n l m x p).length):vb n l m p x = none:=by unfold vb;rw [if_neg h,if_neg h2]
theorem aoh {n:Int} {l m:List Fd} {p x:AS} (h:¬ p &&& ~~~(tj n l m x) = 0) (h2:1 < (fv n l m x p).length):vb n l m p x = some ⟨x,(fv n l m x p).getD 0 default⟩:=by unfold vb;rw [if_neg h,if_pos h2]
def is4 (n:Int) (l m:List Fd):Bool:=if ck4 n l m 0 = 0 then !(w8 n l m (aq n)).2 else false
theorem anb:am Tryd.prog 24:=⟨Tryd.f24,Tryd.func24,by kernel_rfl,by kernel_rfl⟩
theorem apt (n:Int) (l m:List Fd) (x p:AS):ao Tryd.prog 24 [pI n,pP (fdl l),pP (fdl m),pA x,pA p] (ay [pP (asl (ah6 n l m x p)),pI (ck4 n l m (x ||| p))]):=by
 refine ak (nt:=58) ai Tryd.func24 rfl rfl l9 ?_;refine sx7 ?_;(iterate 2 refine qy ?_);refine a6 ?_;refine a7 ?_;refine sx7 ?_;(iterate 6 refine qy ?_)
 refine rc rfl rfl rfl rfl rfl rfl a8o (a4z n l m (x ||| p)) (⟨CoC.refl _,CoC.refl _,CoC.refl _,cci (bOr _ _),trivial⟩) rfl rfl ?_;refine qy ?_;refine a6 ?_;refine sx7 ?_;(iterate 2 refine qy ?_)
 refine a6 ?_;refine a8 _ rfl (fun r0=>?_) (fun r0=>?_)
 ·
  have h0:=r0
  have h0:=of_decide_eq_false (bn h0)
  try simp only [ty] at h0
  refine sx7 ?_;(iterate 3 refine qy ?_);refine a6 ?_
  exact hx8 rfl rfl rfl (⟨CoC.one (aca (if_neg (by assumption))),CoC.refl _,trivial⟩)
 ·
  have h0:=r0
  have h0:=of_decide_eq_true (bm h0)
  try simp only [ty] at h0
  have hz:ck4 n l m (x ||| p) = 0:=h0
  have hx:=a5c (a2i hz).2.2 (va (a:=x) (b:=p))
  refine aa ?_;refine sx7 ?_;(iterate 4 refine qy ?_);refine rc rfl rfl rfl rfl rfl rfl ap3 (aiw hx) (CoL.refl _) rfl rfl ?_;(iterate 5 refine qy ?_);refine a6 ?_;refine a7 ?_;refine sx7 ?_
  (iterate 2 refine qy ?_);refine a6 ?_;refine a8 _ rfl (fun e=>by cases e) (fun _=>?_);refine aa ?_;refine sx7 ?_;refine qy ?_;refine a6 ?_;refine a7 ?_;refine sx7 ?_;(iterate 3 refine qy ?_)
  refine a6 ?_;refine ah ?_;refine gf 15 900 true 1 40 (lf sC []) (by decide) rfl (CoP.sl rfl (.inr rfl) (fun h=>h) (fun i j hi _=>absurd hi (Nat.not_lt_zero i))) (.inr rfl) rfl ?_
  have hbl:=a1t n l m x
  refine b4 (ι:=Nat) ⟨[(4,some _),(39,some _),(40,some _)],[]⟩ ⟨⟨c9,c9,c9,trivial⟩,trivial⟩ (fun i=>⟨[(15,some (.v (.one (.ref 900 (jz p ((cz n l m x).take i)).length)))),(41,some (vI i))],[(900,some (.arr true 1 40 (jz p ((cz n l m x).take i)).length (lf sC (jz p ((cz n l m x).take i)))))]⟩) (fun i=>i ≤ (cz n l m x).length) (fun i=>(cz n l m x).length - i) (0) (Nat.zero_le _) ⟨⟨⟨_,rfl,(CoR.refl _)⟩,⟨_,rfl,(CoR.refl _)⟩,trivial⟩,⟨u9,trivial⟩⟩ ?_
  rintro i hi
  have hcl:(jz p ((cz n l m x).take i)).length ≤ i:=Nat.le_trans (a84 _ _) (by rw [List.length_take];omega)
  refine sx7 ?_;refine qy ?_;refine a6 ?_;refine a7 ?_;refine a8 _ rfl (fun r1=>?_) (fun r1=>?_)
  ·
   have h1:=of_decide_eq_true r1
   try simp only [ty] at h1
   refine aa ?_;refine a7 ?_;refine ah ?_;refine sx7 ?_;(iterate 3 refine qy ?_);refine a6 ?_;refine sx7 ?_;(iterate 4 refine qy ?_);refine a6 ?_;refine a8 _ rfl (fun r2=>?_) (fun r2=>?_)
   ·
    have h2:=r2
    have h2:=of_decide_eq_false (bn h2)
    try simp only [ty] at h2
    have hq:¬ (cz n l m x).getD i default &&& p = 0:=tq h2
    refine gy ?_;(iterate 4 refine qy ?_);refine m9 0 ?_;refine ra 1 true rfl rfl rfl rfl rfl rfl ?_;refine qy ?_;refine a6 ?_;refine gy ?_;(iterate 2 refine qy ?_);refine a6 ?_
    first | (refine ⟨i + 1, ?_, ?_, ?_⟩
             · show i + 1 ≤ _;omega
             · first | omega | (dsimp only;omega)
             · exact ⟨⟨⟨_,rfl,(ej (a3o (by omega) hq))⟩,⟨_,rfl,(CoR.refl _)⟩,c9,c9,c9,trivial⟩,⟨⟨_,rfl,(i7 (a3o (by omega) hq) (CoP.of_eq (congrArg (fun z=>PV.raw (.int .u32 z)) (iz _ _))))⟩,trivial⟩⟩)
          | (refine ⟨i + 1, ?_, ?_, ?_⟩
             · show i + 1 ≤ _;omega
             · first | omega | (dsimp only;omega)
             · exact ⟨⟨⟨_,rfl,(cn (a41 (by omega) hq))⟩,⟨_,rfl,(CoR.refl _)⟩,c9,c9,c9,trivial⟩,⟨⟨_,rfl,(c5 (a41 (by omega) hq))⟩,trivial⟩⟩)
   ·
    have h2:=r2
    have h2:=of_decide_eq_true (bm h2)
    try simp only [ty] at h2
    have hq:(cz n l m x).getD i default &&& p = 0:=zh h2
    refine aa ?_;refine gy ?_;(iterate 2 refine qy ?_);refine a6 ?_
    first | (refine ⟨i + 1, ?_, ?_, ?_⟩
             · show i + 1 ≤ _;omega
             · first | omega | (dsimp only;omega)
             · exact ⟨⟨⟨_,rfl,(ej (a3o (by omega) hq))⟩,⟨_,rfl,(CoR.refl _)⟩,c9,c9,c9,trivial⟩,⟨⟨_,rfl,(i7 (a3o (by omega) hq) (CoP.of_eq (congrArg (fun z=>PV.raw (.int .u32 z)) (iz _ _))))⟩,trivial⟩⟩)
          | (refine ⟨i + 1, ?_, ?_, ?_⟩
             · show i + 1 ≤ _;omega
             · first | omega | (dsimp only;omega)
             · exact ⟨⟨⟨_,rfl,(cn (a41 (by omega) hq))⟩,⟨_,rfl,(CoR.refl _)⟩,c9,c9,c9,trivial⟩,⟨⟨_,rfl,(c5 (a41 (by omega) hq))⟩,trivial⟩⟩)
  ·
   have h1:=of_decide_eq_false r1
   try simp only [ty] at h1
   obtain rfl:i = (cz n l m x).length:=by omega
   rw [show (cz n l m x).take (cz n l m x).length = (cz n l m x) from List.take_length]
   refine az ?_;refine a7 ?_;refine dl 15 rfl rfl rfl ?_;refine gy ?_;refine qy ?_;refine rc rfl rfl rfl rfl rfl rfl a3b (a2x (jz p (cz n l m x)) (aaq n l m x p)) (CoL.refl _) rfl rfl ?_
   (iterate 2 refine qy ?_);refine a6 ?_
   exact hx8 rfl rfl rfl (⟨CoC.one (CoP.of_eq (by rw [show ah6 n l m x p = fv n l m x p from if_pos hz];rfl)),cci hz.symm,trivial⟩)
theorem apm {n:Int} {l m:List Fd} {x p:AS} (h:ck4 n l m (x ||| p) = 0):ao Tryd.prog 24 [pI n,pP (fdl l),pP (fdl m),pA x,pA p] (ay [pP (asl (fv n l m x p)),pI 0]):=by
 have:=apt n l m x p
 rw [h,show ah6 n l m x p = fv n l m x p from if_pos h] at this
 exact this
theorem a2u:am Tryd.prog 11:=⟨Tryd.f11,Tryd.func11,by kernel_rfl,by kernel_rfl⟩
theorem ad4 (n:Int) (l m:List Fd) (p:AS):ao Tryd.prog 11 [pI n,pP (fdl l),pP (fdl m),pA p] (ay [(w8 n l m p).1.pc,pB (w8 n l m p).2,pI (ck4 n l m p)]):=by
 refine ak (nt:=72) ai Tryd.func11 rfl rfl l9 ?_;refine sx7 ?_;refine m9 0 ?_;(iterate 2 refine qy ?_);refine a6 ?_;refine a7 ?_;refine sx7 ?_;(iterate 4 refine qy ?_)
 refine rc rfl rfl rfl rfl rfl rfl a8o (a4z n l m p) (CoL.refl _) rfl rfl ?_;refine qy ?_;refine a6 ?_;refine sx7 ?_;(iterate 2 refine qy ?_);refine a6 ?_;refine a8 _ rfl (fun r0=>?_) (fun r0=>?_)
 ·
  have h0:=r0
  have h0:=of_decide_eq_false (bn h0)
  try simp only [ty] at h0
  refine sx7 ?_;(iterate 2 refine qy ?_);refine s9 ?_;(iterate 2 refine qy ?_);refine a6 ?_
  exact hx8 rfl rfl rfl (by rw [aly (by assumption)];exact ⟨CoC.agg ⟨CoP.of_eq rfl,CoP.of_eq rfl,trivial⟩,CoC.refl _,CoC.refl _,trivial⟩)
 ·
  have h0:=r0
  have h0:=of_decide_eq_true (bm h0)
  try simp only [ty] at h0
  have hz:ck4 n l m p = 0:=h0
  have hsl:=afr p
  refine aa ?_;refine a7 ?_;refine sx7 ?_;refine qy ?_;refine rc rfl rfl rfl rfl rfl rfl ang (aqc p) (CoL.refl _) rfl rfl ?_;(iterate 2 refine qy ?_);refine a6 ?_;refine ah ?_
  refine b4 (ι:=Nat) ⟨[(0,some _),(1,some _),(2,some _),(3,some _),(8,some _),(27,some _),(28,some _)],[(0,some _)]⟩ ⟨⟨c9,c9,c9,c9,c9,c9,c9,trivial⟩,⟨u9,trivial⟩⟩ (fun i=>⟨[(29,some (vI i))],[]⟩) (fun i=>i ≤ (d7 p).length ∧ ((d7 p).take i).findSome? (vb n l m p) = none) (fun i=>(d7 p).length - i) (0) (⟨Nat.zero_le _,rfl⟩) ⟨⟨⟨_,rfl,(CoR.refl _)⟩,trivial⟩,trivial⟩ ?_
  rintro i ⟨hi,hI⟩
  refine sx7 ?_;refine qy ?_;refine a6 ?_;refine a7 ?_;refine a8 _ rfl (fun r1=>?_) (fun r1=>?_)
  ·
   have h1:=of_decide_eq_true r1
   try simp only [ty] at h1
   have hil:i < (d7 p).length:=by omega
   have hxs:sub ((d7 p).getD i default) p:=y5 (o3 hil)
   have hX:ckB n l m ((d7 p).getD i default) = 0:=a5c (a2i hz).2.2 hxs
   have hXp:ck4 n l m (((d7 p).getD i default) ||| p) = 0:=a4m hz (tv hxs (jq p))
   refine aa ?_;refine a7 ?_;refine ah ?_;refine sx7 ?_;(iterate 3 refine qy ?_);refine a6 ?_;refine sx7 ?_;(iterate 4 refine qy ?_)
   refine rc rfl rfl rfl rfl rfl rfl amq (aig hX) (CoL.refl _) rfl rfl ?_;(iterate 5 refine qy ?_);refine a6 ?_;refine a7 ?_;refine sx7 ?_;(iterate 2 refine qy ?_);refine a6 ?_
   refine a8 _ rfl (fun e=>by cases e) (fun _=>?_);refine aa ?_;refine a7 ?_;refine sx7 ?_;(iterate 4 refine qy ?_);refine a6 ?_;refine a8 _ rfl (fun r2=>?_) (fun r2=>?_)
   ·
    have h2:=of_decide_eq_true r2
    try simp only [ty] at h2
    have hq:p &&& ~~~(tj n l m ((d7 p).getD i default)) = 0:=ajd h2
    refine az ?_;refine gy ?_;(iterate 2 refine qy ?_);refine a6 ?_;refine ⟨i + 1, ?_, ?_, ?_⟩
    · exact ⟨by omega,(ym hil hI).trans (by first | exact ae4 hq | exact aek hq hc)⟩
    · first | omega | (dsimp only;omega)
    · exact ⟨⟨⟨_,rfl,(CoR.refl _)⟩,c9,c9,c9,c9,c9,c9,c9,trivial⟩,⟨u9,trivial⟩⟩
   ·
    have h2:=of_decide_eq_false r2
    try simp only [ty] at h2
    have hq:¬ p &&& ~~~(tj n l m ((d7 p).getD i default)) = 0:=aez h2
    refine aa ?_;refine sx7 ?_;(iterate 5 refine qy ?_);refine rc rfl rfl rfl rfl rfl rfl anb (apm hXp) (CoL.refl _) rfl rfl ?_;(iterate 5 refine qy ?_);refine a6 ?_;refine a7 ?_;refine sx7 ?_
    (iterate 2 refine qy ?_);refine a6 ?_;refine a8 _ rfl (fun e=>by cases e) (fun _=>?_);refine aa ?_;refine sx7 ?_;(iterate 3 refine qy ?_);refine a6 ?_
    refine a8 _ rfl (fun r3=>?_) (fun r3=>?_)
    ·
     have h3:=of_decide_eq_true r3
     try simp only [ty] at h3
     have hc:1 < (fv n l m ((d7 p).getD i default) p).length:=by omega
     have hcl:(fv n l m ((d7 p).getD i default) p).length ≤ 8589934592:=Nat.le_trans (zj _) (aaq n l m ((d7 p).getD i default) p)
     refine sx7 ?_;(iterate 5 refine qy ?_);refine s9 ?_;(iterate 2 refine qy ?_);refine a6 ?_;refine fh ?_;refine ⟨.inr rfl, ?_⟩
     have he:w8 n l m p = (⟨((d7 p).getD i default),(fv n l m ((d7 p).getD i default) p).getD 0 default⟩,true):=by
      rw [a7y hz,show da n l m p = some _ from ae9 hil hI (aoh hq hc)]
      rfl
     exact f9 rfl rfl (by rw [he];exact ⟨CoC.agg ⟨CoP.refl _,CoP.refl _,trivial⟩,CoC.refl _,cci hz.symm,trivial⟩)
    ·
     have h3:=of_decide_eq_false r3
     try simp only [ty] at h3
     have hc:¬ 1 < (fv n l m ((d7 p).getD i default) p).length:=by omega
     refine aa ?_;refine gy ?_;(iterate 2 refine qy ?_);refine a6 ?_;refine ⟨i + 1, ?_, ?_, ?_⟩
     · exact ⟨by omega,(ym hil hI).trans (by first | exact ae4 hq | exact aek hq hc)⟩
     · first | omega | (dsimp only;omega)
     · exact ⟨⟨⟨_,rfl,(CoR.refl _)⟩,c9,c9,c9,c9,c9,c9,c9,trivial⟩,⟨u9,trivial⟩⟩
  ·
   have h1:=of_decide_eq_false r1
   try simp only [ty] at h1
   obtain rfl:i = (d7 p).length:=by omega
   rw [show (d7 p).take (d7 p).length = (d7 p) from List.take_length] at hI
   refine az ?_;refine sx7 ?_;refine qy ?_;refine s9 ?_;(iterate 2 refine qy ?_);refine a6 ?_;refine fh ?_;refine ⟨.inr rfl, ?_⟩
   have he:w8 n l m p = (⟨0,0⟩,false):=by
    rw [a7y hz,show da n l m p = none from hI]
    rfl
   exact f9 rfl rfl (by rw [he];exact ⟨CoC.agg ⟨CoP.of_eq rfl,CoP.of_eq rfl,trivial⟩,CoC.refl _,cci hz.symm,trivial⟩)
theorem af7 {n:Int} {l m:List Fd} {p:AS} (h:ck4 n l m p = 0):ao Tryd.prog 11 [pI n,pP (fdl l),pP (fdl m),pA p] (ay [(vF (da n l m) p).pc,pB (vBo (da n l m) p),pI 0]):=by
 have:=ad4 n l m p
 rw [h,a7y h] at this
 exact this
theorem ag4 {V:AS → Option Fd} {t:List AS} {i j:Nat} (h:i = j):PV.raw (.int .u32 (ct .andNot .u32 (asI (t.getD i default)) (asI (vF V (t.getD j default)).rhs))) = sC (qw V (t.getD j default)) 0:=by
 subst h
 exact congrArg (fun z=>PV.raw (.int .u32 z)) (ko _ _)
theorem aay {n:Int} {l m:List Fd} {t:List AS} {s:AS} (ht:∀ q ∈ t,ck4 n l m q = 0) (hv:vBo (da n l m) s = true) (hs:ck4 n l m s = 0):∀ q ∈ t ++ [ss (da n l m) s,qw (da n l m) s],ck4 n l m q = 0:=by
 intro q hq
 rcases List.mem_append.1 hq with hq | hq
 · exact ht q hq
 · obtain ⟨h1,h2,h3⟩:=a1o n l m s _ (a1d hv)
   simp only [List.mem_cons,List.not_mem_nil,or_false] at hq
   rcases hq with rfl | rfl
   · exact a4m hs h1
   · exact a4m hs a5s
theorem ag8:am Tryd.prog 15:=⟨Tryd.f15,Tryd.func15,by kernel_rfl,by kernel_rfl⟩
theorem ak3 (n:Int) (l m:List Fd):ao Tryd.prog 15 [pI n,pP (fdl l),pP (fdl m)] (ay [pP (asl (a8p n l m)),pI (ck4 n l m 0)]):=by
 refine ak (nt:=71) ai Tryd.func15 rfl rfl l9 ?_;refine sx7 ?_;(iterate 2 refine qy ?_);refine a6 ?_;refine a7 ?_;refine sx7 ?_;(iterate 3 refine qy ?_)
 refine rc rfl rfl rfl rfl rfl rfl a8o (a4z n l m 0) (CoL.refl _) rfl rfl ?_;refine qy ?_;refine a6 ?_;refine sx7 ?_;(iterate 2 refine qy ?_);refine a6 ?_;refine a8 _ rfl (fun r0=>?_) (fun r0=>?_)
 ·
  have h0:=r0
  have h0:=of_decide_eq_false (bn h0)
  try simp only [ty] at h0
  refine sx7 ?_;(iterate 3 refine qy ?_);refine a6 ?_
  exact hx8 rfl rfl rfl (⟨CoC.one (aca (alz (by assumption))),CoC.refl _,trivial⟩)
 ·
  have h0:=r0
  have h0:=of_decide_eq_true (bm h0)
  try simp only [ty] at h0
  have hz:ck4 n l m 0 = 0:=h0
  obtain ⟨hn0,hn8,hb⟩:=a2i hz
  have hn1:n ≤ 16:=by omega
  have hf:ck4 n l m (aq n) = 0:=by rw [zp (by omega)];exact a2o (yy hb).1 (a89 hn1)
  refine aa ?_;refine sx7 ?_;(iterate 2 refine qy ?_);refine rq rfl rfl rfl rfl rfl ?_ (hp:=⟨a9o hn0 hn1,a61 hn0 hn1⟩);refine m9 0 ?_;refine qy ?_;refine a6 ?_;refine sx7 ?_;refine qy ?_
  refine a6 ?_;refine a7 ?_;refine ah ?_;refine gf 10 900 true 1 40 (lf sC []) (by decide) rfl (CoP.sl rfl (.inr rfl) (fun h=>h) (fun i j hi _=>absurd hi (Nat.not_lt_zero i))) (.inr rfl) rfl ?_
  refine yz 9 901 rfl rfl rfl rfl ?_
  refine b4 (ι := Nat × List AS × List AS) ⟨[(0, some _), (1, some _), (2, some _)], []⟩ ⟨⟨c9, c9, c9, trivial⟩, trivial⟩ (fun x => ⟨[(10, some (.v (.one (.ref 900 x.2.2.length)))), (9, some (.v (.one (.ref 901 x.2.1.length))))], [(900, some (.arr true 1 40 x.2.2.length (lf sC x.2.2))), (901, some (.arr true 1 40 x.2.1.length (lf sC x.2.1)))]⟩) (fun x => yk (da n l m) (aq n) x ∧ ∀ q ∈ x.2.1, ck4 n l m q = 0) (fun x => x.1) ((6562, [aq n], [])) (⟨af6 hn8, fun q hq => by
        simp only [List.mem_singleton] at hq
        rw [hq];exact hf⟩) ⟨⟨zy,zy,trivial⟩,⟨u9,⟨_,rfl,(a9b (CoP.of_eq (congrArg (fun z=>PV.raw (.int .u32 z)) (a38 hn0 hn1))))⟩,trivial⟩⟩ ?_
  rintro x ⟨hx,hk⟩
  have hlen:=wh hx
  refine yz 9 902 rfl rfl rfl rfl ?_;refine a7 ?_;refine sx7 ?_;(iterate 3 refine qy ?_);refine a6 ?_;refine a8 _ rfl (fun r1=>?_) (fun r1=>?_)
  ·
   have h1:=of_decide_eq_true r1
   try simp only [ty] at h1
   have hs:ck4 n l m (x.2.1.getD (x.2.1.length - 1) default) = 0:=hk _ (o3 (by omega))
   refine aa ?_;refine ah ?_;refine sx7 ?_;(iterate 7 refine qy ?_);refine a6 ?_;refine sx7 ?_;(iterate 6 refine qy ?_);refine a6 ?_
   refine aik ⟨[(0,some _),(1,some _),(2,some _),(9,some _),(10,some _),(11,some _)],[(900,some _),(902,some _)]⟩ (by exact ⟨⟨c9,c9,c9,c9,c9,c9,trivial⟩,⟨u9,u9,trivial⟩⟩) ?_
   refine agt 9 901 rfl rfl rfl rfl (by simp only [f0,bz,Int.toNat_natCast];omega) rfl ?_;refine sx7 ?_;(iterate 4 refine qy ?_)
   refine rc rfl rfl rfl rfl rfl rfl a2u (af7 (p:=(x.2.1.getD (x.2.1.length - 1) default)) hs) (⟨CoC.refl _,CoC.refl _,CoC.refl _,CoC.one (CoP.of_eq (congrArg (fun i=>asC (x.2.1.getD i default)) (by omega))),trivial⟩) rfl rfl ?_
   (iterate 4 refine qy ?_);refine m9 1 ?_;refine s9 ?_;(iterate 2 refine qy ?_);refine a6 ?_;refine a7 ?_;refine sx7 ?_;(iterate 2 refine qy ?_);refine a6 ?_
   refine a8 _ rfl (fun e=>by cases e) (fun _=>?_);refine aa ?_;refine sx7 ?_;refine qy ?_;refine a6 ?_;refine a8 _ rfl (fun r2=>?_) (fun r2=>?_)
   ·
    have h2:=r2
    have hv:vBo (da n l m) (x.2.1.getD (x.2.1.length - 1) default) = true:=r2
    refine gy ?_;(iterate 10 refine qy ?_);refine m9 2 ?_;refine ra 3 true rfl rfl rfl rfl rfl rfl ?_;refine qy ?_;refine a6 ?_
    first | (refine ⟨(x.1 - 1, (x.2.1.take (x.2.1.length - 1)) ++ [ss (da n l m) (x.2.1.getD (x.2.1.length - 1) default), qw (da n l m) (x.2.1.getD (x.2.1.length - 1) default)], x.2.2), ?_, ?_, ?_⟩
             · exact ⟨afx (a1o n l m) hx (by omega) hv,aay (fun q hq=>hk q (List.mem_of_mem_take hq)) hv hs⟩
             · dsimp only
               omega
             · exact ⟨⟨zy,⟨_,rfl,(a3w (by simp only [f0,bz,List.length_append,List.length_cons,List.length_nil,List.length_take];omega))⟩,c9,c9,c9,trivial⟩,⟨u9,⟨_,rfl,(aap (by simp only [f0,bz,List.length_append,List.length_cons,List.length_nil,List.length_take];omega) (fun i hi=>CoP.of_eq (a8m hi)) (CoP.of_eq (congrArg (fun z=>PV.raw (.int .u32 z)) (bOr _ _))) (CoP.of_eq (ag4 (by omega))) rfl)⟩,trivial⟩⟩)
          | (refine ⟨(x.1 - 1,(x.2.1.take (x.2.1.length - 1)),x.2.2 ++ [(x.2.1.getD (x.2.1.length - 1) default)]), ?_, ?_, ?_⟩
             · exact ⟨afz hx (by omega) hv,fun q hq=>hk q (List.mem_of_mem_take hq)⟩
             · dsimp only
               omega
             · exact ⟨⟨⟨_,rfl,(ej rfl)⟩,⟨_,rfl,(a3w (by simp only [f0,bz,List.length_append,List.length_cons,List.length_nil,List.length_take];omega))⟩,c9,c9,c9,trivial⟩,⟨⟨_,rfl,(i7 rfl (CoP.of_eq (congrArg (fun i=>asC (x.2.1.getD i default)) (by omega))))⟩,⟨_,rfl,(a9n (by omega) (by simp only [f0,bz];omega))⟩,trivial⟩⟩)
   ·
    have h2:=r2
    have hv:vBo (da n l m) (x.2.1.getD (x.2.1.length - 1) default) = false:=r2
    refine gy ?_;(iterate 2 refine qy ?_);refine m9 4 ?_;refine ra 5 true rfl rfl rfl rfl rfl rfl ?_;refine qy ?_;refine a6 ?_
    first | (refine ⟨(x.1 - 1, (x.2.1.take (x.2.1.length - 1)) ++ [ss (da n l m) (x.2.1.getD (x.2.1.length - 1) default), qw (da n l m) (x.2.1.getD (x.2.1.length - 1) default)], x.2.2), ?_, ?_, ?_⟩
             · exact ⟨afx (a1o n l m) hx (by omega) hv,aay (fun q hq=>hk q (List.mem_of_mem_take hq)) hv hs⟩
             · dsimp only
               omega
             · exact ⟨⟨zy,⟨_,rfl,(a3w (by simp only [f0,bz,List.length_append,List.length_cons,List.length_nil,List.length_take];omega))⟩,c9,c9,c9,trivial⟩,⟨u9,⟨_,rfl,(aap (by simp only [f0,bz,List.length_append,List.length_cons,List.length_nil,List.length_take];omega) (fun i hi=>CoP.of_eq (a8m hi)) (CoP.of_eq (congrArg (fun z=>PV.raw (.int .u32 z)) (bOr _ _))) (CoP.of_eq (ag4 (by omega))) rfl)⟩,trivial⟩⟩)
          | (refine ⟨(x.1 - 1,(x.2.1.take (x.2.1.length - 1)),x.2.2 ++ [(x.2.1.getD (x.2.1.length - 1) default)]), ?_, ?_, ?_⟩
             · exact ⟨afz hx (by omega) hv,fun q hq=>hk q (List.mem_of_mem_take hq)⟩
             · dsimp only
               omega
             · exact ⟨⟨⟨_,rfl,(ej rfl)⟩,⟨_,rfl,(a3w (by simp only [f0,bz,List.length_append,List.length_cons,List.length_nil,List.length_take];omega))⟩,c9,c9,c9,trivial⟩,⟨⟨_,rfl,(i7 rfl (CoP.of_eq (congrArg (fun i=>asC (x.2.1.getD i default)) (by omega))))⟩,⟨_,rfl,(a9n (by omega) (by simp only [f0,bz];omega))⟩,trivial⟩⟩)
  ·
   have h1:=of_decide_eq_false r1
   try simp only [ty] at h1
   refine az ?_;refine a7 ?_;refine dl 10 rfl rfl rfl ?_
   have hx0:x.2.1.length = 0:=by omega
   refine gy ?_;refine qy ?_;refine rc rfl rfl rfl rfl rfl rfl api (ahc x.2.2 (by omega)) (CoL.refl _) rfl rfl ?_;(iterate 2 refine qy ?_);refine a6 ?_
   exact hx8 rfl rfl rfl (⟨CoC.one (CoP.of_eq (by rw [anf hz,aih hx hx0];rfl)),cci hz.symm,trivial⟩)
end Go.Hx
end
