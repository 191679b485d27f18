/- A part of the proof: Bz3 Hx27 Y1. -/
import Derived.Test.YtodligmokcbbkaaGreatDoorRx19
import Derived.Test.YtodligmokcbbkaaGreatDoorRx22
import Derived.Test.YtodligmokcbbkaaGreatDoorRx23
set_option linter.all false
section
namespace Go.Hx
def ji:List AS → Nat
 | []=>0
 | b :: l=>b.toNat + ji l
theorem a1z:∀ (l k:List AS),ji (l ++ k) = ji l + ji k
 | [],k=>by simp [ji]
 | b :: l,k=>by simp [ji,a1z l k];omega
def OkB (l:List AS):Prop:=ji l < 4294967296 ∧ ∀ b ∈ l,b ≠ 0
theorem a5w {l:List AS} (h:OkB l):l.length ≤ 4294967296:=by
 have:∀ l:List AS,(∀ b ∈ l,b ≠ 0) → l.length ≤ ji l:=by
  intro l
  induction l with
  | nil=>intro _;simp [ji]
  | cons b l ih =>
   intro h
   have h1:=ih fun x hx=>h x (by simp [hx])
   have h2:=y8 (h b (by simp))
   simp only [List.length_cons,ji]
   omega
 have h1:=this l h.2
 have:=h.1
 omega
theorem apy (m:Fd) (l:List AS):ji (rdB m l) = ji l:=by
 have:∀ l:List AS,ji (l.map (hdB m)) + ji (l.flatMap (tlB m)) = ji l:=by
  intro l
  induction l with
  | nil=>rfl
  | cons b l ih =>
   rw [List.map_cons,List.flatMap_cons,a1z]
   simp only [ji]
   by_cases h:cz m b = true
   · have:=a1u b m.rhs
     simp only [hdB,tlB,h,if_true,ji]
     omega
   · rw [Bool.not_eq_true] at h
     simp only [hdB,tlB,h,ji,Bool.false_eq_true,if_false]
     omega
 unfold rdB
 rw [a1z]
 exact this l
theorem agu {m:Fd} {l:List AS} (h:OkB l):OkB (rdB m l):=by
 refine ⟨by rw [apy];exact h.1,fun b hb=>?_⟩
 unfold rdB at hb
 rcases List.mem_append.1 hb with hb | hb
 · obtain ⟨b0,h0,rfl⟩:=List.mem_map.1 hb
   unfold hdB
   split
   · rename_i hs;exact (xl.1 hs).2.1
   · exact h.2 _ h0
 · obtain ⟨b0,h0,hb⟩:=List.mem_flatMap.1 hb
   unfold tlB at hb
   split at hb
   · rename_i hs
     simp at hb
     subst hb
     exact (xl.1 hs).2.2
   · cases hb
theorem a73 (rest:AS):OkB (gm rest):=by
 unfold gm
 split
 · exact ⟨by simp [ji],fun _ h=>by cases h⟩
 · rename_i h
   exact ⟨by simp only [ji];have:=rest.isLt;omega,fun b hb=>by simp at hb;subst hb;exact h⟩
theorem a0d {rest:AS} (h:¬ rest = 0):gm rest = [] ++ [rest]:=by rw [gm,if_neg h];rfl
theorem a0b {rest:AS} (h:rest = 0):gm rest = []:=by rw [gm,if_pos h]
theorem a30 (m:Fd) (l:List AS):stB m l 0 = l:=by simp [stB]
theorem vq (m:Fd) (l:List AS):stB m l l.length = rdB m l:=by simp [stB,rdB]
theorem ns (m:Fd) (l:List AS) (i:Nat):((l.take i).map (hdB m)).length = min i l.length:=by simp
theorem amh {m:Fd} {l:List AS} {i:Nat} (h:i < l.length):(stB m l i).getD i default = l.getD i default:=by
 have e:((l.take i).map (hdB m)).length = i:=by rw [ns];omega
 unfold stB
 rw [List.append_assoc,List.getD_eq_getElem?_getD,List.getElem?_append_right (by rw [e];omega),e,Nat.sub_self,List.getElem?_append_left (by rw [List.length_drop];omega),List.getElem?_drop,Nat.add_zero,← List.getD_eq_getElem?_getD]
theorem stB_get' {m:Fd} {l:List AS} {i a:Nat} (hia:i ≤ a) (h:a < l.length):(stB m l i).getD a default = l.getD a default:=by
 have e:((l.take i).map (hdB m)).length = i:=by rw [ns];omega
 unfold stB
 rw [List.append_assoc,List.getD_eq_getElem?_getD,List.getElem?_append_right (by rw [e];omega),e,List.getElem?_append_left (by rw [List.length_drop];omega),List.getElem?_drop,show i + (a - i) = a by omega,← List.getD_eq_getElem?_getD]
theorem ad1 (m:Fd) (l:List AS) (i:Nat):l.length ≤ (stB m l i).length:=by
 unfold stB
 rw [List.length_append,List.length_append,ns,List.length_drop]
 omega
theorem a7i {l:List AS} {i:Nat} (h:i < l.length):l.drop i = l.getD i default :: l.drop (i + 1):=by
 rw [List.drop_eq_getElem_cons h]
 congr 1
 simp [List.getD_eq_getElem?_getD,List.getElem?_eq_getElem h]
theorem l3 {m:Fd} {l:List AS} {i:Nat} (h:i < l.length) (hs:cz m (l.getD i default) = false):stB m l (i + 1) = stB m l i:=by
 unfold stB
 rw [bh h,List.map_append,List.flatMap_append,a7i h]
 simp only [List.map_cons,List.map_nil,List.flatMap_cons,List.flatMap_nil,hdB,tlB,hs,Bool.false_eq_true,if_false,List.append_nil,List.append_assoc,List.cons_append,List.nil_append]
theorem a7z {m:Fd} {l:List AS} {i:Nat} (h:i < l.length) (hs:cz m (l.getD i default) = true):stB m l (i + 1) = (stB m l i).set i (l.getD i default &&& m.rhs) ++ [l.getD i default &&& ~~~m.rhs]:=by
 have e:((l.take i).map (hdB m)).length = i:=by rw [ns];omega
 unfold stB
 rw [bh h,List.map_append,List.flatMap_append,a7i h]
 simp only [List.map_cons,List.map_nil,List.flatMap_cons,List.flatMap_nil,hdB,tlB,hs,if_true,List.append_nil]
 generalize hA:(l.take i).map (hdB m) = A at e ⊢
 generalize (l.take i).flatMap (tlB m) = B
 generalize l.drop (i + 1) = D
 subst e
 rw [List.append_assoc A,List.append_assoc A,List.append_assoc A,List.set_append_right _ _ (Nat.le_refl _),Nat.sub_self,List.append_assoc A]
 simp
theorem ar8 (m:Fd) (l:List AS):∀ i,(stB m l i).length ≤ (rdB m l).length:=by
 intro i
 by_cases hi:i < l.length
 · have:∀ k,i + k ≤ l.length → (stB m l i).length ≤ (stB m l (i + k)).length:=by
    intro k
    induction k with
    | zero=>intro _;exact Nat.le_refl _
    | succ k ih =>
     intro hk
     have h1:=ih (by omega)
     refine Nat.le_trans h1 ?_
     cases hs:cz m (l.getD (i + k) default)
     · rw [show i + (k + 1) = i + k + 1 by omega,l3 (by omega) hs];exact Nat.le_refl _
     · rw [show i + (k + 1) = i + k + 1 by omega,a7z (by omega) hs,List.length_append,List.length_set];omega
   have h2:=this (l.length - i) (by omega)
   rw [show i + (l.length - i) = l.length by omega,vq] at h2
   exact h2
 · unfold stB rdB
   rw [List.take_of_length_le (by omega),List.drop_eq_nil_of_le (by omega)]
   simp
def yf (l:List AS) (i:Nat):Nat → Nat → PV:=fun k c=>if k < i then .any else sC (l.getD k default) c
theorem aof (l:List AS) (i:Nat):yf l i i 0 = asC (l.getD i default):=by
 unfold yf
 rw [if_neg (Nat.lt_irrefl i)]
theorem a0r {l:List AS} {i:Nat} {cl:Bool} {n:Nat} (hn:n = l.length):CoP (.sl n 1 cl (yf l i)) (.sl l.length 1 false (yf l (i + 1))):=by
 subst hn
 refine CoP.sl rfl (.inl rfl) (fun h=>by cases h) fun k c hk hc=>?_
 unfold yf
 by_cases h1:k < i
 · rw [if_pos h1,if_pos (show k < i + 1 by omega)];exact CoP.refl _
 · rw [if_neg h1]
   by_cases h2:k < i + 1
   · rw [if_pos h2];exact CoP.any_of
   · rw [if_neg h2];exact CoP.refl _
theorem aa0 {m:Fd} {L:List AS} {i k:Nat} {v:PV} (hil:i < L.length) (hk:k = i:=by rfl):CoP (.sl L.length 1 false (jt (lf sC (stB m L i)) k 0 [v])) (.sl L.length 1 false (yf L (i + 1))):=by
 subst hk
 refine CoP.sl rfl (.inl rfl) (fun h=>h) fun a c ha hc=>?_
 obtain rfl:c = 0:=by omega
 unfold yf
 by_cases h:a < k + 1
 · rw [if_pos h];exact CoP.any_of
 · rw [if_neg h]
   unfold jt lf
   rw [if_neg (by omega),stB_get' (by omega) ha]
   exact CoP.refl _
theorem afq {A B:List AS} {a:Nat} (h:a < A.length):(A ++ B).getD a default = A.getD a default:=by simp [List.getD_eq_getElem?_getD,List.getElem?_append_left h]
theorem afw {A:List AS} {x:AS}:(A ++ [x]).getD A.length default = x:=by simp [List.getD_eq_getElem?_getD]
theorem pl {wr wr':Bool} {e:TypeId} {m:Fd} {L:List AS} {i k:Nat} {u:Int} {g:Nat → Nat → PV} (hil:i < L.length) (hs:cz m (L.getD i default) = true) (hk:k = i) (hu:u = asI (L.getD i default &&& m.rhs)) (hg:CoP (g 0 0) (asC (L.getD i default &&& ~~~m.rhs))) (hw:wr' = true → wr = true:=by exact fun h=>h) :
 CoO (.arr wr 1 e ((stB m L i).length + 1) (fq (stB m L i).length (jt (lf sC (stB m L i)) k 0 [.raw (.int .u32 u)]) g)) (.arr wr' 1 e (stB m L (i + 1)).length (lf sC (stB m L (i + 1)))):=by
 subst hk hu
 have hl:=ad1 m L k
 rw [a7z hil hs]
 refine ⟨hw,rfl,rfl,by rw [List.length_append,List.length_set];rfl,fun a j ha hj=>?_⟩
 obtain rfl:j = 0:=by omega
 unfold fq
 generalize L.getD k default &&& m.rhs = X
 generalize L.getD k default &&& ~~~m.rhs = Y at hg ⊢
 generalize stB m L k = A at hl ha ⊢
 by_cases h:a < A.length
 · rw [if_pos h]
   refine CoP.of_eq ?_
   show jt (lf sC A) k 0 [.raw (.int .u32 (asI X))] a 0 = sC ((A.set k X ++ [Y]).getD a default) 0
   rw [afq (by rw [List.length_set];exact h)]
   unfold jt lf
   by_cases h2:a = k
   · subst h2
     rw [if_pos ⟨rfl,Nat.le_refl _,by simp⟩,kf h]
     rfl
   · rw [if_neg (by omega),getD_set_ne' h2]
 · obtain rfl:a = A.length:=by omega
   rw [if_neg h,Nat.sub_self]
   show CoP (g 0 0) (sC ((A.set k X ++ [Y]).getD A.length default) 0)
   have:=afw (A:=A.set k X) (x:=Y)
   rw [List.length_set] at this
   rw [this]
   exact hg
theorem xd {ms:List Fd} {l:List AS} {j:Nat} (h:j < ms.length):bu (ms.take (j + 1)) l = rdB (ms.getD j default) (bu (ms.take j) l):=by
 unfold bu
 rw [bh h,List.foldl_append]
 rfl
theorem acz:∀ (ms:List Fd) (m:Fd) (l:List AS),j4 (ms ++ [m]) l = (j4 ms l || (bu ms l).any (cz m))
 | [],m,l=>by simp [j4,bu]
 | k :: ms,m,l=>by
  simp only [List.cons_append,j4]
  rw [acz ms m (rdB k l),Bool.or_assoc]
  rfl
theorem a9p {ms:List Fd} {l:List AS} {j:Nat} (h:j < ms.length):j4 (ms.take (j + 1)) l = (j4 (ms.take j) l || (bu (ms.take j) l).any (cz (ms.getD j default))):=by
 rw [bh h,acz]
theorem a0m {l:List AS} (h:OkB l):∀ {ms:List Fd},OkB (bu ms l):=by
 intro ms
 induction ms generalizing l with
 | nil=>exact h
 | cons m ms ih=>exact ih (agu h)
structure BkI (ms:List Fd) (R:List AS) (x:Nat × List AS × Bool):Prop where
 ok:OkB x.2.1
 t:x.2.2 = true → qf ms x.1 x.2.1 = R ∧ muB x.2.1 < x.1
 f:x.2.2 = false → x.2.1 = R
theorem akl (ms:List Fd) (rest:AS):BkI ms (blks ms rest) (18446744073709551616,gm rest,true):=⟨a73 rest,fun _=>⟨rfl,a6l rest⟩,fun h=>by cases h⟩
theorem amv {ms:List Fd} {R l:List AS} {f:Nat} (h:BkI ms R (f,l,true)):BkI ms R (f - 1,bu ms l,j4 ms l) ∧ 0 < f:=by
 obtain ⟨h1,h2⟩:=h.t rfl
 have h2:muB l < f:=h2
 obtain ⟨g,rfl⟩:∃ g,f = g + 1:=⟨f - 1,by omega⟩
 have h3:=a5h ms l
 refine ⟨⟨a0m h.ok,fun hc=>?_,fun hc=>?_⟩,by omega⟩
 · have hc:j4 ms l = true:=hc
   have h1:qf ms (g + 1) l = R:=h1
   unfold qf at h1
   rw [if_pos hc] at h1 h3
   exact ⟨h1,by show muB (bu ms l) < g;omega⟩
 · have hc:j4 ms l = false:=hc
   have h1:qf ms (g + 1) l = R:=h1
   unfold qf at h1
   rw [hc] at h1
   exact h1
def ckB (n:Int) (l m:List Fd) (s:AS):Int:=if fp n l m = 0 then (if s >>> n.toNat = 0 then 0 else 1) else fp n l m
theorem am0 {n:Int} {l m:List Fd} {s:AS} (h:¬ fp n l m = 0):ckB n l m s = fp n l m:=if_neg h
theorem am6 {n:Int} {l m:List Fd} {s:AS} (h:fp n l m = 0) (h2:¬ s >>> n.toNat = 0):ckB n l m s = 1:=by unfold ckB;rw [if_pos h,if_neg h2]
theorem a83 {n:Int} {l m:List Fd} {s:AS} (h:fp n l m = 0) (h2:s >>> n.toNat = 0):ckB n l m s = 0:=by unfold ckB;rw [if_pos h,if_pos h2]
theorem zn {n:Int} {l m:List Fd} {s:AS} (h:ckB n l m s = 0):fp n l m = 0 ∧ s >>> n.toNat = 0:=by
 unfold ckB at h
 split at h
 · split at h
   · exact ⟨by assumption,by assumption⟩
   · cases h
 · exact absurd h (by assumption)
theorem ad8 (f:Fd):(sgl f).length ≤ 32:=by unfold sgl;rw [List.length_map];exact a8v _
def iq (fs ms:List Fd) (i k:Nat):List Fd:=ms ++ (fs.take i).flatMap sgl ++ (sgl (fs.getD i default)).take k
theorem a7a (fs ms:List Fd):iq fs ms 0 0 = ms:=by simp [iq]
theorem afk {fs ms:List Fd} {i:Nat} (h:i < fs.length):iq fs ms (i + 1) 0 = iq fs ms i (sgl (fs.getD i default)).length:=by
 unfold iq
 rw [bh h,List.flatMap_append,List.take_length]
 simp
theorem akq (fs ms:List Fd):iq fs ms fs.length 0 = ta fs ms:=by simp [iq,ta]
theorem ag0 {fs ms:List Fd} {i k:Nat} (h:k < (sgl (fs.getD i default)).length):iq fs ms i (k + 1) = iq fs ms i k ++ [(sgl (fs.getD i default)).getD k default]:=by
 unfold iq
 rw [bh h,← List.append_assoc]
theorem akp {fs ms:List Fd} {i k:Nat}:(iq fs ms i k).length ≤ ms.length + 32 * (i + 1):=by
 have:∀ l:List Fd,(l.flatMap sgl).length ≤ 32 * l.length:=by
  intro l
  induction l with
  | nil=>simp
  | cons f l ih =>
   rw [List.flatMap_cons,List.length_append,List.length_cons]
   have:=ad8 f
   omega
 have h1:=this (fs.take i)
 have h2:=ad8 (fs.getD i default)
 unfold iq
 rw [List.length_append,List.length_append,List.length_take]
 rw [List.length_take] at h1
 omega
end Go.Hx
end
section
namespace Go.Hx
open Go.RowKit
section
variable {ro:Option Nat} {P:Program} {nt:Nat} {st:HSt} {Q:Exit → HSt → Prop}
theorem pe {w0:World} {cc:Ctx} {a:Act} {w:World} (hrr:al w0 nt cc st.den a w) {d:Nat} {x:HR} (hx:aq cc st.den.o x (a.tmps.getD d undef)):al w0 nt cc (HSt.den ⟨(d,some x) :: st.t,st.o⟩) a w:=by
 refine ⟨hrr.defers,hrr.size,hrr.below,fun k y hy=>?_,hrr.objs,hrr.inj,hrr.imm,hrr.sep,hrr.was,hrr.frm,hrr.fsep,hrr.fixed⟩
 simp only [HSt.den] at hy
 rw [bq] at hy
 dsimp only at hy
 split at hy
 · rename_i hk
   subst hk
   simp only [Option.some.injEq] at hy
   subst hy
   exact hx
 · exact hrr.tmps k y hy
theorem ajm {c:Code} (d:Nat) {id n n' s:Nat} {wr:Bool} {e:TypeId} {f:Nat → Nat → PV} (hd:bn st.t d = some (.v (.one (.ref id n)))) (ho:bn st.o id = some (.arr wr s e n' f)) (hn:n' = n)
 (h:HW (ro:=ro) P nt c ⟨(d,some (.v (.one (.win id n 0 n)))) :: st.t,st.o⟩ Q):HW (ro:=ro) P nt c st Q:=by
 subst hn
 refine w7 st d _ (fun w0 m0 a w hr=>?_) h
 obtain ⟨cc,hold,hrr⟩:=hr
 refine ⟨cc,hold,hrr, ?_⟩
 have hu:b5 cc st.den.o (.ref id n') (a.tmps.getD d undef):=hrr.tmps d _ hd
 refine ⟨hu.1,hu.2.1,fun ob s2 e2 n2 ho2 hd2=>⟨(hu.2.2 _ _ _ _ ho2 hd2).1,fun hk=>?_⟩⟩
 have he:=(hu.2.2 _ _ _ _ ho2 hd2).2 hk
 obtain rfl:ob = .arr wr s e n' f:=Option.some.inj (ho2.symm.trans ho)
 simp only [ah.dim,Option.some.injEq,Prod.mk.injEq] at hd2
 obtain ⟨rfl,rfl,rfl⟩:=hd2
 obtain ⟨ad,cap,hv,hc1,hc2⟩:=rn (hrr.objs _ _ ho2)
 exact ⟨ad,ad,cap,hv,by rw [he,hv];rfl,by omega,hc1,hc2,fun _=>by cases ad <;> simp [kd]⟩
theorem an2 {c:Code} (d dh:Nat) {id n n' n0 k s:Nat} {e:TypeId} {f:Nat → Nat → PV} (hd:bn st.t d = some (.v (.one (.ref id n)))) (hh:bn st.t dh = some (.v (.one (.win id k 0 n0)))) (ho:bn st.o id = some (.arr true s e n' f)) (hn:n' = n) (hk:k = n) (hne:Nat.beq d dh = false)
 (hA:∀ ad cap,n + 1 ≤ cap → HW (ro:=ro) P nt c ⟨(d,some (.v (.one (.pin id n ad cap)))) :: (dh,some (bc (.raw (.slice ad n0 cap)))) :: st.t,st.o⟩ Q)
 (hB:HW (ro:=ro) P nt c ⟨(d,some (bc (.sl n s true f))) :: (dh,some (bc (.sl n0 s false f))) :: st.t,(id,none) :: st.o⟩ Q):HW (ro:=ro) P nt c st Q:=by
 subst hn hk
 intro w0 m0 a w hr
 obtain ⟨cc,hold,hrr⟩:=hr
 have hu:b5 cc st.den.o (.ref id k) (a.tmps.getD d undef):=hrr.tmps d _ hd
 have hv:b5 cc st.den.o (.win id k 0 n0) (a.tmps.getD dh undef):=hrr.tmps dh _ hh
 obtain ⟨ad,ad',cap,q1,q2,q3,q4,q5,q6⟩:=rr hv ho rfl
 have hu1:=(hu.2.2 _ _ _ _ ho rfl).2 rfl
 by_cases hc:k + 1 ≤ cap
 · obtain rfl:ad' = ad:=by
    rw [q6 (by omega)]
    cases ad <;> simp [kd]
   refine hA ad' cap hc w0 m0 a w ⟨cc,hold, ?_⟩
   have h1:al w0 nt cc (HSt.den ⟨(dh,some (bc (.raw (.slice ad' n0 cap)))) :: st.t,st.o⟩) a w:=pe hrr ⟨by simpa using q2,rfl⟩
   refine pe (st:=⟨(dh,some (bc (.raw (.slice ad' n0 cap)))) :: st.t,st.o⟩) h1 ⟨hu1.trans q1,hu.2.1,hu.2.2⟩
 · obtain rfl:cap = k:=by omega
   have hfr:=hrr.freeze (id:=id) ho
   rw [← wn] at hfr
   refine hB w0 m0 a w ⟨{ old:=cc.old,imm:=frozenImm cc w id,tab:=qk hrr ho,own:=cc.own,blk:=cc.blk,rows:=cc.rows },hold, ?_⟩
   have hfa:=nx hrr ho
   have h1:=pe (st:=⟨st.t,(id,none) :: st.o⟩) (d:=dh) (x:=bc (.sl n0 s false fun a b=>f (0 + a) b)) hfr (ae4 hrr ho hv)
   have e0:(fun a b=>f (0 + a) b) = f:=by funext a b;rw [Nat.zero_add]
   rw [e0] at h1
   refine pe (st:=⟨(dh,some (bc (.sl n0 s false f))) :: st.t,(id,none) :: st.o⟩) h1 ?_
   rw [hu1]
   obtain ⟨A,C,r1,r2,r3,r4,r5⟩:=hfa
   refine ⟨A,C,r1,r2,r3,fun _=>?_,r5⟩
   rw [q1] at r1
   simp only [Value.slice.injEq,true_and] at r1
   exact r1.2.symm
theorem ais {c:Code} (d dh:Nat) {id n n' n0 s cap:Nat} {ad:Option Addr} {e:TypeId} {f:Nat → Nat → PV} (hd:bn st.t d = some (.v (.one (.pin id n ad cap)))) (hh:bn st.t dh = some (bc (.raw (.slice ad n0 cap)))) (ho:bn st.o id = some (.arr true s e n' f)) (hn:n' = n) (hle:n0 ≤ n) (hne:Nat.beq d dh = false)
 (h:HW (ro:=ro) P nt c ⟨(d,some (.v (.one (.ref id n)))) :: (dh,some (.v (.one (.win id n 0 n0)))) :: st.t,st.o⟩ Q):HW (ro:=ro) P nt c st Q:=by
 subst hn
 intro w0 m0 a w hr
 obtain ⟨cc,hold,hrr⟩:=hr
 have hu:b5 cc st.den.o (.pin id n' ad cap) (a.tmps.getD d undef):=hrr.tmps d _ hd
 have hv:b5 cc st.den.o (.p (.raw (.slice ad n0 cap))) (a.tmps.getD dh undef):=hrr.tmps dh _ hh
 obtain ⟨hv1,_⟩:=hv
 have hu1:=(hu.2.2 _ _ _ _ ho rfl).2 rfl
 refine h w0 m0 a w ⟨cc,hold, ?_⟩
 have h1:al w0 nt cc (HSt.den ⟨(dh,some (.v (.one (.win id n' 0 n0)))) :: st.t,st.o⟩) a w:=by
  refine pe hrr ⟨by rw [hv1];rfl,hu.2.1,fun ob s2 e2 n2 ho2 hd2=>⟨(hu.2.2 _ _ _ _ ho2 hd2).1,fun hk=>?_⟩⟩
  obtain rfl:ob = .arr true s e n' f:=Option.some.inj (ho2.symm.trans ho)
  simp only [ah.dim,Option.some.injEq,Prod.mk.injEq] at hd2
  obtain ⟨rfl,rfl,rfl⟩:=hd2
  obtain ⟨ad2,cap2,g1,g2,g3⟩:=rn (hrr.objs _ _ ho2)
  have hown:cc.own id = .slice ad n' cap:=hu1.symm.trans hu.1
  rw [hown] at g1
  simp only [Value.slice.injEq,true_and] at g1
  obtain ⟨rfl,rfl⟩:=g1
  exact ⟨ad,ad,cap,hown,hv1,by omega,g2,g3,fun _=>by cases ad <;> simp [kd]⟩
 exact pe (st:=⟨(dh,some (.v (.one (.win id n' 0 n0)))) :: st.t,st.o⟩) h1 ⟨by rw [hu.1];rfl,hu.2.1,hu.2.2⟩
end
end Go.Hx
end
section
namespace Go.Hx
open Go.Proofs
set_option maxRecDepth 100000
set_option maxHeartbeats 1000000
theorem a0q {a b:AS} (h:d8 .and .u32 (asI a) (asI b) = 0):a &&& b = 0:=fz.1 ((kn a b).symm.trans h)
theorem wa {a b:AS} (h:¬ d8 .and .u32 (asI a) (asI b) = 0):¬ a &&& b = 0:=fun e=>h ((kn a b).trans (congrArg asI e))
theorem als {a b:AS} (h:d8 .andNot .u32 (asI a) (asI b) = 0):a &&& ~~~b = 0:=fz.1 ((jx a b).symm.trans h)
theorem ahg {a b:AS} (h:¬ d8 .andNot .u32 (asI a) (asI b) = 0):¬ a &&& ~~~b = 0:=fun e=>h ((jx a b).trans (congrArg asI e))
theorem a0g {m:Fd} {x:AS} (h:¬ x &&& m.lhs = 0):cz m x = false:=by unfold cz;rw [decide_eq_false h];rfl
theorem a10 {m:Fd} {x:AS} (h:x &&& m.rhs = 0):cz m x = false:=by simp [cz,h]
theorem aav (a b:AS):decide (d8 .and .u32 (asI a) (asI b) = 0) = decide (a &&& b = 0):=by
 by_cases h:d8 .and .u32 (asI a) (asI b) = 0
 · rw [decide_eq_true h,decide_eq_true (a0q h)]
 · rw [decide_eq_false h,decide_eq_false (wa h)]
theorem aru (a b:AS):decide (d8 .andNot .u32 (asI a) (asI b) = 0) = decide (a &&& ~~~b = 0):=by
 by_cases h:d8 .andNot .u32 (asI a) (asI b) = 0
 · rw [decide_eq_true h,decide_eq_true (als h)]
 · rw [decide_eq_false h,decide_eq_false (ahg h)]
theorem a0w (m:Fd) (x:AS):(bif (bif decide (d8 .and .u32 (asI x) (asI m.lhs) = 0) then !decide (d8 .and .u32 (asI x) (asI m.rhs) = 0) else false) then !decide (d8 .andNot .u32 (asI x) (asI m.rhs) = 0) else false) = cz m x:=by
 rw [aav,aav,aru]
 unfold cz
 by_cases h1:x &&& m.lhs = 0 <;> by_cases h2:x &&& m.rhs = 0 <;> by_cases h3:x &&& ~~~m.rhs = 0 <;> simp only [h1,h2,h3,decide_true,decide_false,ne_eq,not_true_eq_false,not_false_eq_true,Bool.not_true,Bool.not_false,cond_true,cond_false,Bool.and_self,Bool.and_true,Bool.true_and,Bool.and_false,Bool.false_and]
theorem pw {m:Fd} {l:List AS} {i:Nat} (c:Bool) (h:i < l.length) (hs:cz m (l.getD i default) = true):true = (c || (l.take (i + 1)).any (cz m)):=by
 rw [bh h,List.any_append];simp only [List.any_cons,List.any_nil,hs,Bool.or_true,Bool.or_false]
theorem yn {m:Fd} {l:List AS} {i:Nat} (c:Bool) (h:i < l.length) (hs:cz m (l.getD i default) = false):(c || (l.take i).any (cz m)) = (c || (l.take (i + 1)).any (cz m)):=by
 rw [bh h,List.any_append];simp only [List.any_cons,List.any_nil,hs,Bool.or_true,Bool.or_false]
def aem (x:Nat × List AS × Bool):Nat:=x.1 + (bif x.2.2 then 1 else 0)
theorem anf {f:Nat} {l l':List AS} {c:Bool} (h:0 < f):aem (f - 1,l',c) < aem (f,l,true):=by
 cases c <;> simp only [aem,cond_true,cond_false] <;> omega
theorem ai0:ak Tryz.prog 42:=⟨Tryz.f42,Tryz.func42,by kernel_rfl,by kernel_rfl⟩
theorem act (n:Int) (ms:List Fd) (x:AS) (h0:0 ≤ n) (h1:n ≤ 16):aj Tryz.prog 42 [pI n,pP (fdl ms),pA x] (ao [pP (asl (ord (blks ms (am n &&& ~~~x))))]):=by
 refine ai (nt:=76) ae Tryz.func42 rfl rfl l9 ?_
 refine j1 1 rfl fun hn=>?_
 have hrest:d8 .andNot .u32 (IntKind.wrap .u32 (1 * 2 ^ (min n.toNat 32)) - 1) (asI x) = asI (am n &&& ~~~x):=by rw [w4 h0 h1,jx]
 refine sx7 ?_;refine qy ?_;refine a6 ?_;refine sx7 ?_;refine qy ?_;refine a6 ?_
 refine jy 7 900 true 1 27 (lf sC []) (by decide) rfl (CoP.sl rfl (.inr rfl) (fun h=>h) (fun i j hi _=>absurd hi (Nat.not_lt_zero i))) (.inr rfl) rfl ?_
 refine cr (ι:=Unit) ⟨[(1,some _)],[]⟩ ⟨⟨c9,trivial⟩,trivial⟩ (fun _i=>⟨[(7,some (.v (.one (.ref 900 (gm (am n &&& ~~~x)).length))))],[(900,some (.arr true 1 27 (gm (am n &&& ~~~x)).length (lf sC (gm (am n &&& ~~~x)))))]⟩) (fun _i=>True) ?_ ?_
 ·
  refine sx7 ?_;(iterate 2 refine qy ?_);refine rq rfl rfl rfl rfl rfl ?_ (hp:=⟨xa h0 h1,tk h0 h1⟩);(iterate 3 refine qy ?_);refine a6 ?_;refine sx7 ?_;(iterate 2 refine qy ?_);refine a6 ?_
  refine a8 _ rfl (fun r0=>?_) (fun r0=>?_)
  ·
   have h0:=r0
   have h0:=of_decide_eq_false (b7 h0)
   try simp only [ty] at h0
   have hne:¬ (am n &&& ~~~x) = 0:=fun e=>h0 (hrest.trans (congrArg asI e))
   refine gy ?_;(iterate 2 refine qy ?_);refine m9 0 ?_;refine ra 1 true rfl rfl rfl rfl rfl rfl ?_;refine qy ?_;refine a6 ?_;refine ⟨(), ?_, ?_⟩
   · trivial
   · exact ⟨⟨⟨_,rfl,(by first | exact dw (a0d hne) | exact cw (a0b hz))⟩,c9,trivial⟩,⟨⟨_,rfl,(by first | exact ec (a0d hne) (CoP.of_eq (congrArg (fun z=>PV.raw (.int .u32 z)) hrest)) | exact c8 (a0b hz))⟩,trivial⟩⟩
  ·
   have h0:=r0
   have h0:=of_decide_eq_true (b6 h0)
   try simp only [ty] at h0
   have hz:(am n &&& ~~~x) = 0:=fz.1 (hrest.symm.trans h0)
   refine aa ?_;refine ⟨(), ?_, ?_⟩
   · trivial
   · exact ⟨⟨⟨_,rfl,(by first | exact dw (a0d hne) | exact cw (a0b hz))⟩,c9,trivial⟩,⟨⟨_,rfl,(by first | exact ec (a0d hne) (CoP.of_eq (congrArg (fun z=>PV.raw (.int .u32 z)) hrest)) | exact c8 (a0b hz))⟩,trivial⟩⟩
 · rintro _ _
   refine a7 ?_;refine sx7 ?_;refine qy ?_;refine a6 ?_;refine af ?_
   refine aw (ι:=(Nat × List AS × Bool)) ⟨[(1,some _)],[]⟩ ⟨⟨c9,trivial⟩,trivial⟩ (fun y=>⟨[(7,some (.v (.one (.ref 900 y.2.1.length)))),(9,some (vB y.2.2))],[(900,some (.arr true 1 27 y.2.1.length (lf sC y.2.1)))]⟩) (fun y=>BkI ms (blks ms (am n &&& ~~~x)) y) (fun y=>aem y) ((18446744073709551616,gm (am n &&& ~~~x),true)) (akl ms (am n &&& ~~~x)) ⟨⟨zy,zy,trivial⟩,⟨u9,trivial⟩⟩ ?_
   rintro ⟨f,l,ag⟩ hI
   refine a7 ?_;refine sx7 ?_;refine qy ?_;refine a6 ?_;refine a8 _ rfl (fun r1=>?_) (fun r1=>?_)
   ·
    have h1:=r1
    obtain rfl:ag = true:=r1
    obtain ⟨hI2,hf⟩:=amv hI
    have hok:=hI.ok
    refine aa ?_;refine af ?_;refine sx7 ?_;refine qy ?_;refine a6 ?_;refine sx7 ?_;(iterate 3 refine qy ?_);refine a6 ?_;refine af ?_
    refine aw (ι:=Nat) ⟨[(1,some _),(26,some _),(27,some _)],[]⟩ ⟨⟨c9,c9,c9,trivial⟩,trivial⟩ (fun j=>⟨[(7,some (.v (.one (.ref 900 (bu (ms.take j) l).length)))),(9,some (vB (j4 (ms.take j) l))),(28,some (vI j))],[(900,some (.arr true 1 27 (bu (ms.take j) l).length (lf sC (bu (ms.take j) l))))]⟩) (fun j=>j ≤ ms.length) (fun j=>ms.length - j) (0) (Nat.zero_le _) ⟨⟨zy,⟨_,rfl,(CoR.refl _)⟩,zy,trivial⟩,⟨u9,trivial⟩⟩ ?_
    rintro j hj
    have hokj:OkB (bu (ms.take j) l):=a0m hok
    have hlj:=a5w (agu (m:=(ms.getD j default)) hokj)
    refine sx7 ?_;refine qy ?_;refine a6 ?_;refine a7 ?_;refine a8 _ rfl (fun r2=>?_) (fun r2=>?_)
    ·
     have h2:=of_decide_eq_true r2
     try simp only [ty] at h2
     refine aa ?_;refine a7 ?_;refine af ?_;refine sx7 ?_;(iterate 2 refine qy ?_);refine m9 2 ?_;refine s9 ?_;refine a6 ?_;refine sx7 ?_;(iterate 3 refine qy ?_);refine a6 ?_;refine af ?_
     refine ajm 32 rfl rfl rfl ?_
     refine aw (ι:=(Nat × Bool)) ⟨[(1,some _),(11,some _),(26,some _),(27,some _),(28,some _),(33,some _)],[(2,some _)]⟩ ⟨⟨c9,c9,c9,c9,c9,c9,trivial⟩,⟨u9,trivial⟩⟩ (fun y=>⟨[(7,some (.v (.one (.ref (bif y.2 then 900 else 951) (stB (ms.getD j default) (bu (ms.take j) l) y.1).length)))),(9,some (vB (j4 (ms.take j) l || ((bu (ms.take j) l).take y.1).any (cz (ms.getD j default))))),(34,some (vI y.1)),(32,some (bif y.2 then .v (.one (.win 900 (stB (ms.getD j default) (bu (ms.take j) l) y.1).length 0 (bu (ms.take j) l).length)) else bc (.sl (bu (ms.take j) l).length 1 false (yf (bu (ms.take j) l) y.1))))],[(bif y.2 then 900 else 951,some (.arr true 1 27 (stB (ms.getD j default) (bu (ms.take j) l) y.1).length (lf sC (stB (ms.getD j default) (bu (ms.take j) l) y.1))))]⟩) (fun y=>y.1 ≤ (bu (ms.take j) l).length) (fun y=>(bu (ms.take j) l).length - y.1) ((0,true)) (Nat.zero_le _) ⟨⟨⟨_,rfl,(cw (a30 _ _))⟩,⟨_,rfl,(cob (by simp))⟩,⟨_,rfl,(CoR.refl _)⟩,⟨_,rfl,(CoR.of_eq (by rw [a30];rfl))⟩,trivial⟩,⟨⟨_,rfl,(c8 (a30 _ _))⟩,trivial⟩⟩ ?_
     rintro ⟨i,b⟩ hi
     have hi:i ≤ (bu (ms.take j) l).length:=hi
     have hsl:=ar8 (ms.getD j default) (bu (ms.take j) l) i
     have hsl2:=ad1 (ms.getD j default) (bu (ms.take j) l) i
     rcases b with _ | _
     ·
      show HW _ _ _ ⟨_ :: _,_⟩ _
      refine sx7 ?_;refine qy ?_;refine a6 ?_;refine a7 ?_;refine a8 _ rfl (fun r3=>?_) (fun r3=>?_)
      ·
       have h3:=of_decide_eq_true r3
       try simp only [ty] at h3
       have hil:i < (bu (ms.take j) l).length:=by omega
       refine aa ?_;refine a7 ?_;refine af ?_;refine sx7 ?_;(iterate 2 refine qy ?_)
       refine rq (out:=⟨_, .v (.one (.p (asC ((bu (ms.take j) l).getD i default))))⟩) rfl rfl rfl (congrArg (fun z=>some (Out.mk _ (HR.v (HC.one (HV.p z))))) (aof (bu (ms.take j) l) i)) rfl ?_
       (iterate 2 refine qy ?_);refine a6 ?_
       refine cr (ι:=Unit) ⟨[(1,some _),(7,some _),(9,some _),(11,some _),(12,some _),(13,some _),(26,some _),(27,some _),(28,some _),(32,some _),(33,some _),(34,some _)],[(2,some _)]⟩ ⟨⟨c9,c9,c9,c9,c9,c9,c9,c9,c9,c9,c9,c9,trivial⟩,⟨u9,trivial⟩⟩ (fun _i=>⟨[(57,some (vB (cz (ms.getD j default) ((bu (ms.take j) l).getD i default))))],[(951,some (.arr true 1 27 (stB (ms.getD j default) (bu (ms.take j) l) i).length (lf sC (stB (ms.getD j default) (bu (ms.take j) l) i))))]⟩) (fun _i=>True) ?_ ?_
       ·
        refine gy ?_;(iterate 6 refine qy ?_);refine bd rfl rfl (fun r4=>?_) (fun r4=>?_)
        ·
         have h4:=of_decide_eq_true r4
         try simp only [ty] at h4
         have g1:((bu (ms.take j) l).getD i default) &&& (ms.getD j default).lhs = 0:=a0q h4
         (iterate 5 refine qy ?_ (hg:=(gtt r4)));(iterate 2 refine qy ?_);refine bd rfl rfl (fun r5=>?_) (fun r5=>?_)
         ·
          have h5:=r5
          have h5:=ck r4 h5
          have h5:=of_decide_eq_false (b7 h5)
          try simp only [ty] at h5
          have g2:¬ ((bu (ms.take j) l).getD i default) &&& (ms.getD j default).rhs = 0:=wa h5
          (iterate 5 refine qy ?_ (hg:=(gtt r5)));refine qy ?_;refine a6 ?_;refine ⟨(), ?_, ?_⟩
          · trivial
          · exact ⟨⟨⟨_,rfl,(cob (by first | exact a0w _ _ | exact (a0g g1).symm | exact (a10 g2).symm))⟩,c9,c9,c9,c9,c9,c9,c9,c9,c9,c9,c9,c9,trivial⟩,⟨u9,u9,trivial⟩⟩
         ·
          have h5:=r5
          have h5:=ck r4 h5
          have h5:=of_decide_eq_true (b6 h5)
          try simp only [ty] at h5
          have g2:((bu (ms.take j) l).getD i default) &&& (ms.getD j default).rhs = 0:=a0q h5
          (iterate 5 refine k9 (gft r5) ?_);refine rq rfl rfl rfl rfl rfl ?_ (hp:=r5);refine a6 ?_;refine ⟨(), ?_, ?_⟩
          · trivial
          · exact ⟨⟨⟨_,rfl,(cob (by first | exact a0w _ _ | exact (a0g g1).symm | exact (a10 g2).symm))⟩,c9,c9,c9,c9,c9,c9,c9,c9,c9,c9,c9,c9,trivial⟩,⟨u9,u9,trivial⟩⟩
        ·
         have h4:=of_decide_eq_false r4
         try simp only [ty] at h4
         have g1:¬ ((bu (ms.take j) l).getD i default) &&& (ms.getD j default).lhs = 0:=wa h4
         (iterate 5 refine k9 (gft r4) ?_);refine rq rfl rfl rfl rfl rfl ?_ (hp:=r4);refine qy ?_;(iterate 5 refine k9 rfl ?_);refine qy ?_;refine a6 ?_;refine ⟨(), ?_, ?_⟩
         · trivial
         · exact ⟨⟨⟨_,rfl,(cob (by first | exact a0w _ _ | exact (a0g g1).symm | exact (a10 g2).symm))⟩,c9,c9,c9,c9,c9,c9,c9,c9,c9,c9,c9,c9,trivial⟩,⟨u9,u9,trivial⟩⟩
       · rintro _ _
         refine a8 _ rfl (fun r6=>?_) (fun r6=>?_)
         ·
          have h6:=r6
          have hs:cz (ms.getD j default) ((bu (ms.take j) l).getD i default) = true:=r6
          have hl2:(stB (ms.getD j default) (bu (ms.take j) l) (i + 1)).length = (stB (ms.getD j default) (bu (ms.take j) l) i).length + 1:=by rw [a7z hil hs,List.length_append,List.length_set];rfl
          refine sx7 ?_;(iterate 7 refine qy ?_);refine s9 ?_;refine a6 ?_;refine sx7 ?_;(iterate 5 refine qy ?_);refine m9 3 ?_;refine ra 4 true rfl rfl rfl rfl rfl rfl ?_;refine qy ?_;refine a6 ?_
          refine gy ?_;refine qy ?_;refine a6 ?_;refine gy ?_;(iterate 2 refine qy ?_);refine a6 ?_
          first | (refine ⟨(i + 1, false), ?_, ?_, ?_⟩
                   · show i + 1 ≤ _;omega
                   · first | omega | (dsimp only;omega)
                   · exact ⟨⟨⟨_,rfl,(CoR.of_eq (congrArg (fun z=>HR.v (.one (.ref 951 z))) hl2.symm))⟩,⟨_,rfl,(cob (pw _ hil hs))⟩,⟨_,rfl,(CoR.refl _)⟩,⟨_,rfl,(CoC.one (a0r rfl))⟩,c9,c9,c9,c9,c9,c9,trivial⟩,⟨⟨_,rfl,(pl hil hs rfl (kn _ _) (CoP.of_eq (congrArg (fun z=>PV.raw (.int .u32 z)) (jx _ _))))⟩,u9,trivial⟩⟩)
                | (refine ⟨(i + 1,false), ?_, ?_, ?_⟩
                   · show i + 1 ≤ _;omega
                   · first | omega | (dsimp only;omega)
                   · exact ⟨⟨⟨_,rfl,(cw (l3 hil hs))⟩,⟨_,rfl,(cob (yn _ hil hs))⟩,⟨_,rfl,(CoR.refl _)⟩,⟨_,rfl,(CoC.one (a0r rfl))⟩,c9,c9,c9,c9,c9,c9,trivial⟩,⟨⟨_,rfl,(c8 (l3 hil hs))⟩,u9,trivial⟩⟩)
         ·
          have h6:=r6
          have hs:cz (ms.getD j default) ((bu (ms.take j) l).getD i default) = false:=r6
          refine aa ?_;refine gy ?_;(iterate 2 refine qy ?_);refine a6 ?_
          first | (refine ⟨(i + 1, false), ?_, ?_, ?_⟩
                   · show i + 1 ≤ _;omega
                   · first | omega | (dsimp only;omega)
                   · exact ⟨⟨⟨_,rfl,(CoR.of_eq (congrArg (fun z=>HR.v (.one (.ref 951 z))) hl2.symm))⟩,⟨_,rfl,(cob (pw _ hil hs))⟩,⟨_,rfl,(CoR.refl _)⟩,⟨_,rfl,(CoC.one (a0r rfl))⟩,c9,c9,c9,c9,c9,c9,trivial⟩,⟨⟨_,rfl,(pl hil hs rfl (kn _ _) (CoP.of_eq (congrArg (fun z=>PV.raw (.int .u32 z)) (jx _ _))))⟩,u9,trivial⟩⟩)
                | (refine ⟨(i + 1,false), ?_, ?_, ?_⟩
                   · show i + 1 ≤ _;omega
                   · first | omega | (dsimp only;omega)
                   · exact ⟨⟨⟨_,rfl,(cw (l3 hil hs))⟩,⟨_,rfl,(cob (yn _ hil hs))⟩,⟨_,rfl,(CoR.refl _)⟩,⟨_,rfl,(CoC.one (a0r rfl))⟩,c9,c9,c9,c9,c9,c9,trivial⟩,⟨⟨_,rfl,(c8 (l3 hil hs))⟩,u9,trivial⟩⟩)
      ·
       have h3:=of_decide_eq_false r3
       try simp only [ty] at h3
       obtain rfl:i = (bu (ms.take j) l).length:=by omega
       refine yz 7 900 rfl rfl rfl rfl ?_;refine az ?_;refine gy ?_;(iterate 2 refine qy ?_);refine a6 ?_;refine ⟨j + 1, ?_, ?_, ?_⟩
       · show j + 1 ≤ _;omega
       · first | omega | (dsimp only;omega)
       · exact ⟨⟨⟨_,rfl,(cw (by rw [xd (by omega),vq]))⟩,⟨_,rfl,(cob (by rw [a9p (by omega),List.take_length]))⟩,zy,c9,c9,c9,trivial⟩,⟨⟨_,rfl,(c8 (by rw [xd (by omega),vq]))⟩,trivial⟩⟩
     ·
      show HW _ _ _ ⟨_ :: _,_⟩ _
      refine sx7 ?_;refine qy ?_;refine a6 ?_;refine a7 ?_;refine a8 _ rfl (fun r7=>?_) (fun r7=>?_)
      ·
       have h7:=of_decide_eq_true r7
       try simp only [ty] at h7
       have hil:i < (bu (ms.take j) l).length:=by omega
       refine aa ?_;refine a7 ?_;refine af ?_;refine sx7 ?_;(iterate 2 refine qy ?_)
       refine rq (out:=⟨_, .v (.one (.p (asC ((bu (ms.take j) l).getD i default))))⟩) rfl rfl rfl (congrArg (fun z=>some (Out.mk _ (HR.v (HC.one (HV.p z))))) ((show lf sC (stB (ms.getD j default) (bu (ms.take j) l) i) (0 + i) 0 = _ by rw [Nat.zero_add];exact congrArg asC (amh hil)))) rfl ?_
       (iterate 2 refine qy ?_);refine a6 ?_
       refine cr (ι:=Unit) ⟨[(1,some _),(7,some _),(9,some _),(11,some _),(12,some _),(13,some _),(26,some _),(27,some _),(28,some _),(32,some _),(33,some _),(34,some _)],[(2,some _)]⟩ ⟨⟨c9,c9,c9,c9,c9,c9,c9,c9,c9,c9,c9,c9,trivial⟩,⟨u9,trivial⟩⟩ (fun _i=>⟨[(57,some (vB (cz (ms.getD j default) ((bu (ms.take j) l).getD i default))))],[(900,some (.arr true 1 27 (stB (ms.getD j default) (bu (ms.take j) l) i).length (lf sC (stB (ms.getD j default) (bu (ms.take j) l) i))))]⟩) (fun _i=>True) ?_ ?_
       ·
        refine gy ?_;(iterate 6 refine qy ?_);refine bd rfl rfl (fun r8=>?_) (fun r8=>?_)
        ·
         have h8:=of_decide_eq_true r8
         try simp only [ty] at h8
         have g1:((bu (ms.take j) l).getD i default) &&& (ms.getD j default).lhs = 0:=a0q h8
         (iterate 5 refine qy ?_ (hg:=(gtt r8)));(iterate 2 refine qy ?_);refine bd rfl rfl (fun r9=>?_) (fun r9=>?_)
         ·
          have h9:=r9
          have h9:=ck r8 h9
          have h9:=of_decide_eq_false (b7 h9)
          try simp only [ty] at h9
          have g2:¬ ((bu (ms.take j) l).getD i default) &&& (ms.getD j default).rhs = 0:=wa h9
          (iterate 5 refine qy ?_ (hg:=(gtt r9)));refine qy ?_;refine a6 ?_;refine ⟨(), ?_, ?_⟩
          · trivial
          · exact ⟨⟨⟨_,rfl,(cob (by first | exact a0w _ _ | exact (a0g g1).symm | exact (a10 g2).symm))⟩,c9,c9,c9,c9,c9,c9,c9,c9,c9,c9,c9,c9,trivial⟩,⟨u9,u9,trivial⟩⟩
         ·
          have h9:=r9
          have h9:=ck r8 h9
          have h9:=of_decide_eq_true (b6 h9)
          try simp only [ty] at h9
          have g2:((bu (ms.take j) l).getD i default) &&& (ms.getD j default).rhs = 0:=a0q h9
          (iterate 5 refine k9 (gft r9) ?_);refine rq rfl rfl rfl rfl rfl ?_ (hp:=r9);refine a6 ?_;refine ⟨(), ?_, ?_⟩
          · trivial
          · exact ⟨⟨⟨_,rfl,(cob (by first | exact a0w _ _ | exact (a0g g1).symm | exact (a10 g2).symm))⟩,c9,c9,c9,c9,c9,c9,c9,c9,c9,c9,c9,c9,trivial⟩,⟨u9,u9,trivial⟩⟩
        ·
         have h8:=of_decide_eq_false r8
         try simp only [ty] at h8
         have g1:¬ ((bu (ms.take j) l).getD i default) &&& (ms.getD j default).lhs = 0:=wa h8
         (iterate 5 refine k9 (gft r8) ?_);refine rq rfl rfl rfl rfl rfl ?_ (hp:=r8);refine qy ?_;(iterate 5 refine k9 rfl ?_);refine qy ?_;refine a6 ?_;refine ⟨(), ?_, ?_⟩
         · trivial
         · exact ⟨⟨⟨_,rfl,(cob (by first | exact a0w _ _ | exact (a0g g1).symm | exact (a10 g2).symm))⟩,c9,c9,c9,c9,c9,c9,c9,c9,c9,c9,c9,c9,trivial⟩,⟨u9,u9,trivial⟩⟩
       · rintro _ _
         refine a8 _ rfl (fun r10=>?_) (fun r10=>?_)
         ·
          have h10:=r10
          have hs:cz (ms.getD j default) ((bu (ms.take j) l).getD i default) = true:=r10
          have hl2:(stB (ms.getD j default) (bu (ms.take j) l) (i + 1)).length = (stB (ms.getD j default) (bu (ms.take j) l) i).length + 1:=by rw [a7z hil hs,List.length_append,List.length_set];rfl
          refine sx7 ?_;(iterate 7 refine qy ?_);refine s9 ?_;refine a6 ?_;refine a7 ?_;refine an2 7 32 rfl rfl rfl rfl rfl rfl (fun ad cap hcap=>?_) ?_
          ·
           refine gy ?_;(iterate 5 refine qy ?_);refine m9 5 ?_;refine ra 6 true rfl rfl rfl rfl rfl rfl ?_;refine qy ?_;refine a6 ?_;refine ais 7 32 rfl rfl rfl rfl (by dsimp only at *;omega) rfl ?_
           refine gy ?_;refine qy ?_;refine a6 ?_;refine gy ?_;(iterate 2 refine qy ?_);refine a6 ?_
           first | (refine ⟨(i + 1, true), ?_, ?_, ?_⟩
                    · show i + 1 ≤ _;omega
                    · first | omega | (dsimp only;omega)
                    · exact ⟨⟨⟨_,rfl,(CoR.of_eq (congrArg (fun z=>HR.v (.one (.ref 900 z))) hl2.symm))⟩,⟨_,rfl,(cob (pw _ hil hs))⟩,⟨_,rfl,(CoR.refl _)⟩,⟨_,rfl,(CoR.of_eq (congrArg (fun z=>HR.v (.one (.win 900 z 0 _))) hl2.symm))⟩,c9,c9,c9,c9,c9,c9,trivial⟩,⟨⟨_,rfl,(pl hil hs rfl (kn _ _) (CoP.of_eq (congrArg (fun z=>PV.raw (.int .u32 z)) (jx _ _))))⟩,u9,trivial⟩⟩)
                 | (refine ⟨(i + 1,false), ?_, ?_, ?_⟩
                    · show i + 1 ≤ _;omega
                    · first | omega | (dsimp only;omega)
                    · exact ⟨⟨⟨_,rfl,(CoR.of_eq (congrArg (fun z=>HR.v (.one (.ref 951 z))) hl2.symm))⟩,⟨_,rfl,(cob (pw _ hil hs))⟩,⟨_,rfl,(CoR.refl _)⟩,⟨_,rfl,(CoC.one (aa0 hil))⟩,c9,c9,c9,c9,c9,c9,trivial⟩,⟨⟨_,rfl,(pl hil hs rfl (kn _ _) (CoP.of_eq (congrArg (fun z=>PV.raw (.int .u32 z)) (jx _ _))))⟩,u9,trivial⟩⟩)
                 | (refine ⟨(i + 1,true), ?_, ?_, ?_⟩
                    · show i + 1 ≤ _;omega
                    · first | omega | (dsimp only;omega)
                    · exact ⟨⟨⟨_,rfl,(cw (l3 hil hs))⟩,⟨_,rfl,(cob (yn _ hil hs))⟩,⟨_,rfl,(CoR.refl _)⟩,⟨_,rfl,(CoR.of_eq (congrArg (fun z=>HR.v (.one (.win 900 z 0 _))) (congrArg List.length (l3 hil hs)).symm))⟩,c9,c9,c9,c9,c9,c9,trivial⟩,⟨⟨_,rfl,(c8 (l3 hil hs))⟩,u9,trivial⟩⟩)
          ·
           refine gy ?_;(iterate 5 refine qy ?_);refine m9 950 ?_;refine ra 951 true rfl rfl rfl rfl rfl rfl ?_;refine qy ?_;refine a6 ?_;refine gy ?_;refine qy ?_;refine a6 ?_;refine gy ?_
           (iterate 2 refine qy ?_);refine a6 ?_
           first | (refine ⟨(i + 1, true), ?_, ?_, ?_⟩
                    · show i + 1 ≤ _;omega
                    · first | omega | (dsimp only;omega)
                    · exact ⟨⟨⟨_,rfl,(CoR.of_eq (congrArg (fun z=>HR.v (.one (.ref 900 z))) hl2.symm))⟩,⟨_,rfl,(cob (pw _ hil hs))⟩,⟨_,rfl,(CoR.refl _)⟩,⟨_,rfl,(CoR.of_eq (congrArg (fun z=>HR.v (.one (.win 900 z 0 _))) hl2.symm))⟩,c9,c9,c9,c9,c9,c9,trivial⟩,⟨⟨_,rfl,(pl hil hs rfl (kn _ _) (CoP.of_eq (congrArg (fun z=>PV.raw (.int .u32 z)) (jx _ _))))⟩,u9,trivial⟩⟩)
                 | (refine ⟨(i + 1,false), ?_, ?_, ?_⟩
                    · show i + 1 ≤ _;omega
                    · first | omega | (dsimp only;omega)
                    · exact ⟨⟨⟨_,rfl,(CoR.of_eq (congrArg (fun z=>HR.v (.one (.ref 951 z))) hl2.symm))⟩,⟨_,rfl,(cob (pw _ hil hs))⟩,⟨_,rfl,(CoR.refl _)⟩,⟨_,rfl,(CoC.one (aa0 hil))⟩,c9,c9,c9,c9,c9,c9,trivial⟩,⟨⟨_,rfl,(pl hil hs rfl (kn _ _) (CoP.of_eq (congrArg (fun z=>PV.raw (.int .u32 z)) (jx _ _))))⟩,u9,trivial⟩⟩)
                 | (refine ⟨(i + 1,true), ?_, ?_, ?_⟩
                    · show i + 1 ≤ _;omega
                    · first | omega | (dsimp only;omega)
                    · exact ⟨⟨⟨_,rfl,(cw (l3 hil hs))⟩,⟨_,rfl,(cob (yn _ hil hs))⟩,⟨_,rfl,(CoR.refl _)⟩,⟨_,rfl,(CoR.of_eq (congrArg (fun z=>HR.v (.one (.win 900 z 0 _))) (congrArg List.length (l3 hil hs)).symm))⟩,c9,c9,c9,c9,c9,c9,trivial⟩,⟨⟨_,rfl,(c8 (l3 hil hs))⟩,u9,trivial⟩⟩)
         ·
          have h10:=r10
          have hs:cz (ms.getD j default) ((bu (ms.take j) l).getD i default) = false:=r10
          refine aa ?_;refine gy ?_;(iterate 2 refine qy ?_);refine a6 ?_
          first | (refine ⟨(i + 1, true), ?_, ?_, ?_⟩
                   · show i + 1 ≤ _;omega
                   · first | omega | (dsimp only;omega)
                   · exact ⟨⟨⟨_,rfl,(CoR.of_eq (congrArg (fun z=>HR.v (.one (.ref 900 z))) hl2.symm))⟩,⟨_,rfl,(cob (pw _ hil hs))⟩,⟨_,rfl,(CoR.refl _)⟩,⟨_,rfl,(CoR.of_eq (congrArg (fun z=>HR.v (.one (.win 900 z 0 _))) hl2.symm))⟩,c9,c9,c9,c9,c9,c9,trivial⟩,⟨⟨_,rfl,(pl hil hs rfl (kn _ _) (CoP.of_eq (congrArg (fun z=>PV.raw (.int .u32 z)) (jx _ _))))⟩,u9,trivial⟩⟩)
                | (refine ⟨(i + 1,false), ?_, ?_, ?_⟩
                   · show i + 1 ≤ _;omega
                   · first | omega | (dsimp only;omega)
                   · exact ⟨⟨⟨_,rfl,(CoR.of_eq (congrArg (fun z=>HR.v (.one (.ref 951 z))) hl2.symm))⟩,⟨_,rfl,(cob (pw _ hil hs))⟩,⟨_,rfl,(CoR.refl _)⟩,⟨_,rfl,(CoC.one (aa0 hil))⟩,c9,c9,c9,c9,c9,c9,trivial⟩,⟨⟨_,rfl,(pl hil hs rfl (kn _ _) (CoP.of_eq (congrArg (fun z=>PV.raw (.int .u32 z)) (jx _ _))))⟩,u9,trivial⟩⟩)
                | (refine ⟨(i + 1,true), ?_, ?_, ?_⟩
                   · show i + 1 ≤ _;omega
                   · first | omega | (dsimp only;omega)
                   · exact ⟨⟨⟨_,rfl,(cw (l3 hil hs))⟩,⟨_,rfl,(cob (yn _ hil hs))⟩,⟨_,rfl,(CoR.refl _)⟩,⟨_,rfl,(CoR.of_eq (congrArg (fun z=>HR.v (.one (.win 900 z 0 _))) (congrArg List.length (l3 hil hs)).symm))⟩,c9,c9,c9,c9,c9,c9,trivial⟩,⟨⟨_,rfl,(c8 (l3 hil hs))⟩,u9,trivial⟩⟩)
      ·
       have h7:=of_decide_eq_false r7
       try simp only [ty] at h7
       obtain rfl:i = (bu (ms.take j) l).length:=by omega
       refine az ?_;refine gy ?_;(iterate 2 refine qy ?_);refine a6 ?_;refine ⟨j + 1, ?_, ?_, ?_⟩
       · show j + 1 ≤ _;omega
       · first | omega | (dsimp only;omega)
       · exact ⟨⟨⟨_,rfl,(cw (by rw [xd (by omega),vq]))⟩,⟨_,rfl,(cob (by rw [a9p (by omega),List.take_length]))⟩,zy,c9,c9,c9,trivial⟩,⟨⟨_,rfl,(c8 (by rw [xd (by omega),vq]))⟩,trivial⟩⟩
    ·
     have h2:=of_decide_eq_false r2
     try simp only [ty] at h2
     obtain rfl:j = ms.length:=by omega
     rw [show ms.take ms.length = ms from List.take_length]
     refine az ?_;refine ⟨(f - 1,bu ms l,j4 ms l), ?_, ?_, ?_⟩
     · exact hI2
     · exact anf hf
     · exact ⟨⟨zy,zy,c9,trivial⟩,⟨u9,trivial⟩⟩
   ·
    have h1:=r1
    obtain rfl:ag = false:=r1
    have hl:l = (blks ms (am n &&& ~~~x)):=hI.f rfl
    subst hl
    refine az ?_;refine a7 ?_;refine ep 7 rfl rfl rfl ?_;refine gy ?_;refine qy ?_
    refine rc rfl rfl rfl rfl rfl rfl a48 (a4j (blks ms (am n &&& ~~~x)) (Nat.le_trans (a5w hI.ok) (by decide))) (CoL.refl _) rfl rfl ?_;refine qy ?_;refine a6 ?_
    exact hx8 rfl rfl rfl (CoL.refl _)
end Go.Hx
end
