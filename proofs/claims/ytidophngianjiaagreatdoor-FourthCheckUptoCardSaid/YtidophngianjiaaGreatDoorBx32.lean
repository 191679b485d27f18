/- A part of the proof: Bz1 Bz2 Bz3 Hx27. -/
import Derived.Test.YtidophngianjiaaGreatDoorBx15
import Derived.Test.YtidophngianjiaaGreatDoorBx19
import Derived.Test.YtidophngianjiaaGreatDoorBx31
set_option linter.all false
section
namespace Go.Hx
theorem gt {a b:AS} (h:∀ i,i < 32 → a.getLsbD i = b.getLsbD i):a = b:=BitVec.eq_of_getLsbD_eq h
theorem gr {s t:AS}:s &&& t = 0 ↔ ∀ i,i < 32 → s.getLsbD i = true → t.getLsbD i = false:=by
 constructor
 · intro h i hi hs
   have:=congrArg (fun x:AS=>x.getLsbD i) h
   simp only [BitVec.getLsbD_and,hs,Bool.true_and] at this
   simpa using this
 · intro h
   apply gt
   intro i hi
   have:=h i hi
   rw [BitVec.getLsbD_and]
   cases hs:s.getLsbD i <;> simp_all
theorem s8 {s t:AS} (h:s &&& t ≠ 0):∃ i,i < 32 ∧ s.getLsbD i = true ∧ t.getLsbD i = true:=by
 apply Classical.byContradiction
 intro hn
 refine h (gr.2 fun i hi hs=>?_)
 cases ht:t.getLsbD i with
 | false=>rfl
 | true=>exact absurd ⟨i,hi,hs,ht⟩ hn
theorem ad6 {s:AS} (h:s ≠ 0):∃ i,i < 32 ∧ s.getLsbD i = true:=by
 apply Classical.byContradiction
 intro hn
 refine h (gt fun i hi=>?_)
 cases hs:s.getLsbD i with
 | false=>simp
 | true=>exact absurd ⟨i,hi,hs⟩ hn
theorem u0 {s:AS} {i:Nat} (h:s.getLsbD i = true):i < 32:=BitVec.lt_of_getLsbD h
theorem bw {s t:AS} {i:Nat} (hi:i < 32):(s &&& ~~~t).getLsbD i = (s.getLsbD i && !t.getLsbD i):=by simp [hi]
def fu (a:Nat):AS:=1#32 <<< a
theorem du {a i:Nat} (ha:a < 32) (hi:i < 32):(fu a).getLsbD i = decide (i = a):=by
 unfold fu
 rw [BitVec.getLsbD_shiftLeft]
 by_cases h:i = a
 · subst h;simp [hi]
 · by_cases h2:i < a
   · simp [h,h2,hi]
   · have:i - a ≠ 0:=by omega
     simp [h,h2,hi,BitVec.getLsbD_one,this]
theorem ar9 {b:AS} {a:Nat} (ha:a < 32) (h:sub b (fu a)) (hb:b.getLsbD a = true):b = fu a:=by
 apply gt
 intro i hi
 have:=b5.1 h i hi
 rw [du ha hi] at this ⊢
 by_cases e:i = a
 · subst e;simp [hb]
 · cases hs:b.getLsbD i
   · simp [e]
   · simp [e,hs] at this
def dc (m:Fd) (b:AS):Bool:=decide (b &&& m.lhs = 0) && (decide (b &&& m.rhs ≠ 0) && decide (b &&& ~~~m.rhs ≠ 0))
def hdB (m:Fd) (b:AS):AS:=if dc m b = true then b &&& m.rhs else b
def tlB (m:Fd) (b:AS):List AS:=if dc m b = true then [b &&& ~~~m.rhs] else []
def stB (m:Fd) (l:List AS) (i:Nat):List AS:=(l.take i).map (hdB m) ++ l.drop i ++ (l.take i).flatMap (tlB m)
def rdB (m:Fd) (l:List AS):List AS:=l.map (hdB m) ++ l.flatMap (tlB m)
def c7 (ms:List Fd) (l:List AS):List AS:=ms.foldl (fun l m=>rdB m l) l
def jo:List Fd → List AS → Bool
 | [],_=>false
 | m :: ms,l=>l.any (dc m) || jo ms (rdB m l)
def sk (ms:List Fd):Nat → List AS → List AS
 | 0,l=>l
 | f + 1,l=>if jo ms l = true then sk ms f (c7 ms l) else c7 ms l
def muB:List AS → Nat
 | []=>0
 | b :: l=>b.toNat * b.toNat + muB l
theorem a7a:∀ (l k:List AS),muB (l ++ k) = muB l + muB k
 | [],k=>by simp [muB]
 | b :: l,k=>by simp [muB,a7a l k];omega
theorem a3b (b r:AS):(b &&& r).toNat + (b &&& ~~~r).toNat = b.toNat:=by
 have h:(b &&& r) &&& (b &&& ~~~r) = 0#32:=gr.2 fun i hi hs=>by
  rw [bw hi]
  rw [BitVec.getLsbD_and,Bool.and_eq_true] at hs
  simp [hs.1,hs.2]
 have e:(b &&& r) + (b &&& ~~~r) = b:=by
  rw [BitVec.add_eq_or_of_and_eq_zero _ _ h]
  apply gt
  intro i hi
  rw [BitVec.getLsbD_or,bw hi,BitVec.getLsbD_and]
  cases b.getLsbD i <;> cases r.getLsbD i <;> rfl
 rw [← BitVec.toNat_add_of_and_eq_zero h,e]
theorem lu {m:Fd} {b:AS}:dc m b = true ↔ b &&& m.lhs = 0 ∧ b &&& m.rhs ≠ 0 ∧ b &&& ~~~m.rhs ≠ 0:=by simp [dc]
theorem aq9 {x y z:Nat} (h:x + y = z) (hx:0 < x) (hy:0 < y):x * x + y * y < z * z:=by
 subst h
 rw [Nat.add_mul,Nat.mul_add,Nat.mul_add]
 have:0 < x * y:=Nat.mul_pos hx hy
 have:0 < y * x:=Nat.mul_pos hy hx
 omega
theorem a12 {b:AS} (h:b ≠ 0):0 < b.toNat:=Nat.pos_of_ne_zero fun e=>h (BitVec.eq_of_toNat_eq e)
theorem alj (m:Fd):∀ (l:List AS),muB (l.map (hdB m)) + muB (l.flatMap (tlB m)) + (if l.any (dc m) = true then 1 else 0) ≤ muB l
 | []=>by simp [muB]
 | b :: l=>by
  have ih:=alj m l
  rw [List.map_cons,List.flatMap_cons,a7a,List.any_cons]
  simp only [muB]
  by_cases h:dc m b = true
  · obtain ⟨_,h2,h3⟩:=lu.1 h
    have:=aq9 (a3b b m.rhs) (a12 h2) (a12 h3)
    simp only [hdB,tlB,h,if_true,muB,Bool.true_or]
    omega
  · rw [Bool.not_eq_true] at h
    simp only [hdB,tlB,h,muB,Bool.false_or,Bool.false_eq_true,if_false]
    omega
theorem au1 (m:Fd) (l:List AS):muB (rdB m l) + (if l.any (dc m) = true then 1 else 0) ≤ muB l:=by
 unfold rdB
 rw [a7a]
 exact alj m l
theorem a8m:∀ (ms:List Fd) (l:List AS),muB (c7 ms l) + (if jo ms l = true then 1 else 0) ≤ muB l
 | [],l=>by simp [c7,jo]
 | m :: ms,l=>by
  have h1:=au1 m l
  have h2:=a8m ms (rdB m l)
  show muB (c7 ms (rdB m l)) + _ ≤ _
  simp only [jo]
  by_cases h3:l.any (dc m) = true <;> by_cases h4:jo ms (rdB m l) = true <;> simp only [h3,h4,Bool.true_or,Bool.or_true,Bool.or_false,if_true,Bool.false_eq_true,if_false] at h1 h2 ⊢ <;> omega
theorem api {m:Fd} {l:List AS} (h:l.any (dc m) = false):rdB m l = l:=by
 have h':∀ b ∈ l,dc m b = false:=fun b hb=>by
  have:=List.any_eq_false.1 h b hb
  simpa using this
 have e1:l.map (hdB m) = l:=by
  conv=>rhs;rw [← List.map_id l]
  exact List.map_congr_left fun b hb=>by simp [hdB,h' b hb]
 have e2:l.flatMap (tlB m) = []:=List.flatMap_eq_nil_iff.2 fun b hb=>by simp [tlB,h' b hb]
 simp [rdB,e1,e2]
theorem ac2:∀ {ms:List Fd} {l:List AS},jo ms l = false → c7 ms l = l ∧ ∀ m ∈ ms,∀ b ∈ l,dc m b = false
 | [],l,_=>⟨rfl,fun _ h=>by cases h⟩
 | m :: ms,l,h=>by
  simp only [jo,Bool.or_eq_false_iff] at h
  have e:=api h.1
  rw [e] at h
  obtain ⟨h1,h2⟩:=ac2 h.2
  refine ⟨?_,fun k hk b hb=>?_⟩
  · show c7 ms (rdB m l) = l
    rw [e]
    exact h1
  · rcases List.mem_cons.1 hk with rfl | hk
    · have:=List.any_eq_false.1 h.1 b hb
      simpa using this
    · exact h2 k hk b hb
structure Blk (ms:List Fd) (rest:AS) (bs:List AS):Prop where
 nz:∀ b ∈ bs,b ≠ 0
 cnt:∀ a,a < 32 → bs.countP (fun b=>b.getLsbD a) = if rest.getLsbD a = true then 1 else 0
 ind:∀ G:AS → Prop,G rest → (∀ m ∈ ms,∀ b,G b → dc m b = true → G (b &&& m.rhs) ∧ G (b &&& ~~~m.rhs)) → ∀ b ∈ bs,G b
theorem Blk.rd {ms:List Fd} {rest:AS} {bs:List AS} (h:Blk ms rest bs) {m:Fd} (hm:m ∈ ms):Blk ms rest (rdB m bs):=by
 have hmem:∀ {b:AS},b ∈ rdB m bs → ∃ b0 ∈ bs,(dc m b0 = false ∧ b = b0) ∨ (dc m b0 = true ∧ (b = b0 &&& m.rhs ∨ b = b0 &&& ~~~m.rhs)):=by
  intro b hb
  unfold rdB at hb
  rcases List.mem_append.1 hb with hb | hb
  · obtain ⟨b0,h0,rfl⟩:=List.mem_map.1 hb
    refine ⟨b0,h0, ?_⟩
    cases hs:dc m b0 <;> simp [hdB,hs]
  · obtain ⟨b0,h0,hb⟩:=List.mem_flatMap.1 hb
    refine ⟨b0,h0, ?_⟩
    cases hs:dc m b0
    · simp [tlB,hs] at hb
    · simp [tlB,hs] at hb
      exact .inr ⟨rfl, .inr hb⟩
 refine ⟨fun b hb=>?_,fun a ha=>?_,fun G h0 hG b hb=>?_⟩
 · obtain ⟨b0,h0,⟨_,rfl⟩ | ⟨hs,hb⟩⟩:=hmem hb
   · exact h.nz _ h0
   · obtain ⟨_,h2,h3⟩:=lu.1 hs
     rcases hb with rfl | rfl
     · exact h2
     · exact h3
 · rw [← h.cnt a ha]
   have:∀ l:List AS,(l.map (hdB m)).countP (fun b=>b.getLsbD a) + (l.flatMap (tlB m)).countP (fun b=>b.getLsbD a) = l.countP (fun b=>b.getLsbD a):=by
    intro l
    induction l with
    | nil=>rfl
    | cons b l ih =>
     rw [List.map_cons,List.flatMap_cons,List.countP_append,List.countP_cons,List.countP_cons,← ih]
     cases hs:dc m b
     · simp [hdB,tlB,hs];omega
     · simp only [hdB,tlB,hs,if_true,List.countP_cons,List.countP_nil,bw ha,BitVec.getLsbD_and]
       cases b.getLsbD a <;> cases m.rhs.getLsbD a <;> simp <;> omega
   unfold rdB
   rw [List.countP_append]
   exact this bs
 · obtain ⟨b0,h1,⟨_,rfl⟩ | ⟨hs,hb⟩⟩:=hmem hb
   · exact h.ind G h0 hG _ h1
   · obtain ⟨g1,g2⟩:=hG m hm b0 (h.ind G h0 hG _ h1) hs
     rcases hb with rfl | rfl
     · exact g1
     · exact g2
theorem Blk.ron {ms:List Fd} {rest:AS}:∀ {ms':List Fd} {bs:List AS},(∀ m ∈ ms',m ∈ ms) → Blk ms rest bs → Blk ms rest (c7 ms' bs)
 | [],bs,_,h=>h
 | m :: ms',bs,hm,h=>Blk.ron (ms':=ms') (fun k hk=>hm k (by simp [hk])) (h.rd (hm m (by simp)))
theorem Blk.end_ {ms:List Fd} {rest:AS}:∀ {f:Nat} {bs:List AS},muB bs < f → Blk ms rest bs → Blk ms rest (sk ms f bs) ∧ ∀ m ∈ ms,∀ b ∈ sk ms f bs,dc m b = false
 | 0,bs,hf,_=>absurd hf (Nat.not_lt_zero _)
 | f + 1,bs,hf,h=>by
  have hr:=h.ron (ms':=ms) (fun _ h=>h)
  unfold sk
  cases hc:jo ms bs
  · obtain ⟨e,hs⟩:=ac2 hc
    simp only [Bool.false_eq_true,if_false]
    rw [e]
    exact ⟨h,hs⟩
  · have:=a8m ms bs
    rw [hc] at this
    simp only [if_true] at this ⊢
    exact Blk.end_ (by omega) hr
def im (rest:AS):List AS:=if rest = 0 then [] else [rest]
theorem Blk.start (ms:List Fd) (rest:AS):Blk ms rest (im rest):=by
 unfold im
 by_cases h:rest = 0
 · subst h
   simp only [if_true]
   exact ⟨fun _ h=>by (cases h),fun a ha=>by simp,fun _ _ _ _ h=>by cases h⟩
 · rw [if_neg h]
   exact ⟨fun b hb=>by (simp at hb;subst hb;exact h),fun a ha=>by simp [List.countP_cons],fun G h0 _ b hb=>by (simp at hb;subst hb;exact h0)⟩
theorem a99 (rest:AS):muB (im rest) < 18446744073709551616:=by
 unfold im
 split
 · simp [muB]
 · simp only [muB]
   have h:=rest.isLt
   have:=Nat.mul_le_mul (Nat.le_of_lt_succ (show rest.toNat < 4294967295 + 1 from h)) (Nat.le_of_lt_succ (show rest.toNat < 4294967295 + 1 from h))
   omega
def blks (ms:List Fd) (rest:AS):List AS:=sk ms 18446744073709551616 (im rest)
theorem x6 (ms:List Fd) (rest:AS):Blk ms rest (blks ms rest) ∧ ∀ m ∈ ms,∀ b ∈ blks ms rest,dc m b = false:=Blk.end_ (a99 rest) (Blk.start ms rest)
theorem aj5 {p:AS → Bool} {l:List AS} (h:l.countP p ≤ 1) {a b:AS} (ha:a ∈ l) (hb:b ∈ l) (pa:p a = true) (pb:p b = true):a = b:=by
 rw [List.countP_eq_length_filter] at h
 have h1:a ∈ l.filter p:=List.mem_filter.2 ⟨ha,pa⟩
 have h2:b ∈ l.filter p:=List.mem_filter.2 ⟨hb,pb⟩
 cases hl:l.filter p with
 | nil=>rw [hl] at h1;cases h1
 | cons x r =>
  rw [hl] at h h1 h2
  cases r with
  | nil=>simp at h1 h2;rw [h1,h2]
  | cons=>simp at h
theorem Blk.one {ms:List Fd} {rest:AS} {bs:List AS} (h:Blk ms rest bs) {b b':AS} (hb:b ∈ bs) (hb':b' ∈ bs) {a:Nat} (h1:b.getLsbD a = true) (h2:b'.getLsbD a = true):b = b':=by
 refine aj5 (p:=fun b=>b.getLsbD a) ?_ hb hb' h1 h2
 rw [h.cnt a (u0 h1)]
 split <;> omega
theorem Blk.cov {ms:List Fd} {rest:AS} {bs:List AS} (h:Blk ms rest bs) {a:Nat} (ha:rest.getLsbD a = true):∃ b ∈ bs,b.getLsbD a = true:=by
 have:=h.cnt a (u0 ha)
 rw [if_pos ha] at this
 exact List.countP_pos_iff.1 (by omega)
theorem Blk.sub {ms:List Fd} {rest:AS} {bs:List AS} (h:Blk ms rest bs) {b:AS} (hb:b ∈ bs):Go.Hx.sub b rest:=b5.2 fun a ha hba=>by
 have h1:=h.cnt a ha
 have h2:0 < bs.countP (fun b=>b.getLsbD a):=List.countP_pos_iff.2 ⟨b,hb,hba⟩
 cases hr:rest.getLsbD a with
 | true=>rfl
 | false=>rw [hr] at h1;simp only [Bool.false_eq_true,if_false] at h1;omega
end Go.Hx
end
section
namespace Go.Hx
def sgl (f:Fd):List Fd:=(az f.rhs).map fun a=>⟨f.lhs,fu a⟩
def fq (fs ms:List Fd):List Fd:=ms ++ fs.flatMap sgl
theorem va {fs ms:List Fd} {m:Fd}:m ∈ fq fs ms ↔ m ∈ ms ∨ ∃ f ∈ fs,∃ a,a < 32 ∧ f.rhs.getLsbD a = true ∧ m = ⟨f.lhs,fu a⟩:=by
 unfold fq sgl
 simp only [List.mem_append,List.mem_flatMap,List.mem_map,jh]
 constructor
 · rintro (h | ⟨f,hf,a,⟨h1,h2⟩,rfl⟩)
   · exact .inl h
   · exact .inr ⟨f,hf,a,h1,h2,rfl⟩
 · rintro (h | ⟨f,hf,a,h1,h2,rfl⟩)
   · exact .inl h
   · exact .inr ⟨f,hf,a,⟨h1,h2⟩,rfl⟩
def f8 (T:List AS) (r:AS):List AS:=if r ∈ T then T else T ++ [r]
theorem m8 {T:List AS} {r z:AS}:z ∈ f8 T r ↔ z ∈ T ∨ z = r:=by
 unfold f8
 split
 · rename_i h
   constructor
   · exact .inl
   · rintro (h2 | rfl)
     · exact h2
     · exact h
 · simp
theorem sn {T:List AS} {r:AS} (h:T.Nodup):(f8 T r).Nodup:=by
 unfold f8
 split
 · exact h
 · rename_i hr
   rw [List.nodup_append]
   exact ⟨h,by simp,fun a ha b hb=>by simp at hb;subst hb;rintro rfl;exact hr ha⟩
def jx (s:AS) (o:List AS) (T:List AS):List AS:=T.foldl (fun o r=>f8 o (r &&& ~~~s)) o
def ir (T:List AS) (s:AS):List AS:=jx s [] T
theorem a4q {s:AS}:∀ {T o:List AS},(o.Nodup → (jx s o T).Nodup) ∧ ∀ z,z ∈ jx s o T ↔ z ∈ o ∨ ∃ r ∈ T,z = r &&& ~~~s
 | [],o=>⟨fun h=>h,fun z=>by simp [jx]⟩
 | r :: T,o=>by
  obtain ⟨h1,h2⟩:=a4q (s:=s) (T:=T) (o:=f8 o (r &&& ~~~s))
  refine ⟨fun h=>h1 (sn h),fun z=>?_⟩
  show z ∈ jx s (f8 o (r &&& ~~~s)) T ↔ _
  rw [h2 z,m8]
  simp only [List.mem_cons]
  constructor
  · rintro ((h | h) | ⟨q,hq,h⟩)
    · exact .inl h
    · exact .inr ⟨r, .inl rfl,h⟩
    · exact .inr ⟨q, .inr hq,h⟩
  · rintro (h | ⟨q,rfl | hq,h⟩)
    · exact .inl (.inl h)
    · exact .inl (.inr h)
    · exact .inr ⟨q,hq,h⟩
theorem ny {T:List AS} {s z:AS}:z ∈ ir T s ↔ ∃ r ∈ T,z = r &&& ~~~s:=by
 have:=(a4q (s:=s) (T:=T) (o:=[])).2 z
 simpa [ir] using this
theorem a5j (T:List AS) (s:AS):(ir T s).Nodup:=(a4q (s:=s) (T:=T) (o:=[])).1 List.nodup_nil
def j3 (d:Fd) (r k:AS):AS:=(r &&& (d.lhs ||| d.rhs)) ||| (k &&& ~~~(d.lhs ||| d.rhs))
def agB (d:Fd) (r k:AS):Bool:=decide ((r ^^^ k) &&& d.lhs = 0)
theorem qg {d:Fd} {r k:AS}:agB d r k = true ↔ ∀ i,i < 32 → d.lhs.getLsbD i = true → r.getLsbD i = k.getLsbD i:=by
 unfold agB
 rw [decide_eq_true_eq,gr]
 constructor
 · intro h i hi hl
   have:=h i hi
   rw [BitVec.getLsbD_xor] at this
   cases hr:r.getLsbD i <;> cases hk:k.getLsbD i <;> simp_all
 · intro h i hi hx
   cases hl:d.lhs.getLsbD i with
   | false=>rfl
   | true =>
    rw [BitVec.getLsbD_xor,h i hi hl] at hx
    simp at hx
theorem qd {d:Fd} {r k:AS} {i:Nat} (hi:i < 32):(j3 d r k).getLsbD i = (if d.lhs.getLsbD i || d.rhs.getLsbD i then r.getLsbD i else k.getLsbD i):=by
 unfold j3
 rw [BitVec.getLsbD_or,bw hi,BitVec.getLsbD_and,BitVec.getLsbD_or]
 cases d.lhs.getLsbD i <;> cases d.rhs.getLsbD i <;> simp
structure aaj (fs ms:List Fd) (T:List AS):Prop where
 fd:∀ d ∈ fs,∀ r ∈ T,∀ k ∈ T,agB d r k = true → (r ^^^ k) &&& d.rhs = 0
 mv:∀ d ∈ ms,∀ r ∈ T,∀ k ∈ T,agB d r k = true → j3 d r k ∈ T
def a6n (fs:List Fd) (bs:List AS) (a:Nat):Prop:=fu a ∈ bs ∧ ∃ f ∈ fs,f.rhs.getLsbD a = true ∧ f.lhs.getLsbD a = false
structure JT (fs:List Fd) (bs:List AS) (rest:AS) (T:List AS):Prop where
 z:(0:AS) ∈ T
 r:∀ r ∈ T,sub r rest ∧ ∀ b ∈ bs,b &&& r = 0 ∨ sub b r
 top:∃ L ∈ T,(∀ r ∈ T,sub r L) ∧ ∀ a,a < 32 → rest.getLsbD a = true → L.getLsbD a = false → a6n fs bs a
theorem wk {b r:AS} (h:b &&& r = 0 ∨ sub b r) {a c:Nat} (hc:c < 32) (ha:b.getLsbD a = true) (hb:b.getLsbD c = true):r.getLsbD a = r.getLsbD c:=by
 rcases h with h | h
 · rw [gr.1 h a (u0 ha) ha,gr.1 h c hc hb]
 · rw [b5.1 h a (u0 ha) ha,b5.1 h c hc hb]
theorem ah3 {b r:AS} (h:∀ a c,a < 32 → c < 32 → b.getLsbD a = true → b.getLsbD c = true → r.getLsbD a = true → r.getLsbD c = true):b &&& r = 0 ∨ sub b r:=by
 by_cases hz:b &&& r = 0
 · exact .inl hz
 · obtain ⟨a,ha,h1,h2⟩:=s8 hz
   exact .inr (b5.2 fun c hc hb=>h a c ha hc h1 hb h2)
section
variable {fs ms:List Fd} {bs:List AS} {rest:AS} {T:List AS}
theorem JT.mix (h:JT fs bs rest T) {d:Fd} (hs:∀ b ∈ bs,dc d b = false) {r k:AS} (hr:r ∈ T) (hk:k ∈ T) (ha:agB d r k = true):JT fs bs rest (f8 T (j3 d r k)):=by
 have ha:=qg.1 ha
 obtain ⟨r1,r2⟩:=h.r r hr
 obtain ⟨k1,k2⟩:=h.r k hk
 obtain ⟨L,l1,l2,l3⟩:=h.top
 have hm:∀ R:AS,sub r R → sub k R → sub (j3 d r k) R:=fun R h1 h2=>b5.2 fun i hi hb=>by
  rw [qd hi] at hb
  split at hb
  · exact b5.1 h1 i hi hb
  · exact b5.1 h2 i hi hb
 refine ⟨m8.2 (.inl h.z),fun q hq=>?_,L,m8.2 (.inl l1),fun q hq=>?_,l3⟩
 · rcases m8.1 hq with hq | rfl
   · exact h.r q hq
   · refine ⟨hm rest r1 k1,fun b hb=>?_⟩
     refine ah3 fun a c hal hcl hba hbc hqa=>?_
     rw [qd hal] at hqa
     rw [qd hcl]
     by_cases hL:b &&& d.lhs = 0
     · have hns:=hs b hb
       have hor:b &&& d.rhs = 0 ∨ b &&& ~~~d.rhs = 0:=by
        apply Classical.byContradiction
        intro hn
        rw [not_or] at hn
        rw [lu.2 ⟨hL,hn.1,hn.2⟩] at hns
        cases hns
       have e1:=gr.1 hL a hal hba
       have e2:=gr.1 hL c hcl hbc
       rw [e1] at hqa
       rw [e2]
       rcases hor with ho | ho
       · rw [gr.1 ho a hal hba] at hqa
         rw [gr.1 ho c hcl hbc]
         simp only [Bool.or_false,Bool.false_eq_true,if_false] at hqa ⊢
         rw [← wk (k2 b hb) hcl hba hbc];exact hqa
       · have f1:=gr.1 ho a hal hba
         have f2:=gr.1 ho c hcl hbc
         have f1:d.rhs.getLsbD a = true:=by simpa [hal] using f1
         have f2:d.rhs.getLsbD c = true:=by simpa [hcl] using f2
         rw [f1] at hqa
         rw [f2]
         simp only [Bool.or_true,if_true] at hqa ⊢
         rw [← wk (r2 b hb) hcl hba hbc];exact hqa
     · obtain ⟨e,he,hbe,hle⟩:=s8 hL
       have hrk:=ha e he hle
       have ra:=wk (r2 b hb) he hba hbe
       have rc:=wk (r2 b hb) he hbc hbe
       have ka:=wk (k2 b hb) he hba hbe
       have kc:=wk (k2 b hb) he hbc hbe
       have x1:r.getLsbD e = true:=by
        split at hqa
        · rw [← ra];exact hqa
        · rw [hrk,← ka];exact hqa
       split
       · rw [rc];exact x1
       · rw [kc,← hrk];exact x1
 · rcases m8.1 hq with hq | rfl
   · exact l2 q hq
   · exact hm L (l2 r hr) (l2 k hk)
theorem JT.equ (h:JT fs bs rest T) (hbk:Blk (fq fs ms) rest bs) (hs:∀ m ∈ fq fs ms,∀ b ∈ bs,dc m b = false) {d:Fd} (hd:d ∈ fs) {r k:AS} (hr:r ∈ T) (hk:k ∈ T) (ha:agB d r k = true):JT fs bs rest (ir T ((r ^^^ k) &&& d.rhs)):=by
 have ha:=qg.1 ha
 obtain ⟨r1,r2⟩:=h.r r hr
 obtain ⟨k1,k2⟩:=h.r k hk
 obtain ⟨L,l1,l2,l3⟩:=h.top
 have hdead:∀ a,a < 32 → ((r ^^^ k) &&& d.rhs).getLsbD a = true → a6n fs bs a:=fun a hal h0=>by
  rw [BitVec.getLsbD_and,BitVec.getLsbD_xor,Bool.and_eq_true] at h0
  obtain ⟨h0,hR⟩:=h0
  have hne:r.getLsbD a ≠ k.getLsbD a:=fun e=>by rw [e] at h0;simp at h0
  have hLa:d.lhs.getLsbD a = false:=by
   cases hl:d.lhs.getLsbD a with
   | false=>rfl
   | true=>exact absurd (ha a hal hl) hne
  have hrest:rest.getLsbD a = true:=by
   cases hra:r.getLsbD a with
   | true=>exact b5.1 r1 a hal hra
   | false =>
    cases hka:k.getLsbD a with
    | true=>exact b5.1 k1 a hal hka
    | false=>rw [hra,hka] at hne;exact absurd rfl hne
  obtain ⟨b,hb,hba⟩:=hbk.cov hrest
  have hL0:b &&& d.lhs = 0:=gr.2 fun e he hbe=>by
   cases hl:d.lhs.getLsbD e with
   | false=>rfl
   | true =>
    have h1:=ha e he hl
    rw [← wk (r2 b hb) he hba hbe,← wk (k2 b hb) he hba hbe] at h1
    exact absurd h1 hne
  have hsp:=hs ⟨d.lhs,fu a⟩ (va.2 (.inr ⟨d,hd,a,hal,hR,rfl⟩)) b hb
  have hsub:sub b (fu a):=by
   apply Classical.byContradiction
   intro hn
   have ht:dc ⟨d.lhs,fu a⟩ b = true:=lu.2 ⟨hL0,fun e=>by
    have:=gr.1 (show b &&& fu a = 0 from e) a hal hba
    rw [du hal hal] at this
    simp at this,hn⟩
   rw [ht] at hsp
   cases hsp
  have he:=ar9 hal hsub hba
  exact ⟨by rw [← he];exact hb,d,hd,hR,hLa⟩
 refine ⟨ny.2 ⟨0,h.z,by simp⟩,fun q hq=>?_,L &&& ~~~((r ^^^ k) &&& d.rhs),ny.2 ⟨L,l1,rfl⟩,fun q hq=>?_,fun a hal h1 h2=>?_⟩
 · obtain ⟨p,hp,rfl⟩:=ny.1 hq
   obtain ⟨p1,p2⟩:=h.r p hp
   refine ⟨b5.2 fun i hi hb=>?_,fun b hb=>ah3 fun a c hal hcl hba hbc hqa=>?_⟩
   · rw [bw hi,Bool.and_eq_true] at hb
     exact b5.1 p1 i hi hb.1
   · rw [bw hal,Bool.and_eq_true] at hqa
     rw [bw hcl,Bool.and_eq_true]
     refine ⟨by rw [← wk (p2 b hb) hcl hba hbc];exact hqa.1, ?_⟩
     cases hsc:((r ^^^ k) &&& d.rhs).getLsbD c with
     | false=>rfl
     | true =>
      have hsg:=(hdead c hcl hsc).1
      have he:=hbk.one hb hsg hbc (by rw [du hcl hcl];simp)
      rw [he,du hcl hal] at hba
      have hac:a = c:=by simpa using hba
      rw [hac,hsc] at hqa
      simp at hqa
 · obtain ⟨p,hp,rfl⟩:=ny.1 hq
   refine b5.2 fun i hi hb=>?_
   rw [bw hi,Bool.and_eq_true] at hb ⊢
   exact ⟨b5.1 (l2 p hp) i hi hb.1,hb.2⟩
 · rw [bw hal] at h2
   cases hLa:L.getLsbD a with
   | false=>exact l3 a hal h1 hLa
   | true =>
    rw [hLa] at h2
    exact hdead a hal (by simpa using h2)
def b1j (T:List AS) (b:AS):Prop:=∀ r ∈ T,∀ k ∈ T,((r &&& b) ||| (k &&& ~~~b)) ∈ T
theorem ij {r k b:AS} {i:Nat} (hi:i < 32):((r &&& b) ||| (k &&& ~~~b)).getLsbD i = (if b.getLsbD i then r.getLsbD i else k.getLsbD i):=by
 rw [BitVec.getLsbD_or,bw hi,BitVec.getLsbD_and]
 cases b.getLsbD i <;> simp
theorem at5 {r k s:AS} (h:(r ^^^ k) &&& s = 0) {i:Nat} (hi:i < 32) (hs:s.getLsbD i = true):r.getLsbD i = k.getLsbD i:=by
 have:=gr.1 (show s &&& (r ^^^ k) = 0 by rw [BitVec.and_comm];exact h) i hi hs
 rw [BitVec.getLsbD_xor] at this
 cases hr:r.getLsbD i <;> cases hk:k.getLsbD i <;> simp_all
theorem acn (hT:JT fs bs rest T) (hc:aaj fs ms T) (hbk:Blk (fq fs ms) rest bs):∀ b ∈ bs,b1j T b:=by
 refine hbk.ind _ (fun r hr k hk=>?_) fun m hm b hb hsp=>?_
 · have e:(r &&& rest) ||| (k &&& ~~~rest) = r:=by
    apply gt
    intro i hi
    rw [ij hi]
    split
    · rfl
    · rename_i hn
      have h1:=b5.1 (hT.r r hr).1 i hi
      have h2:=b5.1 (hT.r k hk).1 i hi
      cases hr2:r.getLsbD i <;> cases hk2:k.getLsbD i <;> simp_all
   rw [e]
   exact hr
 · obtain ⟨s1,s2,s3⟩:=lu.1 hsp
   have key:∀ r ∈ T,∀ k ∈ T,((r &&& b) ||| (k &&& ~~~b)) ∈ T ∧ agB m ((r &&& b) ||| (k &&& ~~~b)) k = true:=fun r hr k hk=>by
    refine ⟨hb r hr k hk,qg.2 fun i hi hl=>?_⟩
    rw [ij hi]
    have:b.getLsbD i = false:=by
     cases h:b.getLsbD i with
     | false=>rfl
     | true=>rw [gr.1 s1 i hi h] at hl;cases hl
    simp [this]
   have agc:∀ r k:AS,agB m r k = true → agB m k r = true:=fun r k h=>qg.2 fun i hi hl=>(qg.1 h i hi hl).symm
   rcases va.1 hm with hm | ⟨f,hf,a,hal,hfa,rfl⟩
   · constructor
     · intro r hr k hk
       obtain ⟨h1,h2⟩:=key r hr k hk
       have:=hc.mv m hm _ h1 k hk h2
       have e:j3 m ((r &&& b) ||| (k &&& ~~~b)) k = (r &&& (b &&& m.rhs)) ||| (k &&& ~~~(b &&& m.rhs)):=by
        apply gt
        intro i hi
        rw [qd hi,ij hi,ij hi,BitVec.getLsbD_and]
        cases hb2:b.getLsbD i <;> cases hl:m.lhs.getLsbD i <;> cases hr2:m.rhs.getLsbD i <;> simp
        have:=gr.1 s1 i hi hb2
        rw [hl] at this
        cases this
       rw [e] at this
       exact this
     · intro r hr k hk
       obtain ⟨h1,h2⟩:=key r hr k hk
       have:=hc.mv m hm k hk _ h1 (agc _ _ h2)
       have e:j3 m k ((r &&& b) ||| (k &&& ~~~b)) = (r &&& (b &&& ~~~m.rhs)) ||| (k &&& ~~~(b &&& ~~~m.rhs)):=by
        apply gt
        intro i hi
        rw [qd hi,ij hi,ij hi,bw hi]
        cases hb2:b.getLsbD i <;> cases hl:m.lhs.getLsbD i <;> cases hr2:m.rhs.getLsbD i <;> simp
        have:=gr.1 s1 i hi hb2
        rw [hl] at this
        cases this
       rw [e] at this
       exact this
   ·
    have hba:b.getLsbD a = true:=by
     obtain ⟨i,hi,h1,h2⟩:=s8 s2
     rw [du hal hi] at h2
     have:i = a:=by simpa using h2
     rw [← this];exact h1
    have hno:∀ r ∈ T,∀ k ∈ T,r.getLsbD a = k.getLsbD a:=fun r hr k hk=>by
     obtain ⟨h1,h2⟩:=key r hr k hk
     have h3:=at5 (hc.fd f hf _ h1 k hk (by
      rw [qg] at h2 ⊢
      exact h2)) hal hfa
     rw [ij hal,hba] at h3
     simpa using h3
    have hza:∀ r ∈ T,r.getLsbD a = false:=fun r hr=>by rw [hno r hr 0 hT.z];simp
    constructor
    · intro r hr k hk
      have e:(r &&& (b &&& fu a)) ||| (k &&& ~~~(b &&& fu a)) = k:=by
       apply gt
       intro i hi
       rw [ij hi,BitVec.getLsbD_and,du hal hi]
       by_cases h:i = a
       · subst h;simp [hza r hr,hza k hk]
       · simp [h]
      show (r &&& (b &&& fu a)) ||| (k &&& ~~~(b &&& fu a)) ∈ T
      rw [e]
      exact hk
    · intro r hr k hk
      have e:(r &&& (b &&& ~~~fu a)) ||| (k &&& ~~~(b &&& ~~~fu a)) = (r &&& b) ||| (k &&& ~~~b):=by
       apply gt
       intro i hi
       rw [ij hi,ij hi,bw hi,du hal hi]
       by_cases h:i = a
       · subst h;simp [hza r hr,hza k hk]
       · simp [h]
      show (r &&& (b &&& ~~~fu a)) ||| (k &&& ~~~(b &&& ~~~fu a)) ∈ T
      rw [e]
      exact hb r hr k hk
structure aql (fs ms:List Fd) (bs:List AS) (rest:AS) (T:List AS):Prop where
 j:JT fs bs rest T
 c:aaj fs ms T
theorem arp (h:aql fs ms bs rest T) (hbk:Blk (fq fs ms) rest bs) {L:AS} (hL:L ∈ T) (hm:∀ r ∈ T,sub r L) {a:Nat} (hal:a < 32):a6n fs bs a → L.getLsbD a = false:=by
 rintro ⟨h1,f,hf,h2,h3⟩
 have hg:=acn h.j h.c hbk _ h1 L hL 0 h.j.z
 have h4:=h.c.fd f hf _ hg 0 h.j.z (qg.2 fun i hi hl=>by
  rw [ij hi,du hal hi]
  by_cases e:i = a
  · subst e;rw [h3] at hl;cases hl
  · simp [e])
 have h5:=at5 h4 hal h2
 rw [ij hal,du hal hal] at h5
 simpa using h5
def qB (T:List AS) (L x rest y:AS):Prop:=y ≠ 0 ∧ sub y rest ∧ (L &&& ~~~(x ||| y)) ∈ T
theorem amw (h:aql fs ms bs rest T) (hbk:Blk (fq fs ms) rest bs) {L x:AS} (hL:L ∈ T) (hm:∀ r ∈ T,sub r L) (hx:rest &&& x = 0) (b:AS) :
 b ∈ bs ↔ qB T L x rest b ∧ ∀ y,qB T L x rest y → sub y b → y = b:=by
 have hLr:=(h.j.r L hL).1
 have hLx:∀ y:AS,L &&& ~~~(x ||| y) = L &&& ~~~y:=fun y=>by
  apply gt
  intro i hi
  rw [bw hi,bw hi,BitVec.getLsbD_or]
  cases hl:L.getLsbD i with
  | false=>rfl
  | true=>rw [gr.1 hx i hi (b5.1 hLr i hi hl)];simp
 have hA:∀ b ∈ bs,qB T L x rest b:=fun b hb=>by
  refine ⟨hbk.nz b hb,hbk.sub hb, ?_⟩
  rw [hLx]
  have:=acn h.j h.c hbk b hb 0 h.j.z L hL
  have e:((0:AS) &&& b) ||| (L &&& ~~~b) = L &&& ~~~b:=by simp
  rw [e] at this
  exact this
 have hB:∀ y,qB T L x rest y → ∃ b ∈ bs,sub b y:=fun y ⟨y1,y2,y3⟩=>by
  obtain ⟨a,hal,hya⟩:=ad6 y1
  obtain ⟨b,hb,hba⟩:=hbk.cov (b5.1 y2 a hal hya)
  by_cases hs:sub b y
  · exact ⟨b,hb,hs⟩
  · exfalso
    obtain ⟨c,hcl,hbc,hyc⟩:=s8 hs
    have hyc:y.getLsbD c = false:=by simpa [hcl] using hyc
    rw [hLx] at y3
    have h1:=wk ((h.j.r _ y3).2 b hb) hcl hba hbc
    rw [bw hal,bw hcl,hya,hyc] at h1
    have hLc:L.getLsbD c = false:=by simpa using h1.symm
    obtain ⟨L2,m1,m2,m3⟩:=h.j.top
    have e:L2 = L:=fh (hm L2 m1) (m2 L hL)
    subst e
    have hd:=(m3 c hcl (b5.1 (hbk.sub hb) c hcl hbc) hLc).1
    have he:=hbk.one hb hd hbc (by rw [du hcl hcl];simp)
    rw [he,du hcl hal] at hba
    have:a = c:=by simpa using hba
    rw [this,hyc] at hya
    cases hya
 constructor
 · intro hb
   refine ⟨hA b hb,fun y hy hyb=>?_⟩
   obtain ⟨b',hb',hs⟩:=hB y hy
   obtain ⟨a,hal,hba⟩:=ad6 (hbk.nz b' hb')
   have hya:=b5.1 hs a hal hba
   have e:=hbk.one hb' hb hba (b5.1 hyb a hal hya)
   subst e
   exact fh hyb hs
 · rintro ⟨hq,hmin⟩
   obtain ⟨b',hb',hs⟩:=hB b hq
   have:=hmin b' (hA b' hb') hs
   rw [← this]
   exact hb'
end
end Go.Hx
end
section
namespace Go.Hx
def jz:List AS → Nat
 | []=>0
 | b :: l=>b.toNat + jz l
theorem a4m:∀ (l k:List AS),jz (l ++ k) = jz l + jz k
 | [],k=>by simp [jz]
 | b :: l,k=>by simp [jz,a4m l k];omega
def OkB (l:List AS):Prop:=jz l < 4294967296 ∧ ∀ b ∈ l,b ≠ 0
theorem a8q {l:List AS} (h:OkB l):l.length ≤ 4294967296:=by
 have:∀ l:List AS,(∀ b ∈ l,b ≠ 0) → l.length ≤ jz l:=by
  intro l
  induction l with
  | nil=>intro _;simp [jz]
  | cons b l ih =>
   intro h
   have h1:=ih fun x hx=>h x (by simp [hx])
   have h2:=a12 (h b (by simp))
   simp only [List.length_cons,jz]
   omega
 have h1:=this l h.2
 have:=h.1
 omega
theorem ayw (m:Fd) (l:List AS):jz (rdB m l) = jz l:=by
 have:∀ l:List AS,jz (l.map (hdB m)) + jz (l.flatMap (tlB m)) = jz l:=by
  intro l
  induction l with
  | nil=>rfl
  | cons b l ih =>
   rw [List.map_cons,List.flatMap_cons,a4m]
   simp only [jz]
   by_cases h:dc m b = true
   · have:=a3b b m.rhs
     simp only [hdB,tlB,h,if_true,jz]
     omega
   · rw [Bool.not_eq_true] at h
     simp only [hdB,tlB,h,jz,Bool.false_eq_true,if_false]
     omega
 unfold rdB
 rw [a4m]
 exact this l
theorem amc {m:Fd} {l:List AS} (h:OkB l):OkB (rdB m l):=by
 refine ⟨by rw [ayw];exact h.1,fun b hb=>?_⟩
 unfold rdB at hb
 rcases List.mem_append.1 hb with hb | hb
 · obtain ⟨b0,h0,rfl⟩:=List.mem_map.1 hb
   unfold hdB
   split
   · rename_i hs;exact (lu.1 hs).2.1
   · exact h.2 _ h0
 · obtain ⟨b0,h0,hb⟩:=List.mem_flatMap.1 hb
   unfold tlB at hb
   split at hb
   · rename_i hs
     simp at hb
     subst hb
     exact (lu.1 hs).2.2
   · cases hb
theorem a9n (rest:AS):OkB (im rest):=by
 unfold im
 split
 · exact ⟨by simp [jz],fun _ h=>by cases h⟩
 · rename_i h
   exact ⟨by simp only [jz];have:=rest.isLt;omega,fun b hb=>by simp at hb;subst hb;exact h⟩
theorem a2c {rest:AS} (h:¬ rest = 0):im rest = [] ++ [rest]:=by rw [im,if_neg h];rfl
theorem a2q {rest:AS} (h:rest = 0):im rest = []:=by rw [im,if_pos h]
theorem a4b (m:Fd) (l:List AS):stB m l 0 = l:=by simp [stB]
theorem y9 (m:Fd) (l:List AS):stB m l l.length = rdB m l:=by simp [stB,rdB]
theorem pk (m:Fd) (l:List AS) (i:Nat):((l.take i).map (hdB m)).length = min i l.length:=by simp
theorem atz {m:Fd} {l:List AS} {i:Nat} (h:i < l.length):(stB m l i).getD i default = l.getD i default:=by
 have e:((l.take i).map (hdB m)).length = i:=by rw [pk];omega
 unfold stB
 rw [List.append_assoc,List.getD_eq_getElem?_getD,List.getElem?_append_right (by rw [e];omega),e,Nat.sub_self,List.getElem?_append_left (by rw [List.length_drop];omega),List.getElem?_drop,Nat.add_zero,← List.getD_eq_getElem?_getD]
theorem stB_get' {m:Fd} {l:List AS} {i a:Nat} (hia:i ≤ a) (h:a < l.length):(stB m l i).getD a default = l.getD a default:=by
 have e:((l.take i).map (hdB m)).length = i:=by rw [pk];omega
 unfold stB
 rw [List.append_assoc,List.getD_eq_getElem?_getD,List.getElem?_append_right (by rw [e];omega),e,List.getElem?_append_left (by rw [List.length_drop];omega),List.getElem?_drop,show i + (a - i) = a by omega,← List.getD_eq_getElem?_getD]
theorem agu (m:Fd) (l:List AS) (i:Nat):l.length ≤ (stB m l i).length:=by
 unfold stB
 rw [List.length_append,List.length_append,pk,List.length_drop]
 omega
theorem a9t {l:List AS} {i:Nat} (h:i < l.length):l.drop i = l.getD i default :: l.drop (i + 1):=by
 rw [List.drop_eq_getElem_cons h]
 congr 1
 simp [List.getD_eq_getElem?_getD,List.getElem?_eq_getElem h]
theorem ln {m:Fd} {l:List AS} {i:Nat} (h:i < l.length) (hs:dc m (l.getD i default) = false):stB m l (i + 1) = stB m l i:=by
 unfold stB
 rw [be h,List.map_append,List.flatMap_append,a9t h]
 simp only [List.map_cons,List.map_nil,List.flatMap_cons,List.flatMap_nil,hdB,tlB,hs,Bool.false_eq_true,if_false,List.append_nil,List.append_assoc,List.cons_append,List.nil_append]
theorem aav {m:Fd} {l:List AS} {i:Nat} (h:i < l.length) (hs:dc m (l.getD i default) = true):stB m l (i + 1) = (stB m l i).set i (l.getD i default &&& m.rhs) ++ [l.getD i default &&& ~~~m.rhs]:=by
 have e:((l.take i).map (hdB m)).length = i:=by rw [pk];omega
 unfold stB
 rw [be h,List.map_append,List.flatMap_append,a9t h]
 simp only [List.map_cons,List.map_nil,List.flatMap_cons,List.flatMap_nil,hdB,tlB,hs,if_true,List.append_nil]
 generalize hA:(l.take i).map (hdB m) = A at e ⊢
 generalize (l.take i).flatMap (tlB m) = B
 generalize l.drop (i + 1) = D
 subst e
 rw [List.append_assoc A,List.append_assoc A,List.append_assoc A,List.set_append_right _ _ (Nat.le_refl _),Nat.sub_self,List.append_assoc A]
 simp
theorem b0x (m:Fd) (l:List AS):∀ i,(stB m l i).length ≤ (rdB m l).length:=by
 intro i
 by_cases hi:i < l.length
 · have:∀ k,i + k ≤ l.length → (stB m l i).length ≤ (stB m l (i + k)).length:=by
    intro k
    induction k with
    | zero=>intro _;exact Nat.le_refl _
    | succ k ih =>
     intro hk
     have h1:=ih (by omega)
     refine Nat.le_trans h1 ?_
     cases hs:dc m (l.getD (i + k) default)
     · rw [show i + (k + 1) = i + k + 1 by omega,ln (by omega) hs];exact Nat.le_refl _
     · rw [show i + (k + 1) = i + k + 1 by omega,aav (by omega) hs,List.length_append,List.length_set];omega
   have h2:=this (l.length - i) (by omega)
   rw [show i + (l.length - i) = l.length by omega,y9] at h2
   exact h2
 · unfold stB rdB
   rw [List.take_of_length_le (by omega),List.drop_eq_nil_of_le (by omega)]
   simp
def a0k (l:List AS) (i:Nat):Nat → Nat → PV:=fun k c=>if k < i then .any else sC (l.getD k default) c
theorem au6 (l:List AS) (i:Nat):a0k l i i 0 = asC (l.getD i default):=by
 unfold a0k
 rw [if_neg (Nat.lt_irrefl i)]
theorem a2i {l:List AS} {i:Nat} {cl:Bool} {n:Nat} (hn:n = l.length):CoP (.sl n 1 cl (a0k l i)) (.sl l.length 1 false (a0k l (i + 1))):=by
 subst hn
 refine CoP.sl rfl (.inl rfl) (fun h=>by cases h) fun k c hk hc=>?_
 unfold a0k
 by_cases h1:k < i
 · rw [if_pos h1,if_pos (show k < i + 1 by omega)];exact CoP.refl _
 · rw [if_neg h1]
   by_cases h2:k < i + 1
   · rw [if_pos h2];exact CoP.any_of
   · rw [if_neg h2];exact CoP.refl _
theorem aed {m:Fd} {L:List AS} {i k:Nat} {v:PV} (hil:i < L.length) (hk:k = i:=by rfl):CoP (.sl L.length 1 false (dw (lf sC (stB m L i)) k 0 [v])) (.sl L.length 1 false (a0k L (i + 1))):=by
 subst hk
 refine CoP.sl rfl (.inl rfl) (fun h=>h) fun a c ha hc=>?_
 obtain rfl:c = 0:=by omega
 unfold a0k
 by_cases h:a < k + 1
 · rw [if_pos h];exact CoP.any_of
 · rw [if_neg h]
   unfold dw lf
   rw [if_neg (by omega),stB_get' (by omega) ha]
   exact CoP.refl _
theorem aoe {A B:List AS} {a:Nat} (h:a < A.length):(A ++ B).getD a default = A.getD a default:=by simp [List.getD_eq_getElem?_getD,List.getElem?_append_left h]
theorem ake {A:List AS} {x:AS}:(A ++ [x]).getD A.length default = x:=by simp [List.getD_eq_getElem?_getD]
theorem rt {wr wr':Bool} {e:TypeId} {m:Fd} {L:List AS} {i k:Nat} {u:Int} {g:Nat → Nat → PV} (hil:i < L.length) (hs:dc m (L.getD i default) = true) (hk:k = i) (hu:u = asI (L.getD i default &&& m.rhs)) (hg:CoP (g 0 0) (asC (L.getD i default &&& ~~~m.rhs))) (hw:wr' = true → wr = true:=by exact fun h=>h) :
 CoO (.arr wr 1 e ((stB m L i).length + 1) (ef (stB m L i).length (dw (lf sC (stB m L i)) k 0 [.raw (.int .u32 u)]) g)) (.arr wr' 1 e (stB m L (i + 1)).length (lf sC (stB m L (i + 1)))):=by
 subst hk hu
 have hl:=agu m L k
 rw [aav hil hs]
 refine ⟨hw,rfl,rfl,by rw [List.length_append,List.length_set];rfl,fun a j ha hj=>?_⟩
 obtain rfl:j = 0:=by omega
 unfold ef
 generalize L.getD k default &&& m.rhs = X
 generalize L.getD k default &&& ~~~m.rhs = Y at hg ⊢
 generalize stB m L k = A at hl ha ⊢
 by_cases h:a < A.length
 · rw [if_pos h]
   refine CoP.of_eq ?_
   show dw (lf sC A) k 0 [.raw (.int .u32 (asI X))] a 0 = sC ((A.set k X ++ [Y]).getD a default) 0
   rw [aoe (by rw [List.length_set];exact h)]
   unfold dw lf
   by_cases h2:a = k
   · subst h2
     rw [if_pos ⟨rfl,Nat.le_refl _,by simp⟩,lg h]
     rfl
   · rw [if_neg (by omega),getD_set_ne' h2]
 · obtain rfl:a = A.length:=by omega
   rw [if_neg h,Nat.sub_self]
   show CoP (g 0 0) (sC ((A.set k X ++ [Y]).getD A.length default) 0)
   have:=ake (A:=A.set k X) (x:=Y)
   rw [List.length_set] at this
   rw [this]
   exact hg
theorem zq {ms:List Fd} {l:List AS} {j:Nat} (h:j < ms.length):c7 (ms.take (j + 1)) l = rdB (ms.getD j default) (c7 (ms.take j) l):=by
 unfold c7
 rw [be h,List.foldl_append]
 rfl
theorem age:∀ (ms:List Fd) (m:Fd) (l:List AS),jo (ms ++ [m]) l = (jo ms l || (c7 ms l).any (dc m))
 | [],m,l=>by simp [jo,c7]
 | k :: ms,m,l=>by
  simp only [List.cons_append,jo]
  rw [age ms m (rdB k l),Bool.or_assoc]
  rfl
theorem aef {ms:List Fd} {l:List AS} {j:Nat} (h:j < ms.length):jo (ms.take (j + 1)) l = (jo (ms.take j) l || (c7 (ms.take j) l).any (dc (ms.getD j default))):=by
 rw [be h,age]
theorem a26 {l:List AS} (h:OkB l):∀ {ms:List Fd},OkB (c7 ms l):=by
 intro ms
 induction ms generalizing l with
 | nil=>exact h
 | cons m ms ih=>exact ih (amc h)
structure BkI (ms:List Fd) (R:List AS) (x:Nat × List AS × Bool):Prop where
 ok:OkB x.2.1
 t:x.2.2 = true → sk ms x.1 x.2.1 = R ∧ muB x.2.1 < x.1
 f:x.2.2 = false → x.2.1 = R
theorem aqq (ms:List Fd) (rest:AS):BkI ms (blks ms rest) (18446744073709551616,im rest,true):=⟨a9n rest,fun _=>⟨rfl,a99 rest⟩,fun h=>by cases h⟩
theorem aux {ms:List Fd} {R l:List AS} {f:Nat} (h:BkI ms R (f,l,true)):BkI ms R (f - 1,c7 ms l,jo ms l) ∧ 0 < f:=by
 obtain ⟨h1,h2⟩:=h.t rfl
 have h2:muB l < f:=h2
 obtain ⟨g,rfl⟩:∃ g,f = g + 1:=⟨f - 1,by omega⟩
 have h3:=a8m ms l
 refine ⟨⟨a26 h.ok,fun hc=>?_,fun hc=>?_⟩,by omega⟩
 · have hc:jo ms l = true:=hc
   have h1:sk ms (g + 1) l = R:=h1
   unfold sk at h1
   rw [if_pos hc] at h1 h3
   exact ⟨h1,by show muB (c7 ms l) < g;omega⟩
 · have hc:jo ms l = false:=hc
   have h1:sk ms (g + 1) l = R:=h1
   unfold sk at h1
   rw [hc] at h1
   exact h1
def ckB (n:Int) (l m:List Fd) (s:AS):Int:=if c8 n l m = 0 then (if s >>> n.toNat = 0 then 0 else 1) else c8 n l m
theorem ajc {n:Int} {l m:List Fd} {s:AS} (h:¬ c8 n l m = 0):ckB n l m s = c8 n l m:=if_neg h
theorem asr {n:Int} {l m:List Fd} {s:AS} (h:c8 n l m = 0) (h2:¬ s >>> n.toNat = 0):ckB n l m s = 1:=by unfold ckB;rw [if_pos h,if_neg h2]
theorem a2w {n:Int} {l m:List Fd} {s:AS} (h:c8 n l m = 0) (h2:s >>> n.toNat = 0):ckB n l m s = 0:=by unfold ckB;rw [if_pos h,if_pos h2]
theorem uw {n:Int} {l m:List Fd} {s:AS} (h:ckB n l m s = 0):c8 n l m = 0 ∧ s >>> n.toNat = 0:=by
 unfold ckB at h
 split at h
 · split at h
   · exact ⟨by assumption,by assumption⟩
   · cases h
 · exact absurd h (by assumption)
theorem ah6 (f:Fd):(sgl f).length ≤ 32:=by unfold sgl;rw [List.length_map];exact adf _
def jc (fs ms:List Fd) (i k:Nat):List Fd:=ms ++ (fs.take i).flatMap sgl ++ (sgl (fs.getD i default)).take k
theorem a9a (fs ms:List Fd):jc fs ms 0 0 = ms:=by simp [jc]
theorem an8 {fs ms:List Fd} {i:Nat} (h:i < fs.length):jc fs ms (i + 1) 0 = jc fs ms i (sgl (fs.getD i default)).length:=by
 unfold jc
 rw [be h,List.flatMap_append,List.take_length]
 simp
theorem arn (fs ms:List Fd):jc fs ms fs.length 0 = fq fs ms:=by simp [jc,fq]
theorem amu {fs ms:List Fd} {i k:Nat} (h:k < (sgl (fs.getD i default)).length):jc fs ms i (k + 1) = jc fs ms i k ++ [(sgl (fs.getD i default)).getD k default]:=by
 unfold jc
 rw [be h,← List.append_assoc]
theorem aqi {fs ms:List Fd} {i k:Nat}:(jc fs ms i k).length ≤ ms.length + 32 * (i + 1):=by
 have:∀ l:List Fd,(l.flatMap sgl).length ≤ 32 * l.length:=by
  intro l
  induction l with
  | nil=>simp
  | cons f l ih =>
   rw [List.flatMap_cons,List.length_append,List.length_cons]
   have:=ah6 f
   omega
 have h1:=this (fs.take i)
 have h2:=ah6 (fs.getD i default)
 unfold jc
 rw [List.length_append,List.length_append,List.length_take]
 rw [List.length_take] at h1
 omega
end Go.Hx
end
section
namespace Go.Hx
open Go.RowKit
section
variable {ro:Option Nat} {P:Program} {nt:Nat} {st:HSt} {Q:Exit → HSt → Prop}
theorem qc {w0:World} {cc:Ctx} {a:Act} {w:World} (hrr:aq w0 nt cc st.den a w) {d:Nat} {x:HR} (hx:au cc st.den.o x (a.tmps.getD d undef)):aq w0 nt cc (HSt.den ⟨(d,some x) :: st.t,st.o⟩) a w:=by
 refine ⟨hrr.defers,hrr.size,hrr.below,fun k y hy=>?_,hrr.objs,hrr.inj,hrr.imm,hrr.sep,hrr.was,hrr.frm,hrr.fsep,hrr.fixed⟩
 simp only [HSt.den] at hy
 rw [bq] at hy
 dsimp only at hy
 split at hy
 · rename_i hk
   subst hk
   simp only [Option.some.injEq] at hy
   subst hy
   exact hx
 · exact hrr.tmps k y hy
theorem aou {c:Code} (d:Nat) {id n n' s:Nat} {wr:Bool} {e:TypeId} {f:Nat → Nat → PV} (hd:bp st.t d = some (.v (.one (.ref id n)))) (ho:bp st.o id = some (.arr wr s e n' f)) (hn:n' = n)
 (h:HW (ro:=ro) P nt c ⟨(d,some (.v (.one (.win id n 0 n)))) :: st.t,st.o⟩ Q):HW (ro:=ro) P nt c st Q:=by
 subst hn
 refine u6 st d _ (fun w0 m0 a w hr=>?_) h
 obtain ⟨cc,hold,hrr⟩:=hr
 refine ⟨cc,hold,hrr, ?_⟩
 have hu:bh cc st.den.o (.ref id n') (a.tmps.getD d undef):=hrr.tmps d _ hd
 refine ⟨hu.1,hu.2.1,fun ob s2 e2 n2 ho2 hd2=>⟨(hu.2.2 _ _ _ _ ho2 hd2).1,fun hk=>?_⟩⟩
 have he:=(hu.2.2 _ _ _ _ ho2 hd2).2 hk
 obtain rfl:ob = .arr wr s e n' f:=Option.some.inj (ho2.symm.trans ho)
 simp only [al.dim,Option.some.injEq,Prod.mk.injEq] at hd2
 obtain ⟨rfl,rfl,rfl⟩:=hd2
 obtain ⟨ad,cap,hv,hc1,hc2⟩:=tg (hrr.objs _ _ ho2)
 exact ⟨ad,ad,cap,hv,by rw [he,hv];rfl,by omega,hc1,hc2,fun _=>by cases ad <;> simp [l5]⟩
theorem auy {c:Code} (d dh:Nat) {id n n' n0 k s:Nat} {e:TypeId} {f:Nat → Nat → PV} (hd:bp st.t d = some (.v (.one (.ref id n)))) (hh:bp st.t dh = some (.v (.one (.win id k 0 n0)))) (ho:bp st.o id = some (.arr true s e n' f)) (hn:n' = n) (hk:k = n) (hne:Nat.beq d dh = false)
 (hA:∀ ad cap,n + 1 ≤ cap → HW (ro:=ro) P nt c ⟨(d,some (.v (.one (.pin id n ad cap)))) :: (dh,some (bt (.raw (.slice ad n0 cap)))) :: st.t,st.o⟩ Q)
 (hB:HW (ro:=ro) P nt c ⟨(d,some (bt (.sl n s true f))) :: (dh,some (bt (.sl n0 s false f))) :: st.t,(id,none) :: st.o⟩ Q):HW (ro:=ro) P nt c st Q:=by
 subst hn hk
 intro w0 m0 a w hr
 obtain ⟨cc,hold,hrr⟩:=hr
 have hu:bh cc st.den.o (.ref id k) (a.tmps.getD d undef):=hrr.tmps d _ hd
 have hv:bh cc st.den.o (.win id k 0 n0) (a.tmps.getD dh undef):=hrr.tmps dh _ hh
 obtain ⟨ad,ad',cap,q1,q2,q3,q4,q5,q6⟩:=tt hv ho rfl
 have hu1:=(hu.2.2 _ _ _ _ ho rfl).2 rfl
 by_cases hc:k + 1 ≤ cap
 · obtain rfl:ad' = ad:=by
    rw [q6 (by omega)]
    cases ad <;> simp [l5]
   refine hA ad' cap hc w0 m0 a w ⟨cc,hold, ?_⟩
   have h1:aq w0 nt cc (HSt.den ⟨(dh,some (bt (.raw (.slice ad' n0 cap)))) :: st.t,st.o⟩) a w:=qc hrr ⟨by simpa using q2,rfl⟩
   refine qc (st:=⟨(dh,some (bt (.raw (.slice ad' n0 cap)))) :: st.t,st.o⟩) h1 ⟨hu1.trans q1,hu.2.1,hu.2.2⟩
 · obtain rfl:cap = k:=by omega
   have hfr:=hrr.freeze (id:=id) ho
   rw [← qb] at hfr
   refine hB w0 m0 a w ⟨{ old:=cc.old,imm:=frozenImm cc w id,tab:=sy hrr ho,own:=cc.own,blk:=cc.blk,rows:=cc.rows },hold, ?_⟩
   have hfa:=mw hrr ho
   have h1:=qc (st:=⟨st.t,(id,none) :: st.o⟩) (d:=dh) (x:=bt (.sl n0 s false fun a b=>f (0 + a) b)) hfr (ai2 hrr ho hv)
   have e0:(fun a b=>f (0 + a) b) = f:=by funext a b;rw [Nat.zero_add]
   rw [e0] at h1
   refine qc (st:=⟨(dh,some (bt (.sl n0 s false f))) :: st.t,(id,none) :: st.o⟩) h1 ?_
   rw [hu1]
   obtain ⟨A,C,r1,r2,r3,r4,r5⟩:=hfa
   refine ⟨A,C,r1,r2,r3,fun _=>?_,r5⟩
   rw [q1] at r1
   simp only [Value.slice.injEq,true_and] at r1
   exact r1.2.symm
theorem ar3 {c:Code} (d dh:Nat) {id n n' n0 s cap:Nat} {ad:Option Addr} {e:TypeId} {f:Nat → Nat → PV} (hd:bp st.t d = some (.v (.one (.pin id n ad cap)))) (hh:bp st.t dh = some (bt (.raw (.slice ad n0 cap)))) (ho:bp st.o id = some (.arr true s e n' f)) (hn:n' = n) (hle:n0 ≤ n) (hne:Nat.beq d dh = false)
 (h:HW (ro:=ro) P nt c ⟨(d,some (.v (.one (.ref id n)))) :: (dh,some (.v (.one (.win id n 0 n0)))) :: st.t,st.o⟩ Q):HW (ro:=ro) P nt c st Q:=by
 subst hn
 intro w0 m0 a w hr
 obtain ⟨cc,hold,hrr⟩:=hr
 have hu:bh cc st.den.o (.pin id n' ad cap) (a.tmps.getD d undef):=hrr.tmps d _ hd
 have hv:bh cc st.den.o (.p (.raw (.slice ad n0 cap))) (a.tmps.getD dh undef):=hrr.tmps dh _ hh
 obtain ⟨hv1,_⟩:=hv
 have hu1:=(hu.2.2 _ _ _ _ ho rfl).2 rfl
 refine h w0 m0 a w ⟨cc,hold, ?_⟩
 have h1:aq w0 nt cc (HSt.den ⟨(dh,some (.v (.one (.win id n' 0 n0)))) :: st.t,st.o⟩) a w:=by
  refine qc hrr ⟨by rw [hv1];rfl,hu.2.1,fun ob s2 e2 n2 ho2 hd2=>⟨(hu.2.2 _ _ _ _ ho2 hd2).1,fun hk=>?_⟩⟩
  obtain rfl:ob = .arr true s e n' f:=Option.some.inj (ho2.symm.trans ho)
  simp only [al.dim,Option.some.injEq,Prod.mk.injEq] at hd2
  obtain ⟨rfl,rfl,rfl⟩:=hd2
  obtain ⟨ad2,cap2,g1,g2,g3⟩:=tg (hrr.objs _ _ ho2)
  have hown:cc.own id = .slice ad n' cap:=hu1.symm.trans hu.1
  rw [hown] at g1
  simp only [Value.slice.injEq,true_and] at g1
  obtain ⟨rfl,rfl⟩:=g1
  exact ⟨ad,ad,cap,hown,hv1,by omega,g2,g3,fun _=>by cases ad <;> simp [l5]⟩
 exact qc (st:=⟨(dh,some (.v (.one (.win id n' 0 n0)))) :: st.t,st.o⟩) h1 ⟨by rw [hu.1];rfl,hu.2.1,hu.2.2⟩
end
end Go.Hx
end
