/- A part of the proof: Bz1 Bz2 Bz3 Hx27. -/
import Derived.Test.YtkkenjdfbojdlaaGreatDoorKx32
set_option linter.all false
namespace Go.Hx
section
section
variable {b:AS}
def ln {a:AS} (h:∀ i,i < 32 -> a.getLsbD i = b.getLsbD i):a = b:=bnu h
variable {s:AS}
def jy {t:AS}:s &&& t = 0 <-> ∀ i,i < 32 -> s.getLsbD i = true -> t.getLsbD i = false:=by
 constructor
 · intro h i hi hs
   have:=congrArg (fun x:AS=>x.getLsbD i) h;simp only [bmr,hs,boi] at this;simpa using this
 intro h;apply ln;intro i hi;have:=h i hi;rw [bmr];cases hs:s.getLsbD i <;> simp_all
def a7b {t:AS} (h:s &&& t ≠ 0):∃ i,i < 32 /\ s.getLsbD i = true /\ t.getLsbD i = true:=by
 apply Classical.byContradiction;intro hn;refine h (jy.2 fun i hi hs=>?_)
 cases ht:t.getLsbD i with
 | false=>rfl
 | true=>exact absurd ⟨i,hi,hs,ht⟩ hn
def amj (h:s ≠ 0):∃ i,i < 32 /\ s.getLsbD i = true:=by
 apply Classical.byContradiction;intro hn;refine h (ln fun i hi=>?_)
 cases hs:s.getLsbD i with
 | false=>simp
 | true=>exact absurd ⟨i,hi,hs⟩ hn
def zk {i:Nat} (h:s.getLsbD i = true):i < 32:=BitVec.lt_of_getLsbD h
def d5 {t:AS} {i:Nat} (hi:i < 32):(s &&& ~~~t).getLsbD i = (s.getLsbD i && !t.getLsbD i):=by simp [hi]
def jt (a:Nat):AS:=1#32 <<< a
def gl {a i:Nat} (ha:a < 32) (hi:i < 32):(jt a).getLsbD i = decide (i = a):=by
 unfold jt;rw [BitVec.getLsbD_shiftLeft];by_cases h:i = a
 · subst h;simp [hi]
 by_cases h2:i < a
 · simp [h,h2,hi]
 have:i - a ≠ 0:=by omega
 simp [h,h2,hi,BitVec.getLsbD_one,this]
def b1u {a:Nat} (ha:a < 32) (h:sub b (jt a)) (hb:b.getLsbD a = true):b = jt a:=by
 apply ln;intro i hi;have:=ar.1 h i hi;rw [gl ha hi] at this ⊢;by_cases e:i = a
 · subst e;simp [hb]
 cases hs:b.getLsbD i
 · simp [e]
 simp [e,hs] at this
def dw (m:Fd) (b:AS):Bool:=decide (b &&& m.lhs = 0) && (decide (b &&& m.rhs ≠ 0) && decide (b &&& ~~~m.rhs ≠ 0))
def hdB (m:Fd) (b:AS):AS:=if dw m b = true then b &&& m.rhs else b
def tlB (m:Fd) (b:AS):List AS:=if dw m b = true then [b &&& ~~~m.rhs] else []
def stB (m:Fd) (l:List AS) (i:Nat):List AS:=(l.take i).map (hdB m) ++ l.drop i ++ (l.take i).flatMap (tlB m)
def rdB (m:Fd) (l:List AS):List AS:=l.map (hdB m) ++ l.flatMap (tlB m)
def ci (ms:List Fd) (l:List AS):List AS:=ms.foldl (fun l m=>rdB m l) l
def my:List Fd -> List AS -> Bool
 | [],_=>false
 | m :: ms,l=>l.any (dw m) || my ms (rdB m l)
def y4 (ms:List Fd):Nat -> List AS -> List AS
 | 0,l=>l
 | f + 1,l=>if my ms l = true then y4 ms f (ci ms l) else ci ms l
def muB:List AS -> Nat
 | []=>0
 | b :: l=>b.toNat * b.toNat + muB l
def agf:∀ (l k:List AS),muB (l ++ k) = muB l + muB k
 | [],k=>by simp [muB]
 | b :: l,k=>by simp [muB,agf l k];omega
def aac (b r:AS):(b &&& r).toNat + (b &&& ~~~r).toNat = b.toNat:=by
 have h:(b &&& r) &&& (b &&& ~~~r) = 0#32:=jy.2 fun i hi hs=>by
  rw [d5 hi];rw [bmr,bml] at hs;simp [hs.1,hs.2]
 have e:(b &&& r) + (b &&& ~~~r) = b:=by
  rw [BitVec.add_eq_or_of_and_eq_zero _ _ h];apply ln;intro i hi;rw [bo4,d5 hi,bmr];cases b.getLsbD i <;> cases r.getLsbD i <;> rfl
 rw [<- BitVec.toNat_add_of_and_eq_zero h,e]
def th {m:Fd}:dw m b = true <-> b &&& m.lhs = 0 /\ b &&& m.rhs ≠ 0 /\ b &&& ~~~m.rhs ≠ 0:=by simp [dw]
def azx {x y z:Nat} (h:x + y = z) (hx:0 < x) (hy:0 < y):x * x + y * y < z * z:=by
 subst h;rw [bno,Nat.mul_add,Nat.mul_add];have:0 < x * y:=Nat.mul_pos hx hy;have:0 < y * x:=Nat.mul_pos hy hx;omega
def a6s (h:b ≠ 0):0 < b.toNat:=Nat.pos_of_ne_zero fun e=>h (bng e)
def azh (m:Fd):∀ (l:List AS),muB (l.map (hdB m)) + muB (l.flatMap (tlB m)) + (if l.any (dw m) = true then 1 else 0) <= muB l
 | []=>by simp [muB]
 | b :: l=>by
  have ih:=azh m l;rw [bnx,bpi,agf,List.any_cons];simp only [muB];by_cases h:dw m b = true
  · obtain ⟨_,h2,h3⟩:=th.1 h
    have:=azx (aac b m.rhs) (a6s h2) (a6s h3);simp only [hdB,tlB,h,if_true,muB,Bool.true_or];omega
  rw [bpy] at h;simp only [hdB,tlB,h,muB,Bool.false_or,bnq,if_false];omega
def bba (m:Fd) (l:List AS):muB (rdB m l) + (if l.any (dw m) = true then 1 else 0) <= muB l:=by
 unfold rdB;rw [agf];exact azh m l
def aep:∀ (ms:List Fd) (l:List AS),muB (ci ms l) + (if my ms l = true then 1 else 0) <= muB l
 | [],l=>by simp [ci,my]
 | m :: ms,l=>by
  have h1:=bba m l;have h2:=aep ms (rdB m l);show muB (ci ms (rdB m l)) + _ <= _;simp only [my];by_cases h3:l.any (dw m) = true <;> by_cases h4:my ms (rdB m l) = true <;> simp only [h3,h4,Bool.true_or,Bool.or_true,Bool.or_false,if_true,bnq,if_false] at h1 h2 ⊢ <;> omega
def b19 {m:Fd} {l:List AS} (h:l.any (dw m) = false):rdB m l = l:=by
 have h':∀ b ∈ l,dw m b = false:=fun b hb=>by
  have:=bo7.1 h b hb;simpa using this
 have e1:l.map (hdB m) = l:=by
  conv=>rhs;rw [<- List.map_id l]
  exact boo fun b hb=>by simp [hdB,h' b hb]
 have e2:l.flatMap (tlB m) = []:=List.flatMap_eq_nil_iff.2 fun b hb=>by simp [tlB,h' b hb]
 simp [rdB,e1,e2]
def am0:∀ {ms:List Fd} {l:List AS},my ms l = false -> ci ms l = l /\ ∀ m ∈ ms,∀ b ∈ l,dw m b = false
 | [],l,_=>⟨rfl,fun _ h=>by cases h⟩
 | m :: ms,l,h=>by
  simp only [my,bpe] at h;have e:=b19 h.1;rw [e] at h;obtain ⟨h1,h2⟩:=am0 h.2;refine ⟨?_,fun k hk b hb=>?_⟩
  · show ci ms (rdB m l) = l
    rw [e];exact h1
  rcases bmp.1 hk with rfl | hk
  · have:=bo7.1 h.1 b hb
    simpa using this
  exact h2 k hk b hb
structure Blk (ms:List Fd) (rest:AS) (bs:List AS):Prop where
 nz:∀ b ∈ bs,b ≠ 0
 cnt:∀ a,a < 32 -> bs.countP (fun b=>b.getLsbD a) = if rest.getLsbD a = true then 1 else 0
 ind:∀ G:AS -> Prop,G rest -> (∀ m ∈ ms,∀ b,G b -> dw m b = true -> G (b &&& m.rhs) /\ G (b &&& ~~~m.rhs)) -> ∀ b ∈ bs,G b
variable {bs:List AS} {ms:List Fd} {rest:AS}
theorem Blk.rd (h:Blk ms rest bs) {m:Fd} (hm:m ∈ ms):Blk ms rest (rdB m bs):=by
 have hmem:∀ {b:AS},b ∈ rdB m bs -> ∃ b0 ∈ bs,(dw m b0 = false /\ b = b0) \/ (dw m b0 = true /\ (b = b0 &&& m.rhs \/ b = b0 &&& ~~~m.rhs)):=by
  intro b hb;unfold rdB at hb
  rcases bmu.1 hb with hb | hb
  · obtain ⟨b0,h0,rfl⟩:=bn2.1 hb
    refine ⟨b0,h0, ?_⟩;cases hs:dw m b0 <;> simp [hdB,hs]
  obtain ⟨b0,h0,hb⟩:=List.mem_flatMap.1 hb;refine ⟨b0,h0, ?_⟩;cases hs:dw m b0
  · simp [tlB,hs] at hb
  simp [tlB,hs] at hb;exact .inr ⟨rfl, .inr hb⟩
 refine ⟨fun b hb=>?_,fun a ha=>?_,fun G h0 hG b hb=>?_⟩
 · obtain ⟨b0,h0,⟨_,rfl⟩ | ⟨hs,hb⟩⟩:=hmem hb
   · exact h.nz _ h0
   obtain ⟨_,h2,h3⟩:=th.1 hs
   rcases hb with rfl | rfl
   · exact h2
   exact h3
 · rw [<- h.cnt a ha]
   have:∀ l:List AS,(l.map (hdB m)).countP (fun b=>b.getLsbD a) + (l.flatMap (tlB m)).countP (fun b=>b.getLsbD a) = l.countP (fun b=>b.getLsbD a):=by
    intro l
    induction l with
    | nil=>rfl
    | cons b l ih =>
     rw [bnx,bpi,bq8,boy,boy,<- ih];cases hs:dw m b
     · simp [hdB,tlB,hs];omega
     simp only [hdB,tlB,hs,if_true,boy,List.countP_nil,d5 ha,bmr];cases b.getLsbD a <;> cases m.rhs.getLsbD a <;> simp <;> omega
   unfold rdB;rw [bq8];exact this bs
 obtain ⟨b0,h1,⟨_,rfl⟩ | ⟨hs,hb⟩⟩:=hmem hb
 · exact h.ind G h0 hG _ h1
 obtain ⟨g1,g2⟩:=hG m hm b0 (h.ind G h0 hG _ h1) hs
 rcases hb with rfl | rfl
 · exact g1
 exact g2
theorem Blk.ron:∀ {ms':List Fd} {bs:List AS},(∀ m ∈ ms',m ∈ ms) -> Blk ms rest bs -> Blk ms rest (ci ms' bs)
 | [],bs,_,h=>h
 | m :: ms',bs,hm,h=>Blk.ron (ms':=ms') (fun k hk=>hm k (by simp [hk])) (h.rd (hm m bqm))
theorem Blk.end_:∀ {f:Nat} {bs:List AS},muB bs < f -> Blk ms rest bs -> Blk ms rest (y4 ms f bs) /\ ∀ m ∈ ms,∀ b ∈ y4 ms f bs,dw m b = false
 | 0,bs,hf,_=>absurd hf (bmf _)
 | f + 1,bs,hf,h=>by
  have hr:=h.ron (ms':=ms) (fun _ h=>h);unfold y4;cases hc:my ms bs
  · obtain ⟨e,hs⟩:=am0 hc
    simp only [bnq,if_false];rw [e];exact ⟨h,hs⟩
  have:=aep ms bs;rw [hc] at this;simp only [if_true] at this ⊢;exact Blk.end_ bqi hr
def kg (rest:AS):List AS:=if rest = 0 then [] else [rest]
theorem Blk.start (ms:List Fd) (rest:AS):Blk ms rest (kg rest):=by
 unfold kg;by_cases h:rest = 0
 · subst h
   simp only [if_true];exact ⟨fun _ h=>by (cases h),fun a ha=>by simp,fun _ _ _ _ h=>by cases h⟩
 rw [if_neg h];exact ⟨fun b hb=>by (simp at hb;subst hb;exact h),fun a ha=>by simp [boy],fun G h0 _ b hb=>by (simp at hb;subst hb;exact h0)⟩
def agy (rest:AS):muB (kg rest) < 18446744073709551616:=by
 unfold kg;split
 · simp [muB]
 simp only [muB];have h:=rest.isLt;have:=Nat.mul_le_mul (bp4 (show rest.toNat < 4294967295 + 1 from h)) (bp4 (show rest.toNat < 4294967295 + 1 from h));omega
def blks (ms:List Fd) (rest:AS):List AS:=y4 ms 18446744073709551616 (kg rest)
def ag7 (ms:List Fd) (rest:AS):Blk ms rest (blks ms rest) /\ ∀ m ∈ ms,∀ b ∈ blks ms rest,dw m b = false:=Blk.end_ (agy rest) (Blk.start ms rest)
def atw {p:AS -> Bool} {l:List AS} (h:l.countP p <= 1) {a:AS} (ha:a ∈ l) (hb:b ∈ l) (pa:p a = true) (pb:p b = true):a = b:=by
 rw [List.countP_eq_length_filter] at h;have h1:a ∈ l.filter p:=bog.2 ⟨ha,pa⟩;have h2:b ∈ l.filter p:=bog.2 ⟨hb,pb⟩
 cases hl:l.filter p with
 | nil=>rw [hl] at h1;cases h1
 | cons x r =>
  rw [hl] at h h1 h2
  cases r with
  | nil=>simp at h1 h2;rw [h1,h2]
  | cons=>simp at h
theorem Blk.one (h:Blk ms rest bs) {b':AS} (hb:b ∈ bs) (hb':b' ∈ bs) {a:Nat} (h1:b.getLsbD a = true) (h2:b'.getLsbD a = true):b = b':=by
 refine atw (p:=fun b=>b.getLsbD a) ?_ hb hb' h1 h2;rw [h.cnt a (zk h1)];split <;> omega
theorem Blk.cov (h:Blk ms rest bs) {a:Nat} (ha:rest.getLsbD a = true):∃ b ∈ bs,b.getLsbD a = true:=by
 have:=h.cnt a (zk ha);rw [if_pos ha] at this;exact List.countP_pos_iff.1 bqi
theorem Blk.sub (h:Blk ms rest bs) (hb:b ∈ bs):Go.Hx.sub b rest:=ar.2 fun a ha hba=>by
 have h1:=h.cnt a ha;have h2:0 < bs.countP (fun b=>b.getLsbD a):=List.countP_pos_iff.2 ⟨b,hb,hba⟩
 cases hr:rest.getLsbD a with
 | true=>rfl
 | false=>rw [hr] at h1;simp only [bnq,if_false] at h1;omega
end
end
section
def sgl (f:Fd):List Fd:=(aj f.rhs).map fun a=>⟨f.lhs,jt a⟩
def kr (fs ms:List Fd):List Fd:=ms ++ fs.flatMap sgl
def a6o {fs ms:List Fd} {m:Fd}:m ∈ kr fs ms <-> m ∈ ms \/ ∃ f ∈ fs,∃ a,a < 32 /\ f.rhs.getLsbD a = true /\ m = ⟨f.lhs,jt a⟩:=by
 unfold kr sgl;simp only [bmu,List.mem_flatMap,bn2,j8];constructor
 · rintro (h | ⟨f,hf,a,⟨h1,h2⟩,rfl⟩)
   · exact .inl h
   exact .inr ⟨f,hf,a,h1,h2,rfl⟩
 rintro (h | ⟨f,hf,a,h1,h2,rfl⟩)
 · exact .inl h
 exact .inr ⟨f,hf,a,⟨h1,h2⟩,rfl⟩
def gt (T:List AS) (r:AS):List AS:=if r ∈ T then T else T ++ [r]
def pz {T:List AS} {r z:AS}:z ∈ gt T r <-> z ∈ T \/ z = r:=by
 unfold gt;split
 · rename_i h
   constructor
   · exact .inl
   rintro (h2 | rfl)
   · exact h2
   exact h
 simp
def yu {T:List AS} {r:AS} (h:T.Nodup):(gt T r).Nodup:=by
 unfold gt;split
 · exact h
 rename_i hr;rw [List.nodup_append];exact ⟨h,by simp,fun a ha b hb=>by simp at hb;subst hb;rintro rfl;exact hr ha⟩
def n3 (s:AS) (o:List AS) (T:List AS):List AS:=T.foldl (fun o r=>gt o (r &&& ~~~s)) o
def kj (T:List AS) (s:AS):List AS:=n3 s [] T
def aby {s:AS}:∀ {T o:List AS},(o.Nodup -> (n3 s o T).Nodup) /\ ∀ z,z ∈ n3 s o T <-> z ∈ o \/ ∃ r ∈ T,z = r &&& ~~~s
 | [],o=>⟨fun h=>h,fun z=>by simp [n3]⟩
 | r :: T,o=>by
  obtain ⟨h1,h2⟩:=aby (s:=s) (T:=T) (o:=gt o (r &&& ~~~s));refine ⟨fun h=>h1 (yu h),fun z=>?_⟩;show z ∈ n3 s (gt o (r &&& ~~~s)) T <-> _;rw [h2 z,pz];simp only [bmp];constructor
  · rintro ((h | h) | ⟨q,hq,h⟩)
    · exact .inl h
    · exact .inr ⟨r, .inl rfl,h⟩
    exact .inr ⟨q, .inr hq,h⟩
  rintro (h | ⟨q,rfl | hq,h⟩)
  · exact .inl (.inl h)
  · exact .inl (.inr h)
  exact .inr ⟨q,hq,h⟩
def tc {T:List AS} {s z:AS}:z ∈ kj T s <-> ∃ r ∈ T,z = r &&& ~~~s:=by
 have:=(aby (s:=s) (T:=T) (o:=[])).2 z;simpa [kj] using this
def ae0 (T:List AS) (s:AS):(kj T s).Nodup:=(aby (s:=s) (T:=T) (o:=[])).1 List.nodup_nil
def lc (d:Fd) (r k:AS):AS:=(r &&& (d.lhs ||| d.rhs)) ||| (k &&& ~~~(d.lhs ||| d.rhs))
def agB (d:Fd) (r k:AS):Bool:=decide ((r ^^^ k) &&& d.lhs = 0)
def w7 {d:Fd} {r k:AS}:agB d r k = true <-> ∀ i,i < 32 -> d.lhs.getLsbD i = true -> r.getLsbD i = k.getLsbD i:=by
 unfold agB;rw [decide_eq_true_eq,jy];constructor
 · intro h i hi hl
   have:=h i hi;rw [bq9] at this;cases hr:r.getLsbD i <;> cases hk:k.getLsbD i <;> simp_all
 intro h i hi hx
 cases hl:d.lhs.getLsbD i with
 | false=>rfl
 | true =>
  rw [bq9,h i hi hl] at hx;simp at hx
def vv {d:Fd} {r k:AS} {i:Nat} (hi:i < 32):(lc d r k).getLsbD i = (if d.lhs.getLsbD i || d.rhs.getLsbD i then r.getLsbD i else k.getLsbD i):=by
 unfold lc;rw [bo4,d5 hi,bmr,bo4];cases d.lhs.getLsbD i <;> cases d.rhs.getLsbD i <;> simp
structure aj3 (fs ms:List Fd) (T:List AS):Prop where
 fd:∀ d ∈ fs,∀ r ∈ T,∀ k ∈ T,agB d r k = true -> (r ^^^ k) &&& d.rhs = 0
 mv:∀ d ∈ ms,∀ r ∈ T,∀ k ∈ T,agB d r k = true -> lc d r k ∈ T
def ae3 (fs:List Fd) (bs:List AS) (a:Nat):Prop:=jt a ∈ bs /\ ∃ f ∈ fs,f.rhs.getLsbD a = true /\ f.lhs.getLsbD a = false
structure JT (fs:List Fd) (bs:List AS) (rest:AS) (T:List AS):Prop where
 z:(0:AS) ∈ T
 r:∀ r ∈ T,sub r rest /\ ∀ b ∈ bs,b &&& r = 0 \/ sub b r
 top:∃ L ∈ T,(∀ r ∈ T,sub r L) /\ ∀ a,a < 32 -> rest.getLsbD a = true -> L.getLsbD a = false -> ae3 fs bs a
def a1y {b r:AS} (h:b &&& r = 0 \/ sub b r) {a c:Nat} (hc:c < 32) (ha:b.getLsbD a = true) (hb:b.getLsbD c = true):r.getLsbD a = r.getLsbD c:=by
 rcases h with h | h
 · rw [jy.1 h a (zk ha) ha,jy.1 h c hc hb]
 rw [ar.1 h a (zk ha) ha,ar.1 h c hc hb]
def aqq {b r:AS} (h:∀ a c,a < 32 -> c < 32 -> b.getLsbD a = true -> b.getLsbD c = true -> r.getLsbD a = true -> r.getLsbD c = true):b &&& r = 0 \/ sub b r:=by
 by_cases hz:b &&& r = 0
 · exact .inl hz
 obtain ⟨a,ha,h1,h2⟩:=a7b hz;exact .inr (ar.2 fun c hc hb=>h a c ha hc h1 hb h2)
section
variable {fs ms:List Fd} {bs:List AS} {rest:AS} {T:List AS}
theorem JT.mix (h:JT fs bs rest T) {d:Fd} (hs:∀ b ∈ bs,dw d b = false) {r k:AS} (hr:r ∈ T) (hk:k ∈ T) (ha:agB d r k = true):JT fs bs rest (gt T (lc d r k)):=by
 have ha:=w7.1 ha;obtain ⟨r1,r2⟩:=h.r r hr;obtain ⟨k1,k2⟩:=h.r k hk;obtain ⟨L,l1,l2,l3⟩:=h.top
 have hm:∀ R:AS,sub r R -> sub k R -> sub (lc d r k) R:=fun R h1 h2=>ar.2 fun i hi hb=>by
  rw [vv hi] at hb;split at hb
  · exact ar.1 h1 i hi hb
  exact ar.1 h2 i hi hb
 refine ⟨pz.2 (.inl h.z),fun q hq=>?_,L,pz.2 (.inl l1),fun q hq=>?_,l3⟩
 · rcases pz.1 hq with hq | rfl
   · exact h.r q hq
   refine ⟨hm rest r1 k1,fun b hb=>?_⟩;refine aqq fun a c hal hcl hba hbc hqa=>?_;rw [vv hal] at hqa;rw [vv hcl];by_cases hL:b &&& d.lhs = 0
   · have hns:=hs b hb
     have hor:b &&& d.rhs = 0 \/ b &&& ~~~d.rhs = 0:=by
      apply Classical.byContradiction;intro hn;rw [not_or] at hn;rw [th.2 ⟨hL,hn.1,hn.2⟩] at hns;cases hns
     have e1:=jy.1 hL a hal hba;have e2:=jy.1 hL c hcl hbc;rw [e1] at hqa;rw [e2]
     rcases hor with ho | ho
     · rw [jy.1 ho a hal hba] at hqa
       rw [jy.1 ho c hcl hbc];simp only [Bool.or_false,bnq,if_false] at hqa ⊢;rw [<- a1y (k2 b hb) hcl hba hbc];exact hqa
     have f1:=jy.1 ho a hal hba;have f2:=jy.1 ho c hcl hbc;have f1:d.rhs.getLsbD a = true:=by simpa [hal] using f1
     have f2:d.rhs.getLsbD c = true:=by simpa [hcl] using f2
     rw [f1] at hqa;rw [f2];simp only [Bool.or_true,if_true] at hqa ⊢;rw [<- a1y (r2 b hb) hcl hba hbc];exact hqa
   obtain ⟨e,he,hbe,hle⟩:=a7b hL;have hrk:=ha e he hle;have ra:=a1y (r2 b hb) he hba hbe;have rc:=a1y (r2 b hb) he hbc hbe;have ka:=a1y (k2 b hb) he hba hbe;have kc:=a1y (k2 b hb) he hbc hbe
   have x1:r.getLsbD e = true:=by
    split at hqa
    · rw [<- ra];exact hqa
    rw [hrk,<- ka];exact hqa
   split
   · rw [rc];exact x1
   rw [kc,<- hrk];exact x1
 rcases pz.1 hq with hq | rfl
 · exact l2 q hq
 exact hm L (l2 r hr) (l2 k hk)
theorem JT.equ (h:JT fs bs rest T) (hbk:Blk (kr fs ms) rest bs) (hs:∀ m ∈ kr fs ms,∀ b ∈ bs,dw m b = false) {d:Fd} (hd:d ∈ fs) {r k:AS} (hr:r ∈ T) (hk:k ∈ T) (ha:agB d r k = true):JT fs bs rest (kj T ((r ^^^ k) &&& d.rhs)):=by
 have ha:=w7.1 ha;obtain ⟨r1,r2⟩:=h.r r hr;obtain ⟨k1,k2⟩:=h.r k hk;obtain ⟨L,l1,l2,l3⟩:=h.top
 have hdead:∀ a,a < 32 -> ((r ^^^ k) &&& d.rhs).getLsbD a = true -> ae3 fs bs a:=fun a hal h0=>by
  rw [bmr,bq9,bml] at h0;obtain ⟨h0,hR⟩:=h0;have hne:r.getLsbD a ≠ k.getLsbD a:=fun e=>by rw [e] at h0;simp at h0
  have hLa:d.lhs.getLsbD a = false:=by
   cases hl:d.lhs.getLsbD a with
   | false=>rfl
   | true=>exact absurd (ha a hal hl) hne
  have hrest:rest.getLsbD a = true:=by
   cases hra:r.getLsbD a with
   | true=>exact ar.1 r1 a hal hra
   | false =>
    cases hka:k.getLsbD a with
    | true=>exact ar.1 k1 a hal hka
    | false=>rw [hra,hka] at hne;exact absurd rfl hne
  obtain ⟨b,hb,hba⟩:=hbk.cov hrest
  have hL0:b &&& d.lhs = 0:=jy.2 fun e he hbe=>by
   cases hl:d.lhs.getLsbD e with
   | false=>rfl
   | true =>
    have h1:=ha e he hl;rw [<- a1y (r2 b hb) he hba hbe,<- a1y (k2 b hb) he hba hbe] at h1;exact absurd h1 hne
  have hsp:=hs ⟨d.lhs,jt a⟩ (a6o.2 (.inr ⟨d,hd,a,hal,hR,rfl⟩)) b hb
  have hsub:sub b (jt a):=by
   apply Classical.byContradiction;intro hn
   have ht:dw ⟨d.lhs,jt a⟩ b = true:=th.2 ⟨hL0,fun e=>by
    have:=jy.1 (show b &&& jt a = 0 from e) a hal hba;rw [gl hal hal] at this
    simp at this,hn⟩
   rw [ht] at hsp;cases hsp
  have he:=b1u hal hsub hba;exact ⟨by rw [<- he];exact hb,d,hd,hR,hLa⟩
 refine ⟨tc.2 ⟨0,h.z,by simp⟩,fun q hq=>?_,L &&& ~~~((r ^^^ k) &&& d.rhs),tc.2 ⟨L,l1,rfl⟩,fun q hq=>?_,fun a hal h1 h2=>?_⟩
 · obtain ⟨p,hp,rfl⟩:=tc.1 hq
   obtain ⟨p1,p2⟩:=h.r p hp;refine ⟨ar.2 fun i hi hb=>?_,fun b hb=>aqq fun a c hal hcl hba hbc hqa=>?_⟩
   · rw [d5 hi,bml] at hb
     exact ar.1 p1 i hi hb.1
   rw [d5 hal,bml] at hqa;rw [d5 hcl,bml];refine ⟨by rw [<- a1y (p2 b hb) hcl hba hbc];exact hqa.1, ?_⟩
   cases hsc:((r ^^^ k) &&& d.rhs).getLsbD c with
   | false=>rfl
   | true =>
    have hsg:=(hdead c hcl hsc).1;have he:=hbk.one hb hsg hbc (by rw [gl hcl hcl];simp);rw [he,gl hcl hal] at hba;have hac:a = c:=by simpa using hba
    rw [hac,hsc] at hqa;simp at hqa
 · obtain ⟨p,hp,rfl⟩:=tc.1 hq
   refine ar.2 fun i hi hb=>?_;rw [d5 hi,bml] at hb ⊢;exact ⟨ar.1 (l2 p hp) i hi hb.1,hb.2⟩
 rw [d5 hal] at h2
 cases hLa:L.getLsbD a with
 | false=>exact l3 a hal h1 hLa
 | true =>
  rw [hLa] at h2;exact hdead a hal (by simpa using h2)
def bic (T:List AS) (b:AS):Prop:=∀ r ∈ T,∀ k ∈ T,((r &&& b) ||| (k &&& ~~~b)) ∈ T
def k8 {r k b:AS} {i:Nat} (hi:i < 32):((r &&& b) ||| (k &&& ~~~b)).getLsbD i = (if b.getLsbD i then r.getLsbD i else k.getLsbD i):=by
 rw [bo4,d5 hi,bmr];cases b.getLsbD i <;> simp
def b44 {r k s:AS} (h:(r ^^^ k) &&& s = 0) {i:Nat} (hi:i < 32) (hs:s.getLsbD i = true):r.getLsbD i = k.getLsbD i:=by
 have:=jy.1 (show s &&& (r ^^^ k) = 0 by rw [BitVec.and_comm];exact h) i hi hs;rw [bq9] at this;cases hr:r.getLsbD i <;> cases hk:k.getLsbD i <;> simp_all
def ak3 (hT:JT fs bs rest T) (hc:aj3 fs ms T) (hbk:Blk (kr fs ms) rest bs):∀ b ∈ bs,bic T b:=by
 refine hbk.ind _ (fun r hr k hk=>?_) fun m hm b hb hsp=>?_
 · have e:(r &&& rest) ||| (k &&& ~~~rest) = r:=by
    apply ln;intro i hi;rw [k8 hi];split
    · rfl
    rename_i hn;have h1:=ar.1 (hT.r r hr).1 i hi;have h2:=ar.1 (hT.r k hk).1 i hi;cases hr2:r.getLsbD i <;> cases hk2:k.getLsbD i <;> simp_all
   rw [e];exact hr
 obtain ⟨s1,s2,s3⟩:=th.1 hsp
 have key:∀ r ∈ T,∀ k ∈ T,((r &&& b) ||| (k &&& ~~~b)) ∈ T /\ agB m ((r &&& b) ||| (k &&& ~~~b)) k = true:=fun r hr k hk=>by
  refine ⟨hb r hr k hk,w7.2 fun i hi hl=>?_⟩;rw [k8 hi]
  have:b.getLsbD i = false:=by
   cases h:b.getLsbD i with
   | false=>rfl
   | true=>rw [jy.1 s1 i hi h] at hl;cases hl
  simp [this]
 have agc:∀ r k:AS,agB m r k = true -> agB m k r = true:=fun r k h=>w7.2 fun i hi hl=>(w7.1 h i hi hl).symm
 rcases a6o.1 hm with hm | ⟨f,hf,a,hal,hfa,rfl⟩
 · constructor
   · intro r hr k hk
     obtain ⟨h1,h2⟩:=key r hr k hk;have:=hc.mv m hm _ h1 k hk h2
     have e:lc m ((r &&& b) ||| (k &&& ~~~b)) k = (r &&& (b &&& m.rhs)) ||| (k &&& ~~~(b &&& m.rhs)):=by
      apply ln;intro i hi;rw [vv hi,k8 hi,k8 hi,bmr];cases hb2:b.getLsbD i <;> cases hl:m.lhs.getLsbD i <;> cases hr2:m.rhs.getLsbD i <;> simp;have:=jy.1 s1 i hi hb2;rw [hl] at this;cases this
     rw [e] at this;exact this
   intro r hr k hk;obtain ⟨h1,h2⟩:=key r hr k hk;have:=hc.mv m hm k hk _ h1 (agc _ _ h2)
   have e:lc m k ((r &&& b) ||| (k &&& ~~~b)) = (r &&& (b &&& ~~~m.rhs)) ||| (k &&& ~~~(b &&& ~~~m.rhs)):=by
    apply ln;intro i hi;rw [vv hi,k8 hi,k8 hi,d5 hi];cases hb2:b.getLsbD i <;> cases hl:m.lhs.getLsbD i <;> cases hr2:m.rhs.getLsbD i <;> simp;have:=jy.1 s1 i hi hb2;rw [hl] at this;cases this
   rw [e] at this;exact this
 have hba:b.getLsbD a = true:=by
  obtain ⟨i,hi,h1,h2⟩:=a7b s2;rw [gl hal hi] at h2;have:i = a:=by simpa using h2
  rw [<- this];exact h1
 have hno:∀ r ∈ T,∀ k ∈ T,r.getLsbD a = k.getLsbD a:=fun r hr k hk=>by
  obtain ⟨h1,h2⟩:=key r hr k hk
  have h3:=b44 (hc.fd f hf _ h1 k hk (by
   rw [w7] at h2 ⊢
   exact h2)) hal hfa
  rw [k8 hal,hba] at h3;simpa using h3
 have hza:∀ r ∈ T,r.getLsbD a = false:=fun r hr=>by rw [hno r hr 0 hT.z];simp
 constructor
 · intro r hr k hk
   have e:(r &&& (b &&& jt a)) ||| (k &&& ~~~(b &&& jt a)) = k:=by
    apply ln;intro i hi;rw [k8 hi,bmr,gl hal hi];by_cases h:i = a
    · subst h;simp [hza r hr,hza k hk]
    simp [h]
   show (r &&& (b &&& jt a)) ||| (k &&& ~~~(b &&& jt a)) ∈ T
   rw [e];exact hk
 intro r hr k hk
 have e:(r &&& (b &&& ~~~jt a)) ||| (k &&& ~~~(b &&& ~~~jt a)) = (r &&& b) ||| (k &&& ~~~b):=by
  apply ln;intro i hi;rw [k8 hi,k8 hi,d5 hi,gl hal hi];by_cases h:i = a
  · subst h;simp [hza r hr,hza k hk]
  simp [h]
 show (r &&& (b &&& ~~~jt a)) ||| (k &&& ~~~(b &&& ~~~jt a)) ∈ T
 rw [e];exact hb r hr k hk
structure b2o (fs ms:List Fd) (bs:List AS) (rest:AS) (T:List AS):Prop where
 j:JT fs bs rest T
 c:aj3 fs ms T
def b39 (h:b2o fs ms bs rest T) (hbk:Blk (kr fs ms) rest bs) {L:AS} (hL:L ∈ T) (hm:∀ r ∈ T,sub r L) {a:Nat} (hal:a < 32):ae3 fs bs a -> L.getLsbD a = false:=by
 rintro ⟨h1,f,hf,h2,h3⟩;have hg:=ak3 h.j h.c hbk _ h1 L hL 0 h.j.z
 have h4:=h.c.fd f hf _ hg 0 h.j.z (w7.2 fun i hi hl=>by
  rw [k8 hi,gl hal hi];by_cases e:i = a
  · subst e;rw [h3] at hl;cases hl
  simp [e])
 have h5:=b44 h4 hal h2;rw [k8 hal,gl hal hal] at h5;simpa using h5
def qB (T:List AS) (L x rest y:AS):Prop:=y ≠ 0 /\ sub y rest /\ (L &&& ~~~(x ||| y)) ∈ T
def awp (h:b2o fs ms bs rest T) (hbk:Blk (kr fs ms) rest bs) {L x:AS} (hL:L ∈ T) (hm:∀ r ∈ T,sub r L) (hx:rest &&& x = 0) (b:AS) :
 b ∈ bs <-> qB T L x rest b /\ ∀ y,qB T L x rest y -> sub y b -> y = b:=by
 have hLr:=(h.j.r L hL).1
 have hLx:∀ y:AS,L &&& ~~~(x ||| y) = L &&& ~~~y:=fun y=>by
  apply ln;intro i hi;rw [d5 hi,d5 hi,bo4]
  cases hl:L.getLsbD i with
  | false=>rfl
  | true=>rw [jy.1 hx i hi (ar.1 hLr i hi hl)];simp
 have hA:∀ b ∈ bs,qB T L x rest b:=fun b hb=>by
  refine ⟨hbk.nz b hb,hbk.sub hb, ?_⟩;rw [hLx];have:=ak3 h.j h.c hbk b hb 0 h.j.z L hL;have e:((0:AS) &&& b) ||| (L &&& ~~~b) = L &&& ~~~b:=by simp
  rw [e] at this;exact this
 have hB:∀ y,qB T L x rest y -> ∃ b ∈ bs,sub b y:=fun y ⟨y1,y2,y3⟩=>by
  obtain ⟨a,hal,hya⟩:=amj y1;obtain ⟨b,hb,hba⟩:=hbk.cov (ar.1 y2 a hal hya);by_cases hs:sub b y
  · exact ⟨b,hb,hs⟩
  exfalso;obtain ⟨c,hcl,hbc,hyc⟩:=a7b hs;have hyc:y.getLsbD c = false:=by simpa [hcl] using hyc
  rw [hLx] at y3;have h1:=a1y ((h.j.r _ y3).2 b hb) hcl hba hbc;rw [d5 hal,d5 hcl,hya,hyc] at h1;have hLc:L.getLsbD c = false:=by simpa using h1.symm
  obtain ⟨L2,m1,m2,m3⟩:=h.j.top;have e:L2 = L:=dt (hm L2 m1) (m2 L hL);subst e;have hd:=(m3 c hcl (ar.1 (hbk.sub hb) c hcl hbc) hLc).1;have he:=hbk.one hb hd hbc (by rw [gl hcl hcl];simp);rw [he,gl hcl hal] at hba;have:a = c:=by simpa using hba
  rw [this,hyc] at hya;cases hya
 constructor
 · intro hb
   refine ⟨hA b hb,fun y hy hyb=>?_⟩;obtain ⟨b',hb',hs⟩:=hB y hy;obtain ⟨a,hal,hba⟩:=amj (hbk.nz b' hb');have hya:=ar.1 hs a hal hba;have e:=hbk.one hb' hb hba (ar.1 hyb a hal hya);subst e;exact dt hyb hs
 rintro ⟨hq,hmin⟩;obtain ⟨b',hb',hs⟩:=hB b hq;have:=hmin b' (hA b' hb') hs;rw [<- this];exact hb'
end
end
section
def nk:List AS -> Nat
 | []=>0
 | b :: l=>b.toNat + nk l
def aam:∀ (l k:List AS),nk (l ++ k) = nk l + nk k
 | [],k=>by simp [nk]
 | b :: l,k=>by simp [nk,aam l k];omega
def OkB (l:List AS):Prop:=nk l < 4294967296 /\ ∀ b ∈ l,b ≠ 0
section
variable {l:List AS}
def agm (h:OkB l):l.length <= 4294967296:=by
 have:∀ l:List AS,(∀ b ∈ l,b ≠ 0) -> l.length <= nk l:=by
  intro l
  induction l with
  | nil=>intro _;simp [nk]
  | cons b l ih =>
   intro h;have h1:=ih fun x hx=>h x (by simp [hx]);have h2:=a6s (h b bqm);simp only [bn7,nk];omega
 have h1:=this l h.2;have:=h.1;omega
def bgr (m:Fd) (l:List AS):nk (rdB m l) = nk l:=by
 have:∀ l:List AS,nk (l.map (hdB m)) + nk (l.flatMap (tlB m)) = nk l:=by
  intro l
  induction l with
  | nil=>rfl
  | cons b l ih =>
   rw [bnx,bpi,aam];simp only [nk];by_cases h:dw m b = true
   · have:=aac b m.rhs
     simp only [hdB,tlB,h,if_true,nk];omega
   rw [bpy] at h;simp only [hdB,tlB,h,nk,bnq,if_false];omega
 unfold rdB;rw [aam];exact this l
variable {m:Fd}
def ay9 (h:OkB l):OkB (rdB m l):=by
 refine ⟨by rw [bgr];exact h.1,fun b hb=>?_⟩;unfold rdB at hb
 rcases bmu.1 hb with hb | hb
 · obtain ⟨b0,h0,rfl⟩:=bn2.1 hb
   unfold hdB;split
   · rename_i hs;exact (th.1 hs).2.1
   exact h.2 _ h0
 obtain ⟨b0,h0,hb⟩:=List.mem_flatMap.1 hb;unfold tlB at hb;split at hb
 · rename_i hs
   simp at hb;subst hb;exact (th.1 hs).2.2
 cases hb
def aig (rest:AS):OkB (kg rest):=by
 unfold kg;split
 · exact ⟨by simp [nk],fun _ h=>by cases h⟩
 rename_i h;exact ⟨by simp only [nk];have:=rest.isLt;omega,fun b hb=>by simp at hb;subst hb;exact h⟩
def a8k {rest:AS} (h:¬ rest = 0):kg rest = [] ++ [rest]:=by rw [kg,if_neg h];rfl
def a9f {rest:AS} (h:rest = 0):kg rest = []:=by rw [kg,if_pos h]
def abl (m:Fd) (l:List AS):stB m l 0 = l:=by simp [stB]
def a30 (m:Fd) (l:List AS):stB m l l.length = rdB m l:=by simp [stB,rdB]
def up (m:Fd) (l:List AS) (i:Nat):((l.take i).map (hdB m)).length = min i l.length:=by simp
variable {i:Nat}
def b71 (h:i < l.length):(stB m l i).getD i default = l.getD i default:=by
 have e:((l.take i).map (hdB m)).length = i:=by rw [up];omega
 unfold stB;rw [bnm,bmb,bnr (by rw [e];omega),e,Nat.sub_self,bns (by rw [bnv];omega),boj,bos,<- bmb]
def stB_get' {a:Nat} (hia:i <= a) (h:a < l.length):(stB m l i).getD a default = l.getD a default:=by
 have e:((l.take i).map (hdB m)).length = i:=by rw [up];omega
 unfold stB;rw [bnm,bmb,bnr (by rw [e];omega),e,bns (by rw [bnv];omega),boj,show i + (a - i) = a by omega,<- bmb]
def arn (m:Fd) (l:List AS) (i:Nat):l.length <= (stB m l i).length:=by
 unfold stB;rw [bmg,bmg,up,bnv];omega
def ahs (h:i < l.length):l.drop i = l.getD i default :: l.drop (i + 1):=by
 rw [bpc h];congr 1;simp [bmb,bma h]
def pk (h:i < l.length) (hs:dw m (l.getD i default) = false):stB m l (i + 1) = stB m l i:=by
 unfold stB;rw [am h,boh,bq2,ahs h];simp only [bnx,bpz,bpi,List.flatMap_nil,hdB,tlB,hs,bnq,if_false,bn9,bnm,bp7,bq4]
def aiv (h:i < l.length) (hs:dw m (l.getD i default) = true):stB m l (i + 1) = (stB m l i).set i (l.getD i default &&& m.rhs) ++ [l.getD i default &&& ~~~m.rhs]:=by
 have e:((l.take i).map (hdB m)).length = i:=by rw [up];omega
 unfold stB;rw [am h,boh,bq2,ahs h];simp only [bnx,bpz,bpi,List.flatMap_nil,hdB,tlB,hs,if_true,bn9];generalize hA:(l.take i).map (hdB m) = A at e ⊢;generalize (l.take i).flatMap (tlB m) = B;generalize l.drop (i + 1) = D;subst e;rw [bnm A,bnm A,bnm A,List.set_append_right _ _ (bmd _),Nat.sub_self,bnm A];simp
def ben (m:Fd) (l:List AS):∀ i,(stB m l i).length <= (rdB m l).length:=by
 intro i;by_cases hi:i < l.length
 · have:∀ k,i + k <= l.length -> (stB m l i).length <= (stB m l (i + k)).length:=by
    intro k
    induction k with
    | zero=>intro _;exact bmd _
    | succ k ih =>
     intro hk;have h1:=ih bqi;refine bmo h1 ?_;cases hs:dw m (l.getD (i + k) default)
     · rw [show i + (k + 1) = i + k + 1 by omega,pk bqi hs];exact bmd _
     rw [show i + (k + 1) = i + k + 1 by omega,aiv bqi hs,bmg,bol];omega
   have h2:=this (l.length - i) bqi;rw [show i + (l.length - i) = l.length by omega,a30] at h2;exact h2
 unfold stB rdB;rw [List.take_of_length_le bqi,bqa bqi];simp
def a6t (l:List AS) (i:Nat):Nat -> Nat -> PV:=fun k c=>if k < i then .any else sC (l.getD k default) c
def b9l (l:List AS) (i:Nat):a6t l i i 0 = asC (l.getD i default):=by
 unfold a6t;rw [if_neg (bps i)]
def a86 {cl:Bool} {n:Nat} (hn:n = l.length):CoP (.sl n 1 cl (a6t l i)) (.sl l.length 1 false (a6t l (i + 1))):=by
 subst hn;refine CoP.sl rfl (.inl rfl) (fun h=>by cases h) fun k c hk hc=>?_;unfold a6t;by_cases h1:k < i
 · rw [if_pos h1,if_pos (show k < i + 1 by omega)];exact CoP.refl _
 rw [if_neg h1];by_cases h2:k < i + 1
 · rw [if_pos h2];exact CoP.any_of
 rw [if_neg h2];exact CoP.refl _
def am1 {L:List AS} {k:Nat} {v:PV} (hil:i < L.length) (hk:k = i:=by rfl):CoP (.sl L.length 1 false (ez (lf sC (stB m L i)) k 0 [v])) (.sl L.length 1 false (a6t L (i + 1))):=by
 subst hk;refine CoP.sl rfl (.inl rfl) (fun h=>h) fun a c ha hc=>?_;obtain rfl:c = 0:=by omega
 unfold a6t;by_cases h:a < k + 1
 · rw [if_pos h];exact CoP.any_of
 rw [if_neg h];unfold ez lf;rw [if_neg bqi,stB_get' bqi ha];exact CoP.refl _
def axn {A B:List AS} {a:Nat} (h:a < A.length):(A ++ B).getD a default = A.getD a default:=by simp [bmb,bns h]
def aze {A:List AS} {x:AS}:(A ++ [x]).getD A.length default = x:=by simp [bmb]
def xz {wr wr':Bool} {e:TypeId} {L:List AS} {k:Nat} {u:Int} {g:Nat -> Nat -> PV} (hil:i < L.length) (hs:dw m (L.getD i default) = true) (hk:k = i) (hu:u = asI (L.getD i default &&& m.rhs)) (hg:CoP (g 0 0) (asC (L.getD i default &&& ~~~m.rhs))) (hw:wr' = true -> wr = true:=by exact fun h=>h):
 CoO (.arr wr 1 e ((stB m L i).length + 1) (eq (stB m L i).length (ez (lf sC (stB m L i)) k 0 [.raw (.int .u32 u)]) g)) (.arr wr' 1 e (stB m L (i + 1)).length (lf sC (stB m L (i + 1)))):=by
 subst hk hu;have hl:=arn m L k;rw [aiv hil hs];refine ⟨hw,rfl,rfl,by rw [bmg,bol];rfl,fun a j ha hj=>?_⟩;obtain rfl:j = 0:=by omega
 unfold eq;generalize L.getD k default &&& m.rhs = X;generalize L.getD k default &&& ~~~m.rhs = Y at hg ⊢;generalize stB m L k = A at hl ha ⊢;by_cases h:a < A.length
 · rw [if_pos h]
   refine CoP.of_eq ?_;show ez (lf sC A) k 0 [.raw (.int .u32 (asI X))] a 0 = sC ((A.set k X ++ [Y]).getD a default) 0;rw [axn (by rw [bol];exact h)];unfold ez lf;by_cases h2:a = k
   · subst h2
     rw [if_pos ⟨rfl,bmd _,by simp⟩,oo h];rfl
   rw [if_neg bqi,getD_set_ne' h2]
 obtain rfl:a = A.length:=by omega
 rw [if_neg h,Nat.sub_self];show CoP (g 0 0) (sC ((A.set k X ++ [Y]).getD A.length default) 0);have:=aze (A:=A.set k X) (x:=Y);rw [bol] at this;rw [this];exact hg
variable {ms:List Fd}
def a4v {j:Nat} (h:j < ms.length):ci (ms.take (j + 1)) l = rdB (ms.getD j default) (ci (ms.take j) l):=by
 unfold ci;rw [am h,bnn];rfl
def aqe:∀ (ms:List Fd) (m:Fd) (l:List AS),my (ms ++ [m]) l = (my ms l || (ci ms l).any (dw m))
 | [],m,l=>by simp [my,ci]
 | k :: ms,m,l=>by
  simp only [bp7,my];rw [aqe ms m (rdB k l),Bool.or_assoc];rfl
def al5 {j:Nat} (h:j < ms.length):my (ms.take (j + 1)) l = (my (ms.take j) l || (ci (ms.take j) l).any (dw (ms.getD j default))):=by
 rw [am h,aqe]
def a9a (h:OkB l):∀ {ms:List Fd},OkB (ci ms l):=by
 intro ms
 induction ms generalizing l with
 | nil=>exact h
 | cons m ms ih=>exact ih (ay9 h)
structure BkI (ms:List Fd) (R:List AS) (x:Nat × List AS × Bool):Prop where
 ok:OkB x.2.1
 t:x.2.2 = true -> y4 ms x.1 x.2.1 = R /\ muB x.2.1 < x.1
 f:x.2.2 = false -> x.2.1 = R
def b0q (ms:List Fd) (rest:AS):BkI ms (blks ms rest) (18446744073709551616,kg rest,true):=⟨aig rest,fun _=>⟨rfl,agy rest⟩,fun h=>by cases h⟩
def b74 {R:List AS} {f:Nat} (h:BkI ms R (f,l,true)):BkI ms R (f - 1,ci ms l,my ms l) /\ 0 < f:=by
 obtain ⟨h1,h2⟩:=h.t rfl;have h2:muB l < f:=h2;obtain ⟨g,rfl⟩:∃ g,f = g + 1:=⟨f - 1,by omega⟩;have h3:=aep ms l;refine ⟨⟨a9a h.ok,fun hc=>?_,fun hc=>?_⟩,by omega⟩
 · have hc:my ms l = true:=hc
   have h1:y4 ms (g + 1) l = R:=h1;unfold y4 at h1;rw [if_pos hc] at h1 h3;exact ⟨h1,by show muB (ci ms l) < g;omega⟩
 have hc:my ms l = false:=hc;have h1:y4 ms (g + 1) l = R:=h1;unfold y4 at h1;rw [hc] at h1;exact h1
def ckB (n:Int) (l m:List Fd) (s:AS):Int:=if bt n l m = 0 then (if s >>> n.toNat = 0 then 0 else 1) else bt n l m
def b48 {n:Int} {l m:List Fd} {s:AS} (h:¬ bt n l m = 0):ckB n l m s = bt n l m:=if_neg h
def b4q {n:Int} {l m:List Fd} {s:AS} (h:bt n l m = 0) (h2:¬ s >>> n.toNat = 0):ckB n l m s = 1:=by unfold ckB;rw [if_pos h,if_neg h2]
def aj7 {n:Int} {l m:List Fd} {s:AS} (h:bt n l m = 0) (h2:s >>> n.toNat = 0):ckB n l m s = 0:=by unfold ckB;rw [if_pos h,if_pos h2]
def acr {n:Int} {l m:List Fd} {s:AS} (h:ckB n l m s = 0):bt n l m = 0 /\ s >>> n.toNat = 0:=by
 unfold ckB at h;split at h
 · split at h
   · exact ⟨by assumption,by assumption⟩
   cases h
 exact absurd h bqj
def aq0 (f:Fd):(sgl f).length <= 32:=by unfold sgl;rw [bms];exact o0 _
def lw (fs ms:List Fd) (i k:Nat):List Fd:=ms ++ (fs.take i).flatMap sgl ++ (sgl (fs.getD i default)).take k
def ah2 (fs ms:List Fd):lw fs ms 0 0 = ms:=by simp [lw]
variable {fs:List Fd}
def ayl (h:i < fs.length):lw fs ms (i + 1) 0 = lw fs ms i (sgl (fs.getD i default)).length:=by
 unfold lw;rw [am h,bq2,bmi];simp
def b3p (fs ms:List Fd):lw fs ms fs.length 0 = kr fs ms:=by simp [lw,kr]
def az0 {k:Nat} (h:k < (sgl (fs.getD i default)).length):lw fs ms i (k + 1) = lw fs ms i k ++ [(sgl (fs.getD i default)).getD k default]:=by
 unfold lw;rw [am h,<- bnm]
def azt {k:Nat}:(lw fs ms i k).length <= ms.length + 32 * (i + 1):=by
 have:∀ l:List Fd,(l.flatMap sgl).length <= 32 * l.length:=by
  intro l
  induction l with
  | nil=>simp
  | cons f l ih =>
   rw [bpi,bmg,bn7];have:=aq0 f;omega
 have h1:=this (fs.take i);have h2:=aq0 (fs.getD i default);unfold lw;rw [bmg,bmg,bmk];rw [bmk] at h1;omega
end
end
section
open Go.RowKit
section
variable {ro:Option Nat} {P:Program} {nt:Nat} {st:HSt} {Q:Exit -> HSt -> Prop}
def wg {w0:World} {cc:Ctx} {a:Act} {w:World} (hrr:ai w0 nt cc st.den a w) {d:Nat} {x:HR} (hx:ap cc st.den.o x (a.tmps.getD d undef)):ai w0 nt cc (HSt.den ⟨(d,some x) :: st.t,st.o⟩) a w:=by
 refine ⟨hrr.defers,hrr.size,hrr.below,fun k y hy=>?_,hrr.objs,hrr.inj,hrr.imm,hrr.sep,hrr.was,hrr.frm,hrr.fsep,hrr.fixed⟩;simp only [HSt.den] at hy;rw [bu] at hy;dsimp only at hy;split at hy
 · rename_i hk
   subst hk;simp only [bm9] at hy;subst hy;exact hx
 exact hrr.tmps k y hy
section
variable {f:Nat -> Nat -> PV}
def b0g {c:Code} (d:Nat) {id n n' s:Nat} {wr:Bool} {e:TypeId} (hd:bm st.t d = some (.v (.one (.ref id n)))) (ho:bm st.o id = some (.arr wr s e n' f)) (hn:n' = n) (h:HW (ro:=ro) P nt c ⟨(d,some (.v (.one (.win id n 0 n)))) :: st.t,st.o⟩ Q):HW (ro:=ro) P nt c st Q:=by
 subst hn;refine xk st d _ (fun w0 m0 a w hr=>?_) h;obtain ⟨cc,hold,hrr⟩:=hr;refine ⟨cc,hold,hrr, ?_⟩;have hu:bn cc st.den.o (.ref id n') (a.tmps.getD d undef):=hrr.tmps d _ hd;refine ⟨hu.1,hu.2.1,fun ob s2 e2 n2 ho2 hd2=>⟨(hu.2.2 _ _ _ _ ho2 hd2).1,fun hk=>?_⟩⟩;have he:=(hu.2.2 _ _ _ _ ho2 hd2).2 hk;obtain rfl:ob = .arr wr s e n' f:=Option.some.inj (ho2.symm.trans ho);simp only [aa.dim,bm9,bmj] at hd2;obtain ⟨rfl,rfl,rfl⟩:=hd2;obtain ⟨ad,cap,hv,hc1,hc2⟩:=zf (hrr.objs _ _ ho2);exact ⟨ad,ad,cap,hv,by rw [he,hv];rfl,by omega,hc1,hc2,fun _=>by cases ad <;> simp [oc]⟩
def b6n {c:Code} (d dh:Nat) {id n n' n0 k s:Nat} {e:TypeId} (hd:bm st.t d = some (.v (.one (.ref id n)))) (hh:bm st.t dh = some (.v (.one (.win id k 0 n0)))) (ho:bm st.o id = some (.arr true s e n' f)) (hn:n' = n) (hk:k = n) (hne:Nat.beq d dh = false) (hA:∀ ad cap,n + 1 <= cap -> HW (ro:=ro) P nt c ⟨(d,some (.v (.one (.pin id n ad cap)))) :: (dh,some (bp (.raw (.slice ad n0 cap)))) :: st.t,st.o⟩ Q) (hB:HW (ro:=ro) P nt c ⟨(d,some (bp (.sl n s true f))) :: (dh,some (bp (.sl n0 s false f))) :: st.t,(id,none) :: st.o⟩ Q):HW (ro:=ro) P nt c st Q:=by
 subst hn hk;intro w0 m0 a w hr;obtain ⟨cc,hold,hrr⟩:=hr;have hu:bn cc st.den.o (.ref id k) (a.tmps.getD d undef):=hrr.tmps d _ hd;have hv:bn cc st.den.o (.win id k 0 n0) (a.tmps.getD dh undef):=hrr.tmps dh _ hh;obtain ⟨ad,ad',cap,q1,q2,q3,q4,q5,q6⟩:=z7 hv ho rfl;have hu1:=(hu.2.2 _ _ _ _ ho rfl).2 rfl;by_cases hc:k + 1 <= cap
 · obtain rfl:ad' = ad:=by
    rw [q6 bqi];cases ad <;> simp [oc]
   refine hA ad' cap hc w0 m0 a w ⟨cc,hold, ?_⟩;have h1:ai w0 nt cc (HSt.den ⟨(dh,some (bp (.raw (.slice ad' n0 cap)))) :: st.t,st.o⟩) a w:=wg hrr ⟨by simpa using q2,rfl⟩;refine wg (st:=⟨(dh,some (bp (.raw (.slice ad' n0 cap)))) :: st.t,st.o⟩) h1 ⟨hu1.trans q1,hu.2.1,hu.2.2⟩
 obtain rfl:cap = k:=by omega
 have hfr:=hrr.freeze (id:=id) ho;rw [<- t7] at hfr;refine hB w0 m0 a w ⟨{ old:=cc.old,imm:=frozenImm cc w id,tab:=yk hrr ho,own:=cc.own,blk:=cc.blk,rows:=cc.rows },hold, ?_⟩;have hfa:=qw hrr ho;have h1:=wg (st:=⟨st.t,(id,none) :: st.o⟩) (d:=dh) (x:=bp (.sl n0 s false fun a b=>f (0 + a) b)) hfr (adr hrr ho hv);have e0:(fun a b=>f (0 + a) b) = f:=by funext a b;rw [bna]
 rw [e0] at h1;refine wg (st:=⟨(dh,some (bp (.sl n0 s false f))) :: st.t,(id,none) :: st.o⟩) h1 ?_;rw [hu1];obtain ⟨A,C,r1,r2,r3,r4,r5⟩:=hfa;refine ⟨A,C,r1,r2,r3,fun _=>?_,r5⟩;rw [q1] at r1;simp only [Value.slice.injEq,true_and] at r1;exact r1.2.symm
def b2l {c:Code} (d dh:Nat) {id n n' n0 s cap:Nat} {ad:Option Addr} {e:TypeId} (hd:bm st.t d = some (.v (.one (.pin id n ad cap)))) (hh:bm st.t dh = some (bp (.raw (.slice ad n0 cap)))) (ho:bm st.o id = some (.arr true s e n' f)) (hn:n' = n) (hle:n0 <= n) (hne:Nat.beq d dh = false) (h:HW (ro:=ro) P nt c ⟨(d,some (.v (.one (.ref id n)))) :: (dh,some (.v (.one (.win id n 0 n0)))) :: st.t,st.o⟩ Q):HW (ro:=ro) P nt c st Q:=by
 subst hn;intro w0 m0 a w hr;obtain ⟨cc,hold,hrr⟩:=hr;have hu:bn cc st.den.o (.pin id n' ad cap) (a.tmps.getD d undef):=hrr.tmps d _ hd;have hv:bn cc st.den.o (.p (.raw (.slice ad n0 cap))) (a.tmps.getD dh undef):=hrr.tmps dh _ hh;obtain ⟨hv1,_⟩:=hv;have hu1:=(hu.2.2 _ _ _ _ ho rfl).2 rfl;refine h w0 m0 a w ⟨cc,hold, ?_⟩
 have h1:ai w0 nt cc (HSt.den ⟨(dh,some (.v (.one (.win id n' 0 n0)))) :: st.t,st.o⟩) a w:=by
  refine wg hrr ⟨by rw [hv1];rfl,hu.2.1,fun ob s2 e2 n2 ho2 hd2=>⟨(hu.2.2 _ _ _ _ ho2 hd2).1,fun hk=>?_⟩⟩;obtain rfl:ob = .arr true s e n' f:=Option.some.inj (ho2.symm.trans ho);simp only [aa.dim,bm9,bmj] at hd2;obtain ⟨rfl,rfl,rfl⟩:=hd2;obtain ⟨ad2,cap2,g1,g2,g3⟩:=zf (hrr.objs _ _ ho2);have hown:cc.own id = .slice ad n' cap:=hu1.symm.trans hu.1;rw [hown] at g1;simp only [Value.slice.injEq,true_and] at g1;obtain ⟨rfl,rfl⟩:=g1;exact ⟨ad,ad,cap,hown,hv1,by omega,g2,g3,fun _=>by cases ad <;> simp [oc]⟩
 exact wg (st:=⟨(dh,some (.v (.one (.win id n' 0 n0)))) :: st.t,st.o⟩) h1 ⟨by rw [hu.1];rfl,hu.2.1,hu.2.2⟩
end
end
end
end Go.Hx
