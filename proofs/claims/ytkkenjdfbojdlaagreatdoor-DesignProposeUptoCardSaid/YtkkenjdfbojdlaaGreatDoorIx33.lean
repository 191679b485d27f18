/- A part of the proof: Ds2 Bz1 Bz2 Bz3 Hx27. -/
import Derived.Test.YtkkenjdfbojdlaaGreatDoorIx15
import Derived.Test.YtkkenjdfbojdlaaGreatDoorIx19
import Derived.Test.YtkkenjdfbojdlaaGreatDoorIx31
import Derived.Test.YtkkenjdfbojdlaaGreatDoorIx32
set_option linter.all false
namespace Go.Hx
section
section
variable {l:List Bs}
def ap7 {i:Nat} (hi:i < l.length):szB (l.take (i + 1)) = szB (l.take i) + (l.getD i default).size:=by
 unfold szB;rw [List.take_succ,bml hi,bou,List.sum_append,bmm,bml hi];simp
def awd (l:List Bs) (i:Nat):szB l = szB (l.take i) + szB (l.drop i):=by
 unfold szB;rw [<- List.sum_append,<- bou,bq2]
def a2f (l:List Bs) (i:Nat):szB (l.take i) <= szB l:=by have:=awd l i;omega
def aew {i:Nat} (hi:i < l.length):(l.getD i default).size <= szB l:=by
 have h1:=ap7 hi;have h2:=a2f l (i + 1);omega
def tu (l:List Bs) (sep:Bs) (i:Nat):List UInt8:=bL (l.getD 0 default) ++ Lib.joinTail (bL sep) (((l.drop 1).take i).map bL)
def bc8 (l:List Bs) (sep:Bs):tu l sep 0 = [] ++ bL (l.getD 0 default):=by simp [tu,Lib.joinTail]
def aic {sep:Bs} {i:Nat} (hi:1 + i < l.length):tu l sep (i + 1) = (tu l sep i ++ bL sep) ++ bL (l.getD (1 + i) default):=by
 unfold tu
 have h:((l.drop 1).map bL)[i]? = some (bL (l.getD (1 + i) default)):=by
  rw [bnc,boy,bmm,bml hi];rfl
 have h2:=Lib.joinTail_take_succ (bL sep) ((l.drop 1).map bL) i _ h;rw [List.map_take,List.map_take,h2];simp only [bnx]
def b3r (sep:Bs) (h:l ≠ []):(⟨(tu l sep (l.length - 1)).toArray⟩:Bs) = a5l l sep:=by
 obtain ⟨x,r,rfl⟩:=List.exists_cons_of_ne_nil h;unfold tu a5l bOf;rw [bo7,Lib.join_cons];simp
def b7e (l:List Bs) (sep:Bs) (i:Nat):(tu l sep i).length <= szB l + sep.size * l.length:=by
 unfold tu;rw [bmo,Lib.joinTail_length,bn6]
 have h1:Lib.lens (((l.drop 1).take i).map bL) <= szB (l.drop 1):=by
  have:Lib.lens (((l.drop 1).take i).map bL) = szB ((l.drop 1).take i):=by
   unfold Lib.lens szB;rw [List.map_map];rfl
  rw [this];exact a2f _ _
 have h2:((l.drop 1).take i).length <= l.length:=by
  rw [bmv,bog];omega
 have h3:(bL (l.getD 0 default)).length + szB (l.drop 1) <= szB l:=by
  cases l with
  | nil=>exact bmp 0
  | cons x r =>
   have e:szB (x :: r) = x.size + szB r:=by simp [szB]
   rw [e];show x.size + szB r <= _;omega
 have h4:=Nat.mul_le_mul_left sep.size h2;show _ + (sep.size * _ + _) <= _;omega
def azn (sep:Bs) (h:(l.length:Int) = 1):a5l l sep = l.getD 0 default:=by
 match l,h with
 | [x],_ =>
  show bOf (Lib.join [bL x] (bL sep)) = x;rw [Lib.join_one,bie]
def bl0 {α:Type} {l:List α} (h:(l.length:Int) = 0):l = []:=boe bqx
def bb1 {n:Int} (h1:1 <= n) (h2:n <= 1000):(2:Int) <= 9223372036854775807 / n:=Int.le_ediv_of_mul_le bqx bqx
end
end
section
section
variable {b:AS}
def lc {a:AS} (h:∀ i,i < 32 -> a.getLsbD i = b.getLsbD i):a = b:=bo5 h
variable {s:AS}
def kf {t:AS}:s &&& t = 0 <-> ∀ i,i < 32 -> s.getLsbD i = true -> t.getLsbD i = false:=by
 constructor
 · intro h i hi hs
   have:=congrArg (fun x:AS=>x.getLsbD i) h;simp only [bn4,hs,bov] at this;simpa using this
 intro h;apply lc;intro i hi;have:=h i hi;rw [bn4];cases hs:s.getLsbD i <;> simp_all
def a0o {t:AS} (h:s &&& t ≠ 0):∃ i,i < 32 /\ s.getLsbD i = true /\ t.getLsbD i = true:=by
 apply Classical.byContradiction;intro hn;refine h (kf.2 fun i hi hs=>?_)
 cases ht:t.getLsbD i with
 | false=>rfl
 | true=>exact absurd ⟨i,hi,hs,ht⟩ hn
def ama (h:s ≠ 0):∃ i,i < 32 /\ s.getLsbD i = true:=by
 apply Classical.byContradiction;intro hn;refine h (lc fun i hi=>?_)
 cases hs:s.getLsbD i with
 | false=>simp
 | true=>exact absurd ⟨i,hi,hs⟩ hn
def a0d {i:Nat} (h:s.getLsbD i = true):i < 32:=BitVec.lt_of_getLsbD h
def cw {t:AS} {i:Nat} (hi:i < 32):(s &&& ~~~t).getLsbD i = (s.getLsbD i && !t.getLsbD i):=by simp [hi]
def jx (a:Nat):AS:=1#32 <<< a
def gk {a i:Nat} (ha:a < 32) (hi:i < 32):(jx a).getLsbD i = decide (i = a):=by
 unfold jx;rw [BitVec.getLsbD_shiftLeft];by_cases h:i = a
 · subst h;simp [hi]
 by_cases h2:i < a
 · simp [h,h2,hi]
 have:i - a ≠ 0:=by omega
 simp [h,h2,hi,BitVec.getLsbD_one,this]
def b0i {a:Nat} (ha:a < 32) (h:sub b (jx a)) (hb:b.getLsbD a = true):b = jx a:=by
 apply lc;intro i hi;have:=ap.1 h i hi;rw [gk ha hi] at this ⊢;by_cases e:i = a
 · subst e;simp [hb]
 cases hs:b.getLsbD i
 · simp [e]
 simp [e,hs] at this
def dw (m:Fd) (b:AS):Bool:=decide (b &&& m.lhs = 0) && (decide (b &&& m.rhs ≠ 0) && decide (b &&& ~~~m.rhs ≠ 0))
def hdB (m:Fd) (b:AS):AS:=if dw m b = true then b &&& m.rhs else b
def tlB (m:Fd) (b:AS):List AS:=if dw m b = true then [b &&& ~~~m.rhs] else []
def stB (m:Fd) (l:List AS) (i:Nat):List AS:=(l.take i).map (hdB m) ++ l.drop i ++ (l.take i).flatMap (tlB m)
def rdB (m:Fd) (l:List AS):List AS:=l.map (hdB m) ++ l.flatMap (tlB m)
def ck (ms:List Fd) (l:List AS):List AS:=ms.foldl (fun l m=>rdB m l) l
def n8:List Fd -> List AS -> Bool
 | [],_=>false
 | m :: ms,l=>l.any (dw m) || n8 ms (rdB m l)
def yc (ms:List Fd):Nat -> List AS -> List AS
 | 0,l=>l
 | f + 1,l=>if n8 ms l = true then yc ms f (ck ms l) else ck ms l
def muB:List AS -> Nat
 | []=>0
 | b :: l=>b.toNat * b.toNat + muB l
def ah0:∀ (l k:List AS),muB (l ++ k) = muB l + muB k
 | [],k=>by simp [muB]
 | b :: l,k=>by simp [muB,ah0 l k];omega
def aa6 (b r:AS):(b &&& r).toNat + (b &&& ~~~r).toNat = b.toNat:=by
 have h:(b &&& r) &&& (b &&& ~~~r) = 0#32:=kf.2 fun i hi hs=>by
  rw [cw hi];rw [bn4,bmw] at hs;simp [hs.1,hs.2]
 have e:(b &&& r) + (b &&& ~~~r) = b:=by
  rw [BitVec.add_eq_or_of_and_eq_zero _ _ h];apply lc;intro i hi;rw [bo9,cw hi,bn4];cases b.getLsbD i <;> cases r.getLsbD i <;> rfl
 rw [<- BitVec.toNat_add_of_and_eq_zero h,e]
def tn {m:Fd}:dw m b = true <-> b &&& m.lhs = 0 /\ b &&& m.rhs ≠ 0 /\ b &&& ~~~m.rhs ≠ 0:=by simp [dw]
def b1i {x y z:Nat} (h:x + y = z) (hx:0 < x) (hy:0 < y):x * x + y * y < z * z:=by
 subst h;rw [bny,Nat.mul_add,Nat.mul_add];have:0 < x * y:=Nat.mul_pos hx hy;have:0 < y * x:=Nat.mul_pos hy hx;omega
def a7a (h:b ≠ 0):0 < b.toNat:=Nat.pos_of_ne_zero fun e=>h (bnp e)
def avj (m:Fd):∀ (l:List AS),muB (l.map (hdB m)) + muB (l.flatMap (tlB m)) + (if l.any (dw m) = true then 1 else 0) <= muB l
 | []=>by simp [muB]
 | b :: l=>by
  have ih:=avj m l;rw [bo7,bpt,ah0,List.any_cons];simp only [muB];by_cases h:dw m b = true
  · obtain ⟨_,h2,h3⟩:=tn.1 h
    have:=b1i (aa6 b m.rhs) (a7a h2) (a7a h3);simp only [hdB,tlB,h,if_true,muB,Bool.true_or];omega
  rw [bqa] at h;simp only [hdB,tlB,h,muB,bqi,bo1,if_false];omega
def b7t (m:Fd) (l:List AS):muB (rdB m l) + (if l.any (dw m) = true then 1 else 0) <= muB l:=by
 unfold rdB;rw [ah0];exact avj m l
def afl:∀ (ms:List Fd) (l:List AS),muB (ck ms l) + (if n8 ms l = true then 1 else 0) <= muB l
 | [],l=>by simp [ck,n8]
 | m :: ms,l=>by
  have h1:=b7t m l;have h2:=afl ms (rdB m l);show muB (ck ms (rdB m l)) + _ <= _;simp only [n8];by_cases h3:l.any (dw m) = true <;> by_cases h4:n8 ms (rdB m l) = true <;> simp only [h3,h4,Bool.true_or,Bool.or_true,Bool.or_false,if_true,bo1,if_false] at h1 h2 ⊢ <;> omega
def b2y {m:Fd} {l:List AS} (h:l.any (dw m) = false):rdB m l = l:=by
 have h':∀ b ∈ l,dw m b = false:=fun b hb=>by
  have:=bof.1 h b hb;simpa using this
 have e1:l.map (hdB m) = l:=by
  conv=>rhs;rw [<- List.map_id l]
  exact bp2 fun b hb=>by simp [hdB,h' b hb]
 have e2:l.flatMap (tlB m) = []:=List.flatMap_eq_nil_iff.2 fun b hb=>by simp [tlB,h' b hb]
 simp [rdB,e1,e2]
def amh:∀ {ms:List Fd} {l:List AS},n8 ms l = false -> ck ms l = l /\ ∀ m ∈ ms,∀ b ∈ l,dw m b = false
 | [],l,_=>⟨rfl,fun _ h=>by cases h⟩
 | m :: ms,l,h=>by
  simp only [n8,bpq] at h;have e:=b2y h.1;rw [e] at h;obtain ⟨h1,h2⟩:=amh h.2;refine ⟨?_,fun k hk b hb=>?_⟩
  · show ck ms (rdB m l) = l
    rw [e];exact h1
  rcases bn0.1 hk with rfl | hk
  · have:=bof.1 h.1 b hb
    simpa using this
  exact h2 k hk b hb
structure Blk (ms:List Fd) (rest:AS) (bs:List AS):Prop where
 nz:∀ b ∈ bs,b ≠ 0
 cnt:∀ a,a < 32 -> bs.countP (fun b=>b.getLsbD a) = if rest.getLsbD a = true then 1 else 0
 ind:∀ G:AS -> Prop,G rest -> (∀ m ∈ ms,∀ b,G b -> dw m b = true -> G (b &&& m.rhs) /\ G (b &&& ~~~m.rhs)) -> ∀ b ∈ bs,G b
variable {bs:List AS} {ms:List Fd} {rest:AS}
theorem Blk.rd (h:Blk ms rest bs) {m:Fd} (hm:m ∈ ms):Blk ms rest (rdB m bs):=by
 have hmem:∀ {b:AS},b ∈ rdB m bs -> ∃ b0 ∈ bs,(dw m b0 = false /\ b = b0) \/ (dw m b0 = true /\ (b = b0 &&& m.rhs \/ b = b0 &&& ~~~m.rhs)):=by
  intro b hb;unfold rdB at hb
  rcases bn1.1 hb with hb | hb
  · obtain ⟨b0,h0,rfl⟩:=bne.1 hb
    refine ⟨b0,h0, ?_⟩;cases hs:dw m b0 <;> simp [hdB,hs]
  obtain ⟨b0,h0,hb⟩:=List.mem_flatMap.1 hb;refine ⟨b0,h0, ?_⟩;cases hs:dw m b0
  · simp [tlB,hs] at hb
  simp [tlB,hs] at hb;exact .inr ⟨rfl, .inr hb⟩
 refine ⟨fun b hb=>?_,fun a ha=>?_,fun G h0 hG b hb=>?_⟩
 · obtain ⟨b0,h0,⟨_,rfl⟩ | ⟨hs,hb⟩⟩:=hmem hb
   · exact h.nz _ h0
   obtain ⟨_,h2,h3⟩:=tn.1 hs
   rcases hb with rfl | rfl
   · exact h2
   exact h3
 · rw [<- h.cnt a ha]
   have:∀ l:List AS,(l.map (hdB m)).countP (fun b=>b.getLsbD a) + (l.flatMap (tlB m)).countP (fun b=>b.getLsbD a) = l.countP (fun b=>b.getLsbD a):=by
    intro l
    induction l with
    | nil=>rfl
    | cons b l ih =>
     rw [bo7,bpt,bqn,bp8,bp8,<- ih];cases hs:dw m b
     · simp [hdB,tlB,hs];omega
     simp only [hdB,tlB,hs,if_true,bp8,List.countP_nil,cw ha,bn4];cases b.getLsbD a <;> cases m.rhs.getLsbD a <;> simp <;> omega
   unfold rdB;rw [bqn];exact this bs
 obtain ⟨b0,h1,⟨_,rfl⟩ | ⟨hs,hb⟩⟩:=hmem hb
 · exact h.ind G h0 hG _ h1
 obtain ⟨g1,g2⟩:=hG m hm b0 (h.ind G h0 hG _ h1) hs
 rcases hb with rfl | rfl
 · exact g1
 exact g2
theorem Blk.ron:∀ {ms':List Fd} {bs:List AS},(∀ m ∈ ms',m ∈ ms) -> Blk ms rest bs -> Blk ms rest (ck ms' bs)
 | [],bs,_,h=>h
 | m :: ms',bs,hm,h=>Blk.ron (ms':=ms') (fun k hk=>hm k (by simp [hk])) (h.rd (hm m br1))
theorem Blk.end_:∀ {f:Nat} {bs:List AS},muB bs < f -> Blk ms rest bs -> Blk ms rest (yc ms f bs) /\ ∀ m ∈ ms,∀ b ∈ yc ms f bs,dw m b = false
 | 0,bs,hf,_=>absurd hf (bmq _)
 | f + 1,bs,hf,h=>by
  have hr:=h.ron (ms':=ms) (fun _ h=>h);unfold yc;cases hc:n8 ms bs
  · obtain ⟨e,hs⟩:=amh hc
    simp only [bo1,if_false];rw [e];exact ⟨h,hs⟩
  have:=afl ms bs;rw [hc] at this;simp only [if_true] at this ⊢;exact Blk.end_ bqx hr
def kw (rest:AS):List AS:=if rest = 0 then [] else [rest]
theorem Blk.start (ms:List Fd) (rest:AS):Blk ms rest (kw rest):=by
 unfold kw;by_cases h:rest = 0
 · subst h
   simp only [if_true];exact ⟨fun _ h=>by (cases h),fun a ha=>by simp,fun _ _ _ _ h=>by cases h⟩
 rw [if_neg h];exact ⟨fun b hb=>by (simp at hb;subst hb;exact h),fun a ha=>by simp [bp8],fun G h0 _ b hb=>by (simp at hb;subst hb;exact h0)⟩
def aif (rest:AS):muB (kw rest) < 18446744073709551616:=by
 unfold kw;split
 · simp [muB]
 simp only [muB];have h:=rest.isLt;have:=Nat.mul_le_mul (bpf (show rest.toNat < 4294967295 + 1 from h)) (bpf (show rest.toNat < 4294967295 + 1 from h));omega
def blks (ms:List Fd) (rest:AS):List AS:=yc ms 18446744073709551616 (kw rest)
def a9j (ms:List Fd) (rest:AS):Blk ms rest (blks ms rest) /\ ∀ m ∈ ms,∀ b ∈ blks ms rest,dw m b = false:=Blk.end_ (aif rest) (Blk.start ms rest)
def avb {p:AS -> Bool} {l:List AS} (h:l.countP p <= 1) {a:AS} (ha:a ∈ l) (hb:b ∈ l) (pa:p a = true) (pb:p b = true):a = b:=by
 rw [List.countP_eq_length_filter] at h;have h1:a ∈ l.filter p:=bol.2 ⟨ha,pa⟩;have h2:b ∈ l.filter p:=bol.2 ⟨hb,pb⟩
 cases hl:l.filter p with
 | nil=>rw [hl] at h1;cases h1
 | cons x r =>
  rw [hl] at h h1 h2
  cases r with
  | nil=>simp at h1 h2;rw [h1,h2]
  | cons=>simp at h
theorem Blk.one (h:Blk ms rest bs) {b':AS} (hb:b ∈ bs) (hb':b' ∈ bs) {a:Nat} (h1:b.getLsbD a = true) (h2:b'.getLsbD a = true):b = b':=by
 refine avb (p:=fun b=>b.getLsbD a) ?_ hb hb' h1 h2;rw [h.cnt a (a0d h1)];split <;> omega
theorem Blk.cov (h:Blk ms rest bs) {a:Nat} (ha:rest.getLsbD a = true):∃ b ∈ bs,b.getLsbD a = true:=by
 have:=h.cnt a (a0d ha);rw [if_pos ha] at this;exact List.countP_pos_iff.1 bqx
theorem Blk.sub (h:Blk ms rest bs) (hb:b ∈ bs):Go.Hx.sub b rest:=ap.2 fun a ha hba=>by
 have h1:=h.cnt a ha;have h2:0 < bs.countP (fun b=>b.getLsbD a):=List.countP_pos_iff.2 ⟨b,hb,hba⟩
 cases hr:rest.getLsbD a with
 | true=>rfl
 | false=>rw [hr] at h1;simp only [bo1,if_false] at h1;omega
end
end
section
def sgl (f:Fd):List Fd:=(ak f.rhs).map fun a=>⟨f.lhs,jx a⟩
def jr (fs ms:List Fd):List Fd:=ms ++ fs.flatMap sgl
def a7z {fs ms:List Fd} {m:Fd}:m ∈ jr fs ms <-> m ∈ ms \/ ∃ f ∈ fs,∃ a,a < 32 /\ f.rhs.getLsbD a = true /\ m = ⟨f.lhs,jx a⟩:=by
 unfold jr sgl;simp only [bn1,List.mem_flatMap,bne,jc];constructor
 · rintro (h | ⟨f,hf,a,⟨h1,h2⟩,rfl⟩)
   · exact .inl h
   exact .inr ⟨f,hf,a,h1,h2,rfl⟩
 rintro (h | ⟨f,hf,a,h1,h2,rfl⟩)
 · exact .inl h
 exact .inr ⟨f,hf,a,⟨h1,h2⟩,rfl⟩
def gr (T:List AS) (r:AS):List AS:=if r ∈ T then T else T ++ [r]
def qh {T:List AS} {r z:AS}:z ∈ gr T r <-> z ∈ T \/ z = r:=by
 unfold gr;split
 · rename_i h
   constructor
   · exact .inl
   rintro (h2 | rfl)
   · exact h2
   exact h
 simp
def yo {T:List AS} {r:AS} (h:T.Nodup):(gr T r).Nodup:=by
 unfold gr;split
 · exact h
 rename_i hr;rw [List.nodup_append];exact ⟨h,by simp,fun a ha b hb=>by simp at hb;subst hb;rintro rfl;exact hr ha⟩
def nc (s:AS) (o:List AS) (T:List AS):List AS:=T.foldl (fun o r=>gr o (r &&& ~~~s)) o
def kx (T:List AS) (s:AS):List AS:=nc s [] T
def abn {s:AS}:∀ {T o:List AS},(o.Nodup -> (nc s o T).Nodup) /\ ∀ z,z ∈ nc s o T <-> z ∈ o \/ ∃ r ∈ T,z = r &&& ~~~s
 | [],o=>⟨fun h=>h,fun z=>by simp [nc]⟩
 | r :: T,o=>by
  obtain ⟨h1,h2⟩:=abn (s:=s) (T:=T) (o:=gr o (r &&& ~~~s));refine ⟨fun h=>h1 (yo h),fun z=>?_⟩;show z ∈ nc s (gr o (r &&& ~~~s)) T <-> _;rw [h2 z,qh];simp only [bn0];constructor
  · rintro ((h | h) | ⟨q,hq,h⟩)
    · exact .inl h
    · exact .inr ⟨r, .inl rfl,h⟩
    exact .inr ⟨q, .inr hq,h⟩
  rintro (h | ⟨q,rfl | hq,h⟩)
  · exact .inl (.inl h)
  · exact .inl (.inr h)
  exact .inr ⟨q,hq,h⟩
def tq {T:List AS} {s z:AS}:z ∈ kx T s <-> ∃ r ∈ T,z = r &&& ~~~s:=by
 have:=(abn (s:=s) (T:=T) (o:=[])).2 z;simpa [kx] using this
def aeb (T:List AS) (s:AS):(kx T s).Nodup:=(abn (s:=s) (T:=T) (o:=[])).1 List.nodup_nil
def lg (d:Fd) (r k:AS):AS:=(r &&& (d.lhs ||| d.rhs)) ||| (k &&& ~~~(d.lhs ||| d.rhs))
def agB (d:Fd) (r k:AS):Bool:=decide ((r ^^^ k) &&& d.lhs = 0)
def wo {d:Fd} {r k:AS}:agB d r k = true <-> ∀ i,i < 32 -> d.lhs.getLsbD i = true -> r.getLsbD i = k.getLsbD i:=by
 unfold agB;rw [decide_eq_true_eq,kf];constructor
 · intro h i hi hl
   have:=h i hi;rw [bqo] at this;cases hr:r.getLsbD i <;> cases hk:k.getLsbD i <;> simp_all
 intro h i hi hx
 cases hl:d.lhs.getLsbD i with
 | false=>rfl
 | true =>
  rw [bqo,h i hi hl] at hx;simp at hx
def wn {d:Fd} {r k:AS} {i:Nat} (hi:i < 32):(lg d r k).getLsbD i = (if d.lhs.getLsbD i || d.rhs.getLsbD i then r.getLsbD i else k.getLsbD i):=by
 unfold lg;rw [bo9,cw hi,bn4,bo9];cases d.lhs.getLsbD i <;> cases d.rhs.getLsbD i <;> simp
structure ajz (fs ms:List Fd) (T:List AS):Prop where
 fd:∀ d ∈ fs,∀ r ∈ T,∀ k ∈ T,agB d r k = true -> (r ^^^ k) &&& d.rhs = 0
 mv:∀ d ∈ ms,∀ r ∈ T,∀ k ∈ T,agB d r k = true -> lg d r k ∈ T
def ae3 (fs:List Fd) (bs:List AS) (a:Nat):Prop:=jx a ∈ bs /\ ∃ f ∈ fs,f.rhs.getLsbD a = true /\ f.lhs.getLsbD a = false
structure JT (fs:List Fd) (bs:List AS) (rest:AS) (T:List AS):Prop where
 z:(0:AS) ∈ T
 r:∀ r ∈ T,sub r rest /\ ∀ b ∈ bs,b &&& r = 0 \/ sub b r
 top:∃ L ∈ T,(∀ r ∈ T,sub r L) /\ ∀ a,a < 32 -> rest.getLsbD a = true -> L.getLsbD a = false -> ae3 fs bs a
def a2m {b r:AS} (h:b &&& r = 0 \/ sub b r) {a c:Nat} (hc:c < 32) (ha:b.getLsbD a = true) (hb:b.getLsbD c = true):r.getLsbD a = r.getLsbD c:=by
 rcases h with h | h
 · rw [kf.1 h a (a0d ha) ha,kf.1 h c hc hb]
 rw [ap.1 h a (a0d ha) ha,ap.1 h c hc hb]
def aqc {b r:AS} (h:∀ a c,a < 32 -> c < 32 -> b.getLsbD a = true -> b.getLsbD c = true -> r.getLsbD a = true -> r.getLsbD c = true):b &&& r = 0 \/ sub b r:=by
 by_cases hz:b &&& r = 0
 · exact .inl hz
 obtain ⟨a,ha,h1,h2⟩:=a0o hz;exact .inr (ap.2 fun c hc hb=>h a c ha hc h1 hb h2)
section
variable {fs ms:List Fd} {bs:List AS} {rest:AS} {T:List AS}
theorem JT.mix (h:JT fs bs rest T) {d:Fd} (hs:∀ b ∈ bs,dw d b = false) {r k:AS} (hr:r ∈ T) (hk:k ∈ T) (ha:agB d r k = true):JT fs bs rest (gr T (lg d r k)):=by
 have ha:=wo.1 ha;obtain ⟨r1,r2⟩:=h.r r hr;obtain ⟨k1,k2⟩:=h.r k hk;obtain ⟨L,l1,l2,l3⟩:=h.top
 have hm:∀ R:AS,sub r R -> sub k R -> sub (lg d r k) R:=fun R h1 h2=>ap.2 fun i hi hb=>by
  rw [wn hi] at hb;split at hb
  · exact ap.1 h1 i hi hb
  exact ap.1 h2 i hi hb
 refine ⟨qh.2 (.inl h.z),fun q hq=>?_,L,qh.2 (.inl l1),fun q hq=>?_,l3⟩
 · rcases qh.1 hq with hq | rfl
   · exact h.r q hq
   refine ⟨hm rest r1 k1,fun b hb=>?_⟩;refine aqc fun a c hal hcl hba hbc hqa=>?_;rw [wn hal] at hqa;rw [wn hcl];by_cases hL:b &&& d.lhs = 0
   · have hns:=hs b hb
     have hor:b &&& d.rhs = 0 \/ b &&& ~~~d.rhs = 0:=by
      apply Classical.byContradiction;intro hn;rw [not_or] at hn;rw [tn.2 ⟨hL,hn.1,hn.2⟩] at hns;cases hns
     have e1:=kf.1 hL a hal hba;have e2:=kf.1 hL c hcl hbc;rw [e1] at hqa;rw [e2]
     rcases hor with ho | ho
     · rw [kf.1 ho a hal hba] at hqa
       rw [kf.1 ho c hcl hbc];simp only [Bool.or_false,bo1,if_false] at hqa ⊢;rw [<- a2m (k2 b hb) hcl hba hbc];exact hqa
     have f1:=kf.1 ho a hal hba;have f2:=kf.1 ho c hcl hbc;have f1:d.rhs.getLsbD a = true:=by simpa [hal] using f1
     have f2:d.rhs.getLsbD c = true:=by simpa [hcl] using f2
     rw [f1] at hqa;rw [f2];simp only [Bool.or_true,if_true] at hqa ⊢;rw [<- a2m (r2 b hb) hcl hba hbc];exact hqa
   obtain ⟨e,he,hbe,hle⟩:=a0o hL;have hrk:=ha e he hle;have ra:=a2m (r2 b hb) he hba hbe;have rc:=a2m (r2 b hb) he hbc hbe;have ka:=a2m (k2 b hb) he hba hbe;have kc:=a2m (k2 b hb) he hbc hbe
   have x1:r.getLsbD e = true:=by
    split at hqa
    · rw [<- ra];exact hqa
    rw [hrk,<- ka];exact hqa
   split
   · rw [rc];exact x1
   rw [kc,<- hrk];exact x1
 rcases qh.1 hq with hq | rfl
 · exact l2 q hq
 exact hm L (l2 r hr) (l2 k hk)
theorem JT.equ (h:JT fs bs rest T) (hbk:Blk (jr fs ms) rest bs) (hs:∀ m ∈ jr fs ms,∀ b ∈ bs,dw m b = false) {d:Fd} (hd:d ∈ fs) {r k:AS} (hr:r ∈ T) (hk:k ∈ T) (ha:agB d r k = true):JT fs bs rest (kx T ((r ^^^ k) &&& d.rhs)):=by
 have ha:=wo.1 ha;obtain ⟨r1,r2⟩:=h.r r hr;obtain ⟨k1,k2⟩:=h.r k hk;obtain ⟨L,l1,l2,l3⟩:=h.top
 have hdead:∀ a,a < 32 -> ((r ^^^ k) &&& d.rhs).getLsbD a = true -> ae3 fs bs a:=fun a hal h0=>by
  rw [bn4,bqo,bmw] at h0;obtain ⟨h0,hR⟩:=h0;have hne:r.getLsbD a ≠ k.getLsbD a:=fun e=>by rw [e] at h0;simp at h0
  have hLa:d.lhs.getLsbD a = false:=by
   cases hl:d.lhs.getLsbD a with
   | false=>rfl
   | true=>exact absurd (ha a hal hl) hne
  have hrest:rest.getLsbD a = true:=by
   cases hra:r.getLsbD a with
   | true=>exact ap.1 r1 a hal hra
   | false =>
    cases hka:k.getLsbD a with
    | true=>exact ap.1 k1 a hal hka
    | false=>rw [hra,hka] at hne;exact absurd rfl hne
  obtain ⟨b,hb,hba⟩:=hbk.cov hrest
  have hL0:b &&& d.lhs = 0:=kf.2 fun e he hbe=>by
   cases hl:d.lhs.getLsbD e with
   | false=>rfl
   | true =>
    have h1:=ha e he hl;rw [<- a2m (r2 b hb) he hba hbe,<- a2m (k2 b hb) he hba hbe] at h1;exact absurd h1 hne
  have hsp:=hs ⟨d.lhs,jx a⟩ (a7z.2 (.inr ⟨d,hd,a,hal,hR,rfl⟩)) b hb
  have hsub:sub b (jx a):=by
   apply Classical.byContradiction;intro hn
   have ht:dw ⟨d.lhs,jx a⟩ b = true:=tn.2 ⟨hL0,fun e=>by
    have:=kf.1 (show b &&& jx a = 0 from e) a hal hba;rw [gk hal hal] at this
    simp at this,hn⟩
   rw [ht] at hsp;cases hsp
  have he:=b0i hal hsub hba;exact ⟨by rw [<- he];exact hb,d,hd,hR,hLa⟩
 refine ⟨tq.2 ⟨0,h.z,by simp⟩,fun q hq=>?_,L &&& ~~~((r ^^^ k) &&& d.rhs),tq.2 ⟨L,l1,rfl⟩,fun q hq=>?_,fun a hal h1 h2=>?_⟩
 · obtain ⟨p,hp,rfl⟩:=tq.1 hq
   obtain ⟨p1,p2⟩:=h.r p hp;refine ⟨ap.2 fun i hi hb=>?_,fun b hb=>aqc fun a c hal hcl hba hbc hqa=>?_⟩
   · rw [cw hi,bmw] at hb
     exact ap.1 p1 i hi hb.1
   rw [cw hal,bmw] at hqa;rw [cw hcl,bmw];refine ⟨by rw [<- a2m (p2 b hb) hcl hba hbc];exact hqa.1, ?_⟩
   cases hsc:((r ^^^ k) &&& d.rhs).getLsbD c with
   | false=>rfl
   | true =>
    have hsg:=(hdead c hcl hsc).1;have he:=hbk.one hb hsg hbc (by rw [gk hcl hcl];simp);rw [he,gk hcl hal] at hba;have hac:a = c:=by simpa using hba
    rw [hac,hsc] at hqa;simp at hqa
 · obtain ⟨p,hp,rfl⟩:=tq.1 hq
   refine ap.2 fun i hi hb=>?_;rw [cw hi,bmw] at hb ⊢;exact ⟨ap.1 (l2 p hp) i hi hb.1,hb.2⟩
 rw [cw hal] at h2
 cases hLa:L.getLsbD a with
 | false=>exact l3 a hal h1 hLa
 | true =>
  rw [hLa] at h2;exact hdead a hal (by simpa using h2)
def bi2 (T:List AS) (b:AS):Prop:=∀ r ∈ T,∀ k ∈ T,((r &&& b) ||| (k &&& ~~~b)) ∈ T
def kr {r k b:AS} {i:Nat} (hi:i < 32):((r &&& b) ||| (k &&& ~~~b)).getLsbD i = (if b.getLsbD i then r.getLsbD i else k.getLsbD i):=by
 rw [bo9,cw hi,bn4];cases b.getLsbD i <;> simp
def b57 {r k s:AS} (h:(r ^^^ k) &&& s = 0) {i:Nat} (hi:i < 32) (hs:s.getLsbD i = true):r.getLsbD i = k.getLsbD i:=by
 have:=kf.1 (show s &&& (r ^^^ k) = 0 by rw [BitVec.and_comm];exact h) i hi hs;rw [bqo] at this;cases hr:r.getLsbD i <;> cases hk:k.getLsbD i <;> simp_all
def akf (hT:JT fs bs rest T) (hc:ajz fs ms T) (hbk:Blk (jr fs ms) rest bs):∀ b ∈ bs,bi2 T b:=by
 refine hbk.ind _ (fun r hr k hk=>?_) fun m hm b hb hsp=>?_
 · have e:(r &&& rest) ||| (k &&& ~~~rest) = r:=by
    apply lc;intro i hi;rw [kr hi];split
    · rfl
    rename_i hn;have h1:=ap.1 (hT.r r hr).1 i hi;have h2:=ap.1 (hT.r k hk).1 i hi;cases hr2:r.getLsbD i <;> cases hk2:k.getLsbD i <;> simp_all
   rw [e];exact hr
 obtain ⟨s1,s2,s3⟩:=tn.1 hsp
 have key:∀ r ∈ T,∀ k ∈ T,((r &&& b) ||| (k &&& ~~~b)) ∈ T /\ agB m ((r &&& b) ||| (k &&& ~~~b)) k = true:=fun r hr k hk=>by
  refine ⟨hb r hr k hk,wo.2 fun i hi hl=>?_⟩;rw [kr hi]
  have:b.getLsbD i = false:=by
   cases h:b.getLsbD i with
   | false=>rfl
   | true=>rw [kf.1 s1 i hi h] at hl;cases hl
  simp [this]
 have agc:∀ r k:AS,agB m r k = true -> agB m k r = true:=fun r k h=>wo.2 fun i hi hl=>(wo.1 h i hi hl).symm
 rcases a7z.1 hm with hm | ⟨f,hf,a,hal,hfa,rfl⟩
 · constructor
   · intro r hr k hk
     obtain ⟨h1,h2⟩:=key r hr k hk;have:=hc.mv m hm _ h1 k hk h2
     have e:lg m ((r &&& b) ||| (k &&& ~~~b)) k = (r &&& (b &&& m.rhs)) ||| (k &&& ~~~(b &&& m.rhs)):=by
      apply lc;intro i hi;rw [wn hi,kr hi,kr hi,bn4];cases hb2:b.getLsbD i <;> cases hl:m.lhs.getLsbD i <;> cases hr2:m.rhs.getLsbD i <;> simp;have:=kf.1 s1 i hi hb2;rw [hl] at this;cases this
     rw [e] at this;exact this
   intro r hr k hk;obtain ⟨h1,h2⟩:=key r hr k hk;have:=hc.mv m hm k hk _ h1 (agc _ _ h2)
   have e:lg m k ((r &&& b) ||| (k &&& ~~~b)) = (r &&& (b &&& ~~~m.rhs)) ||| (k &&& ~~~(b &&& ~~~m.rhs)):=by
    apply lc;intro i hi;rw [wn hi,kr hi,kr hi,cw hi];cases hb2:b.getLsbD i <;> cases hl:m.lhs.getLsbD i <;> cases hr2:m.rhs.getLsbD i <;> simp;have:=kf.1 s1 i hi hb2;rw [hl] at this;cases this
   rw [e] at this;exact this
 have hba:b.getLsbD a = true:=by
  obtain ⟨i,hi,h1,h2⟩:=a0o s2;rw [gk hal hi] at h2;have:i = a:=by simpa using h2
  rw [<- this];exact h1
 have hno:∀ r ∈ T,∀ k ∈ T,r.getLsbD a = k.getLsbD a:=fun r hr k hk=>by
  obtain ⟨h1,h2⟩:=key r hr k hk
  have h3:=b57 (hc.fd f hf _ h1 k hk (by
   rw [wo] at h2 ⊢
   exact h2)) hal hfa
  rw [kr hal,hba] at h3;simpa using h3
 have hza:∀ r ∈ T,r.getLsbD a = false:=fun r hr=>by rw [hno r hr 0 hT.z];simp
 constructor
 · intro r hr k hk
   have e:(r &&& (b &&& jx a)) ||| (k &&& ~~~(b &&& jx a)) = k:=by
    apply lc;intro i hi;rw [kr hi,bn4,gk hal hi];by_cases h:i = a
    · subst h;simp [hza r hr,hza k hk]
    simp [h]
   show (r &&& (b &&& jx a)) ||| (k &&& ~~~(b &&& jx a)) ∈ T
   rw [e];exact hk
 intro r hr k hk
 have e:(r &&& (b &&& ~~~jx a)) ||| (k &&& ~~~(b &&& ~~~jx a)) = (r &&& b) ||| (k &&& ~~~b):=by
  apply lc;intro i hi;rw [kr hi,kr hi,cw hi,gk hal hi];by_cases h:i = a
  · subst h;simp [hza r hr,hza k hk]
  simp [h]
 show (r &&& (b &&& ~~~jx a)) ||| (k &&& ~~~(b &&& ~~~jx a)) ∈ T
 rw [e];exact hb r hr k hk
structure b2c (fs ms:List Fd) (bs:List AS) (rest:AS) (T:List AS):Prop where
 j:JT fs bs rest T
 c:ajz fs ms T
def b3d (h:b2c fs ms bs rest T) (hbk:Blk (jr fs ms) rest bs) {L:AS} (hL:L ∈ T) (hm:∀ r ∈ T,sub r L) {a:Nat} (hal:a < 32):ae3 fs bs a -> L.getLsbD a = false:=by
 rintro ⟨h1,f,hf,h2,h3⟩;have hg:=akf h.j h.c hbk _ h1 L hL 0 h.j.z
 have h4:=h.c.fd f hf _ hg 0 h.j.z (wo.2 fun i hi hl=>by
  rw [kr hi,gk hal hi];by_cases e:i = a
  · subst e;rw [h3] at hl;cases hl
  simp [e])
 have h5:=b57 h4 hal h2;rw [kr hal,gk hal hal] at h5;simpa using h5
def qB (T:List AS) (L x rest y:AS):Prop:=y ≠ 0 /\ sub y rest /\ (L &&& ~~~(x ||| y)) ∈ T
def ay7 (h:b2c fs ms bs rest T) (hbk:Blk (jr fs ms) rest bs) {L x:AS} (hL:L ∈ T) (hm:∀ r ∈ T,sub r L) (hx:rest &&& x = 0) (b:AS) :
 b ∈ bs <-> qB T L x rest b /\ ∀ y,qB T L x rest y -> sub y b -> y = b:=by
 have hLr:=(h.j.r L hL).1
 have hLx:∀ y:AS,L &&& ~~~(x ||| y) = L &&& ~~~y:=fun y=>by
  apply lc;intro i hi;rw [cw hi,cw hi,bo9]
  cases hl:L.getLsbD i with
  | false=>rfl
  | true=>rw [kf.1 hx i hi (ap.1 hLr i hi hl)];simp
 have hA:∀ b ∈ bs,qB T L x rest b:=fun b hb=>by
  refine ⟨hbk.nz b hb,hbk.sub hb, ?_⟩;rw [hLx];have:=akf h.j h.c hbk b hb 0 h.j.z L hL;have e:((0:AS) &&& b) ||| (L &&& ~~~b) = L &&& ~~~b:=by simp
  rw [e] at this;exact this
 have hB:∀ y,qB T L x rest y -> ∃ b ∈ bs,sub b y:=fun y ⟨y1,y2,y3⟩=>by
  obtain ⟨a,hal,hya⟩:=ama y1;obtain ⟨b,hb,hba⟩:=hbk.cov (ap.1 y2 a hal hya);by_cases hs:sub b y
  · exact ⟨b,hb,hs⟩
  exfalso;obtain ⟨c,hcl,hbc,hyc⟩:=a0o hs;have hyc:y.getLsbD c = false:=by simpa [hcl] using hyc
  rw [hLx] at y3;have h1:=a2m ((h.j.r _ y3).2 b hb) hcl hba hbc;rw [cw hal,cw hcl,hya,hyc] at h1;have hLc:L.getLsbD c = false:=by simpa using h1.symm
  obtain ⟨L2,m1,m2,m3⟩:=h.j.top;have e:L2 = L:=ef (hm L2 m1) (m2 L hL);subst e;have hd:=(m3 c hcl (ap.1 (hbk.sub hb) c hcl hbc) hLc).1;have he:=hbk.one hb hd hbc (by rw [gk hcl hcl];simp);rw [he,gk hcl hal] at hba;have:a = c:=by simpa using hba
  rw [this,hyc] at hya;cases hya
 constructor
 · intro hb
   refine ⟨hA b hb,fun y hy hyb=>?_⟩;obtain ⟨b',hb',hs⟩:=hB y hy;obtain ⟨a,hal,hba⟩:=ama (hbk.nz b' hb');have hya:=ap.1 hs a hal hba;have e:=hbk.one hb' hb hba (ap.1 hyb a hal hya);subst e;exact ef hyb hs
 rintro ⟨hq,hmin⟩;obtain ⟨b',hb',hs⟩:=hB b hq;have:=hmin b' (hA b' hb') hs;rw [<- this];exact hb'
end
end
section
def nr:List AS -> Nat
 | []=>0
 | b :: l=>b.toNat + nr l
def aca:∀ (l k:List AS),nr (l ++ k) = nr l + nr k
 | [],k=>by simp [nr]
 | b :: l,k=>by simp [nr,aca l k];omega
def OkB (l:List AS):Prop:=nr l < 4294967296 /\ ∀ b ∈ l,b ≠ 0
section
variable {l:List AS}
def agk (h:OkB l):l.length <= 4294967296:=by
 have:∀ l:List AS,(∀ b ∈ l,b ≠ 0) -> l.length <= nr l:=by
  intro l
  induction l with
  | nil=>intro _;simp [nr]
  | cons b l ih =>
   intro h;have h1:=ih fun x hx=>h x (by simp [hx]);have h2:=a7a (h b br1);simp only [bn9,nr];omega
 have h1:=this l h.2;have:=h.1;omega
def bf8 (m:Fd) (l:List AS):nr (rdB m l) = nr l:=by
 have:∀ l:List AS,nr (l.map (hdB m)) + nr (l.flatMap (tlB m)) = nr l:=by
  intro l
  induction l with
  | nil=>rfl
  | cons b l ih =>
   rw [bo7,bpt,aca];simp only [nr];by_cases h:dw m b = true
   · have:=aa6 b m.rhs
     simp only [hdB,tlB,h,if_true,nr];omega
   rw [bqa] at h;simp only [hdB,tlB,h,nr,bo1,if_false];omega
 unfold rdB;rw [aca];exact this l
variable {m:Fd}
def ayf (h:OkB l):OkB (rdB m l):=by
 refine ⟨by rw [bf8];exact h.1,fun b hb=>?_⟩;unfold rdB at hb
 rcases bn1.1 hb with hb | hb
 · obtain ⟨b0,h0,rfl⟩:=bne.1 hb
   unfold hdB;split
   · rename_i hs;exact (tn.1 hs).2.1
   exact h.2 _ h0
 obtain ⟨b0,h0,hb⟩:=List.mem_flatMap.1 hb;unfold tlB at hb;split at hb
 · rename_i hs
   simp at hb;subst hb;exact (tn.1 hs).2.2
 cases hb
def aiu (rest:AS):OkB (kw rest):=by
 unfold kw;split
 · exact ⟨by simp [nr],fun _ h=>by cases h⟩
 rename_i h;exact ⟨by simp only [nr];have:=rest.isLt;omega,fun b hb=>by simp at hb;subst hb;exact h⟩
def a9e {rest:AS} (h:¬ rest = 0):kw rest = [] ++ [rest]:=by rw [kw,if_neg h];rfl
def a8u {rest:AS} (h:rest = 0):kw rest = []:=by rw [kw,if_pos h]
def aby (m:Fd) (l:List AS):stB m l 0 = l:=by simp [stB]
def a2q (m:Fd) (l:List AS):stB m l l.length = rdB m l:=by simp [stB,rdB]
def v7 (m:Fd) (l:List AS) (i:Nat):((l.take i).map (hdB m)).length = min i l.length:=by simp
variable {i:Nat}
def b95 (h:i < l.length):(stB m l i).getD i default = l.getD i default:=by
 have e:((l.take i).map (hdB m)).length = i:=by rw [v7];omega
 unfold stB;rw [bnx,bmm,bo8 (by rw [e];omega),e,Nat.sub_self,boc (by rw [bog];omega),boy,bp5,<- bmm]
def stB_get' {a:Nat} (hia:i <= a) (h:a < l.length):(stB m l i).getD a default = l.getD a default:=by
 have e:((l.take i).map (hdB m)).length = i:=by rw [v7];omega
 unfold stB;rw [bnx,bmm,bo8 (by rw [e];omega),e,boc (by rw [bog];omega),boy,show i + (a - i) = a by omega,<- bmm]
def asn (m:Fd) (l:List AS) (i:Nat):l.length <= (stB m l i).length:=by
 unfold stB;rw [bmo,bmo,v7,bog];omega
def ahr (h:i < l.length):l.drop i = l.getD i default :: l.drop (i + 1):=by
 rw [bpo h];congr 1;simp [bmm,bml h]
def pk (h:i < l.length) (hs:dw m (l.getD i default) = false):stB m l (i + 1) = stB m l i:=by
 unfold stB;rw [aq h,bou,bqf,ahr h];simp only [bo7,bqb,bpt,List.flatMap_nil,hdB,tlB,hs,bo1,if_false,bnn,bnx,bpj,bqj]
def ajn (h:i < l.length) (hs:dw m (l.getD i default) = true):stB m l (i + 1) = (stB m l i).set i (l.getD i default &&& m.rhs) ++ [l.getD i default &&& ~~~m.rhs]:=by
 have e:((l.take i).map (hdB m)).length = i:=by rw [v7];omega
 unfold stB;rw [aq h,bou,bqf,ahr h];simp only [bo7,bqb,bpt,List.flatMap_nil,hdB,tlB,hs,if_true,bnn];generalize hA:(l.take i).map (hdB m) = A at e ⊢;generalize (l.take i).flatMap (tlB m) = B;generalize l.drop (i + 1) = D;subst e;rw [bnx A,bnx A,bnx A,List.set_append_right _ _ (bmp _),Nat.sub_self,bnx A];simp
def bee (m:Fd) (l:List AS):∀ i,(stB m l i).length <= (rdB m l).length:=by
 intro i;by_cases hi:i < l.length
 · have:∀ k,i + k <= l.length -> (stB m l i).length <= (stB m l (i + k)).length:=by
    intro k
    induction k with
    | zero=>intro _;exact bmp _
    | succ k ih =>
     intro hk;have h1:=ih bqx;refine bmy h1 ?_;cases hs:dw m (l.getD (i + k) default)
     · rw [show i + (k + 1) = i + k + 1 by omega,pk bqx hs];exact bmp _
     rw [show i + (k + 1) = i + k + 1 by omega,ajn bqx hs,bmo,bp0];omega
   have h2:=this (l.length - i) bqx;rw [show i + (l.length - i) = l.length by omega,a2q] at h2;exact h2
 unfold stB rdB;rw [List.take_of_length_le bqx,bqp bqx];simp
def a7h (l:List AS) (i:Nat):Nat -> Nat -> PV:=fun k c=>if k < i then .any else sC (l.getD k default) c
def b9n (l:List AS) (i:Nat):a7h l i i 0 = asC (l.getD i default):=by
 unfold a7h;rw [if_neg (bq4 i)]
def a8m {cl:Bool} {n:Nat} (hn:n = l.length):CoP (.sl n 1 cl (a7h l i)) (.sl l.length 1 false (a7h l (i + 1))):=by
 subst hn;refine CoP.sl rfl (.inl rfl) (fun h=>by cases h) fun k c hk hc=>?_;unfold a7h;by_cases h1:k < i
 · rw [if_pos h1,if_pos (show k < i + 1 by omega)];exact CoP.refl _
 rw [if_neg h1];by_cases h2:k < i + 1
 · rw [if_pos h2];exact CoP.any_of
 rw [if_neg h2];exact CoP.refl _
def an6 {L:List AS} {k:Nat} {v:PV} (hil:i < L.length) (hk:k = i:=by rfl):CoP (.sl L.length 1 false (eu (lf sC (stB m L i)) k 0 [v])) (.sl L.length 1 false (a7h L (i + 1))):=by
 subst hk;refine CoP.sl rfl (.inl rfl) (fun h=>h) fun a c ha hc=>?_;obtain rfl:c = 0:=by omega
 unfold a7h;by_cases h:a < k + 1
 · rw [if_pos h];exact CoP.any_of
 rw [if_neg h];unfold eu lf;rw [if_neg bqx,stB_get' bqx ha];exact CoP.refl _
def ayy {A B:List AS} {a:Nat} (h:a < A.length):(A ++ B).getD a default = A.getD a default:=by simp [bmm,boc h]
def ayq {A:List AS} {x:AS}:(A ++ [x]).getD A.length default = x:=by simp [bmm]
def xh {wr wr':Bool} {e:TypeId} {L:List AS} {k:Nat} {u:Int} {g:Nat -> Nat -> PV} (hil:i < L.length) (hs:dw m (L.getD i default) = true) (hk:k = i) (hu:u = asI (L.getD i default &&& m.rhs)) (hg:CoP (g 0 0) (asC (L.getD i default &&& ~~~m.rhs))) (hw:wr' = true -> wr = true:=by exact fun h=>h):
 CoO (.arr wr 1 e ((stB m L i).length + 1) (fm (stB m L i).length (eu (lf sC (stB m L i)) k 0 [.raw (.int .u32 u)]) g)) (.arr wr' 1 e (stB m L (i + 1)).length (lf sC (stB m L (i + 1)))):=by
 subst hk hu;have hl:=asn m L k;rw [ajn hil hs];refine ⟨hw,rfl,rfl,by rw [bmo,bp0];rfl,fun a j ha hj=>?_⟩;obtain rfl:j = 0:=by omega
 unfold fm;generalize L.getD k default &&& m.rhs = X;generalize L.getD k default &&& ~~~m.rhs = Y at hg ⊢;generalize stB m L k = A at hl ha ⊢;by_cases h:a < A.length
 · rw [if_pos h]
   refine CoP.of_eq ?_;show eu (lf sC A) k 0 [.raw (.int .u32 (asI X))] a 0 = sC ((A.set k X ++ [Y]).getD a default) 0;rw [ayy (by rw [bp0];exact h)];unfold eu lf;by_cases h2:a = k
   · subst h2
     rw [if_pos ⟨rfl,bmp _,by simp⟩,ov h];rfl
   rw [if_neg bqx,getD_set_ne' h2]
 obtain rfl:a = A.length:=by omega
 rw [if_neg h,Nat.sub_self];show CoP (g 0 0) (sC ((A.set k X ++ [Y]).getD A.length default) 0);have:=ayq (A:=A.set k X) (x:=Y);rw [bp0] at this;rw [this];exact hg
variable {ms:List Fd}
def a4e {j:Nat} (h:j < ms.length):ck (ms.take (j + 1)) l = rdB (ms.getD j default) (ck (ms.take j) l):=by
 unfold ck;rw [aq h,bo0];rfl
def arj:∀ (ms:List Fd) (m:Fd) (l:List AS),n8 (ms ++ [m]) l = (n8 ms l || (ck ms l).any (dw m))
 | [],m,l=>by simp [n8,ck]
 | k :: ms,m,l=>by
  simp only [bpj,n8];rw [arj ms m (rdB k l),Bool.or_assoc];rfl
def ali {j:Nat} (h:j < ms.length):n8 (ms.take (j + 1)) l = (n8 (ms.take j) l || (ck (ms.take j) l).any (dw (ms.getD j default))):=by
 rw [aq h,arj]
def a8n (h:OkB l):∀ {ms:List Fd},OkB (ck ms l):=by
 intro ms
 induction ms generalizing l with
 | nil=>exact h
 | cons m ms ih=>exact ih (ayf h)
structure BkI (ms:List Fd) (R:List AS) (x:Nat × List AS × Bool):Prop where
 ok:OkB x.2.1
 t:x.2.2 = true -> yc ms x.1 x.2.1 = R /\ muB x.2.1 < x.1
 f:x.2.2 = false -> x.2.1 = R
def b37 (ms:List Fd) (rest:AS):BkI ms (blks ms rest) (18446744073709551616,kw rest,true):=⟨aiu rest,fun _=>⟨rfl,aif rest⟩,fun h=>by cases h⟩
def bby {R:List AS} {f:Nat} (h:BkI ms R (f,l,true)):BkI ms R (f - 1,ck ms l,n8 ms l) /\ 0 < f:=by
 obtain ⟨h1,h2⟩:=h.t rfl;have h2:muB l < f:=h2;obtain ⟨g,rfl⟩:∃ g,f = g + 1:=⟨f - 1,by omega⟩;have h3:=afl ms l;refine ⟨⟨a8n h.ok,fun hc=>?_,fun hc=>?_⟩,by omega⟩
 · have hc:n8 ms l = true:=hc
   have h1:yc ms (g + 1) l = R:=h1;unfold yc at h1;rw [if_pos hc] at h1 h3;exact ⟨h1,by show muB (ck ms l) < g;omega⟩
 have hc:n8 ms l = false:=hc;have h1:yc ms (g + 1) l = R:=h1;unfold yc at h1;rw [hc] at h1;exact h1
def ckB (n:Int) (l m:List Fd) (s:AS):Int:=if br n l m = 0 then (if s >>> n.toNat = 0 then 0 else 1) else br n l m
def b48 {n:Int} {l m:List Fd} {s:AS} (h:¬ br n l m = 0):ckB n l m s = br n l m:=if_neg h
def b51 {n:Int} {l m:List Fd} {s:AS} (h:br n l m = 0) (h2:¬ s >>> n.toNat = 0):ckB n l m s = 1:=by unfold ckB;rw [if_pos h,if_neg h2]
def ae9 {n:Int} {l m:List Fd} {s:AS} (h:br n l m = 0) (h2:s >>> n.toNat = 0):ckB n l m s = 0:=by unfold ckB;rw [if_pos h,if_pos h2]
def a67 {n:Int} {l m:List Fd} {s:AS} (h:ckB n l m s = 0):br n l m = 0 /\ s >>> n.toNat = 0:=by
 unfold ckB at h;split at h
 · split at h
   · exact ⟨by assumption,by assumption⟩
   cases h
 exact absurd h bqy
def as4 (f:Fd):(sgl f).length <= 32:=by unfold sgl;rw [bn6];exact o6 _
def me (fs ms:List Fd) (i k:Nat):List Fd:=ms ++ (fs.take i).flatMap sgl ++ (sgl (fs.getD i default)).take k
def aij (fs ms:List Fd):me fs ms 0 0 = ms:=by simp [me]
variable {fs:List Fd}
def ax0 (h:i < fs.length):me fs ms (i + 1) 0 = me fs ms i (sgl (fs.getD i default)).length:=by
 unfold me;rw [aq h,bqf,bmt];simp
def b2j (fs ms:List Fd):me fs ms fs.length 0 = jr fs ms:=by simp [me,jr]
def axi {k:Nat} (h:k < (sgl (fs.getD i default)).length):me fs ms i (k + 1) = me fs ms i k ++ [(sgl (fs.getD i default)).getD k default]:=by
 unfold me;rw [aq h,<- bnx]
def b21 {k:Nat}:(me fs ms i k).length <= ms.length + 32 * (i + 1):=by
 have:∀ l:List Fd,(l.flatMap sgl).length <= 32 * l.length:=by
  intro l
  induction l with
  | nil=>simp
  | cons f l ih =>
   rw [bpt,bmo,bn9];have:=as4 f;omega
 have h1:=this (fs.take i);have h2:=as4 (fs.getD i default);unfold me;rw [bmo,bmo,bmv];rw [bmv] at h1;omega
end
end
section
open Go.RowKit
section
variable {ro:Option Nat} {P:Program} {nt:Nat} {st:HSt} {Q:Exit -> HSt -> Prop}
def vv {w0:World} {cc:Ctx} {a:Act} {w:World} (hrr:ah w0 nt cc st.den a w) {d:Nat} {x:HR} (hx:am cc st.den.o x (a.tmps.getD d undef)):ah w0 nt cc (HSt.den ⟨(d,some x) :: st.t,st.o⟩) a w:=by
 refine ⟨hrr.defers,hrr.size,hrr.below,fun k y hy=>?_,hrr.objs,hrr.inj,hrr.imm,hrr.sep,hrr.was,hrr.frm,hrr.fsep,hrr.fixed⟩;simp only [HSt.den] at hy;rw [bu] at hy;dsimp only at hy;split at hy
 · rename_i hk
   subst hk;simp only [bmk] at hy;subst hy;exact hx
 exact hrr.tmps k y hy
section
variable {f:Nat -> Nat -> PV}
def b2s {c:Code} (d:Nat) {id n n' s:Nat} {wr:Bool} {e:TypeId} (hd:bi st.t d = some (.v (.one (.ref id n)))) (ho:bi st.o id = some (.arr wr s e n' f)) (hn:n' = n) (h:HW (ro:=ro) P nt c ⟨(d,some (.v (.one (.win id n 0 n)))) :: st.t,st.o⟩ Q):HW (ro:=ro) P nt c st Q:=by
 subst hn;refine xp st d _ (fun w0 m0 a w hr=>?_) h;obtain ⟨cc,hold,hrr⟩:=hr;refine ⟨cc,hold,hrr, ?_⟩;have hu:bm cc st.den.o (.ref id n') (a.tmps.getD d undef):=hrr.tmps d _ hd;refine ⟨hu.1,hu.2.1,fun ob s2 e2 n2 ho2 hd2=>⟨(hu.2.2 _ _ _ _ ho2 hd2).1,fun hk=>?_⟩⟩;have he:=(hu.2.2 _ _ _ _ ho2 hd2).2 hk;obtain rfl:ob = .arr wr s e n' f:=Option.some.inj (ho2.symm.trans ho);simp only [aa.dim,bmk,bmu] at hd2;obtain ⟨rfl,rfl,rfl⟩:=hd2;obtain ⟨ad,cap,hv,hc1,hc2⟩:=yz (hrr.objs _ _ ho2);exact ⟨ad,ad,cap,hv,by rw [he,hv];rfl,by omega,hc1,hc2,fun _=>by cases ad <;> simp [oj]⟩
def b6z {c:Code} (d dh:Nat) {id n n' n0 k s:Nat} {e:TypeId} (hd:bi st.t d = some (.v (.one (.ref id n)))) (hh:bi st.t dh = some (.v (.one (.win id k 0 n0)))) (ho:bi st.o id = some (.arr true s e n' f)) (hn:n' = n) (hk:k = n) (hne:Nat.beq d dh = false) (hA:∀ ad cap,n + 1 <= cap -> HW (ro:=ro) P nt c ⟨(d,some (.v (.one (.pin id n ad cap)))) :: (dh,some (bp (.raw (.slice ad n0 cap)))) :: st.t,st.o⟩ Q) (hB:HW (ro:=ro) P nt c ⟨(d,some (bp (.sl n s true f))) :: (dh,some (bp (.sl n0 s false f))) :: st.t,(id,none) :: st.o⟩ Q):HW (ro:=ro) P nt c st Q:=by
 subst hn hk;intro w0 m0 a w hr;obtain ⟨cc,hold,hrr⟩:=hr;have hu:bm cc st.den.o (.ref id k) (a.tmps.getD d undef):=hrr.tmps d _ hd;have hv:bm cc st.den.o (.win id k 0 n0) (a.tmps.getD dh undef):=hrr.tmps dh _ hh;obtain ⟨ad,ad',cap,q1,q2,q3,q4,q5,q6⟩:=zi hv ho rfl;have hu1:=(hu.2.2 _ _ _ _ ho rfl).2 rfl;by_cases hc:k + 1 <= cap
 · obtain rfl:ad' = ad:=by
    rw [q6 bqx];cases ad <;> simp [oj]
   refine hA ad' cap hc w0 m0 a w ⟨cc,hold, ?_⟩;have h1:ah w0 nt cc (HSt.den ⟨(dh,some (bp (.raw (.slice ad' n0 cap)))) :: st.t,st.o⟩) a w:=vv hrr ⟨by simpa using q2,rfl⟩;refine vv (st:=⟨(dh,some (bp (.raw (.slice ad' n0 cap)))) :: st.t,st.o⟩) h1 ⟨hu1.trans q1,hu.2.1,hu.2.2⟩
 obtain rfl:cap = k:=by omega
 have hfr:=hrr.freeze (id:=id) ho;rw [<- tg] at hfr;refine hB w0 m0 a w ⟨{ old:=cc.old,imm:=frozenImm cc w id,tab:=yl hrr ho,own:=cc.own,blk:=cc.blk,rows:=cc.rows },hold, ?_⟩;have hfa:=qx hrr ho;have h1:=vv (st:=⟨st.t,(id,none) :: st.o⟩) (d:=dh) (x:=bp (.sl n0 s false fun a b=>f (0 + a) b)) hfr (adv hrr ho hv);have e0:(fun a b=>f (0 + a) b) = f:=by funext a b;rw [bnk]
 rw [e0] at h1;refine vv (st:=⟨(dh,some (bp (.sl n0 s false f))) :: st.t,(id,none) :: st.o⟩) h1 ?_;rw [hu1];obtain ⟨A,C,r1,r2,r3,r4,r5⟩:=hfa;refine ⟨A,C,r1,r2,r3,fun _=>?_,r5⟩;rw [q1] at r1;simp only [Value.slice.injEq,true_and] at r1;exact r1.2.symm
def b1c {c:Code} (d dh:Nat) {id n n' n0 s cap:Nat} {ad:Option Addr} {e:TypeId} (hd:bi st.t d = some (.v (.one (.pin id n ad cap)))) (hh:bi st.t dh = some (bp (.raw (.slice ad n0 cap)))) (ho:bi st.o id = some (.arr true s e n' f)) (hn:n' = n) (hle:n0 <= n) (hne:Nat.beq d dh = false) (h:HW (ro:=ro) P nt c ⟨(d,some (.v (.one (.ref id n)))) :: (dh,some (.v (.one (.win id n 0 n0)))) :: st.t,st.o⟩ Q):HW (ro:=ro) P nt c st Q:=by
 subst hn;intro w0 m0 a w hr;obtain ⟨cc,hold,hrr⟩:=hr;have hu:bm cc st.den.o (.pin id n' ad cap) (a.tmps.getD d undef):=hrr.tmps d _ hd;have hv:bm cc st.den.o (.p (.raw (.slice ad n0 cap))) (a.tmps.getD dh undef):=hrr.tmps dh _ hh;obtain ⟨hv1,_⟩:=hv;have hu1:=(hu.2.2 _ _ _ _ ho rfl).2 rfl;refine h w0 m0 a w ⟨cc,hold, ?_⟩
 have h1:ah w0 nt cc (HSt.den ⟨(dh,some (.v (.one (.win id n' 0 n0)))) :: st.t,st.o⟩) a w:=by
  refine vv hrr ⟨by rw [hv1];rfl,hu.2.1,fun ob s2 e2 n2 ho2 hd2=>⟨(hu.2.2 _ _ _ _ ho2 hd2).1,fun hk=>?_⟩⟩;obtain rfl:ob = .arr true s e n' f:=Option.some.inj (ho2.symm.trans ho);simp only [aa.dim,bmk,bmu] at hd2;obtain ⟨rfl,rfl,rfl⟩:=hd2;obtain ⟨ad2,cap2,g1,g2,g3⟩:=yz (hrr.objs _ _ ho2);have hown:cc.own id = .slice ad n' cap:=hu1.symm.trans hu.1;rw [hown] at g1;simp only [Value.slice.injEq,true_and] at g1;obtain ⟨rfl,rfl⟩:=g1;exact ⟨ad,ad,cap,hown,hv1,by omega,g2,g3,fun _=>by cases ad <;> simp [oj]⟩
 exact vv (st:=⟨(dh,some (.v (.one (.win id n' 0 n0)))) :: st.t,st.o⟩) h1 ⟨by rw [hu.1];rfl,hu.2.1,hu.2.2⟩
end
end
end
end Go.Hx
