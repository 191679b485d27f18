/- A part of the proof: Bz2 Bz3 Hx27. -/
import Derived.Test.YtidophngianjiaaDoorDx19
import Derived.Test.YtidophngianjiaaDoorDx21
import Derived.Test.YtidophngianjiaaDoorDx22
set_option linter.all false
section
namespace Go.Hx
def sgl (f:Fd):List Fd:=(bi f.rhs).map fun a=>⟨f.lhs,eu a⟩
def ep (fs ms:List Fd):List Fd:=ms ++ fs.flatMap sgl
theorem vv {fs ms:List Fd} {m:Fd}:m ∈ ep fs ms ↔ m ∈ ms ∨ ∃ f ∈ fs,∃ a,a < 32 ∧ f.rhs.getLsbD a = true ∧ m = ⟨f.lhs,eu a⟩:=by
 unfold ep sgl
 simp only [List.mem_append,List.mem_flatMap,List.mem_map,iq]
 constructor
 · rintro (h | ⟨f,hf,a,⟨h1,h2⟩,rfl⟩)
   · exact .inl h
   · exact .inr ⟨f,hf,a,h1,h2,rfl⟩
 · rintro (h | ⟨f,hf,a,h1,h2,rfl⟩)
   · exact .inl h
   · exact .inr ⟨f,hf,a,⟨h1,h2⟩,rfl⟩
def db (T:List AS) (r:AS):List AS:=if r ∈ T then T else T ++ [r]
theorem jj {T:List AS} {r z:AS}:z ∈ db T r ↔ z ∈ T ∨ z = r:=by
 unfold db
 split
 · rename_i h
   constructor
   · exact .inl
   · rintro (h2 | rfl)
     · exact h2
     · exact h
 · simp
theorem o7 {T:List AS} {r:AS} (h:T.Nodup):(db T r).Nodup:=by
 unfold db
 split
 · exact h
 · rename_i hr
   rw [List.nodup_append]
   exact ⟨h,by simp,fun a ha b hb=>by simp at hb;subst hb;rintro rfl;exact hr ha⟩
def gw (s:AS) (o:List AS) (T:List AS):List AS:=T.foldl (fun o r=>db o (r &&& ~~~s)) o
def fk (T:List AS) (s:AS):List AS:=gw s [] T
theorem a0g {s:AS}:∀ {T o:List AS},(o.Nodup → (gw s o T).Nodup) ∧ ∀ z,z ∈ gw s o T ↔ z ∈ o ∨ ∃ r ∈ T,z = r &&& ~~~s
 | [],o=>⟨fun h=>h,fun z=>by simp [gw]⟩
 | r :: T,o=>by
  obtain ⟨h1,h2⟩:=a0g (s:=s) (T:=T) (o:=db o (r &&& ~~~s))
  refine ⟨fun h=>h1 (o7 h),fun z=>?_⟩
  show z ∈ gw s (db o (r &&& ~~~s)) T ↔ _
  rw [h2 z,jj]
  simp only [List.mem_cons]
  constructor
  · rintro ((h | h) | ⟨q,hq,h⟩)
    · exact .inl h
    · exact .inr ⟨r, .inl rfl,h⟩
    · exact .inr ⟨q, .inr hq,h⟩
  · rintro (h | ⟨q,rfl | hq,h⟩)
    · exact .inl (.inl h)
    · exact .inl (.inr h)
    · exact .inr ⟨q,hq,h⟩
theorem kw {T:List AS} {s z:AS}:z ∈ fk T s ↔ ∃ r ∈ T,z = r &&& ~~~s:=by
 have:=(a0g (s:=s) (T:=T) (o:=[])).2 z
 simpa [fk] using this
theorem a26 (T:List AS) (s:AS):(fk T s).Nodup:=(a0g (s:=s) (T:=T) (o:=[])).1 List.nodup_nil
def fv (d:Fd) (r k:AS):AS:=(r &&& (d.lhs ||| d.rhs)) ||| (k &&& ~~~(d.lhs ||| d.rhs))
def agB (d:Fd) (r k:AS):Bool:=decide ((r ^^^ k) &&& d.lhs = 0)
theorem mr {d:Fd} {r k:AS}:agB d r k = true ↔ ∀ i,i < 32 → d.lhs.getLsbD i = true → r.getLsbD i = k.getLsbD i:=by
 unfold agB
 rw [decide_eq_true_eq,ez]
 constructor
 · intro h i hi hl
   have:=h i hi
   rw [BitVec.getLsbD_xor] at this
   cases hr:r.getLsbD i <;> cases hk:k.getLsbD i <;> simp_all
 · intro h i hi hx
   cases hl:d.lhs.getLsbD i with
   | false=>rfl
   | true =>
    rw [BitVec.getLsbD_xor,h i hi hl] at hx
    simp at hx
theorem mf {d:Fd} {r k:AS} {i:Nat} (hi:i < 32):(fv d r k).getLsbD i = (if d.lhs.getLsbD i || d.rhs.getLsbD i then r.getLsbD i else k.getLsbD i):=by
 unfold fv
 rw [BitVec.getLsbD_or,bh hi,BitVec.getLsbD_and,BitVec.getLsbD_or]
 cases d.lhs.getLsbD i <;> cases d.rhs.getLsbD i <;> simp
structure a52 (fs ms:List Fd) (T:List AS):Prop where
 fd:∀ d ∈ fs,∀ r ∈ T,∀ k ∈ T,agB d r k = true → (r ^^^ k) &&& d.rhs = 0
 mv:∀ d ∈ ms,∀ r ∈ T,∀ k ∈ T,agB d r k = true → fv d r k ∈ T
def a0z (fs:List Fd) (bs:List AS) (a:Nat):Prop:=eu a ∈ bs ∧ ∃ f ∈ fs,f.rhs.getLsbD a = true ∧ f.lhs.getLsbD a = false
structure JT (fs:List Fd) (bs:List AS) (rest:AS) (T:List AS):Prop where
 z:(0:AS) ∈ T
 r:∀ r ∈ T,sub r rest ∧ ∀ b ∈ bs,b &&& r = 0 ∨ sub b r
 top:∃ L ∈ T,(∀ r ∈ T,sub r L) ∧ ∀ a,a < 32 → rest.getLsbD a = true → L.getLsbD a = false → a0z fs bs a
theorem s7 {b r:AS} (h:b &&& r = 0 ∨ sub b r) {a c:Nat} (hc:c < 32) (ha:b.getLsbD a = true) (hb:b.getLsbD c = true):r.getLsbD a = r.getLsbD c:=by
 rcases h with h | h
 · rw [ez.1 h a (oz ha) ha,ez.1 h c hc hb]
 · rw [ar.1 h a (oz ha) ha,ar.1 h c hc hb]
theorem aac {b r:AS} (h:∀ a c,a < 32 → c < 32 → b.getLsbD a = true → b.getLsbD c = true → r.getLsbD a = true → r.getLsbD c = true):b &&& r = 0 ∨ sub b r:=by
 by_cases hz:b &&& r = 0
 · exact .inl hz
 · obtain ⟨a,ha,h1,h2⟩:=qe hz
   exact .inr (ar.2 fun c hc hb=>h a c ha hc h1 hb h2)
section
variable {fs ms:List Fd} {bs:List AS} {rest:AS} {T:List AS}
theorem JT.mix (h:JT fs bs rest T) {d:Fd} (hs:∀ b ∈ bs,c4 d b = false) {r k:AS} (hr:r ∈ T) (hk:k ∈ T) (ha:agB d r k = true):JT fs bs rest (db T (fv d r k)):=by
 have ha:=mr.1 ha
 obtain ⟨r1,r2⟩:=h.r r hr
 obtain ⟨k1,k2⟩:=h.r k hk
 obtain ⟨L,l1,l2,l3⟩:=h.top
 have hm:∀ R:AS,sub r R → sub k R → sub (fv d r k) R:=fun R h1 h2=>ar.2 fun i hi hb=>by
  rw [mf hi] at hb
  split at hb
  · exact ar.1 h1 i hi hb
  · exact ar.1 h2 i hi hb
 refine ⟨jj.2 (.inl h.z),fun q hq=>?_,L,jj.2 (.inl l1),fun q hq=>?_,l3⟩
 · rcases jj.1 hq with hq | rfl
   · exact h.r q hq
   · refine ⟨hm rest r1 k1,fun b hb=>?_⟩
     refine aac fun a c hal hcl hba hbc hqa=>?_
     rw [mf hal] at hqa
     rw [mf hcl]
     by_cases hL:b &&& d.lhs = 0
     · have hns:=hs b hb
       have hor:b &&& d.rhs = 0 ∨ b &&& ~~~d.rhs = 0:=by
        apply Classical.byContradiction
        intro hn
        rw [not_or] at hn
        rw [ks.2 ⟨hL,hn.1,hn.2⟩] at hns
        cases hns
       have e1:=ez.1 hL a hal hba
       have e2:=ez.1 hL c hcl hbc
       rw [e1] at hqa
       rw [e2]
       rcases hor with ho | ho
       · rw [ez.1 ho a hal hba] at hqa
         rw [ez.1 ho c hcl hbc]
         simp only [Bool.or_false,Bool.false_eq_true,if_false] at hqa ⊢
         rw [← s7 (k2 b hb) hcl hba hbc];exact hqa
       · have f1:=ez.1 ho a hal hba
         have f2:=ez.1 ho c hcl hbc
         have f1:d.rhs.getLsbD a = true:=by simpa [hal] using f1
         have f2:d.rhs.getLsbD c = true:=by simpa [hcl] using f2
         rw [f1] at hqa
         rw [f2]
         simp only [Bool.or_true,if_true] at hqa ⊢
         rw [← s7 (r2 b hb) hcl hba hbc];exact hqa
     · obtain ⟨e,he,hbe,hle⟩:=qe hL
       have hrk:=ha e he hle
       have ra:=s7 (r2 b hb) he hba hbe
       have rc:=s7 (r2 b hb) he hbc hbe
       have ka:=s7 (k2 b hb) he hba hbe
       have kc:=s7 (k2 b hb) he hbc hbe
       have x1:r.getLsbD e = true:=by
        split at hqa
        · rw [← ra];exact hqa
        · rw [hrk,← ka];exact hqa
       split
       · rw [rc];exact x1
       · rw [kc,← hrk];exact x1
 · rcases jj.1 hq with hq | rfl
   · exact l2 q hq
   · exact hm L (l2 r hr) (l2 k hk)
theorem JT.equ (h:JT fs bs rest T) (hbk:Blk (ep fs ms) rest bs) (hs:∀ m ∈ ep fs ms,∀ b ∈ bs,c4 m b = false) {d:Fd} (hd:d ∈ fs) {r k:AS} (hr:r ∈ T) (hk:k ∈ T) (ha:agB d r k = true):JT fs bs rest (fk T ((r ^^^ k) &&& d.rhs)):=by
 have ha:=mr.1 ha
 obtain ⟨r1,r2⟩:=h.r r hr
 obtain ⟨k1,k2⟩:=h.r k hk
 obtain ⟨L,l1,l2,l3⟩:=h.top
 have hdead:∀ a,a < 32 → ((r ^^^ k) &&& d.rhs).getLsbD a = true → a0z fs bs a:=fun a hal h0=>by
  rw [BitVec.getLsbD_and,BitVec.getLsbD_xor,Bool.and_eq_true] at h0
  obtain ⟨h0,hR⟩:=h0
  have hne:r.getLsbD a ≠ k.getLsbD a:=fun e=>by rw [e] at h0;simp at h0
  have hLa:d.lhs.getLsbD a = false:=by
   cases hl:d.lhs.getLsbD a with
   | false=>rfl
   | true=>exact absurd (ha a hal hl) hne
  have hrest:rest.getLsbD a = true:=by
   cases hra:r.getLsbD a with
   | true=>exact ar.1 r1 a hal hra
   | false =>
    cases hka:k.getLsbD a with
    | true=>exact ar.1 k1 a hal hka
    | false=>rw [hra,hka] at hne;exact absurd rfl hne
  obtain ⟨b,hb,hba⟩:=hbk.cov hrest
  have hL0:b &&& d.lhs = 0:=ez.2 fun e he hbe=>by
   cases hl:d.lhs.getLsbD e with
   | false=>rfl
   | true =>
    have h1:=ha e he hl
    rw [← s7 (r2 b hb) he hba hbe,← s7 (k2 b hb) he hba hbe] at h1
    exact absurd h1 hne
  have hsp:=hs ⟨d.lhs,eu a⟩ (vv.2 (.inr ⟨d,hd,a,hal,hR,rfl⟩)) b hb
  have hsub:sub b (eu a):=by
   apply Classical.byContradiction
   intro hn
   have ht:c4 ⟨d.lhs,eu a⟩ b = true:=ks.2 ⟨hL0,fun e=>by
    have:=ez.1 (show b &&& eu a = 0 from e) a hal hba
    rw [d4 hal hal] at this
    simp at this,hn⟩
   rw [ht] at hsp
   cases hsp
  have he:=ajy hal hsub hba
  exact ⟨by rw [← he];exact hb,d,hd,hR,hLa⟩
 refine ⟨kw.2 ⟨0,h.z,by simp⟩,fun q hq=>?_,L &&& ~~~((r ^^^ k) &&& d.rhs),kw.2 ⟨L,l1,rfl⟩,fun q hq=>?_,fun a hal h1 h2=>?_⟩
 · obtain ⟨p,hp,rfl⟩:=kw.1 hq
   obtain ⟨p1,p2⟩:=h.r p hp
   refine ⟨ar.2 fun i hi hb=>?_,fun b hb=>aac fun a c hal hcl hba hbc hqa=>?_⟩
   · rw [bh hi,Bool.and_eq_true] at hb
     exact ar.1 p1 i hi hb.1
   · rw [bh hal,Bool.and_eq_true] at hqa
     rw [bh hcl,Bool.and_eq_true]
     refine ⟨by rw [← s7 (p2 b hb) hcl hba hbc];exact hqa.1, ?_⟩
     cases hsc:((r ^^^ k) &&& d.rhs).getLsbD c with
     | false=>rfl
     | true =>
      have hsg:=(hdead c hcl hsc).1
      have he:=hbk.one hb hsg hbc (by rw [d4 hcl hcl];simp)
      rw [he,d4 hcl hal] at hba
      have hac:a = c:=by simpa using hba
      rw [hac,hsc] at hqa
      simp at hqa
 · obtain ⟨p,hp,rfl⟩:=kw.1 hq
   refine ar.2 fun i hi hb=>?_
   rw [bh hi,Bool.and_eq_true] at hb ⊢
   exact ⟨ar.1 (l2 p hp) i hi hb.1,hb.2⟩
 · rw [bh hal] at h2
   cases hLa:L.getLsbD a with
   | false=>exact l3 a hal h1 hLa
   | true =>
    rw [hLa] at h2
    exact hdead a hal (by simpa using h2)
def arp (T:List AS) (b:AS):Prop:=∀ r ∈ T,∀ k ∈ T,((r &&& b) ||| (k &&& ~~~b)) ∈ T
theorem fb {r k b:AS} {i:Nat} (hi:i < 32):((r &&& b) ||| (k &&& ~~~b)).getLsbD i = (if b.getLsbD i then r.getLsbD i else k.getLsbD i):=by
 rw [BitVec.getLsbD_or,bh hi,BitVec.getLsbD_and]
 cases b.getLsbD i <;> simp
theorem al9 {r k s:AS} (h:(r ^^^ k) &&& s = 0) {i:Nat} (hi:i < 32) (hs:s.getLsbD i = true):r.getLsbD i = k.getLsbD i:=by
 have:=ez.1 (show s &&& (r ^^^ k) = 0 by rw [BitVec.and_comm];exact h) i hi hs
 rw [BitVec.getLsbD_xor] at this
 cases hr:r.getLsbD i <;> cases hk:k.getLsbD i <;> simp_all
theorem a58 (hT:JT fs bs rest T) (hc:a52 fs ms T) (hbk:Blk (ep fs ms) rest bs):∀ b ∈ bs,arp T b:=by
 refine hbk.ind _ (fun r hr k hk=>?_) fun m hm b hb hsp=>?_
 · have e:(r &&& rest) ||| (k &&& ~~~rest) = r:=by
    apply ew
    intro i hi
    rw [fb hi]
    split
    · rfl
    · rename_i hn
      have h1:=ar.1 (hT.r r hr).1 i hi
      have h2:=ar.1 (hT.r k hk).1 i hi
      cases hr2:r.getLsbD i <;> cases hk2:k.getLsbD i <;> simp_all
   rw [e]
   exact hr
 · obtain ⟨s1,s2,s3⟩:=ks.1 hsp
   have key:∀ r ∈ T,∀ k ∈ T,((r &&& b) ||| (k &&& ~~~b)) ∈ T ∧ agB m ((r &&& b) ||| (k &&& ~~~b)) k = true:=fun r hr k hk=>by
    refine ⟨hb r hr k hk,mr.2 fun i hi hl=>?_⟩
    rw [fb hi]
    have:b.getLsbD i = false:=by
     cases h:b.getLsbD i with
     | false=>rfl
     | true=>rw [ez.1 s1 i hi h] at hl;cases hl
    simp [this]
   have agc:∀ r k:AS,agB m r k = true → agB m k r = true:=fun r k h=>mr.2 fun i hi hl=>(mr.1 h i hi hl).symm
   rcases vv.1 hm with hm | ⟨f,hf,a,hal,hfa,rfl⟩
   · constructor
     · intro r hr k hk
       obtain ⟨h1,h2⟩:=key r hr k hk
       have:=hc.mv m hm _ h1 k hk h2
       have e:fv m ((r &&& b) ||| (k &&& ~~~b)) k = (r &&& (b &&& m.rhs)) ||| (k &&& ~~~(b &&& m.rhs)):=by
        apply ew
        intro i hi
        rw [mf hi,fb hi,fb hi,BitVec.getLsbD_and]
        cases hb2:b.getLsbD i <;> cases hl:m.lhs.getLsbD i <;> cases hr2:m.rhs.getLsbD i <;> simp
        have:=ez.1 s1 i hi hb2
        rw [hl] at this
        cases this
       rw [e] at this
       exact this
     · intro r hr k hk
       obtain ⟨h1,h2⟩:=key r hr k hk
       have:=hc.mv m hm k hk _ h1 (agc _ _ h2)
       have e:fv m k ((r &&& b) ||| (k &&& ~~~b)) = (r &&& (b &&& ~~~m.rhs)) ||| (k &&& ~~~(b &&& ~~~m.rhs)):=by
        apply ew
        intro i hi
        rw [mf hi,fb hi,fb hi,bh hi]
        cases hb2:b.getLsbD i <;> cases hl:m.lhs.getLsbD i <;> cases hr2:m.rhs.getLsbD i <;> simp
        have:=ez.1 s1 i hi hb2
        rw [hl] at this
        cases this
       rw [e] at this
       exact this
   ·
    have hba:b.getLsbD a = true:=by
     obtain ⟨i,hi,h1,h2⟩:=qe s2
     rw [d4 hal hi] at h2
     have:i = a:=by simpa using h2
     rw [← this];exact h1
    have hno:∀ r ∈ T,∀ k ∈ T,r.getLsbD a = k.getLsbD a:=fun r hr k hk=>by
     obtain ⟨h1,h2⟩:=key r hr k hk
     have h3:=al9 (hc.fd f hf _ h1 k hk (by
      rw [mr] at h2 ⊢
      exact h2)) hal hfa
     rw [fb hal,hba] at h3
     simpa using h3
    have hza:∀ r ∈ T,r.getLsbD a = false:=fun r hr=>by rw [hno r hr 0 hT.z];simp
    constructor
    · intro r hr k hk
      have e:(r &&& (b &&& eu a)) ||| (k &&& ~~~(b &&& eu a)) = k:=by
       apply ew
       intro i hi
       rw [fb hi,BitVec.getLsbD_and,d4 hal hi]
       by_cases h:i = a
       · subst h;simp [hza r hr,hza k hk]
       · simp [h]
      show (r &&& (b &&& eu a)) ||| (k &&& ~~~(b &&& eu a)) ∈ T
      rw [e]
      exact hk
    · intro r hr k hk
      have e:(r &&& (b &&& ~~~eu a)) ||| (k &&& ~~~(b &&& ~~~eu a)) = (r &&& b) ||| (k &&& ~~~b):=by
       apply ew
       intro i hi
       rw [fb hi,fb hi,bh hi,d4 hal hi]
       by_cases h:i = a
       · subst h;simp [hza r hr,hza k hk]
       · simp [h]
      show (r &&& (b &&& ~~~eu a)) ||| (k &&& ~~~(b &&& ~~~eu a)) ∈ T
      rw [e]
      exact hb r hr k hk
structure ak4 (fs ms:List Fd) (bs:List AS) (rest:AS) (T:List AS):Prop where
 j:JT fs bs rest T
 c:a52 fs ms T
theorem ahc (h:ak4 fs ms bs rest T) (hbk:Blk (ep fs ms) rest bs) {L:AS} (hL:L ∈ T) (hm:∀ r ∈ T,sub r L) {a:Nat} (hal:a < 32):a0z fs bs a → L.getLsbD a = false:=by
 rintro ⟨h1,f,hf,h2,h3⟩
 have hg:=a58 h.j h.c hbk _ h1 L hL 0 h.j.z
 have h4:=h.c.fd f hf _ hg 0 h.j.z (mr.2 fun i hi hl=>by
  rw [fb hi,d4 hal hi]
  by_cases e:i = a
  · subst e;rw [h3] at hl;cases hl
  · simp [e])
 have h5:=al9 h4 hal h2
 rw [fb hal,d4 hal hal] at h5
 simpa using h5
def qB (T:List AS) (L x rest y:AS):Prop:=y ≠ 0 ∧ sub y rest ∧ (L &&& ~~~(x ||| y)) ∈ T
theorem aev (h:ak4 fs ms bs rest T) (hbk:Blk (ep fs ms) rest bs) {L x:AS} (hL:L ∈ T) (hm:∀ r ∈ T,sub r L) (hx:rest &&& x = 0) (b:AS) :
 b ∈ bs ↔ qB T L x rest b ∧ ∀ y,qB T L x rest y → sub y b → y = b:=by
 have hLr:=(h.j.r L hL).1
 have hLx:∀ y:AS,L &&& ~~~(x ||| y) = L &&& ~~~y:=fun y=>by
  apply ew
  intro i hi
  rw [bh hi,bh hi,BitVec.getLsbD_or]
  cases hl:L.getLsbD i with
  | false=>rfl
  | true=>rw [ez.1 hx i hi (ar.1 hLr i hi hl)];simp
 have hA:∀ b ∈ bs,qB T L x rest b:=fun b hb=>by
  refine ⟨hbk.nz b hb,hbk.sub hb, ?_⟩
  rw [hLx]
  have:=a58 h.j h.c hbk b hb 0 h.j.z L hL
  have e:((0:AS) &&& b) ||| (L &&& ~~~b) = L &&& ~~~b:=by simp
  rw [e] at this
  exact this
 have hB:∀ y,qB T L x rest y → ∃ b ∈ bs,sub b y:=fun y ⟨y1,y2,y3⟩=>by
  obtain ⟨a,hal,hya⟩:=a7o y1
  obtain ⟨b,hb,hba⟩:=hbk.cov (ar.1 y2 a hal hya)
  by_cases hs:sub b y
  · exact ⟨b,hb,hs⟩
  · exfalso
    obtain ⟨c,hcl,hbc,hyc⟩:=qe hs
    have hyc:y.getLsbD c = false:=by simpa [hcl] using hyc
    rw [hLx] at y3
    have h1:=s7 ((h.j.r _ y3).2 b hb) hcl hba hbc
    rw [bh hal,bh hcl,hya,hyc] at h1
    have hLc:L.getLsbD c = false:=by simpa using h1.symm
    obtain ⟨L2,m1,m2,m3⟩:=h.j.top
    have e:L2 = L:=dw (hm L2 m1) (m2 L hL)
    subst e
    have hd:=(m3 c hcl (ar.1 (hbk.sub hb) c hcl hbc) hLc).1
    have he:=hbk.one hb hd hbc (by rw [d4 hcl hcl];simp)
    rw [he,d4 hcl hal] at hba
    have:a = c:=by simpa using hba
    rw [this,hyc] at hya
    cases hya
 constructor
 · intro hb
   refine ⟨hA b hb,fun y hy hyb=>?_⟩
   obtain ⟨b',hb',hs⟩:=hB y hy
   obtain ⟨a,hal,hba⟩:=a7o (hbk.nz b' hb')
   have hya:=ar.1 hs a hal hba
   have e:=hbk.one hb' hb hba (ar.1 hyb a hal hya)
   subst e
   exact dw hyb hs
 · rintro ⟨hq,hmin⟩
   obtain ⟨b',hb',hs⟩:=hB b hq
   have:=hmin b' (hA b' hb') hs
   rw [← this]
   exact hb'
end
end Go.Hx
end
section
namespace Go.Hx
def ib:List AS → Nat
 | []=>0
 | b :: l=>b.toNat + ib l
theorem a07:∀ (l k:List AS),ib (l ++ k) = ib l + ib k
 | [],k=>by simp [ib]
 | b :: l,k=>by simp [ib,a07 l k];omega
def OkB (l:List AS):Prop:=ib l < 4294967296 ∧ ∀ b ∈ l,b ≠ 0
theorem a2j {l:List AS} (h:OkB l):l.length ≤ 4294967296:=by
 have:∀ l:List AS,(∀ b ∈ l,b ≠ 0) → l.length ≤ ib l:=by
  intro l
  induction l with
  | nil=>intro _;simp [ib]
  | cons b l ih =>
   intro h
   have h1:=ih fun x hx=>h x (by simp [hx])
   have h2:=vi (h b (by simp))
   simp only [List.length_cons,ib]
   omega
 have h1:=this l h.2
 have:=h.1
 omega
theorem apz (m:Fd) (l:List AS):ib (rdB m l) = ib l:=by
 have:∀ l:List AS,ib (l.map (hdB m)) + ib (l.flatMap (tlB m)) = ib l:=by
  intro l
  induction l with
  | nil=>rfl
  | cons b l ih =>
   rw [List.map_cons,List.flatMap_cons,a07]
   simp only [ib]
   by_cases h:c4 m b = true
   · have:=zb b m.rhs
     simp only [hdB,tlB,h,if_true,ib]
     omega
   · rw [Bool.not_eq_true] at h
     simp only [hdB,tlB,h,ib,Bool.false_eq_true,if_false]
     omega
 unfold rdB
 rw [a07]
 exact this l
theorem adw {m:Fd} {l:List AS} (h:OkB l):OkB (rdB m l):=by
 refine ⟨by rw [apz];exact h.1,fun b hb=>?_⟩
 unfold rdB at hb
 rcases List.mem_append.1 hb with hb | hb
 · obtain ⟨b0,h0,rfl⟩:=List.mem_map.1 hb
   unfold hdB
   split
   · rename_i hs;exact (ks.1 hs).2.1
   · exact h.2 _ h0
 · obtain ⟨b0,h0,hb⟩:=List.mem_flatMap.1 hb
   unfold tlB at hb
   split at hb
   · rename_i hs
     simp at hb
     subst hb
     exact (ks.1 hs).2.2
   · cases hb
theorem a44 (rest:AS):OkB (fe rest):=by
 unfold fe
 split
 · exact ⟨by simp [ib],fun _ h=>by cases h⟩
 · rename_i h
   exact ⟨by simp only [ib];have:=rest.isLt;omega,fun b hb=>by simp at hb;subst hb;exact h⟩
theorem xr {rest:AS} (h:¬ rest = 0):fe rest = [] ++ [rest]:=by rw [fe,if_neg h];rfl
theorem yc {rest:AS} (h:rest = 0):fe rest = []:=by rw [fe,if_pos h]
theorem a0i (m:Fd) (l:List AS):stB m l 0 = l:=by simp [stB]
theorem se (m:Fd) (l:List AS):stB m l l.length = rdB m l:=by simp [stB,rdB]
theorem lm (m:Fd) (l:List AS) (i:Nat):((l.take i).map (hdB m)).length = min i l.length:=by simp
theorem amv {m:Fd} {l:List AS} {i:Nat} (h:i < l.length):(stB m l i).getD i default = l.getD i default:=by
 have e:((l.take i).map (hdB m)).length = i:=by rw [lm];omega
 unfold stB
 rw [List.append_assoc,List.getD_eq_getElem?_getD,List.getElem?_append_right (by rw [e];omega),e,Nat.sub_self,List.getElem?_append_left (by rw [List.length_drop];omega),List.getElem?_drop,Nat.add_zero,← List.getD_eq_getElem?_getD]
theorem stB_get' {m:Fd} {l:List AS} {i a:Nat} (hia:i ≤ a) (h:a < l.length):(stB m l i).getD a default = l.getD a default:=by
 have e:((l.take i).map (hdB m)).length = i:=by rw [lm];omega
 unfold stB
 rw [List.append_assoc,List.getD_eq_getElem?_getD,List.getElem?_append_right (by rw [e];omega),e,List.getElem?_append_left (by rw [List.length_drop];omega),List.getElem?_drop,show i + (a - i) = a by omega,← List.getD_eq_getElem?_getD]
theorem a9w (m:Fd) (l:List AS) (i:Nat):l.length ≤ (stB m l i).length:=by
 unfold stB
 rw [List.length_append,List.length_append,lm,List.length_drop]
 omega
theorem a4i {l:List AS} {i:Nat} (h:i < l.length):l.drop i = l.getD i default :: l.drop (i + 1):=by
 rw [List.drop_eq_getElem_cons h]
 congr 1
 simp [List.getD_eq_getElem?_getD,List.getElem?_eq_getElem h]
theorem j9 {m:Fd} {l:List AS} {i:Nat} (h:i < l.length) (hs:c4 m (l.getD i default) = false):stB m l (i + 1) = stB m l i:=by
 unfold stB
 rw [b8 h,List.map_append,List.flatMap_append,a4i h]
 simp only [List.map_cons,List.map_nil,List.flatMap_cons,List.flatMap_nil,hdB,tlB,hs,Bool.false_eq_true,if_false,List.append_nil,List.append_assoc,List.cons_append,List.nil_append]
theorem a51 {m:Fd} {l:List AS} {i:Nat} (h:i < l.length) (hs:c4 m (l.getD i default) = true):stB m l (i + 1) = (stB m l i).set i (l.getD i default &&& m.rhs) ++ [l.getD i default &&& ~~~m.rhs]:=by
 have e:((l.take i).map (hdB m)).length = i:=by rw [lm];omega
 unfold stB
 rw [b8 h,List.map_append,List.flatMap_append,a4i h]
 simp only [List.map_cons,List.map_nil,List.flatMap_cons,List.flatMap_nil,hdB,tlB,hs,if_true,List.append_nil]
 generalize hA:(l.take i).map (hdB m) = A at e ⊢
 generalize (l.take i).flatMap (tlB m) = B
 generalize l.drop (i + 1) = D
 subst e
 rw [List.append_assoc A,List.append_assoc A,List.append_assoc A,List.set_append_right _ _ (Nat.le_refl _),Nat.sub_self,List.append_assoc A]
 simp
theorem aoz (m:Fd) (l:List AS):∀ i,(stB m l i).length ≤ (rdB m l).length:=by
 intro i
 by_cases hi:i < l.length
 · have:∀ k,i + k ≤ l.length → (stB m l i).length ≤ (stB m l (i + k)).length:=by
    intro k
    induction k with
    | zero=>intro _;exact Nat.le_refl _
    | succ k ih =>
     intro hk
     have h1:=ih (by omega)
     refine Nat.le_trans h1 ?_
     cases hs:c4 m (l.getD (i + k) default)
     · rw [show i + (k + 1) = i + k + 1 by omega,j9 (by omega) hs];exact Nat.le_refl _
     · rw [show i + (k + 1) = i + k + 1 by omega,a51 (by omega) hs,List.length_append,List.length_set];omega
   have h2:=this (l.length - i) (by omega)
   rw [show i + (l.length - i) = l.length by omega,se] at h2
   exact h2
 · unfold stB rdB
   rw [List.take_of_length_le (by omega),List.drop_eq_nil_of_le (by omega)]
   simp
def vj (l:List AS) (i:Nat):Nat → Nat → PV:=fun k c=>if k < i then .any else sC (l.getD k default) c
theorem am5 (l:List AS) (i:Nat):vj l i i 0 = asC (l.getD i default):=by
 unfold vj
 rw [if_neg (Nat.lt_irrefl i)]
theorem xx {l:List AS} {i:Nat} {cl:Bool} {n:Nat} (hn:n = l.length):CoP (.sl n 1 cl (vj l i)) (.sl l.length 1 false (vj l (i + 1))):=by
 subst hn
 refine CoP.sl rfl (.inl rfl) (fun h=>by cases h) fun k c hk hc=>?_
 unfold vj
 by_cases h1:k < i
 · rw [if_pos h1,if_pos (show k < i + 1 by omega)];exact CoP.refl _
 · rw [if_neg h1]
   by_cases h2:k < i + 1
   · rw [if_pos h2];exact CoP.any_of
   · rw [if_neg h2];exact CoP.refl _
theorem a6p {m:Fd} {L:List AS} {i k:Nat} {v:PV} (hil:i < L.length) (hk:k = i:=by rfl):CoP (.sl L.length 1 false (f0 (lf sC (stB m L i)) k 0 [v])) (.sl L.length 1 false (vj L (i + 1))):=by
 subst hk
 refine CoP.sl rfl (.inl rfl) (fun h=>h) fun a c ha hc=>?_
 obtain rfl:c = 0:=by omega
 unfold vj
 by_cases h:a < k + 1
 · rw [if_pos h];exact CoP.any_of
 · rw [if_neg h]
   unfold f0 lf
   rw [if_neg (by omega),stB_get' (by omega) ha]
   exact CoP.refl _
theorem acb {A B:List AS} {a:Nat} (h:a < A.length):(A ++ B).getD a default = A.getD a default:=by simp [List.getD_eq_getElem?_getD,List.getElem?_append_left h]
theorem adc {A:List AS} {x:AS}:(A ++ [x]).getD A.length default = x:=by simp [List.getD_eq_getElem?_getD]
theorem nf {wr wr':Bool} {e:TypeId} {m:Fd} {L:List AS} {i k:Nat} {u:Int} {g:Nat → Nat → PV} (hil:i < L.length) (hs:c4 m (L.getD i default) = true) (hk:k = i) (hu:u = asI (L.getD i default &&& m.rhs)) (hg:CoP (g 0 0) (asC (L.getD i default &&& ~~~m.rhs))) (hw:wr' = true → wr = true:=by exact fun h=>h) :
 CoO (.arr wr 1 e ((stB m L i).length + 1) (er (stB m L i).length (f0 (lf sC (stB m L i)) k 0 [.raw (.int .u32 u)]) g)) (.arr wr' 1 e (stB m L (i + 1)).length (lf sC (stB m L (i + 1)))):=by
 subst hk hu
 have hl:=a9w m L k
 rw [a51 hil hs]
 refine ⟨hw,rfl,rfl,by rw [List.length_append,List.length_set];rfl,fun a j ha hj=>?_⟩
 obtain rfl:j = 0:=by omega
 unfold er
 generalize L.getD k default &&& m.rhs = X
 generalize L.getD k default &&& ~~~m.rhs = Y at hg ⊢
 generalize stB m L k = A at hl ha ⊢
 by_cases h:a < A.length
 · rw [if_pos h]
   refine CoP.of_eq ?_
   show f0 (lf sC A) k 0 [.raw (.int .u32 (asI X))] a 0 = sC ((A.set k X ++ [Y]).getD a default) 0
   rw [acb (by rw [List.length_set];exact h)]
   unfold f0 lf
   by_cases h2:a = k
   · subst h2
     rw [if_pos ⟨rfl,Nat.le_refl _,by simp⟩,jz h]
     rfl
   · rw [if_neg (by omega),getD_set_ne' h2]
 · obtain rfl:a = A.length:=by omega
   rw [if_neg h,Nat.sub_self]
   show CoP (g 0 0) (sC ((A.set k X ++ [Y]).getD A.length default) 0)
   have:=adc (A:=A.set k X) (x:=Y)
   rw [List.length_set] at this
   rw [this]
   exact hg
theorem ul {ms:List Fd} {l:List AS} {j:Nat} (h:j < ms.length):bf (ms.take (j + 1)) l = rdB (ms.getD j default) (bf (ms.take j) l):=by
 unfold bf
 rw [b8 h,List.foldl_append]
 rfl
theorem a94:∀ (ms:List Fd) (m:Fd) (l:List AS),gp (ms ++ [m]) l = (gp ms l || (bf ms l).any (c4 m))
 | [],m,l=>by simp [gp,bf]
 | k :: ms,m,l=>by
  simp only [List.cons_append,gp]
  rw [a94 ms m (rdB k l),Bool.or_assoc]
  rfl
theorem a6i {ms:List Fd} {l:List AS} {j:Nat} (h:j < ms.length):gp (ms.take (j + 1)) l = (gp (ms.take j) l || (bf (ms.take j) l).any (c4 (ms.getD j default))):=by
 rw [b8 h,a94]
theorem ym {l:List AS} (h:OkB l):∀ {ms:List Fd},OkB (bf ms l):=by
 intro ms
 induction ms generalizing l with
 | nil=>exact h
 | cons m ms ih=>exact ih (adw h)
structure BkI (ms:List Fd) (R:List AS) (x:Nat × List AS × Bool):Prop where
 ok:OkB x.2.1
 t:x.2.2 = true → nu ms x.1 x.2.1 = R ∧ muB x.2.1 < x.1
 f:x.2.2 = false → x.2.1 = R
theorem ajb (ms:List Fd) (rest:AS):BkI ms (blks ms rest) (18446744073709551616,fe rest,true):=⟨a44 rest,fun _=>⟨rfl,a4n rest⟩,fun h=>by cases h⟩
theorem alr {ms:List Fd} {R l:List AS} {f:Nat} (h:BkI ms R (f,l,true)):BkI ms R (f - 1,bf ms l,gp ms l) ∧ 0 < f:=by
 obtain ⟨h1,h2⟩:=h.t rfl
 have h2:muB l < f:=h2
 obtain ⟨g,rfl⟩:∃ g,f = g + 1:=⟨f - 1,by omega⟩
 have h3:=a2v ms l
 refine ⟨⟨ym h.ok,fun hc=>?_,fun hc=>?_⟩,by omega⟩
 · have hc:gp ms l = true:=hc
   have h1:nu ms (g + 1) l = R:=h1
   unfold nu at h1
   rw [if_pos hc] at h1 h3
   exact ⟨h1,by show muB (bf ms l) < g;omega⟩
 · have hc:gp ms l = false:=hc
   have h1:nu ms (g + 1) l = R:=h1
   unfold nu at h1
   rw [hc] at h1
   exact h1
def ckB (n:Int) (l m:List Fd) (s:AS):Int:=if ec n l m = 0 then (if s >>> n.toNat = 0 then 0 else 1) else ec n l m
theorem aks {n:Int} {l m:List Fd} {s:AS} (h:¬ ec n l m = 0):ckB n l m s = ec n l m:=if_neg h
theorem alp {n:Int} {l m:List Fd} {s:AS} (h:ec n l m = 0) (h2:¬ s >>> n.toNat = 0):ckB n l m s = 1:=by unfold ckB;rw [if_pos h,if_neg h2]
theorem yd {n:Int} {l m:List Fd} {s:AS} (h:ec n l m = 0) (h2:s >>> n.toNat = 0):ckB n l m s = 0:=by unfold ckB;rw [if_pos h,if_pos h2]
theorem sn {n:Int} {l m:List Fd} {s:AS} (h:ckB n l m s = 0):ec n l m = 0 ∧ s >>> n.toNat = 0:=by
 unfold ckB at h
 split at h
 · split at h
   · exact ⟨by assumption,by assumption⟩
   · cases h
 · exact absurd h (by assumption)
theorem a9x (f:Fd):(sgl f).length ≤ 32:=by unfold sgl;rw [List.length_map];exact a7e _
def gh (fs ms:List Fd) (i k:Nat):List Fd:=ms ++ (fs.take i).flatMap sgl ++ (sgl (fs.getD i default)).take k
theorem a4e (fs ms:List Fd):gh fs ms 0 0 = ms:=by simp [gh]
theorem afu {fs ms:List Fd} {i:Nat} (h:i < fs.length):gh fs ms (i + 1) 0 = gh fs ms i (sgl (fs.getD i default)).length:=by
 unfold gh
 rw [b8 h,List.flatMap_append,List.take_length]
 simp
theorem ahi (fs ms:List Fd):gh fs ms fs.length 0 = ep fs ms:=by simp [gh,ep]
theorem aei {fs ms:List Fd} {i k:Nat} (h:k < (sgl (fs.getD i default)).length):gh fs ms i (k + 1) = gh fs ms i k ++ [(sgl (fs.getD i default)).getD k default]:=by
 unfold gh
 rw [b8 h,← List.append_assoc]
theorem ai9 {fs ms:List Fd} {i k:Nat}:(gh fs ms i k).length ≤ ms.length + 32 * (i + 1):=by
 have:∀ l:List Fd,(l.flatMap sgl).length ≤ 32 * l.length:=by
  intro l
  induction l with
  | nil=>simp
  | cons f l ih =>
   rw [List.flatMap_cons,List.length_append,List.length_cons]
   have:=a9x f
   omega
 have h1:=this (fs.take i)
 have h2:=a9x (fs.getD i default)
 unfold gh
 rw [List.length_append,List.length_append,List.length_take]
 rw [List.length_take] at h1
 omega
end Go.Hx
end
section
namespace Go.Hx
open Go.RowKit
section
variable {ro:Option Nat} {P:Program} {nt:Nat} {st:HSt} {Q:Exit → HSt → Prop}
theorem mb {w0:World} {cc:Ctx} {a:Act} {w:World} (hrr:aj w0 nt cc st.den a w) {d:Nat} {x:HR} (hx:ap cc st.den.o x (a.tmps.getD d undef)):aj w0 nt cc (HSt.den ⟨(d,some x) :: st.t,st.o⟩) a w:=by
 refine ⟨hrr.defers,hrr.size,hrr.below,fun k y hy=>?_,hrr.objs,hrr.inj,hrr.imm,hrr.sep,hrr.was,hrr.frm,hrr.fsep,hrr.fixed⟩
 simp only [HSt.den] at hy
 rw [be] at hy
 dsimp only at hy
 split at hy
 · rename_i hk
   subst hk
   simp only [Option.some.injEq] at hy
   subst hy
   exact hx
 · exact hrr.tmps k y hy
theorem ajl {c:Code} (d:Nat) {id n n' s:Nat} {wr:Bool} {e:TypeId} {f:Nat → Nat → PV} (hd:bc st.t d = some (.v (.one (.ref id n)))) (ho:bc st.o id = some (.arr wr s e n' f)) (hn:n' = n)
 (h:HW (ro:=ro) P nt c ⟨(d,some (.v (.one (.win id n 0 n)))) :: st.t,st.o⟩ Q):HW (ro:=ro) P nt c st Q:=by
 subst hn
 refine td st d _ (fun w0 m0 a w hr=>?_) h
 obtain ⟨cc,hold,hrr⟩:=hr
 refine ⟨cc,hold,hrr, ?_⟩
 have hu:b4 cc st.den.o (.ref id n') (a.tmps.getD d undef):=hrr.tmps d _ hd
 refine ⟨hu.1,hu.2.1,fun ob s2 e2 n2 ho2 hd2=>⟨(hu.2.2 _ _ _ _ ho2 hd2).1,fun hk=>?_⟩⟩
 have he:=(hu.2.2 _ _ _ _ ho2 hd2).2 hk
 obtain rfl:ob = .arr wr s e n' f:=Option.some.inj (ho2.symm.trans ho)
 simp only [ab.dim,Option.some.injEq,Prod.mk.injEq] at hd2
 obtain ⟨rfl,rfl,rfl⟩:=hd2
 obtain ⟨ad,cap,hv,hc1,hc2⟩:=ol (hrr.objs _ _ ho2)
 exact ⟨ad,ad,cap,hv,by rw [he,hv];rfl,by omega,hc1,hc2,fun _=>by cases ad <;> simp [j1]⟩
theorem amr {c:Code} (d dh:Nat) {id n n' n0 k s:Nat} {e:TypeId} {f:Nat → Nat → PV} (hd:bc st.t d = some (.v (.one (.ref id n)))) (hh:bc st.t dh = some (.v (.one (.win id k 0 n0)))) (ho:bc st.o id = some (.arr true s e n' f)) (hn:n' = n) (hk:k = n) (hne:Nat.beq d dh = false)
 (hA:∀ ad cap,n + 1 ≤ cap → HW (ro:=ro) P nt c ⟨(d,some (.v (.one (.pin id n ad cap)))) :: (dh,some (bd (.raw (.slice ad n0 cap)))) :: st.t,st.o⟩ Q)
 (hB:HW (ro:=ro) P nt c ⟨(d,some (bd (.sl n s true f))) :: (dh,some (bd (.sl n0 s false f))) :: st.t,(id,none) :: st.o⟩ Q):HW (ro:=ro) P nt c st Q:=by
 subst hn hk
 intro w0 m0 a w hr
 obtain ⟨cc,hold,hrr⟩:=hr
 have hu:b4 cc st.den.o (.ref id k) (a.tmps.getD d undef):=hrr.tmps d _ hd
 have hv:b4 cc st.den.o (.win id k 0 n0) (a.tmps.getD dh undef):=hrr.tmps dh _ hh
 obtain ⟨ad,ad',cap,q1,q2,q3,q4,q5,q6⟩:=oi hv ho rfl
 have hu1:=(hu.2.2 _ _ _ _ ho rfl).2 rfl
 by_cases hc:k + 1 ≤ cap
 · obtain rfl:ad' = ad:=by
    rw [q6 (by omega)]
    cases ad <;> simp [j1]
   refine hA ad' cap hc w0 m0 a w ⟨cc,hold, ?_⟩
   have h1:aj w0 nt cc (HSt.den ⟨(dh,some (bd (.raw (.slice ad' n0 cap)))) :: st.t,st.o⟩) a w:=mb hrr ⟨by simpa using q2,rfl⟩
   refine mb (st:=⟨(dh,some (bd (.raw (.slice ad' n0 cap)))) :: st.t,st.o⟩) h1 ⟨hu1.trans q1,hu.2.1,hu.2.2⟩
 · obtain rfl:cap = k:=by omega
   have hfr:=hrr.freeze (id:=id) ho
   rw [← ov] at hfr
   refine hB w0 m0 a w ⟨{ old:=cc.old,imm:=frozenImm cc w id,tab:=od hrr ho,own:=cc.own,blk:=cc.blk,rows:=cc.rows },hold, ?_⟩
   have hfa:=jr hrr ho
   have h1:=mb (st:=⟨st.t,(id,none) :: st.o⟩) (d:=dh) (x:=bd (.sl n0 s false fun a b=>f (0 + a) b)) hfr (abj hrr ho hv)
   have e0:(fun a b=>f (0 + a) b) = f:=by funext a b;rw [Nat.zero_add]
   rw [e0] at h1
   refine mb (st:=⟨(dh,some (bd (.sl n0 s false f))) :: st.t,(id,none) :: st.o⟩) h1 ?_
   rw [hu1]
   obtain ⟨A,C,r1,r2,r3,r4,r5⟩:=hfa
   refine ⟨A,C,r1,r2,r3,fun _=>?_,r5⟩
   rw [q1] at r1
   simp only [Value.slice.injEq,true_and] at r1
   exact r1.2.symm
theorem ag8 {c:Code} (d dh:Nat) {id n n' n0 s cap:Nat} {ad:Option Addr} {e:TypeId} {f:Nat → Nat → PV} (hd:bc st.t d = some (.v (.one (.pin id n ad cap)))) (hh:bc st.t dh = some (bd (.raw (.slice ad n0 cap)))) (ho:bc st.o id = some (.arr true s e n' f)) (hn:n' = n) (hle:n0 ≤ n) (hne:Nat.beq d dh = false)
 (h:HW (ro:=ro) P nt c ⟨(d,some (.v (.one (.ref id n)))) :: (dh,some (.v (.one (.win id n 0 n0)))) :: st.t,st.o⟩ Q):HW (ro:=ro) P nt c st Q:=by
 subst hn
 intro w0 m0 a w hr
 obtain ⟨cc,hold,hrr⟩:=hr
 have hu:b4 cc st.den.o (.pin id n' ad cap) (a.tmps.getD d undef):=hrr.tmps d _ hd
 have hv:b4 cc st.den.o (.p (.raw (.slice ad n0 cap))) (a.tmps.getD dh undef):=hrr.tmps dh _ hh
 obtain ⟨hv1,_⟩:=hv
 have hu1:=(hu.2.2 _ _ _ _ ho rfl).2 rfl
 refine h w0 m0 a w ⟨cc,hold, ?_⟩
 have h1:aj w0 nt cc (HSt.den ⟨(dh,some (.v (.one (.win id n' 0 n0)))) :: st.t,st.o⟩) a w:=by
  refine mb hrr ⟨by rw [hv1];rfl,hu.2.1,fun ob s2 e2 n2 ho2 hd2=>⟨(hu.2.2 _ _ _ _ ho2 hd2).1,fun hk=>?_⟩⟩
  obtain rfl:ob = .arr true s e n' f:=Option.some.inj (ho2.symm.trans ho)
  simp only [ab.dim,Option.some.injEq,Prod.mk.injEq] at hd2
  obtain ⟨rfl,rfl,rfl⟩:=hd2
  obtain ⟨ad2,cap2,g1,g2,g3⟩:=ol (hrr.objs _ _ ho2)
  have hown:cc.own id = .slice ad n' cap:=hu1.symm.trans hu.1
  rw [hown] at g1
  simp only [Value.slice.injEq,true_and] at g1
  obtain ⟨rfl,rfl⟩:=g1
  exact ⟨ad,ad,cap,hown,hv1,by omega,g2,g3,fun _=>by cases ad <;> simp [j1]⟩
 exact mb (st:=⟨(dh,some (.v (.one (.win id n' 0 n0)))) :: st.t,st.o⟩) h1 ⟨by rw [hu.1];rfl,hu.2.1,hu.2.2⟩
end
end Go.Hx
end
