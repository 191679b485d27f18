/- A part of the proof: Ms1 Ms2. -/
import Derived.Test.YtaegkccfbmekbaaGreatPx17
import Derived.Test.YtaegkccfbmekbaaGreatPx22
import Derived.Test.YtaegkccfbmekbaaGreatPx23
import Derived.Test.YtaegkccfbmekbaaGreatPx24
set_option linter.all false
section
namespace Go.Hx
theorem wfA (s:AS):(Lit.int .u32 (asI s)).wf = true:=by
 have h1:=x7 s
 have h2:=a11 s
 have e1:IntKind.min .u32 = 0:=by decide
 have e2:IntKind.max .u32 = 4294967295:=by decide
 simp only [Lit.wf,e1,e2,Bool.and_eq_true,decide_eq_true_eq]
 omega
abbrev nI (k:Int):PV:=.raw (.int .i64 k)
def mpF (c:AS → Int):MK → Option PV
 | .i .u32 z=>if 0 ≤ z ∧ z < 4294967296 ∧ c (BitVec.ofNat 32 z.toNat) ≠ 0 then some (nI (c (BitVec.ofNat 32 z.toNat))) else none
 | _=>none
abbrev mkA (s:AS):MK:=.i .u32 (asI s)
theorem okA (s:AS):MK.ok (.int .u32) (mkA s):=⟨rfl,wfA s⟩
theorem ang (s:AS):BitVec.ofNat 32 (asI s).toNat = s:=by
 unfold asI
 rw [Int.toNat_natCast]
 exact (BitVec.ofNat_toNat 32 s).trans (BitVec.setWidth_eq s)
theorem a0o (c:AS → Int) (s:AS):mpF c (mkA s) = if c s ≠ 0 then some (nI (c s)) else none:=by
 have h1:=x7 s
 have h2:=a11 s
 simp only [mkA,mpF,ang]
 by_cases h:c s ≠ 0
 · rw [if_pos ⟨h1,by omega,h⟩,if_pos h]
 · rw [if_neg (fun e=>h e.2.2),if_neg h]
theorem afe {f:MK → Option PV} {m:MK} {y:PV} (h:f m = some y) (z:Value):mq f m z = y:=by
 unfold mq;rw [h]
theorem aes {f:MK → Option PV} {m:MK} (h:f m = none) (z:Value):mq f m z = lj z:=by
 unfold mq;rw [h]
theorem aqr (c:AS → Int) (s:AS):mq (mpF c) (mkA s) (.int .i64 0) = nI (c s):=by
 have e:=a0o c s
 by_cases h:c s = 0
 · rw [if_neg (by simpa using h)] at e
   rw [aes e,h];rfl
 · rw [if_pos h] at e
   exact afe e _
theorem agi (f:MK → Option PV) (m:MK) (y:PV) (z:Value):mq (jj f m y) m z = y:=by
 unfold mq jj
 rw [MK.same_iff.2 rfl];rfl
theorem o3 {c:AS → Int} {m:MK} {y:PV} (h:mpF c m = some y):∃ s,m = mkA s ∧ c s ≠ 0 ∧ y = nI (c s):=by
 unfold mpF at h
 split at h
 · rename_i z
   split at h
   · rename_i hz
     cases h
     refine ⟨BitVec.ofNat 32 z.toNat, ?_,hz.2.2,rfl⟩
     have e:asI (BitVec.ofNat 32 z.toNat) = z:=by
      rw [iq (by omega)]
      omega
     show MK.i .u32 z = MK.i .u32 (asI _)
     rw [e]
   · cases h
 · cases h
theorem a7b {c:AS → Int} (key:MK) (y:PV) (h:mpF c key = some y):∃ v,y = .raw v:=by
 obtain ⟨s,_,_,rfl⟩:=o3 h
 exact ⟨_,rfl⟩
theorem a6i {c:AS → Int} {f:MK → Option PV} (h1:∀ s,f (mkA s) = if c s ≠ 0 then some (nI (c s)) else none) (h2:∀ m,(∀ s,m ≠ mkA s) → f m = none):f = mpF c:=by
 funext m
 by_cases h:∃ s,m = mkA s
 · obtain ⟨s,rfl⟩:=h
   rw [h1,a0o]
 · have hm:∀ s,m ≠ mkA s:=fun s e=>h ⟨s,e⟩
   rw [h2 m hm]
   cases hc:mpF c m with
   | none=>rfl
   | some y =>
    obtain ⟨s,e,_⟩:=o3 hc
    exact absurd e (hm s)
theorem a6a {a b:AS}:mkA a = mkA b ↔ a = b:=⟨fun h=>it.1 (MK.i.inj h).2,fun h=>h ▸ rfl⟩
theorem ac3 {a b:AS}:(mkA a).same (mkA b) = decide (a = b):=by
 rw [Bool.eq_iff_iff,MK.same_iff,decide_eq_true_iff,a6a]
theorem adw {x y:MK} (h:x ≠ y):x.same y = false:=by
 rw [Bool.eq_false_iff]
 exact fun e=>h (MK.same_iff.1 e)
theorem a72 {c:AS → Int} {x:AS} {v:Int} (hv:v ≠ 0):jj (mpF c) (mkA x) (nI v) = mpF (fun s=>if s = x then v else c s):=a6i (fun s=>by
 unfold jj
 rw [ac3]
 by_cases h:s = x
 · subst h
   simp [hv]
 · simp [h,a0o]) (fun m hm=>by
 unfold jj
 rw [adw (hm x)]
 show mpF c m = none
 cases hc:mpF c m with
 | none=>rfl
 | some y =>
  obtain ⟨s,e,_⟩:=o3 hc
  exact absurd e (hm s))
theorem a61 {c:AS → Int} {x:AS} {v:Int} (hv:v = 0):vi (jj (mpF c) (mkA x) (nI v)) (mkA x) = mpF (fun s=>if s = x then v else c s):=a6i (fun s=>by
 unfold vi jj
 rw [ac3]
 by_cases h:s = x
 · subst h
   simp [hv]
 · simp [h,a0o]) (fun m hm=>by
 unfold vi jj
 rw [adw (hm x)]
 show mpF c m = none
 cases hc:mpF c m with
 | none=>rfl
 | some y =>
  obtain ⟨s,e,_⟩:=o3 hc
  exact absurd e (hm s))
theorem qk {n:Nat} {f f':MK → Option PV} (h:f = f'):CoO (.mp (.int .u32) n f) (.mp (.int .u32) n f'):=⟨rfl,Nat.le_refl _,fun m=>CoM.of_eq (congrFun h m)⟩
theorem apa {l:List Row} {r:Row} {y:Int} {c:AS → Int} (hy:y = 1 ∨ y = -1) (s:AS):c s - l.length ≤ f5 l r y c s ∧ f5 l r y c s ≤ c s + l.length:=by
 unfold f5
 have h1:(((l.filter fun x=>decide (x.id ≠ r.id)).map fun x=>agR x r).count s) ≤ l.length :=
  Nat.le_trans List.count_le_length (by rw [List.length_map];exact List.length_filter_le _ _)
 rcases hy with rfl | rfl <;> omega
theorem xm {l:List Row} {i:Nat} {r:Row} {y:Int} {c:AS → Int} (hi:i < l.length) (h:¬ (l.getD i default).id = r.id) :
 (fun s=>if s = agR (l.getD i default) r then f5 (l.take i) r y c (agR (l.getD i default) r) + y else f5 (l.take i) r y c s) = f5 (l.take (i + 1)) r y c:=by
 rw [aho hi h]
 funext s
 by_cases e:s = agR (l.getD i default) r
 · rw [if_pos e,if_pos e,e]
 · rw [if_neg e,if_neg e]
structure MSt where
 t:Tbl
 c:AS → Int
 fds:List Fd
 add:List Fd
 rem:List Fd
abbrev ak6 (t:Tbl) (fds add rem:List Fd):ah:=.box [.p (t.c 0), .p (t.c 1), .p (t.c 2), .ref 901 0, .p (fdl fds), .p (fdl add), .p (fdl rem)]
abbrev ag2 (c:AS → Int):ah:=.mp (.int .u32) 4294967296 (mpF c)
abbrev MSt.objsAt (x:MSt) (b:Nat):List (Nat × ah):=[(b,ak6 x.t x.fds x.add x.rem),(901,ag2 x.c)]
abbrev MSt.objs (x:MSt):List (Nat × ah):=x.objsAt 1000
end Go.Hx
end
section
namespace Go.Hx
open Go.RowKit
theorem a91 {s:AS} {i:Nat} (h:i < 32):fl .and .u32 ((asI s).fdiv (2 ^ (min i 32))) 1 = 1 ↔ s.getLsbD i = true:=by
 have e:=a8y (s:=s) (i:=(i:Int)) (by omega) (by omega)
 rw [tj h,Int.toNat_natCast] at e
 rw [← e,decide_eq_true_iff]
theorem asx {s:AS} {i:Nat} (h:i < 32):fl .and .u32 ((asI s).fdiv (2 ^ (min i 32))) 1 = 0 ∨ fl .and .u32 ((asI s).fdiv (2 ^ (min i 32))) 1 = 1:=by
 rw [abh,show (1:Int) = asI 1 from rfl,a08]
 have e:s >>> i &&& 1 = 0 ∨ s >>> i &&& 1 = (1:AS):=by
  cases hb:(s >>> i).getLsbD 0 with
  | false =>
   refine .inl (BitVec.eq_of_getLsbD_eq fun k hk=>?_)
   rw [BitVec.getLsbD_and]
   rcases Nat.eq_zero_or_pos k with rfl | h0
   · rw [hb];simp
   · rw [show (1:AS).getLsbD k = false by rw [show (1:AS) = (1:AS) <<< 0 by simp,lc 0 k hk];simp;omega];simp
  | true =>
   refine .inr (BitVec.eq_of_getLsbD_eq fun k hk=>?_)
   rw [BitVec.getLsbD_and]
   rcases Nat.eq_zero_or_pos k with rfl | h0
   · rw [hb];simp
   · rw [show (1:AS).getLsbD k = false by rw [show (1:AS) = (1:AS) <<< 0 by simp,lc 0 k hk];simp;omega];simp
 rcases e with e | e <;> rw [e]
 · exact .inl rfl
 · exact .inr rfl
theorem aut {s:AS} {i:Nat} (h:i < 32) (e:fl .and .u32 ((asI s).fdiv (2 ^ (min i 32))) 1 = 0):s.getLsbD i = false:=by
 rw [Bool.eq_false_iff]
 intro hb
 rw [(a91 h).2 hb] at e
 omega
theorem aqw {s:AS} {i:Nat} (h:i < 32) (e:¬ fl .and .u32 ((asI s).fdiv (2 ^ (min i 32))) 1 = 0):s.getLsbD i = true:=(a91 h).1 ((asx h).resolve_left e)
theorem aru {s:AS} {i:Nat} (h:i < 32) (e:¬ fl .and .u32 ((asI s).fdiv (2 ^ (min i 32))) 1 = 1):s.getLsbD i = false:=by
 rw [Bool.eq_false_iff]
 exact fun hb=>e ((a91 h).2 hb)
theorem a7c {rows:List Row} {n clock:Nat} {es:Array MapEntry} {seen:Array Nat} {K:List AS} (hf:ExF (.int .u32) n (mpF (db rows)) es clock) (hv:Vis es seen (K.map mkA)) (h0:(leftOf es seen).size = 0) (k:AS):k ∈ K ↔ k ∈ prs rows:=by
 constructor
 · intro hk
   obtain ⟨v,hv2⟩:=anl hf hv (List.mem_map_of_mem (f:=mkA) hk)
   obtain ⟨s,e,hc,_⟩:=o3 hv2
   rw [a6a.1 e]
   exact abg.1 hc
 · intro hk
   have hm:=an8 hf hv h0 (key:=mkA k) (by rw [a0o,if_pos (abg.2 hk)])
   obtain ⟨x,hx,e⟩:=List.mem_map.1 hm
   rw [← a6a.1 e]
   exact hx
theorem tl {c:AS → Int} {n clock:Nat} {es:Array MapEntry} {seen:Array Nat} {K:List AS} {e:MapEntry} {k:AS} (hf:ExF (.int .u32) n (mpF c) es clock) (hv:Vis es seen (K.map mkA)) (he:e ∈ (leftOf es seen).toList) (hk:e.key = (mkA k).val):Vis es (seen.push e.born) ((K ++ [k]).map mkA):=by
 rw [List.map_append]
 exact (al2 hf hv he hk).2
theorem are {v:Value} {k:Int} (h:PV.raw v = nI k):v = .int .i64 k:=PV.raw.inj h
theorem age {K:List AS} {all x k:AS} (h:sub x k):mc (K ++ [k]) all x = mc K all x &&& k:=by rw [a7o,if_pos h]
theorem ah1 {K:List AS} {all x k:AS} (h:¬ sub x k):mc (K ++ [k]) all x = mc K all x:=by rw [a7o,if_neg h]
def fk (i a a':Nat):Nat:=if a' < a then i + 1 else i
theorem l4 (i a:Nat):fk i a a = i:=by unfold fk;rw [if_neg (by omega)]
abbrev a79 (ps:List AS) (n i a:Nat):Nat → Nat:=fun b=>(dn ps n b (fk i a b)).length
abbrev zn (ps:List AS) (n i a:Nat):Nat → Nat → Nat → PV:=fun b=>lf sC (dn ps n b (fk i a b))
abbrev nst (ps:List AS) (n i a:Nat):ah:=.nest 66 69 1 n (a79 ps n i a) (zn ps n i a) none
theorem aoy {ps:List AS} {n i a:Nat}:∀ b q j,b < n → q < a79 ps n i a b → j < 1 → ∃ v,zn ps n i a b q j = .raw v:=fun b q j _ _ hj=>by
 obtain rfl:j = 0:=by omega
 exact ⟨_,rfl⟩
theorem av0 {ps:List AS} {n:Nat} {g:Nat → Nat → Nat → PV}:CoO (.nest 66 69 1 n (fun _=>0) g none) (nst ps n 0 0):=by
 have e:∀ b,dn ps n b (fk 0 0 b) = []:=fun b=>by unfold fk;rw [if_neg (by omega)];rfl
 refine ⟨rfl,rfl,rfl,rfl,rfl,fun b hb=>?_,fun b r j _ hr _=>absurd hr (Nat.not_lt_zero r)⟩
 show (dn ps n b (fk 0 0 b)).length = 0
 rw [e];rfl
theorem at2 {ps:List AS} {n i a i2 a2:Nat} (h:∀ b,b < n → fk i a b = fk i2 a2 b):CoO (nst ps n i a) (nst ps n i2 a2) :=
 ⟨rfl,rfl,rfl,rfl,rfl,fun b hb=>by show (dn ps n b (fk i2 a2 b)).length = (dn ps n b (fk i a b)).length;rw [h b hb],fun b r j hb _ _=>CoP.of_eq (by show lf sC (dn ps n b (fk i a b)) r j = lf sC (dn ps n b (fk i2 a2 b)) r j;rw [h b hb])⟩
theorem anr (ps:List AS) (n i:Nat):CoO (nst ps n i n) (nst ps n (i + 1) 0):=at2 fun b hb=>by
 unfold fk;rw [if_pos hb,if_neg (by omega)]
theorem m8 {ps:List AS} {n i a kk:Nat} {ff:Nat → Nat → PV} (h:CoO (.arr true 1 69 kk ff) (.arr true 1 69 (dn ps n a (i + 1)).length (lf sC (dn ps n a (i + 1))))) :
 CoO (.nest 66 69 1 n (i4 (a79 ps n i a) a kk) (j6 (zn ps n i a) a ff) none) (nst ps n i (a + 1)):=by
 obtain ⟨_,_,_,hl,hc⟩:=h
 have e1:fk i (a + 1) a = i + 1:=by unfold fk;rw [if_pos (by omega)]
 have e2:∀ b,b ≠ a → fk i (a + 1) b = fk i a b:=fun b hb=>by
  unfold fk
  by_cases h1:b < a
  · rw [if_pos h1,if_pos (by omega)]
  · rw [if_neg h1,if_neg (by omega)]
 refine ⟨rfl,rfl,rfl,rfl,rfl,fun b hb=>?_,fun b r j hb hr hj=>?_⟩
 · show (dn ps n b (fk i (a + 1) b)).length = i4 (a79 ps n i a) a kk b
   by_cases h1:b = a
   · subst h1;rw [a18,e1,hl]
   · rw [a3b h1,e2 b h1]
 · show CoP (j6 (zn ps n i a) a ff b r j) (lf sC (dn ps n b (fk i (a + 1) b)) r j)
   have hr:r < i4 (a79 ps n i a) a kk b:=hr
   by_cases h1:b = a
   · subst h1
     rw [a18] at hr
     rw [e1,show j6 (zn ps n i b) b ff b = ff by simp [j6]]
     exact hc r j hr hj
   · have:Nat.beq b a = false:=by rw [Bool.eq_false_iff];exact fun hb=>h1 (Nat.eq_of_beq_eq_true hb)
     rw [e2 b h1,show j6 (zn ps n i a) a ff b = zn ps n i a b by simp [j6,this]]
     exact CoP.refl _
theorem act {ro:Option Nat} {P:Program} {nt:Nat} {co:Code} {st:HSt} {Q:Exit → HSt → Prop} {ps:List AS} {n i a:Nat} (ho:br st.o 900 = some (nst ps n i a)) (hr:a < n)
 (h:∀ hd B,a6d 69 1 n a (a79 ps n i a) (zn ps n i a) hd B → HW (ro:=ro) P nt co ⟨st.t,(907,some (.bun B)) :: (906,some (.arr true 1 69 (dn ps n a (fk i a a)).length (lf sC (dn ps n a (fk i a a))))) :: (900,some (.arrh 1 66 n [906] (hdF hd 906 a (dn ps n a (fk i a a)).length))) :: st.o⟩ Q)
 (h1:kw 906 st = true:=by exact rfl) (h2:kw 907 st = true:=by exact rfl):HW (ro:=ro) P nt co st Q :=
 akw 900 a 906 907 ho hr aoy (fun hd B hbf=>h hd B hbf) rfl h1 h2 rfl
theorem aux {ps:List AS} {n i a:Nat} (h:(mc ps (b7 n) ((d5 n).getD i default)).getLsbD a = false):nwB ps n i a = false:=by
 unfold nwB atA;rw [h];rfl
theorem au8 {ps:List AS} {n i a:Nat} (h:((d5 n).getD i default).getLsbD a = true):nwB ps n i a = false:=by
 unfold nwB atA;rw [h];simp
theorem am7 {ps:List AS} {n i a:Nat} {b:Bool} (h1:(mc ps (b7 n) ((d5 n).getD i default)).getLsbD a = true) (h2:((d5 n).getD i default).getLsbD a = false)
 (h3:((dn ps n a (fk i a a)).any fun y=>decide (sub y ((d5 n).getD i default))) = b):nwB ps n i a = !b:=by
 rw [l4] at h3
 unfold nwB atA;rw [h1,h2,h3];simp
theorem a5p {hd:Nat → Value} {id r k k2:Nat}:m7 (hdF hd id r k) r 0 [.ref id k2] r 0 = .ref id k2:=by simp [m7]
theorem a58 {hd:Nat → Value} {id r k k2 i:Nat} (h:i ≠ r):m7 (hdF hd id r k) r 0 [.ref id k2] i 0 = .p (.raw (hd i)):=by
 simp only [m7]
 rw [if_neg (fun e=>h e.1),uq h]
end Go.Hx
end
