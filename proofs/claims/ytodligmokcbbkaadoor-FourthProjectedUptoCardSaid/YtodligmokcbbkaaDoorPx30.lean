/- A part of the proof: Fq1 Jrw1 Jrw2 Sp5. -/
import Derived.Test.YtodligmokcbbkaaDoorPx16
import Derived.Test.YtodligmokcbbkaaDoorPx23
import Derived.Test.YtodligmokcbbkaaDoorPx24
import Derived.Test.YtodligmokcbbkaaDoorPx27
import Derived.Test.YtodligmokcbbkaaDoorPx29
set_option linter.all false
section
namespace Go.Hx
def mbN (s:AS) (n:Nat):List Nat:=(List.range n).filter fun i=>al s (i:Int)
section
variable {s part q:AS} {n:Nat}
theorem sd (h:al s (n:Int) = true):mbN s (n + 1) = mbN s n ++ [n]:=by
 unfold mbN
 rw [List.range_succ,List.filter_append]
 simp [h]
theorem s8 (h:al s (n:Int) = false):mbN s (n + 1) = mbN s n:=by
 unfold mbN
 rw [List.range_succ,List.filter_append]
 simp [h]
theorem abe {i:Nat}:i ∈ mbN s n ↔ i < n ∧ al s (i:Int) = true:=by simp [mbN]
theorem up:(mbN s n).length ≤ n:=by
 have:=List.length_filter_le (fun i:Nat=>al s (i:Int)) (List.range n)
 rw [List.length_range] at this
 exact this
theorem ao1 {k:Nat} (h:k < (mbN s n).length):(mbN s n).getD k default < n ∧ al s (((mbN s n).getD k default:Nat):Int) = true:=by
 rw [c7 _ _ h]
 exact abe.1 (List.getElem_mem h)
theorem aft {l:List Val}:sel l s = (mbN s l.length).map fun i=>l.getD i default:=by
 have key:∀ i,i ≤ l.length → sel (l.take i) s = (mbN s i).map fun k=>l.getD k default:=by
  intro i
  induction i with
  | zero=>intro _;rfl
  | succ i ih =>
   intro hi
   cases h:al s (i:Int) with
   | true=>rw [a2r (by omega) h,sd h,List.map_append,ih (by omega)];rfl
   | false=>rw [a3z (by omega) h,s8 h,ih (by omega)]
 have:=key l.length (Nat.le_refl _)
 rwa [List.take_length] at this
theorem a10 {l m:List Val} {f:Nat → Bool} (hl:l.length = n) (hm:m.length = n) (hq:∀ k,k < (mbN part n).length → al q (k:Int) = f ((mbN part n).getD k default)) :
 sel (sel l part) q = sel (sel m part) q ↔ ∀ i,i < n → al part (i:Int) = true → f i = true → l.getD i default = m.getD i default:=by
 have e1:∀ {l:List Val},l.length = n → sel l part = (mbN part n).map fun i=>l.getD i default:=fun h=>by rw [aft,h]
 rw [e1 hl,e1 hm,pl (by simp)]
 have e2:∀ (l:List Val) k,k < (mbN part n).length → ((mbN part n).map fun i=>l.getD i default).getD k default = l.getD ((mbN part n).getD k default) default:=fun l k hk=>by
  rw [c7 _ _ (by simpa using hk),List.getElem_map,c7 _ _ hk]
 constructor
 · intro h i hi hp hf
   obtain ⟨k,hk,e⟩:=List.getElem_of_mem (abe.2 ⟨hi,hp⟩)
   have e':(mbN part n).getD k default = i:=by rw [c7 _ _ hk,e]
   have:=h k (by simpa using hk) (by rw [hq k hk,e'];exact hf)
   rw [e2 _ _ hk,e2 _ _ hk,e'] at this
   exact this
 · intro h k hk hh
   have hk:k < (mbN part n).length:=by simpa using hk
   rw [e2 _ _ hk,e2 _ _ hk]
   obtain ⟨h1,h2⟩:=ao1 hk
   exact h _ h1 h2 (by rw [← hq k hk];exact hh)
end
def fj (part s:AS):Nat → AS
 | 0=>0
 | a + 1=>if (al part (a:Int) && al s (a:Int)) = true then fj part s a ||| ku (mbN part a).length else fj part s a
section
variable {part s:AS}
theorem xl {a k:Nat} (ha:a < 32) (hk:k < 32):al (ku a) (k:Int) = decide (k = a):=by rw [bp hk,vl ha hk]
theorem xp:∀ {n:Nat},n ≤ 32 → (∀ k,k < (mbN part n).length → al (fj part s n) (k:Int) = al s (((mbN part n).getD k default:Nat):Int)) ∧ ∀ k,(mbN part n).length ≤ k → al (fj part s n) (k:Int) = false
 | 0,_=>⟨fun k hk=>absurd hk (Nat.not_lt_zero k),fun k _=>by
  by_cases h:k < 32
  · rw [bp h];simp [fj]
  · exact mj (by omega)⟩
 | n + 1,hn=>by
  obtain ⟨h1,h2⟩:=xp (n:=n) (by omega)
  have hlen:(mbN part n).length ≤ n:=up
  cases hp:al part (n:Int) with
  | false =>
   simp only [fj,s8 hp,hp,Bool.false_and,Bool.false_eq_true,if_false]
   exact ⟨h1,h2⟩
  | true =>
   simp only [fj,sd hp,hp,Bool.true_and,List.length_append,List.length_singleton]
   have hat:∀ k,k < (mbN part n).length → (mbN part n ++ [n]).getD k default = (mbN part n).getD k default:=fun k hk=>by
    rw [List.getD_eq_getElem?_getD,List.getElem?_append_left hk,List.getD_eq_getElem?_getD]
   have hla:(mbN part n ++ [n]).getD (mbN part n).length default = n:=by
    rw [List.getD_eq_getElem?_getD,List.getElem?_append_right (Nat.le_refl _)];simp
   cases hs:al s (n:Int) with
   | false =>
    simp only [Bool.false_eq_true,if_false]
    refine ⟨fun k hk=>?_,fun k hk=>h2 k (by omega)⟩
    rcases Nat.lt_or_ge k (mbN part n).length with h | h
    · rw [hat k h];exact h1 k h
    · obtain rfl:k = (mbN part n).length:=by omega
      rw [hla,hs];exact h2 _ (Nat.le_refl _)
   | true =>
    simp only [if_true]
    refine ⟨fun k hk=>?_,fun k hk=>?_⟩
    · rw [pg]
      rcases Nat.lt_or_ge k (mbN part n).length with h | h
      · rw [hat k h,xl (by omega) (by omega),decide_eq_false (by omega),Bool.or_false];exact h1 k h
      · obtain rfl:k = (mbN part n).length:=by omega
        rw [hla,hs,xl (by omega) (by omega),decide_eq_true rfl,Bool.or_true]
    · rw [pg,h2 k (by omega),Bool.false_or]
      by_cases h:k < 32
      · rw [xl (by omega) h,decide_eq_false (by omega)]
      · exact mj (by omega)
end
def prR (s:AS) (R:List Row) (i:Nat):List Row:=(R.take i).foldl (fun o r=>if sb o (sel r.vals s) = true then o else o ++ [⟨r.id,sel r.vals s⟩]) []
def kn (s:AS) (l:List ByteArray) (i:Nat):List ByteArray:=(mbN s i).map fun k=>l.getD k default
def mh (t:Tbl) (s:AS):Tbl:=⟨t.name,kn s t.attrs t.attrs.length,prR s t.rows t.rows.length⟩
section
variable {s:AS} {R:List Row} {i:Nat}
theorem ajv (hi:i < R.length) (h:sb (prR s R i) (sel (R.getD i default).vals s) = true):prR s R (i + 1) = prR s R i:=by
 unfold prR at h ⊢
 rw [bc hi,List.foldl_append]
 simp only [List.foldl_cons,List.foldl_nil]
 rw [if_pos h]
theorem ajw (hi:i < R.length) (h:sb (prR s R i) (sel (R.getD i default).vals s) = false):prR s R (i + 1) = prR s R i ++ [⟨(R.getD i default).id,sel (R.getD i default).vals s⟩]:=by
 unfold prR at h ⊢
 rw [bc hi,List.foldl_append]
 simp only [List.foldl_cons,List.foldl_nil]
 rw [if_neg (by rw [h];decide)]
theorem qq (hS:jd R):∀ i,i ≤ R.length → (∀ r ∈ prR s R i,∃ k,k < i ∧ r.id = (R.getD k default).id ∧ r.vals = sel (R.getD k default).vals s) ∧ (∀ k,k < i → ∃ r ∈ prR s R i,r.vals = sel (R.getD k default).vals s) ∧ jd (prR s R i) ∧ (prR s R i).length ≤ i
 | 0,_=>⟨fun r hr=>(by cases hr),fun k hk=>absurd hk (Nat.not_lt_zero k),List.Pairwise.nil,Nat.le_refl _⟩
 | i + 1,hi=>by
  obtain ⟨h1,h2,h3,h4⟩:=qq hS i (by omega)
  cases h:sb (prR s R i) (sel (R.getD i default).vals s) with
  | true =>
   rw [ajv (by omega) h]
   refine ⟨fun r hr=>?_,fun k hk=>?_,h3,by omega⟩
   · obtain ⟨k,hk,e⟩:=h1 r hr
     exact ⟨k,by omega,e⟩
   · rcases Nat.lt_or_ge k i with hk2 | hk2
     · exact h2 k hk2
     · obtain rfl:k = i:=by omega
       obtain ⟨r,hr,e⟩:=List.any_eq_true.1 h
       exact ⟨r,hr,of_decide_eq_true e⟩
  | false =>
   rw [ajw (by omega) h]
   refine ⟨fun r hr=>?_,fun k hk=>?_, ?_,by simp;omega⟩
   · rcases List.mem_append.1 hr with hr | hr
     · obtain ⟨k,hk,e⟩:=h1 r hr
       exact ⟨k,by omega,e⟩
     · obtain rfl:=List.mem_singleton.1 hr
       exact ⟨i,by omega,rfl,rfl⟩
   · rcases Nat.lt_or_ge k i with hk2 | hk2
     · obtain ⟨r,hr,e⟩:=h2 k hk2
       exact ⟨r,List.mem_append_left _ hr,e⟩
     · obtain rfl:k = i:=by omega
       exact ⟨_,List.mem_append_right _ (List.mem_singleton.2 rfl),rfl⟩
   · refine List.pairwise_append.2 ⟨h3,List.pairwise_singleton _ _,fun a ha b hb=>?_⟩
     obtain rfl:=List.mem_singleton.1 hb
     obtain ⟨k,hk,e,_⟩:=h1 a ha
     show a.id < (R.getD i default).id
     rw [e,c7 _ _ (by omega:k < R.length),c7 _ _ (by omega:i < R.length)]
     exact List.pairwise_iff_getElem.1 hS k i (by omega) (by omega) hk
end
theorem afg {l:List ByteArray} (h:oh l = true):l.Nodup ∧ ∀ a ∈ l,fu a = true:=by
 have key:=fun i (hi:i < l.length)=>List.all_eq_true.1 h i (List.mem_range.2 hi)
 constructor
 · refine List.pairwise_iff_getElem.2 fun j i hj hi hij e=>?_
   have h1:=key i hi
   unfold nn at h1
   rw [Bool.and_eq_true,decide_eq_true_iff] at h1
   have h2:=h1.2
   unfold a1w at h2
   have h3:=a4g (p:=fun x=>decide (x = l.getD i default)) (l:=l.take i)
   rw [decide_eq_false (by omega)] at h3
   have h4:=List.any_eq_false.1 h3.symm l[j] (by
    have hj2:j < (l.take i).length:=by rw [List.length_take];omega
    have e2:(l.take i)[j] = l[j]:=by rw [List.getElem_take]
    rw [← e2]
    exact List.getElem_mem hj2)
   refine h4 (decide_eq_true ?_)
   rw [e,c7 _ _ hi]
 · intro a ha
   obtain ⟨i,hi,rfl⟩:=List.getElem_of_mem ha
   have h1:=key i hi
   unfold nn at h1
   rw [Bool.and_eq_true,c7 _ _ hi] at h1
   exact h1.1
theorem ao3 {l:List ByteArray} (h:l.Nodup) (h2:∀ a ∈ l,fu a = true):oh l = true:=by
 refine List.all_eq_true.2 fun i hi=>?_
 have hi:=List.mem_range.1 hi
 unfold nn
 rw [c7 _ _ hi,h2 _ (List.getElem_mem hi),Bool.true_and,decide_eq_true_iff]
 apply Classical.byContradiction
 intro hn
 have h3:=a4g (p:=fun x=>decide (x = l[i])) (l:=l.take i)
 unfold a1w at hn
 rw [decide_eq_true (by omega)] at h3
 obtain ⟨x,hx,e⟩:=List.any_eq_true.1 h3.symm
 obtain ⟨j,hj,e2⟩:=List.getElem_of_mem hx
 rw [List.length_take] at hj
 rw [List.getElem_take] at e2
 have e:=of_decide_eq_true e
 exact List.pairwise_iff_getElem.1 h j i (by omega) hi (by omega) (e2.trans e)
theorem a19 {s:AS} {l:List ByteArray}:(kn s l l.length).Sublist l:=by
 have h:((mbN s l.length).map fun k=>l.getD k default).Sublist ((List.range l.length).map fun k=>l.getD k default):=(List.filter_sublist).map _
 have e:(List.range l.length).map (fun k=>l.getD k default) = l:=by
  refine List.ext_getElem (by simp) fun i h1 h2=>?_
  rw [List.getElem_map,List.getElem_range,c7 _ _ h2]
 rw [e] at h
 exact h
theorem w9 {s:AS} {l:List ByteArray} {n:Nat}:(kn s l n).length = (mbN s n).length:=List.length_map ..
theorem akh {t:Tbl} {s:AS} (h:TOk t):TOk (mh t s) where
 nm:=h.nm
 na:=by show (kn s t.attrs _).length ≤ 16;have:=(a19 (s:=s) (l:=t.attrs)).length_le;have:=h.na;omega
 nr:=by show (prR s t.rows _).length ≤ 1000;have:=(qq (s:=s) (dz h.rs) t.rows.length (Nat.le_refl _)).2.2.2;have:=h.nr;omega
 nms:=by
  obtain ⟨h1,h2⟩:=afg h.nms
  exact ao3 (a19.nodup h1) fun a ha=>h2 a (a19.subset ha)
 rs:=by
  obtain ⟨h1,_,h3,_⟩:=qq (s:=s) (dz h.rs) t.rows.length (Nat.le_refl _)
  refine kf (fun r hr=>?_) h3
  obtain ⟨k,hk,e1,e2⟩:=h1 r hr
  obtain ⟨g1,g2,g3⟩:=ff h.rs (t.rows.getD k default) (by rw [c7 _ _ hk];exact List.getElem_mem hk)
  refine ⟨by rw [e1];exact g1, ?_, ?_⟩
  · rw [e2,aft,g2,List.length_map]
    exact w9.symm
  · rw [e2,List.all_eq_true]
    intro v hv
    exact List.all_eq_true.1 g3 v (vk hv)
section
variable {t:Tbl} {p m:List Fd}
theorem af1 (h8:t.attrs.length ≤ 8) (hw:∀ r ∈ t.rows,r.vals.length = t.attrs.length) (hF:∀ d ∈ p,fdB t d = true) (hM:∀ d ∈ m,mvB t d = true) {x b:AS} (hb:b ∈ blks (jn p m) (aq t.attrs.length &&& ~~~x)) {u v:Row} (hu:u ∈ t.rows) (hv:v ∈ t.rows)
 (hag:∀ i,i < t.attrs.length → al x (i:Int) = true → u.vals.getD i default = v.vals.getD i default):∃ w ∈ t.rows,∀ i,i < t.attrs.length → w.vals.getD i default = if al b (i:Int) = true then u.vals.getD i default else v.vals.getD i default:=by
 let σ:Int → Val:=fun z=>if z < (t.attrs.length:Int) then u.vals.getD z.toNat default else v.vals.getD (z - t.attrs.length).toNat default
 have h:=akf (by omega:t.attrs.length ≤ 16) hw hF hM σ
 have hG:=ai7 (n:=(t.attrs.length:Int)) (by omega) h (ab1 (jn p m) (aq t.attrs.length &&& ~~~x)).1 b hb
 let a:Rw:=(List.range t.attrs.length).map fun (j:Nat)=>(j:Int)
 let c:Rw:=(List.range t.attrs.length).map fun (j:Nat)=>((t.attrs.length + j:Nat):Int)
 have ea:∀ i,i < t.attrs.length → a.getD i default = (i:Int):=fun i hi=>by
  show ((List.range t.attrs.length).map fun (j:Nat)=>(j:Int)).getD i default = _
  rw [List.getD_eq_getElem?_getD,List.getElem?_map,List.getElem?_range hi];rfl
 have ec:∀ i,i < t.attrs.length → c.getD i default = ((t.attrs.length + i:Nat):Int):=fun i hi=>by
  show ((List.range t.attrs.length).map fun (j:Nat)=>((t.attrs.length + j:Nat):Int)).getD i default = _
  rw [List.getD_eq_getElem?_getD,List.getElem?_map,List.getElem?_range hi];rfl
 have sa:∀ i,i < t.attrs.length → σ (a.getD i default) = u.vals.getD i default:=fun i hi=>by
  rw [ea i hi]
  show (if (i:Int) < (t.attrs.length:Int) then _ else _) = _
  rw [if_pos (by omega),Int.toNat_natCast]
 have sc:∀ i,i < t.attrs.length → σ (c.getD i default) = v.vals.getD i default:=fun i hi=>by
  rw [ec i hi]
  show (if ((t.attrs.length + i:Nat):Int) < (t.attrs.length:Int) then _ else _) = _
  rw [if_neg (by omega),show (((t.attrs.length + i:Nat):Int) - t.attrs.length).toNat = i by omega]
 have la:a.length = t.attrs.length:=by simp [a]
 have lc:c.length = t.attrs.length:=by simp [c]
 obtain ⟨_,w,hw,h2⟩:=hG a c ⟨la,u,hu,sa⟩ ⟨lc,v,hv,sc⟩ fun i hi hx=>by
  show σ _ = σ _
  rw [sa i (by omega),sc i (by omega)]
  exact hag i (by omega) hx
 refine ⟨w,hw,fun i hi=>?_⟩
 rw [← h2 i hi,je (by omega)]
 split
 · exact sa i hi
 · exact sc i hi
theorem als (hT:TOk t) (h8:t.attrs.length ≤ 8) (hF:∀ d ∈ p,fdB t d = true) (hM:∀ d ∈ m,mvB t d = true) {part:AS} {v:Fd} (hv:da t.attrs.length p m part = some v) :
 mvB (mh t part) ⟨fj part v.lhs t.attrs.length,fj part v.rhs t.attrs.length⟩ = true:=by
 obtain ⟨hx,b,hb,hr⟩:=ama hv
 have hw:∀ r ∈ t.rows,r.vals.length = t.attrs.length:=fun r hr=>by
  obtain ⟨i,hi,rfl⟩:=pj hr
  exact hT.width hi
 obtain ⟨p1,p2,_,_⟩:=qq (s:=part) (dz hT.rs) t.rows.length (Nat.le_refl _)
 have hlen:(mbN part t.attrs.length).length ≤ t.attrs.length:=up
 have i1:=(xp (part:=part) (s:=v.lhs) (n:=t.attrs.length) (by omega)).1
 have i2:=(xp (part:=part) (s:=v.rhs) (n:=t.attrs.length) (by omega)).1
 have q1:∀ k,k < (mbN part t.attrs.length).length → al (fj part v.lhs t.attrs.length ||| fj part v.rhs t.attrs.length) (k:Int) = (fun i:Nat=>al v.lhs (i:Int) || al v.rhs (i:Int)) ((mbN part t.attrs.length).getD k default):=fun k hk=>by
  rw [pg,i1 k hk,i2 k hk]
 have q2:∀ k,k < (mbN part t.attrs.length).length → al (aq (((mh t part).attrs.length:Nat):Int) &&& ~~~(fj part v.lhs t.attrs.length ||| fj part v.rhs t.attrs.length)) (k:Int) = (fun i:Nat=>!(al v.lhs (i:Int) || al v.rhs (i:Int))) ((mbN part t.attrs.length).getD k default):=fun k hk=>by
  have e:(mh t part).attrs.length = (mbN part t.attrs.length).length:=w9
  rw [e,yt,xn (by omega) hk,Bool.true_and]
  have h:=q1 k hk
  rw [bp (by omega)] at h ⊢
  rw [BitVec.getLsbD_not,h]
  simp;omega
 unfold mvB
 refine List.all_eq_true.2 fun i hi=>List.all_eq_true.2 fun k hk=>?_
 have hi:=List.mem_range.1 hi
 have hk:=List.mem_range.1 hk
 unfold qc
 rw [Bool.or_eq_true,Bool.not_eq_true']
 cases hag:j0 ((mh t part).rows.getD i default) ((mh t part).rows.getD k default) (fj part v.lhs t.attrs.length) with
 | false=>exact .inl rfl
 | true =>
  right
  obtain ⟨ui,hui,_,eu⟩:=p1 ((mh t part).rows.getD i default) (by rw [c7 _ _ hi];exact List.getElem_mem hi)
  obtain ⟨vi,hvi,_,ev⟩:=p1 ((mh t part).rows.getD k default) (by rw [c7 _ _ hk];exact List.getElem_mem hk)
  have mu:t.rows.getD ui default ∈ t.rows:=by rw [c7 _ _ hui];exact List.getElem_mem hui
  have mv:t.rows.getD vi default ∈ t.rows:=by rw [c7 _ _ hvi];exact List.getElem_mem hvi
  have wu:=hw _ mu
  have wv:=hw _ mv
  unfold j0 at hag
  have hag:=of_decide_eq_true hag
  rw [eu,ev] at hag
  have hag:=(a10 (f:=fun i:Nat=>al v.lhs (i:Int)) wu wv i1).1 hag
  have hsub:∀ i:Nat,al v.lhs (i:Int) = true → al part (i:Int) = true:=fun i h=>a8c hx h
  obtain ⟨w,hwm,hwe⟩:=af1 h8 hw hF hM hb mu mv fun i hi h=>hag i hi (hsub i h) h
  obtain ⟨wi,hwi,rfl⟩:=pj hwm
  obtain ⟨x,hxm,ex⟩:=p2 wi hwi
  have ww:=hw _ hwm
  have hrb:∀ i:Nat,al part (i:Int) = true → al v.rhs (i:Int) = al b (i:Int):=fun i h=>by rw [hr,yt,h,Bool.and_true]
  unfold a2d
  refine List.any_eq_true.2 ⟨x,hxm, ?_⟩
  unfold j0
  rw [Bool.and_eq_true,decide_eq_true_iff,decide_eq_true_iff,ex,eu,ev]
  constructor
  · refine (a10 (f:=fun i:Nat=>al v.lhs (i:Int) || al v.rhs (i:Int)) ww wu q1).2 fun i hi hp h=>?_
    rw [hwe i hi]
    split
    · rfl
    · rename_i hb0
      have h:(al v.lhs (i:Int) || al v.rhs (i:Int)) = true:=h
      rw [Bool.or_eq_true] at h
      rcases h with h | h
      · exact (hag i hi hp h).symm
      · rw [hrb i hp] at h;exact absurd h hb0
  · refine (a10 (f:=fun i:Nat=>!(al v.lhs (i:Int) || al v.rhs (i:Int))) ww wv q2).2 fun i hi hp h=>?_
    have h:(!(al v.lhs (i:Int) || al v.rhs (i:Int))) = true:=h
    rw [Bool.not_eq_true',Bool.or_eq_false_iff,hrb i hp] at h
    rw [hwe i hi,if_neg (by rw [h.2];decide)]
theorem ap4 {part a b:AS} {n:Nat} (hn:n ≤ 16):sub (fj part a n ||| fj part b n) (aq (((mbN part n).length:Nat):Int)):=by
 have hlen:(mbN part n).length ≤ n:=up
 refine bo.2 fun i hi h=>?_
 rw [← bp hi] at h ⊢
 by_cases hk:i < (mbN part n).length
 · exact xn (by omega) hk
 · rw [pg,(xp (by omega)).2 i (by omega),(xp (by omega)).2 i (by omega)] at h
   cases h
end
end Go.Hx
end
section
namespace Go.Hx
open Go.Proofs
set_option maxRecDepth 100000
theorem amo:am Tryd.prog 26:=⟨Tryd.f26,Tryd.func26,by kernel_rfl,by kernel_rfl⟩
theorem a97:am Tryd.prog 25:=⟨Tryd.f25,Tryd.func25,by kernel_rfl,by kernel_rfl⟩
theorem a4r (r:Row) (s:AS) (hl:r.vals.length ≤ 68719476736):ao Tryd.prog 25 [r.pc,pA s] (ay [pP (vals (sel r.vals s))]):=by
 refine ak (nt:=26) ai Tryd.func25 rfl rfl l9 ?_;refine sx7 ?_;refine m9 0 ?_;refine qy ?_;refine a6 ?_;refine sx7 ?_;refine qy ?_;refine a6 ?_;refine a7 ?_;refine sx7 ?_;refine qy ?_
 refine a6 ?_;refine ah ?_;refine gf 5 900 true 3 80 (lf Val.c []) (by decide) rfl (CoP.sl rfl (.inr rfl) (fun h=>h) (fun i j hi _=>absurd hi (Nat.not_lt_zero i))) (.inr rfl) rfl ?_
 refine b4 (ι:=Nat) ⟨[(1,some _),(2,some _)],[(0,some _)]⟩ ⟨⟨c9,c9,trivial⟩,⟨u9,trivial⟩⟩ (fun i=>⟨[(5,some (.v (.one (.ref 900 (sel (r.vals.take i) s).length)))),(6,some (vI i))],[(900,some (.arr true 3 80 (sel (r.vals.take i) s).length (lf Val.c (sel (r.vals.take i) s))))]⟩) (fun i=>i ≤ r.vals.length) (fun i=>r.vals.length - i) (0) (Nat.zero_le _) ⟨⟨⟨_,rfl,(CoR.refl _)⟩,zy,trivial⟩,⟨u9,trivial⟩⟩ ?_
 rintro i hi
 have hlen:(sel (r.vals.take i) s).length ≤ i:=Nat.le_trans abf (by rw [List.length_take];omega)
 refine a7 ?_;refine sx7 ?_;(iterate 5 refine qy ?_);refine a6 ?_;refine a8 _ rfl (fun r0=>?_) (fun r0=>?_)
 ·
  have h0:=of_decide_eq_true r0
  try simp only [ty] at h0
  refine aa ?_;refine a7 ?_;refine ah ?_;refine sx7 ?_;(iterate 2 refine qy ?_);refine rc rfl rfl rfl rfl rfl rfl ux (a4s s i) (CoL.refl _) rfl rfl ?_;refine a6 ?_
  refine a8 _ rfl (fun r1=>?_) (fun r1=>?_)
  ·
   have h1:=r1
   have hh:al s (i:Int) = true:=r1
   refine gy ?_;(iterate 6 refine qy ?_);refine m9 1 ?_;refine ra 2 true rfl rfl rfl rfl rfl rfl ?_;refine qy ?_;refine a6 ?_;refine gy ?_;(iterate 3 refine qy ?_);refine a6 ?_
   first | (refine ⟨i + 1, ?_, ?_, ?_⟩
            · show i + 1 ≤ _;omega
            · first | omega | (dsimp only;omega)
            · exact ⟨⟨⟨_,rfl,(ej (a2r (by omega) hh))⟩,zy,c9,c9,trivial⟩,⟨⟨_,rfl,(a06 (a2r (by omega) hh) (apk (CoP.refl _) (CoP.refl _) (CoP.refl _)))⟩,u9,trivial⟩⟩)
         | (refine ⟨i + 1, ?_, ?_, ?_⟩
            · show i + 1 ≤ _;omega
            · first | omega | (dsimp only;omega)
            · exact ⟨⟨⟨_,rfl,(cn (a3z (by omega) hh))⟩,zy,c9,c9,trivial⟩,⟨⟨_,rfl,(c5 (a3z (by omega) hh))⟩,u9,trivial⟩⟩)
  ·
   have h1:=r1
   have hh:al s (i:Int) = false:=r1
   refine aa ?_;refine gy ?_;(iterate 3 refine qy ?_);refine a6 ?_
   first | (refine ⟨i + 1, ?_, ?_, ?_⟩
            · show i + 1 ≤ _;omega
            · first | omega | (dsimp only;omega)
            · exact ⟨⟨⟨_,rfl,(ej (a2r (by omega) hh))⟩,zy,c9,c9,trivial⟩,⟨⟨_,rfl,(a06 (a2r (by omega) hh) (apk (CoP.refl _) (CoP.refl _) (CoP.refl _)))⟩,u9,trivial⟩⟩)
         | (refine ⟨i + 1, ?_, ?_, ?_⟩
            · show i + 1 ≤ _;omega
            · first | omega | (dsimp only;omega)
            · exact ⟨⟨⟨_,rfl,(cn (a3z (by omega) hh))⟩,zy,c9,c9,trivial⟩,⟨⟨_,rfl,(c5 (a3z (by omega) hh))⟩,u9,trivial⟩⟩)
 ·
  have h0:=of_decide_eq_false r0
  try simp only [ty] at h0
  obtain rfl:i = r.vals.length:=by omega
  rw [show r.vals.take r.vals.length = r.vals from List.take_length]
  refine az ?_;refine a7 ?_;refine dl 5 rfl rfl rfl ?_;refine gy ?_;(iterate 2 refine qy ?_);refine a6 ?_
  exact hx8 rfl rfl rfl (CoL.refl _)
theorem yl:am Tryd.prog 17:=⟨Tryd.f17,Tryd.func17,by kernel_rfl,by kernel_rfl⟩
theorem a2z (a b:Row) (s:AS) (ha:a.ok) (hb:b.ok):ao Tryd.prog 17 [a.pc,b.pc,pA s] (ay [pB (j0 a b s)]):=by
 refine ak (nt:=14) ai Tryd.func17 rfl rfl l9 ?_;refine sx7 ?_;refine m9 0 ?_;refine m9 1 ?_;refine qy ?_;refine a6 ?_;refine a7 ?_;refine cw (E:=d6) ai bw [0,1,2,3,4,5,6,7] ?_
 (iterate 2 refine qy ?_);refine rc rfl rfl rfl rfl rfl rfl a97 (a4r a s ha.1) (CoL.refl _) rfl rfl ?_;(iterate 2 refine qy ?_);refine rc rfl rfl rfl rfl rfl rfl a97 (a4r b s hb.1) (CoL.refl _) rfl rfl ?_
 refine rc rfl rfl rfl rfl rfl rfl agd (c81 (sel a.vals s) (sel b.vals s) (a34 ha.2) (a34 hb.2)) (CoL.refl _) rfl rfl ?_;refine qy ?_;refine a6 ?_;refine ⟨by kernel_rfl, ?_⟩
 exact hx8 rfl rfl rfl (CoL.refl _)
end Go.Hx
end
section
namespace Go.Hx
open Go.Proofs
set_option maxRecDepth 100000
set_option maxHeartbeats 1000000
theorem arh:am Tryd.prog 7:=⟨Tryd.f7,Tryd.func7,by kernel_rfl,by kernel_rfl⟩
theorem as6 (t:Tbl) (d:Fd) (ht:t.ok):ao Tryd.prog 7 [t.pc,d.pc] (ay [pB (fdB t d)]):=by
 refine ak (nt:=48) ai Tryd.func7 rfl rfl l9 ?_
 have hrl:=ht.2.1
 refine sx7 ?_;refine m9 0 ?_;refine m9 1 ?_;refine qy ?_;refine a6 ?_;refine a7 ?_;refine sx7 ?_;refine qy ?_;refine a6 ?_;refine ah ?_
 refine b4 (ι:=Nat) ⟨[(2,some _),(3,some _)],[(0,some _),(1,some _)]⟩ ⟨⟨c9,c9,trivial⟩,⟨u9,u9,trivial⟩⟩ (fun i=>⟨[(5,some (vI i))],[]⟩) (fun i=>i ≤ t.rows.length ∧ (∀ j,j < i → ((List.range j).all fun k=>te t d j k) = true)) (fun i=>t.rows.length - i) (0) (⟨Nat.zero_le _,en⟩) ⟨⟨zy,trivial⟩,trivial⟩ ?_
 rintro i ⟨hi,hIi⟩
 refine a7 ?_;refine sx7 ?_;(iterate 5 refine qy ?_);refine a6 ?_;refine a8 _ rfl (fun r0=>?_) (fun r0=>?_)
 ·
  have h0:=of_decide_eq_true r0
  try simp only [ty] at h0
  refine aa ?_;refine a7 ?_;refine ah ?_;refine sx7 ?_;refine qy ?_;refine a6 ?_;refine ah ?_
  refine b4 (ι:=Nat) ⟨[(2,some _),(3,some _),(5,some _)],[(0,some _),(1,some _)]⟩ ⟨⟨c9,c9,c9,trivial⟩,⟨u9,u9,trivial⟩⟩ (fun k=>⟨[(6,some (vI k))],[]⟩) (fun k=>k ≤ i ∧ (∀ j,j < k → te t d i j = true)) (fun k=>i - k) (0) (⟨Nat.zero_le _,en⟩) ⟨⟨zy,trivial⟩,trivial⟩ ?_
  rintro k ⟨hk,hIk⟩
  refine a7 ?_;refine sx7 ?_;(iterate 3 refine qy ?_);refine a6 ?_;refine a8 _ rfl (fun r1=>?_) (fun r1=>?_)
  ·
   have h1:=of_decide_eq_true r1
   try simp only [ty] at h1
   refine aa ?_;refine a7 ?_;refine ah ?_;refine a7 ?_
   refine cw (E:=d6) ai bw [0,1,2,3,4,5,6,7,8,9,10,11,12,13,14,15,16,17,18,19,20,21,22,23,24,25,26,27,28] ?_;(iterate 12 refine qy ?_)
   refine rc rfl rfl rfl rfl rfl rfl yl (a2z (t.rows.getD i default) (t.rows.getD k default) d.lhs (ht.2.2 i (by omega)) (ht.2.2 k (by omega))) (CoL.refl _) rfl rfl ?_;refine qy ?_
   refine c4 rfl rfl (fun r2=>?_) (fun r2=>?_)
   ·
    have h2:=r2
    (iterate 12 refine qy ?_ (hg:=(gtt r2)));refine rc rfl rfl rfl rfl rfl rfl yl (a2z (t.rows.getD i default) (t.rows.getD k default) d.rhs (ht.2.2 i (by omega)) (ht.2.2 k (by omega))) (CoL.refl _) rfl (gtt r2) ?_
    refine qy ?_ (hg:=(gtt r2));refine qy ?_;refine a6 ?_;refine ⟨by kernel_rfl, ?_⟩;refine a8 _ rfl (fun r3=>?_) (fun r3=>?_)
    ·
     have h3:=r3
     have h3:=dg r2 h3
     have h3:=bn h3
     refine sx7 ?_;refine qy ?_;refine a6 ?_
     exact hx8 rfl rfl rfl (⟨ccb (i6 (p:=fun i=>(List.range i).all fun k=>te t d i k) (i:=i) (by omega) (i6 (p:=fun k=>te t d i k) (i:=k) (by omega) (by unfold te;simp_all))).symm,trivial⟩)
    ·
     have h3:=r3
     have h3:=dg r2 h3
     have h3:=bm h3
     refine aa ?_;refine gy ?_;(iterate 3 refine qy ?_);refine a6 ?_;refine ⟨k + 1, ?_, ?_, ?_⟩
     · exact ⟨by show k + 1 ≤ _;omega,d9 hIk (by unfold te;simp_all)⟩
     · first | omega | (dsimp only;omega)
     · exact ⟨⟨zy,c9,c9,c9,trivial⟩,⟨u9,u9,trivial⟩⟩
   ·
    have h2:=r2
    (iterate 14 refine k9 (gft r2) ?_);refine rq rfl rfl rfl rfl rfl ?_ (hp:=r2);refine a6 ?_;refine ⟨by kernel_rfl, ?_⟩;refine a8 _ rfl (fun e=>by cases e) (fun _=>?_);refine aa ?_;refine gy ?_
    (iterate 3 refine qy ?_);refine a6 ?_;refine ⟨k + 1, ?_, ?_, ?_⟩
    · exact ⟨by show k + 1 ≤ _;omega,d9 hIk (by unfold te;simp_all)⟩
    · first | omega | (dsimp only;omega)
    · exact ⟨⟨zy,c9,c9,c9,trivial⟩,⟨u9,u9,trivial⟩⟩
  ·
   have h1:=of_decide_eq_false r1
   try simp only [ty] at h1
   have hki:k = i:=by omega
   refine az ?_;refine gy ?_;(iterate 3 refine qy ?_);refine a6 ?_;refine ⟨i + 1, ?_, ?_, ?_⟩
   · exact ⟨by show i + 1 ≤ _;omega,d9 hIi (jg fun q hq=>hIk q (by omega))⟩
   · first | omega | (dsimp only;omega)
   · exact ⟨⟨zy,c9,c9,trivial⟩,⟨u9,u9,trivial⟩⟩
 ·
  have h0:=of_decide_eq_false r0
  try simp only [ty] at h0
  obtain rfl:i = t.rows.length:=by omega
  refine az ?_;refine sx7 ?_;refine qy ?_;refine a6 ?_
  exact hx8 rfl rfl rfl (⟨ccb (jg (p:=fun i=>(List.range i).all fun k=>te t d i k) hIi).symm,trivial⟩)
theorem am0:am Tryd.prog 20:=⟨Tryd.f20,Tryd.func20,by kernel_rfl,by kernel_rfl⟩
theorem aqy (t:Tbl) (a b:Row) (s:AS) (ht:t.ok) (ha:a.ok) (hb:b.ok):ao Tryd.prog 20 [t.pc,a.pc,b.pc,pA s] (ay [pB (a2d t a b s)]):=by
 refine ak (nt:=40) ai Tryd.func20 rfl rfl l9 ?_
 have hrl:=ht.2.1
 refine sx7 ?_;refine m9 0 ?_;refine m9 1 ?_;refine m9 2 ?_;refine qy ?_;refine a6 ?_;refine a7 ?_;refine sx7 ?_;refine qy ?_;refine a6 ?_;refine ah ?_
 refine b4 (ι:=Nat) ⟨[(3,some _),(4,some _),(5,some _),(6,some _)],[(0,some _),(1,some _),(2,some _)]⟩ ⟨⟨c9,c9,c9,c9,trivial⟩,⟨u9,u9,u9,trivial⟩⟩ (fun i=>⟨[(9,some (vI i))],[]⟩) (fun i=>i ≤ t.rows.length ∧ (∀ j,j < i → (j0 (t.rows.getD j default) a s && j0 (t.rows.getD j default) b (aq t.attrs.length &&& ~~~s)) = false)) (fun i=>t.rows.length - i) (0) (⟨Nat.zero_le _,en⟩) ⟨⟨zy,trivial⟩,trivial⟩ ?_
 rintro i ⟨hi,hIi⟩
 refine a7 ?_;refine sx7 ?_;(iterate 5 refine qy ?_);refine a6 ?_;refine a8 _ rfl (fun r0=>?_) (fun r0=>?_)
 ·
  have h0:=of_decide_eq_true r0
  try simp only [ty] at h0
  refine aa ?_;refine a7 ?_;refine ah ?_;refine a7 ?_;refine cw (E:=d6) ai bw [0,1,2,3,4,5,6,7,8,9,10,11,12,13,14,15,16,17,18,19,20,21,22] ?_
  (iterate 7 refine qy ?_);refine rc rfl rfl rfl rfl rfl rfl yl (a2z (t.rows.getD i default) a s (ht.2.2 i (by omega)) ha) (CoL.refl _) rfl rfl ?_;refine qy ?_;refine c4 rfl rfl (fun r1=>?_) (fun r1=>?_)
  ·
   have h1:=r1
   (iterate 9 refine qy ?_ (hg:=(gtt r1)));refine rc rfl rfl rfl rfl rfl rfl ya (xk (t.attrs.length:Int)) (CoL.refl _) rfl (gtt r1) ?_;(iterate 2 refine qy ?_ (hg:=(gtt r1)))
   refine rc rfl rfl rfl rfl rfl rfl yl (a2z (t.rows.getD i default) b (aq t.attrs.length &&& ~~~s) (ht.2.2 i (by omega)) hb) (⟨CoC.refl _,CoC.refl _,cci (by first | exact ko _ _ | rfl),trivial⟩) rfl (gtt r1) ?_
   refine qy ?_;refine a6 ?_;refine ⟨by kernel_rfl, ?_⟩;refine a8 _ rfl (fun r2=>?_) (fun r2=>?_)
   ·
    have h2:=r2
    have h2:=dg r1 h2
    refine sx7 ?_;refine qy ?_;refine a6 ?_
    exact hx8 rfl rfl rfl (⟨ccb (ajc (p:=fun x:Row=>j0 x a s && j0 x b (aq t.attrs.length &&& ~~~s)) (i:=i) (by omega) (by simp_all)).symm,trivial⟩)
   ·
    have h2:=r2
    have h2:=dg r1 h2
    refine aa ?_;refine gy ?_;(iterate 3 refine qy ?_);refine a6 ?_;refine ⟨i + 1, ?_, ?_, ?_⟩
    · exact ⟨by show i + 1 ≤ _;omega,d9 hIi (by simp_all)⟩
    · first | omega | (dsimp only;omega)
    · exact ⟨⟨zy,c9,c9,c9,c9,trivial⟩,⟨u9,u9,u9,trivial⟩⟩
  ·
   have h1:=r1
   (iterate 13 refine k9 (gft r1) ?_);refine rq rfl rfl rfl rfl rfl ?_ (hp:=r1);refine a6 ?_;refine ⟨by kernel_rfl, ?_⟩;refine a8 _ rfl (fun e=>by cases e) (fun _=>?_);refine aa ?_;refine gy ?_
   (iterate 3 refine qy ?_);refine a6 ?_;refine ⟨i + 1, ?_, ?_, ?_⟩
   · exact ⟨by show i + 1 ≤ _;omega,d9 hIi (by simp_all)⟩
   · first | omega | (dsimp only;omega)
   · exact ⟨⟨zy,c9,c9,c9,c9,trivial⟩,⟨u9,u9,u9,trivial⟩⟩
 ·
  have h0:=of_decide_eq_false r0
  try simp only [ty] at h0
  obtain rfl:i = t.rows.length:=by omega
  refine az ?_;refine sx7 ?_;refine qy ?_;refine a6 ?_
  exact hx8 rfl rfl rfl (⟨ccb (ak4 (p:=fun x:Row=>j0 x a s && j0 x b (aq t.attrs.length &&& ~~~s)) hIi).symm,trivial⟩)
theorem aja:am Tryd.prog 9:=⟨Tryd.f9,Tryd.func9,by kernel_rfl,by kernel_rfl⟩
theorem aan (t:Tbl) (d:Fd) (ht:TOk t) (hd:sub (d.lhs ||| d.rhs) (aq t.attrs.length)):ao Tryd.prog 9 [t.pc,d.pc] (ay [pB (mvB t d),pI 0]):=by
 refine ak (nt:=75) ai Tryd.func9 rfl rfl l9 ?_
 have hok:=ht.ok
 have hrl:=hok.2.1
 have htz:=mb.2 ht
 refine sx7 ?_;refine m9 0 ?_;refine m9 1 ?_;(iterate 2 refine qy ?_);refine a6 ?_;refine a7 ?_;refine sx7 ?_;refine qy ?_;refine rc rfl rfl rfl rfl rfl rfl ag3 (c82 t) (CoL.refl _) rfl rfl ?_;refine qy ?_
 refine a6 ?_;refine sx7 ?_;(iterate 2 refine qy ?_);refine a6 ?_;refine a8 _ rfl (fun r0=>?_) (fun r0=>?_)
 ·
  have h0:=r0
  have h0:=of_decide_eq_false (bn h0)
  try simp only [ty] at h0
  exfalso
  omega
 ·
  have h0:=r0
  have h0:=of_decide_eq_true (bm h0)
  try simp only [ty] at h0
  refine aa ?_;refine sx7 ?_;(iterate 4 refine qy ?_);refine a6 ?_;refine a7 ?_;refine sx7 ?_;(iterate 6 refine qy ?_)
  refine rc rfl rfl rfl rfl rfl rfl aov (akz (t.attrs.length:Int) (d.lhs ||| d.rhs)) (⟨CoC.refl _,cci (bOr _ _),trivial⟩) rfl rfl ?_;refine qy ?_;refine a6 ?_;refine a8 _ rfl (fun r1=>?_) (fun r1=>?_)
  ·
   have h1:=r1
   have h1:=bn h1
   exfalso
   simp_all
  ·
   have h1:=r1
   have h1:=bm h1
   refine aa ?_;refine sx7 ?_;(iterate 6 refine qy ?_);refine a6 ?_;refine a7 ?_;refine sx7 ?_;refine qy ?_;refine a6 ?_;refine ah ?_
   refine b4 (ι:=Nat) ⟨[(2,some _),(3,some _),(8,some _)],[(0,some _),(1,some _)]⟩ ⟨⟨c9,c9,c9,trivial⟩,⟨u9,u9,trivial⟩⟩ (fun i=>⟨[(9,some (vI i))],[]⟩) (fun i=>i ≤ t.rows.length ∧ (∀ j,j < i → ((List.range t.rows.length).all fun k=>qc t d j k) = true)) (fun i=>t.rows.length - i) (0) (⟨Nat.zero_le _,en⟩) ⟨⟨zy,trivial⟩,trivial⟩ ?_
   rintro i ⟨hi,hIi⟩
   refine a7 ?_;refine sx7 ?_;(iterate 5 refine qy ?_);refine a6 ?_;refine a8 _ rfl (fun r2=>?_) (fun r2=>?_)
   ·
    have h2:=of_decide_eq_true r2
    try simp only [ty] at h2
    refine aa ?_;refine a7 ?_;refine ah ?_;refine sx7 ?_;refine qy ?_;refine a6 ?_;refine ah ?_
    refine b4 (ι:=Nat) ⟨[(2,some _),(3,some _),(8,some _),(9,some _)],[(0,some _),(1,some _)]⟩ ⟨⟨c9,c9,c9,c9,trivial⟩,⟨u9,u9,trivial⟩⟩ (fun k=>⟨[(10,some (vI k))],[]⟩) (fun k=>k ≤ t.rows.length ∧ (∀ j,j < k → qc t d i j = true)) (fun k=>t.rows.length - k) (0) (⟨Nat.zero_le _,en⟩) ⟨⟨zy,trivial⟩,trivial⟩ ?_
    rintro k ⟨hk,hIk⟩
    refine a7 ?_;refine sx7 ?_;(iterate 5 refine qy ?_);refine a6 ?_;refine a8 _ rfl (fun r3=>?_) (fun r3=>?_)
    ·
     have h3:=of_decide_eq_true r3
     try simp only [ty] at h3
     refine aa ?_;refine a7 ?_;refine ah ?_;refine a7 ?_
     refine cw (E:=d6) ai bw [0,1,2,3,4,5,6,7,8,9,10,11,12,13,14,15,16,17,18,19,20,21,22,23,24,25,26,27,28] ?_;(iterate 12 refine qy ?_)
     refine rc rfl rfl rfl rfl rfl rfl yl (a2z (t.rows.getD i default) (t.rows.getD k default) d.lhs (hok.2.2 i (by omega)) (hok.2.2 k (by omega))) (CoL.refl _) rfl rfl ?_;refine qy ?_
     refine c4 rfl rfl (fun r4=>?_) (fun r4=>?_)
     ·
      have h4:=r4
      (iterate 12 refine qy ?_ (hg:=(gtt r4)))
      refine rc rfl rfl rfl rfl rfl rfl am0 (aqy t (t.rows.getD i default) (t.rows.getD k default) (d.lhs ||| d.rhs) hok (hok.2.2 i (by omega)) (hok.2.2 k (by omega))) (⟨CoC.refl _,CoC.refl _,CoC.refl _,cci (bOr _ _),trivial⟩) rfl (gtt r4) ?_
      refine qy ?_ (hg:=(gtt r4));refine qy ?_;refine a6 ?_;refine ⟨by kernel_rfl, ?_⟩;refine a8 _ rfl (fun r5=>?_) (fun r5=>?_)
      ·
       have h5:=r5
       have h5:=dg r4 h5
       have h5:=bn h5
       refine sx7 ?_;(iterate 2 refine qy ?_);refine a6 ?_
       exact hx8 rfl rfl rfl (⟨ccb (i6 (p:=fun i=>(List.range t.rows.length).all fun k=>qc t d i k) (i:=i) (by omega) (i6 (p:=fun k=>qc t d i k) (i:=k) (by omega) (by unfold qc;simp_all))).symm,CoC.refl _,trivial⟩)
      ·
       have h5:=r5
       have h5:=dg r4 h5
       have h5:=bm h5
       refine aa ?_;refine gy ?_;(iterate 3 refine qy ?_);refine a6 ?_;refine ⟨k + 1, ?_, ?_, ?_⟩
       · exact ⟨by show k + 1 ≤ _;omega,d9 hIk (by unfold qc;simp_all)⟩
       · first | omega | (dsimp only;omega)
       · exact ⟨⟨zy,c9,c9,c9,c9,trivial⟩,⟨u9,u9,trivial⟩⟩
     ·
      have h4:=r4
      (iterate 14 refine k9 (gft r4) ?_);refine rq rfl rfl rfl rfl rfl ?_ (hp:=r4);refine a6 ?_;refine ⟨by kernel_rfl, ?_⟩;refine a8 _ rfl (fun e=>by cases e) (fun _=>?_);refine aa ?_;refine gy ?_
      (iterate 3 refine qy ?_);refine a6 ?_;refine ⟨k + 1, ?_, ?_, ?_⟩
      · exact ⟨by show k + 1 ≤ _;omega,d9 hIk (by unfold qc;simp_all)⟩
      · first | omega | (dsimp only;omega)
      · exact ⟨⟨zy,c9,c9,c9,c9,trivial⟩,⟨u9,u9,trivial⟩⟩
    ·
     have h3:=of_decide_eq_false r3
     try simp only [ty] at h3
     obtain rfl:k = t.rows.length:=by omega
     refine az ?_;refine gy ?_;(iterate 3 refine qy ?_);refine a6 ?_;refine ⟨i + 1, ?_, ?_, ?_⟩
     · exact ⟨by show i + 1 ≤ _;omega,d9 hIi (jg hIk)⟩
     · first | omega | (dsimp only;omega)
     · exact ⟨⟨zy,c9,c9,c9,trivial⟩,⟨u9,u9,trivial⟩⟩
   ·
    have h2:=of_decide_eq_false r2
    try simp only [ty] at h2
    obtain rfl:i = t.rows.length:=by omega
    refine az ?_;refine sx7 ?_;(iterate 2 refine qy ?_);refine a6 ?_
    exact hx8 rfl rfl rfl (⟨ccb (jg (p:=fun i=>(List.range t.rows.length).all fun k=>qc t d i k) hIi).symm,CoC.refl _,trivial⟩)
end Go.Hx
end
section
namespace Go.Hx
theorem a1e {r x:Row}:∀ {l:List Row},x ∈ oc r l ↔ x = r ∨ x ∈ l
 | []=>by simp [oc]
 | y :: l=>by
  simp only [oc]
  split
  · simp
  · simp only [List.mem_cons,a1e (l:=l)]
    constructor
    · rintro (h | h | h) <;> simp [h]
    · rintro (h | h | h) <;> simp [h]
theorem a0m {r:Row}:∀ {l:List Row},jd l → (∀ x ∈ l,x.id ≠ r.id) → jd (oc r l)
 | [],_,_=>by simp [oc,jd]
 | y :: l,hs,hn=>by
  have hs':=hs
  unfold jd at hs'
  rw [List.pairwise_cons] at hs'
  simp only [oc]
  split
  · rename_i h
    refine List.Pairwise.cons (fun x hx=>?_) hs
    rcases List.mem_cons.1 hx with rfl | hx
    · exact h
    · have:=hs'.1 x hx;omega
  · rename_i h
    refine List.Pairwise.cons (fun x hx=>?_) (a0m hs'.2 fun x hx=>hn x (by simp [hx]))
    rcases a1e.1 hx with rfl | hx
    · have:=hn y (by simp);omega
    · exact hs'.1 x hx
theorem acz {l:List Row} {id:Int} (h:dv l id < 0):∀ x ∈ l,x.id ≠ id:=by
 intro x hx e
 have h2:=a4g (p:=fun r:Row=>decide (r.id = id)) (l:=l)
 have h3:(l.any fun r=>decide (r.id = id)) = true:=by rw [List.any_eq_true];exact ⟨x,hx,by simp [e]⟩
 rw [h3] at h2
 simp only [decide_eq_true_eq] at h2
 unfold dv at h
 omega
theorem amw {t:Tbl} {r:Row} (h:qv t r = 0):TOk (acb t r):=by
 obtain ⟨h1,h2,h3,h4,h5,h6⟩:=aie h
 have hT:=mb.1 h1
 rw [alp h]
 refine ⟨hT.nm,hT.na,by show (oc r t.rows).length ≤ 1000;rw [a94];omega,hT.nms, ?_⟩;refine kf (fun x hx=>?_) (a0m (dz hT.rs) (acz h5))
 rcases a1e.1 hx with rfl | hx
 · exact ⟨h3,h2,h4⟩
 · exact ff hT.rs x hx
theorem ahg {t:Tbl} {i:Int} (h:uh t i = 0):cg t = 0 ∧ 0 ≤ dv t.rows i:=by
 unfold uh at h
 split at h
 · omega
 · split at h
   · exact ⟨by omega,by assumption⟩
   · omega
theorem amx {t:Tbl} {i:Int} (h:uh t i = 0):TOk (adk t i):=by
 have hT:=mb.1 (ahg h).1
 rw [alr h]
 have hsub:=List.eraseIdx_sublist t.rows (dv t.rows i).toNat
 refine ⟨hT.nm,hT.na,by have:=hsub.length_le;have:=hT.nr;show (t.rows.eraseIdx _).length ≤ 1000;omega,hT.nms, ?_⟩
 exact kf (fun x hx=>ff hT.rs x (hsub.subset hx)) (List.Pairwise.sublist hsub (dz hT.rs))
theorem akw {t:Tbl} {i a:Int} {v:Val} (h:vz t i a v = 0):cg t = 0 ∧ 0 ≤ dv t.rows i ∧ 0 ≤ a ∧ a < t.attrs.length ∧ db v = true:=by
 unfold vz at h
 split at h
 · omega
 · split at h
   · omega
   · split at h
     · omega
     · split at h
       · omega
       · rename_i h1 h2 h3 h4
         exact ⟨by omega,by omega,by omega,by omega,by simpa using h4⟩
theorem ahb {l:List Row} {i k:Nat} {v:Val} (hi:i < l.length):(xc l i k v).map Row.id = l.map Row.id:=by
 unfold xc
 apply List.ext_getElem?
 intro j
 rw [List.getElem?_map,List.getElem?_map,List.getElem?_set]
 split
 · rename_i h
   subst h
   rw [List.getElem?_eq_getElem hi]
   simp [List.getD,List.getElem?_eq_getElem hi]
 · rfl
theorem a2v {l:List Row}:jd l ↔ (l.map Row.id).Pairwise (· < ·):=by
 rw [List.pairwise_map]
theorem apl {t:Tbl} {i a:Int} {v:Val} (h:vz t i a v = 0):TOk (aby t i a v):=by
 obtain ⟨h1,h2,h3,h4,h5⟩:=akw h
 have hT:=mb.1 h1
 have hix:(dv t.rows i).toNat < t.rows.length:=by have:=aoq h2;rwa [show max (dv t.rows i) 0 = dv t.rows i from by omega] at this
 rw [al8 h]
 refine ⟨hT.nm,hT.na,by show (xc _ _ _ _).length ≤ 1000;rw [ahr];exact hT.nr,hT.nms, ?_⟩;refine kf (fun x hx=>?_) (by rw [a2v,ahb hix,← a2v];exact dz hT.rs)
 have hold:=ff hT.rs _ (List.getElem_mem hix)
 have hgd:=c7 _ _ hix
 unfold xc at hx
 rcases List.mem_or_eq_of_mem_set hx with hx | rfl
 · exact ff hT.rs x hx
 · refine ⟨by show 0 < (t.rows.getD _ default).id;rw [hgd];exact hold.1,by show (List.set _ _ _).length = _;rw [List.length_set,hgd];exact hold.2.1, ?_⟩
   rw [List.all_eq_true]
   intro y hy
   rcases List.mem_or_eq_of_mem_set hy with hy | rfl
   · rw [hgd] at hy
     exact List.all_eq_true.1 hold.2.2 y hy
   · exact h5
theorem amk {t:Tbl} {c:Chg} (h:a47 t c = 0):TOk (a29 t c):=by
 unfold a47 at h
 unfold a29
 split at h
 · rename_i h2;rw [if_pos h2];exact amw h
 · rename_i h2
   rw [if_neg h2]
   split at h
   · omega
   · split at h
     · omega
     · split at h
       · rename_i h3;rw [if_pos h3];exact amx h
       · rename_i h3;rw [if_neg h3];exact apl h
theorem aqo {d:DB} {c:Chg} (hd:dbV d):dbV (vr d c):=by
 by_cases he:gk d c = 0
 · unfold gk at he
   split at he
   · rename_i h1
     split at he
     · omega
     · obtain ⟨g1,g2,g3⟩:=akt he
       have he':gk d c = 0:=by rw [aE2 h1 (by simp_all)];exact he
       rw [aD1 he' h1]
       refine ⟨by simp;omega,fun j hj=>?_⟩
       by_cases h:j < d.length
       · rw [show (d ++ [c.table]).getD j default = d.getD j default from by simp [List.getD,List.getElem?_append_left h]]
         exact hd.2 j h
       · obtain rfl:j = d.length:=by simp at hj;omega
         rw [show (d ++ [c.table]).getD d.length default = c.table from by simp [List.getD]]
         exact g1
   · rename_i h1
     split at he
     · omega
     · split at he
       · omega
       · rename_i h2 h3
         have he':gk d c = 0:=by rw [aE5 (by omega) h3];exact he
         rw [aD2 he' h1 rfl]
         refine ⟨by rw [List.length_set];exact hd.1,fun j hj=>?_⟩
         rw [List.length_set] at hj
         by_cases h:j = (gu d c.name).toNat
         · subst h
           rw [show (d.set (gu d c.name).toNat (a29 (np d c.name) c)).getD (gu d c.name).toNat default = a29 (np d c.name) c from by simp [List.getD,hj]]
           exact mb.2 (amk he)
         · rw [show (d.set (gu d c.name).toNat (a29 (np d c.name) c)).getD j default = d.getD j default from by simp only [List.getD,List.getElem?_set_ne (Ne.symm h)]]
           exact hd.2 j hj
 · rw [am3 rfl he];exact hd
theorem dbV.ok {d:DB} (h:dbV d):as9 d:=⟨by have:=h.1;omega,fun j hj=>afk (h.2 j hj)⟩
theorem ab2:dbV []:=⟨by simp,fun j hj=>by simp at hj⟩
theorem aed:∀ {l:List Chg} {d:DB},dbV d → dbV (a6x d l)
 | [],d,h=>h
 | c :: l,d,h=>by
  simp only [a6x]
  split
  · exact ab2
  · exact aed (aqo h)
theorem ast {n:Nat} (hn:n ≤ 8) {f:Nat → Nat → PV}:CoP (.sl (0 + n) 1 false (ey 0 f (fun i j=>[PV.raw (.string ⟨#[97]⟩), .raw (.string ⟨#[98]⟩), .raw (.string ⟨#[99]⟩), .raw (.string ⟨#[100]⟩), .raw (.string ⟨#[101]⟩), .raw (.string ⟨#[102]⟩), .raw (.string ⟨#[103]⟩), .raw (.string ⟨#[104]⟩)].getD (i * 1 + j) .any))) (a4x (j4.take n)):=by
 refine CoP.sl (by simp [j4];omega) (.inl rfl) (fun h=>h) fun i j hi hj=>CoP.of_eq ?_
 obtain rfl:j = 0:=by omega
 have hi8:i < n:=by omega
 simp only [ey,Nat.not_lt_zero,if_false,Nat.sub_zero,Nat.mul_one,Nat.add_zero,lf,List.getD,List.getElem?_take,hi8,if_true]
 have:i < 8:=by omega
 match i,this with
 | 0,_=>rfl
 | 1,_=>rfl
 | 2,_=>rfl
 | 3,_=>rfl
 | 4,_=>rfl
 | 5,_=>rfl
 | 6,_=>rfl
 | 7,_=>rfl
theorem a4f {α:Type} [Inhabited α] {l:List α} {k:Nat} (h:l.length ≤ k):l.getD k default = default:=by simp [List.getD,h]
theorem amh {g:UInt8} {i:Nat}:0 ≤ (i:Int) * (1 + (g.toNat:Int) % 3) ∧ (i:Int) * (1 + (g.toNat:Int) % 3) ≤ 3 * i:=by
 have h:(g.toNat:Int) % 3 = 0 ∨ (g.toNat:Int) % 3 = 1 ∨ (g.toNat:Int) % 3 = 2:=by omega
 rcases h with h | h | h <;> rw [h] <;> omega
theorem aga {l:List UInt8} {n:Nat}:(jx l n).length = n:=by simp [jx]
theorem afd {x:gm} {n:Nat}:(i9 x n).length = x.rows.length:=by simp [i9]
theorem afu {l:List UInt8} {n k j:Nat} (h:k < n):lf Val.c (jx l n) k j = Val.c (ofV (l.getD k default)) j:=by
 unfold lf jx
 rw [a65 _ _ _ h]
theorem anw {x:gm} {n i j:Nat} (h:i < x.rows.length):lf Row.c (i9 x n) i j = Row.c ⟨1 + (i:Int) * (1 + (x.gap.toNat:Int) % 3),jx (x.rows.getD i default) n⟩ j:=by
 unfold lf i9
 rw [a65 _ _ _ h]
def jr (s:Stt):List Chg:=s.done.flatten ++ s.now
def a5e (s:Stt):DB:=a6x [] (jr s)
def au8 (s:Stt) (x:Opn):Chg :=
 let k:=x.kind.toNat % 9
 if k = 0 then { (default:Chg) with kind:=1,name:=a4t x,table:=ajr x }
 else if gu (a5e s) (a4t x) < 0 then default
 else
  let t:=np (a5e s) (a4t x)
  if k = 1 then { (default:Chg) with kind:=2,name:=t.name,row:=ajs x }
  else if ¬ 0 ≤ dv t.rows x.id then default
  else if k = 2 then { (default:Chg) with kind:=3,name:=t.name,row:=t.rows.getD (max (dv t.rows x.id) 0).toNat default }
  else { (default:Chg) with kind:=4,name:=t.name,row:=t.rows.getD (max (dv t.rows x.id) 0).toNat default,attr:=x.attr,value:=ofV x.value }
def ati (s:Stt) (x:Opn):Int :=
 let k:=x.kind.toNat % 9
 if k = 0 then a2q (a5e s) (ajr x)
 else if gu (a5e s) (a4t x) < 0 then 4
 else
  let t:=np (a5e s) (a4t x)
  if k = 1 then qv t (ajs x)
  else if ¬ 0 ≤ dv t.rows x.id then 4
  else if k = 2 then 0
  else vz t x.id x.attr (ofV x.value)
structure aoo (s:Stt):Prop where
 ld:s.done.flatten.length ≤ 68719476736
 ln:s.now.length ≤ 68719476736
 lt:s.done.length ≤ 68719476736
 lu:s.undone.length ≤ 68719476736
 ok:amf (jr s)
structure auz (x:Opn):Prop where
 lv:x.vals.length ≤ 68719476736
 lr:x.t.rows.length ≤ 68719476736
theorem aoo.V {s:Stt} (_:aoo s):dbV (a5e s):=aed ab2
end Go.Hx
end
