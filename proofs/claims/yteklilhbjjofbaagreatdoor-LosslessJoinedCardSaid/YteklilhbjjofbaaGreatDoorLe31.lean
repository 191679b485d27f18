/- A part of the proof: Jrw1 Jp2 Jb1 Jp3 Jp6 Jp7 Jp8 Jp9 Tb7. -/
import Derived.Test.YteklilhbjjofbaaGreatDoorLe30
set_option linter.all false
set_option maxRecDepth 100000
set_option maxHeartbeats 1000000
namespace Go.Hx
section
open Go.Proofs
def aex (r:Row) (s:AS) (hl:r.vals.length <= 68719476736):aa b65 117 [r.pc,pA s] (af [pP (vals (sel r.vals s))]):=by
 refine hpx (nt:=26) Tryz.func117 ?_;refine sx7 ?_;refine m9 0 ?_;refine su ?_;refine gn 5 900 true 3 114 (lf Val.c []) b5n rfl (CoP.sl rfl (.inr rfl) (fun h=>h) (fun i j hi _=>absurd hi (b2o i))) (.inr rfl) rfl ?_;refine c7 (ka 1 (ka 2 kn)) (kb 0 km) (fun i=>⟨[(5,some (.v (.one (.ref 900 (sel (r.vals.take i) s).length)))),(6,some (vI i))],[(900,some (.arr true 3 114 (sel (r.vals.take i) s).length (lf Val.c (sel (r.vals.take i) s))))]⟩) r.vals.length ⟨⟨⟨_,rfl,(CoR.refl _)⟩,tt⟩,uu⟩ ?_;rintro i hi;have hlen:(sel (r.vals.take i) s).length <= i:=b3m aq7 (by rw [b2y];omega);refine w_9 ?_;refine hcd (fun h0=>?_) (fun h0=>?_)
 ·
  refine w_7 ?_;refine qcx (wgx Tryz.func119) (azg s i) ?_;refine cg ?_;refine aj _ rfl (fun r1=>?_) (fun r1=>?_)
  ·
   have h1:=r1;have hh:bt s (i:Int) = true:=r1;refine w_7 ?_;refine m9 1 ?_;refine r9 2 true ?_;refine w_7 ?_
   first | (refine lpz (i + 1) ⟨⟨⟨_, rfl, (gj (a8z b5h hh))⟩, tt⟩, ⟨⟨_, rfl, (n4 (a8z b5h hh) (sw (CoP.refl _) (CoP.refl _) (CoP.refl _)))⟩, uu⟩⟩ ?_; show i + 1 <= _; omega)
         | (refine lpz (i + 1) ⟨⟨⟨_,rfl,(gk (a8p b5h hh))⟩,tt⟩,⟨⟨_,rfl,(dz (a8p b5h hh))⟩,uu⟩⟩ ?_;show i + 1 <= _;omega)
  have h1:=r1;have hh:bt s (i:Int) = false:=r1;refine w_6 ?_
  first | (refine lpz (i + 1) ⟨⟨⟨_, rfl, (gj (a8z b5h hh))⟩, tt⟩, ⟨⟨_, rfl, (n4 (a8z b5h hh) (sw (CoP.refl _) (CoP.refl _) (CoP.refl _)))⟩, uu⟩⟩ ?_; show i + 1 <= _; omega)
        | (refine lpz (i + 1) ⟨⟨⟨_,rfl,(gk (a8p b5h hh))⟩,tt⟩,⟨⟨_,rfl,(dz (a8p b5h hh))⟩,uu⟩⟩ ?_;show i + 1 <= _;omega)
 obtain rfl:i = r.vals.length:=by omega
 rw [show r.vals.take r.vals.length = r.vals from b3w];refine w_2 ?_;refine cz 5 rfl rfl rfl ?_;refine v_4 ?_;exact CoL.refl _
def ax1 (a b:Row) (s:AS) (ha:a.ok) (hb:b.ok):aa b65 77 [a.pc,b.pc,pA s] (af [pB (tz a b s)]):=by
 refine hpx (nt:=14) Tryz.func77 ?_;refine sx7 ?_;refine m9 0 ?_;refine m9 1 ?_;refine w_6 ?_;refine qcx (wgx Tryz.func117) (aex a s ha.1) ?_;refine w_2 ?_;refine qcx (wgx Tryz.func117) (aex b s hb.1) ?_;refine qcx ac4 (c81 (sel a.vals s) (sel b.vals s) (ajx ha.2) (ajx hb.2)) ?_;refine v_3 ?_;exact CoL.refl _
def avn (t:Tbl) (q:AS) (r:Row) (n:Int) (ht:t.ok) (hr:r.ok):aa b65 72 [t.pc,pA q,r.pc,pI n] (af [pB (ly t q r n)]):=by
 refine hpx (nt:=28) Tryz.func72 ?_;have hrl:=ht.2.1;refine sx7 ?_;refine m9 0 ?_;refine m9 1 ?_;refine w_8 ?_;refine ai (ι:=Nat) (ka 1 (ka 3 (ka 4 (ka 6 kn)))) (kb 0 (kb 1 km)) (fun i=>⟨[(9,some (vI i))],[]⟩) (fun i=>i <= t.rows.length /\ (∀ j,j < i -> tz (t.rows.getD j default) r (q &&& b5 n) = false)) (fun i=>t.rows.length - i) (0) (⟨b2n _,bh⟩) kk ?_;rintro i ⟨hi,hIi⟩;refine w_9 ?_;refine hcd (fun h0=>?_) (fun h0=>?_)
 ·
  refine j3 ?_;refine qcx (wgx Tryz.func36) (ake n) ?_;refine qy ?_;refine rc rfl rfl rfl rfl rfl rfl (wgx Tryz.func77) (ax1 (t.rows.getD i default) r (q &&& b5 n) (ht.2.2 i b5h) hr) (⟨CoC.refl _,CoC.refl _,cci (ana _ _),trivial⟩) rfl rfl ?_;refine w_2 ?_;refine hcb (fun h1=>?_) (fun h1=>?_)
  · refine v_4 ?_;exact ⟨ccb (aoi (p:=fun x:Row=>tz x r (q &&& b5 n)) (i:=i) b5h b5i).symm,trivial⟩
  refine w_6 ?_;refine lpz (i + 1) kk ?_;exact ⟨by show i + 1 <= _;omega,ax hIi b5i⟩
 obtain rfl:i = t.rows.length:=by omega
 refine v_5 ?_;exact ⟨ccb (ap0 (p:=fun x:Row=>tz x r (q &&& b5 n)) hIi).symm,trivial⟩
def ax8 (a b:Tbl) (r s:Row) (ha:a.attrs.length <= 16) (hb:b.attrs.length <= 16) (hr:r.vals.length = a.attrs.length) (hs:s.vals.length = b.attrs.length) (okr:r.ok) (oks:s.ok):aa b65 75 [a.pc,b.pc,r.pc,s.pc] (af [.one .any,pB (z8 a b r s)]):=by
 refine hpx (nt:=55) Tryz.func75 ?_;refine sx7 ?_;refine m9 0 ?_;refine m9 1 ?_;refine m9 2 ?_;refine m9 3 ?_;refine w_5 ?_;refine m9 4 ?_;refine w_2 ?_;refine r9 5 true ?_;refine w_8 ?_;refine ai (ι:=Nat × List Val) (ka 4 (ka 5 (ka 6 (ka 7 kn)))) (kb 0 (kb 1 (kb 2 (kb 3 km)))) (fun x=>⟨[(10,some (.v (.one (.ref 4 x.2.length)))),(11,some (vI x.1))],[(4,some (.arr true 3 114 x.2.length (lf Val.c x.2)))]⟩) (fun x=>x.1 <= b.attrs.length /\ x.2.length <= 16 + x.1 /\ ∀ j,j < x.1 -> po a b r s j = true) (fun x=>b.attrs.length - x.1) ((0,r.vals)) (⟨b2n _,by show r.vals.length <= 16 + 0;omega,bh⟩) ⟨⟨⟨_,rfl,(ig (by show 0 + r.vals.length = r.vals.length;omega))⟩,tt⟩,⟨⟨_,rfl,(al3 rfl fun i j hi hj=>CoP.refl _)⟩,trivial⟩⟩ ?_;rintro x ⟨hx1,hx2,hxI⟩;refine w_9 ?_;refine hcd (fun h0=>?_) (fun h0=>?_)
 ·
  refine su ?_;refine qcx (wgx Tryz.func115) (auc a.attrs (b.attrs.getD x.1 default)) ?_;refine w_8 ?_;refine hcd (fun h1=>?_) (fun h1=>?_)
  ·
   have hneg:(lq a.attrs (b.attrs.getD x.1 default)) < 0:=h1;refine w_7 ?_;refine m9 6 ?_;refine r9 7 true ?_;refine w_7 ?_
   first | (refine lpz (x.1 + 1, x.2 ++ [s.vals.getD x.1 default]) ⟨⟨⟨_, rfl, (gj rfl)⟩, ⟨_, rfl, (coi b5q)⟩, tt⟩, ⟨⟨_, rfl, (n4 rfl (sw (CoP.refl _) (CoP.refl _) (CoP.refl _)))⟩, uu⟩⟩ ?_; exact ⟨by show x.1 + 1 <= _; omega, by simp only [b2v, b3q]; omega, ax hxI (by unfold po; rw [decide_eq_true hneg]; rfl)⟩)
         | (refine lpz (x.1 + 1,x.2) ⟨⟨zy,⟨_,rfl,(coi b5m)⟩,tt⟩,uu⟩ ?_;exact ⟨by show x.1 + 1 <= _;omega,by dsimp only;omega,ax hxI (by unfold po;rw [show decide (dl _ _ = 0) = true from decide_eq_true b5i,Bool.or_true])⟩)
  have hnn:¬ (lq a.attrs (b.attrs.getD x.1 default)) < 0:=h1;refine w_5 ?_;refine rq rfl rfl rfl rfl rfl ?_ (hp:=⟨rfl,by omega,by have:=a9m (p:=fun y=>decide (y = b.attrs.getD x.1 default)) (l:=a.attrs);unfold lq at *;omega⟩);refine w_6 ?_;refine qcx (wgx Tryz.func112) (asn (r.vals.getD (lq a.attrs (b.attrs.getD x.1 default)).toNat default) (s.vals.getD x.1 default) (okr.2 _ (by have:=a9m (p:=fun y=>decide (y = b.attrs.getD x.1 default)) (l:=a.attrs);unfold lq at *;omega)) (oks.2 x.1 b5h)) ?_;refine w_3 ?_;refine hcn (fun h2=>?_) (fun h2=>?_)
  · refine v_5 ?_;exact ⟨CoC.one CoP.any_of,ccb (k7 (p:=po a b r s) (i:=x.1) b5h (by unfold po;rw [decide_eq_false hnn,show decide (dl _ _ = 0) = false from decide_eq_false b5i];rfl)).symm,trivial⟩
  refine w_6 ?_
  first | (refine lpz (x.1 + 1, x.2 ++ [s.vals.getD x.1 default]) ⟨⟨⟨_, rfl, (gj rfl)⟩, ⟨_, rfl, (coi b5q)⟩, tt⟩, ⟨⟨_, rfl, (n4 rfl (sw (CoP.refl _) (CoP.refl _) (CoP.refl _)))⟩, uu⟩⟩ ?_; exact ⟨by show x.1 + 1 <= _; omega, by simp only [b2v, b3q]; omega, ax hxI (by unfold po; rw [decide_eq_true hneg]; rfl)⟩)
        | (refine lpz (x.1 + 1,x.2) ⟨⟨zy,⟨_,rfl,(coi b5m)⟩,tt⟩,uu⟩ ?_;exact ⟨by show x.1 + 1 <= _;omega,by dsimp only;omega,ax hxI (by unfold po;rw [show decide (dl _ _ = 0) = true from decide_eq_true b5i,Bool.or_true])⟩)
 have hxe:x.1 = b.attrs.length:=by omega
 refine w_2 ?_;refine cz 10 rfl rfl rfl ?_;refine v_5 ?_;exact ⟨CoC.one CoP.any_of,ccb (qa (p:=po a b r s) (fun j hj=>hxI j b5h)).symm,trivial⟩
def wt:goodFn b65 34:=wgx Tryz.func34
def lb (a b:Tbl) (ha:TOk a) (hb:TOk b):aa b65 34 [a.pc,b.pc] (af [pB (afx a b)]):=by
 refine hpx (nt:=46) Tryz.func34 ?_;have hna:=ha.na;have hnb:=hb.na;have hra:=ha.nr;have hrb:=hb.nr;refine sx7 ?_;refine m9 0 ?_;refine m9 1 ?_;refine w_8 ?_;refine ai (ι:=Nat) (ka 2 (ka 3 kn)) (kb 0 (kb 1 km)) (fun i=>⟨[(5,some (vI i))],[]⟩) (fun i=>i <= b.rows.length /\ (∀ j,j < i -> (a.rows.any fun r=>z8 a b r (b.rows.getD j default)) = true)) (fun i=>b.rows.length - i) (0) (⟨b2n _,bh⟩) kk ?_;rintro i ⟨hi,hIi⟩;refine w_9 ?_;refine hcd (fun h0=>?_) (fun h0=>?_)
 ·
  refine j3 ?_;refine c7 (ka 2 (ka 3 (ka 5 kn))) (kb 0 (kb 1 km)) (fun k=>⟨[(6,some (vB ((a.rows.take k).any fun r=>z8 a b r (b.rows.getD i default)))),(7,some (vI k))],[]⟩) a.rows.length ⟨⟨⟨_,rfl,(cob rfl)⟩,tt⟩,trivial⟩ ?_;rintro k hk;refine w_9 ?_;refine hcd (fun h1=>?_) (fun h1=>?_)
  ·
   refine v2 ?_;refine qcx (wgx Tryz.func75) (ax8 a b (a.rows.getD k default) (b.rows.getD i default) hna hnb (ha.width b5h) (hb.width b5h) (ha.ok.2.2 k b5h) (hb.ok.2.2 i b5h)) ?_;refine dy ?_;refine ab rfl rfl (fun r2=>?_) (fun r2=>?_)
   · have h2:=r2;refine k9 (gtf r2) ?_;refine w_8 ?_;exact lpx (k + 1) ⟨⟨⟨_,rfl,(cob (by rw [bf b5h,List.any_append];simp_all))⟩,tt⟩,uu⟩
   have h2:=r2;refine qy ?_ (hg:=(gff r2));refine w_8 ?_;exact lpx (k + 1) ⟨⟨⟨_,rfl,(cob (by rw [bf b5h,List.any_append];simp_all))⟩,tt⟩,uu⟩
  obtain rfl:k = a.rows.length:=by omega
  rw [show a.rows.take a.rows.length = a.rows from b3w];refine w_6 ?_;refine hcv (fun h3=>?_) (fun h3=>?_)
  · refine v_4 ?_;exact ⟨ccb (a4v (p:=fun s:Row=>a.rows.any fun r=>z8 a b r s) (i:=i) b5h b5r).symm,trivial⟩
  refine w_6 ?_;refine lpz (i + 1) kk ?_;exact ⟨by show i + 1 <= _;omega,ax hIi b5r⟩
 obtain rfl:i = b.rows.length:=by omega
 refine v_5 ?_;exact ⟨ccb (a51 (p:=fun s:Row=>a.rows.any fun r=>z8 a b r s) hIi).symm,trivial⟩
end
section
section
variable {R:List Row} {ps:List AS} {cols:List (List Val)} {s:AS} {n:Nat}
def acn:∀ {l m:List Val} {a:Nat},l.length = m.length -> (fm s a l = fm s a m <-> ∀ i,i < l.length -> bt s ((a + i:Nat):Int) = true -> l.getD i default = m.getD i default)
 | [],[],a,_=>⟨fun _ i hi _=>absurd hi (b2o i),fun _=>rfl⟩
 | [],_ :: _,_,h=>by simp at h
 | _ :: _,[],_,h=>by simp at h
 | v :: l,w :: m,a,hl=>by
  have hl2:l.length = m.length:=by simpa using hl
  have ih:=acn (l:=l) (m:=m) (a:=a + 1) hl2;unfold fm;by_cases hs:bt s (a:Int) = true
  · rw [if_pos hs,if_pos hs,b4w,ih]
    constructor
    · rintro ⟨h1,h2⟩ i hi hh
      cases i with
      | zero=>exact h1
      | succ i=>exact h2 i (by simpa using hi) (by rw [show a + 1 + i = a + (i + 1) by omega];exact hh)
    intro h;refine ⟨h 0 b5k hs,fun i hi hh=>?_⟩;exact h (i + 1) (by simpa using hi) (by rw [show a + (i + 1) = a + 1 + i by omega];exact hh)
  rw [if_neg hs,if_neg hs,ih];constructor
  · intro h i hi hh
    cases i with
    | zero=>exact absurd hh hs
    | succ i=>exact h i (by simpa using hi) (by rw [show a + 1 + i = a + (i + 1) by omega];exact hh)
  intro h i hi hh;exact h (i + 1) (by simpa using hi) (by rw [show a + (i + 1) = a + 1 + i by omega];exact hh)
def p8 {l m:List Val} (hl:l.length = m.length):sel l s = sel m s <-> ∀ i:Nat,i < l.length -> bt s (i:Int) = true -> l.getD i default = m.getD i default:=by
 unfold sel;rw [acn hl];constructor <;> intro h i hi hh
 · exact h i hi (by rw [b30];exact hh)
 exact h i hi (by rw [b30] at hh;exact hh)
def okJ (R:List Row) (ps:List AS) (vs:List Val):Bool:=ps.all fun s=>jr R s vs.length (ff vs s)
def mw (R:List Row) (ps:List AS) (cols:List (List Val)):Nat -> List Val -> List (List Val)
 | 0,vs=>if okJ R ps vs = true then [vs] else []
 | d + 1,vs=>if okJ R ps vs = true then (cols.getD vs.length default).flatMap fun v=>mw R ps cols d (vs ++ [v]) else []
def aif (hp:0 < ps.length) {vs:List Val} {m:Nat} (h:1000 < m):io R ps vs m = true:=by
 unfold io;rw [b3g];exact ⟨_,b2q hp,by simp [kg,h]⟩
def aml {vs:List Val} {m:Nat} (h:m <= 1000):io R ps vs m = !okJ R ps vs:=by
 unfold io okJ kg;rw [decide_eq_false b5h];simp only [Bool.false_or];rw [List.not_all_eq_any_not]
def a8f {α:Type} {a b:List α} {k:Nat}:(a.take k ++ b).take k = (a ++ b).take k:=by
 rw [List.take_append,List.take_append,List.take_take,Nat.min_self,b2y];by_cases h:a.length <= k
 · rw [Nat.min_eq_right h]
 rw [b3n b5h,Nat.sub_self,show k - a.length = 0 by omega]
def a7w {α β:Type} {f:List α -> β -> List α} {g:β -> List α} {k:Nat} (h:∀ acc b,acc.length <= k -> f acc b = (acc ++ g b).take k):∀ {l:List β} {acc:List α},acc.length <= k -> l.foldl f acc = (acc ++ l.flatMap g).take k
 | [],acc,ha=>by simp [b44 ha]
 | b :: l,acc,ha=>by
  rw [List.foldl_cons,h acc b ha,a7w h (l:=l) (by rw [b2y];omega),a8f,b53,b3o]
def a9u (hp:0 < ps.length):∀ {d:Nat} {vs:List Val} {acc:List (List Val)},acc.length <= 1001 -> dx R ps cols d vs acc = (acc ++ mw R ps cols d vs).take 1001
 | d,vs,acc,h=>by
  by_cases hm:acc.length <= 1000
  · have hs:=aml (R:=R) (ps:=ps) (vs:=vs) hm
    cases hk:okJ R ps vs with
    | false =>
     rw [hk] at hs;have e:mw R ps cols d vs = []:=by cases d <;> (unfold mw;rw [if_neg (by simp [hk])])
     rw [ne hs,e,b3i,b44 h]
    | true =>
     rw [hk] at hs
     cases d with
     | zero =>
      unfold dx mw;rw [if_neg (by rw [hs];decide),if_pos hk,b44 (by rw [b2v,b3q];omega)]
     | succ d =>
      unfold dx mw;rw [if_neg (by rw [hs];decide),if_pos hk];exact a7w (f:=fun acc v=>dx R ps cols d (vs ++ [v]) acc) (g:=fun v=>mw R ps cols d (vs ++ [v])) (fun acc b ha=>a9u hp ha) h
  have hs:=aif (R:=R) hp (vs:=vs) (m:=acc.length) b5h;rw [ne hs,List.take_append,b44 h,show 1001 - acc.length = 0 by omega,List.take_zero,b3i]
def aii (hp:0 < ps.length):gw R ps n = (mw R ps (be R n) n []).take 1001:=by
 unfold gw;rw [a9u hp (b2n _),b42]
def oj:∀ {d:Nat} {vs w:List Val},w ∈ mw R ps cols d vs <-> ∃ u,w = vs ++ u /\ u.length = d /\ (∀ j,j < d -> u.getD j default ∈ cols.getD (vs.length + j) default) /\ ∀ j,j <= d -> okJ R ps (vs ++ u.take j) = true
 | 0,vs,w=>by
  unfold mw;constructor
  · intro h
    split at h
    · rename_i hk
      have h:w = vs:=by simpa using h
      subst h;exact ⟨[],by simp,rfl,fun j hj=>absurd hj (b2o j),fun j _=>by simpa using hk⟩
    cases h
  rintro ⟨u,rfl,hl,_,hk⟩;obtain rfl:u = []:=b3z hl;have:=hk 0 (b2j _);rw [List.take_nil,b3i] at this;rw [if_pos this];simp
 | d + 1,vs,w=>by
  unfold mw;constructor
  · intro h
    split at h
    · rename_i hk
      obtain ⟨v,hv,hw⟩:=List.mem_flatMap.1 h;obtain ⟨u,rfl,hl,h1,h2⟩:=oj.1 hw;refine ⟨v :: u,by simp,by simp [hl],fun j hj=>?_,fun j hj=>?_⟩
      · cases j with
        | zero=>exact hv
        | succ j =>
         have:=h1 j b5h;rw [b2v,b3q,show vs.length + 1 + j = vs.length + (j + 1) by omega] at this;exact this
      cases j with
      | zero=>simpa using hk
      | succ j =>
       have:=h2 j b5h;rw [b3o] at this;exact this
    cases h
  rintro ⟨u,rfl,hl,h1,h2⟩;have h0:=h2 0 (b2n _);rw [List.take_zero,b3i] at h0;rw [if_pos h0]
  cases u with
  | nil=>simp at hl
  | cons v u =>
   refine List.mem_flatMap.2 ⟨v,h1 0 b5h,oj.2 ⟨u,by simp,by simpa using hl,fun j hj=>?_,fun j hj=>?_⟩⟩
   · have:=h1 (j + 1) b5h
     rw [b2v,b3q,show vs.length + 1 + j = vs.length + (j + 1) by omega];exact this
   have:=h2 (j + 1) b5h;rw [b3o];exact this
def ait {p x y:List Val}:br (p ++ x) (p ++ y) = br x y:=by
 induction p with
 | nil=>rfl
 | cons v p ih =>
  rw [b43,b43,br,if_neg (by rw [j7.self];simp),ih]
def a9x (hc:∀ a,Asc dl (cols.getD a default)):∀ {d:Nat} {vs:List Val},Asc br (mw R ps cols d vs)
 | 0,vs=>by
  unfold mw;split
  · exact List.pairwise_singleton _ _
  exact List.Pairwise.nil
 | d + 1,vs=>by
  unfold mw;split
  · refine List.pairwise_flatMap.2 ⟨fun v _=>a9x hc,(hc vs.length).imp fun {v w} hvw x hx y hy=>?_⟩
    obtain ⟨u,rfl,_⟩:=oj.1 hx;obtain ⟨u',rfl,_⟩:=oj.1 hy;rw [b3o,b3o,ait];exact yd.2 (.inl hvw)
  exact List.Pairwise.nil
def ajl (a:Nat):Asc dl ((be R n).getD a default):=by
 by_cases h:a < n
 · rw [qn h]
   exact a9z
 rw [show (be R n).getD a default = [] by simp [be,List.getD,h];rfl];exact List.Pairwise.nil
def mj (R:List Row) (ps:List AS) (n:Nat):List (List Val):=mw R ps (be R n) n []
def aay:Asc br (mj R ps n):=a9x ajl
def a2a (hp:0 < ps.length):gw R ps n = (mj R ps n).take 1001:=aii hp
def abd {r:Row} (hr:r ∈ R) (he:∀ r ∈ R,∀ v ∈ r.vals,eu v) {k:Nat}:∀ v ∈ r.vals.take k,eu v:=fun v hv=>he r hr v (b54 hv)
def ae7 (he:∀ r ∈ R,∀ v ∈ r.vals,eu v) (hw:∀ r ∈ R,r.vals.length = n) {w:List Val} (hl:w.length <= n) (hn:n <= 16) (hv:∀ v ∈ w,eu v) :
 okJ R ps w = true <-> ∀ s ∈ ps,∃ r ∈ R,sel (r.vals.take w.length) s = sel w s:=by
 unfold okJ jr;rw [b3c];constructor
 · intro h s hs
   have:=h s hs;obtain ⟨r,hr,e⟩:=b3g.1 this;refine ⟨r,hr, ?_⟩;have hlen:(r.vals.take w.length).length = w.length:=by rw [b2y,hw r hr];omega
   exact (abw hlen b5h (abd hr he) hv).1 (of_decide_eq_true e)
 intro h s hs;obtain ⟨r,hr,e⟩:=h s hs;refine b3g.2 ⟨r,hr,decide_eq_true ?_⟩;have hlen:(r.vals.take w.length).length = w.length:=by rw [b2y,hw r hr];omega
 exact (abw hlen b5h (abd hr he) hv).2 e
def ac6 (he:∀ r ∈ R,∀ v ∈ r.vals,eu v) (hw:∀ r ∈ R,r.vals.length = n) (hn:n <= 16) (hf:orL ps = b5 n) {w:List Val} :
 w ∈ mj R ps n <-> w.length = n /\ ∀ s ∈ ps,∃ r ∈ R,sel r.vals s = sel w s:=by
 unfold mj;rw [oj];constructor
 · rintro ⟨u,e0,hl,h1,h2⟩
   rw [b42] at e0;subst e0;refine ⟨hl, ?_⟩;have h3:=h2 n (b2j _);rw [b42,b44 b5h] at h3
   have hu:∀ v ∈ w,eu v:=fun v hv=>by
    obtain ⟨j,hj,e⟩:=b35 hv;have:=h1 j b5h;rw [b4x,b30,qn b5h,a3a] at this;obtain ⟨r,hr,e2⟩:=this;have hjr:j < r.vals.length:=by rw [hw r hr];omega
    have e3:v = r.vals.getD j default:=by rw [e2,b9 _ _ hj,e]
    rw [e3,b9 _ _ hjr];exact he r hr _ (b2q hjr)
   have h4:=(ae7 he hw b5h hn hu).1 h3;intro s hs;obtain ⟨r,hr,e⟩:=h4 s hs;rw [b44 (by rw [hw r hr];omega)] at e;exact ⟨r,hr,e⟩
 rintro ⟨hl,h⟩
 have hcol:∀ j,j < n -> ∃ r ∈ R,r.vals.getD j default = w.getD j default:=fun j hj=>by
  have hb:bt (orL ps) (j:Int) = true:=by
   rw [hf,ew b5h];unfold b5;rw [b3n b5h,jh _ _ b5h];simpa using hj
  have:∃ s ∈ ps,bt s (j:Int) = true:=by
   rw [ew b5h] at hb;unfold orL at hb;rw [a0j,b3s] at hb
   rcases hb with hb | hb
   · simp at hb
   obtain ⟨s,hs,hh⟩:=b3g.1 hb;exact ⟨s,hs,by rw [ew b5h];exact hh⟩
  obtain ⟨s,hs,hh⟩:=this;obtain ⟨r,hr,e⟩:=h s hs;exact ⟨r,hr,(p8 ((hw r hr).trans hl.symm)).1 e j (by rw [hw r hr];exact hj) hh⟩
 have hu:∀ v ∈ w,eu v:=fun v hv=>by
  obtain ⟨j,hj,e⟩:=b35 hv;obtain ⟨r,hr,e2⟩:=hcol j b5h;have hjr:j < r.vals.length:=by rw [hw r hr];omega
  have e3:v = r.vals.getD j default:=by rw [e2,b9 _ _ hj,e]
  rw [e3,b9 _ _ hjr];exact he r hr _ (b2q hjr)
 refine ⟨w,rfl,hl,fun j hj=>?_,fun j hj=>?_⟩
 · rw [b4x,b30,qn hj,a3a]
   exact hcol j hj
 rw [b42];have hjl:(w.take j).length = j:=by rw [b2y];omega
 rw [ae7 he hw b5h hn fun v hv=>hu v (b54 hv)];intro s hs;obtain ⟨r,hr,e⟩:=h s hs;refine ⟨r,hr, ?_⟩;rw [hjl];have hrl:=hw r hr;rw [p8 (by rw [b2y,b2y];omega)];intro i hi hh;rw [b2y] at hi;have h5:=(p8 (hrl.trans hl.symm)).1 e i b5h hh;simpa [List.getD,b3d,show i < j by omega] using h5
end
end
section
section
variable {n:Int} {ps:List AS} {p m:List Fd}
end
def sgB (n:Int) (c:AS) (z:Int):Int:=if bt c (z % n) = true then z % n else z
section
variable {n:Int} {P Q:AS} {p:List Fd}
def a7h {a b:AS} {i:Int}:bt (a &&& b) i = (bt a i && bt b i):=by
 unfold bt;rw [b3y];cases decide (0 <= i /\ i < 32) <;> simp
end
end
section
section
variable {t:Tbl} {d:Fd}
def s8 {R:List Row} {a:Row} (h:a ∈ R):∃ i,i < R.length /\ R.getD i default = a:=by
 obtain ⟨i,hi,e⟩:=b35 h;exact ⟨i,hi,by rw [b9 _ _ hi,e]⟩
end
def aid {n i:Nat} (hn:n <= 16) (hi:i < n):bt (b5 (n:Int)) (i:Int) = true:=by
 rw [ew b5h];unfold b5;rw [b3n b5h,jh _ _ b5h];simpa using hi
section
variable {n:Int} {ps:List AS} {p m:List Fd}
end
def sgT (n:Nat) (w:List Val) (f:Nat -> Row) (z:Int):Val:=if z < (n:Int) then w.getD z.toNat default else (f (z / n - 1).toNat).vals.getD (z % n).toNat default
end
section
def okW (t:Tbl) (ps:List AS) (a:Nat) (acc:List (List Val)) (w:List Val):Bool:=!acc.contains w && ps.all fun s=>ly t s ⟨0,w⟩ ((a:Int) + 1)
def qr (t:Tbl) (ps:List AS) (a:Nat) (acc:List (List Val)) (w:List Val):List (List Val):=if okW t ps a acc w = true then acc ++ [w] else acc
def ce (t:Tbl) (ps:List AS) (a:Nat) (l:List Val) (acc:List (List Val)) (k:Nat):List (List Val):=(t.rows.take k).foldl (fun acc r=>qr t ps a acc (l.set a (r.vals.getD a default))) acc
def bj (t:Tbl) (ps:List AS) (a:Nat) (L:List (List Val)) (i:Nat):List (List Val):=(L.take i).foldl (fun acc l=>ce t ps a l acc t.rows.length) []
def a8 (t:Tbl) (ps:List AS) (n:Nat):Nat -> List (List Val)
 | 0=>if t.rows.length = 0 then [] else [List.replicate n default]
 | a + 1=>bj t ps a (a8 t ps n a) (a8 t ps n a).length
section
variable {t:Tbl} {ps:List AS} {a n:Nat}
section
variable {acc:List (List Val)} {l:List Val}
def ji:ce t ps a l acc 0 = acc:=by unfold ce;rw [List.take_zero];rfl
def jl {k:Nat} (hk:k < t.rows.length):ce t ps a l acc (k + 1) = qr t ps a (ce t ps a l acc k) (l.set a ((t.rows.getD k default).vals.getD a default)):=by
 unfold ce;rw [bf hk,b4t];rfl
variable {L:List (List Val)}
def nj {i:Nat} (hi:i < L.length):bj t ps a L (i + 1) = ce t ps a (L.getD i default) (bj t ps a L i) t.rows.length:=by
 unfold bj;rw [bf hi,b4t];rfl
variable {w z:List Val}
def amq:z ∈ qr t ps a acc w <-> z ∈ acc \/ (z = w /\ ps.all (fun s=>ly t s ⟨0,w⟩ ((a:Int) + 1)) = true):=by
 unfold qr okW;by_cases h1:acc.contains w = true
 · rw [if_neg (by rw [h1];simp)]
   constructor
   · exact .inl
   rintro (h | ⟨rfl,_⟩)
   · exact h
   exact List.contains_iff_mem.1 h1
 have h1:acc.contains w = false:=by simpa using h1
 rw [h1];by_cases h2:ps.all (fun s=>ly t s ⟨0,w⟩ ((a:Int) + 1)) = true
 · rw [if_pos (by rw [h2];rfl),b2z,b2u]
   constructor
   · rintro (h | h)
     · exact .inl h
     exact .inr ⟨h,h2⟩
   rintro (h | ⟨h,_⟩)
   · exact .inl h
   exact .inr h
 rw [if_neg (by simpa using h2)];constructor
 · exact .inl
 rintro (h | ⟨_,h⟩)
 · exact h
 exact absurd h h2
def alu (h:acc.Nodup):(qr t ps a acc w).Nodup:=by
 unfold qr okW;split
 · rename_i h1
   rw [b2p,b3k] at h1;refine List.nodup_append.2 ⟨h,List.nodup_cons.2 ⟨by simp,List.nodup_nil⟩,fun x hx y hy e=>?_⟩;have hy:y = w:=by simpa using hy
   subst e hy;have:=List.contains_iff_mem.2 hx;rw [this] at h1;simp at h1
 exact h
def acr:∀ {k:Nat},k <= t.rows.length -> (z ∈ ce t ps a l acc k <-> z ∈ acc \/ ∃ r ∈ t.rows.take k,z = l.set a (r.vals.getD a default) /\ ps.all (fun s=>ly t s ⟨0,z⟩ ((a:Int) + 1)) = true)
 | 0,_=>by rw [ji];simp
 | k + 1,hk=>by
  rw [jl hk,amq,acr b5h,bf hk];constructor
  · rintro ((h | ⟨r,hr,h1,h2⟩) | ⟨h1,h2⟩)
    · exact .inl h
    · exact .inr ⟨r,b2t _ hr,h1,h2⟩
    exact .inr ⟨_,b2x _ (b2u.2 rfl),h1,by rw [h1];exact h2⟩
  rintro (h | ⟨r,hr,h1,h2⟩)
  · exact .inl (.inl h)
  rcases b2z.1 hr with hr | hr
  · exact .inl (.inr ⟨r,hr,h1,h2⟩)
  have:=b2u.1 hr;subst this;exact .inr ⟨h1,by rw [<- h1];exact h2⟩
def a9d (h:acc.Nodup):∀ {k:Nat},k <= t.rows.length -> (ce t ps a l acc k).Nodup
 | 0,_=>by rw [ji];exact h
 | k + 1,hk=>by rw [jl hk];exact alu (a9d h b5h)
def act:∀ {i:Nat},i <= L.length -> (z ∈ bj t ps a L i <-> ∃ l ∈ L.take i,∃ r ∈ t.rows,z = l.set a (r.vals.getD a default) /\ ps.all (fun s=>ly t s ⟨0,z⟩ ((a:Int) + 1)) = true)
 | 0,_=>by unfold bj;simp
 | i + 1,hi=>by
  rw [nj hi,acr (b2j _),act b5h,bf hi,b3w];constructor
  · rintro (⟨l,hl,h⟩ | h)
    · exact ⟨l,b2t _ hl,h⟩
    exact ⟨_,b2x _ (b2u.2 rfl),h⟩
  rintro ⟨l,hl,h⟩
  rcases b2z.1 hl with hl | hl
  · exact .inl ⟨l,hl,h⟩
  have:=b2u.1 hl;subst this;exact .inr h
def ac9:∀ {i:Nat},i <= L.length -> (bj t ps a L i).Nodup
 | 0,_=>by unfold bj;simp
 | i + 1,hi=>by rw [nj hi];exact a9d (ac9 b5h) (b2j _)
def a63:(a8 t ps n a).Nodup:=by
 cases a with
 | zero =>
  unfold a8;split
  · exact List.nodup_nil
  exact List.nodup_cons.2 ⟨by simp,List.nodup_nil⟩
 | succ a=>exact ac9 (b2j _)
def ahe {k:Nat} {j:Nat} (hk:k <= 16) (hj:j < 32):bt (b5 (k:Int)) (j:Int) = decide (j < k):=by
 rw [ew hj];unfold b5;rw [b3n b5h,jh _ _ hj];simp
def a7d {s:AS} (hw:∀ r ∈ t.rows,r.vals.length = n) (hl:w.length = n) (hn:n <= 16) (ha:a < n):ly t s ⟨0,w⟩ ((a:Int) + 1) = true <-> ∃ r ∈ t.rows,∀ j:Nat,j < a + 1 -> bt s (j:Int) = true -> r.vals.getD j default = w.getD j default:=by
 unfold ly tz;rw [b3g]
 have key:∀ r ∈ t.rows,(decide (sel r.vals (s &&& b5 ((a:Int) + 1)) = sel w (s &&& b5 ((a:Int) + 1))) = true <-> ∀ j:Nat,j < a + 1 -> bt s (j:Int) = true -> r.vals.getD j default = w.getD j default):=fun r hr=>by
  have hlr:=hw r hr;rw [decide_eq_true_iff,p8 (hlr.trans hl.symm)];have hf:∀ j:Nat,j < 32 -> bt (b5 ((a:Int) + 1)) (j:Int) = decide (j < a + 1):=fun j hj=>ahe (k:=a + 1) b5h hj;constructor
  · intro h j hj hh
    exact h j b5h (by rw [a7h,hh,hf j b5h];simpa using hj)
  intro h j hj hh;rw [a7h,hf j b5h,b2p,decide_eq_true_iff] at hh;exact h j hh.2 hh.1
 constructor
 · rintro ⟨r,hr,h⟩
   exact ⟨r,hr,(key r hr).1 h⟩
 rintro ⟨r,hr,h⟩;exact ⟨r,hr,(key r hr).2 h⟩
structure LvM (t:Tbl) (ps:List AS) (n a:Nat) (w:List Val):Prop where
 len:w.length = n
 rest:∀ j,a <= j -> j < n -> w.getD j default = default
 col:∀ j,j < a -> ∃ r ∈ t.rows,r.vals.getD j default = w.getD j default
 agr:∀ s ∈ ps,∃ r ∈ t.rows,∀ j:Nat,j < a -> bt s (j:Int) = true -> r.vals.getD j default = w.getD j default
def n7 {a j:Nat} {v:Val} (ha:a < l.length):(l.set a v).getD j default = if j = a then v else l.getD j default:=by
 by_cases h:j = a
 · subst h
   rw [if_pos rfl,f4 ha]
 rw [if_neg h,getD_set_ne' h]
def a74 (hp:0 < ps.length) (hw:∀ r ∈ t.rows,r.vals.length = n) (hn:n <= 16):∀ {a:Nat} {w:List Val},a <= n -> (w ∈ a8 t ps n a <-> LvM t ps n a w)
 | 0,w,_=>by
  unfold a8;constructor
  · intro h
    split at h
    · cases h
    rename_i h0;have h:w = List.replicate n default:=by simpa using h
    subst h;refine ⟨b4z,fun j _ hj=>by simp [List.getD,hj],fun j hj=>absurd hj (b2o j),fun s _=>⟨t.rows.getD 0 default,by rw [b9 _ _ b5h];exact b2q _,fun j hj=>absurd hj (b2o j)⟩⟩
  intro h;obtain ⟨r,hr,_⟩:=h.agr _ (b2q hp);rw [if_neg (by have:=List.length_pos_of_mem hr;omega),b2u];refine List.ext_getElem (by rw [h.len,b4z]) fun i h1 h2=>?_;have:=h.rest i (b2n _) (by rw [<- h.len];exact h1);rw [b9 _ _ h1] at this;rw [this,List.getElem_replicate]
 | a + 1,w,ha=>by
  show w ∈ bj t ps a (a8 t ps n a) (a8 t ps n a).length <-> _;rw [act (b2j _),b3w];constructor
  · rintro ⟨l,hl,r,hr,rfl,h2⟩
    have hM:=(a74 hp hw hn b5h).1 hl;have hal:a < l.length:=by rw [hM.len];omega
    have hlen:(l.set a (r.vals.getD a default)).length = n:=by rw [b4h,hM.len]
    refine ⟨hlen,fun j h3 h4=>?_,fun j hj=>?_,fun s hs=>?_⟩
    · rw [n7 hal,if_neg b5h]
      exact hM.rest j b5h h4
    · rw [n7 hal]
      by_cases e:j = a
      · subst e
        rw [if_pos rfl];exact ⟨r,hr,rfl⟩
      rw [if_neg e];exact hM.col j b5h
    exact (a7d hw hlen hn b5h).1 (b3c.1 h2 s hs)
  intro hM;have hwa:a < w.length:=by rw [hM.len];omega
  obtain ⟨r,hr,er⟩:=hM.col a b5h
  have hset:(w.set a default).set a (r.vals.getD a default) = w:=by
   rw [List.set_set,er,b9 _ _ hwa,List.set_getElem_self]
  refine ⟨w.set a default,(a74 hp hw hn b5h).2 ⟨by rw [b4h,hM.len],fun j h3 h4=>?_,fun j hj=>?_,fun s hs=>?_⟩,r,hr,hset.symm, ?_⟩
  · rw [n7 hwa]
    by_cases e:j = a
    · rw [if_pos e]
    rw [if_neg e];exact hM.rest j b5h h4
  · obtain ⟨x,hx,e⟩:=hM.col j b5h
    exact ⟨x,hx,by rw [n7 hwa,if_neg b5h];exact e⟩
  · obtain ⟨x,hx,e⟩:=hM.agr s hs
    exact ⟨x,hx,fun j hj hh=>by rw [n7 hwa,if_neg b5h];exact e j b5h hh⟩
  rw [b3c];intro s hs;exact (a7d hw hM.len hn b5h).2 (hM.agr s hs)
def a6d (hp:0 < ps.length) (he:∀ r ∈ t.rows,∀ v ∈ r.vals,eu v) (hw:∀ r ∈ t.rows,r.vals.length = n) (hn:n <= 16) (hf:orL ps = b5 (n:Int)):w ∈ a8 t ps n n <-> w ∈ mj t.rows ps n:=by
 rw [a74 hp hw hn (b2j _),ac6 he hw hn hf];constructor
 · intro h
   refine ⟨h.len,fun s hs=>?_⟩;obtain ⟨r,hr,e⟩:=h.agr s hs;exact ⟨r,hr,(p8 ((hw r hr).trans h.len.symm)).2 fun j hj hh=>e j (by rw [<- hw r hr];exact hj) hh⟩
 rintro ⟨hl,h⟩;refine ⟨hl,fun j h1 h2=>by omega,fun j hj=>?_,fun s hs=>?_⟩
 · have hb:bt (orL ps) (j:Int) = true:=by rw [hf];exact aid hn hj
   rw [ew b5h] at hb;unfold orL at hb;rw [a0j,b3s] at hb
   rcases hb with hb | hb
   · simp at hb
   obtain ⟨s,hs,hh⟩:=b3g.1 hb;obtain ⟨r,hr,e⟩:=h s hs;exact ⟨r,hr,(p8 ((hw r hr).trans hl.symm)).1 e j (by rw [hw r hr];exact hj) (by rw [ew b5h];exact hh)⟩
 obtain ⟨r,hr,e⟩:=h s hs;exact ⟨r,hr,fun j hj hh=>(p8 ((hw r hr).trans hl.symm)).1 e j (by rw [hw r hr];exact hj) hh⟩
def ape (hp:0 < ps.length) (he:∀ r ∈ t.rows,∀ v ∈ r.vals,eu v) (hw:∀ r ∈ t.rows,r.vals.length = n) (hn:n <= 16) (hf:orL ps = b5 (n:Int)):(a8 t ps n n).length = (mj t.rows ps n).length:=by
 have h1:=(a63 (t:=t) (ps:=ps) (n:=n) (a:=n)).length_le_of_subset fun w hw'=>(a6d hp he hw hn hf).1 hw';have h2:=(ku.nodup (aay (R:=t.rows) (ps:=ps) (n:=n))).length_le_of_subset fun w hw'=>(a6d hp he hw hn hf).2 hw';omega
def ap4 (hp:0 < ps.length) (he:∀ r ∈ t.rows,∀ v ∈ r.vals,eu v) (hw:∀ r ∈ t.rows,r.vals.length = n) (hn:n <= 16) (hf:orL ps = b5 (n:Int)) {S:List (List Val)} (hS:Asc br S) (hm:∀ w,w ∈ S <-> w ∈ a8 t ps n n):S = mj t.rows ps n :=
 ku.ext hS aay fun w=>(hm w).trans (a6d hp he hw hn hf)
end
end
end
section
def swL {α:Type} [Inhabited α] (L:List α) (k:Nat):List α:=(L.set k (L.getD (k - 1) default)).set (k - 1) (L.getD k default)
section
variable {α:Type} [Inhabited α] {c:α -> α -> Int} {L M:List α} {i k:Nat}
def a0p:(swL L k).length = L.length:=by unfold swL;rw [b4h,b4h]
def gm (hk:0 < k) (hl:k < L.length) {j:Nat}:(swL L k).getD j default = if j = k - 1 then L.getD k default else if j = k then L.getD (k - 1) default else L.getD j default:=by
 unfold swL;by_cases h:j = k - 1
 · rw [if_pos h,h,f4 (by rw [b4h];omega)]
 rw [if_neg h,getD_set_ne' h];by_cases h2:j = k
 · rw [if_pos h2,h2,f4 hl]
 rw [if_neg h2,getD_set_ne' h2]
def zt {z:α}:z ∈ L <-> ∃ j,j < L.length /\ L.getD j default = z:=by
 constructor
 · intro h
   obtain ⟨j,hj,e⟩:=b35 h;exact ⟨j,hj,by rw [b9 _ _ hj,e]⟩
 rintro ⟨j,hj,rfl⟩;rw [b9 _ _ hj];exact b2q hj
def aqp (hk:0 < k) (hl:k < L.length) {z:α}:z ∈ swL L k <-> z ∈ L:=by
 rw [zt,zt,a0p];constructor
 · rintro ⟨j,hj,e⟩
   rw [gm hk hl] at e;split at e
   · exact ⟨k,hl,e⟩
   split at e
   · exact ⟨k - 1,by omega,e⟩
   exact ⟨j,hj,e⟩
 rintro ⟨j,hj,e⟩;by_cases h1:j = k
 · exact ⟨k - 1,by omega,by rw [gm hk hl,if_pos rfl,<- h1];exact e⟩
 by_cases h2:j = k - 1
 · exact ⟨k,hl,by rw [gm hk hl,if_neg b5h,if_pos rfl,<- h2];exact e⟩
 exact ⟨j,hj,by rw [gm hk hl,if_neg h2,if_neg h1];exact e⟩
def Dif (L:List α):Prop:=∀ a b,a < b -> b < L.length -> L.getD a default ≠ L.getD b default
def ai2:L.Nodup -> Dif L:=fun h a b hab hb e=>by
 rw [b9 _ _ b5h,b9 _ _ hb] at e;exact (b4b.1 h a b b5h hb hab) e
def aps (hk:0 < k) (hl:k < L.length) (h:Dif L):Dif (swL L k):=fun a b hab hb e=>by
 rw [a0p] at hb
 have h':∀ a b,a < L.length -> b < L.length -> a ≠ b -> L.getD a default ≠ L.getD b default:=fun a b ha hb hne e=>by
  rcases Nat.lt_or_gt_of_ne hne with h1 | h1
  · exact h a b h1 hb e
  exact h b a h1 ha e.symm
 rw [gm hk hl,gm hk hl] at e;split at e <;> split at e <;> (try split at e) <;> (try split at e) <;> first | omega | exact h' _ _ b5h b5h b5h e
structure ze (c:α -> α -> Int) (L0:List α) (i k:Nat) (L:List α):Prop where
 len:L.length = L0.length
 mem:∀ z,z ∈ L <-> z ∈ L0
 dif:Dif L
 ki:k <= i
 il:i < L0.length
 ord:∀ a b,a < b -> b <= i -> a ≠ k -> b ≠ k -> c (L.getD a default) (L.getD b default) < 0
 low:∀ b,k < b -> b <= i -> c (L.getD k default) (L.getD b default) < 0
structure tu (c:α -> α -> Int) (L0:List α) (i:Nat) (L:List α):Prop where
 len:L.length = L0.length
 mem:∀ z,z ∈ L <-> z ∈ L0
 dif:Dif L
 ile:i <= L0.length
 ord:∀ a b,a < b -> b < i -> c (L.getD a default) (L.getD b default) < 0
variable {L0:List α}
def tu.start (h:L0.Nodup):tu c L0 0 L0:=⟨rfl,fun _=>Iff.rfl,ai2 h,b2n _,fun a b _ hb=>absurd hb (b2o b)⟩
def tu.into (h:tu c L0 i L) (hi:i < L.length):ze c L0 i i L :=
 ⟨h.len,h.mem,h.dif,b2j _,by rw [<- h.len];exact hi,fun a b h1 h2 h3 h4=>h.ord a b h1 b5h,fun b h1 h2=>by omega⟩
def ze.step (hc:Tot c) (h:ze c L0 i k L) (hk:0 < k) (hlt:c (L.getD k default) (L.getD (k - 1) default) < 0):ze c L0 i (k - 1) (swL L k):=by
 have hl:k < L.length:=by rw [h.len];have:=h.ki;have:=h.il;omega
 refine ⟨a0p.trans h.len,fun z=>(aqp hk hl).trans (h.mem z),aps hk hl h.dif,by have:=h.ki;omega,h.il,fun a b h1 h2 h3 h4=>?_,fun b h1 h2=>?_⟩
 · rw [gm hk hl,gm hk hl,if_neg h3,if_neg h4]
   by_cases ea:a = k
   · rw [if_pos ea,if_neg b5h]
     exact h.ord (k - 1) b b5h h2 b5h b5h
   rw [if_neg ea];by_cases eb:b = k
   · rw [if_pos eb]
     exact h.ord a (k - 1) b5h b5h ea b5h
   rw [if_neg eb];exact h.ord a b h1 h2 ea eb
 rw [gm hk hl,gm hk hl,if_pos rfl,if_neg b5h];by_cases eb:b = k
 · rw [if_pos eb]
   exact hlt
 rw [if_neg eb];exact h.low b b5h h2
def ze.done (hc:Tot c) (h:ze c L0 i k L) (hx:k = 0 \/ ¬ c (L.getD k default) (L.getD (k - 1) default) < 0):tu c L0 (i + 1) L:=by
 refine ⟨h.len,h.mem,h.dif,h.il,fun a b h1 h2=>?_⟩;have hki:=h.ki;have hil:=h.il;have hlen:=h.len;by_cases ea:a = k
 · subst ea
   exact h.low b h1 b5h
 by_cases eb:b = k
 · subst eb
   have hb0:0 < b:=by omega
   have hno:¬ c (L.getD b default) (L.getD (b - 1) default) < 0:=by
    rcases hx with hx | hx
    · omega
    exact hx
   have hne:L.getD (b - 1) default ≠ L.getD b default:=h.dif (b - 1) b b5h b5h
   have h3:c (L.getD (b - 1) default) (L.getD b default) < 0:=by
    rcases hc.tri hne with h4 | h4
    · exact h4
    exact absurd h4 hno
   by_cases e2:a = b - 1
   · rw [e2];exact h3
   exact hc.tr _ _ _ (h.ord a (b - 1) b5h b5h ea b5h) h3
 exact h.ord a b h1 b5h ea eb
def tu.fin (h:tu c L0 i L) (hi:¬ i < L.length):Asc c L:=by
 refine b4b.2 fun a b ha hb hab=>?_;have:=h.ord a b hab b5h;rw [b9 _ _ ha,b9 _ _ hb] at this;exact this
end
def mkR (L:List (List Val)):List Row:=L.map fun w=>⟨0,w⟩
def idR (L:List (List Val)) (i:Nat):List Row:=(List.range L.length).map fun (j:Nat)=>⟨if j < i then (j:Int) + 1 else 0,L.getD j default⟩
section
variable {L:List (List Val)}
def jz:(mkR L).length = L.length:=b3v _
def pe {i:Nat} (hi:i < L.length):(mkR L).getD i default = ⟨0,L.getD i default⟩:=by unfold mkR;simp [List.getD,hi]
def a0d {i:Nat}:(idR L i).length = L.length:=by simp [idR]
def a11 {i j:Nat} (hj:j < L.length):(idR L i).getD j default = ⟨if j < i then (j:Int) + 1 else 0,L.getD j default⟩:=by unfold idR;simp [List.getD,hj]
def ad0:idR L 0 = mkR L:=by
 refine gh (by rw [a0d,jz]) fun j hj=>?_;rw [a0d] at hj;rw [a11 hj,pe hj,if_neg b5h]
def asi:idR L L.length = cw L:=by
 refine gh (by rw [a0d,i9]) fun j hj=>?_;rw [a0d] at hj;rw [a11 hj,if_pos hj];unfold cw;simp [List.getD,hj]
def afj {w:List Val}:mkR (L ++ [w]) = mkR L ++ [⟨0,w⟩]:=by simp [mkR]
def asj {w:List Val}:a5e (mkR L) w = L.contains w:=by
 unfold a5e mkR;rw [Bool.eq_iff_iff,b3g,List.contains_iff_mem];constructor
 · rintro ⟨r,hr,e⟩
   obtain ⟨x,hx,rfl⟩:=b37.1 hr;rw [<- of_decide_eq_true e];exact hx
 intro h;exact ⟨_,b37.2 ⟨w,h,rfl⟩,decide_eq_true rfl⟩
end
end
section
section
variable {t:Tbl} {ps:List AS} {a n:Nat}
section
variable {acc:List (List Val)} {w:List Val}
def alz:(qr t ps a acc w).length <= acc.length + 1:=by
 unfold qr;split
 · rw [b2v,b3q];exact b2j _
 omega
variable {l:List Val}
def xo:∀ {k:Nat},k <= t.rows.length -> (ce t ps a l acc k).length <= acc.length + k
 | 0,_=>by rw [ji];exact b2j _
 | k + 1,hk=>by
  rw [jl hk];have h1:=xo (k:=k) b5h;have h2:=alz (t:=t) (ps:=ps) (a:=a) (acc:=ce t ps a l acc k) (w:=l.set a ((t.rows.getD k default).vals.getD a default));omega
variable {L:List (List Val)}
def y6 (h6:t.rows.length <= 6):∀ {i:Nat},i <= L.length -> (bj t ps a L i).length <= 6 * i
 | 0,_=>by unfold bj;simp
 | i + 1,hi=>by
  rw [nj hi];have h1:=y6 h6 (i:=i) b5h;have h2:=xo (t:=t) (ps:=ps) (a:=a) (l:=L.getD i default) (acc:=bj t ps a L i) (k:=t.rows.length) (b2j _);omega
def ahr (h6:t.rows.length <= 6):∀ {a:Nat},(a8 t ps n a).length <= 6 ^ a
 | 0=>by unfold a8;split <;> simp
 | a + 1=>by
  show (bj t ps a (a8 t ps n a) (a8 t ps n a).length).length <= _;have h1:=y6 (ps:=ps) (a:=a) h6 (L:=a8 t ps n a) (b2j _);have h2:(a8 t ps n a).length <= 6 ^ a:=ahr h6;rw [Nat.pow_succ];omega
def a0f (h6:t.rows.length <= 6) (ha:a <= 8):(a8 t ps n a).length <= 1679616:=by
 have h1:(a8 t ps n a).length <= 6 ^ a:=ahr h6;have h2:(6:Nat) ^ a <= 6 ^ 8:=Nat.pow_le_pow_right b5h ha;omega
def WOk (n:Nat) (w:List Val):Prop:=w.length = n /\ l7 w
theorem WOk.set {v:Val} (h:WOk n w) (hv:v.ok):WOk n (w.set a v):=⟨by rw [b4h];exact h.1,od.2 fun x hx=>by
 rcases List.mem_or_eq_of_mem_set hx with h1 | h1
 · exact od.1 h.2 x h1
 rw [h1];exact hv⟩
def a0o (ht:t.ok) (hw:∀ r ∈ t.rows,r.vals.length = n) (ha:a < n) {r:Row} (hr:r ∈ t.rows):(r.vals.getD a default).ok:=by
 obtain ⟨i,hi,rfl⟩:=s8 hr;exact (ht.2.2 i hi).2 a (by rw [hw _ hr];exact ha)
variable {P:List Val -> Prop}
def aqe (h:∀ x ∈ acc,P x) (hw:P w):∀ x ∈ qr t ps a acc w,P x:=fun x hx=>by
 unfold qr at hx;split at hx
 · rcases b2z.1 hx with h1 | h1
   · exact h x h1
   rw [b2u.1 h1];exact hw
 exact h x hx
def a5g (h:∀ x ∈ acc,P x) (hl:∀ r ∈ t.rows,P (l.set a (r.vals.getD a default))):∀ {k:Nat},k <= t.rows.length -> ∀ x ∈ ce t ps a l acc k,P x
 | 0,_=>by rw [ji];exact h
 | k + 1,hk=>by
  rw [jl hk];exact aqe (a5g h hl b5h) (hl _ (by rw [b9 _ _ hk];exact b2q hk))
def a5n (hl:∀ l ∈ L,∀ r ∈ t.rows,P (l.set a (r.vals.getD a default))):∀ {i:Nat},i <= L.length -> ∀ x ∈ bj t ps a L i,P x
 | 0,_=>by unfold bj;intro x hx;cases hx
 | i + 1,hi=>by
  rw [nj hi];exact a5g (a5n hl b5h) (hl _ (by rw [b9 _ _ hi];exact b2q hi)) (b2j _)
def a4z (ht:t.ok) (hw:∀ r ∈ t.rows,r.vals.length = n):∀ {a:Nat},a <= n -> ∀ x ∈ a8 t ps n a,WOk n x
 | 0,_=>by
  intro x hx;unfold a8 at hx;split at hx
  · cases hx
  rw [b2u.1 hx];refine ⟨b4z,od.2 fun v hv=>?_⟩;rw [List.eq_of_mem_replicate hv];exact b2n _
 | a + 1,ha=>by
  show ∀ x ∈ bj t ps a (a8 t ps n a) (a8 t ps n a).length,WOk n x;exact a5n (fun l hl r hr=>(a4z ht hw b5h l hl).set (a0o ht hw b5h hr)) (b2j _)
def atf (hn:n <= 16) (h:∀ x ∈ L,WOk n x):qe (mkR L):=fun j hj=>by
 rw [jz] at hj;rw [pe hj];have:=h (L.getD j default) (by rw [b9 _ _ hj];exact b2q hj);exact ⟨by show (L.getD j default).length <= _;rw [this.1];omega,this.2⟩
def okQ (t:Tbl) (ps:List AS) (a:Nat) (acc:List (List Val)) (w:List Val) (p:Nat):Bool:=!acc.contains w && (ps.take p).all fun s=>ly t s ⟨0,w⟩ ((a:Int) + 1)
def akz:okQ t ps a acc w 0 = !a5e (mkR acc) w:=by
 unfold okQ;rw [asj];simp
def anb {p:Nat} (hp:p < ps.length) (h:okQ t ps a acc w p = true):okQ t ps a acc w (p + 1) = ly t (ps.getD p default) ⟨0,w⟩ ((a:Int) + 1):=by
 unfold okQ at *;rw [b2p] at h;rw [bf hp,List.all_append,h.1,h.2];simp
def af4 {p:Nat} (hp:p <= ps.length) (h:¬ (p < ps.length /\ okQ t ps a acc w p = true)):okQ t ps a acc w p = okW t ps a acc w:=by
 by_cases h1:p < ps.length
 · have h2:okQ t ps a acc w p = false:=by
    cases e:okQ t ps a acc w p with
    | false=>rfl
    | true=>exact absurd ⟨h1,e⟩ h
   rw [h2];symm;unfold okQ at h2;unfold okW;rw [b4p] at h2 ⊢
   rcases h2 with h3 | h3
   · exact .inl h3
   right;rw [List.all_eq_false] at h3 ⊢;obtain ⟨x,hx,e⟩:=h3;exact ⟨x,b54 hx,e⟩
 obtain rfl:p = ps.length:=by omega
 unfold okQ okW;rw [b3w]
def aip (h:okW t ps a acc w = true):qr t ps a acc w = acc ++ [w]:=if_pos h
def ahu (h:okW t ps a acc w = false):qr t ps a acc w = acc:=if_neg (by simp [h])
def aql {v':List Val} {k k' d d' m:Nat} {cl:Bool} {f:Nat -> Nat -> PV} (hk:k < l.length) (hk':k' = k) (hd:d' = d) (hm:m = l.length):CoP (.sl (0 + m) 3 cl (da (d8 0 f (lf Val.c l)) k' 0 [lf Val.c v' d' 0,lf Val.c v' d' 1,lf Val.c v' d' 2])) (vals (l.set k (v'.getD d default))):=by
 subst hk' hd hm;refine CoP.sl (by rw [b4h,b30]) (.inl rfl) (fun h=>by cases h) fun i j hi hj=>CoP.of_eq ?_;show da (d8 0 f (lf Val.c l)) k' 0 [lf Val.c v' d' 0,lf Val.c v' d' 1,lf Val.c v' d' 2] i j = Val.c ((l.set k' (v'.getD d' default)).getD i default) j;rw [n7 hk];unfold da;by_cases h:i = k'
 · rw [if_pos ⟨h,by omega,by simpa using hj⟩,if_pos h]
   revert j;exact sw rfl rfl rfl
 rw [if_neg b5h,if_neg h];unfold d8;rw [if_neg b5h,b57];rfl
end
end
end
section
section
variable {t:Tbl} {ps:List AS}
def ak8 (hT:TOk t) (hv:lvE t.attrs.length ps = 0) (he:∀ r ∈ t.rows,∀ v ∈ r.vals,eu v):(a8 t ps t.attrs.length t.attrs.length).length = (mj t.rows ps t.attrs.length).length :=
 ape (s6 hv) he (fun r hr=>by obtain ⟨i,hi,rfl⟩:=s8 hr;exact hT.width hi) hT.na (j6 hv).2.2.2.2
def aj6 (hT:TOk t) (hv:lvE t.attrs.length ps = 0) (he:∀ r ∈ t.rows,∀ v ∈ r.vals,eu v) (h:1000 < (a8 t ps t.attrs.length t.attrs.length).length):cb t ps = T0 /\ db t ps = 3:=by
 have hl:=ak8 hT hv he;have e:db t ps = 3:=a6i (cr.2 hT) hv (by rw [a2a (s6 hv),b2y];omega);exact ⟨sh e b5n,e⟩
def aop (hT:TOk t) (hv:lvE t.attrs.length ps = 0) (he:∀ r ∈ t.rows,∀ v ∈ r.vals,eu v) (h:¬ 1000 < (a8 t ps t.attrs.length t.attrs.length).length) {S:List (List Val)} (hS:Asc br S) (hm:∀ w,w ∈ S <-> w ∈ a8 t ps t.attrs.length t.attrs.length):db t ps = 0 /\ cb t ps = ⟨t.name,t.attrs,cw S⟩:=by
 have hl:=ak8 hT hv he;have hj:gw t.rows ps t.attrs.length = mj t.rows ps t.attrs.length:=by rw [a2a (s6 hv),b44 b5h]
 have e:db t ps = 0:=a5k (cr.2 hT) hv (by rw [hj];omega);refine ⟨e, ?_⟩;rw [a0m e,hj,ap4 (s6 hv) he (fun r hr=>by obtain ⟨i,hi,rfl⟩:=s8 hr;exact hT.width hi) hT.na (j6 hv).2.2.2.2 hS hm]
end
section
variable {L:List (List Val)} {n:Nat}
def ahz {k k1 k2 m:Nat} {e:TypeId} {x0 x1 y0 y1:PV} (hk:0 < k) (hl:k < L.length) (h1:k1 = k) (h2:k2 = k - 1) (hm:m = n) (hx0:x0 = .raw (.int .i64 0)) (hx1:CoP x1 (vals (L.getD (k - 1) default))) (hy0:y0 = .raw (.int .i64 0)) (hy1:CoP y1 (vals (L.getD k default))) (hn:n = L.length):
 CoO (.arr true 2 e m (da (da (lf Row.c (mkR L)) k1 0 [x0,x1]) k2 0 [y0,y1])) (.arr true 2 e n (lf Row.c (mkR (swL L k)))):=by
 subst h1 h2 hm hx0 hy0 hn;refine ⟨fun h=>h,rfl,rfl,rfl,fun i j hi hj=>?_⟩;show CoP _ (Row.c ((mkR (swL L k1)).getD i default) j);rw [pe (by rw [a0p];exact hi),gm hk hl];unfold da;by_cases e1:i = k1 - 1
 · rw [if_pos ⟨e1,by omega,by simpa using hj⟩,if_pos e1]
   rcases (by omega:j = 0 \/ j = 1) with rfl | rfl
   · exact CoP.refl _
   exact hy1
 rw [if_neg b5h,if_neg e1];by_cases e2:i = k1
 · rw [if_pos ⟨e2,by omega,by simpa using hj⟩,if_pos e2]
   rcases (by omega:j = 0 \/ j = 1) with rfl | rfl
   · exact CoP.refl _
   exact hx1
 rw [if_neg b5h,if_neg e2];refine CoP.of_eq ?_;show Row.c ((mkR L).getD i default) j = _;rw [pe hi]
def l6 {k k1:Nat} (h:k1 = k) (hk:k < L.length):CoP (lf Row.c (mkR L) k1 (0 + 1 + 0)) (vals (L.getD k default)):=by
 subst h;show CoP (Row.c ((mkR L).getD k1 default) 1) _;rw [pe hk];exact CoP.refl _
def a09 {k k1:Nat} (h:k1 = k) (hk:k < L.length):lf Row.c (mkR L) k1 (0 + 0) = .raw (.int .i64 0):=by
 subst h;show Row.c ((mkR L).getD k1 default) 0 = _;rw [pe hk];rfl
def zq {t:Tbl} {ps:List AS} (hok:t.ok) (hw:∀ r ∈ t.rows,r.vals.length = n) (hm:∀ z,z ∈ L <-> z ∈ a8 t ps n n) {k:Nat} (hk:k < L.length):WOk n (L.getD k default) :=
 a4z hok hw (b2j _) _ ((hm _).1 (by rw [b9 _ _ hk];exact b2q hk))
def a7z {t:Tbl} {ps:List AS} (hn:n <= 16) (hok:t.ok) (hw:∀ r ∈ t.rows,r.vals.length = n) (hm:∀ z,z ∈ L <-> z ∈ a8 t ps n n):qe (cw L):=fun j hj=>by
 rw [i9] at hj;have h:=zq hok hw hm hj
 have e:(cw L).getD j default = ⟨(j:Int) + 1,L.getD j default⟩:=by
  unfold cw;simp [List.getD,hj]
 rw [e];exact ⟨by show (L.getD j default).length <= _;rw [h.1];omega,h.2⟩
def ail {i:Nat} {cl:Bool} (hn:n = L.length) (hi:i = L.length):CoP (.sl n 2 cl (lf Row.c (idR L i))) (rows (cw L)):=by
 subst hn hi;rw [asi];exact CoP.sl i9 (.inl rfl) (fun h=>by cases h) fun _ _ _ _=>CoP.refl _
def ai0 {i i1 m:Nat} {e:TypeId} {x:PV} (hi:i < L.length) (h1:i1 = i) (hm:m = n) (hn:n = L.length) (hx:x = .raw (.int .i64 ((i:Int) + 1))):
 CoO (.arr true 2 e m (da (lf Row.c (idR L i)) i1 0 [x])) (.arr true 2 e n (lf Row.c (idR L (i + 1)))):=by
 subst h1 hm hn hx;refine ⟨fun h=>h,rfl,rfl,rfl,fun a j ha hj=>CoP.of_eq ?_⟩;show _ = Row.c ((idR L (i1 + 1)).getD a default) j;rw [a11 ha];unfold da;by_cases e1:a = i1 /\ 0 <= j /\ j < 0 + [PV.raw (.int .i64 ((i1:Int) + 1))].length
 · rw [if_pos e1]
   obtain ⟨rfl,_,h3⟩:=e1;have h3:j < 0 + 1:=h3;obtain rfl:j = 0:=by omega
   rw [if_pos b5h];rfl
 rw [if_neg e1];show Row.c ((idR L i1).getD a default) j = _;rw [a11 ha];have hne:¬ (a = i1 /\ j = 0):=fun h=>e1 ⟨h.1,by omega,by rw [h.2];show 0 < 0 + 1;omega⟩
 rcases (by omega:j = 0 \/ j = 1) with rfl | rfl
 · have:a ≠ i1:=fun h=>hne ⟨h,rfl⟩
   show PV.raw (.int .i64 (if a < i1 then _ else _)) = PV.raw (.int .i64 (if a < i1 + 1 then _ else _));by_cases h5:a < i1
   · rw [if_pos h5,if_pos b5h]
   rw [if_neg h5,if_neg b5h]
 rfl
end
end
section
open Go.Proofs
def asz (t:Tbl) (l:List Row) (ha:t.attrs.length <= 68719476736) (hl:l.length <= 68719476736) (hr:qe l):ci b65 74 [t.pc.toH, .one (.p (rows l))] [] (.v (.agg [.p (.raw (.string t.name)), .p (ve t.attrs), .ref 100 l.length])) [(100, .arr true 2 112 l.length (lf Row.c l))] []:=by
 refine hfx (nt:=31) Tryz.func74 ?_;refine sx7 ?_;refine m9 0 ?_;refine m9 1 ?_;refine w_5 ?_;refine m9 2 ?_;refine w_2 ?_;refine r9 3 true ?_;refine qy ?_;refine m9 4 ?_;refine w_3 ?_;refine ct 4 1 rfl rfl rfl rfl rfl ?_;refine w_6 ?_;refine ep 4 2 100 true 2 112 (lf Row.c l) b5n rfl rfl (CoP.sl rfl (.inr rfl) (fun h=>h) (fun i j hi _=>absurd hi (b2o i))) (.inr rfl) rfl rfl ?_;refine c7 (ka 1 (ka 4 (ka 5 kn))) (kb 1 km) (fun i=>⟨[(6,some (vI i))],[(4,some (.box [.p (.raw (.string t.name)), .p (ve t.attrs), .ref 100 i])),(100,some (.arr true 2 112 i (lf Row.c l)))]⟩) l.length ⟨tt,⟨⟨_,rfl,⟨CoH.refl _,aem,CoH.refl _,trivial⟩⟩,uu⟩⟩ ?_;rintro i hi;refine w_8 ?_;refine hcd (fun h0=>?_) (fun h0=>?_)
 · refine dy ?_;refine qcx (wgx Tryz.func114) (c85 _ (hr i b5h).1) ?_;refine m9 5 ?_;refine r9 6 true ?_;refine w_9 ?_;refine lpz (i + 1) ⟨tt,⟨u9,⟨_,rfl,(li (fun h=>h) (lt2 (CoP.refl _) (CoP.refl _)))⟩,uu⟩⟩ ?_;show i + 1 <= _;omega
 obtain rfl:i = l.length:=by omega
 refine w_6 ?_;refine hrr ?_;exact ⟨_,_,rfl,(by (repeat' apply And.intro) <;> first | trivial | exact b2k rfl),CoR.refl _,uu⟩
end
end Go.Hx
